/- GpCE, GpGA, GpDA, GpDB, cut to what is needed. -/
import Derived.Test.YtpdaalgdkdpihaaXac5
import Derived.Test.YtpdaalgdkdpihaaXac3
import Derived.Test.YtpdaalgdkdpihaaXac4
import Derived.Test.YtpdaalgdkdpihaaXab3
import Derived.Test.YtpdaalgdkdpihaaXab2
import Derived.Test.YtpdaalgdkdpihaaXab1
open Nat renaming reduceAdd→zA,reduceMul→zM,reduceSub→zS,reduceEqDiff→zE,reduceLeDiff→zL
set_option linter.unusedSimpArgs false
set_option linter.unusedVariables false
set_option maxRecDepth 100000
namespace Go.Lg
open Go.Proofs
section
variable{P:Program}{o:Oper}{st:St}{K:KV}{fo:Operand}{xs:Array Operand}{ts:Array TypeId}{f:FuncId}{args args':List AV}{zs:List Int}
theorem OpS.mkF{Q:AV→Prop}(hc:RunCall P f args [] fun v _=>Q v)(he:Enters P f)(ho:o.op= .call ⟨.value fo,xs,ts⟩)(ha:callArgs st fo xs=some (f,args))(hf:args.all frozenA=true)
 (hk:∀v,Q v→tupOk v=true∧shiftA st.h.length v=v∧K v st.h):OpS P o st K:=by
 obtain⟨h1,h2⟩:=target_of ha
 refine OpS.call ho h1 he ?_
 rw[h2]
 refine(RunCall.frame hf hc fun r H' h=>(hk r h).1).weaker ?_
 rintro r H2 ⟨r',H',h3,rfl,rfl⟩
 exact⟨st.h,HLe.app _ _,by rw[(hk _ h3).2.1];exact(hk _ h3).2.2⟩
end
def GrdAt(H HI:Heap)(id g:Nat)(B:Int)(cid cg n2:Nat):Prop:=(∃zs:List Int,look HI cid cg=some ⟨cg,1,cl (eI .i64) zs⟩∧n2≤zs.length)∧RdAt HI id g B∧id<H.length∧H.length≤cid∧H.length≤HI.length∧∀k,k<H.length→k≠id→HI[k]? =H[k]?
theorem GrdAt.mono{H HI:Heap}{id g cid cg n2:Nat}{B B':Int}(h:GrdAt H HI id g B cid cg n2)(hb:B≤B'):GrdAt H HI id g B' cid cg n2:=by
 obtain⟨h1,h2,h3⟩:=h
 exact⟨h1,h2.mono hb,h3⟩
theorem GrdAt.pick{H HI H2:Heap}{id g cid cg n2:Nat}{B B':Int}(h:GrdAt H HI id g B cid cg n2)(hr:RdAt H2 id g B')(hf:Frm HI H2 [id]):GrdAt H H2 id g B' cid cg n2:=by
 obtain⟨⟨zs,h1,h2⟩,_,h3,h4,h5,h6⟩:=h
 refine⟨⟨zs,by rw[hf.look (by simp;omega)];exact h1,h2⟩,hr,h3,h4,by rw[hf.1];exact h5,fun k hk hne=> ?_⟩
 rw[hf.2 k (by simp;exact hne),h6 k hk hne]
theorem GrdAt.store{H HI:Heap}{id g cid cg n2:Nat}{B:Int}(h:GrdAt H HI id g B cid cg n2){zs:List Int}(hz:n2≤zs.length):GrdAt H (HI.set cid (some ⟨cg,1,cl (eI .i64) zs⟩)) id g B cid cg n2:=by
 obtain⟨⟨_,h1,_⟩,h2,h3,h4,h5,h6⟩:=h
 have hlt:cid<HI.length:=(List.getElem?_eq_some_iff.1 (look_some h1).1).1
 refine⟨⟨zs,look_set_eq' hlt,hz⟩,h2.same (by rw[List.getElem?_set_ne (by omega)]),h3,h4,by simpa using h5,fun k hk hne=> ?_⟩
 rw[List.getElem?_set_ne (by omega),h6 k hk hne]
theorem GrdAt.app{H HI X:Heap}{id g cid cg n2:Nat}{B:Int}(h:GrdAt H HI id g B cid cg n2):GrdAt H (HI++X) id g B cid cg n2:=by
 obtain⟨⟨zs,h1,h2⟩,h3,h4,h5,h6,h7⟩:=h
 refine⟨⟨zs,look_appL h1,h2⟩,h3.app,h4,h5,by rw[List.length_append];omega,fun k hk hne=> ?_⟩
 rw[List.getElem?_append_left (by omega),h7 k hk hne]
theorem frz_view{H:Heap}{id g off n:Nat}{lim:Option Nat}{zs:List Int}(h:look H id g=some ⟨g,1,cl (eI .i64) zs⟩)(hn:off+n≤zs.length):frzC H (.own id g off n lim)=some (.f (fints ((zs.drop off).take n))):=by
 have e:((cl (eI .i64) zs).drop off).take (n*1)=cl (eI .i64) ((zs.drop off).take n):=by
  have e1:(cl (eI .i64) zs).drop off=cl (eI .i64) (zs.drop off):=by
   have:=List.take_append_drop off zs
   conv=>lhs;rw[←this,cl_append]
   rw[List.drop_append_of_le_length (by rw[cl_length];simp;omega),List.drop_of_length_le (by rw[cl_length];simp;omega),List.nil_append]
  rw[e1,Nat.mul_one]
  have:=List.take_append_drop n (zs.drop off)
  conv=>lhs;rw[←this,cl_append]
  rw[List.take_append_of_le_length (by rw[cl_length];simp;omega),List.take_of_length_le (by rw[cl_length];simp;omega)]
 have hl:((zs.drop off).take n).length=n:=by simp;omega
 simp only[frzC,frz,h,e,frz_cl,Option.map_some]
 rw[show fints ((zs.drop off).take n)= .sl ((zs.drop off).take n).length (fl (eI .i64) ((zs.drop off).take n))from rfl,hl]
end Go.Lg

namespace Go.Lg
open Go.Proofs
attribute [-go_sem] appendM
inductive OwnL{α:Type}(E:α→List FV)(n:Nat)(H:Heap):CV→List α→Prop where
 |n:OwnL E n H (.f .nil) []
 |m:OwnL E n H .emp []
 |o (id g:Nat) (xs:List α) (h:look H id g=some ⟨g,n,cl E xs⟩):OwnL E n H (.own id g 0 xs.length none) xs
def idsC:CV→Nat→Prop
 | .own id _ _ _ _,k=>k=id
 |_,_=>False
section
variable{α:Type}{E:α→List FV}{n:Nat}{H H':Heap}{c:CV}{xs ys:List α}
theorem OwnL.same(h:OwnL E n H c xs)(hs:∀i,idsC c i→i<H.length→H'[i]? =H[i]?):OwnL E n H' c xs:=by
 cases h with
 |n=>exact .n
 |m=>exact .m
 |o id g xs h=>exact .o id g xs (by unfold look at*;rw[hs id rfl (List.getElem?_eq_some_iff.1 (look_some h).1).1];exact h)
theorem OwnL.lt(h:OwnL E n H c xs):∀i,idsC c i→i<H.length:=by
 cases h with
 |n=>exact fun i hi=>hi.elim
 |m=>exact fun i hi=>hi.elim
 |o id g xs h=>intro i hi;cases hi;exact(List.getElem?_eq_some_iff.1 (look_some h).1).1
theorem OwnL.app(h:OwnL E n H c xs):OwnL E n (H++H') c xs:=h.same fun i _ hl=>List.getElem?_append_left hl
theorem OwnL.snap[HSz E n](h:OwnL E n H c xs):snapD H (.c c)=some (rsl E xs):=by
 cases h with
 |n=>rfl
 |m=>rfl
 |o id g xs h=>
  have e:(cl E xs).take (xs.length*n)=cl E xs:=List.take_of_length_le (Nat.le_of_eq (cl_length xs))
  simp only[snapD,Lg.frzC,Lg.frz,h,List.drop_zero,e,frz_cl,Option.map_some]
theorem OwnL.frzC[HSz E n](h:OwnL E n H c xs):frzC H c=some (.f (fsl E xs)):=by
 have:=h.snap
 simp only[snapD,Option.map_eq_some_iff]at this
 obtain⟨y,h1,h2⟩:=this
 cases h2
 exact h1
theorem OwnL.len(P:Program)(h:OwnL E n H c xs){s:List AV}{t:TypeId}{ei:TI}(ht:sliceOf P t=some ei)(hs:ei.size=n):True:=trivial
end
theorem nzF_ints{k:IntKind}(xs:List Int):(fl (eI k) xs).map nzF=fl (eI k) xs:=by
 induction xs with
 |nil=>rfl
 |cons x xs ih=>
  show nzF _::(fl (eI k) xs).map nzF=_
  rw[ih];rfl
theorem nzF_rules(rs:List Rul):(fl eR rs).map nzF=fl eR rs:=by
 induction rs with
 |nil=>rfl
 |cons x xs ih=>
  show[nzF _,nzF _,nzF _]++(fl eR xs).map nzF=_
  rw[ih,fints,nzF_sl,nzF_ints];rfl
theorem frzS_cells{S:Nat→Bool}{H:Heap}{n:Nat}:∀(l:List FV),(l.map CV.f).mapM (frzS S H n)=some (l.map nzF)
 |[]=>rfl
 |x::l=>by
  rw[List.map_cons,List.mapM_cons,frzS_cells l]
  cases n<;>rfl
theorem OwnL.frzS{S:Nat→Bool}{H:Heap}{c:CV}{rs:List Rul}(h:OwnL eR 3 H c rs)(hs:∀i,idsC c i→S i=true)(m:Nat):frzS S H (m+1) c=some (fsl eR rs):=by
 cases h with
 |n=>rfl
 |m=>rfl
 |o id g xs h=>
  have e:(cl eR rs).take (rs.length*3)=cl eR rs:=List.take_of_length_le (Nat.le_of_eq (cl_length rs))
  simp only[Lg.frzS,hs id rfl,if_true,h,List.drop_zero,e]
  rw[show cl eR rs=(fl eR rs).map CV.f from rfl,frzS_cells,nzF_rules]
  rfl
theorem frzS_view{S:Nat→Bool}{H:Heap}{id g off n:Nat}{lim:Option Nat}{zs:List Int}(h:look H id g=some ⟨g,1,cl (eI .i64) zs⟩)(hs:S id=true)(hn:off+n≤zs.length)(m:Nat):Lg.frzS S H (m+1) (.own id g off n lim)=some (fints ((zs.drop off).take n)):=by
 have hv:=frz_view (lim:=lim) h hn
 have hl:((zs.drop off).take n).length=n:=by simp;omega
 simp only[frzC,frz,h,Option.map_map,Option.map_eq_some_iff]at hv
 obtain⟨l,h1,h2⟩:=hv
 simp only[Lg.frzS,hs,if_true,h]
 have e:((cl (eI .i64) zs).drop off).take (n*1)=cl (eI .i64) ((zs.drop off).take n):=by
  have e1:(cl (eI .i64) zs).drop off=cl (eI .i64) (zs.drop off):=by
   have:=List.take_append_drop off zs
   conv=>lhs;rw[←this,cl_append]
   rw[List.drop_append_of_le_length (by rw[cl_length];simp;omega),List.drop_of_length_le (by rw[cl_length];simp;omega),List.nil_append]
  rw[e1,Nat.mul_one]
  have:=List.take_append_drop n (zs.drop off)
  conv=>lhs;rw[←this,cl_append]
  rw[List.take_append_of_le_length (by rw[cl_length];simp;omega),List.take_of_length_le (by rw[cl_length];simp;omega)]
 rw[e,show cl (eI .i64) ((zs.drop off).take n)=(fl (eI .i64) ((zs.drop off).take n)).map CV.f from rfl,frzS_cells,nzF_ints,Option.map_some]
 rw[show fints ((zs.drop off).take n)= .sl ((zs.drop off).take n).length (fl (eI .i64) ((zs.drop off).take n))from rfl,hl]
theorem appendM_L{α:Type}{E:α→List FV}{n:Nat}[HSz E n]{P:Program}{H:Heap}{t:TypeId}{ei:TI}{K:KV}(ht:sliceOf P t=some ei)(hz:ei.zero.length=ei.size∧ei.size=n∧0<n∧ei.bytes≤64){c:CV}{xs:List α}(h:OwnL E n H c xs)(hx:xs.length≤2^40)
 {sid sg:Nat} {lim:Option Nat} {v:α} (hl:look H sid sg=some ⟨sg,n,(E v).map CV.f⟩)
 (hk:∀c' H',OwnL E n H' c' (xs++[v])→(∀k,k<H.length→¬idsC c k→H'[k]? =H[k]?)→(∀k,idsC c' k→idsC c k∨k=H.length)→H.length≤H'.length→(∀k,idsC c' k→k<H'.length)→K (.c c') H'):
 appendM P H t (.c c) (.c (.own sid sg 0 1 lim)) K:=by
 obtain⟨hz1,rfl,hz3,hz4⟩:=hz
 have hE:((E v).map CV.f).length=ei.size:=by rw[List.length_map];exact HSz.sz v
 have htk:(((E v).map CV.f).drop 0).take (1*ei.size)=(E v).map CV.f:=by rw[List.drop_zero,Nat.one_mul,List.take_of_length_le (by omega)]
 have e1:cl E [v]=(E v).map CV.f:=by simp[cl,fl]
 have hb:∀k:Nat,k≤2^40→(k+1)*ei.bytes≤140737488355328:=fun k hk=>by
  have:(k+1)*ei.bytes≤(k+1)*64:=Nat.mul_le_mul_left _ hz4
  omega
 have hel:elems H ei.size (.c (.own sid sg 0 1 lim))=some (1,(E v).map CV.f):=by
  simp only[elems,hl,htk,if_true]
 unfold appendM
 cases h with
 |n=>
  simp only[ht,hz1,if_true,hel]
  simp only[elems,appM,okP,newM]
  refine⟨⟨by omega,by have:=hb 0 (by omega);omega⟩,fun g'=> ?_⟩
  have:=OwnL.o (E:=E) (n:=ei.size) (H:=H++[some ⟨g',ei.size,(E v).map CV.f⟩]) H.length g' [v] (by rw[e1];exact look_last)
  exact hk _ _ this (fun k hk _=>List.getElem?_append_left hk) (fun k hk=> .inr hk) (by simp) (fun k hk=>by cases hk;simp)
 |m=>
  simp only[ht,hz1,if_true,hel]
  simp only[elems,appM,okP,newM]
  refine⟨⟨by omega,by have:=hb 0 (by omega);omega⟩,fun g'=> ?_⟩
  have:=OwnL.o (E:=E) (n:=ei.size) (H:=H++[some ⟨g',ei.size,(E v).map CV.f⟩]) H.length g' [v] (by rw[e1];exact look_last)
  exact hk _ _ this (fun k hk _=>List.getElem?_append_left hk) (fun k hk=> .inr hk) (by simp) (fun k hk=>by cases hk;simp)
 |o id g xs hl2=>
  have hlt:id<H.length:=(List.getElem?_eq_some_iff.1 (look_some hl2).1).1
  have hcl:(cl E xs).length=xs.length*ei.size:=cl_length xs
  have hel2:elems H ei.size (.c (.own id g 0 xs.length none))=some (xs.length,cl E xs):=by
   simp only[elems,hl2,List.drop_zero,if_true,List.take_of_length_le (Nat.le_of_eq hcl)]
  simp only[ht,hz1,if_true,hel,hel2]
  simp only[appM,hl2,hcl,if_true,okP]
  refine⟨⟨by first|trivial|omega,hz3,trivial,by omega,hb _ hx⟩,fun g'=> ?_⟩
  have:=OwnL.o (E:=E) (n:=ei.size) (H:=H.set id (some ⟨g',ei.size,cl E xs++(E v).map CV.f⟩)) id g' (xs++[v]) (by rw[cl_append,e1];exact look_set_eq' hlt)
  rw[List.length_append]at this
  exact hk _ _ this (fun k _ hk=>by rw[List.getElem?_set_ne (fun h=>hk h.symm)]) (fun k hk=> .inl hk) (by simp) (fun k hk=>by cases hk;simpa using hlt)
theorem appendM_LL{α:Type}{E:α→List FV}{n:Nat}[HSz E n]{P:Program}{H:Heap}{t:TypeId}{ei:TI}{K:KV}(ht:sliceOf P t=some ei)(hz:ei.zero.length=ei.size∧ei.size=n∧0<n∧ei.bytes≤64){c:CV}{xs ys:List α}(h:OwnL E n H c xs)(hx:xs.length≤2^40∧ys.length≤2^40)
 {src:AV} (hel:elems H n src=some (ys.length,cl E ys))
 (hk:∀c' H',OwnL E n H' c' (xs++ys)→(∀k,k<H.length→¬idsC c k→H'[k]? =H[k]?)→(∀k,idsC c' k→idsC c k∨k=H.length)→H.length≤H'.length→(∀k,idsC c' k→k<H'.length)→K (.c c') H'):
 appendM P H t (.c c) src K:=by
 obtain⟨hz1,rfl,hz3,hz4⟩:=hz
 have hb:∀k:Nat,k≤2^41→k*ei.bytes≤140737488355328:=fun k hk=>by
  have:k*ei.bytes≤k*64:=Nat.mul_le_mul_left _ hz4
  omega
 unfold appendM
 rcases Nat.eq_zero_or_pos ys.length with h0|h0
 · have:ys=[]:=List.eq_nil_of_length_eq_zero h0
   subst this
   rw[List.append_nil]at hk
   have hr:=hk c H h (fun _ _ _=>rfl) (fun k hk=> .inl hk) (Nat.le_refl _) h.lt
   cases h with
   |n=>simp only[ht,hz1,if_true,hel];simp only[elems,appM];exact hr
   |m=>simp only[ht,hz1,if_true,hel];simp only[elems,appM];exact hr
   |o id g xs hl2=>
    have hcl:(cl E xs).length=xs.length*ei.size:=cl_length xs
    have hel2:elems H ei.size (.c (.own id g 0 xs.length none))=some (xs.length,cl E xs):=by
     simp only[elems,hl2,List.drop_zero,if_true,List.take_of_length_le (Nat.le_of_eq hcl)]
    simp only[ht,hz1,if_true,hel,hel2]
    simp only[appM]
    exact hr
 cases h with
 |n=>
  simp only[ht,hz1,if_true,hel]
  simp only[elems,appM,okP,newM]
  rw[if_neg (by omega)]
  refine⟨⟨by omega,hb _ (by omega)⟩,fun g'=> ?_⟩
  have:=OwnL.o (E:=E) (n:=ei.size) (H:=H++[some ⟨g',ei.size,cl E ys⟩]) H.length g' ys look_last
  exact hk _ _ this (fun k hk _=>List.getElem?_append_left hk) (fun k hk=> .inr hk) (by simp) (fun k hk=>by cases hk;simp)
 |m=>
  simp only[ht,hz1,if_true,hel]
  simp only[elems,appM,okP,newM]
  rw[if_neg (by omega)]
  refine⟨⟨by omega,hb _ (by omega)⟩,fun g'=> ?_⟩
  have:=OwnL.o (E:=E) (n:=ei.size) (H:=H++[some ⟨g',ei.size,cl E ys⟩]) H.length g' ys look_last
  exact hk _ _ this (fun k hk _=>List.getElem?_append_left hk) (fun k hk=> .inr hk) (by simp) (fun k hk=>by cases hk;simp)
 |o id g xs hl2=>
  have hlt:id<H.length:=(List.getElem?_eq_some_iff.1 (look_some hl2).1).1
  have hcl:(cl E xs).length=xs.length*ei.size:=cl_length xs
  have hel2:elems H ei.size (.c (.own id g 0 xs.length none))=some (xs.length,cl E xs):=by
   simp only[elems,hl2,List.drop_zero,if_true,List.take_of_length_le (Nat.le_of_eq hcl)]
  simp only[ht,hz1,if_true,hel,hel2]
  simp only[appM,hl2,hcl,if_true,okP]
  rw[if_neg (by omega)]
  refine⟨⟨by first|trivial|omega,hz3,trivial,by omega,hb _ (by omega)⟩,fun g'=> ?_⟩
  have:=OwnL.o (E:=E) (n:=ei.size) (H:=H.set id (some ⟨g',ei.size,cl E xs++cl E ys⟩)) id g' (xs++ys) (by rw[cl_append];exact look_set_eq' hlt)
  rw[List.length_append]at this
  exact hk _ _ this (fun k _ hk=>by rw[List.getElem?_set_ne (fun h=>hk h.symm)]) (fun k hk=> .inl hk) (by simp) (fun k hk=>by cases hk;simpa using hlt)
theorem elems_f{α:Type}{E:α→List FV}{n:Nat}[HSz E n]{H:Heap}{ys:List α}:elems H n (.c (.f (fsl E ys)))=some (ys.length,cl E ys):=by
 have:(fl E ys).length=ys.length*n:=fl_length ys
 simp only[elems]
 first|rfl|simp[this,cl]
theorem elems_L{α:Type}{E:α→List FV}{n:Nat}[HSz E n]{H:Heap}{c:CV}{ys:List α}(h:OwnL E n H c ys):elems H n (.c c)=some (ys.length,cl E ys):=by
 cases h with
 |n=>rfl
 |m=>rfl
 |o id g xs hl2=>
  have hcl:(cl E ys).length=ys.length*n:=cl_length ys
  simp only[elems,hl2,List.drop_zero,if_true,List.take_of_length_le (Nat.le_of_eq hcl)]
end Go.Lg

namespace Go.Lg
open Go.Proofs
def prodV(vs:List Int):Int:=vs.foldl (fun a v=>a*v) 1
def holdsV(r:Rul)(vs:List Int):Bool:=
 if r.kind=1 then decide vs.Nodup else if r.kind=2 then decide (vs.sum=r.val)else if r.kind=3 then decide (prodV vs=r.val)
 else if r.kind=4 then decide (nth vs 0<nth vs 1)else decide (max (nth vs 0 -nth vs 1) (nth vs 1 -nth vs 0)=r.val)
def orV(o:List Nat)(vs:List Int):List Nat:=o.zipWith (fun x v=>x|||2^v.toNat) vs
def ways(r:Rul):List Nat→List Int→List Nat→List Nat
 |[],pre,o=>if holdsV r pre=true then orV o pre else o
 |m::ms,pre,o=>[1,2,3,4].foldl (fun o (v:Nat)=>if m.testBit v=true then ways r ms (pre++[(v:Int)]) o else o) o
def maskAt(xs:List Int)(n:Nat)(c:Int):Nat:=if 0<nth xs c then 2^(nth xs c).toNat else 2^(n+1) -2
def canHold(r:Rul)(xs:List Int)(n:Nat):Bool:=(ways r (r.cells.map (maskAt xs n)) [] (List.replicate r.cells.length 0)).getD 0 0 !=0
def clear(p:Puz)(xs:List Int):Bool:=decide (∀k:Nat,k<xs.length→¬(0<nth p.given k∧0<nth xs k∧nth xs k≠nth p.given k))
def fitsL(p:Puz)(xs:List Int)(n:Nat):Bool:=clear p xs&&(p.rules.all (fun r=>canHold r xs n)&& !clash xs n)
def sols(p:Puz)(n:Nat):Nat→List Int→List (List Int)
 |0,xs=>[xs]
 |m+1,xs=>if 0<nth xs ((xs.length -(m+1):Nat):Int)then sols p n m xs else((List.range n).map (· +1)).flatMap fun(v:Nat)=>if fitsL p (xs.set (xs.length -(m+1)) (v:Int)) n=true then sols p n m (xs.set (xs.length -(m+1)) (v:Int))else[]
end Go.Lg

namespace Go.Lg
open Go.Proofs
theorem prodV_app(vs:List Int)(v:Int):prodV (vs++[v])=prodV vs*v:=by simp[prodV]
theorem prodV_bound:∀(n:Nat) (vs:List Int),vs.length≤n→(∀v∈vs,0≤v∧v≤4)→0≤prodV vs∧prodV vs≤4^n:=by
 intro n
 induction n with
 |zero=>intro vs h _;have:vs=[]:=List.eq_nil_of_length_eq_zero (by omega);subst this;simp[prodV]
 |succ n ih=>
  intro vs h hv
  rcases List.eq_nil_or_concat vs with rfl|⟨ws,w,rfl⟩
  · exact⟨by simp[prodV],by simp only[prodV,List.foldl_nil];have:(0:Int)<4^(n+1):=Int.pow_pos (by omega);omega⟩
  · obtain⟨h1,h2⟩:=ih ws (by simp at h;omega) fun v hm=>hv v (by simp[hm])
    have hw:=hv w (by simp)
    rw[List.concat_eq_append,prodV_app]
    refine⟨Int.mul_nonneg h1 hw.1, ?_⟩
    have:=Int.mul_le_mul h2 hw.2 hw.1 (by omega)
    rw[Int.pow_succ]
    exact this
theorem prodV_take{vs:List Int}(h:vs.length≤4)(hv:∀v∈vs,0≤v∧v≤4)(k:Nat):0≤prodV (vs.take k)∧prodV (vs.take k)≤256:=by
 have:=prodV_bound 4 (vs.take k) (by simp;omega) fun v hm=>hv v (List.mem_of_mem_take hm)
 omega
theorem sum_take{vs:List Int}(h:vs.length≤4)(hv:∀v∈vs,0≤v∧v≤4)(k:Nat):0≤(vs.take k).sum∧(vs.take k).sum≤16:=by
 have gen:∀(ws:List Int),(∀v∈ws,0≤v∧v≤4)→0≤ws.sum∧ws.sum≤4*ws.length:=by
  intro ws hw
  induction ws with
  |nil=>simp
  |cons w ws ih=>
   have h1:=ih fun v hm=>hw v (by simp[hm])
   have h2:=hw w (by simp)
   simp only[List.sum_cons,List.length_cons]
   push_cast
   omega
 have:=gen (vs.take k) fun v hm=>hv v (List.mem_of_mem_take hm)
 have:(vs.take k).length≤4:=by simp;omega
 omega
theorem nodup_take{vs:List Int}{k:Nat}(h:k<vs.length):(vs.take (k+1)).Nodup↔(vs.take k).Nodup∧∀i:Nat,i<k→nth vs i≠nth vs k:=by
 rw[take_succ_nth h,List.nodup_append]
 constructor
 · rintro⟨h1,_,h3⟩
   refine⟨h1,fun i hi=>h3 _ ?_ _ (by simp)⟩
   rw[nth_eq (by omega)]
   simp only[Int.toNat_natCast]
   exact List.mem_take_iff_getElem.2 ⟨i,by omega,rfl⟩
 · rintro⟨h1,h2⟩
   refine⟨h1,by simp,fun a ha b hb=> ?_⟩
   obtain⟨i,hi,rfl⟩:=List.mem_take_iff_getElem.1 ha
   have:=h2 i (by omega)
   rw[nth_eq (by omega)]at this
   simp only[Int.toNat_natCast]at this
   simp only[List.mem_singleton]at hb
   rw[hb]
   exact this
theorem l4Holds_run(r:Rul)(vs:List Int)(hl:vs.length≤4)(hv:∀v∈vs,0≤v∧v≤4)(hk:r.kind=1∨r.kind=2∨r.kind=3∨2≤vs.length):Reads Try.prog 127 [aR r,ints vs] (bool (holdsV r vs)):=by
 have hnv:∀k:Nat,k<vs.length→0≤nth vs k∧nth vs k≤4:=fun k hk=>hv _ (by rw[nth_eq (by omega)];exact List.getElem_mem _)
 have hpt:=prodV_take hl hv
 have hst:=sum_take hl hv
 refine RunCall.cw (c:=_) Try.func127 rfl (n:=86) Try.ntmps127 (rs:=[.tmp 4]) rfl ?_
 simp only[List.length_cons,List.length_nil,zA,zS,List.replicate,List.cons_append,List.nil_append]
 simp(maxSteps:=999999)(disch:=omega)only[go_sem,zA,zM,zS,zE,zL]
 intro g
 refine loop_rule (fun k:Nat=>vs.length -k) (fun k=>k≤vs.length) (fun k=>[.a, .k, .k, .a, .a, .p (int (vs.take k).sum), .p (int (prodV (vs.take k))), .p (bool (decide (vs.take k).Nodup)), .p (int k), .a, .a, .a, .a, .a, .a, .a, .a, .a, .a, .a, .a, .a, .a, .a, .a, .a, .a, .a, .a, .a, .a, .a, .a, .a, .a, .a, .a, .a, .a, .a, .a, .a, .a, .a, .a, .a, .a, .a, .a, .a, .a, .a, .a, .a, .a, .a, .a, .a, .a, .a, .a, .a, .a, .a, .a, .a, .a, .a, .a, .a, .a, .a, .a, .a, .a, .a, .a, .a, .a, .a, .a, .a, .a, .a, .a, .a]) (fun _=>[some ⟨g,1,cR r⟩]) 0 (Nat.zero_le _) (by simp(maxSteps:=999999)(disch:=omega)only[go_sem,zA,zM,zS,zE,zL];simp[prodV]) (HLe.refl _) ?_
 intro k hk'
 simp(maxSteps:=999999)(disch:=omega)only[go_sem,zA,zM,zS,zE,zL]
 ((first|(with_reducible first|refine condK_dec ?_ ?_|refine condK_ndec ?_ ?_|refine condK_nb ?_ ?_)|refine condK_b ?_ ?_)<;>intro h1)
 · have h1:k<vs.length:=by omega
   have e1:(vs.take (k+1)).sum=(vs.take k).sum+nth vs k:=by rw[take_succ_nth h1];simp
   have e2:prodV (vs.take (k+1))=prodV (vs.take k)*nth vs k:=by rw[take_succ_nth h1,prodV_app]
   have b1:=hst (k+1)
   have b2:=hpt (k+1)
   rw[e1]at b1
   rw[e2]at b2
   simp(maxSteps:=999999)(disch:=omega)only[go_sem,zA,zM,zS,zE,zL]
   refine loop_rule (fun j:Nat=>k -j) (fun j=>j≤k) (fun j=>[.a, .k, .k, .a, .a, .k, .k, .p (bool (decide ((vs.take k).Nodup∧∀i:Nat,i<j→nth vs i≠nth vs k))), .k, .p (int j), .a, .a, .a, .a, .a, .a, .a, .a, .a, .a, .a, .a, .a, .a, .a, .a, .a, .a, .a, .a, .a, .a, .a, .a, .a, .a, .a, .a, .a, .a, .a, .a, .a, .a, .a, .a, .a, .a, .a, .a, .a, .a, .a, .a, .a, .a, .a, .a, .a, .a, .a, .a, .a, .a, .a, .a, .a, .a, .a, .a, .a, .a, .a, .a, .a, .a, .a, .a, .a, .a, .a, .a, .a, .a, .a, .a]) (fun _=>[some ⟨g,1,cR r⟩]) 0 (Nat.zero_le _) (by simp(maxSteps:=999999)(disch:=omega)only[go_sem,zA,zM,zS,zE,zL];exact⟨by simp,rfl⟩) (HLe.refl _) ?_
   intro j hj
   have hd:((vs.take k).Nodup∧∀i:Nat,i<j+1→nth vs i≠nth vs k)↔((vs.take k).Nodup∧∀i:Nat,i<j→nth vs i≠nth vs k)∧nth vs j≠nth vs k:=by
    constructor
    · rintro⟨a,b⟩
      exact⟨⟨a,fun i hi=>b i (by omega)⟩,b j (by omega)⟩
    · rintro⟨⟨a,b⟩,c⟩
      refine⟨a,fun i hi=> ?_⟩
      by_cases hij:i=j
      · rw[hij];exact c
      · exact b i (by omega)
   generalize hb:decide ((vs.take k).Nodup∧∀i:Nat,i<j→nth vs i≠nth vs k)=b
   cases b with
   |false=>
    simp(maxSteps:=999999)(disch:=omega)only[go_sem,zA,zM,zS,zE,zL]
    ((first|(with_reducible first|refine condK_dec ?_ ?_|refine condK_ndec ?_ ?_|refine condK_nb ?_ ?_)|refine condK_b ?_ ?_)<;>intro h2)
    · have h2:j<k:=by omega
      simp(maxSteps:=999999)(disch:=omega)only[go_sem,zA,zM,zS,zE,zL]
      refine drawP_q foll (by kernel_rfl) ?_
      simp(maxSteps:=999999)(disch:=omega)only[go_sem,Nat.reduceBEq,Bool.true_or,zA,zM,zS,zE,zL]
      refine⟨j+1,⟨by omega,by omega⟩,⟨?_,by push_cast;omega⟩,HLe.refl _⟩
      rw[eq_comm,decide_eq_false_iff_not,hd]
      exact fun h=>(decide_eq_false_iff_not.1 hb) h.1
    · have hjk:j=k:=by omega
      simp(maxSteps:=999999)(disch:=omega)only[go_sem,zA,zM,zS,zE,zL]
      refine⟨k+1,⟨by omega,by omega⟩,⟨e1.symm,e2.symm, ?_,by push_cast;omega⟩,HLe.refl _⟩
      rw[eq_comm,decide_eq_false_iff_not,nodup_take h1,←hjk]
      rw[hjk]at hb⊢
      exact decide_eq_false_iff_not.1 hb
   |true=>
    simp(maxSteps:=999999)(disch:=omega)only[go_sem,zA,zM,zS,zE,zL]
    ((first|(with_reducible first|refine condK_dec ?_ ?_|refine condK_ndec ?_ ?_|refine condK_nb ?_ ?_)|refine condK_b ?_ ?_)<;>intro h2)
    · have h2:j<k:=by omega
      have hjl:j<vs.length:=by omega
      simp(maxSteps:=999999)(disch:=omega)only[go_sem,zA,zM,zS,zE,zL]
      refine drawP_q foll (by kernel_rfl) ?_
      simp(maxSteps:=999999)(disch:=omega)only[go_sem,Nat.reduceBEq,Bool.true_or,zA,zM,zS,zE,zL]
      refine⟨j+1,⟨by omega,by omega⟩,⟨?_,by push_cast;omega⟩,HLe.refl _⟩
      have hb':=of_decide_eq_true hb
      by_cases he:nth vs (j:Int)=nth vs (k:Int)
      · rw[decide_eq_true he,eq_comm,Bool.not_true,decide_eq_false_iff_not,hd]
        exact fun h=>h.2 he
      · rw[decide_eq_false he,eq_comm,Bool.not_false,decide_eq_true_eq,hd]
        exact⟨hb',he⟩
    · have hjk:j=k:=by omega
      simp(maxSteps:=999999)(disch:=omega)only[go_sem,zA,zM,zS,zE,zL]
      refine⟨k+1,⟨by omega,by omega⟩,⟨e1.symm,e2.symm, ?_,by push_cast;omega⟩,HLe.refl _⟩
      rw[eq_comm,decide_eq_true_eq,nodup_take h1]
      rw[hjk]at hb
      exact of_decide_eq_true hb
 · simp(maxSteps:=999999)(disch:=omega)only[go_sem,zA,zM,zS,zE,zL]
   rw[List.take_of_length_le (by omega)]
   have hkl:vs.take k=vs:=List.take_of_length_le (by omega)
   ((first|(with_reducible first|refine condK_dec ?_ ?_|refine condK_ndec ?_ ?_|refine condK_nb ?_ ?_)|refine condK_b ?_ ?_)<;>intro d1)
   · simp(maxSteps:=999999)(disch:=omega)only[go_sem,zA,zM,zS,zE,zL]
     unfold holdsV
     rw[if_pos d1]
   simp(maxSteps:=999999)(disch:=omega)only[go_sem,zA,zM,zS,zE,zL]
   ((first|(with_reducible first|refine condK_dec ?_ ?_|refine condK_ndec ?_ ?_|refine condK_nb ?_ ?_)|refine condK_b ?_ ?_)<;>intro d2)
   · simp(maxSteps:=999999)(disch:=omega)only[go_sem,zA,zM,zS,zE,zL]
     unfold holdsV
     rw[if_neg d1,if_pos d2]
   simp(maxSteps:=999999)(disch:=omega)only[go_sem,zA,zM,zS,zE,zL]
   ((first|(with_reducible first|refine condK_dec ?_ ?_|refine condK_ndec ?_ ?_|refine condK_nb ?_ ?_)|refine condK_b ?_ ?_)<;>intro d3)
   · simp(maxSteps:=999999)(disch:=omega)only[go_sem,zA,zM,zS,zE,zL]
     unfold holdsV
     rw[if_neg d1,if_neg d2,if_pos d3]
   have hl2:2≤vs.length:=by omega
   simp(maxSteps:=999999)(disch:=omega)only[go_sem,zA,zM,zS,zE,zL]
   have v0:0≤nth vs (0:Int)∧nth vs (0:Int)≤4:=hnv 0 (by omega)
   have v1:0≤nth vs (1:Int)∧nth vs (1:Int)≤4:=hnv 1 (by omega)
   ((first|(with_reducible first|refine condK_dec ?_ ?_|refine condK_ndec ?_ ?_|refine condK_nb ?_ ?_)|refine condK_b ?_ ?_)<;>intro d4)
   · simp(maxSteps:=999999)(disch:=omega)only[go_sem,zA,zM,zS,zE,zL]
     refine drawP_q foll (by kernel_rfl) ?_
     simp(maxSteps:=999999)(disch:=omega)only[go_sem,Nat.reduceBEq,Bool.true_or,zA,zM,zS,zE,zL]
     unfold holdsV
     rw[if_neg d1,if_neg d2,if_neg d3,if_pos d4]
   · simp(maxSteps:=999999)(disch:=omega)only[go_sem,zA,zM,zS,zE,zL]
     refine drawP_q foll (by kernel_rfl) ?_
     simp(maxSteps:=999999)(disch:=omega)only[go_sem,Nat.reduceBEq,Bool.true_or,zA,zM,zS,zE,zL]
     unfold holdsV
     rw[if_neg d1,if_neg d2,if_neg d3,if_neg d4,show(0:Int) -(nth vs 0 -nth vs 1)=nth vs 1 -nth vs 0 by omega]
end Go.Lg
