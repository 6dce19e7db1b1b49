/- GpCE, GpGA, cut to what is needed. -/
import Derived.Test.YtiahmfdabpafoaaDoorGab8
import Derived.Test.YtiahmfdabpafoaaDoorGad0
open Nat renaming reduceAdd→zA,reduceMul→zM,reduceSub→zS,reduceEqDiff→zE,reduceLeDiff→zL
set_option linter.unusedSimpArgs false
set_option linter.unusedVariables false
set_option maxRecDepth 100000
namespace Go.Lg
open Go.Proofs
section
variable{P:Program}{o:Oper}{st:St}{K:KV}{fo:Operand}{xs:Array Operand}{ts:Array TypeId}{f:FuncId}{args args':List AV}{zs:List Int}
theorem OpS.mkL{k:Nat}(hc:RunCall P f args [] (lenQ k))(he:Enters P f)(ho:o.op= .call ⟨.value fo,xs,ts⟩)(ha:callArgs st fo xs=some (f,args))(hf:args.all frozenA=true)
 (hk:∀(xs:List Int) id g H',look (st.h++H') id g=some ⟨g,1,cl (eI .i64) xs⟩→xs.length=k→st.h.length≤id→K (.c (.own id g 0 k none)) (st.h++H')):OpS P o st K:=
 OpS.mkQ hc he ho ha hf fun r H' ⟨xs,id,g,h1,h2,h3⟩=>by
  subst h1
  refine⟨rfl,hk xs (id+st.h.length) g _ ?_ h3 (by omega)⟩
  rw[look_shiftH h2]
  simp only[shiftB,shift_cl]
theorem OpS.mkF{Q:AV→Prop}(hc:RunCall P f args [] fun v _=>Q v)(he:Enters P f)(ho:o.op= .call ⟨.value fo,xs,ts⟩)(ha:callArgs st fo xs=some (f,args))(hf:args.all frozenA=true)
 (hk:∀v,Q v→tupOk v=true∧shiftA st.h.length v=v∧K v st.h):OpS P o st K:=by
 obtain⟨h1,h2⟩:=target_of ha
 refine OpS.call ho h1 he ?_
 rw[h2]
 refine(RunCall.frame hf hc fun r H' h=>(hk r h).1).weaker ?_
 rintro r H2 ⟨r',H',h3,rfl,rfl⟩
 exact⟨st.h,HLe.app _ _,by rw[(hk _ h3).2.1];exact(hk _ h3).2.2⟩
end
def GrdAt(H HI:Heap)(id g:Nat)(B:Int)(cid cg n2:Nat):Prop:=(∃zs:List Int,look HI cid cg=some ⟨cg,1,cl (eI .i64) zs⟩∧n2≤zs.length)∧RdAt HI id g B∧id<H.length∧H.length≤cid∧H.length≤HI.length∧∀k,k<H.length→k≠id→HI[k]? =H[k]?
theorem GrdAt.mono{H HI:Heap}{id g cid cg n2:Nat}{B B':Int}(h:GrdAt H HI id g B cid cg n2)(hb:B≤B'):GrdAt H HI id g B' cid cg n2:=by
 obtain⟨h1,h2,h3⟩:=h
 exact⟨h1,h2.mono hb,h3⟩
theorem GrdAt.pick{H HI H2:Heap}{id g cid cg n2:Nat}{B B':Int}(h:GrdAt H HI id g B cid cg n2)(hr:RdAt H2 id g B')(hf:Frm HI H2 [id]):GrdAt H H2 id g B' cid cg n2:=by
 obtain⟨⟨zs,h1,h2⟩,_,h3,h4,h5,h6⟩:=h
 refine⟨⟨zs,by rw[hf.look (by simp;omega)];exact h1,h2⟩,hr,h3,h4,by rw[hf.1];exact h5,fun k hk hne=> ?_⟩
 rw[hf.2 k (by simp;exact hne),h6 k hk hne]
theorem GrdAt.store{H HI:Heap}{id g cid cg n2:Nat}{B:Int}(h:GrdAt H HI id g B cid cg n2){zs:List Int}(hz:n2≤zs.length):GrdAt H (HI.set cid (some ⟨cg,1,cl (eI .i64) zs⟩)) id g B cid cg n2:=by
 obtain⟨⟨_,h1,_⟩,h2,h3,h4,h5,h6⟩:=h
 have hlt:cid<HI.length:=(List.getElem?_eq_some_iff.1 (look_some h1).1).1
 refine⟨⟨zs,look_set_eq' hlt,hz⟩,h2.same (by rw[List.getElem?_set_ne (by omega)]),h3,h4,by simpa using h5,fun k hk hne=> ?_⟩
 rw[List.getElem?_set_ne (by omega),h6 k hk hne]
theorem GrdAt.app{H HI X:Heap}{id g cid cg n2:Nat}{B:Int}(h:GrdAt H HI id g B cid cg n2):GrdAt H (HI++X) id g B cid cg n2:=by
 obtain⟨⟨zs,h1,h2⟩,h3,h4,h5,h6,h7⟩:=h
 refine⟨⟨zs,look_appL h1,h2⟩,h3.app,h4,h5,by rw[List.length_append];omega,fun k hk hne=> ?_⟩
 rw[List.getElem?_append_left (by omega),h7 k hk hne]
def solvedQ(n:Nat)(H:Heap)(id g:Nat)(B:Int):KV:=fun v H'=>∃cid cg,v= .c (.own cid cg 0 (n*n) none)∧GrdAt H H' id g (B+2) cid cg (n*n)
theorem l20Solved_run{n:Nat}(hn:n=2∨n=3∨n=4)(H:Heap)(id g:Nat)(B:Int)(hr:RdAt H id g B)(hB:B≤2^39):RunCall Tryd.prog 46 [.c (.ptr id g 0),int n] H (solvedQ n H id g B):=by
 have hlt:=hr.lt
 have hsq:4≤n*n∧n*n≤16:=by rcases hn with rfl|rfl|rfl<;>omega
 refine RunCall.cw (c:=_) Tryd.func46 rfl (n:=21) Tryd.ntmps46 (rs:=[.tmp 4]) rfl ?_
 simp only[List.length_cons,List.length_nil,zA,zS,List.replicate,List.cons_append,List.nil_append]
 simp(maxSteps:=999999)(disch:=omega)only[go_sem,zA,zM,zS,zE,zL]
 intro g1
 have hix:ldP (some ⟨g1,1,[.f (.int .i64 2), .f (.int .i64 12), .f (.int .i64 576)]⟩) (0+((n:Int) -2).toNat*1)=some (int (manyS n)):=by
  rcases hn with rfl|rfl|rfl<;>rfl
 simp(maxSteps:=999999)(disch:=omega)only[go_sem,zA,zM,zS,zE,zL,look_last,hix]
 have hm:=show manyS n=2∨manyS n=12∨manyS n=576 by rcases hn with rfl|rfl|rfl<;>simp[manyS]
 refine OpS.run (pick_run _ id g B 256 hr.app (by omega)) (⟨_,Tryd.func54,rfl,rfl⟩:Enters Tryd.prog 54) rfl rfl ?_
 rintro _ H2 ⟨⟨y1,rfl,y10,y11⟩,r2,f2⟩
 simp(maxSteps:=999999)(disch:=omega)only[go_sem,zA,zM,zS,zE,zL]
 refine OpS.run (pick_run _ id g (B+1) 3 r2 (by omega)) (⟨_,Tryd.func54,rfl,rfl⟩:Enters Tryd.prog 54) rfl rfl ?_
 rintro _ H3 ⟨⟨y2,rfl,y20,y21⟩,r3,f3⟩
 have y11:=y11 (by omega)
 have y21:=y21 (by omega)
 simp(maxSteps:=999999)(disch:=omega)only[go_sem,zA,zM,zS,zE,zL]
 obtain⟨number,hnum,hnl⟩:∃number:Nat,(y1*3+y2).tmod (manyS n:Int)=number∧number<manyS n:=by
  rw[tmod_nn (by omega)]
  have h1:=Int.emod_nonneg (y1*3+y2) (show(manyS n:Int)≠0 by omega)
  have h2:=Int.emod_lt_of_pos (y1*3+y2) (show(0:Int)<(manyS n:Int) by omega)
  exact⟨((y1*3+y2)%(manyS n:Int)).toNat,by omega,by omega⟩
 rw[hnum]
 refine OpS.mkL (SquareNumber_run hn number hnl) (⟨_,Tryd.func70,rfl,rfl⟩:Enters Tryd.prog 70) rfl rfl rfl ?_
 intro xs cid cg H4 hlk hl4 hc
 have l3:H3.length=H.length+1:=by rw[f3.1,f2.1,List.length_append];rfl
 simp(maxSteps:=999999)(disch:=omega)only[go_sem,zA,zM,zS,zE,zL]
 refine⟨_,HLe.refl _,cid,cg,rfl,⟨xs,hlk,by omega⟩,(r3.app (X:=H4)).mono (by omega),hlt,by simp at hc;omega,by simp;omega,fun k hk hne=> ?_⟩
 rw[List.getElem?_append_left (by omega),f3.2 k (by simp;exact hne),f2.2 k (by simp;exact hne),List.getElem?_append_left hk]
theorem frz_view{H:Heap}{id g off n:Nat}{lim:Option Nat}{zs:List Int}(h:look H id g=some ⟨g,1,cl (eI .i64) zs⟩)(hn:off+n≤zs.length):frzC H (.own id g off n lim)=some (.f (fints ((zs.drop off).take n))):=by
 have e:((cl (eI .i64) zs).drop off).take (n*1)=cl (eI .i64) ((zs.drop off).take n):=by
  have e1:(cl (eI .i64) zs).drop off=cl (eI .i64) (zs.drop off):=by
   have:=List.take_append_drop off zs
   conv=>lhs;rw[←this,cl_append]
   rw[List.drop_append_of_le_length (by rw[cl_length];simp;omega),List.drop_of_length_le (by rw[cl_length];simp;omega),List.nil_append]
  rw[e1,Nat.mul_one]
  have:=List.take_append_drop n (zs.drop off)
  conv=>lhs;rw[←this,cl_append]
  rw[List.take_append_of_le_length (by rw[cl_length];simp;omega),List.take_of_length_le (by rw[cl_length];simp;omega)]
 have hl:((zs.drop off).take n).length=n:=by simp;omega
 simp only[frzC,frz,h,e,frz_cl,Option.map_some]
 rw[show fints ((zs.drop off).take n)= .sl ((zs.drop off).take n).length (fl (eI .i64) ((zs.drop off).take n))from rfl,hl]
end Go.Lg

namespace Go.Lg
open Go.Proofs
attribute [-go_sem] appendM
inductive OwnL{α:Type}(E:α→List FV)(n:Nat)(H:Heap):CV→List α→Prop where
 |n:OwnL E n H (.f .nil) []
 |m:OwnL E n H .emp []
 |o (id g:Nat) (xs:List α) (h:look H id g=some ⟨g,n,cl E xs⟩):OwnL E n H (.own id g 0 xs.length none) xs
def idsC:CV→Nat→Prop
 | .own id _ _ _ _,k=>k=id
 |_,_=>False
section
variable{α:Type}{E:α→List FV}{n:Nat}{H H':Heap}{c:CV}{xs ys:List α}
theorem OwnL.same(h:OwnL E n H c xs)(hs:∀i,idsC c i→i<H.length→H'[i]? =H[i]?):OwnL E n H' c xs:=by
 cases h with
 |n=>exact .n
 |m=>exact .m
 |o id g xs h=>exact .o id g xs (by unfold look at*;rw[hs id rfl (List.getElem?_eq_some_iff.1 (look_some h).1).1];exact h)
theorem OwnL.lt(h:OwnL E n H c xs):∀i,idsC c i→i<H.length:=by
 cases h with
 |n=>exact fun i hi=>hi.elim
 |m=>exact fun i hi=>hi.elim
 |o id g xs h=>intro i hi;cases hi;exact(List.getElem?_eq_some_iff.1 (look_some h).1).1
theorem OwnL.app(h:OwnL E n H c xs):OwnL E n (H++H') c xs:=h.same fun i _ hl=>List.getElem?_append_left hl
theorem OwnL.snap[HSz E n](h:OwnL E n H c xs):snapD H (.c c)=some (rsl E xs):=by
 cases h with
 |n=>rfl
 |m=>rfl
 |o id g xs h=>
  have e:(cl E xs).take (xs.length*n)=cl E xs:=List.take_of_length_le (Nat.le_of_eq (cl_length xs))
  simp only[snapD,Lg.frzC,Lg.frz,h,List.drop_zero,e,frz_cl,Option.map_some]
theorem OwnL.frzC[HSz E n](h:OwnL E n H c xs):frzC H c=some (.f (fsl E xs)):=by
 have:=h.snap
 simp only[snapD,Option.map_eq_some_iff]at this
 obtain⟨y,h1,h2⟩:=this
 cases h2
 exact h1
theorem OwnL.len(P:Program)(h:OwnL E n H c xs){s:List AV}{t:TypeId}{ei:TI}(ht:sliceOf P t=some ei)(hs:ei.size=n):True:=trivial
end
theorem nzF_ints{k:IntKind}(xs:List Int):(fl (eI k) xs).map nzF=fl (eI k) xs:=by
 induction xs with
 |nil=>rfl
 |cons x xs ih=>
  show nzF _::(fl (eI k) xs).map nzF=_
  rw[ih];rfl
theorem nzF_rules(rs:List Rul):(fl eR rs).map nzF=fl eR rs:=by
 induction rs with
 |nil=>rfl
 |cons x xs ih=>
  show[nzF _,nzF _,nzF _]++(fl eR xs).map nzF=_
  rw[ih,fints,nzF_sl,nzF_ints];rfl
theorem frzS_cells{S:Nat→Bool}{H:Heap}{n:Nat}:∀(l:List FV),(l.map CV.f).mapM (frzS S H n)=some (l.map nzF)
 |[]=>rfl
 |x::l=>by
  rw[List.map_cons,List.mapM_cons,frzS_cells l]
  cases n<;>rfl
theorem OwnL.frzS{S:Nat→Bool}{H:Heap}{c:CV}{rs:List Rul}(h:OwnL eR 3 H c rs)(hs:∀i,idsC c i→S i=true)(m:Nat):frzS S H (m+1) c=some (fsl eR rs):=by
 cases h with
 |n=>rfl
 |m=>rfl
 |o id g xs h=>
  have e:(cl eR rs).take (rs.length*3)=cl eR rs:=List.take_of_length_le (Nat.le_of_eq (cl_length rs))
  simp only[Lg.frzS,hs id rfl,if_true,h,List.drop_zero,e]
  rw[show cl eR rs=(fl eR rs).map CV.f from rfl,frzS_cells,nzF_rules]
  rfl
theorem frzS_view{S:Nat→Bool}{H:Heap}{id g off n:Nat}{lim:Option Nat}{zs:List Int}(h:look H id g=some ⟨g,1,cl (eI .i64) zs⟩)(hs:S id=true)(hn:off+n≤zs.length)(m:Nat):Lg.frzS S H (m+1) (.own id g off n lim)=some (fints ((zs.drop off).take n)):=by
 have hv:=frz_view (lim:=lim) h hn
 have hl:((zs.drop off).take n).length=n:=by simp;omega
 simp only[frzC,frz,h,Option.map_map,Option.map_eq_some_iff]at hv
 obtain⟨l,h1,h2⟩:=hv
 simp only[Lg.frzS,hs,if_true,h]
 have e:((cl (eI .i64) zs).drop off).take (n*1)=cl (eI .i64) ((zs.drop off).take n):=by
  have e1:(cl (eI .i64) zs).drop off=cl (eI .i64) (zs.drop off):=by
   have:=List.take_append_drop off zs
   conv=>lhs;rw[←this,cl_append]
   rw[List.drop_append_of_le_length (by rw[cl_length];simp;omega),List.drop_of_length_le (by rw[cl_length];simp;omega),List.nil_append]
  rw[e1,Nat.mul_one]
  have:=List.take_append_drop n (zs.drop off)
  conv=>lhs;rw[←this,cl_append]
  rw[List.take_append_of_le_length (by rw[cl_length];simp;omega),List.take_of_length_le (by rw[cl_length];simp;omega)]
 rw[e,show cl (eI .i64) ((zs.drop off).take n)=(fl (eI .i64) ((zs.drop off).take n)).map CV.f from rfl,frzS_cells,nzF_ints,Option.map_some]
 rw[show fints ((zs.drop off).take n)= .sl ((zs.drop off).take n).length (fl (eI .i64) ((zs.drop off).take n))from rfl,hl]
theorem appendM_L{α:Type}{E:α→List FV}{n:Nat}[HSz E n]{P:Program}{H:Heap}{t:TypeId}{ei:TI}{K:KV}(ht:sliceOf P t=some ei)(hz:ei.zero.length=ei.size∧ei.size=n∧0<n∧ei.bytes≤64){c:CV}{xs:List α}(h:OwnL E n H c xs)(hx:xs.length≤2^40)
 {sid sg:Nat} {lim:Option Nat} {v:α} (hl:look H sid sg=some ⟨sg,n,(E v).map CV.f⟩)
 (hk:∀c' H',OwnL E n H' c' (xs++[v])→(∀k,k<H.length→¬idsC c k→H'[k]? =H[k]?)→(∀k,idsC c' k→idsC c k∨k=H.length)→H.length≤H'.length→(∀k,idsC c' k→k<H'.length)→K (.c c') H'):
 appendM P H t (.c c) (.c (.own sid sg 0 1 lim)) K:=by
 obtain⟨hz1,rfl,hz3,hz4⟩:=hz
 have hE:((E v).map CV.f).length=ei.size:=by rw[List.length_map];exact HSz.sz v
 have htk:(((E v).map CV.f).drop 0).take (1*ei.size)=(E v).map CV.f:=by rw[List.drop_zero,Nat.one_mul,List.take_of_length_le (by omega)]
 have e1:cl E [v]=(E v).map CV.f:=by simp[cl,fl]
 have hb:∀k:Nat,k≤2^40→(k+1)*ei.bytes≤140737488355328:=fun k hk=>by
  have:(k+1)*ei.bytes≤(k+1)*64:=Nat.mul_le_mul_left _ hz4
  omega
 have hel:elems H ei.size (.c (.own sid sg 0 1 lim))=some (1,(E v).map CV.f):=by
  simp only[elems,hl,htk,if_true]
 unfold appendM
 cases h with
 |n=>
  simp only[ht,hz1,if_true,hel]
  simp only[elems,appM,okP,newM]
  refine⟨⟨by omega,by have:=hb 0 (by omega);omega⟩,fun g'=> ?_⟩
  have:=OwnL.o (E:=E) (n:=ei.size) (H:=H++[some ⟨g',ei.size,(E v).map CV.f⟩]) H.length g' [v] (by rw[e1];exact look_last)
  exact hk _ _ this (fun k hk _=>List.getElem?_append_left hk) (fun k hk=> .inr hk) (by simp) (fun k hk=>by cases hk;simp)
 |m=>
  simp only[ht,hz1,if_true,hel]
  simp only[elems,appM,okP,newM]
  refine⟨⟨by omega,by have:=hb 0 (by omega);omega⟩,fun g'=> ?_⟩
  have:=OwnL.o (E:=E) (n:=ei.size) (H:=H++[some ⟨g',ei.size,(E v).map CV.f⟩]) H.length g' [v] (by rw[e1];exact look_last)
  exact hk _ _ this (fun k hk _=>List.getElem?_append_left hk) (fun k hk=> .inr hk) (by simp) (fun k hk=>by cases hk;simp)
 |o id g xs hl2=>
  have hlt:id<H.length:=(List.getElem?_eq_some_iff.1 (look_some hl2).1).1
  have hcl:(cl E xs).length=xs.length*ei.size:=cl_length xs
  have hel2:elems H ei.size (.c (.own id g 0 xs.length none))=some (xs.length,cl E xs):=by
   simp only[elems,hl2,List.drop_zero,if_true,List.take_of_length_le (Nat.le_of_eq hcl)]
  simp only[ht,hz1,if_true,hel,hel2]
  simp only[appM,hl2,hcl,if_true,okP]
  refine⟨⟨by first|trivial|omega,hz3,trivial,by omega,hb _ hx⟩,fun g'=> ?_⟩
  have:=OwnL.o (E:=E) (n:=ei.size) (H:=H.set id (some ⟨g',ei.size,cl E xs++(E v).map CV.f⟩)) id g' (xs++[v]) (by rw[cl_append,e1];exact look_set_eq' hlt)
  rw[List.length_append]at this
  exact hk _ _ this (fun k _ hk=>by rw[List.getElem?_set_ne (fun h=>hk h.symm)]) (fun k hk=> .inl hk) (by simp) (fun k hk=>by cases hk;simpa using hlt)
theorem appendM_LL{α:Type}{E:α→List FV}{n:Nat}[HSz E n]{P:Program}{H:Heap}{t:TypeId}{ei:TI}{K:KV}(ht:sliceOf P t=some ei)(hz:ei.zero.length=ei.size∧ei.size=n∧0<n∧ei.bytes≤64){c:CV}{xs ys:List α}(h:OwnL E n H c xs)(hx:xs.length≤2^40∧ys.length≤2^40)
 {src:AV} (hel:elems H n src=some (ys.length,cl E ys))
 (hk:∀c' H',OwnL E n H' c' (xs++ys)→(∀k,k<H.length→¬idsC c k→H'[k]? =H[k]?)→(∀k,idsC c' k→idsC c k∨k=H.length)→H.length≤H'.length→(∀k,idsC c' k→k<H'.length)→K (.c c') H'):
 appendM P H t (.c c) src K:=by
 obtain⟨hz1,rfl,hz3,hz4⟩:=hz
 have hb:∀k:Nat,k≤2^41→k*ei.bytes≤140737488355328:=fun k hk=>by
  have:k*ei.bytes≤k*64:=Nat.mul_le_mul_left _ hz4
  omega
 unfold appendM
 rcases Nat.eq_zero_or_pos ys.length with h0|h0
 · have:ys=[]:=List.eq_nil_of_length_eq_zero h0
   subst this
   rw[List.append_nil]at hk
   have hr:=hk c H h (fun _ _ _=>rfl) (fun k hk=> .inl hk) (Nat.le_refl _) h.lt
   cases h with
   |n=>simp only[ht,hz1,if_true,hel];simp only[elems,appM];exact hr
   |m=>simp only[ht,hz1,if_true,hel];simp only[elems,appM];exact hr
   |o id g xs hl2=>
    have hcl:(cl E xs).length=xs.length*ei.size:=cl_length xs
    have hel2:elems H ei.size (.c (.own id g 0 xs.length none))=some (xs.length,cl E xs):=by
     simp only[elems,hl2,List.drop_zero,if_true,List.take_of_length_le (Nat.le_of_eq hcl)]
    simp only[ht,hz1,if_true,hel,hel2]
    simp only[appM]
    exact hr
 cases h with
 |n=>
  simp only[ht,hz1,if_true,hel]
  simp only[elems,appM,okP,newM]
  rw[if_neg (by omega)]
  refine⟨⟨by omega,hb _ (by omega)⟩,fun g'=> ?_⟩
  have:=OwnL.o (E:=E) (n:=ei.size) (H:=H++[some ⟨g',ei.size,cl E ys⟩]) H.length g' ys look_last
  exact hk _ _ this (fun k hk _=>List.getElem?_append_left hk) (fun k hk=> .inr hk) (by simp) (fun k hk=>by cases hk;simp)
 |m=>
  simp only[ht,hz1,if_true,hel]
  simp only[elems,appM,okP,newM]
  rw[if_neg (by omega)]
  refine⟨⟨by omega,hb _ (by omega)⟩,fun g'=> ?_⟩
  have:=OwnL.o (E:=E) (n:=ei.size) (H:=H++[some ⟨g',ei.size,cl E ys⟩]) H.length g' ys look_last
  exact hk _ _ this (fun k hk _=>List.getElem?_append_left hk) (fun k hk=> .inr hk) (by simp) (fun k hk=>by cases hk;simp)
 |o id g xs hl2=>
  have hlt:id<H.length:=(List.getElem?_eq_some_iff.1 (look_some hl2).1).1
  have hcl:(cl E xs).length=xs.length*ei.size:=cl_length xs
  have hel2:elems H ei.size (.c (.own id g 0 xs.length none))=some (xs.length,cl E xs):=by
   simp only[elems,hl2,List.drop_zero,if_true,List.take_of_length_le (Nat.le_of_eq hcl)]
  simp only[ht,hz1,if_true,hel,hel2]
  simp only[appM,hl2,hcl,if_true,okP]
  rw[if_neg (by omega)]
  refine⟨⟨by first|trivial|omega,hz3,trivial,by omega,hb _ (by omega)⟩,fun g'=> ?_⟩
  have:=OwnL.o (E:=E) (n:=ei.size) (H:=H.set id (some ⟨g',ei.size,cl E xs++cl E ys⟩)) id g' (xs++ys) (by rw[cl_append];exact look_set_eq' hlt)
  rw[List.length_append]at this
  exact hk _ _ this (fun k _ hk=>by rw[List.getElem?_set_ne (fun h=>hk h.symm)]) (fun k hk=> .inl hk) (by simp) (fun k hk=>by cases hk;simpa using hlt)
theorem elems_f{α:Type}{E:α→List FV}{n:Nat}[HSz E n]{H:Heap}{ys:List α}:elems H n (.c (.f (fsl E ys)))=some (ys.length,cl E ys):=by
 have:(fl E ys).length=ys.length*n:=fl_length ys
 simp only[elems]
 first|rfl|simp[this,cl]
end Go.Lg
