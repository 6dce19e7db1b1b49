/- GpGA, GpDA, GpDB, GpOE, cut to what is needed. -/
import Derived.Test.YtiahmfdabpafoaaGreatDoorKab8
import Derived.Test.YtiahmfdabpafoaaGreatDoorKac1
import Derived.Test.YtiahmfdabpafoaaGreatDoorKab9
import Derived.Test.YtiahmfdabpafoaaGreatDoorKab4
import Derived.Test.YtiahmfdabpafoaaGreatDoorKac0
import Derived.Test.YtiahmfdabpafoaaGreatDoorKab3
import Derived.Test.YtiahmfdabpafoaaGreatDoorKab2
import Derived.Test.YtiahmfdabpafoaaGreatDoorKab7
open List renaming getElem?_eq_some_iff → Ja, getElem?_append_left → Jb, cons_append → Jc, nil_append → Jd, length_append → Je, length_cons → Jf, replicate → Jg, getElem?_set_ne → Jj, length_nil → Jl, take_of_length_le → Jn, append_nil → Jv, mapM_cons → Jz, drop_zero → JB, length_map → JL, map_cons → Qf, nodup_append → QR, take_append_drop → QU, sum_cons → UV
open Nat renaming reduceAdd→zA,reduceMul→zM,reduceSub→zS,reduceEqDiff→zE,reduceLeDiff→zL
set_option linter.unusedSimpArgs false
set_option linter.unusedVariables false
set_option maxRecDepth 100000
namespace Go.Lg
open Go.Proofs
attribute [-go_sem] Qg
inductive Zt{α:Type}(E:α→List FV)(n:Nat)(H:Ji):CV→List α→Prop where
 |n:Zt E n H (.f .nil) []
 |m:Zt E n H .emp []
 |o (id g:Nat) (xs:List α) (h:look H id g=some ⟨g,n,cl E xs⟩):Zt E n H (.own id g 0 xs.length none) xs
def Q1:CV→Nat→Prop
 | .own id _ _ _ _,k=>k=id
 |_,_=>False
section
variable{α:Type}{E:α→List FV}{n:Nat}{H H':Ji}{c:CV}{xs ys:List α}
theorem Zt.same(h:Zt E n H c xs)(hs:∀i,Q1 c i→i<H.length→H'[i]? =H[i]?):Zt E n H' c xs:=by
 cases h with
 |n=>exact .n
 |m=>exact .m
 |o id g xs h=>exact .o id g xs (by unfold look at*;rw[hs id rfl (Ja.1 (Jw h).1).1];exact h)
theorem Zt.lt(h:Zt E n H c xs):∀i,Q1 c i→i<H.length:=by
 cases h with
 |n=>exact fun i hi=>hi.elim
 |m=>exact fun i hi=>hi.elim
 |o id g xs h=>intro i hi;cases hi;exact(Ja.1 (Jw h).1).1
theorem Zt.app(h:Zt E n H c xs):Zt E n (H++H') c xs:=h.same fun i _ hl=>Jb hl
theorem Zt.snap[HSz E n](h:Zt E n H c xs):QS H (.c c)=some (Rj E xs):=by
 cases h with
 |n=>rfl
 |m=>rfl
 |o id g xs h=>
  have e:(cl E xs).take (xs.length*n)=cl E xs:=Jn (Nat.le_of_eq (Qb xs))
  simp only[QS,Lg.frzC,Lg.frz,h,JB,e,X9,Option.map_some]
theorem Zt.frzC[HSz E n](h:Zt E n H c xs):frzC H c=some (.f (WR E xs)):=by
 have:=h.snap
 simp only[QS,Option.map_eq_some_iff]at this
 obtain⟨y,h1,h2⟩:=this
 cases h2
 exact h1
theorem Zt.len(P:Program)(h:Zt E n H c xs){s:List AV}{t:TypeId}{ei:TI}(ht:QJ P t=some ei)(hs:ei.size=n):True:=trivial
end
theorem RQ{k:IntKind}(xs:List Int):(fl (eI k) xs).map RR=fl (eI k) xs:=by
 induction xs with
 |nil=>rfl
 |cons x xs ih=>
  show RR _::(fl (eI k) xs).map RR=_
  rw[ih];rfl
theorem JcO(rs:List Q2):(fl eR rs).map RR=fl eR rs:=by
 induction rs with
 |nil=>rfl
 |cons x xs ih=>
  show[RR _,RR _,RR _]++(fl eR xs).map RR=_
  rw[ih,QD,F9,RQ];rfl
theorem Wv{S:Nat→Bool}{H:Ji}{n:Nat}:∀(l:List FV),(l.map CV.f).mapM (frzS S H n)=some (l.map RR)
 |[]=>rfl
 |x::l=>by
  rw[Qf,Jz,Wv l]
  cases n<;>rfl
theorem Zt.frzS{S:Nat→Bool}{H:Ji}{c:CV}{rs:List Q2}(h:Zt eR 3 H c rs)(hs:∀i,Q1 c i→S i=true)(m:Nat):frzS S H (m+1) c=some (WR eR rs):=by
 cases h with
 |n=>rfl
 |m=>rfl
 |o id g xs h=>
  have e:(cl eR rs).take (rs.length*3)=cl eR rs:=Jn (Nat.le_of_eq (Qb rs))
  simp only[Lg.frzS,hs id rfl,if_true,h,JB,e]
  rw[show cl eR rs=(fl eR rs).map CV.f from rfl,Wv,JcO]
  rfl
theorem Kw{S:Nat→Bool}{H:Ji}{id g off n:Nat}{lim:Option Nat}{zs:List Int}(h:look H id g=some ⟨g,1,cl (eI .i64) zs⟩)(hs:S id=true)(hn:off+n≤zs.length)(m:Nat):Lg.frzS S H (m+1) (.own id g off n lim)=some (QD ((zs.drop off).take n)):=by
 have hv:=N1 (lim:=lim) h hn
 have hl:((zs.drop off).take n).length=n:=by simp;omega
 simp only[frzC,frz,h,Option.map_map,Option.map_eq_some_iff]at hv
 obtain⟨l,h1,h2⟩:=hv
 simp only[Lg.frzS,hs,if_true,h]
 have e:((cl (eI .i64) zs).drop off).take (n*1)=cl (eI .i64) ((zs.drop off).take n):=by
  have e1:(cl (eI .i64) zs).drop off=cl (eI .i64) (zs.drop off):=by
   have:=QU off zs
   conv=>lhs;rw[←this,QP]
   rw[List.drop_append_of_le_length (by rw[Qb];simp;omega),List.drop_of_length_le (by rw[Qb];simp;omega),Jd]
  rw[e1,Nat.mul_one]
  have:=QU n (zs.drop off)
  conv=>lhs;rw[←this,QP]
  rw[List.take_append_of_le_length (by rw[Qb];simp;omega),Jn (by rw[Qb];simp;omega)]
 rw[e,show cl (eI .i64) ((zs.drop off).take n)=(fl (eI .i64) ((zs.drop off).take n)).map CV.f from rfl,Wv,RQ,Option.map_some]
 rw[show QD ((zs.drop off).take n)= .sl ((zs.drop off).take n).length (fl (eI .i64) ((zs.drop off).take n))from rfl,hl]
theorem Xw{α:Type}{E:α→List FV}{n:Nat}[HSz E n]{P:Program}{H:Ji}{t:TypeId}{ei:TI}{K:KV}(ht:QJ P t=some ei)(hz:ei.zero.length=ei.size∧ei.size=n∧0<n∧ei.bytes≤64){c:CV}{xs:List α}(h:Zt E n H c xs)(hx:xs.length≤2^40)
 {sid sg:Nat} {lim:Option Nat} {v:α} (hl:look H sid sg=some ⟨sg,n,(E v).map CV.f⟩)
 (hk:∀c' H',Zt E n H' c' (xs++[v])→(∀k,k<H.length→¬Q1 c k→H'[k]? =H[k]?)→(∀k,Q1 c' k→Q1 c k∨k=H.length)→H.length≤H'.length→(∀k,Q1 c' k→k<H'.length)→K (.c c') H'):
 Qg P H t (.c c) (.c (.own sid sg 0 1 lim)) K:=by
 obtain⟨hz1,rfl,hz3,hz4⟩:=hz
 have hE:((E v).map CV.f).length=ei.size:=by rw[JL];exact HSz.sz v
 have htk:(((E v).map CV.f).drop 0).take (1*ei.size)=(E v).map CV.f:=by rw[JB,Nat.one_mul,Jn (by omega)]
 have e1:cl E [v]=(E v).map CV.f:=by simp[cl,fl]
 have hb:∀k:Nat,k≤2^40→(k+1)*ei.bytes≤140737488355328:=fun k hk=>by
  have:(k+1)*ei.bytes≤(k+1)*64:=Nat.mul_le_mul_left _ hz4
  omega
 have hel:elems H ei.size (.c (.own sid sg 0 1 lim))=some (1,(E v).map CV.f):=by
  simp only[elems,hl,htk,if_true]
 unfold Qg
 cases h with
 |n=>
  simp only[ht,hz1,if_true,hel]
  simp only[elems,VI,W0,Yz]
  refine⟨⟨by omega,by have:=hb 0 (by omega);omega⟩,fun g'=> ?_⟩
  have:=Zt.o (E:=E) (n:=ei.size) (H:=H++[some ⟨g',ei.size,(E v).map CV.f⟩]) H.length g' [v] (by rw[e1];exact JY)
  exact hk _ _ this (fun k hk _=>Jb hk) (fun k hk=> .inr hk) (by simp) (fun k hk=>by cases hk;simp)
 |m=>
  simp only[ht,hz1,if_true,hel]
  simp only[elems,VI,W0,Yz]
  refine⟨⟨by omega,by have:=hb 0 (by omega);omega⟩,fun g'=> ?_⟩
  have:=Zt.o (E:=E) (n:=ei.size) (H:=H++[some ⟨g',ei.size,(E v).map CV.f⟩]) H.length g' [v] (by rw[e1];exact JY)
  exact hk _ _ this (fun k hk _=>Jb hk) (fun k hk=> .inr hk) (by simp) (fun k hk=>by cases hk;simp)
 |o id g xs hl2=>
  have hlt:id<H.length:=(Ja.1 (Jw hl2).1).1
  have hcl:(cl E xs).length=xs.length*ei.size:=Qb xs
  have hel2:elems H ei.size (.c (.own id g 0 xs.length none))=some (xs.length,cl E xs):=by
   simp only[elems,hl2,JB,if_true,Jn (Nat.le_of_eq hcl)]
  simp only[ht,hz1,if_true,hel,hel2]
  simp only[VI,hl2,hcl,if_true,W0]
  refine⟨⟨by first|trivial|omega,hz3,trivial,by omega,hb _ hx⟩,fun g'=> ?_⟩
  have:=Zt.o (E:=E) (n:=ei.size) (H:=H.set id (some ⟨g',ei.size,cl E xs++(E v).map CV.f⟩)) id g' (xs++[v]) (by rw[QP,e1];exact JK hlt)
  rw[Je]at this
  exact hk _ _ this (fun k _ hk=>by rw[Jj (fun h=>hk h.symm)]) (fun k hk=> .inl hk) (by simp) (fun k hk=>by cases hk;simpa using hlt)
theorem VH{α:Type}{E:α→List FV}{n:Nat}[HSz E n]{P:Program}{H:Ji}{t:TypeId}{ei:TI}{K:KV}(ht:QJ P t=some ei)(hz:ei.zero.length=ei.size∧ei.size=n∧0<n∧ei.bytes≤64){c:CV}{xs ys:List α}(h:Zt E n H c xs)(hx:xs.length≤2^40∧ys.length≤2^40)
 {src:AV} (hel:elems H n src=some (ys.length,cl E ys))
 (hk:∀c' H',Zt E n H' c' (xs++ys)→(∀k,k<H.length→¬Q1 c k→H'[k]? =H[k]?)→(∀k,Q1 c' k→Q1 c k∨k=H.length)→H.length≤H'.length→(∀k,Q1 c' k→k<H'.length)→K (.c c') H'):
 Qg P H t (.c c) src K:=by
 obtain⟨hz1,rfl,hz3,hz4⟩:=hz
 have hb:∀k:Nat,k≤2^41→k*ei.bytes≤140737488355328:=fun k hk=>by
  have:k*ei.bytes≤k*64:=Nat.mul_le_mul_left _ hz4
  omega
 unfold Qg
 rcases Nat.eq_zero_or_pos ys.length with h0|h0
 · have:ys=[]:=List.eq_nil_of_length_eq_zero h0
   subst this
   rw[Jv]at hk
   have hr:=hk c H h (fun _ _ _=>rfl) (fun k hk=> .inl hk) (Nat.le_refl _) h.lt
   cases h with
   |n=>simp only[ht,hz1,if_true,hel];simp only[elems,VI];exact hr
   |m=>simp only[ht,hz1,if_true,hel];simp only[elems,VI];exact hr
   |o id g xs hl2=>
    have hcl:(cl E xs).length=xs.length*ei.size:=Qb xs
    have hel2:elems H ei.size (.c (.own id g 0 xs.length none))=some (xs.length,cl E xs):=by
     simp only[elems,hl2,JB,if_true,Jn (Nat.le_of_eq hcl)]
    simp only[ht,hz1,if_true,hel,hel2]
    simp only[VI]
    exact hr
 cases h with
 |n=>
  simp only[ht,hz1,if_true,hel]
  simp only[elems,VI,W0,Yz]
  rw[if_neg (by omega)]
  refine⟨⟨by omega,hb _ (by omega)⟩,fun g'=> ?_⟩
  have:=Zt.o (E:=E) (n:=ei.size) (H:=H++[some ⟨g',ei.size,cl E ys⟩]) H.length g' ys JY
  exact hk _ _ this (fun k hk _=>Jb hk) (fun k hk=> .inr hk) (by simp) (fun k hk=>by cases hk;simp)
 |m=>
  simp only[ht,hz1,if_true,hel]
  simp only[elems,VI,W0,Yz]
  rw[if_neg (by omega)]
  refine⟨⟨by omega,hb _ (by omega)⟩,fun g'=> ?_⟩
  have:=Zt.o (E:=E) (n:=ei.size) (H:=H++[some ⟨g',ei.size,cl E ys⟩]) H.length g' ys JY
  exact hk _ _ this (fun k hk _=>Jb hk) (fun k hk=> .inr hk) (by simp) (fun k hk=>by cases hk;simp)
 |o id g xs hl2=>
  have hlt:id<H.length:=(Ja.1 (Jw hl2).1).1
  have hcl:(cl E xs).length=xs.length*ei.size:=Qb xs
  have hel2:elems H ei.size (.c (.own id g 0 xs.length none))=some (xs.length,cl E xs):=by
   simp only[elems,hl2,JB,if_true,Jn (Nat.le_of_eq hcl)]
  simp only[ht,hz1,if_true,hel,hel2]
  simp only[VI,hl2,hcl,if_true,W0]
  rw[if_neg (by omega)]
  refine⟨⟨by first|trivial|omega,hz3,trivial,by omega,hb _ (by omega)⟩,fun g'=> ?_⟩
  have:=Zt.o (E:=E) (n:=ei.size) (H:=H.set id (some ⟨g',ei.size,cl E xs++cl E ys⟩)) id g' (xs++ys) (by rw[QP];exact JK hlt)
  rw[Je]at this
  exact hk _ _ this (fun k _ hk=>by rw[Jj (fun h=>hk h.symm)]) (fun k hk=> .inl hk) (by simp) (fun k hk=>by cases hk;simpa using hlt)
theorem Xt{α:Type}{E:α→List FV}{n:Nat}[HSz E n]{H:Ji}{ys:List α}:elems H n (.c (.f (WR E ys)))=some (ys.length,cl E ys):=by
 have:(fl E ys).length=ys.length*n:=Z5 ys
 simp only[elems]
 first|rfl|simp[this,cl]
end Go.Lg

namespace Go.Lg
open Go.Proofs
def Vt(vs:List Int):Int:=vs.foldl (fun a v=>a*v) 1
def X8(r:Q2)(vs:List Int):Bool:=
 if r.kind=1 then decide vs.Nodup else if r.kind=2 then decide (vs.sum=r.val)else if r.kind=3 then decide (Vt vs=r.val)
 else if r.kind=4 then decide (JM vs 0<JM vs 1)else decide (max (JM vs 0 -JM vs 1) (JM vs 1 -JM vs 0)=r.val)
def orV(o:List Nat)(vs:List Int):List Nat:=o.zipWith (fun x v=>x|||2^v.toNat) vs
def VJ(r:Q2):List Nat→List Int→List Nat→List Nat
 |[],pre,o=>if X8 r pre=true then orV o pre else o
 |m::ms,pre,o=>[1,2,3,4].foldl (fun o (v:Nat)=>if m.testBit v=true then VJ r ms (pre++[(v:Int)]) o else o) o
def JaZ(xs:List Int)(n:Nat)(c:Int):Nat:=if 0<JM xs c then 2^(JM xs c).toNat else 2^(n+1) -2
def Wz(r:Q2)(xs:List Int)(n:Nat):Bool:=(VJ r (r.cells.map (JaZ xs n)) [] (Jg r.cells.length 0)).getD 0 0 !=0
def clear(p:Zk)(xs:List Int):Bool:=decide (∀k:Nat,k<xs.length→¬(0<JM p.given k∧0<JM xs k∧JM xs k≠JM p.given k))
def UJ(p:Zk)(xs:List Int)(n:Nat):Bool:=clear p xs&&(p.rules.all (fun r=>Wz r xs n)&& !U2 xs n)
def Ul(p:Zk)(n:Nat):Nat→List Int→List (List Int)
 |0,xs=>[xs]
 |m+1,xs=>if 0<JM xs ((xs.length -(m+1):Nat):Int)then Ul p n m xs else((List.range n).map (· +1)).flatMap fun(v:Nat)=>if UJ p (xs.set (xs.length -(m+1)) (v:Int)) n=true then Ul p n m (xs.set (xs.length -(m+1)) (v:Int))else[]
end Go.Lg

namespace Go.Lg
open Go.Proofs
theorem Fm(vs:List Int)(v:Int):Vt (vs++[v])=Vt vs*v:=by simp[Vt]
theorem Nt:∀(n:Nat) (vs:List Int),vs.length≤n→(∀v∈vs,0≤v∧v≤4)→0≤Vt vs∧Vt vs≤4^n:=by
 intro n
 induction n with
 |zero=>intro vs h _;have:vs=[]:=List.eq_nil_of_length_eq_zero (by omega);subst this;simp[Vt]
 |succ n ih=>
  intro vs h hv
  rcases List.eq_nil_or_concat vs with rfl|⟨ws,w,rfl⟩
  · exact⟨by simp[Vt],by simp only[Vt,List.foldl_nil];have:(0:Int)<4^(n+1):=Int.pow_pos (by omega);omega⟩
  · obtain⟨h1,h2⟩:=ih ws (by simp at h;omega) fun v hm=>hv v (by simp[hm])
    have hw:=hv w (by simp)
    rw[List.concat_eq_append,Fm]
    refine⟨Int.mul_nonneg h1 hw.1, ?_⟩
    have:=Int.mul_le_mul h2 hw.2 hw.1 (by omega)
    rw[Int.pow_succ]
    exact this
theorem JaP{vs:List Int}(h:vs.length≤4)(hv:∀v∈vs,0≤v∧v≤4)(k:Nat):0≤Vt (vs.take k)∧Vt (vs.take k)≤256:=by
 have:=Nt 4 (vs.take k) (by simp;omega) fun v hm=>hv v (List.mem_of_mem_take hm)
 omega
theorem JdZ{vs:List Int}(h:vs.length≤4)(hv:∀v∈vs,0≤v∧v≤4)(k:Nat):0≤(vs.take k).sum∧(vs.take k).sum≤16:=by
 have gen:∀(ws:List Int),(∀v∈ws,0≤v∧v≤4)→0≤ws.sum∧ws.sum≤4*ws.length:=by
  intro ws hw
  induction ws with
  |nil=>simp
  |cons w ws ih=>
   have h1:=ih fun v hm=>hw v (by simp[hm])
   have h2:=hw w (by simp)
   simp only[UV,Jf]
   push_cast
   omega
 have:=gen (vs.take k) fun v hm=>hv v (List.mem_of_mem_take hm)
 have:(vs.take k).length≤4:=by simp;omega
 omega
theorem RS{vs:List Int}{k:Nat}(h:k<vs.length):(vs.take (k+1)).Nodup↔(vs.take k).Nodup∧∀i:Nat,i<k→JM vs i≠JM vs k:=by
 rw[JX h,QR]
 constructor
 · rintro⟨h1,_,h3⟩
   refine⟨h1,fun i hi=>h3 _ ?_ _ (by simp)⟩
   rw[Qu (by omega)]
   simp only[Int.toNat_natCast]
   exact List.mem_take_iff_getElem.2 ⟨i,by omega,rfl⟩
 · rintro⟨h1,h2⟩
   refine⟨h1,by simp,fun a ha b hb=> ?_⟩
   obtain⟨i,hi,rfl⟩:=List.mem_take_iff_getElem.1 ha
   have:=h2 i (by omega)
   rw[Qu (by omega)]at this
   simp only[Int.toNat_natCast]at this
   simp only[List.mem_singleton]at hb
   rw[hb]
   exact this
theorem NP(r:Q2)(vs:List Int)(hl:vs.length≤4)(hv:∀v∈vs,0≤v∧v≤4)(hk:r.kind=1∨r.kind=2∨r.kind=3∨2≤vs.length):Qd Tryz.prog 114 [aR r,ZY vs] (bool (X8 r vs)):=by
 have hnv:∀k:Nat,k<vs.length→0≤JM vs k∧JM vs k≤4:=fun k hk=>hv _ (by rw[Qu (by omega)];exact List.getElem_mem _)
 have hpt:=JaP hl hv
 have hst:=JdZ hl hv
 refine Jq.cw (c:=_) Tryz.func114 rfl (n:=86) Tryz.ntmps114 (rs:=[.tmp 4]) rfl ?_
 simp only[Jf,Jl,zA,zS,Jg,Jc,Jd]
 simp(maxSteps:=999999)(disch:=omega)only[go_sem,zA,zM,zS,zE,zL]
 intro g
 refine Qw (fun k:Nat=>vs.length -k) (fun k=>k≤vs.length) (fun k=>[.a, .k, .k, .a, .a, .p (int (vs.take k).sum), .p (int (Vt (vs.take k))), .p (bool (decide (vs.take k).Nodup)), .p (int k), .a, .a, .a, .a, .a, .a, .a, .a, .a, .a, .a, .a, .a, .a, .a, .a, .a, .a, .a, .a, .a, .a, .a, .a, .a, .a, .a, .a, .a, .a, .a, .a, .a, .a, .a, .a, .a, .a, .a, .a, .a, .a, .a, .a, .a, .a, .a, .a, .a, .a, .a, .a, .a, .a, .a, .a, .a, .a, .a, .a, .a, .a, .a, .a, .a, .a, .a, .a, .a, .a, .a, .a, .a, .a, .a, .a, .a]) (fun _=>[some ⟨g,1,cR r⟩]) 0 (Nat.zero_le _) (by simp(maxSteps:=999999)(disch:=omega)only[go_sem,zA,zM,zS,zE,zL];simp[Vt]) (Qc.refl _) ?_
 intro k hk'
 simp(maxSteps:=999999)(disch:=omega)only[go_sem,zA,zM,zS,zE,zL]
 ((first|(with_reducible first|refine Jo ?_ ?_|refine Jk ?_ ?_|refine Jp ?_ ?_)|refine Jr ?_ ?_)<;>intro h1)
 · have h1:k<vs.length:=by omega
   have e1:(vs.take (k+1)).sum=(vs.take k).sum+JM vs k:=by rw[JX h1];simp
   have e2:Vt (vs.take (k+1))=Vt (vs.take k)*JM vs k:=by rw[JX h1,Fm]
   have b1:=hst (k+1)
   have b2:=hpt (k+1)
   rw[e1]at b1
   rw[e2]at b2
   simp(maxSteps:=999999)(disch:=omega)only[go_sem,zA,zM,zS,zE,zL]
   refine Qw (fun j:Nat=>k -j) (fun j=>j≤k) (fun j=>[.a, .k, .k, .a, .a, .k, .k, .p (bool (decide ((vs.take k).Nodup∧∀i:Nat,i<j→JM vs i≠JM vs k))), .k, .p (int j), .a, .a, .a, .a, .a, .a, .a, .a, .a, .a, .a, .a, .a, .a, .a, .a, .a, .a, .a, .a, .a, .a, .a, .a, .a, .a, .a, .a, .a, .a, .a, .a, .a, .a, .a, .a, .a, .a, .a, .a, .a, .a, .a, .a, .a, .a, .a, .a, .a, .a, .a, .a, .a, .a, .a, .a, .a, .a, .a, .a, .a, .a, .a, .a, .a, .a, .a, .a, .a, .a, .a, .a, .a, .a, .a, .a]) (fun _=>[some ⟨g,1,cR r⟩]) 0 (Nat.zero_le _) (by simp(maxSteps:=999999)(disch:=omega)only[go_sem,zA,zM,zS,zE,zL];exact⟨by simp,rfl⟩) (Qc.refl _) ?_
   intro j hj
   have hd:((vs.take k).Nodup∧∀i:Nat,i<j+1→JM vs i≠JM vs k)↔((vs.take k).Nodup∧∀i:Nat,i<j→JM vs i≠JM vs k)∧JM vs j≠JM vs k:=by
    constructor
    · rintro⟨a,b⟩
      exact⟨⟨a,fun i hi=>b i (by omega)⟩,b j (by omega)⟩
    · rintro⟨⟨a,b⟩,c⟩
      refine⟨a,fun i hi=> ?_⟩
      by_cases hij:i=j
      · rw[hij];exact c
      · exact b i (by omega)
   generalize hb:decide ((vs.take k).Nodup∧∀i:Nat,i<j→JM vs i≠JM vs k)=b
   cases b with
   |false=>
    simp(maxSteps:=999999)(disch:=omega)only[go_sem,zA,zM,zS,zE,zL]
    ((first|(with_reducible first|refine Jo ?_ ?_|refine Jk ?_ ?_|refine Jp ?_ ?_)|refine Jr ?_ ?_)<;>intro h2)
    · have h2:j<k:=by omega
      simp(maxSteps:=999999)(disch:=omega)only[go_sem,zA,zM,zS,zE,zL]
      refine Q7 Zr (by kernel_rfl) ?_
      simp(maxSteps:=999999)(disch:=omega)only[go_sem,Nat.reduceBEq,Bool.true_or,zA,zM,zS,zE,zL]
      refine⟨j+1,⟨by omega,by omega⟩,⟨?_,by push_cast;omega⟩,Qc.refl _⟩
      rw[eq_comm,decide_eq_false_iff_not,hd]
      exact fun h=>(decide_eq_false_iff_not.1 hb) h.1
    · have hjk:j=k:=by omega
      simp(maxSteps:=999999)(disch:=omega)only[go_sem,zA,zM,zS,zE,zL]
      refine⟨k+1,⟨by omega,by omega⟩,⟨e1.symm,e2.symm, ?_,by push_cast;omega⟩,Qc.refl _⟩
      rw[eq_comm,decide_eq_false_iff_not,RS h1,←hjk]
      rw[hjk]at hb⊢
      exact decide_eq_false_iff_not.1 hb
   |true=>
    simp(maxSteps:=999999)(disch:=omega)only[go_sem,zA,zM,zS,zE,zL]
    ((first|(with_reducible first|refine Jo ?_ ?_|refine Jk ?_ ?_|refine Jp ?_ ?_)|refine Jr ?_ ?_)<;>intro h2)
    · have h2:j<k:=by omega
      have hjl:j<vs.length:=by omega
      simp(maxSteps:=999999)(disch:=omega)only[go_sem,zA,zM,zS,zE,zL]
      refine Q7 Zr (by kernel_rfl) ?_
      simp(maxSteps:=999999)(disch:=omega)only[go_sem,Nat.reduceBEq,Bool.true_or,zA,zM,zS,zE,zL]
      refine⟨j+1,⟨by omega,by omega⟩,⟨?_,by push_cast;omega⟩,Qc.refl _⟩
      have hb':=of_decide_eq_true hb
      by_cases he:JM vs (j:Int)=JM vs (k:Int)
      · rw[decide_eq_true he,eq_comm,Bool.not_true,decide_eq_false_iff_not,hd]
        exact fun h=>h.2 he
      · rw[decide_eq_false he,eq_comm,Bool.not_false,decide_eq_true_eq,hd]
        exact⟨hb',he⟩
    · have hjk:j=k:=by omega
      simp(maxSteps:=999999)(disch:=omega)only[go_sem,zA,zM,zS,zE,zL]
      refine⟨k+1,⟨by omega,by omega⟩,⟨e1.symm,e2.symm, ?_,by push_cast;omega⟩,Qc.refl _⟩
      rw[eq_comm,decide_eq_true_eq,RS h1]
      rw[hjk]at hb
      exact of_decide_eq_true hb
 · simp(maxSteps:=999999)(disch:=omega)only[go_sem,zA,zM,zS,zE,zL]
   rw[Jn (by omega)]
   have hkl:vs.take k=vs:=Jn (by omega)
   ((first|(with_reducible first|refine Jo ?_ ?_|refine Jk ?_ ?_|refine Jp ?_ ?_)|refine Jr ?_ ?_)<;>intro d1)
   · simp(maxSteps:=999999)(disch:=omega)only[go_sem,zA,zM,zS,zE,zL]
     unfold X8
     rw[if_pos d1]
   simp(maxSteps:=999999)(disch:=omega)only[go_sem,zA,zM,zS,zE,zL]
   ((first|(with_reducible first|refine Jo ?_ ?_|refine Jk ?_ ?_|refine Jp ?_ ?_)|refine Jr ?_ ?_)<;>intro d2)
   · simp(maxSteps:=999999)(disch:=omega)only[go_sem,zA,zM,zS,zE,zL]
     unfold X8
     rw[if_neg d1,if_pos d2]
   simp(maxSteps:=999999)(disch:=omega)only[go_sem,zA,zM,zS,zE,zL]
   ((first|(with_reducible first|refine Jo ?_ ?_|refine Jk ?_ ?_|refine Jp ?_ ?_)|refine Jr ?_ ?_)<;>intro d3)
   · simp(maxSteps:=999999)(disch:=omega)only[go_sem,zA,zM,zS,zE,zL]
     unfold X8
     rw[if_neg d1,if_neg d2,if_pos d3]
   have hl2:2≤vs.length:=by omega
   simp(maxSteps:=999999)(disch:=omega)only[go_sem,zA,zM,zS,zE,zL]
   have v0:0≤JM vs (0:Int)∧JM vs (0:Int)≤4:=hnv 0 (by omega)
   have v1:0≤JM vs (1:Int)∧JM vs (1:Int)≤4:=hnv 1 (by omega)
   ((first|(with_reducible first|refine Jo ?_ ?_|refine Jk ?_ ?_|refine Jp ?_ ?_)|refine Jr ?_ ?_)<;>intro d4)
   · simp(maxSteps:=999999)(disch:=omega)only[go_sem,zA,zM,zS,zE,zL]
     refine Q7 Zr (by kernel_rfl) ?_
     simp(maxSteps:=999999)(disch:=omega)only[go_sem,Nat.reduceBEq,Bool.true_or,zA,zM,zS,zE,zL]
     unfold X8
     rw[if_neg d1,if_neg d2,if_neg d3,if_pos d4]
   · simp(maxSteps:=999999)(disch:=omega)only[go_sem,zA,zM,zS,zE,zL]
     refine Q7 Zr (by kernel_rfl) ?_
     simp(maxSteps:=999999)(disch:=omega)only[go_sem,Nat.reduceBEq,Bool.true_or,zA,zM,zS,zE,zL]
     unfold X8
     rw[if_neg d1,if_neg d2,if_neg d3,if_neg d4,show(0:Int) -(JM vs 0 -JM vs 1)=JM vs 1 -JM vs 0 by omega]
end Go.Lg

namespace Go.Lg
attribute [-go_sem] Qg
inductive WE(H:Ji):CV→List Int→List Nat→Prop where
 |m:WE H .emp [] []
 |o (id g:Nat) (xs:List Int) (h:look H id g=some ⟨g,1,cl (eI .i64) xs⟩):WE H (.own id g 0 xs.length none) xs [id]
theorem WE.frzC{H:Ji}{c:CV}{xs:List Int}{S:List Nat}(h:WE H c xs S):Lg.frzC H c=some (.f (QD xs)):=by
 cases h with
 |m=>rfl
 |o id g xs h=>exact(Qv.o id g none xs [] (by rw[Jv];exact h)).frzC
theorem WE.same{H H':Ji}{c:CV}{xs:List Int}{S:List Nat}(h:WE H c xs S)(hs:∀i∈S,H'[i]? =H[i]?):WE H' c xs S:=by
 cases h with
 |m=>exact .m
 |o id g xs h=>exact .o id g xs (by unfold look at*;rw[hs id (by simp)];exact h)
theorem WE.shift{H0 H:Ji}{c:CV}{xs:List Int}{S:List Nat}(h:WE H c xs S):WE (H0++QN H0.length H) (Zo H0.length c) xs (S.map (· +H0.length)):=by
 cases h with
 |m=>exact .m
 |o id g xs h=>
  refine .o (id+H0.length) g xs ?_
  rw[ZK h]
  simp only[Q3,Vp]
theorem WE.lt{H:Ji}{c:CV}{xs:List Int}{S:List Nat}(h:WE H c xs S):∀i∈S,i<H.length:=by
 cases h with
 |m=>simp
 |o id g xs h=>intro i hi;have:i=id:=by simpa using hi
               subst this;exact(Ja.1 (Jw h).1).1
theorem WE.nd{H:Ji}{c:CV}{xs:List Int}{S:List Nat}(h:WE H c xs S):S.Nodup:=by cases h<;>simp
theorem WE.inv{H:Ji}{c:CV}{xs:List Int}{S:List Nat}(h:WE H c xs S)(hn:xs≠[]):∃id g,c= .own id g 0 xs.length none∧S=[id]∧look H id g=some ⟨g,1,cl (eI .i64) xs⟩:=by
 cases h with
 |m=>exact absurd rfl hn
 |o id g xs h=>exact⟨id,g,rfl,rfl,h⟩
end Go.Lg
