/- GpFA, GpFB, GpGF, cut to what is needed. -/
import Derived.Test.YtidekghnkifbjaaGreatDoorJec0
import Derived.Test.YtidekghnkifbjaaGreatDoorJec2
open List renaming getElem?_append_left → Ja, cons_append → Jb, nil_append → Jc, replicate → Jd, length_cons → Je, length_nil → Jf, getElem?_set_ne → Jg, getElem?_eq_some_iff → Jh, length_set → Jo, getElem?_eq_getElem → Jq, take_of_length_le → Js, append_assoc → Jt, append_nil → Ju, getElem?_eq_none → Jx, length_take → JP, drop_zero → JR, mapM_cons → J4, mem_map → Qj, length_map → Qs, getElem?_map → Qv, mapM_nil → Qw
open Nat renaming reduceAdd→zA,reduceMul→zM,reduceSub→zS,reduceEqDiff→zE,reduceLeDiff→zL
set_option linter.unusedSimpArgs false
set_option linter.unusedVariables false
set_option maxRecDepth 100000
namespace Go.Lg
open Go.Proofs
theorem Zk.nn'{xs:List Int}{n:Nat}(h:Zk xs n)(c:Int):0≤JA xs c:=by
 rw[Vb]
 by_cases hk:c.toNat<xs.length
 · exact(h.val _ hk).1
 · unfold JA
   rw[Int.toNat_natCast,List.getD_eq_getElem?_getD,Jx (by omega)]
   exact Int.le_refl _
theorem Zk.set{xs:List Int}{n i v:Nat}(hg:Zk xs n)(hi:i<xs.length)(hv:v≤n):Zk (xs.set i (v:Int)) n:=⟨by rw[Jo];exact hg.len,fun k hk=>by
 rw[Jo]at hk
 rw[Za _ _ _ _ hi]
 split
 · omega
 · exact hg.val k hk⟩
theorem W8(p:Q4)(n m:Nat)(xs:List Int){i:Nat}(hi:xs.length -(m+1)=i):ZM p n (m+1) xs=if 0<JA xs i then ZM p n m xs else(vals n 1).flatMap fun(v:Nat)=>if QT p (xs.set i (v:Int)) n=true then ZM p n m (xs.set i (v:Int))else[]:=by
 conv=>lhs;rw[ZM,hi]
 rfl
theorem R6{n v:Nat}(h:v∈vals n 1):1≤v∧v≤n:=by
 unfold vals at h
 rw[Nat.sub_self,JR]at h
 obtain⟨k,hk,rfl⟩:=Qj.1 h
 rw[List.mem_range]at hk
 omega
theorem W9(p:Q4){n:Nat}:∀(m:Nat) (xs:List Int),m≤n*n→Zk xs n→(∀k:Nat,k<n*n -m→0<JA xs k)→∀s∈ZM p n m xs,Zk s n∧(∀k:Nat,k<n*n→0<JA s k)∧∀k:Nat,0<JA xs k→JA s k=JA xs k
 |0,xs,hm,hg,hf,s,hs=>by
  rw[ZM,List.mem_singleton]at hs
  subst hs
  exact⟨hg,fun k hk=>hf k (by omega),fun _ _=>rfl⟩
 |m+1,xs,hm,hg,hf,s,hs=>by
  have hxl:=hg.len
  obtain⟨i,hi⟩:∃i,i=xs.length -(m+1):=⟨_,rfl⟩
  rw[W8 p n m xs hi.symm]at hs
  split at hs
  · rename_i h0
    exact W9 p m xs (by omega) hg (fun k hk=>by
     by_cases hki:k=i
     · rw[hki];exact h0
     · exact hf k (by omega)) s hs
  · rename_i h0
    obtain⟨v,hv,hs⟩:=List.mem_flatMap.1 hs
    have hvb:=R6 hv
    have hil:i<xs.length:=by omega
    split at hs
    · obtain⟨q1,q2,q3⟩:=W9 p m (xs.set i (v:Int)) (by omega) (hg.set hil hvb.2) (fun k hk=>by
       rw[Za _ _ _ _ hil]
       split
       · omega
       · exact hf k (by omega)) s hs
      refine⟨q1,q2,fun k hk=> ?_⟩
      have hki:k≠i:=fun h=>by rw[h]at hk;omega
      have:=q3 k (by rw[Za _ _ _ _ hil,if_neg hki];exact hk)
      rw[Za _ _ _ _ hil,if_neg hki]at this
      exact this
    · simp at hs
def LeB(o o':List Nat):Prop:=o.length=o'.length∧∀k b:Nat,(o.getD k 0).testBit b=true→(o'.getD k 0).testBit b=true
theorem LeB.refl(o:List Nat):LeB o o:=⟨rfl,fun _ _ h=>h⟩
theorem LeB.trans{a b c:List Nat}(h1:LeB a b)(h2:LeB b c):LeB a c:=⟨h1.1.trans h2.1,fun k x h=>h2.2 k x (h1.2 k x h)⟩
theorem G7{o:List Nat}{vs:List Int}(h:vs.length=o.length)(k:Nat):(orV o vs).getD k 0=if k<o.length then(o.getD k 0|||2^(JA vs k).toNat)else 0:=by
 by_cases hk:k<o.length
 · rw[if_pos hk]
   have h1:k<(orV o vs).length:=by rw[ZQ];omega
   rw[List.getD_eq_getElem?_getD,Jq h1,List.getD_eq_getElem?_getD,Jq hk,Qt (by omega)]
   simp[orV]
 · rw[if_neg hk,List.getD_eq_getElem?_getD,Jx (by rw[ZQ];omega)]
   rfl
theorem Jl1{o:List Nat}{vs:List Int}(h:vs.length=o.length):LeB o (orV o vs):=⟨by rw[ZQ];omega,fun k b hb=>by
 rw[G7 h]
 split
 · rw[Nat.testBit_or,hb,Bool.true_or]
 · rename_i hk
   rw[List.getD_eq_getElem?_getD,Jx (by omega)]at hb
   simp at hb⟩
theorem Jin{o o':List Nat}{vs:List Int}(h:vs.length=o.length)(hl:LeB o o'):LeB (orV o vs) (orV o' vs):=⟨by rw[ZQ,ZQ,hl.1],fun k b hb=>by
 rw[G7 h]at hb
 rw[G7 (h.trans hl.1),←hl.1]
 split at hb
 · rename_i hk
   rw[if_pos hk]
   rw[Nat.testBit_or,Bool.or_eq_true]at hb⊢
   exact hb.imp (hl.2 k b) id
 · simp at hb⟩
theorem Jfe(r:Z0):∀(ms:List Nat) (pre:List Int) (o:List Nat),pre.length+ms.length=o.length→LeB o (Z3 r ms pre o)
 |[],pre,o,h=>by
  unfold Z3
  split
  · exact Jl1 (by simpa using h)
  · exact .refl _
 |m::ms,pre,o,h=>by
  rw[W5]
  have:∀(l:List Int) (o:List Nat),pre.length+1+ms.length=o.length→LeB o (l.foldl (fun o v=>Z3 r ms (pre++[v]) o) o):=by
   intro l
   induction l with
   |nil=>exact fun o _=> .refl _
   |cons v l ih=>
    intro o h
    rw[List.foldl_cons]
    have h1:=Jfe r ms (pre++[v]) o (by simp;omega)
    exact h1.trans (ih _ (by rw[←h1.1];exact h))
  exact this _ _ (by simp at h;omega)
theorem JaI(r:Z0):∀(ms ms':List Nat) (pre:List Int) (o o':List Nat),pre.length+ms.length=o.length→ms.length=ms'.length→(∀k v:Nat,1≤v→v≤4→(ms.getD k 0).testBit v=true→(ms'.getD k 0).testBit v=true)→LeB o o'→LeB (Z3 r ms pre o) (Z3 r ms' pre o')
 |[],[],pre,o,o',h,_,_,ho=>by
  unfold Z3
  split
  · exact Jin (by simpa using h) ho
  · exact ho
 |[],_::_,_,_,_,_,h,_,_=>by simp at h
 |_::_,[],_,_,_,_,h,_,_=>by simp at h
 |m::ms,m'::ms',pre,o,o',h,hl,hb,ho=>by
  have hstep:∀(v:Nat),1≤v→v≤4→∀(o o':List Nat),pre.length+1+ms.length=o.length→LeB o o'→
   LeB (if m.testBit v=true then Z3 r ms (pre++[(v:Int)]) o else o) (if m'.testBit v=true then Z3 r ms' (pre++[(v:Int)]) o' else o')∧pre.length+1+ms.length=(if m.testBit v=true then Z3 r ms (pre++[(v:Int)]) o else o).length:=by
   intro v hv1 hv4 o o' hlen ho
   have hlen':(pre++[(v:Int)]).length+ms.length=o.length:=by simp;omega
   by_cases hm:m.testBit v=true
   · have hm':m'.testBit v=true:=by simpa using hb 0 v hv1 hv4 (by simpa using hm)
     rw[if_pos hm,if_pos hm']
     exact⟨JaI r ms ms' _ o o' hlen' (by simpa using hl) (fun k v h1 h2 h3=>by simpa using hb (k+1) v h1 h2 (by simpa using h3)) ho,by rw[VU r ms _ _ hlen'];exact hlen⟩
   · rw[if_neg hm]
     refine⟨?_,hlen⟩
     split
     · exact ho.trans (Jfe r ms' _ o' (by rw[←ho.1];simp at hl⊢;omega))
     · exact ho
  have e:∀(M:Nat) (MS:List Nat) (O:List Nat),Z3 r (M::MS) pre O=[1,2,3,4].foldl (fun o (v:Nat)=>if M.testBit v=true then Z3 r MS (pre++[(v:Int)]) o else o) O:=fun _ _ _=>rfl
  rw[e,e]
  simp only[List.foldl_cons,List.foldl_nil]
  have h0:pre.length+1+ms.length=o.length:=by simp at h;omega
  obtain⟨a1,b1⟩:=hstep 1 (by omega) (by omega) o o' h0 ho
  obtain⟨a2,b2⟩:=hstep 2 (by omega) (by omega) _ _ b1 a1
  obtain⟨a3,b3⟩:=hstep 3 (by omega) (by omega) _ _ b2 a2
  exact(hstep 4 (by omega) (by omega) _ _ b3 a3).1
theorem Jdf{xs ys:List Int}{n:Nat}(hn:n=2∨n=3∨n=4){c:Int}(h:0<JA xs c→JA ys c=JA xs c)(hy:0≤JA ys c∧JA ys c≤n){v:Nat}(hv:1≤v∧v≤4)(hb:(Uw ys n c).testBit v=true):(Uw xs n c).testBit v=true:=by
 unfold Uw at hb⊢
 by_cases hx:0<JA xs c
 · rw[if_pos hx]
   rw[h hx,if_pos hx]at hb
   exact hb
 · rw[if_neg hx]
   by_cases hy0:0<JA ys c
   · rw[if_pos hy0,Nat.testBit_two_pow]at hb
     have hv':v≤n:=by simp at hb;omega
     clear hb
     have:v=1∨v=2∨v=3∨v=4:=by omega
     rcases hn with rfl|rfl|rfl<;>rcases this with rfl|rfl|rfl|rfl<;>first|omega|decide
   · rw[if_neg hy0]at hb
     exact hb
theorem Jb9{xs ys:List Int}{n:Nat}(hn:n=2∨n=3∨n=4){r:Z0}(h:∀c∈r.cells,0<JA xs c→JA ys c=JA xs c)(hy:∀c∈r.cells,0≤JA ys c∧JA ys c≤n)(hc:Zn r ys n=true):Zn r xs n=true:=by
 unfold Zn at hc⊢
 have hle:=JaI r (r.cells.map (Uw ys n)) (r.cells.map (Uw xs n)) [] (Jd r.cells.length 0) (Jd r.cells.length 0) (by simp) (by simp) (fun k v h1 h2 h3=>by
  by_cases hk:k<r.cells.length
  · have e:∀zs:List Int,(r.cells.map (Uw zs n)).getD k 0=Uw zs n r.cells[k]:=fun zs=>by
     rw[List.getD_eq_getElem?_getD,Qv,Jq hk];rfl
    rw[e]at h3⊢
    have hm:r.cells[k]∈r.cells:=List.getElem_mem _
    exact Jdf hn (h _ hm) (hy _ hm) ⟨h1,h2⟩ h3
  · rw[List.getD_eq_getElem?_getD,Jx (by simp;omega)]at h3
    simp at h3) (.refl _)
 generalize Z3 r (r.cells.map (Uw ys n)) [] (Jd r.cells.length 0)=A at hc hle
 generalize Z3 r (r.cells.map (Uw xs n)) [] (Jd r.cells.length 0)=B at hle⊢
 have hA:A.getD 0 0≠0:=by simpa using hc
 obtain⟨b,hb⟩:=Nat.exists_testBit_of_ne_zero hA
 have:=hle.2 0 b hb
 have hB:B.getD 0 0≠0:=fun h=>by rw[h]at this;simp at this
 simpa using hB
theorem Jhq{r:Z0}{n:Nat}{ys:List Int}(hr:Ql r n=true)(hg:Zk ys n):∀c∈r.cells,0≤JA ys c∧JA ys c≤n:=fun c hc=>by
 have h3:=(Q9 hr).2.2.1 c hc
 have hl:=hg.len
 obtain⟨k,rfl⟩:∃k:Nat,c=k:=⟨c.toNat,by omega⟩
 exact hg.val k (by omega)
theorem Yl{p:Q4}{n:Nat}(hp:Ux p n){xs ys:List Int}(hx:Zk xs n)(hy:Zk ys n)(h:∀k:Nat,0<JA xs k→JA ys k=JA xs k)(hf:QT p ys n=true):QT p xs n=true:=by
 have hn:=hp.hn
 simp only[QT,Bool.and_eq_true,clear,decide_eq_true_eq,Bool.not_eq_true',List.all_eq_true]at hf⊢
 obtain⟨h1,h2,h3⟩:=hf
 have hc:∀c:Int,0<JA xs c→JA ys c=JA xs c:=fun c hc=>by
  rw[Vb]at hc
  rw[Vb ys,Vb xs]
  exact h _ hc
 refine⟨fun k hk=> ?_,fun r hr=>Jb9 hn (fun c _=>hc c) (Jhq (hp.rv r hr) hy) (h2 r hr), ?_⟩
 · rintro⟨a,b,d⟩
   have:=h k b
   exact h1 k (by rw[hy.len,←hx.len];exact hk) ⟨a,by omega,by omega⟩
 · rw[Yn hn hy.nn']at h3
   rw[Yn hn hx.nn']
   intro a b hab hb hl h0 he
   have e1:=h a h0
   have e2:=h b (by omega)
   exact h3 a b hab hb hl (by omega) (by omega)
def Has(p:Q4)(xs:List Int):Prop:=∀k:Nat,0<JA p.given k→JA xs k=JA p.given k
theorem Has.clear{p:Q4}{xs:List Int}(h:Has p xs):Lg.clear p xs=true:=by
 simp only[Lg.clear,decide_eq_true_eq]
 exact fun k hk ⟨a,b,c⟩=>c (h k a)
theorem Has.set{p:Q4}{xs:List Int}(h:Has p xs){i:Nat}{v:Int}(hi:i<xs.length)(h0:¬0<JA xs i):Has p (xs.set i v):=fun k hk=>by
 rw[Za _ _ _ _ hi]
 have:=h k hk
 split
 · rename_i hki
   subst hki
   omega
 · exact this
theorem Jbg{p q:Q4}(hr:p.rules=q.rules){n:Nat}{xs:List Int}(hp:Has p xs)(hq:Has q xs):QT p xs n=QT q xs n:=by
 unfold QT
 rw[hp.clear,hq.clear,hr]
theorem RH{p q:Q4}(hr:p.rules=q.rules){n:Nat}:∀(m:Nat) (xs:List Int),m≤xs.length→Has p xs→Has q xs→ZM p n m xs=ZM q n m xs
 |0,xs,_,_,_=>rfl
 |m+1,xs,hm,hp,hq=>by
  obtain⟨i,hi⟩:∃i,i=xs.length -(m+1):=⟨_,rfl⟩
  rw[W8 p n m xs hi.symm,W8 q n m xs hi.symm,RH hr m xs (by omega) hp hq]
  split
  · rfl
  · rename_i h0
    have hil:i<xs.length:=by omega
    congr 1
    funext v
    rw[Jbg hr (hp.set hil h0) (hq.set hil h0),RH hr m (xs.set i (v:Int)) (by rw[Jo];omega) (hp.set hil h0) (hq.set hil h0)]
def Zw(a b:List Int):List Int:=(List.range a.length).map fun(k:Nat)=>if 0<JA b k then JA b k else JA a k
theorem ZB(a b:List Int):(Zw a b).length=a.length:=by simp[Zw]
theorem U9{a b:List Int}{k:Nat}(h:k<a.length):JA (Zw a b) k=if 0<JA b k then JA b k else JA a k:=by
 rw[Qt (by rw[ZB];omega)]
 simp[Zw]
def Q5(p:Q4)(xs:List Int):Q4:=⟨p.size,Zw p.given xs,p.rules⟩
theorem W4{a b:List Int}{n:Nat}(ha:Zk a n)(hb:Zk b n):Zk (Zw a b) n:=⟨by rw[ZB];exact ha.len,fun k hk=>by
 rw[ZB]at hk
 rw[U9 hk]
 split
 · exact hb.val k (by rw[hb.len,←ha.len];exact hk)
 · exact ha.val k hk⟩
theorem Xp{xs:List Int}{k:Nat}(h:xs.length≤k):JA xs (k:Int)=0:=by
 unfold JA
 rw[Int.toNat_natCast,List.getD_eq_getElem?_getD,Jx h]
 rfl
def NQ(p:Q4)(n:Nat)(xs:List Int)(most:Nat):List (List Int):=if QT p (Zw p.given xs) n=true∧clear p xs=true then(ZM p n (n*n) (Zw p.given xs)).take most else[]
theorem NW{p:Q4}{n:Nat}{xs:List Int}(ha:Zk p.given n)(hb:Zk xs n)(h:clear p xs=true):Has p (Zw p.given xs):=fun k hk=>by
 have hkl:k<p.given.length:=by
  by_cases hkl:k<p.given.length
  · exact hkl
  · rw[Xp (by omega)]at hk;omega
 rw[U9 hkl]
 split
 · rename_i hx
   simp only[clear,decide_eq_true_eq]at h
   have:=h k (by rw[hb.len,←ha.len];exact hkl)
   by_cases he:JA xs k=JA p.given k
   · exact he
   · exact absurd ⟨hk,hx,he⟩ this
 · rfl
theorem Ji6(p:Q4):Has p p.given:=fun _ _=>rfl
theorem Jbh{p:Q4}{n:Nat}(hp:Ux p n)(hv:JB p=true){xs:List Int}(hb:Zk xs n)(most:Nat):NQ p n xs most=if QT p xs n=true then R4 (Q5 p xs) most else[]:=by
 have hn:=hp.hn
 have hs:((p.size.toNat:Nat):Int)=p.size:=(Ux.of hv).2
 have hsn:p.size.toNat=n:=by have:=hp.size;omega
 have ha:Zk p.given n:=by
  have:=Zk.of hn (xs:=p.given) (n:=n) (by rw[←hp.size];exact UH hv)
  exact this
 have hg:=W4 ha hb
 have hxw:∀k:Nat,0<JA xs k→JA (Zw p.given xs) k=JA xs k:=fun k hk=>by
  have hkl:k<xs.length:=by
   by_cases hkl:k<xs.length
   · exact hkl
   · rw[Xp (by omega)]at hk;omega
  rw[U9 (by rw[ha.len,←hb.len];exact hkl),if_pos hk]
 have hqv:JB (Q5 p xs)=true:=by
  simp only[JB,Bool.and_eq_true,decide_eq_true_eq]at hv⊢
  refine⟨?_,hv.2⟩
  show Qe (Zw p.given xs) p.size=true
  rw[hp.size]
  exact hg.valid hn
 unfold NQ
 by_cases hc:clear p xs=true
 · have hP:=NW ha hb hc
   have hQ:=Ji6 (Q5 p xs)
   have hfq:QT (Q5 p xs) (Q5 p xs).given n=QT p (Zw p.given xs) n:=(Jbg (p:=p) (q:=Q5 p xs) rfl hP hQ).symm
   have hsq:ZM (Q5 p xs) n (n*n) (Q5 p xs).given=ZM p n (n*n) (Zw p.given xs):=(RH (p:=p) (q:=Q5 p xs) rfl (n*n) _ (by rw[hg.len];exact Nat.le_refl _) hP hQ).symm
   by_cases hf:QT p (Zw p.given xs) n=true
   · rw[if_pos ⟨hf,hc⟩,if_pos (Yl hp hb hg hxw hf)]
     unfold R4
     have e:(Q5 p xs).size.toNat=n:=hsn
     rw[e,if_pos ⟨hqv,by rw[hfq];exact hf⟩,hsq]
   · rw[if_neg (fun h=>hf h.1)]
     split
     · unfold R4
       have e:(Q5 p xs).size.toNat=n:=hsn
       rw[e,if_neg (fun h=>hf (by rw[←hfq];exact h.2))]
     · rfl
 · rw[if_neg (fun h=>hc h.2)]
   have:QT p xs n=false:=by
    have:clear p xs=false:=by simpa using hc
    simp[QT,this]
   rw[this]
   rfl
def WZ(p:Q4)(xs:List Int)(most:Int):Int:=if JB p=true∧Qe xs p.size=true∧1≤most∧most≤600 then(NQ p p.size.toNat xs most.toNat).length else-1
end Go.Lg

namespace Go.Lg
open Go.Proofs
theorem JjQ(p:Q4)(most:Nat):(R4 p most).length≤most:=by
 unfold R4
 split
 · rw[JP];omega
 · simp
attribute [-go_sem] J9
def X9(a b:List Int)(k:Nat):List Int:=(Zw a b).take k++a.drop k
theorem Jj7(a b:List Int):X9 a b 0=a:=by simp[X9]
theorem Jf2{a b:List Int}{k:Nat}:(X9 a b k).length=a.length:=by simp[X9,ZB];omega
theorem Jf3{a b:List Int}{k:Nat}(h:a.length≤k):X9 a b k=Zw a b:=by
 unfold X9
 rw[Js (by rw[ZB];exact h),List.drop_of_length_le h,Ju]
theorem Jf0{a b:List Int}{k:Nat}(h:k<a.length)(h0:0<JA b k):(X9 a b k).set k (JA b k)=X9 a b (k+1):=by
 have e:(Zw a b).take (k+1)=(Zw a b).take k++[JA b k]:=by rw[Qg (by rw[ZB];exact h),U9 h,if_pos h0]
 unfold X9
 rw[e,List.set_append_right _ _ (by rw[JP,ZB];omega),JP,ZB,Nat.min_eq_left (by omega),Nat.sub_self,List.drop_eq_getElem_cons h,List.set_cons_zero,Jt]
 rfl
theorem Jf1{a b:List Int}{k:Nat}(h:k<a.length)(h0:¬0<JA b k):X9 a b (k+1)=X9 a b k:=by
 have e:(Zw a b).take (k+1)=(Zw a b).take k++[JA a k]:=by rw[Qg (by rw[ZB];exact h),U9 h,if_neg h0]
 unfold X9
 rw[e,Jt]
 congr 1
 rw[List.drop_eq_getElem_cons h,Qt (by omega)]
 simp
theorem XL(p:Q4)(xs:List Int)(hx:p.given.length≤2^40)(hl:p.given.length≤xs.length)(h0:0<p.given.length):JW Tryz.prog 104 [aP p,QO xs] (aP (Q5 p xs)):=by
 refine JW.iced ?_
 refine Jn.cw (c:=_) Tryz.func104 rfl (n:=35) Tryz.ntmps104 (rs:=[.cell 4 26]) rfl ?_
 simp only[Je,Jf,zA,zS,Jd,Jb,Jc]
 simp(maxSteps:=999999)(disch:=omega)only[go_sem,zA,zM,zS,zE,zL]
 intro g0 g1 g2
 refine RB (HI:=[_,_]) (Qb UE rfl Kh) ⟨rfl,rfl,rfl⟩ ⟨h0,hx⟩ ?_
 intro g3
 simp(maxSteps:=999999)(disch:=omega)only[go_sem,zA,zM,zS,zE,zL]
 refine JY (fun k:Nat=>p.given.length -k) (fun k=>k≤p.given.length) (fun k=>[.a, .k, .k, .a, .k, .k, .p (int k), .a, .a, .a, .a, .a, .a, .a, .a, .a, .a, .a, .a, .a, .a, .a, .a, .a, .a, .a, .a, .a, .a, .a, .a, .a, .a, .a, .a]) (fun k=>[some ⟨g0,1,cP p⟩,some ⟨g1,3,[CV.f (FV.int IntKind.i64 0),CV.f FV.nil,CV.f FV.nil]⟩,some ⟨g3,1,cl (eI .i64) (X9 p.given xs k)⟩]) 0 (Nat.zero_le _) (by simp(maxSteps:=999999)(disch:=omega)only[go_sem,zA,zM,zS,zE,zL];rfl) (by rw[Jj7];exact J0.refl _) ?_
 intro k hk
 have hwl:=Jf2 (a:=p.given) (b:=xs) (k:=k)
 simp(maxSteps:=999999)(disch:=omega)only[go_sem,zA,zM,zS,zE,zL]
 ((first|(with_reducible first|refine Jl ?_ ?_|refine Jj ?_ ?_|refine Jp ?_ ?_)|refine Jr ?_ ?_)<;>intro c1)
 · have c1:k<p.given.length:=by omega
   simp(maxSteps:=999999)(disch:=omega)only[go_sem,zA,zM,zS,zE,zL]
   ((first|(with_reducible first|refine Jl ?_ ?_|refine Jj ?_ ?_|refine Jp ?_ ?_)|refine Jr ?_ ?_)<;>intro c2)
   · simp(maxSteps:=999999)(disch:=omega)only[go_sem,zA,zM,zS,zE,zL]
     rw[Int.toNat_natCast,Jf0 c1 c2]
     exact⟨k+1,⟨by omega,by omega⟩,by push_cast;omega,J0.refl _⟩
   · simp(maxSteps:=999999)(disch:=omega)only[go_sem,zA,zM,zS,zE,zL]
     refine⟨k+1,⟨by omega,by omega⟩,by push_cast;omega, ?_⟩
     rw[Jf1 c1 c2]
     exact J0.refl _
 · simp(maxSteps:=999999)(disch:=omega)only[go_sem,zA,zM,zS,zE,zL]
   rw[Jf3 (by omega)]
   have hown:Qy [some ⟨g0,1,cP p⟩,some ⟨g1,3,[CV.f (FV.int IntKind.i64 p.size),CV.own 2 g3 0 p.given.length none,CV.f (Uu eR p.rules)]⟩,some ⟨g3,1,cl (eI .i64) (Zw p.given xs)⟩] (.own 2 g3 0 p.given.length none) (Zw p.given xs) [2]:=by
    have:=Qy.o (H:=[some ⟨g0,1,cP p⟩,some ⟨g1,3,[CV.f (FV.int IntKind.i64 p.size),CV.own 2 g3 0 p.given.length none,CV.f (Uu eR p.rules)]⟩,some ⟨g3,1,cl (eI .i64) (Zw p.given xs)⟩]) 2 g3 none (Zw p.given xs) [] (by rw[Ju];simp only[go_sem])
    rwa [ZB]at this
   refine Vc ?_
   have hf:=hown.frzC
   show(([_,_,_]:List CV).mapM (Lg.frzC _)).map AV.agg=_
   simp only[J4,Qw,hf,Option.bind_eq_bind,Option.pure_def]
   rfl
end Go.Lg

namespace Go.Lg
open Go.Proofs
attribute [-go_sem] J9 Jv
def JmD(H:Jm)(c:CV)(ls:List (List Int)):Prop:=∃oid og cs,c= .own oid og 0 ls.length none∧look H oid og=some ⟨og,1,cs⟩∧cs.length=ls.length∧∀i (h:i<ls.length),∃id g,cs[i]? =some (.own id g 0 ls[i].length none)∧look H id g=some ⟨g,1,cl (eI .i64) ls[i]⟩
theorem JmD.shift{H0 H:Jm}{c:CV}{ls:List (List Int)}(h:JmD H c ls):JmD (H0++Q7 H0.length H) (Uf H0.length c) ls:=by
 obtain⟨oid,og,cs,rfl,k1,k2,k3⟩:=h
 refine⟨oid+H0.length,og,cs.map (Uf H0.length),rfl,Up k1,by rw[Qs];exact k2,fun i hi=> ?_⟩
 obtain⟨id,g,q1,q2⟩:=k3 i hi
 refine⟨id+H0.length,g,by rw[Qv,q1];rfl, ?_⟩
 rw[Up q2]
 simp only[ZJ,VZ]
section
variable{P:Program}{o:Oper}{st:St}{K:KV}{fo:Operand}{xs:Array Operand}{ts:Array TypeId}{f:FuncId}{args:List AV}
end
def smD(p:Q4):Prop:=p.given.length≤16∧WP p.rules 30 5
theorem smD.sm{p:Q4}(h:smD p):Rf p:=⟨by have:=h.1;omega,by have:=h.2.1;omega,fun r hr=>by have:=h.2.2 r hr;omega⟩
structure TrI(H HI:Jm)(id g:Nat)(B:Int)(g4 J g6:Nat)(p:Q4)(c:CV)(zs:List Int):Prop where
 out:look HI H.length g4=some ⟨g4,3,[.f (.int .i64 0), .f .nil, .f .nil]⟩
 puz:look HI J g6=some ⟨g6,3,cP p⟩
 grid:∃gid gg,c= .own gid gg 0 zs.length none∧look HI gid gg=some ⟨gg,1,cl (eI .i64) zs⟩∧H.length<gid∧gid≠J
 rd:Zm HI id g B
 lt:id<H.length
 ln:H.length<J∧J<HI.length
 frm:∀k,k<H.length→k≠id→HI[k]? =H[k]?
section
variable{H HI H2:Jm}{id g g4 J g6:Nat}{B B':Int}{p:Q4}{c:CV}{zs:List Int}
theorem TrI.mono(h:TrI H HI id g B g4 J g6 p c zs)(hb:B≤B'):TrI H HI id g B' g4 J g6 p c zs:={h with rd:=h.rd.mono hb}
theorem TrI.step(h:TrI H HI id g B g4 J g6 p c zs)(hs:∀i,H.length≤i→i<HI.length→H2[i]? =HI[i]?)(hl:HI.length≤H2.length)(hr:Zm H2 id g B')(hf:∀k,k<H.length→k≠id→H2[k]? =HI[k]?):TrI H H2 id g B' g4 J g6 p c zs:=by
 have hn:=h.ln
 have hL:∀i g,H.length≤i→i<HI.length→look H2 i g=look HI i g:=fun i g h1 h2=>by unfold look;rw[hs i h1 h2]
 obtain⟨gid,gg,g1,g2,g3,g4⟩:=h.grid
 have hgl:gid<HI.length:=(Jh.1 (JG g2).1).1
 exact{out:=by rw[hL _ _ (Nat.le_refl _) (by omega)];exact h.out
       puz:=by rw[hL _ _ (by omega) (by omega)];exact h.puz
       grid:=⟨gid,gg,g1,by rw[hL _ _ (by omega) hgl];exact g2,g3,g4⟩
       rd:=hr,lt:=h.lt,ln:=by omega
       frm:=fun k hk hne=>by rw[hf k hk hne];exact h.frm k hk hne}
theorem TrI.pick(h:TrI H HI id g B g4 J g6 p c zs)(hr:Zm H2 id g B')(hf:Vi HI H2 [id]):TrI H H2 id g B' g4 J g6 p c zs:=by
 have hl:=h.lt
 exact h.step (fun i hi _=>hf.2 i (by simp;omega)) (by rw[hf.1];exact Nat.le_refl _) hr fun k hk hne=>hf.2 k (by simpa using hne)
theorem TrI.app{X:Jm}(h:TrI H HI id g B g4 J g6 p c zs):TrI H (HI++X) id g B g4 J g6 p c zs:=by
 have hn:=h.ln
 exact h.step (fun i _ hi=>Ja hi) (by simp) h.rd.app fun k hk _=>Ja (by omega)
theorem TrI.set(h:TrI H HI id g B g4 J g6 p c zs){gid gg:Nat}(hc:c= .own gid gg 0 zs.length none)(k:Nat)(v:Int):TrI H (HI.set gid (some ⟨gg,1,cl (eI .i64) (zs.set k v)⟩)) id g B g4 J g6 p c (zs.set k v):=by
 have hn:=h.ln
 have hl:=h.lt
 obtain⟨gid',gg',g1,g2,g3,g4⟩:=h.grid
 rw[hc]at g1
 cases g1
 have hgl:gid<HI.length:=(Jh.1 (JG g2).1).1
 exact{out:=by rw[J6 (by omega)];exact h.out
       puz:=by rw[J6 (by omega)];exact h.puz
       grid:=⟨gid,gg,by rw[hc,Jo],JM hgl,g3,g4⟩
       rd:=h.rd.same (by rw[Jg (by omega)])
       lt:=hl,ln:=by rw[Jo];exact hn
       frm:=fun k hk hne=>by rw[Jg (by omega)];exact h.frm k hk hne}
end
theorem JhO{xs:List Int}(h:∀x∈xs,(Lit.int .u8 x).wf=true):∀x∈xs,0≤x∧x≤255:=fun x hx=>by
 have:=h x hx
 simp[Lit.wf]at this
 have e1:IntKind.u8.min=0:=by decide
 have e2:IntKind.u8.max=255:=by decide
 omega
theorem Zm.shift{H0 H:Jm}{id g:Nat}{B:Int}(h:Zm H id g B):Zm (H0++Q7 H0.length H) (id+H0.length) g B:=by
 obtain⟨sz,b,p,h1,h2⟩:=h
 exact⟨sz,b,p,by rw[Up h1];rfl,h2⟩
theorem JZ.mkRd{P:Program}{o:Oper}{st:St}{K:KV}{fo:Operand}{xs:Array Operand}{ts:Array TypeId}{f:FuncId}{args:List AV}(hc:Jn P f args [] (fun v H'=>∃g,v= .c (.ptr 0 g 0)∧Zm H' 0 g 0∧H'.length=1))(he:Ji P f)(ho:o.op= .call ⟨.value fo,xs,ts⟩)(ha:Qc st fo xs=some (f,args))(hf:args.all Q2=true)
 (hk:∀g H',Zm (st.h++H') st.h.length g 0→H'.length=1→K (.c (.ptr st.h.length g 0)) (st.h++H')):JZ P o st K:=
 JZ.mkQ hc he ho ha hf fun r H' ⟨g,h1,h2,h3⟩=>by
  subst h1
  refine⟨rfl, ?_⟩
  have:=hk g (Q7 st.h.length H') (by have:=h2.shift (H0:=st.h);rwa [Nat.zero_add]at this) (by rw[QQ];exact h3)
  show K (.c (.ptr (0+st.h.length) g 0)) _
  rw[Nat.zero_add]
  exact this
end Go.Lg
