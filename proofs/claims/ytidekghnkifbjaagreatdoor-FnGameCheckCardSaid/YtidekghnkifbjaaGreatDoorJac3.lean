/- GpFA, GpFB, GpGF, cut to what is needed. -/
import Derived.Test.YtidekghnkifbjaaGreatDoorJac0
import Derived.Test.YtidekghnkifbjaaGreatDoorJac2
open List renaming cons_append → Ja, getElem?_append_left → Jb, nil_append → Jc, replicate → Jd, length_cons → Je, length_nil → Jf, getElem?_eq_some_iff → Jg, getElem?_set_ne → Ji, length_set → Jo, getElem?_eq_getElem → Jq, take_of_length_le → Js, append_assoc → Jt, append_nil → Ju, getElem?_eq_none → Jz, length_take → JL, drop_zero → JQ, mapM_cons → J3, mem_map → Qh, length_map → Qr, getElem?_map → Qu, mapM_nil → QC
open Nat renaming reduceAdd→zA,reduceMul→zM,reduceSub→zS,reduceEqDiff→zE,reduceLeDiff→zL
set_option linter.unusedSimpArgs false
set_option linter.unusedVariables false
set_option maxRecDepth 100000
namespace Go.Lg
open Go.Proofs
theorem Q9.nn'{xs:List Int}{n:Nat}(h:Q9 xs n)(c:Int):0≤JA xs c:=by
 rw[UZ]
 by_cases hk:c.toNat<xs.length
 · exact(h.val _ hk).1
 · unfold JA
   rw[Int.toNat_natCast,List.getD_eq_getElem?_getD,Jz (by omega)]
   exact Int.le_refl _
theorem Q9.set{xs:List Int}{n i v:Nat}(hg:Q9 xs n)(hi:i<xs.length)(hv:v≤n):Q9 (xs.set i (v:Int)) n:=⟨by rw[Jo];exact hg.len,fun k hk=>by
 rw[Jo]at hk
 rw[Q3 _ _ _ _ hi]
 split
 · omega
 · exact hg.val k hk⟩
theorem WZ(p:QV)(n m:Nat)(xs:List Int){i:Nat}(hi:xs.length -(m+1)=i):ZA p n (m+1) xs=if 0<JA xs i then ZA p n m xs else(vals n 1).flatMap fun(v:Nat)=>if QK p (xs.set i (v:Int)) n=true then ZA p n m (xs.set i (v:Int))else[]:=by
 conv=>lhs;rw[ZA,hi]
 rfl
theorem RG{n v:Nat}(h:v∈vals n 1):1≤v∧v≤n:=by
 unfold vals at h
 rw[Nat.sub_self,JQ]at h
 obtain⟨k,hk,rfl⟩:=Qh.1 h
 rw[List.mem_range]at hk
 omega
theorem Wd(p:QV){n:Nat}:∀(m:Nat) (xs:List Int),m≤n*n→Q9 xs n→(∀k:Nat,k<n*n -m→0<JA xs k)→∀s∈ZA p n m xs,Q9 s n∧(∀k:Nat,k<n*n→0<JA s k)∧∀k:Nat,0<JA xs k→JA s k=JA xs k
 |0,xs,hm,hg,hf,s,hs=>by
  rw[ZA,List.mem_singleton]at hs
  subst hs
  exact⟨hg,fun k hk=>hf k (by omega),fun _ _=>rfl⟩
 |m+1,xs,hm,hg,hf,s,hs=>by
  have hxl:=hg.len
  obtain⟨i,hi⟩:∃i,i=xs.length -(m+1):=⟨_,rfl⟩
  rw[WZ p n m xs hi.symm]at hs
  split at hs
  · rename_i h0
    exact Wd p m xs (by omega) hg (fun k hk=>by
     by_cases hki:k=i
     · rw[hki];exact h0
     · exact hf k (by omega)) s hs
  · rename_i h0
    obtain⟨v,hv,hs⟩:=List.mem_flatMap.1 hs
    have hvb:=RG hv
    have hil:i<xs.length:=by omega
    split at hs
    · obtain⟨q1,q2,q3⟩:=Wd p m (xs.set i (v:Int)) (by omega) (hg.set hil hvb.2) (fun k hk=>by
       rw[Q3 _ _ _ _ hil]
       split
       · omega
       · exact hf k (by omega)) s hs
      refine⟨q1,q2,fun k hk=> ?_⟩
      have hki:k≠i:=fun h=>by rw[h]at hk;omega
      have:=q3 k (by rw[Q3 _ _ _ _ hil,if_neg hki];exact hk)
      rw[Q3 _ _ _ _ hil,if_neg hki]at this
      exact this
    · simp at hs
def LeB(o o':List Nat):Prop:=o.length=o'.length∧∀k b:Nat,(o.getD k 0).testBit b=true→(o'.getD k 0).testBit b=true
theorem LeB.refl(o:List Nat):LeB o o:=⟨rfl,fun _ _ h=>h⟩
theorem LeB.trans{a b c:List Nat}(h1:LeB a b)(h2:LeB b c):LeB a c:=⟨h1.1.trans h2.1,fun k x h=>h2.2 k x (h1.2 k x h)⟩
theorem GF{o:List Nat}{vs:List Int}(h:vs.length=o.length)(k:Nat):(orV o vs).getD k 0=if k<o.length then(o.getD k 0|||2^(JA vs k).toNat)else 0:=by
 by_cases hk:k<o.length
 · rw[if_pos hk]
   have h1:k<(orV o vs).length:=by rw[ZJ];omega
   rw[List.getD_eq_getElem?_getD,Jq h1,List.getD_eq_getElem?_getD,Jq hk,Qs (by omega)]
   simp[orV]
 · rw[if_neg hk,List.getD_eq_getElem?_getD,Jz (by rw[ZJ];omega)]
   rfl
theorem Jlv{o:List Nat}{vs:List Int}(h:vs.length=o.length):LeB o (orV o vs):=⟨by rw[ZJ];omega,fun k b hb=>by
 rw[GF h]
 split
 · rw[Nat.testBit_or,hb,Bool.true_or]
 · rename_i hk
   rw[List.getD_eq_getElem?_getD,Jz (by omega)]at hb
   simp at hb⟩
theorem JhV{o o':List Nat}{vs:List Int}(h:vs.length=o.length)(hl:LeB o o'):LeB (orV o vs) (orV o' vs):=⟨by rw[ZJ,ZJ,hl.1],fun k b hb=>by
 rw[GF h]at hb
 rw[GF (h.trans hl.1),←hl.1]
 split at hb
 · rename_i hk
   rw[if_pos hk]
   rw[Nat.testBit_or,Bool.or_eq_true]at hb⊢
   exact hb.imp (hl.2 k b) id
 · simp at hb⟩
theorem JeN(r:ZS):∀(ms:List Nat) (pre:List Int) (o:List Nat),pre.length+ms.length=o.length→LeB o (ZT r ms pre o)
 |[],pre,o,h=>by
  unfold ZT
  split
  · exact Jlv (by simpa using h)
  · exact .refl _
 |m::ms,pre,o,h=>by
  rw[WW]
  have:∀(l:List Int) (o:List Nat),pre.length+1+ms.length=o.length→LeB o (l.foldl (fun o v=>ZT r ms (pre++[v]) o) o):=by
   intro l
   induction l with
   |nil=>exact fun o _=> .refl _
   |cons v l ih=>
    intro o h
    rw[List.foldl_cons]
    have h1:=JeN r ms (pre++[v]) o (by simp;omega)
    exact h1.trans (ih _ (by rw[←h1.1];exact h))
  exact this _ _ (by simp at h;omega)
theorem Jae(r:ZS):∀(ms ms':List Nat) (pre:List Int) (o o':List Nat),pre.length+ms.length=o.length→ms.length=ms'.length→(∀k v:Nat,1≤v→v≤4→(ms.getD k 0).testBit v=true→(ms'.getD k 0).testBit v=true)→LeB o o'→LeB (ZT r ms pre o) (ZT r ms' pre o')
 |[],[],pre,o,o',h,_,_,ho=>by
  unfold ZT
  split
  · exact JhV (by simpa using h) ho
  · exact ho
 |[],_::_,_,_,_,_,h,_,_=>by simp at h
 |_::_,[],_,_,_,_,h,_,_=>by simp at h
 |m::ms,m'::ms',pre,o,o',h,hl,hb,ho=>by
  have hstep:∀(v:Nat),1≤v→v≤4→∀(o o':List Nat),pre.length+1+ms.length=o.length→LeB o o'→
   LeB (if m.testBit v=true then ZT r ms (pre++[(v:Int)]) o else o) (if m'.testBit v=true then ZT r ms' (pre++[(v:Int)]) o' else o')∧pre.length+1+ms.length=(if m.testBit v=true then ZT r ms (pre++[(v:Int)]) o else o).length:=by
   intro v hv1 hv4 o o' hlen ho
   have hlen':(pre++[(v:Int)]).length+ms.length=o.length:=by simp;omega
   by_cases hm:m.testBit v=true
   · have hm':m'.testBit v=true:=by simpa using hb 0 v hv1 hv4 (by simpa using hm)
     rw[if_pos hm,if_pos hm']
     exact⟨Jae r ms ms' _ o o' hlen' (by simpa using hl) (fun k v h1 h2 h3=>by simpa using hb (k+1) v h1 h2 (by simpa using h3)) ho,by rw[VO r ms _ _ hlen'];exact hlen⟩
   · rw[if_neg hm]
     refine⟨?_,hlen⟩
     split
     · exact ho.trans (JeN r ms' _ o' (by rw[←ho.1];simp at hl⊢;omega))
     · exact ho
  have e:∀(M:Nat) (MS:List Nat) (O:List Nat),ZT r (M::MS) pre O=[1,2,3,4].foldl (fun o (v:Nat)=>if M.testBit v=true then ZT r MS (pre++[(v:Int)]) o else o) O:=fun _ _ _=>rfl
  rw[e,e]
  simp only[List.foldl_cons,List.foldl_nil]
  have h0:pre.length+1+ms.length=o.length:=by simp at h;omega
  obtain⟨a1,b1⟩:=hstep 1 (by omega) (by omega) o o' h0 ho
  obtain⟨a2,b2⟩:=hstep 2 (by omega) (by omega) _ _ b1 a1
  obtain⟨a3,b3⟩:=hstep 3 (by omega) (by omega) _ _ b2 a2
  exact(hstep 4 (by omega) (by omega) _ _ b3 a3).1
theorem JcF{xs ys:List Int}{n:Nat}(hn:n=2∨n=3∨n=4){c:Int}(h:0<JA xs c→JA ys c=JA xs c)(hy:0≤JA ys c∧JA ys c≤n){v:Nat}(hv:1≤v∧v≤4)(hb:(Um ys n c).testBit v=true):(Um xs n c).testBit v=true:=by
 unfold Um at hb⊢
 by_cases hx:0<JA xs c
 · rw[if_pos hx]
   rw[h hx,if_pos hx]at hb
   exact hb
 · rw[if_neg hx]
   by_cases hy0:0<JA ys c
   · rw[if_pos hy0,Nat.testBit_two_pow]at hb
     have hv':v≤n:=by simp at hb;omega
     clear hb
     have:v=1∨v=2∨v=3∨v=4:=by omega
     rcases hn with rfl|rfl|rfl<;>rcases this with rfl|rfl|rfl|rfl<;>first|omega|decide
   · rw[if_neg hy0]at hb
     exact hb
theorem JbD{xs ys:List Int}{n:Nat}(hn:n=2∨n=3∨n=4){r:ZS}(h:∀c∈r.cells,0<JA xs c→JA ys c=JA xs c)(hy:∀c∈r.cells,0≤JA ys c∧JA ys c≤n)(hc:Ze r ys n=true):Ze r xs n=true:=by
 unfold Ze at hc⊢
 have hle:=Jae r (r.cells.map (Um ys n)) (r.cells.map (Um xs n)) [] (Jd r.cells.length 0) (Jd r.cells.length 0) (by simp) (by simp) (fun k v h1 h2 h3=>by
  by_cases hk:k<r.cells.length
  · have e:∀zs:List Int,(r.cells.map (Um zs n)).getD k 0=Um zs n r.cells[k]:=fun zs=>by
     rw[List.getD_eq_getElem?_getD,Qu,Jq hk];rfl
    rw[e]at h3⊢
    have hm:r.cells[k]∈r.cells:=List.getElem_mem _
    exact JcF hn (h _ hm) (hy _ hm) ⟨h1,h2⟩ h3
  · rw[List.getD_eq_getElem?_getD,Jz (by simp;omega)]at h3
    simp at h3) (.refl _)
 generalize ZT r (r.cells.map (Um ys n)) [] (Jd r.cells.length 0)=A at hc hle
 generalize ZT r (r.cells.map (Um xs n)) [] (Jd r.cells.length 0)=B at hle⊢
 have hA:A.getD 0 0≠0:=by simpa using hc
 obtain⟨b,hb⟩:=Nat.exists_testBit_of_ne_zero hA
 have:=hle.2 0 b hb
 have hB:B.getD 0 0≠0:=fun h=>by rw[h]at this;simp at this
 simpa using hB
theorem JgV{r:ZS}{n:Nat}{ys:List Int}(hr:Qk r n=true)(hg:Q9 ys n):∀c∈r.cells,0≤JA ys c∧JA ys c≤n:=fun c hc=>by
 have h3:=(Q1 hr).2.2.1 c hc
 have hl:=hg.len
 obtain⟨k,rfl⟩:∃k:Nat,c=k:=⟨c.toNat,by omega⟩
 exact hg.val k (by omega)
theorem XW{p:QV}{n:Nat}(hp:Ub p n){xs ys:List Int}(hx:Q9 xs n)(hy:Q9 ys n)(h:∀k:Nat,0<JA xs k→JA ys k=JA xs k)(hf:QK p ys n=true):QK p xs n=true:=by
 have hn:=hp.hn
 simp only[QK,Bool.and_eq_true,clear,decide_eq_true_eq,Bool.not_eq_true',List.all_eq_true]at hf⊢
 obtain⟨h1,h2,h3⟩:=hf
 have hc:∀c:Int,0<JA xs c→JA ys c=JA xs c:=fun c hc=>by
  rw[UZ]at hc
  rw[UZ ys,UZ xs]
  exact h _ hc
 refine⟨fun k hk=> ?_,fun r hr=>JbD hn (fun c _=>hc c) (JgV (hp.rv r hr) hy) (h2 r hr), ?_⟩
 · rintro⟨a,b,d⟩
   have:=h k b
   exact h1 k (by rw[hy.len,←hx.len];exact hk) ⟨a,by omega,by omega⟩
 · rw[XZ hn hy.nn']at h3
   rw[XZ hn hx.nn']
   intro a b hab hb hl h0 he
   have e1:=h a h0
   have e2:=h b (by omega)
   exact h3 a b hab hb hl (by omega) (by omega)
def Has(p:QV)(xs:List Int):Prop:=∀k:Nat,0<JA p.given k→JA xs k=JA p.given k
theorem Has.clear{p:QV}{xs:List Int}(h:Has p xs):Lg.clear p xs=true:=by
 simp only[Lg.clear,decide_eq_true_eq]
 exact fun k hk ⟨a,b,c⟩=>c (h k a)
theorem Has.set{p:QV}{xs:List Int}(h:Has p xs){i:Nat}{v:Int}(hi:i<xs.length)(h0:¬0<JA xs i):Has p (xs.set i v):=fun k hk=>by
 rw[Q3 _ _ _ _ hi]
 have:=h k hk
 split
 · rename_i hki
   subst hki
   omega
 · exact this
theorem JaI{p q:QV}(hr:p.rules=q.rules){n:Nat}{xs:List Int}(hp:Has p xs)(hq:Has q xs):QK p xs n=QK q xs n:=by
 unfold QK
 rw[hp.clear,hq.clear,hr]
theorem Rj{p q:QV}(hr:p.rules=q.rules){n:Nat}:∀(m:Nat) (xs:List Int),m≤xs.length→Has p xs→Has q xs→ZA p n m xs=ZA q n m xs
 |0,xs,_,_,_=>rfl
 |m+1,xs,hm,hp,hq=>by
  obtain⟨i,hi⟩:∃i,i=xs.length -(m+1):=⟨_,rfl⟩
  rw[WZ p n m xs hi.symm,WZ q n m xs hi.symm,Rj hr m xs (by omega) hp hq]
  split
  · rfl
  · rename_i h0
    have hil:i<xs.length:=by omega
    congr 1
    funext v
    rw[JaI hr (hp.set hil h0) (hq.set hil h0),Rj hr m (xs.set i (v:Int)) (by rw[Jo];omega) (hp.set hil h0) (hq.set hil h0)]
def Zm(a b:List Int):List Int:=(List.range a.length).map fun(k:Nat)=>if 0<JA b k then JA b k else JA a k
theorem Zp(a b:List Int):(Zm a b).length=a.length:=by simp[Zm]
theorem UX{a b:List Int}{k:Nat}(h:k<a.length):JA (Zm a b) k=if 0<JA b k then JA b k else JA a k:=by
 rw[Qs (by rw[Zp];omega)]
 simp[Zm]
def QX(p:QV)(xs:List Int):QV:=⟨p.size,Zm p.given xs,p.rules⟩
theorem WV{a b:List Int}{n:Nat}(ha:Q9 a n)(hb:Q9 b n):Q9 (Zm a b) n:=⟨by rw[Zp];exact ha.len,fun k hk=>by
 rw[Zp]at hk
 rw[UX hk]
 split
 · exact hb.val k (by rw[hb.len,←ha.len];exact hk)
 · exact ha.val k hk⟩
theorem Ww{xs:List Int}{k:Nat}(h:xs.length≤k):JA xs (k:Int)=0:=by
 unfold JA
 rw[Int.toNat_natCast,List.getD_eq_getElem?_getD,Jz h]
 rfl
def Nn(p:QV)(n:Nat)(xs:List Int)(most:Nat):List (List Int):=if QK p (Zm p.given xs) n=true∧clear p xs=true then(ZA p n (n*n) (Zm p.given xs)).take most else[]
theorem Ns{p:QV}{n:Nat}{xs:List Int}(ha:Q9 p.given n)(hb:Q9 xs n)(h:clear p xs=true):Has p (Zm p.given xs):=fun k hk=>by
 have hkl:k<p.given.length:=by
  by_cases hkl:k<p.given.length
  · exact hkl
  · rw[Ww (by omega)]at hk;omega
 rw[UX hkl]
 split
 · rename_i hx
   simp only[clear,decide_eq_true_eq]at h
   have:=h k (by rw[hb.len,←ha.len];exact hkl)
   by_cases he:JA xs k=JA p.given k
   · exact he
   · exact absurd ⟨hk,hx,he⟩ this
 · rfl
theorem JiD(p:QV):Has p p.given:=fun _ _=>rfl
theorem JaJ{p:QV}{n:Nat}(hp:Ub p n)(hv:Jy p=true){xs:List Int}(hb:Q9 xs n)(most:Nat):Nn p n xs most=if QK p xs n=true then UV (QX p xs) most else[]:=by
 have hn:=hp.hn
 have hs:((p.size.toNat:Nat):Int)=p.size:=(Ub.of hv).2
 have hsn:p.size.toNat=n:=by have:=hp.size;omega
 have ha:Q9 p.given n:=by
  have:=Q9.of hn (xs:=p.given) (n:=n) (by rw[←hp.size];exact ZI hv)
  exact this
 have hg:=WV ha hb
 have hxw:∀k:Nat,0<JA xs k→JA (Zm p.given xs) k=JA xs k:=fun k hk=>by
  have hkl:k<xs.length:=by
   by_cases hkl:k<xs.length
   · exact hkl
   · rw[Ww (by omega)]at hk;omega
  rw[UX (by rw[ha.len,←hb.len];exact hkl),if_pos hk]
 have hqv:Jy (QX p xs)=true:=by
  simp only[Jy,Bool.and_eq_true,decide_eq_true_eq]at hv⊢
  refine⟨?_,hv.2⟩
  show J8 (Zm p.given xs) p.size=true
  rw[hp.size]
  exact hg.valid hn
 unfold Nn
 by_cases hc:clear p xs=true
 · have hP:=Ns ha hb hc
   have hQ:=JiD (QX p xs)
   have hfq:QK (QX p xs) (QX p xs).given n=QK p (Zm p.given xs) n:=(JaI (p:=p) (q:=QX p xs) rfl hP hQ).symm
   have hsq:ZA (QX p xs) n (n*n) (QX p xs).given=ZA p n (n*n) (Zm p.given xs):=(Rj (p:=p) (q:=QX p xs) rfl (n*n) _ (by rw[hg.len];exact Nat.le_refl _) hP hQ).symm
   by_cases hf:QK p (Zm p.given xs) n=true
   · rw[if_pos ⟨hf,hc⟩,if_pos (XW hp hb hg hxw hf)]
     unfold UV
     have e:(QX p xs).size.toNat=n:=hsn
     rw[e,if_pos ⟨hqv,by rw[hfq];exact hf⟩,hsq]
   · rw[if_neg (fun h=>hf h.1)]
     split
     · unfold UV
       have e:(QX p xs).size.toNat=n:=hsn
       rw[e,if_neg (fun h=>hf (by rw[←hfq];exact h.2))]
     · rfl
 · rw[if_neg (fun h=>hc h.2)]
   have:QK p xs n=false:=by
    have:clear p xs=false:=by simpa using hc
    simp[QK,this]
   rw[this]
   rfl
def WR(p:QV)(xs:List Int)(most:Int):Int:=if Jy p=true∧J8 xs p.size=true∧1≤most∧most≤600 then(Nn p p.size.toNat xs most.toNat).length else-1
def UL(s xs:List Int)(k:Nat):List Int:=((List.range xs.length).take k).flatMap fun(i:Nat)=>if 0<JA xs i∧JA xs i≠JA s i then[(i:Int)]else[]
def Jk8:List (List Int)→List Int→List Int
 |[s],xs=>UL s xs xs.length
 |_,_=>[]
def Xw(p:QV)(xs:List Int):List Int:=if Jy p=true∧J8 xs p.size=true then Jk8 (UV p 2) xs else[]
end Go.Lg

namespace Go.Lg
open Go.Proofs
theorem Jhb{p:QV}{most:Nat}:∀s∈UV p most,Q9 s p.size.toNat∧∀k:Nat,k<p.given.length→0<JA s k:=by
 intro s hs
 unfold UV at hs
 split at hs
 · rename_i h
   obtain⟨hp,hz⟩:=Ub.of h.1
   have hg:=Q9.of hp.hn (xs:=p.given) (by rw[hz];exact ZI h.1)
   obtain⟨q1,q2,_⟩:=Wd p _ _ (Nat.le_refl _) hg (fun k hk=>absurd hk (by omega)) s (List.mem_of_mem_take hs)
   exact⟨q1,fun k hk=>q2 k (by rw[←hg.len];exact hk)⟩
 · simp at hs
theorem Jjm(p:QV)(most:Nat):(UV p most).length≤most:=by
 unfold UV
 split
 · rw[JL];omega
 · simp
theorem Jhc{p:QV}(hv:Jy p=true){most:Nat}{s:List Int}(hs:s∈UV p most):s.length=p.given.length:=by
 obtain⟨hp,hz⟩:=Ub.of hv
 rw[(Jhb s hs).1.len,hp.len]
attribute [-go_sem] J9
def XH(a b:List Int)(k:Nat):List Int:=(Zm a b).take k++a.drop k
theorem JjC(a b:List Int):XH a b 0=a:=by simp[XH]
theorem Jfx{a b:List Int}{k:Nat}:(XH a b k).length=a.length:=by simp[XH,Zp];omega
theorem Jfy{a b:List Int}{k:Nat}(h:a.length≤k):XH a b k=Zm a b:=by
 unfold XH
 rw[Js (by rw[Zp];exact h),List.drop_of_length_le h,Ju]
theorem Jfv{a b:List Int}{k:Nat}(h:k<a.length)(h0:0<JA b k):(XH a b k).set k (JA b k)=XH a b (k+1):=by
 have e:(Zm a b).take (k+1)=(Zm a b).take k++[JA b k]:=by rw[Ql (by rw[Zp];exact h),UX h,if_pos h0]
 unfold XH
 rw[e,List.set_append_right _ _ (by rw[JL,Zp];omega),JL,Zp,Nat.min_eq_left (by omega),Nat.sub_self,List.drop_eq_getElem_cons h,List.set_cons_zero,Jt]
 rfl
theorem Jfw{a b:List Int}{k:Nat}(h:k<a.length)(h0:¬0<JA b k):XH a b (k+1)=XH a b k:=by
 have e:(Zm a b).take (k+1)=(Zm a b).take k++[JA a k]:=by rw[Ql (by rw[Zp];exact h),UX h,if_neg h0]
 unfold XH
 rw[e,Jt]
 congr 1
 rw[List.drop_eq_getElem_cons h,Qs (by omega)]
 simp
theorem Xp(p:QV)(xs:List Int)(hx:p.given.length≤2^40)(hl:p.given.length≤xs.length)(h0:0<p.given.length):JW Tryz.prog 104 [aP p,QG xs] (aP (QX p xs)):=by
 refine JW.iced ?_
 refine Jn.cw (c:=_) Tryz.func104 rfl (n:=35) Tryz.ntmps104 (rs:=[.cell 4 26]) rfl ?_
 simp only[Je,Jf,zA,zS,Jd,Ja,Jc]
 simp(maxSteps:=999999)(disch:=omega)only[go_sem,zA,zM,zS,zE,zL]
 intro g0 g1 g2
 refine Rb (HI:=[_,_]) (Qi Uv rfl YQ) ⟨rfl,rfl,rfl⟩ ⟨h0,hx⟩ ?_
 intro g3
 simp(maxSteps:=999999)(disch:=omega)only[go_sem,zA,zM,zS,zE,zL]
 refine JT (fun k:Nat=>p.given.length -k) (fun k=>k≤p.given.length) (fun k=>[.a, .k, .k, .a, .k, .k, .p (int k), .a, .a, .a, .a, .a, .a, .a, .a, .a, .a, .a, .a, .a, .a, .a, .a, .a, .a, .a, .a, .a, .a, .a, .a, .a, .a, .a, .a]) (fun k=>[some ⟨g0,1,cP p⟩,some ⟨g1,3,[CV.f (FV.int IntKind.i64 0),CV.f FV.nil,CV.f FV.nil]⟩,some ⟨g3,1,cl (eI .i64) (XH p.given xs k)⟩]) 0 (Nat.zero_le _) (by simp(maxSteps:=999999)(disch:=omega)only[go_sem,zA,zM,zS,zE,zL];rfl) (by rw[JjC];exact J0.refl _) ?_
 intro k hk
 have hwl:=Jfx (a:=p.given) (b:=xs) (k:=k)
 simp(maxSteps:=999999)(disch:=omega)only[go_sem,zA,zM,zS,zE,zL]
 ((first|(with_reducible first|refine Jl ?_ ?_|refine Jj ?_ ?_|refine Jp ?_ ?_)|refine Jr ?_ ?_)<;>intro c1)
 · have c1:k<p.given.length:=by omega
   simp(maxSteps:=999999)(disch:=omega)only[go_sem,zA,zM,zS,zE,zL]
   ((first|(with_reducible first|refine Jl ?_ ?_|refine Jj ?_ ?_|refine Jp ?_ ?_)|refine Jr ?_ ?_)<;>intro c2)
   · simp(maxSteps:=999999)(disch:=omega)only[go_sem,zA,zM,zS,zE,zL]
     rw[Int.toNat_natCast,Jfv c1 c2]
     exact⟨k+1,⟨by omega,by omega⟩,by push_cast;omega,J0.refl _⟩
   · simp(maxSteps:=999999)(disch:=omega)only[go_sem,zA,zM,zS,zE,zL]
     refine⟨k+1,⟨by omega,by omega⟩,by push_cast;omega, ?_⟩
     rw[Jfw c1 c2]
     exact J0.refl _
 · simp(maxSteps:=999999)(disch:=omega)only[go_sem,zA,zM,zS,zE,zL]
   rw[Jfy (by omega)]
   have hown:Qw [some ⟨g0,1,cP p⟩,some ⟨g1,3,[CV.f (FV.int IntKind.i64 p.size),CV.own 2 g3 0 p.given.length none,CV.f (Va eR p.rules)]⟩,some ⟨g3,1,cl (eI .i64) (Zm p.given xs)⟩] (.own 2 g3 0 p.given.length none) (Zm p.given xs) [2]:=by
    have:=Qw.o (H:=[some ⟨g0,1,cP p⟩,some ⟨g1,3,[CV.f (FV.int IntKind.i64 p.size),CV.own 2 g3 0 p.given.length none,CV.f (Va eR p.rules)]⟩,some ⟨g3,1,cl (eI .i64) (Zm p.given xs)⟩]) 2 g3 none (Zm p.given xs) [] (by rw[Ju];simp only[go_sem])
    rwa [Zp]at this
   refine Ui ?_
   have hf:=hown.frzC
   show(([_,_,_]:List CV).mapM (Lg.frzC _)).map AV.agg=_
   simp only[J3,QC,hf,Option.bind_eq_bind,Option.pure_def]
   rfl
end Go.Lg

namespace Go.Lg
open Go.Proofs
attribute [-go_sem] J9 JE
def Jl9(H:Jm)(c:CV)(ls:List (List Int)):Prop:=∃oid og cs,c= .own oid og 0 ls.length none∧look H oid og=some ⟨og,1,cs⟩∧cs.length=ls.length∧∀i (h:i<ls.length),∃id g,cs[i]? =some (.own id g 0 ls[i].length none)∧look H id g=some ⟨g,1,cl (eI .i64) ls[i]⟩
theorem Jl9.shift{H0 H:Jm}{c:CV}{ls:List (List Int)}(h:Jl9 H c ls):Jl9 (H0++Q2 H0.length H) (Uc H0.length c) ls:=by
 obtain⟨oid,og,cs,rfl,k1,k2,k3⟩:=h
 refine⟨oid+H0.length,og,cs.map (Uc H0.length),rfl,Ux k1,by rw[Qr];exact k2,fun i hi=> ?_⟩
 obtain⟨id,g,q1,q2⟩:=k3 i hi
 refine⟨id+H0.length,g,by rw[Qu,q1];rfl, ?_⟩
 rw[Ux q2]
 simp only[ZG,Ws]
section
variable{P:Program}{o:Oper}{st:St}{K:KV}{fo:Operand}{xs:Array Operand}{ts:Array TypeId}{f:FuncId}{args:List AV}
end
def smD(p:QV):Prop:=p.given.length≤16∧W8 p.rules 30 5
theorem smD.sm{p:QV}(h:smD p):YR p:=⟨by have:=h.1;omega,by have:=h.2.1;omega,fun r hr=>by have:=h.2.2 r hr;omega⟩
structure TrI(H HI:Jm)(id g:Nat)(B:Int)(g4 J g6:Nat)(p:QV)(c:CV)(zs:List Int):Prop where
 out:look HI H.length g4=some ⟨g4,3,[.f (.int .i64 0), .f .nil, .f .nil]⟩
 puz:look HI J g6=some ⟨g6,3,cP p⟩
 grid:∃gid gg,c= .own gid gg 0 zs.length none∧look HI gid gg=some ⟨gg,1,cl (eI .i64) zs⟩∧H.length<gid∧gid≠J
 rd:Zl HI id g B
 lt:id<H.length
 ln:H.length<J∧J<HI.length
 frm:∀k,k<H.length→k≠id→HI[k]? =H[k]?
section
variable{H HI H2:Jm}{id g g4 J g6:Nat}{B B':Int}{p:QV}{c:CV}{zs:List Int}
theorem TrI.mono(h:TrI H HI id g B g4 J g6 p c zs)(hb:B≤B'):TrI H HI id g B' g4 J g6 p c zs:={h with rd:=h.rd.mono hb}
theorem TrI.step(h:TrI H HI id g B g4 J g6 p c zs)(hs:∀i,H.length≤i→i<HI.length→H2[i]? =HI[i]?)(hl:HI.length≤H2.length)(hr:Zl H2 id g B')(hf:∀k,k<H.length→k≠id→H2[k]? =HI[k]?):TrI H H2 id g B' g4 J g6 p c zs:=by
 have hn:=h.ln
 have hL:∀i g,H.length≤i→i<HI.length→look H2 i g=look HI i g:=fun i g h1 h2=>by unfold look;rw[hs i h1 h2]
 obtain⟨gid,gg,g1,g2,g3,g4⟩:=h.grid
 have hgl:gid<HI.length:=(Jg.1 (JJ g2).1).1
 exact{out:=by rw[hL _ _ (Nat.le_refl _) (by omega)];exact h.out
       puz:=by rw[hL _ _ (by omega) (by omega)];exact h.puz
       grid:=⟨gid,gg,g1,by rw[hL _ _ (by omega) hgl];exact g2,g3,g4⟩
       rd:=hr,lt:=h.lt,ln:=by omega
       frm:=fun k hk hne=>by rw[hf k hk hne];exact h.frm k hk hne}
theorem TrI.pick(h:TrI H HI id g B g4 J g6 p c zs)(hr:Zl H2 id g B')(hf:Vn HI H2 [id]):TrI H H2 id g B' g4 J g6 p c zs:=by
 have hl:=h.lt
 exact h.step (fun i hi _=>hf.2 i (by simp;omega)) (by rw[hf.1];exact Nat.le_refl _) hr fun k hk hne=>hf.2 k (by simpa using hne)
theorem TrI.app{X:Jm}(h:TrI H HI id g B g4 J g6 p c zs):TrI H (HI++X) id g B g4 J g6 p c zs:=by
 have hn:=h.ln
 exact h.step (fun i _ hi=>Jb hi) (by simp) h.rd.app fun k hk _=>Jb (by omega)
theorem TrI.set(h:TrI H HI id g B g4 J g6 p c zs){gid gg:Nat}(hc:c= .own gid gg 0 zs.length none)(k:Nat)(v:Int):TrI H (HI.set gid (some ⟨gg,1,cl (eI .i64) (zs.set k v)⟩)) id g B g4 J g6 p c (zs.set k v):=by
 have hn:=h.ln
 have hl:=h.lt
 obtain⟨gid',gg',g1,g2,g3,g4⟩:=h.grid
 rw[hc]at g1
 cases g1
 have hgl:gid<HI.length:=(Jg.1 (JJ g2).1).1
 exact{out:=by rw[J5 (by omega)];exact h.out
       puz:=by rw[J5 (by omega)];exact h.puz
       grid:=⟨gid,gg,by rw[hc,Jo],JU hgl,g3,g4⟩
       rd:=h.rd.same (by rw[Ji (by omega)])
       lt:=hl,ln:=by rw[Jo];exact hn
       frm:=fun k hk hne=>by rw[Ji (by omega)];exact h.frm k hk hne}
end
theorem Jla{xs:List Int}(h:∀x∈xs,(Lit.int .u8 x).wf=true):∀x∈xs,0≤x∧x≤255:=fun x hx=>by
 have:=h x hx
 simp[Lit.wf]at this
 have e1:IntKind.u8.min=0:=by decide
 have e2:IntKind.u8.max=255:=by decide
 omega
theorem Zl.shift{H0 H:Jm}{id g:Nat}{B:Int}(h:Zl H id g B):Zl (H0++Q2 H0.length H) (id+H0.length) g B:=by
 obtain⟨sz,b,p,h1,h2⟩:=h
 exact⟨sz,b,p,by rw[Ux h1];rfl,h2⟩
theorem JY.mkRd{P:Program}{o:Oper}{st:St}{K:KV}{fo:Operand}{xs:Array Operand}{ts:Array TypeId}{f:FuncId}{args:List AV}(hc:Jn P f args [] (fun v H'=>∃g,v= .c (.ptr 0 g 0)∧Zl H' 0 g 0∧H'.length=1))(he:Jh P f)(ho:o.op= .call ⟨.value fo,xs,ts⟩)(ha:Qa st fo xs=some (f,args))(hf:args.all Q0=true)
 (hk:∀g H',Zl (st.h++H') st.h.length g 0→H'.length=1→K (.c (.ptr st.h.length g 0)) (st.h++H')):JY P o st K:=
 JY.mkQ hc he ho ha hf fun r H' ⟨g,h1,h2,h3⟩=>by
  subst h1
  refine⟨rfl, ?_⟩
  have:=hk g (Q2 st.h.length H') (by have:=h2.shift (H0:=st.h);rwa [Nat.zero_add]at this) (by rw[Q5];exact h3)
  show K (.c (.ptr (0+st.h.length) g 0)) _
  rw[Nat.zero_add]
  exact this
end Go.Lg
