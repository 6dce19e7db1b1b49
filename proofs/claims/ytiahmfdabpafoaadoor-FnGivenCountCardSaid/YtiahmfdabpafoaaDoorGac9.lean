/- GpFA, GpHA, cut to what is needed. -/
import Derived.Test.YtiahmfdabpafoaaDoorGac7
open Nat renaming reduceAdd→zA,reduceMul→zM,reduceSub→zS,reduceEqDiff→zE,reduceLeDiff→zL
set_option linter.unusedSimpArgs false
set_option linter.unusedVariables false
set_option maxRecDepth 100000
namespace Go.Lg
open Go.Proofs
theorem GrdN.nn'{xs:List Int}{n:Nat}(h:GrdN xs n)(c:Int):0≤nth xs c:=by
 rw[nth_toNat]
 by_cases hk:c.toNat<xs.length
 · exact(h.val _ hk).1
 · unfold nth
   rw[Int.toNat_natCast,List.getD_eq_getElem?_getD,List.getElem?_eq_none (by omega)]
   exact Int.le_refl _
theorem GrdN.set{xs:List Int}{n i v:Nat}(hg:GrdN xs n)(hi:i<xs.length)(hv:v≤n):GrdN (xs.set i (v:Int)) n:=⟨by rw[List.length_set];exact hg.len,fun k hk=>by
 rw[List.length_set]at hk
 rw[nth_setN _ _ _ _ hi]
 split
 · omega
 · exact hg.val k hk⟩
theorem sols_succ(p:Puz)(n m:Nat)(xs:List Int){i:Nat}(hi:xs.length -(m+1)=i):sols p n (m+1) xs=if 0<nth xs i then sols p n m xs else(vals n 1).flatMap fun(v:Nat)=>if fitsL p (xs.set i (v:Int)) n=true then sols p n m (xs.set i (v:Int))else[]:=by
 conv=>lhs;rw[sols,hi]
 rfl
theorem vals_mem{n v:Nat}(h:v∈vals n 1):1≤v∧v≤n:=by
 unfold vals at h
 rw[Nat.sub_self,List.drop_zero]at h
 obtain⟨k,hk,rfl⟩:=List.mem_map.1 h
 rw[List.mem_range]at hk
 omega
theorem sols_full(p:Puz){n:Nat}:∀(m:Nat) (xs:List Int),m≤n*n→GrdN xs n→(∀k:Nat,k<n*n -m→0<nth xs k)→∀s∈sols p n m xs,GrdN s n∧(∀k:Nat,k<n*n→0<nth s k)∧∀k:Nat,0<nth xs k→nth s k=nth xs k
 |0,xs,hm,hg,hf,s,hs=>by
  rw[sols,List.mem_singleton]at hs
  subst hs
  exact⟨hg,fun k hk=>hf k (by omega),fun _ _=>rfl⟩
 |m+1,xs,hm,hg,hf,s,hs=>by
  have hxl:=hg.len
  obtain⟨i,hi⟩:∃i,i=xs.length -(m+1):=⟨_,rfl⟩
  rw[sols_succ p n m xs hi.symm]at hs
  split at hs
  · rename_i h0
    exact sols_full p m xs (by omega) hg (fun k hk=>by
     by_cases hki:k=i
     · rw[hki];exact h0
     · exact hf k (by omega)) s hs
  · rename_i h0
    obtain⟨v,hv,hs⟩:=List.mem_flatMap.1 hs
    have hvb:=vals_mem hv
    have hil:i<xs.length:=by omega
    split at hs
    · obtain⟨q1,q2,q3⟩:=sols_full p m (xs.set i (v:Int)) (by omega) (hg.set hil hvb.2) (fun k hk=>by
       rw[nth_setN _ _ _ _ hil]
       split
       · omega
       · exact hf k (by omega)) s hs
      refine⟨q1,q2,fun k hk=> ?_⟩
      have hki:k≠i:=fun h=>by rw[h]at hk;omega
      have:=q3 k (by rw[nth_setN _ _ _ _ hil,if_neg hki];exact hk)
      rw[nth_setN _ _ _ _ hil,if_neg hki]at this
      exact this
    · simp at hs
def LeB(o o':List Nat):Prop:=o.length=o'.length∧∀k b:Nat,(o.getD k 0).testBit b=true→(o'.getD k 0).testBit b=true
theorem LeB.refl(o:List Nat):LeB o o:=⟨rfl,fun _ _ h=>h⟩
theorem LeB.trans{a b c:List Nat}(h1:LeB a b)(h2:LeB b c):LeB a c:=⟨h1.1.trans h2.1,fun k x h=>h2.2 k x (h1.2 k x h)⟩
theorem orV_getD{o:List Nat}{vs:List Int}(h:vs.length=o.length)(k:Nat):(orV o vs).getD k 0=if k<o.length then(o.getD k 0|||2^(nth vs k).toNat)else 0:=by
 by_cases hk:k<o.length
 · rw[if_pos hk]
   have h1:k<(orV o vs).length:=by rw[orV_length];omega
   rw[List.getD_eq_getElem?_getD,List.getElem?_eq_getElem h1,List.getD_eq_getElem?_getD,List.getElem?_eq_getElem hk,nth_eq (by omega)]
   simp[orV]
 · rw[if_neg hk,List.getD_eq_getElem?_getD,List.getElem?_eq_none (by rw[orV_length];omega)]
   rfl
theorem orV_le{o:List Nat}{vs:List Int}(h:vs.length=o.length):LeB o (orV o vs):=⟨by rw[orV_length];omega,fun k b hb=>by
 rw[orV_getD h]
 split
 · rw[Nat.testBit_or,hb,Bool.true_or]
 · rename_i hk
   rw[List.getD_eq_getElem?_getD,List.getElem?_eq_none (by omega)]at hb
   simp at hb⟩
theorem orV_mono{o o':List Nat}{vs:List Int}(h:vs.length=o.length)(hl:LeB o o'):LeB (orV o vs) (orV o' vs):=⟨by rw[orV_length,orV_length,hl.1],fun k b hb=>by
 rw[orV_getD h]at hb
 rw[orV_getD (h.trans hl.1),←hl.1]
 split at hb
 · rename_i hk
   rw[if_pos hk]
   rw[Nat.testBit_or,Bool.or_eq_true]at hb⊢
   exact hb.imp (hl.2 k b) id
 · simp at hb⟩
theorem ways_le(r:Rul):∀(ms:List Nat) (pre:List Int) (o:List Nat),pre.length+ms.length=o.length→LeB o (ways r ms pre o)
 |[],pre,o,h=>by
  unfold ways
  split
  · exact orV_le (by simpa using h)
  · exact .refl _
 |m::ms,pre,o,h=>by
  rw[ways_cons]
  have:∀(l:List Int) (o:List Nat),pre.length+1+ms.length=o.length→LeB o (l.foldl (fun o v=>ways r ms (pre++[v]) o) o):=by
   intro l
   induction l with
   |nil=>exact fun o _=> .refl _
   |cons v l ih=>
    intro o h
    rw[List.foldl_cons]
    have h1:=ways_le r ms (pre++[v]) o (by simp;omega)
    exact h1.trans (ih _ (by rw[←h1.1];exact h))
  exact this _ _ (by simp at h;omega)
theorem ways_mono(r:Rul):∀(ms ms':List Nat) (pre:List Int) (o o':List Nat),pre.length+ms.length=o.length→ms.length=ms'.length→(∀k v:Nat,1≤v→v≤4→(ms.getD k 0).testBit v=true→(ms'.getD k 0).testBit v=true)→LeB o o'→LeB (ways r ms pre o) (ways r ms' pre o')
 |[],[],pre,o,o',h,_,_,ho=>by
  unfold ways
  split
  · exact orV_mono (by simpa using h) ho
  · exact ho
 |[],_::_,_,_,_,_,h,_,_=>by simp at h
 |_::_,[],_,_,_,_,h,_,_=>by simp at h
 |m::ms,m'::ms',pre,o,o',h,hl,hb,ho=>by
  have hstep:∀(v:Nat),1≤v→v≤4→∀(o o':List Nat),pre.length+1+ms.length=o.length→LeB o o'→
   LeB (if m.testBit v=true then ways r ms (pre++[(v:Int)]) o else o) (if m'.testBit v=true then ways r ms' (pre++[(v:Int)]) o' else o')∧pre.length+1+ms.length=(if m.testBit v=true then ways r ms (pre++[(v:Int)]) o else o).length:=by
   intro v hv1 hv4 o o' hlen ho
   have hlen':(pre++[(v:Int)]).length+ms.length=o.length:=by simp;omega
   by_cases hm:m.testBit v=true
   · have hm':m'.testBit v=true:=by simpa using hb 0 v hv1 hv4 (by simpa using hm)
     rw[if_pos hm,if_pos hm']
     exact⟨ways_mono r ms ms' _ o o' hlen' (by simpa using hl) (fun k v h1 h2 h3=>by simpa using hb (k+1) v h1 h2 (by simpa using h3)) ho,by rw[ways_len r ms _ _ hlen'];exact hlen⟩
   · rw[if_neg hm]
     refine⟨?_,hlen⟩
     split
     · exact ho.trans (ways_le r ms' _ o' (by rw[←ho.1];simp at hl⊢;omega))
     · exact ho
  have e:∀(M:Nat) (MS:List Nat) (O:List Nat),ways r (M::MS) pre O=[1,2,3,4].foldl (fun o (v:Nat)=>if M.testBit v=true then ways r MS (pre++[(v:Int)]) o else o) O:=fun _ _ _=>rfl
  rw[e,e]
  simp only[List.foldl_cons,List.foldl_nil]
  have h0:pre.length+1+ms.length=o.length:=by simp at h;omega
  obtain⟨a1,b1⟩:=hstep 1 (by omega) (by omega) o o' h0 ho
  obtain⟨a2,b2⟩:=hstep 2 (by omega) (by omega) _ _ b1 a1
  obtain⟨a3,b3⟩:=hstep 3 (by omega) (by omega) _ _ b2 a2
  exact(hstep 4 (by omega) (by omega) _ _ b3 a3).1
theorem maskAt_mono{xs ys:List Int}{n:Nat}(hn:n=2∨n=3∨n=4){c:Int}(h:0<nth xs c→nth ys c=nth xs c)(hy:0≤nth ys c∧nth ys c≤n){v:Nat}(hv:1≤v∧v≤4)(hb:(maskAt ys n c).testBit v=true):(maskAt xs n c).testBit v=true:=by
 unfold maskAt at hb⊢
 by_cases hx:0<nth xs c
 · rw[if_pos hx]
   rw[h hx,if_pos hx]at hb
   exact hb
 · rw[if_neg hx]
   by_cases hy0:0<nth ys c
   · rw[if_pos hy0,Nat.testBit_two_pow]at hb
     have hv':v≤n:=by simp at hb;omega
     clear hb
     have:v=1∨v=2∨v=3∨v=4:=by omega
     rcases hn with rfl|rfl|rfl<;>rcases this with rfl|rfl|rfl|rfl<;>first|omega|decide
   · rw[if_neg hy0]at hb
     exact hb
theorem canHold_mono{xs ys:List Int}{n:Nat}(hn:n=2∨n=3∨n=4){r:Rul}(h:∀c∈r.cells,0<nth xs c→nth ys c=nth xs c)(hy:∀c∈r.cells,0≤nth ys c∧nth ys c≤n)(hc:canHold r ys n=true):canHold r xs n=true:=by
 unfold canHold at hc⊢
 have hle:=ways_mono r (r.cells.map (maskAt ys n)) (r.cells.map (maskAt xs n)) [] (List.replicate r.cells.length 0) (List.replicate r.cells.length 0) (by simp) (by simp) (fun k v h1 h2 h3=>by
  by_cases hk:k<r.cells.length
  · have e:∀zs:List Int,(r.cells.map (maskAt zs n)).getD k 0=maskAt zs n r.cells[k]:=fun zs=>by
     rw[List.getD_eq_getElem?_getD,List.getElem?_map,List.getElem?_eq_getElem hk];rfl
    rw[e]at h3⊢
    have hm:r.cells[k]∈r.cells:=List.getElem_mem _
    exact maskAt_mono hn (h _ hm) (hy _ hm) ⟨h1,h2⟩ h3
  · rw[List.getD_eq_getElem?_getD,List.getElem?_eq_none (by simp;omega)]at h3
    simp at h3) (.refl _)
 generalize ways r (r.cells.map (maskAt ys n)) [] (List.replicate r.cells.length 0)=A at hc hle
 generalize ways r (r.cells.map (maskAt xs n)) [] (List.replicate r.cells.length 0)=B at hle⊢
 have hA:A.getD 0 0≠0:=by simpa using hc
 obtain⟨b,hb⟩:=Nat.exists_testBit_of_ne_zero hA
 have:=hle.2 0 b hb
 have hB:B.getD 0 0≠0:=fun h=>by rw[h]at this;simp at this
 simpa using hB
theorem cells_grd{r:Rul}{n:Nat}{ys:List Int}(hr:ruleValid r n=true)(hg:GrdN ys n):∀c∈r.cells,0≤nth ys c∧nth ys c≤n:=fun c hc=>by
 have h3:=(ruleValid_facts hr).2.2.1 c hc
 have hl:=hg.len
 obtain⟨k,rfl⟩:∃k:Nat,c=k:=⟨c.toNat,by omega⟩
 exact hg.val k (by omega)
theorem fits_mono{p:Puz}{n:Nat}(hp:PuzN p n){xs ys:List Int}(hx:GrdN xs n)(hy:GrdN ys n)(h:∀k:Nat,0<nth xs k→nth ys k=nth xs k)(hf:fitsL p ys n=true):fitsL p xs n=true:=by
 have hn:=hp.hn
 simp only[fitsL,Bool.and_eq_true,clear,decide_eq_true_eq,Bool.not_eq_true',List.all_eq_true]at hf⊢
 obtain⟨h1,h2,h3⟩:=hf
 have hc:∀c:Int,0<nth xs c→nth ys c=nth xs c:=fun c hc=>by
  rw[nth_toNat]at hc
  rw[nth_toNat ys,nth_toNat xs]
  exact h _ hc
 refine⟨fun k hk=> ?_,fun r hr=>canHold_mono hn (fun c _=>hc c) (cells_grd (hp.rv r hr) hy) (h2 r hr), ?_⟩
 · rintro⟨a,b,d⟩
   have:=h k b
   exact h1 k (by rw[hy.len,←hx.len];exact hk) ⟨a,by omega,by omega⟩
 · rw[clash_nc hn hy.nn']at h3
   rw[clash_nc hn hx.nn']
   intro a b hab hb hl h0 he
   have e1:=h a h0
   have e2:=h b (by omega)
   exact h3 a b hab hb hl (by omega) (by omega)
def Has(p:Puz)(xs:List Int):Prop:=∀k:Nat,0<nth p.given k→nth xs k=nth p.given k
theorem Has.clear{p:Puz}{xs:List Int}(h:Has p xs):Lg.clear p xs=true:=by
 simp only[Lg.clear,decide_eq_true_eq]
 exact fun k hk ⟨a,b,c⟩=>c (h k a)
theorem Has.set{p:Puz}{xs:List Int}(h:Has p xs){i:Nat}{v:Int}(hi:i<xs.length)(h0:¬0<nth xs i):Has p (xs.set i v):=fun k hk=>by
 rw[nth_setN _ _ _ _ hi]
 have:=h k hk
 split
 · rename_i hki
   subst hki
   omega
 · exact this
theorem nth_over{xs:List Int}{k:Nat}(h:xs.length≤k):nth xs (k:Int)=0:=by
 unfold nth
 rw[Int.toNat_natCast,List.getD_eq_getElem?_getD,List.getElem?_eq_none h]
 rfl
end Go.Lg

namespace Go.Lg
open Go.Proofs
def Full(n:Nat)(s:List Int):Prop:=GrdN s n∧∀k:Nat,k<n*n→0<nth s k
def ExtG(xs s:List Int):Prop:=∀k:Nat,0<nth xs k→nth s k=nth xs k
instance(xs s:List Int):Decidable (ExtG xs s):=decidable_of_iff (∀k,k<xs.length→0<nth xs (k:Int)→nth s (k:Int)=nth xs (k:Int)) ⟨fun h k hk=>by
 by_cases hl:k<xs.length
 · exact h k hl hk
 · rw[nth_over (by omega)]at hk;omega,fun h k _=>h k⟩
theorem ExtG.refl(xs:List Int):ExtG xs xs:=fun _ _=>rfl
theorem ExtG.trans{a b c:List Int}(h:ExtG a b)(k:ExtG b c):ExtG a c:=fun i hi=>by
 have:=h i hi
 rw[k i (by omega),this]
theorem ExtG.set{xs:List Int}{i:Nat}{v:Int}(hi:i<xs.length)(h0:¬0<nth xs i):ExtG xs (xs.set i v):=fun k hk=>by
 rw[nth_setN _ _ _ _ hi,if_neg (fun h=>by subst h;exact h0 hk)]
theorem ExtG.of_set{xs s:List Int}{i:Nat}{v:Int}(hi:i<xs.length)(h:ExtG xs s)(hv:nth s i=v):ExtG (xs.set i v) s:=fun k hk=>by
 rw[nth_setN _ _ _ _ hi]at hk⊢
 split
 · rename_i hki;subst hki;exact hv
 · rename_i hki;rw[if_neg hki]at hk;exact h k hk
theorem sols_fit(p:Puz)(n:Nat):∀(m:Nat) (xs:List Int),fitsL p xs n=true→∀s∈sols p n m xs,fitsL p s n=true
 |0,xs,hf,s,hs=>by rw[sols,List.mem_singleton]at hs;subst hs;exact hf
 |m+1,xs,hf,s,hs=>by
  rw[sols_succ p n m xs rfl]at hs
  split at hs
  · exact sols_fit p n m xs hf s hs
  · obtain⟨v,hv,hs⟩:=List.mem_flatMap.1 hs
    split at hs
    · rename_i h;exact sols_fit p n m _ h s hs
    · simp at hs
theorem mem_vals{n v:Nat}(h:1≤v∧v≤n):v∈vals n 1:=by
 unfold vals
 rw[Nat.sub_self,List.drop_zero,List.mem_map]
 exact⟨v -1,List.mem_range.2 (by omega),by omega⟩
theorem vals_nodup(n:Nat):(vals n 1).Nodup:=by
 unfold vals
 rw[Nat.sub_self,List.drop_zero]
 exact List.pairwise_map.2 ((List.nodup_range (n:=n)).imp fun h=>by omega)
theorem sols_complete{p:Puz}{n:Nat}(hp:PuzN p n){s:List Int}(hs:Full n s)(hf:fitsL p s n=true):∀(m:Nat) (xs:List Int),m≤n*n→GrdN xs n→(∀k:Nat,k<n*n -m→0<nth xs k)→ExtG xs s→s∈sols p n m xs
 |0,xs,hm,hg,hk,he=>by
  rw[sols,List.mem_singleton]
  refine ext_nth (by rw[hs.1.len,hg.len]) fun j hj=>he j (hk j (by rw[hs.1.len]at hj;omega))
 |m+1,xs,hm,hg,hk,he=>by
  have hxl:=hg.len
  obtain⟨i,hi⟩:∃i,i=xs.length -(m+1):=⟨_,rfl⟩
  have hil:i<xs.length:=by omega
  rw[sols_succ p n m xs hi.symm]
  split
  · rename_i h0
    refine sols_complete hp hs hf m xs (by omega) hg (fun k hk'=> ?_) he
    by_cases hki:k=i
    · rw[hki];exact h0
    · exact hk k (by omega)
  · rename_i h0
    have hv:=hs.1.val i (by rw[hs.1.len];omega)
    have hv0:=hs.2 i (by omega)
    obtain⟨v,hvv⟩:∃v:Nat,nth s i=v:=⟨(nth s i).toNat,by omega⟩
    refine List.mem_flatMap.2 ⟨v,mem_vals (by omega), ?_⟩
    have hes:=ExtG.of_set (v:=(v:Int)) hil he hvv
    have hgs:=hg.set (v:=v) hil (by omega)
    rw[if_pos (fits_mono hp hgs hs.1 hes hf)]
    refine sols_complete hp hs hf m _ (by omega) hgs (fun k hk'=> ?_) hes
    rw[nth_setN _ _ _ _ hil]
    split
    · omega
    · exact hk k (by omega)
theorem sols_nodup(p:Puz){n:Nat}:∀(m:Nat) (xs:List Int),m≤n*n→GrdN xs n→(∀k:Nat,k<n*n -m→0<nth xs k)→(sols p n m xs).Nodup
 |0,xs,_,_,_=>by rw[sols];simp
 |m+1,xs,hm,hg,hk=>by
  have hxl:=hg.len
  obtain⟨i,hi⟩:∃i,i=xs.length -(m+1):=⟨_,rfl⟩
  have hil:i<xs.length:=by omega
  rw[sols_succ p n m xs hi.symm]
  split
  · rename_i h0
    refine sols_nodup p m xs (by omega) hg fun k hk'=> ?_
    by_cases hki:k=i
    · rw[hki];exact h0
    · exact hk k (by omega)
  · have hkv:∀v:Nat,1≤v→∀k:Nat,k<n*n -m→0<nth (xs.set i (v:Int)) k:=fun v hv k hk'=>by
     rw[nth_setN _ _ _ _ hil]
     split
     · omega
     · exact hk k (by omega)
    rw[List.Nodup,List.pairwise_flatMap]
    refine⟨fun v hv=> ?_,(vals_nodup n).imp_of_mem fun{a b} ha hb hab x hx y hy hxy=> ?_⟩
    · have hvb:=vals_mem hv
      split
      · exact sols_nodup p m _ (by omega) (hg.set hil hvb.2) (hkv v hvb.1)
      · simp
    · subst hxy
      have hav:=vals_mem ha
      have hbv:=vals_mem hb
      split at hx
      · split at hy
        · have h1:=(sols_full p m _ (by omega) (hg.set hil hav.2) (hkv a hav.1) x hx).2.2 i (by rw[nth_setN _ _ _ _ hil,if_pos rfl];omega)
          have h2:=(sols_full p m _ (by omega) (hg.set hil hbv.2) (hkv b hbv.1) x hy).2.2 i (by rw[nth_setN _ _ _ _ hil,if_pos rfl];omega)
          rw[nth_setN _ _ _ _ hil,if_pos rfl]at h1 h2
          omega
        · simp at hy
      · simp at hx
def allL(p:Puz):List (List Int):=if puzzleValid p=true∧fitsL p p.given p.size.toNat=true then sols p p.size.toNat (p.size.toNat*p.size.toNat) p.given else[]
theorem allS_take(p:Puz)(most:Nat):allS p most=(allL p).take most:=by
 unfold allS allL
 split
 · rfl
 · simp
def IsSol(p:Puz)(s:List Int):Prop:=Full p.size.toNat s∧ExtG p.given s∧fitsL p s p.size.toNat=true
theorem puz_facts{p:Puz}(hv:puzzleValid p=true):PuzN p p.size.toNat∧GrdN p.given p.size.toNat:=by
 obtain⟨hp,hz⟩:=PuzN.of hv
 exact⟨hp,GrdN.of hp.hn (xs:=p.given) (by rw[hz];exact puzzleValid_grid' hv)⟩
theorem allL_mem{p:Puz}(hv:puzzleValid p=true)(s:List Int):s∈allL p↔IsSol p s:=by
 obtain⟨hp,hg⟩:=puz_facts hv
 unfold allL
 constructor
 · intro h
   split at h
   · rename_i hf
     obtain⟨q1,q2,q3⟩:=sols_full p _ _ (Nat.le_refl _) hg (fun k hk=>absurd hk (by omega)) s h
     exact⟨⟨q1,q2⟩,q3,sols_fit p _ _ _ hf.2 s h⟩
   · simp at h
 · rintro⟨h1,h2,h3⟩
   rw[if_pos ⟨hv,fits_mono hp hg h1.1 h2 h3⟩]
   exact sols_complete hp h1 h3 _ _ (Nat.le_refl _) hg (fun k hk=>absurd hk (by omega)) h2
theorem allL_nodup(p:Puz):(allL p).Nodup:=by
 unfold allL
 split
 · rename_i h
   exact sols_nodup p _ _ (Nat.le_refl _) (puz_facts h.1).2 (fun k hk=>absurd hk (by omega))
 · simp
theorem nodup_le{α:Type}[DecidableEq α]:∀{a b:List α},a.Nodup→(∀x∈a,x∈b)→a.length≤b.length
 |[],_,_,_=>by simp
 |x::a,b,hn,hs=>by
  rw[List.nodup_cons]at hn
  have hx:=hs x (by simp)
  have:=nodup_le (a:=a) (b:=b.erase x) hn.2 fun y hy=>by
   have hyb:=hs y (by simp[hy])
   exact(List.mem_erase_of_ne (fun h=>hn.1 (by rw[←h];exact hy))).2 hyb
  rw[List.length_erase_of_mem hx]at this
  have:=List.length_pos_of_mem hx
  simp only[List.length_cons]
  omega
def zeroP(n:Nat):Puz:=⟨n,List.replicate (n*n) 0,[]⟩
theorem fits_zeroP(n:Nat)(xs:List Int):fitsL (zeroP n) xs n= !clash xs n:=by
 have:clear (zeroP n) xs=true:=by
  simp only[clear,decide_eq_true_eq]
  rintro k _ ⟨h,_⟩
  rw[show(zeroP n).given=List.replicate (n*n) 0 from rfl,nth_zeros]at h
  omega
 unfold fitsL
 rw[this]
 rfl
theorem cntV_len(n:Nat)(xs:List Int)(i:Nat)(f:List Int→Nat)(S:List Int→List (List Int)):∀vs:List Nat,(∀v∈vs,(S (xs.set i (v:Int))).length=f (xs.set i v))→(vs.flatMap fun(v:Nat)=>if(!clash (xs.set i (v:Int)) n)=true then S (xs.set i (v:Int))else[]).length=cntV n f xs i vs
 |[],_=>by simp[cntV]
 |v::vs,h=>by
  have h1:=h v (by simp)
  have h2:=cntV_len n xs i f S vs fun w hw=>h w (by simp[hw])
  rw[List.flatMap_cons,List.length_append,h2]
  rw[cntV_sum,cntV_sum]
  simp only[sumV]
  cases hc:clash (xs.set i (v:Int)) n
  · simp only[Bool.not_false,if_true,Bool.false_eq_true,if_false,h1]
  · simp only[Bool.not_true,Bool.false_eq_true,if_false,if_true,List.length_nil]
theorem sols_cnt{n:Nat}:∀(m:Nat) (xs:List Int),m≤xs.length→(∀k:Nat,xs.length -m≤k→nth xs k=0)→(sols (zeroP n) n m xs).length=cntS n m xs
 |0,xs,_,_=>by simp[sols,cntS]
 |m+1,xs,hm,h0=>by
  obtain⟨i,hi⟩:∃i,i=xs.length -(m+1):=⟨_,rfl⟩
  have hil:i<xs.length:=by omega
  rw[sols_succ _ n m xs hi.symm,if_neg (by rw[h0 i (by omega)];omega)]
  have e:(vals n 1).flatMap (fun(v:Nat)=>if fitsL (zeroP n) (xs.set i (v:Int)) n=true then sols (zeroP n) n m (xs.set i (v:Int))else[])=(vals n 1).flatMap (fun(v:Nat)=>if(!clash (xs.set i (v:Int)) n)=true then sols (zeroP n) n m (xs.set i (v:Int))else[]):=by
   congr 1;funext v;rw[fits_zeroP]
  rw[e,cntV_len n xs i (cntS n m) (sols (zeroP n) n m) _ fun v _=>sols_cnt m _ (by rw[List.length_set];omega) fun k hk=>by
   rw[List.length_set]at hk
   rw[nth_setN _ _ _ _ hil,if_neg (by omega)]
   exact h0 k (by omega)]
  rw[cntS,hi]
  unfold vals
  rfl
theorem zero_len{n:Nat}(hn:n=2∨n=3∨n=4):(sols (zeroP n) n (n*n) (List.replicate (n*n) 0)).length=manyS n:=by
 rw[sols_cnt _ _ (by simp) fun k _=>nth_zeros _ _,cnt_many hn]
theorem grd_zeros{n:Nat}:GrdN (List.replicate (n*n) 0) n:=⟨by simp,fun k _=>by rw[nth_zeros];omega⟩
theorem zeroP_valid{n:Nat}(hn:n=2∨n=3∨n=4):puzzleValid (zeroP n)=true:=by
 have:=(grd_zeros (n:=n)).valid hn
 simp only[puzzleValid,Bool.and_eq_true,decide_eq_true_eq]
 exact⟨this,by simp[zeroP],by simp[zeroP]⟩
theorem fits_zeros{n:Nat}(hn:n=2∨n=3∨n=4):fitsL (zeroP n) (List.replicate (n*n) 0) n=true:=by
 rw[fits_zeroP,Bool.not_eq_true',clash_nc hn (fun c=>by rw[nth_zeros];omega)]
 intro a b _ _ _ h
 rw[nth_zeros]at h
 omega
theorem allL_zero{n:Nat}(hn:n=2∨n=3∨n=4):(allL (zeroP n)).length=manyS n:=by
 unfold allL
 have e:(zeroP n).size.toNat=n:=by simp[zeroP]
 rw[e,if_pos ⟨zeroP_valid hn,fits_zeros hn⟩]
 exact zero_len hn
theorem fits_clash{p:Puz}{n:Nat}{s:List Int}(h:fitsL p s n=true):clash s n=false:=by
 simp only[fitsL,Bool.and_eq_true,Bool.not_eq_true']at h
 exact h.2.2
theorem allL_le(p:Puz):(allL p).length≤576:=by
 by_cases hv:puzzleValid p=true
 · obtain⟨hp,hg⟩:=puz_facts hv
   have hn:=hp.hn
   have h1:=nodup_le (a:=allL p) (b:=allL (zeroP p.size.toNat)) (allL_nodup p) fun s hs=>by
    rw[allL_mem hv]at hs
    rw[allL_mem (zeroP_valid hn)]
    have e:(zeroP p.size.toNat).size.toNat=p.size.toNat:=Int.toNat_natCast _
    refine⟨by rw[e];exact hs.1,fun k hk=> ?_,by rw[e,fits_zeroP,fits_clash hs.2.2];rfl⟩
    rw[show(zeroP p.size.toNat).given=List.replicate _ 0 from rfl,nth_zeros]at hk
    omega
   rw[allL_zero hn]at h1
   have:manyS p.size.toNat≤576:=by unfold manyS;split<;>(try split)<;>omega
   omega
 · unfold allL
   rw[if_neg (fun h=>hv h.1)]
   simp
theorem allS_all(p:Puz):allS p 600=allL p:=by
 rw[allS_take,List.take_of_length_le (by have:=allL_le p;omega)]
end Go.Lg
