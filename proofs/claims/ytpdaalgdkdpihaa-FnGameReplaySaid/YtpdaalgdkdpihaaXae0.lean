/- GpSP, GpVG, GpHA, cut to what is needed. -/
import Derived.Test.YtpdaalgdkdpihaaXad9
import Derived.Test.YtpdaalgdkdpihaaXac2
import Derived.Test.YtpdaalgdkdpihaaXad8
import Derived.Test.YtpdaalgdkdpihaaXab5
import Derived.Test.YtpdaalgdkdpihaaXad4
import Derived.Test.YtpdaalgdkdpihaaXad3
open Nat renaming reduceAdd→zA,reduceMul→zM,reduceSub→zS,reduceEqDiff→zE,reduceLeDiff→zL
set_option linter.unusedSimpArgs false
set_option linter.unusedVariables false
set_option maxRecDepth 100000
namespace Go.Lg
open Go.Proofs
structure GamN(q:Gam)(n:Nat):Prop where
 pz:PuzN q.task n
 pv:puzzleValid q.task=true
 sz:q.task.size=n
 gv:GrdN q.task.given n
 pt:GrdN q.put n
 ln:q.put.length=q.task.given.length
 ok:gameOk q
theorem GamN.of{q:Gam}(h:gameValid q=true):∃n,GamN q n:=by
 obtain⟨h1,h2,h3,h4,h5,h6⟩:=gameValid_facts h
 obtain⟨hp,hz⟩:=PuzN.of h1
 have hg:=(puz_factsT h1).2
 refine⟨q.task.size.toNat,hp,h1,by omega,hg, ?_,h5,h4⟩
 have hb:=gridValid_bound h2
 exact⟨by rw[h5];exact hg.len,fun k hk=>by have:=hb.2.2.2.2 k hk;omega⟩
theorem GamN.len{q:Gam}{n:Nat}(h:GamN q n):4≤q.put.length∧q.put.length≤16∧q.moves.length≤16:=by
 have hn:=h.pz.hn
 have h1:=h.pt.len
 have h2:=len_le_of_sub _ _ h.ok.1 h.ok.2.1
 have h3:(filledAt q.put).length≤q.put.length:=by rw[filledAt_length];exact List.countP_le_length
 rcases hn with rfl|rfl|rfl<;>omega
theorem GamN.valid{q:Gam}{n:Nat}(h:GamN q n):gameValid q=true:=by
 have h1:=h.pt.valid h.pz.hn
 have h2:=h.len
 simp only[gameValid,Bool.and_eq_true,decide_eq_true_eq]
 exact⟨h.pv,by rw[h.sz];exact h1,by omega,h.ok⟩
theorem GamN.smG{q:Gam}{n:Nat}(h:GamN q n)(hp:smP q.task):Lg.smG q:=by
 have h2:=h.len
 exact⟨hp,by omega,by omega⟩
theorem GamN.grid{q:Gam}{n:Nat}(h:GamN q n):gameGrid q=bothG q.task.given q.put:=by
 unfold gameGrid
 rw[if_pos h.valid]
theorem GamN.one{q:Gam}{n:Nat}(h:GamN q n)(i:Nat)(hi:i<q.put.length):¬(0<nth q.put i∧0<nth q.task.given i):=fun⟨h1,h2⟩=>by
 have:=(h.ok.2.2 i (mem_filledAt.2 ⟨by omega,by omega,h1⟩)).2
 omega
theorem putOk_facts{q:Gam}{n:Nat}{c v:Int}(h:GamN q n)(ok:putOk q c v):∃i:Nat,c=i∧i<q.put.length∧nth q.put i=0∧nth q.task.given i=0∧1≤v∧v≤n:=by
 obtain⟨h1,h2,h3,h4,h5⟩:=ok
 obtain⟨i,rfl⟩:∃i:Nat,c=i:=⟨c.toNat,by omega⟩
 have hi:i<q.put.length:=by omega
 obtain⟨k1,k2,k3,_⟩:=grid_le h.valid hi
 have:=k1.1 h3
 exact⟨i,rfl,hi,by omega,by omega,h4,by rw[←h.sz];exact h5⟩
theorem putOk_of{q:Gam}{n i:Nat}{v:Int}(h:GamN q n)(hi:i<q.put.length)(h1:nth q.put i=0)(h2:nth q.task.given i≤0)(hv:1≤v∧v≤n):putOk q i v:=by
 obtain⟨k1,k2,k3,_⟩:=grid_le h.valid hi
 exact⟨by omega,by omega,k1.2 (by omega),hv.1,by rw[h.sz];exact hv.2⟩
theorem GamN.put{q:Gam}{n i:Nat}{v:Int}(h:GamN q n)(hi:i<q.put.length)(h1:nth q.put i=0)(h2:nth q.task.given i≤0)(hv:1≤v∧v≤n):GamN ⟨q.task,q.put.set i v,q.moves++[(i:Int)]⟩ n:=by
 have hs:∀k:Nat,nth (q.put.set i v) k=if k=i then v else nth q.put k:=fun k=>nth_setN _ _ _ _ hi
 have hnot:(i:Int)∉q.moves:=fun hm=>by
  have:=(mem_filledAt.1 (h.ok.2.1 _ hm)).2.2
  omega
 refine⟨h.pz,h.pv,h.sz,h.gv,⟨by rw[List.length_set];exact h.pt.len,fun k hk=> ?_⟩,by rw[List.length_set];exact h.ln, ?_, ?_, ?_⟩
 · rw[List.length_set]at hk
   show 0≤nth (q.put.set i v) k∧nth (q.put.set i v) k≤n
   rw[hs]
   split
   · omega
   · exact h.pt.val k hk
 · exact List.nodup_append.2 ⟨h.ok.1,by simp,fun a ha b hb he=>by
    rw[List.mem_singleton]at hb
    subst hb
    exact hnot (he▸ha)⟩
 · intro c hc
   show c∈filledAt (q.put.set i v)
   rcases List.mem_append.1 hc with hc|hc
   · obtain⟨k1,k2,k3⟩:=mem_filledAt.1 (h.ok.2.1 c hc)
     obtain⟨k,rfl⟩:∃k:Nat,c=k:=⟨c.toNat,by omega⟩
     refine mem_filledAt.2 ⟨k1,by rw[List.length_set];exact k2, ?_⟩
     rw[hs,if_neg (fun(he:k=i)=>hnot (by rw[←he];exact hc))]
     exact k3
   · rw[List.mem_singleton]at hc
     subst hc
     refine mem_filledAt.2 ⟨by omega,by rw[List.length_set];omega, ?_⟩
     rw[hs,if_pos rfl]
     omega
 · intro c hc
   obtain⟨k1,k2,k3⟩:=mem_filledAt.1 (show c∈filledAt (q.put.set i v)from hc)
   obtain⟨k,rfl⟩:∃k:Nat,c=k:=⟨c.toNat,by omega⟩
   rw[List.length_set]at k2
   rw[hs]at k3
   by_cases hk:k=i
   · subst hk
     exact⟨by simp,h2⟩
   · rw[if_neg hk]at k3
     obtain⟨m1,m2⟩:=h.ok.2.2 k (mem_filledAt.2 ⟨k1,k2,k3⟩)
     exact⟨by simp[m1],m2⟩
theorem nth_last(ms:List Int)(i:Int):nth (ms++[i]) (((ms++[i]).length:Int) -1)=i:=by
 rw[show(((ms++[i]).length:Int) -1)=((ms.length:Nat):Int) by simp]
 rw[nth_eq (by simp;omega)]
 simp
theorem put_fun{q:Gam}{n:Nat}{c v:Int}(h:GamN q n)(ok:putOk q c v):gamePut q c v=⟨q.task,q.put.set c.toNat v,q.moves++[c]⟩∧gamePutB q c v=true:=by
 unfold gamePut gamePutB
 rw[h.valid,if_pos rfl,if_pos ok]
 exact⟨rfl,by simp[ok]⟩
theorem put_no{q:Gam}{n:Nat}{c v:Int}(h:GamN q n)(ok:¬putOk q c v):gamePut q c v=q∧gamePutB q c v=false:=by
 unfold gamePut gamePutB
 rw[h.valid,if_pos rfl,if_neg ok]
 exact⟨rfl,by simp[ok]⟩
theorem put_keeps{q:Gam}{n:Nat}{c v:Int}(h:GamN q n):GamN (gamePut q c v) n:=by
 by_cases ok:putOk q c v
 · obtain⟨i,rfl,hi,h1,h2,h3,h4⟩:=putOk_facts h ok
   rw[(put_fun h ok).1,Int.toNat_natCast]
   exact h.put hi h1 (by omega) ⟨h3,h4⟩
 · rw[(put_no h ok).1]
   exact h
theorem put_back{q:Gam}{n:Nat}{c v:Int}(h:GamN q n)(ok:putOk q c v):gameBack (gamePut q c v)=q∧gameBackB (gamePut q c v)=true∧¬putOk (gamePut q c v) c v∧nth (gameGrid (gamePut q c v)) c=v∧0≤c∧c<((gameGrid (gamePut q c v)).length:Int):=by
 have hk:=put_keeps (c:=c) (v:=v) h
 obtain⟨i,rfl,hi,h1,h2,h3,h4⟩:=putOk_facts h ok
 have e:=(put_fun h ok).1
 rw[e]at hk⊢
 rw[Int.toNat_natCast]at hk⊢
 have hg:=hk.grid
 have hn:nth (gameGrid ⟨q.task,q.put.set i v,q.moves++[(i:Int)]⟩) i=v:=by
  rw[hg,bothG_nth (by show i<q.task.given.length;have:=h.ln;omega)]
  show max (nth q.task.given i) (nth (q.put.set i v) i)=v
  rw[nth_setN _ _ _ _ hi,if_pos rfl,h2]
  omega
 refine⟨?_, ?_,fun ok2=> ?_,hn,by omega, ?_⟩
 · unfold gameBack
   rw[if_pos hk.valid,if_neg (by simp)]
   have e1:nth (q.moves++[(i:Int)]) (((q.moves++[(i:Int)]).length:Int) -1)=i:=nth_last _ _
   show Gam.mk q.task ((q.put.set i v).set (nth (q.moves++[(i:Int)]) (((q.moves++[(i:Int)]).length:Int) -1)).toNat 0) ((q.moves++[(i:Int)]).take ((q.moves++[(i:Int)]).length -1))=q
   rw[e1,Int.toNat_natCast,List.set_set,set_same h1]
   simp
 · unfold gameBackB
   rw[hk.valid]
   simp
 · have:=ok2.2.2.1
   rw[hn]at this
   omega
 · rw[hg,bothG_length]
   show(i:Int)<(q.task.given.length:Int)
   have:=h.ln
   omega
theorem back_facts{q:Gam}{n:Nat}(h:GamN q n)(hm:q.moves≠[]):GamN (gameBack q) n∧∃i:Nat,nth q.moves ((q.moves.length:Int) -1)=i∧i<q.put.length∧gamePut (gameBack q) i (nth q.put i)=q∧gamePutB (gameBack q) i (nth q.put i)=true∧(gameBack q).moves.length+1=q.moves.length:=by
 rcases List.eq_nil_or_concat q.moves with he|⟨ms,c,he⟩
 · exact absurd he hm
 rw[List.concat_eq_append]at he
 have hl:nth q.moves ((q.moves.length:Int) -1)=c:=by rw[he];exact nth_last _ _
 have hc:c∈q.moves:=by rw[he];simp
 obtain⟨k1,k2,k3⟩:=mem_filledAt.1 (h.ok.2.1 c hc)
 obtain⟨i,rfl⟩:∃i:Nat,c=i:=⟨c.toNat,by omega⟩
 have hi:i<q.put.length:=by omega
 have hgv:=(h.ok.2.2 (i:Int) (mem_filledAt.2 ⟨k1,k2,k3⟩)).2
 have hnd:=h.ok.1
 rw[he]at hnd
 obtain⟨n1,_,n3⟩:=List.nodup_append.1 hnd
 have hnot:(i:Int)∉ms:=fun hx=>n3 _ hx _ (by simp) rfl
 have hb:gameBack q=⟨q.task,q.put.set i 0,ms⟩:=by
  unfold gameBack
  rw[if_pos h.valid,if_neg hm,hl,Int.toNat_natCast,he]
  simp
 have hs:∀k:Nat,nth (q.put.set i 0) k=if k=i then 0 else nth q.put k:=fun k=>nth_setN _ _ _ _ hi
 have hN:GamN (gameBack q) n:=by
  rw[hb]
  refine⟨h.pz,h.pv,h.sz,h.gv,⟨by rw[List.length_set];exact h.pt.len,fun k hk=> ?_⟩,by rw[List.length_set];exact h.ln,n1, ?_, ?_⟩
  · rw[List.length_set]at hk
    show 0≤nth (q.put.set i 0) k∧nth (q.put.set i 0) k≤n
    rw[hs]
    split
    · omega
    · exact h.pt.val k hk
  · intro c hc
    show c∈filledAt (q.put.set i 0)
    have hc:c∈ms:=hc
    obtain⟨j1,j2,j3⟩:=mem_filledAt.1 (h.ok.2.1 c (by rw[he];simp[hc]))
    obtain⟨k,rfl⟩:∃k:Nat,c=k:=⟨c.toNat,by omega⟩
    refine mem_filledAt.2 ⟨j1,by rw[List.length_set];exact j2, ?_⟩
    rw[hs,if_neg (fun(he:k=i)=>hnot (by rw[←he];exact hc))]
    exact j3
  · intro c hc
    obtain⟨j1,j2,j3⟩:=mem_filledAt.1 (show c∈filledAt (q.put.set i 0)from hc)
    obtain⟨k,rfl⟩:∃k:Nat,c=k:=⟨c.toNat,by omega⟩
    rw[List.length_set]at j2
    rw[hs]at j3
    by_cases hk:k=i
    · rw[if_pos hk]at j3
      omega
    · rw[if_neg hk]at j3
      obtain⟨m1,m2⟩:=h.ok.2.2 k (mem_filledAt.2 ⟨j1,j2,j3⟩)
      rw[he]at m1
      refine⟨?_,m2⟩
      rcases List.mem_append.1 m1 with m1|m1
      · exact m1
      · rw[List.mem_singleton]at m1
        omega
 have hv:=h.pt.val i hi
 have ok:putOk (gameBack q) i (nth q.put i):=by
  refine putOk_of hN ?_ ?_ ?_ ⟨by omega,hv.2⟩
  · rw[hb];show i<(q.put.set i 0).length;rw[List.length_set];exact hi
  · rw[hb];show nth (q.put.set i 0) i=0;rw[hs,if_pos rfl]
  · rw[hb];exact hgv
 refine⟨hN,i,hl,hi, ?_,(put_fun hN ok).2,by rw[hb,he];simp⟩
 rw[(put_fun hN ok).1,hb,Int.toNat_natCast]
 show Gam.mk q.task ((q.put.set i 0).set i (nth q.put i)) (ms++[(i:Int)])=q
 rw[List.set_set,set_same rfl,←he]
theorem back_keeps{q:Gam}{n:Nat}(h:GamN q n):GamN (gameBack q) n:=by
 by_cases hm:q.moves=[]
 · have:gameBack q=q:=by unfold gameBack;rw[if_pos h.valid,if_pos hm]
   rw[this]
   exact h
 · exact(back_facts h hm).1
theorem back_no{q:Gam}{n:Nat}(h:GamN q n)(hm:q.moves=[]):gameBack q=q∧gameBackB q=false:=by
 unfold gameBack gameBackB
 rw[if_pos h.valid,if_pos hm]
 exact⟨rfl,by simp[hm]⟩
theorem back_B{q:Gam}{n:Nat}(h:GamN q n)(hm:q.moves≠[]):gameBackB q=true:=by
 unfold gameBackB
 rw[h.valid]
 simp[hm]
theorem countP_range(xs:List Int):xs.countP (fun v=>decide (0<v))=(List.range xs.length).countP (fun i:Nat=>decide (0<nth xs i)):=by
 rw[←filledAt_length,List.countP_eq_length_filter]
 unfold filledAt
 rw[List.length_map]
theorem countP_both(a b:Nat→Int):∀(m:Nat),(∀i,i<m→¬(0<b i∧0<a i))→(List.range m).countP (fun i=>decide (0<max (a i) (b i)))=(List.range m).countP (fun i=>decide (0<a i))+(List.range m).countP (fun i=>decide (0<b i))
 |0,_=>rfl
 |m+1,h=>by
  have ih:=countP_both a b m fun i hi=>h i (by omega)
  have hm:=h m (by omega)
  rw[List.range_succ,List.countP_append,List.countP_append,List.countP_append,ih]
  simp only[List.countP_cons,List.countP_nil,decide_eq_true_eq]
  by_cases h1:0<a m
  · by_cases h2:0<b m
    · exact absurd ⟨h2,h1⟩ hm
    · rw[if_pos (by omega),if_pos h1,if_neg h2];omega
  · by_cases h2:0<b m
    · rw[if_pos (by omega),if_neg h1,if_pos h2];omega
    · rw[if_neg (by omega),if_neg h1,if_neg h2];omega
theorem game_filled{q:Gam}{n:Nat}(h:GamN q n):gridFilled (gameGrid q) q.task.size=gridFilled q.task.given q.task.size+(q.moves.length:Int):=by
 have hl:=h.ln
 have h1:GrdN (gameGrid q) n:=by
  rw[h.grid]
  refine⟨by rw[bothG_length];exact h.gv.len,fun k hk=> ?_⟩
  rw[bothG_length]at hk
  rw[bothG_nth hk]
  have a1:=h.gv.val k hk
  have a2:=h.pt.val k (by omega)
  omega
 have e1:=h1.valid h.pz.hn
 have e2:=h.gv.valid h.pz.hn
 unfold gridFilled
 rw[h.sz,if_pos e1,if_pos e2]
 have hc:=(gameOk_num.1 h.ok).1
 rw[hc,h.grid,countP_range,countP_range q.task.given,countP_range q.put,bothG_length,hl]
 have hb:=countP_both (fun i=>nth q.task.given i) (fun i=>nth q.put i) q.task.given.length fun i hi=>h.one i (by omega)
 rw[←Int.natCast_add,←hb]
 congr 1
 refine List.countP_congr fun i hi=> ?_
 rw[List.mem_range]at hi
 rw[bothG_nth hi]
def playQ(q:Gam)(k:Nat):Gam:=⟨q.task,(List.range q.put.length).map fun i:Nat=>if(i:Int)∈q.moves.take k then nth q.put i else 0,q.moves.take k⟩
theorem playQ_nth{q:Gam}{k i:Nat}(hi:i<q.put.length):nth (playQ q k).put i=if(i:Int)∈q.moves.take k then nth q.put i else 0:=by
 unfold playQ
 rw[nth_eq (by simp;omega)]
 simp
theorem play_zero{q:Gam}{n:Nat}(h:GamN q n):playQ q 0=gameOf q.task:=by
 unfold playQ gameOf
 rw[if_pos h.pv]
 congr 1
 rw[←h.ln]
 refine List.ext_getElem (by simp) fun i h1 h2=> ?_
 simp
theorem play_all{q:Gam}{n:Nat}(h:GamN q n):playQ q q.moves.length=q:=by
 have hp:(playQ q q.moves.length).put=q.put:=by
  refine ext_nth (by simp[playQ]) fun i hi=> ?_
  have hi:i<q.put.length:=by simpa[playQ]using hi
  rw[playQ_nth hi,List.take_length]
  split
  · rfl
  · rename_i hn
    have hv:=h.pt.val i hi
    by_cases h0:0<nth q.put i
    · exact absurd (h.ok.2.2 i (mem_filledAt.2 ⟨by omega,by omega,h0⟩)).1 hn
    · omega
 have e:playQ q q.moves.length=⟨q.task,(playQ q q.moves.length).put,q.moves.take q.moves.length⟩:=rfl
 rw[e,hp,List.take_length]
theorem play_step{q:Gam}{n k:Nat}(h:GamN q n)(hk:k<q.moves.length)(hN:GamN (playQ q k) n):∃i:Nat,nth q.moves k=i∧i<q.put.length∧gamePut (playQ q k) i (nth q.put i)=playQ q (k+1)∧gamePutB (playQ q k) i (nth q.put i)=true∧GamN (playQ q (k+1)) n:=by
 have hc:nth q.moves k∈q.moves:=nth_mem hk
 obtain⟨k1,k2,k3⟩:=mem_filledAt.1 (h.ok.2.1 _ hc)
 obtain⟨i,hi'⟩:∃i:Nat,nth q.moves k=i:=⟨(nth q.moves k).toNat,by omega⟩
 rw[hi']at k1 k2 k3 hc
 have hi:i<q.put.length:=by omega
 have hgv:=(h.ok.2.2 (i:Int) (mem_filledAt.2 ⟨k1,k2,k3⟩)).2
 have ht:q.moves.take (k+1)=q.moves.take k++[(i:Int)]:=by rw[take_succ_nth hk,hi']
 have hnot:(i:Int)∉q.moves.take k:=fun hx=>by
  have hnd:(q.moves.take (k+1)).Nodup:=h.ok.1.sublist (List.take_sublist _ _)
  rw[ht]at hnd
  exact(List.nodup_append.1 hnd).2.2 _ hx _ (by simp) rfl
 have hv:=h.pt.val i hi
 have hlp:(playQ q k).put.length=q.put.length:=by simp[playQ]
 have ok:putOk (playQ q k) i (nth q.put i):=putOk_of hN (by omega) (by rw[playQ_nth hi,if_neg hnot]) hgv ⟨by omega,hv.2⟩
 obtain⟨e1,e2⟩:=put_fun hN ok
 have e3:gamePut (playQ q k) i (nth q.put i)=playQ q (k+1):=by
  rw[e1,Int.toNat_natCast]
  have hp:(playQ q k).put.set i (nth q.put i)=(playQ q (k+1)).put:=by
   refine ext_nth (by simp[playQ]) fun j hj=> ?_
   rw[List.length_set,hlp]at hj
   rw[nth_setN _ _ _ _ (by omega),playQ_nth hj,playQ_nth hj,ht]
   by_cases hji:j=i
   · subst hji
     rw[if_pos rfl,if_pos (by simp)]
   · rw[if_neg hji]
     have:((j:Int)∈q.moves.take k++[(i:Int)])↔(j:Int)∈q.moves.take k:=by
      rw[List.mem_append,List.mem_singleton]
      exact⟨fun h=>h.resolve_right (by omega), .inl⟩
     simp only[this]
  rw[hp]
  show Gam.mk q.task _ (q.moves.take k++[(i:Int)])=_
  rw[←ht]
  rfl
 exact⟨i,hi',hi,e3,e2,e3▸put_keeps hN⟩
end Go.Lg

namespace Go.Lg
open Go.Proofs
def hintOk(h:Hnt):Prop:=(0≤h.tech∧h.tech≤4)∧(0≤h.cell∧h.cell≤15)∧(1≤h.val∧h.val≤4)
instance(h:Hnt):Decidable (hintOk h):=by unfold hintOk;infer_instance
def hintS(h:Hnt):List UInt8:=[99,101,108,108,32]++[u8 (97+h.cell)]++[32,105,115,32]++[u8 (48+h.val)]++[32,98,121,32]++[u8 (48+h.tech)]
def hintL(h:Hnt):List UInt8:=if hintOk h then hintS h else[]
theorem sHintText_run(h:Hnt):Reads Try.prog 104 [aH h] (txt (hintL h)):=by
 refine RunCall.cw (c:=_) Try.func104 rfl (n:=42) Try.ntmps104 (rs:=[.tmp 2]) rfl ?_
 simp only[List.length_cons,List.length_nil,zA,zS,List.replicate,List.cons_append,List.nil_append]
 simp(maxSteps:=999999)(disch:=omega)only[go_sem,zA,zM,zS,zE,zL]
 intro g
 first|refine OpS.rd (l1In_run _ _ _) (⟨_,Try.func63,rfl,rfl⟩:Enters Try.prog 63) rfl rfl rfl rfl ?_|refine Loud.rd (l1In_run _ _ _) (⟨_,Try.func63,rfl,rfl⟩:Enters Try.prog 63) rfl rfl rfl rfl ?_
 simp(maxSteps:=999999)(disch:=omega)only[go_sem,zA,zM,zS,zE,zL]
 by_cases k1:0≤h.tech∧h.tech≤4
 rotate_left
 · have e:hintL h=[]:=by unfold hintL;rw[if_neg (fun hk=>k1 hk.1)]
   have d1:decide (0≤h.tech∧h.tech≤4)=false:=decide_eq_false k1
   rw[e]
   simp(maxSteps:=999999)(disch:=omega)only[go_sem,zA,zM,zS,zE,zL,d1]
 have d1:decide (0≤h.tech∧h.tech≤4)=true:=decide_eq_true k1
 simp(maxSteps:=999999)(disch:=omega)only[go_sem,zA,zM,zS,zE,zL,d1]
 first|refine OpS.rd (l1In_run _ _ _) (⟨_,Try.func63,rfl,rfl⟩:Enters Try.prog 63) rfl rfl rfl rfl ?_|refine Loud.rd (l1In_run _ _ _) (⟨_,Try.func63,rfl,rfl⟩:Enters Try.prog 63) rfl rfl rfl rfl ?_
 simp(maxSteps:=999999)(disch:=omega)only[go_sem,zA,zM,zS,zE,zL]
 by_cases k2:0≤h.cell∧h.cell≤15
 rotate_left
 · have e:hintL h=[]:=by unfold hintL;rw[if_neg (fun hk=>k2 hk.2.1)]
   have d1:decide (0≤h.cell∧h.cell≤15)=false:=decide_eq_false k2
   rw[e]
   simp(maxSteps:=999999)(disch:=omega)only[go_sem,zA,zM,zS,zE,zL,d1]
 have d2:decide (0≤h.cell∧h.cell≤15)=true:=decide_eq_true k2
 simp(maxSteps:=999999)(disch:=omega)only[go_sem,zA,zM,zS,zE,zL,d2]
 first|refine OpS.rd (l1In_run _ _ _) (⟨_,Try.func63,rfl,rfl⟩:Enters Try.prog 63) rfl rfl rfl rfl ?_|refine Loud.rd (l1In_run _ _ _) (⟨_,Try.func63,rfl,rfl⟩:Enters Try.prog 63) rfl rfl rfl rfl ?_
 simp(maxSteps:=999999)(disch:=omega)only[go_sem,zA,zM,zS,zE,zL]
 by_cases k3:1≤h.val∧h.val≤4
 rotate_left
 · have e:hintL h=[]:=by unfold hintL;rw[if_neg (fun hk=>k3 hk.2.2)]
   have d1:decide (1≤h.val∧h.val≤4)=false:=decide_eq_false k3
   rw[e]
   simp(maxSteps:=999999)(disch:=omega)only[go_sem,zA,zM,zS,zE,zL,d1]
 have d3:decide (1≤h.val∧h.val≤4)=true:=decide_eq_true k3
 have e:hintL h=hintS h:=by unfold hintL;rw[if_pos ⟨k1,k2,k3⟩]
 rw[e]
 unfold hintS
 simp(maxSteps:=999999)(disch:=omega)only[go_sem,zA,zM,zS,zE,zL,d3]
 intro _ _ _
 trivial
end Go.Lg

namespace Go.Lg
open Go.Proofs
def Full(n:Nat)(s:List Int):Prop:=GrdN s n∧∀k:Nat,k<n*n→0<nth s k
def ExtG(xs s:List Int):Prop:=∀k:Nat,0<nth xs k→nth s k=nth xs k
instance(xs s:List Int):Decidable (ExtG xs s):=decidable_of_iff (∀k,k<xs.length→0<nth xs (k:Int)→nth s (k:Int)=nth xs (k:Int)) ⟨fun h k hk=>by
 by_cases hl:k<xs.length
 · exact h k hl hk
 · rw[nth_over (by omega)]at hk;omega,fun h k _=>h k⟩
theorem ExtG.refl(xs:List Int):ExtG xs xs:=fun _ _=>rfl
theorem ExtG.trans{a b c:List Int}(h:ExtG a b)(k:ExtG b c):ExtG a c:=fun i hi=>by
 have:=h i hi
 rw[k i (by omega),this]
theorem ExtG.set{xs:List Int}{i:Nat}{v:Int}(hi:i<xs.length)(h0:¬0<nth xs i):ExtG xs (xs.set i v):=fun k hk=>by
 rw[nth_setN _ _ _ _ hi,if_neg (fun h=>by subst h;exact h0 hk)]
end Go.Lg
