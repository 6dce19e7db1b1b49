/- GpSL, cut to what is needed. -/
import Derived.Test.YtpdaalgdkdpihaaXae9
open Nat renaming reduceAdd→zA,reduceMul→zM,reduceSub→zS,reduceEqDiff→zE,reduceLeDiff→zL
set_option linter.unusedSimpArgs false
set_option linter.unusedVariables false
set_option maxRecDepth 100000
namespace Go.Lg
open Go.Proofs
attribute [-go_sem] appendM lwF_cons
theorem put_task{q:Gam}(hv:gameValid q=true)(c v:Int):(gamePut q c v).task=q.task:=by
 unfold gamePut;rw[if_pos hv];split<;>rfl
set_option maxHeartbeats 4000000 in
theorem law_FnGamePut(code:List Int)(hl:code.length≤9223372036854775807)(hw:∀x∈code,(Lit.int .u8 x).wf=true):Reads Try.prog 11 [rsl (eI .u8) code] (bool true):=by
 refine RunCall.cw (c:=_) Try.func11 rfl (n:=107) Try.ntmps11 (rs:=[.tmp 2]) rfl ?_
 simp only[List.length_cons,List.length_nil,zA,zS,List.replicate,List.cons_append,List.nil_append]
 simp(maxSteps:=999999)(disch:=omega)only[go_sem,zA,zM,zS,zE,zL]
 ((first|(with_reducible first|refine condK_dec ?_ ?_|refine condK_ndec ?_ ?_|refine condK_nb ?_ ?_)|refine condK_b ?_ ?_)<;>intro h1)
 · simp(maxSteps:=999999)(disch:=omega)only[go_sem,zA,zM,zS,zE,zL]
 simp(maxSteps:=999999)(disch:=omega)only[go_sem,zA,zM,zS,zE,zL]
 refine OpS.mkF (DrawGamePut_run code (wf_u8' hw) (by omega)) (⟨_,Try.func45,rfl,rfl⟩:Enters Try.prog 45) rfl rfl rfl ?_
 rintro _ ⟨q,c,v,rfl,hq,hc,hv0⟩
 refine⟨rfl,rfl, ?_⟩
 have hs:=hq.sm
 simp(maxSteps:=999999)(disch:=omega)only[go_sem,zA,zM,zS,zE,zL]
 intro g
 first|refine OpS.mk (Reads.ownGB (GamePut_own q c v hs)) (⟨_,Try.func33,rfl,rfl⟩:Enters Try.prog 33) rfl rfl rfl rfl rfl ?_|refine Loud.mk (Reads.ownGB (GamePut_own q c v hs)) (⟨_,Try.func33,rfl,rfl⟩:Enters Try.prog 33) rfl rfl rfl rfl rfl ?_
 simp(maxSteps:=999999)(disch:=omega)only[go_sem,zA,zM,zS,zE,zL]
 intro g2
 first|refine OpS.mk (sGamePut_run q c v hs) (⟨_,Try.func32,rfl,rfl⟩:Enters Try.prog 32) rfl rfl rfl rfl rfl ?_|refine Loud.mk (sGamePut_run q c v hs) (⟨_,Try.func32,rfl,rfl⟩:Enters Try.prog 32) rfl rfl rfl rfl rfl ?_
 simp(maxSteps:=999999)(disch:=omega)only[go_sem,zA,zM,zS,zE,zL]
 intro g3
 cases hv:gameValid q with
 |false=>
  have e:gamePut q c v=zeroG:=by unfold gamePut;rw[hv];rfl
  have eB:gamePutB q c v=false:=by unfold gamePutB;rw[hv];rfl
  rw[e,eB]
  have hz:smG zeroG:=⟨⟨by simp[zeroG],by simp[zeroG],by simp[zeroG]⟩,by simp[zeroG],by simp[zeroG]⟩
  first|refine OpS.rd (sameGame_run zeroG zeroG hz) (⟨_,Try.func35,rfl,rfl⟩:Enters Try.prog 35) rfl rfl rfl rfl ?_|refine Loud.rd (sameGame_run zeroG zeroG hz) (⟨_,Try.func35,rfl,rfl⟩:Enters Try.prog 35) rfl rfl rfl rfl ?_
  simp(maxSteps:=999999)(disch:=omega)only[go_sem,zA,zM,zS,zE,zL]
  have d0:decide (zeroG.task.size=0)=true:=rfl
  simp(maxSteps:=999999)(disch:=omega)only[go_sem,zA,zM,zS,zE,zL,d0]
  first|refine OpS.rd (aliveF_run) (⟨_,Try.func37,rfl,rfl⟩:Enters Try.prog 37) rfl rfl rfl rfl ?_|refine Loud.rd (aliveF_run) (⟨_,Try.func37,rfl,rfl⟩:Enters Try.prog 37) rfl rfl rfl rfl ?_
  simp(maxSteps:=999999)(disch:=omega)only[go_sem,zA,zM,zS,zE,zL]
 |true=>
  obtain⟨n,hN⟩:=GamN.of hv
  have hlen:=hN.len
  have hz4:decide (q.task.size=0)=false:=decide_eq_false (by have:=hN.sz;have:=hN.pz.hn;omega)
  by_cases ok:putOk q c v
  rotate_left
  · obtain⟨e,eB⟩:=put_no hN ok
    rw[e,eB]
    first|refine OpS.rd (sameGame_run q q hs) (⟨_,Try.func35,rfl,rfl⟩:Enters Try.prog 35) rfl rfl rfl rfl ?_|refine Loud.rd (sameGame_run q q hs) (⟨_,Try.func35,rfl,rfl⟩:Enters Try.prog 35) rfl rfl rfl rfl ?_
    simp(maxSteps:=999999)(disch:=omega)only[go_sem,zA,zM,zS,zE,zL]
    simp(maxSteps:=999999)(disch:=omega)only[go_sem,zA,zM,zS,zE,zL,hz4]
    first|refine OpS.rd (sameGame_run q q hs) (⟨_,Try.func35,rfl,rfl⟩:Enters Try.prog 35) rfl rfl rfl rfl ?_|refine Loud.rd (sameGame_run q q hs) (⟨_,Try.func35,rfl,rfl⟩:Enters Try.prog 35) rfl rfl rfl rfl ?_
    simp(maxSteps:=999999)(disch:=omega)only[go_sem,zA,zM,zS,zE,zL]
    first|refine OpS.rd (aliveF_run) (⟨_,Try.func37,rfl,rfl⟩:Enters Try.prog 37) rfl rfl rfl rfl ?_|refine Loud.rd (aliveF_run) (⟨_,Try.func37,rfl,rfl⟩:Enters Try.prog 37) rfl rfl rfl rfl ?_
    simp(maxSteps:=999999)(disch:=omega)only[go_sem,zA,zM,zS,zE,zL]
  · obtain⟨k1,k2,k3,k4,k5,k6⟩:=put_back hN ok
    have eB:=(put_fun hN ok).2
    have hRN:=put_keeps (c:=c) (v:=v) hN
    have htask:=put_task hv c v
    rw[eB]
    obtain⟨r,hr⟩:∃r,r=gamePut q c v:=⟨_,rfl⟩
    rw[←hr]at k1 k2 k3 k4 k6 hRN htask⊢
    have hrs:smG r:=hRN.smG (by rw[htask];exact hs.1)
    have hrv:=hRN.valid
    obtain⟨e2,e2B⟩:=put_no hRN k3
    have hrl:=hRN.len
    have hgl:(gameGrid r).length≤16:=game_grid_len hrv
    first|refine OpS.rd (sameGame_run r r hrs) (⟨_,Try.func35,rfl,rfl⟩:Enters Try.prog 35) rfl rfl rfl rfl ?_|refine Loud.rd (sameGame_run r r hrs) (⟨_,Try.func35,rfl,rfl⟩:Enters Try.prog 35) rfl rfl rfl rfl ?_
    simp(maxSteps:=999999)(disch:=omega)only[go_sem,zA,zM,zS,zE,zL]
    first|refine OpS.mk (Reads.ownGB (GamePut_own r c v hrs)) (⟨_,Try.func33,rfl,rfl⟩:Enters Try.prog 33) rfl rfl rfl rfl rfl ?_|refine Loud.mk (Reads.ownGB (GamePut_own r c v hrs)) (⟨_,Try.func33,rfl,rfl⟩:Enters Try.prog 33) rfl rfl rfl rfl rfl ?_
    simp(maxSteps:=999999)(disch:=omega)only[go_sem,zA,zM,zS,zE,zL]
    rw[e2,e2B]
    intro g4
    first|refine OpS.mk (Reads.ownGB (GameBack_own r hrs)) (⟨_,Try.func31,rfl,rfl⟩:Enters Try.prog 31) rfl rfl rfl rfl rfl ?_|refine Loud.mk (Reads.ownGB (GameBack_own r hrs)) (⟨_,Try.func31,rfl,rfl⟩:Enters Try.prog 31) rfl rfl rfl rfl rfl ?_
    simp(maxSteps:=999999)(disch:=omega)only[go_sem,zA,zM,zS,zE,zL]
    rw[k1,k2]
    intro g5
    first|refine OpS.mk (Reads.ownI (GameGrid_own r hrs)) (⟨_,Try.func17,rfl,rfl⟩:Enters Try.prog 17) rfl rfl rfl rfl rfl ?_|refine Loud.mk (Reads.ownI (GameGrid_own r hrs)) (⟨_,Try.func17,rfl,rfl⟩:Enters Try.prog 17) rfl rfl rfl rfl rfl ?_
    simp(maxSteps:=999999)(disch:=omega)only[go_sem,zA,zM,zS,zE,zL]
    first|refine OpS.rd (GameValid_run r hrs) (⟨_,Try.func38,rfl,rfl⟩:Enters Try.prog 38) rfl rfl rfl rfl ?_|refine Loud.rd (GameValid_run r hrs) (⟨_,Try.func38,rfl,rfl⟩:Enters Try.prog 38) rfl rfl rfl rfl ?_
    simp(maxSteps:=999999)(disch:=omega)only[go_sem,zA,zM,zS,zE,zL]
    rw[hrv]
    simp(maxSteps:=999999)(disch:=omega)only[go_sem,zA,zM,zS,zE,zL]
    first|refine OpS.rd (sameGame_run q q hs) (⟨_,Try.func35,rfl,rfl⟩:Enters Try.prog 35) rfl rfl rfl rfl ?_|refine Loud.rd (sameGame_run q q hs) (⟨_,Try.func35,rfl,rfl⟩:Enters Try.prog 35) rfl rfl rfl rfl ?_
    simp(maxSteps:=999999)(disch:=omega)only[go_sem,zA,zM,zS,zE,zL]
    simp(maxSteps:=999999)(disch:=omega)only[go_sem,zA,zM,zS,zE,zL,decide_eq_true k5,decide_eq_true k6,k4]
set_option maxHeartbeats 4000000 in
theorem law_FnGameReplay(code:List Int)(hl:code.length≤9223372036854775807)(hw:∀x∈code,(Lit.int .u8 x).wf=true):Reads Try.prog 12 [rsl (eI .u8) code] (bool true):=by
 refine RunCall.cw (c:=_) Try.func12 rfl (n:=75) Try.ntmps12 (rs:=[.tmp 2]) rfl ?_
 simp only[List.length_cons,List.length_nil,zA,zS,List.replicate,List.cons_append,List.nil_append]
 simp(maxSteps:=999999)(disch:=omega)only[go_sem,zA,zM,zS,zE,zL]
 ((first|(with_reducible first|refine condK_dec ?_ ?_|refine condK_ndec ?_ ?_|refine condK_nb ?_ ?_)|refine condK_b ?_ ?_)<;>intro h1)
 · simp(maxSteps:=999999)(disch:=omega)only[go_sem,zA,zM,zS,zE,zL]
 simp(maxSteps:=999999)(disch:=omega)only[go_sem,zA,zM,zS,zE,zL]
 refine OpS.mkF (DrawGameBack_run code (wf_u8' hw) (by omega)) (⟨_,Try.func44,rfl,rfl⟩:Enters Try.prog 44) rfl rfl rfl ?_
 rintro _ ⟨q,rfl,hq⟩
 refine⟨rfl,rfl, ?_⟩
 have hs:=hq.sm
 simp(maxSteps:=999999)(disch:=omega)only[go_sem,zA,zM,zS,zE,zL]
 intro g
 first|refine OpS.mk (Reads.ownGB (GameBack_own q hs)) (⟨_,Try.func31,rfl,rfl⟩:Enters Try.prog 31) rfl rfl rfl rfl rfl ?_|refine Loud.mk (Reads.ownGB (GameBack_own q hs)) (⟨_,Try.func31,rfl,rfl⟩:Enters Try.prog 31) rfl rfl rfl rfl rfl ?_
 simp(maxSteps:=999999)(disch:=omega)only[go_sem,zA,zM,zS,zE,zL]
 intro g2
 first|refine OpS.mk (sGameBack_run q hs) (⟨_,Try.func30,rfl,rfl⟩:Enters Try.prog 30) rfl rfl rfl rfl rfl ?_|refine Loud.mk (sGameBack_run q hs) (⟨_,Try.func30,rfl,rfl⟩:Enters Try.prog 30) rfl rfl rfl rfl rfl ?_
 simp(maxSteps:=999999)(disch:=omega)only[go_sem,zA,zM,zS,zE,zL]
 intro g3
 obtain⟨r,hr⟩:∃r,r=gameBack q:=⟨_,rfl⟩
 obtain⟨rb,hrb⟩:∃rb,rb=gameBackB q:=⟨_,rfl⟩
 have hrs:smG r:=by
  rw[hr]
  cases hv:gameValid q with
  |false=>
   have e:gameBack q=zeroG:=by unfold gameBack;rw[hv];rfl
   rw[e]
   exact⟨⟨by simp[zeroG],by simp[zeroG],by simp[zeroG]⟩,by simp[zeroG],by simp[zeroG]⟩
  |true=>
   obtain⟨n,hN⟩:=GamN.of hv
   refine(back_keeps hN).smG ?_
   have:(gameBack q).task=q.task:=by unfold gameBack;rw[if_pos hv];split<;>rfl
   rw[this];exact hs.1
 rw[←hr,←hrb]
 first|refine OpS.rd (sameGame_run r r hrs) (⟨_,Try.func35,rfl,rfl⟩:Enters Try.prog 35) rfl rfl rfl rfl ?_|refine Loud.rd (sameGame_run r r hrs) (⟨_,Try.func35,rfl,rfl⟩:Enters Try.prog 35) rfl rfl rfl rfl ?_
 simp(maxSteps:=999999)(disch:=omega)only[go_sem,zA,zM,zS,zE,zL]
 first|refine OpS.rd (sGameValid_run q hs) (⟨_,Try.func41,rfl,rfl⟩:Enters Try.prog 41) rfl rfl rfl rfl ?_|refine Loud.rd (sGameValid_run q hs) (⟨_,Try.func41,rfl,rfl⟩:Enters Try.prog 41) rfl rfl rfl rfl ?_
 simp(maxSteps:=999999)(disch:=omega)only[go_sem,zA,zM,zS,zE,zL]
 cases hv:gameValid q with
 |false=>
  simp(maxSteps:=999999)(disch:=omega)only[go_sem,zA,zM,zS,zE,zL]
  first|refine OpS.rd (aliveF_run) (⟨_,Try.func37,rfl,rfl⟩:Enters Try.prog 37) rfl rfl rfl rfl ?_|refine Loud.rd (aliveF_run) (⟨_,Try.func37,rfl,rfl⟩:Enters Try.prog 37) rfl rfl rfl rfl ?_
  simp(maxSteps:=999999)(disch:=omega)only[go_sem,zA,zM,zS,zE,zL]
 |true=>
  obtain⟨n,hN⟩:=GamN.of hv
  simp(maxSteps:=999999)(disch:=omega)only[go_sem,zA,zM,zS,zE,zL]
  first|refine OpS.mk (Reads.ownG (GameOf_own q.task hs.1)) (⟨_,Try.func26,rfl,rfl⟩:Enters Try.prog 26) rfl rfl rfl rfl rfl ?_|refine Loud.mk (Reads.ownG (GameOf_own q.task hs.1)) (⟨_,Try.func26,rfl,rfl⟩:Enters Try.prog 26) rfl rfl rfl rfl rfl ?_
  simp(maxSteps:=999999)(disch:=omega)only[go_sem,zA,zM,zS,zE,zL]
  intro g8
  rw[←play_zero hN]
  have hN0:GamN (playQ q 0) n:=by
   rw[play_zero hN]
   have h:=GamN.of (new_facts hN.pv).1
   obtain⟨m,hm⟩:=h
   have:m=n:=by
    have h1:=hm.sz
    have h2:=hN.sz
    have:(gameOf q.task).task=q.task:=by unfold gameOf;rw[if_pos hN.pv]
    rw[this]at h1
    omega
   exact this▸hm
  have hall:=play_all hN
  have hl4:=hN.len
  refine loop_rule (fun k:Nat=>q.moves.length -k) (fun k=>k≤q.moves.length∧GamN (playQ q k) n) (fun k=>[.a, .a, .a, .k, .a, .a, .a, .a, .k, .p (int k), .a, .a, .a, .a, .a, .a, .a, .a, .a, .a, .a, .a, .a, .a, .a, .a, .a, .a, .a, .a, .a, .a, .a, .a, .a, .a, .a, .a, .a, .a, .a, .a, .a, .a, .a, .a, .a, .a, .a, .a, .a, .a, .a, .a, .a, .a, .a, .a, .a, .a, .a, .a, .a, .a, .a, .a, .a, .a, .a, .a, .a, .a, .a, .a, .a]) (fun k=>[some ⟨g,5,cG q⟩,some ⟨g2,5,cG r⟩,some ⟨g3,5,cG r⟩,some ⟨g8,5,cG (playQ q k)⟩]) 0 ⟨Nat.zero_le _,hN0⟩ (by simp(maxSteps:=999999)(disch:=omega)only[go_sem,zA,zM,zS,zE,zL];rfl) (HLe.refl _) ?_
  rintro k ⟨hk,hNk⟩
  simp(maxSteps:=999999)(disch:=omega)only[go_sem,zA,zM,zS,zE,zL]
  ((first|(with_reducible first|refine condK_dec ?_ ?_|refine condK_ndec ?_ ?_|refine condK_nb ?_ ?_)|refine condK_b ?_ ?_)<;>intro c1)
  · have hk':k<q.moves.length:=by omega
    obtain⟨i,hi1,hi2,hi3,hi4,hi5⟩:=play_step hN hk' hNk
    have hks:smG (playQ q k):=hNk.smG hs.1
    simp(maxSteps:=999999)(disch:=omega)only[go_sem,zA,zM,zS,zE,zL]
    refine drawP_lM [0,1,2,3,4,5,6,7,8,9,10,11,12,13,14,15,16,17,18,19,20] [15] none [21] [false,false,false,false,true] [0,0,2,0,14,30,0,64,0,256,0,1792,3840,8128,16320,32767,65535,131071,131071,0,786431,2097151] foll (by kernel_rfl) ?_
    iterate 15 (rw[lwF_cons];simp(maxSteps:=999999)(disch:=omega)only[go_sem,zA,zM,zS,zE,zL,hi1])
    rw[lwF_cons]
    simp(maxSteps:=999999)(disch:=omega)only[go_sem,zA,zM,zS,zE,zL]
    refine softW_call (Reads.ownGB (GamePut_own (playQ q k) i (nth q.put i) hks)) (⟨_,Try.func33,rfl,rfl⟩:Enters Try.prog 33) rfl rfl (by
     intro x hm
     simp only[Call.operands,List.mem_toArray,Array.mem_append,List.mem_cons,List.not_mem_nil,or_false]at hm
     rcases hm with rfl|rfl|rfl|rfl<;>rfl) rfl ⟨rfl,rfl,rfl,rfl⟩ ?_
    rw[hi3,hi4]
    simp(maxSteps:=999999)(disch:=omega)only[go_sem,zA,zM,zS,zE,zL]
    iterate 3 (rw[lwF_cons];simp(maxSteps:=999999)(disch:=omega)only[go_sem,zA,zM,zS,zE,zL])
    rw[lwF_cons]
    simp(maxSteps:=999999)(disch:=omega)only[go_sem,zA,zM,zS,zE,zL]
    intro g10
    rw[lwF_cons]
    simp(maxSteps:=999999)(disch:=omega)only[go_sem,zA,zM,zS,zE,zL]
    exact⟨k+1,⟨⟨by omega,hi5⟩,by omega⟩,by push_cast;rfl,hle_eq rfl (hle_eq rfl (hle_eq rfl (hle_eq rfl (hle_nil _))))⟩
  · have hke:k=q.moves.length:=by omega
    subst hke
    rw[hall]
    simp(maxSteps:=999999)(disch:=omega)only[go_sem,zA,zM,zS,zE,zL]
    first|refine OpS.rd (sameGame_run q q hs) (⟨_,Try.func35,rfl,rfl⟩:Enters Try.prog 35) rfl rfl rfl rfl ?_|refine Loud.rd (sameGame_run q q hs) (⟨_,Try.func35,rfl,rfl⟩:Enters Try.prog 35) rfl rfl rfl rfl ?_
    simp(maxSteps:=999999)(disch:=omega)only[go_sem,zA,zM,zS,zE,zL]
end Go.Lg
