/- GpSI, GpSJ, GpSM, GpSK, cut to what is needed. -/
import Derived.Test.YtpdaalgdkdpihaaXae8
import Derived.Test.YtpdaalgdkdpihaaXab9
open Nat renaming reduceAdd→zA,reduceMul→zM,reduceSub→zS,reduceEqDiff→zE,reduceLeDiff→zL
set_option linter.unusedSimpArgs false
set_option linter.unusedVariables false
set_option maxRecDepth 100000
namespace Go.Lg
open Go.Proofs
attribute [-go_sem] appendM lwF_cons
theorem DrawGameValid_run(code:List Int)(hb:∀x∈code,0≤x∧x≤255)(hl:code.length≤2^40):RunCall Try.prog 40 [rsl (eI .u8) code] [] (fun v _=>dGam v):=by
 refine RunCall.cw (c:=_) Try.func40 rfl (n:=6) Try.ntmps40 (rs:=[.cell 2 34]) rfl ?_
 simp only[List.length_cons,List.length_nil,zA,zS,List.replicate,List.cons_append,List.nil_append]
 simp(maxSteps:=999999)(disch:=omega)only[go_sem,zA,zM,zS,zE,zL]
 intro g4
 refine OpS.mkRd (l20Open_run code hb hl) (⟨_,Try.func65,rfl,rfl⟩:Enters Try.prog 65) rfl rfl rfl ?_
 intro g H1 r1 hl1
 simp(maxSteps:=999999)(disch:=omega)only[go_sem,zA,zM,zS,zE,zL]
 refine OpS.run (l20Game_run _ 1 g 0 2 r1 (by omega) (by omega)) (⟨_,Try.func71,rfl,rfl⟩:Enters Try.prog 71) rfl rfl ?_
 rintro _ H2 ⟨⟨q,rfl,hq⟩,r2,f2⟩
 have h4:look H2 0 g4=some ⟨g4,5,[.f (.int .i64 0), .f .nil, .f .nil, .f .nil, .f .nil]⟩:=by rw[f2.look (by simp)];exact look_zero
 have hS:∀b,look (H2.set 0 (some ⟨g4,5,b⟩)) 0 g4=some ⟨g4,5,b⟩:=fun b=>look_set_eq' (List.getElem?_eq_some_iff.1 (look_some h4).1).1
 simp(maxSteps:=999999)(disch:=omega)only[go_sem,zA,zM,zS,zE,zL,h4,hS]
 exact⟨_,HLe.refl _,q,rfl,hq⟩
theorem DrawGameGrid_run(code:List Int)(hb:∀x∈code,0≤x∧x≤255)(hl:code.length≤2^40):RunCall Try.prog 42 [rsl (eI .u8) code] [] (fun v _=>dGam v):=by
 refine RunCall.cw (c:=_) Try.func42 rfl (n:=6) Try.ntmps42 (rs:=[.cell 2 34]) rfl ?_
 simp only[List.length_cons,List.length_nil,zA,zS,List.replicate,List.cons_append,List.nil_append]
 simp(maxSteps:=999999)(disch:=omega)only[go_sem,zA,zM,zS,zE,zL]
 intro g4
 refine OpS.mkRd (l20Open_run code hb hl) (⟨_,Try.func65,rfl,rfl⟩:Enters Try.prog 65) rfl rfl rfl ?_
 intro g H1 r1 hl1
 simp(maxSteps:=999999)(disch:=omega)only[go_sem,zA,zM,zS,zE,zL]
 refine OpS.run (l20Game_run _ 1 g 0 9 r1 (by omega) (by omega)) (⟨_,Try.func71,rfl,rfl⟩:Enters Try.prog 71) rfl rfl ?_
 rintro _ H2 ⟨⟨q,rfl,hq⟩,r2,f2⟩
 have h4:look H2 0 g4=some ⟨g4,5,[.f (.int .i64 0), .f .nil, .f .nil, .f .nil, .f .nil]⟩:=by rw[f2.look (by simp)];exact look_zero
 have hS:∀b,look (H2.set 0 (some ⟨g4,5,b⟩)) 0 g4=some ⟨g4,5,b⟩:=fun b=>look_set_eq' (List.getElem?_eq_some_iff.1 (look_some h4).1).1
 simp(maxSteps:=999999)(disch:=omega)only[go_sem,zA,zM,zS,zE,zL,h4,hS]
 exact⟨_,HLe.refl _,q,rfl,hq⟩
theorem DrawGameBack_run(code:List Int)(hb:∀x∈code,0≤x∧x≤255)(hl:code.length≤2^40):RunCall Try.prog 44 [rsl (eI .u8) code] [] (fun v _=>dGam v):=by
 refine RunCall.cw (c:=_) Try.func44 rfl (n:=6) Try.ntmps44 (rs:=[.cell 2 34]) rfl ?_
 simp only[List.length_cons,List.length_nil,zA,zS,List.replicate,List.cons_append,List.nil_append]
 simp(maxSteps:=999999)(disch:=omega)only[go_sem,zA,zM,zS,zE,zL]
 intro g4
 refine OpS.mkRd (l20Open_run code hb hl) (⟨_,Try.func65,rfl,rfl⟩:Enters Try.prog 65) rfl rfl rfl ?_
 intro g H1 r1 hl1
 simp(maxSteps:=999999)(disch:=omega)only[go_sem,zA,zM,zS,zE,zL]
 refine OpS.run (l20Game_run _ 1 g 0 9 r1 (by omega) (by omega)) (⟨_,Try.func71,rfl,rfl⟩:Enters Try.prog 71) rfl rfl ?_
 rintro _ H2 ⟨⟨q,rfl,hq⟩,r2,f2⟩
 have h4:look H2 0 g4=some ⟨g4,5,[.f (.int .i64 0), .f .nil, .f .nil, .f .nil, .f .nil]⟩:=by rw[f2.look (by simp)];exact look_zero
 have hS:∀b,look (H2.set 0 (some ⟨g4,5,b⟩)) 0 g4=some ⟨g4,5,b⟩:=fun b=>look_set_eq' (List.getElem?_eq_some_iff.1 (look_some h4).1).1
 simp(maxSteps:=999999)(disch:=omega)only[go_sem,zA,zM,zS,zE,zL,h4,hS]
 exact⟨_,HLe.refl _,q,rfl,hq⟩
theorem DrawGamePut_run(code:List Int)(hb:∀x∈code,0≤x∧x≤255)(hl:code.length≤2^40):RunCall Try.prog 45 [rsl (eI .u8) code] [] (fun v _=>∃(q:Gam) (y z:Int),v= .tup [aG q,int y,int z]∧smGD q∧(-1≤y∧y≤20)∧0≤z∧z≤6):=by
 refine RunCall.cw (c:=_) Try.func45 rfl (n:=17) Try.ntmps45 (rs:=[.cell 2 34, .tmp 3, .tmp 4]) rfl ?_
 simp only[List.length_cons,List.length_nil,zA,zS,List.replicate,List.cons_append,List.nil_append]
 simp(maxSteps:=999999)(disch:=omega)only[go_sem,zA,zM,zS,zE,zL]
 intro g4
 refine OpS.mkRd (l20Open_run code hb hl) (⟨_,Try.func65,rfl,rfl⟩:Enters Try.prog 65) rfl rfl rfl ?_
 intro g H1 r1 hl1
 simp(maxSteps:=999999)(disch:=omega)only[go_sem,zA,zM,zS,zE,zL]
 refine OpS.run (l20Game_run _ 1 g 0 14 r1 (by omega) (by omega)) (⟨_,Try.func71,rfl,rfl⟩:Enters Try.prog 71) rfl rfl ?_
 rintro _ H2 ⟨⟨q,rfl,hq⟩,r2,f2⟩
 have h4:look H2 0 g4=some ⟨g4,5,[.f (.int .i64 0), .f .nil, .f .nil, .f .nil, .f .nil]⟩:=by rw[f2.look (by simp)];exact look_zero
 have hl2:H2.length=2:=by rw[f2.1];simp[hl1]
 simp(maxSteps:=999999)(disch:=omega)only[go_sem,zA,zM,zS,zE,zL,look_off,look_off0,set_off,set_off0,List.append_assoc,List.cons_append,List.nil_append,List.length_append]
 intro g5
 have hM:look (mask [true,true] (H2++[some ⟨g5,5,cG q⟩])) H2.length g5=some ⟨g5,5,cG q⟩:=by rw[look_mask (by rw[hl2];rfl)];exact look_last
 have hok:∀X Y:Heap,(∀j,2≤j→j<X.length→Y[j]? =X[j]?)→okM [true,true] X Y:=fun X Y h=>okM_gen fun j b hj hb=>by
  have hjl:=(List.getElem?_eq_some_iff.1 hb).1
  have hj2:2≤j:=by
   match j,hj with
   |0,hj=>simp at hj
   |1,hj=>simp at hj
   |j+2,_=>omega
  rw[h j hj2 hjl]
  exact hb
 refine drawP_lM [0,1,4,2,3,5,6] [] none [7,8] [true,true] [0,0,2,6,0,22,55,127,255] foll (by kernel_rfl) ?_
 iterate 3 (rw[lwF_cons];simp(maxSteps:=999999)(disch:=omega)only[go_sem,zA,zM,zS,zE,zL,hM])
 rw[lwF_cons]
 simp(maxSteps:=999999)(disch:=omega)only[go_sem,zA,zM,zS,zE,zL]
 refine Loud.run (pick_run _ 1 g _ _ (r2.app) (by omega)) (⟨_,Try.func72,rfl,rfl⟩:Enters Try.prog 72) rfl rfl ?_
 rintro _ H3 ⟨⟨y,rfl,y0,y1⟩,r3,f3⟩
 have y1:=y1 (by omega)
 replace f3:Frm (H2++[some ⟨g5,5,cG q⟩]) H3 [1]:=f3
 refine⟨hok _ _ fun j hj _=>f3.2 j (by simp;omega), ?_⟩
 have h43:look H3 0 g4=some ⟨g4,5,[.f (.int .i64 0), .f .nil, .f .nil, .f .nil, .f .nil]⟩:=by rw[f3.look (by simp)];exact look_appL h4
 rw[lwF_cons]
 simp(maxSteps:=999999)(disch:=omega)only[go_sem,zA,zM,zS,zE,zL]
 rw[lwF_cons]
 simp(maxSteps:=999999)(disch:=omega)only[go_sem,zA,zM,zS,zE,zL]
 refine Loud.run (pick_run H3 1 g _ _ r3 (by omega)) (⟨_,Try.func72,rfl,rfl⟩:Enters Try.prog 72) rfl rfl ?_
 rintro _ H5 ⟨⟨z,rfl,z0,z1⟩,r5,f5⟩
 have z1:=z1 (by omega)
 refine⟨hok _ _ fun j hj _=>f5.2 j (by simp;omega), ?_⟩
 have h45:look H5 0 g4=some ⟨g4,5,[.f (.int .i64 0), .f .nil, .f .nil, .f .nil, .f .nil]⟩:=by rw[f5.look (by simp)];exact h43
 have hS:∀b,look (H5.set 0 (some ⟨g4,5,b⟩)) 0 g4=some ⟨g4,5,b⟩:=fun b=>look_set_eq' (List.getElem?_eq_some_iff.1 (look_some h45).1).1
 rw[lwF_cons]
 simp(maxSteps:=999999)(disch:=omega)only[go_sem,zA,zM,zS,zE,zL,h45]
 refine⟨hok _ _ fun j hj _=>by rw[List.getElem?_set_ne (by omega)], ?_⟩
 simp(maxSteps:=999999)(disch:=omega)only[go_sem,zA,zM,zS,zE,zL,hS]
 exact⟨_,HLe.refl _,q,_,_,rfl,hq,by omega,by omega⟩
end Go.Lg

namespace Go.Lg
open Go.Proofs
attribute [-go_sem] appendM lwF_cons
theorem grid_le16{q:Gam}(hq:smGD q):(gameGrid q).length≤16:=by
 cases hv:gameValid q with
 |true=>exact game_grid_len hv
 |false=>unfold gameGrid;rw[hv];simp
theorem filled_bound(xs:List Int)(n:Int): -1≤gridFilled xs n∧gridFilled xs n≤(xs.length:Int):=by
 unfold gridFilled
 split
 · have:xs.countP (fun v=>decide (0<v))≤xs.length:=List.countP_le_length
   omega
 · omega
set_option maxHeartbeats 2000000 in
theorem law_FnGameGrid(code:List Int)(hl:code.length≤9223372036854775807)(hw:∀x∈code,(Lit.int .u8 x).wf=true):Reads Try.prog 9 [rsl (eI .u8) code] (bool true):=by
 refine RunCall.cw (c:=_) Try.func9 rfl (n:=67) Try.ntmps9 (rs:=[.tmp 2]) rfl ?_
 simp only[List.length_cons,List.length_nil,zA,zS,List.replicate,List.cons_append,List.nil_append]
 simp(maxSteps:=999999)(disch:=omega)only[go_sem,zA,zM,zS,zE,zL]
 ((first|(with_reducible first|refine condK_dec ?_ ?_|refine condK_ndec ?_ ?_|refine condK_nb ?_ ?_)|refine condK_b ?_ ?_)<;>intro h1)
 · simp(maxSteps:=999999)(disch:=omega)only[go_sem,zA,zM,zS,zE,zL]
 simp(maxSteps:=999999)(disch:=omega)only[go_sem,zA,zM,zS,zE,zL]
 refine OpS.mkF (DrawGameGrid_run code (wf_u8' hw) (by omega)) (⟨_,Try.func42,rfl,rfl⟩:Enters Try.prog 42) rfl rfl rfl ?_
 rintro _ ⟨q,rfl,hq⟩
 refine⟨rfl,rfl, ?_⟩
 have hs:=hq.sm
 have hgl:=grid_le16 hq
 have hbb:decide (gameGrid q=gameGrid q)=true:=decide_eq_true rfl
 simp(maxSteps:=999999)(disch:=omega)only[go_sem,zA,zM,zS,zE,zL]
 intro g
 first|refine OpS.mk (Reads.ownI (GameGrid_own q hs)) (⟨_,Try.func17,rfl,rfl⟩:Enters Try.prog 17) rfl rfl rfl rfl rfl ?_|refine Loud.mk (Reads.ownI (GameGrid_own q hs)) (⟨_,Try.func17,rfl,rfl⟩:Enters Try.prog 17) rfl rfl rfl rfl rfl ?_
 simp(maxSteps:=999999)(disch:=omega)only[go_sem,zA,zM,zS,zE,zL]
 first|refine OpS.mk (Reads.ownI (sGameGrid_own q hs)) (⟨_,Try.func15,rfl,rfl⟩:Enters Try.prog 15) rfl rfl rfl rfl rfl ?_|refine Loud.mk (Reads.ownI (sGameGrid_own q hs)) (⟨_,Try.func15,rfl,rfl⟩:Enters Try.prog 15) rfl rfl rfl rfl rfl ?_
 simp(maxSteps:=999999)(disch:=omega)only[go_sem,zA,zM,zS,zE,zL]
 first|refine OpS.rd (sameIntsF_run (gameGrid q) (gameGrid q) (by omega)) (⟨_,Try.func39,rfl,rfl⟩:Enters Try.prog 39) rfl rfl rfl rfl ?_|refine Loud.rd (sameIntsF_run (gameGrid q) (gameGrid q) (by omega)) (⟨_,Try.func39,rfl,rfl⟩:Enters Try.prog 39) rfl rfl rfl rfl ?_
 simp(maxSteps:=999999)(disch:=omega)only[go_sem,zA,zM,zS,zE,zL]
 first|refine OpS.rd (sGameValid_run q hs) (⟨_,Try.func41,rfl,rfl⟩:Enters Try.prog 41) rfl rfl rfl rfl ?_|refine Loud.rd (sGameValid_run q hs) (⟨_,Try.func41,rfl,rfl⟩:Enters Try.prog 41) rfl rfl rfl rfl ?_
 simp(maxSteps:=999999)(disch:=omega)only[go_sem,zA,zM,zS,zE,zL]
 cases hv:gameValid q with
 |false=>
  have e:gameGrid q=[]:=by unfold gameGrid;rw[hv];rfl
  have d0:decide ((((gameGrid q).length:Nat):Int)=0)=true:=by rw[e];rfl
  simp(maxSteps:=999999)(disch:=omega)only[go_sem,zA,zM,zS,zE,zL,d0]
  first|refine OpS.rd (aliveF_run) (⟨_,Try.func37,rfl,rfl⟩:Enters Try.prog 37) rfl rfl rfl rfl ?_|refine Loud.rd (aliveF_run) (⟨_,Try.func37,rfl,rfl⟩:Enters Try.prog 37) rfl rfl rfl rfl ?_
  simp(maxSteps:=999999)(disch:=omega)only[go_sem,zA,zM,zS,zE,zL]
 |true=>
  obtain⟨n,hN⟩:=GamN.of hv
  have hlen:(gameGrid q).length=q.task.given.length:=by rw[hN.grid,bothG_length]
  have hln:=hN.ln
  have hnth:∀k:Nat,k<q.task.given.length→nth (gameGrid q) k=max (nth q.task.given k) (nth q.put k):=fun k hk=>by rw[hN.grid,bothG_nth hk]
  have hfil:=game_filled hN
  simp(maxSteps:=999999)(disch:=omega)only[go_sem,zA,zM,zS,zE,zL]
  refine loop_rule (fun i:Nat=>(gameGrid q).length -i) (fun i=>i≤(gameGrid q).length) (fun i=>[.a, .a, .a, .k, .k, .p (int i), .a, .a, .a, .a, .a, .a, .a, .a, .a, .a, .a, .a, .a, .a, .a, .a, .a, .a, .a, .a, .a, .a, .a, .a, .a, .a, .a, .a, .a, .a, .a, .a, .a, .a, .a, .a, .a, .a, .a, .a, .a, .a, .a, .a, .a, .a, .a, .a, .a, .a, .a, .a, .a, .a, .a, .a, .a, .a, .a, .a, .a]) (fun i=>[some ⟨g,5,cG q⟩]) 0 (Nat.zero_le _) (by simp(maxSteps:=999999)(disch:=omega)only[go_sem,zA,zM,zS,zE,zL];rfl) (HLe.refl _) ?_
  intro i hi
  simp(maxSteps:=999999)(disch:=omega)only[go_sem,zA,zM,zS,zE,zL]
  ((first|(with_reducible first|refine condK_dec ?_ ?_|refine condK_ndec ?_ ?_|refine condK_nb ?_ ?_)|refine condK_b ?_ ?_)<;>intro c1)
  · have hn:=hnth i (by omega)
    have d1:decide (nth (gameGrid q) i=max (nth q.task.given i) (nth q.put i))=true:=decide_eq_true hn
    simp(maxSteps:=999999)(disch:=omega)only[go_sem,zA,zM,zS,zE,zL]
    refine drawP_q foll (by kernel_rfl) ?_
    simp(maxSteps:=999999)(disch:=omega)only[go_sem,Nat.reduceBEq,Bool.true_or,zA,zM,zS,zE,zL]
    simp(maxSteps:=999999)(disch:=omega)only[go_sem,zA,zM,zS,zE,zL,d1]
    exact⟨i+1,⟨by omega,by omega⟩,by push_cast;rfl,HLe.refl _⟩
  · have hb:=fun(xs:List Int) (n:Int)=>filled_bound xs n
    have hb1:=hb (gameGrid q) q.task.size
    have hb2:=hb q.task.given q.task.size
    have hl4:=hN.len
    simp(maxSteps:=999999)(disch:=omega)only[go_sem,zA,zM,zS,zE,zL]
    refine drawP_q foll (by kernel_rfl) ?_
    simp(maxSteps:=999999)(disch:=omega)only[go_sem,Nat.reduceBEq,Bool.true_or,zA,zM,zS,zE,zL]
    refine quietW.rd (GridFilled_run (gameGrid q) q.task.size (by omega)) (⟨_,Try.func43,rfl,rfl⟩:Enters Try.prog 43) rfl rfl rfl rfl ?_
    simp(maxSteps:=999999)(disch:=omega)only[go_sem,zA,zM,zS,zE,zL]
    refine quietW.rd (GridFilled_run q.task.given q.task.size (by omega)) (⟨_,Try.func43,rfl,rfl⟩:Enters Try.prog 43) rfl rfl rfl rfl ?_
    simp(maxSteps:=999999)(disch:=omega)only[go_sem,zA,zM,zS,zE,zL]
    exact hfil
end Go.Lg

namespace Go.Lg
open Go.Proofs
attribute [-go_sem] appendM lwF_cons
theorem more_moves(q:Gam):gameValid ⟨q.task,q.put,q.moves++[-1]⟩=false:=by
 cases h:gameValid ⟨q.task,q.put,q.moves++[-1]⟩with
 |false=>rfl
 |true=>
  obtain⟨_,_,_,h4,_⟩:=gameValid_facts h
  have:=(mem_filledAt.1 (h4.2.1 (-1) (by simp))).1
  omega
set_option maxHeartbeats 4000000 in
theorem law_FnGameValid(code:List Int)(hl:code.length≤9223372036854775807)(hw:∀x∈code,(Lit.int .u8 x).wf=true):Reads Try.prog 8 [rsl (eI .u8) code] (bool true):=by
 refine RunCall.cw (c:=_) Try.func8 rfl (n:=32) Try.ntmps8 (rs:=[.tmp 2]) rfl ?_
 simp only[List.length_cons,List.length_nil,zA,zS,List.replicate,List.cons_append,List.nil_append]
 simp(maxSteps:=999999)(disch:=omega)only[go_sem,zA,zM,zS,zE,zL]
 ((first|(with_reducible first|refine condK_dec ?_ ?_|refine condK_ndec ?_ ?_|refine condK_nb ?_ ?_)|refine condK_b ?_ ?_)<;>intro h1)
 · simp(maxSteps:=999999)(disch:=omega)only[go_sem,zA,zM,zS,zE,zL]
 simp(maxSteps:=999999)(disch:=omega)only[go_sem,zA,zM,zS,zE,zL]
 refine OpS.mkF (DrawGameValid_run code (wf_u8' hw) (by omega)) (⟨_,Try.func40,rfl,rfl⟩:Enters Try.prog 40) rfl rfl rfl ?_
 rintro _ ⟨q,rfl,hq⟩
 refine⟨rfl,rfl, ?_⟩
 have hs:=hq.sm
 have hm40:=hq.2.2
 simp(maxSteps:=999999)(disch:=omega)only[go_sem,zA,zM,zS,zE,zL]
 intro g
 first|refine OpS.rd (GameValid_run q hs) (⟨_,Try.func38,rfl,rfl⟩:Enters Try.prog 38) rfl rfl rfl rfl ?_|refine Loud.rd (GameValid_run q hs) (⟨_,Try.func38,rfl,rfl⟩:Enters Try.prog 38) rfl rfl rfl rfl ?_
 simp(maxSteps:=999999)(disch:=omega)only[go_sem,zA,zM,zS,zE,zL]
 first|refine OpS.rd (sGameValid_run q hs) (⟨_,Try.func41,rfl,rfl⟩:Enters Try.prog 41) rfl rfl rfl rfl ?_|refine Loud.rd (sGameValid_run q hs) (⟨_,Try.func41,rfl,rfl⟩:Enters Try.prog 41) rfl rfl rfl rfl ?_
 simp(maxSteps:=999999)(disch:=omega)only[go_sem,zA,zM,zS,zE,zL]
 refine drawP_lM [0,1,2,3,4,5,6,8,7,9] [4,8] none [10,11,12,13,14,15,16] [false,true] [0,1,0,4,0,0,32,112,0,496,1023,2047,4095,8191,16383,32767,65535] foll (by kernel_rfl) ?_
 iterate 8 (rw[lwF_cons];simp(maxSteps:=999999)(disch:=omega)only[go_sem,zA,zM,zS,zE,zL])
 rw[lwF_cons]
 simp(maxSteps:=999999)(disch:=omega)only[go_sem,zA,zM,zS,zE,zL]
 refine appendM_LL (E:=eI .i64) (xs:=[]) (ys:=q.moves) (sliceOf_of' ti22 rfl ti3) ⟨rfl,rfl,by decide,by decide⟩ .m ⟨by simp,by omega⟩ elems_f ?_
 intro c1 H1 hO hk1 hk2 hl1 hk3
 rw[List.nil_append]at hO
 have hb1:H1[0]? =some (some ⟨g,5,cG q⟩):=hk1 0 (by simp) (fun h=>h)
 have hn0:¬idsC c1 0:=fun h=>by
  rcases hk2 0 h with h|h
  · exact h
  · simp at h
 obtain⟨T,rfl⟩:∃T,H1=some (⟨g,5,cG q⟩:Blk)::T:=by
  cases H1 with
  |nil=>simp at hb1
  |cons x T=>
   have hb1:x=some ⟨g,5,cG q⟩:=by simpa using hb1
   exact⟨T,by rw[hb1]⟩
 simp(maxSteps:=999999)(disch:=omega)only[go_sem,zA,zM,zS,zE,zL]
 rw[lwF_cons]
 simp(maxSteps:=999999)(disch:=omega)only[go_sem,zA,zM,zS,zE,zL]
 refine appendM_LL (E:=eI .i64) (xs:=q.moves) (ys:=[-1]) (sliceOf_of' ti22 rfl ti3) ⟨rfl,rfl,by decide,by decide⟩ hO ⟨by omega,by simp⟩ (elems_f (E:=eI .i64) (ys:=[-1])) ?_
 intro c2 H2 hO2 hk4 hk5 hl2 hk6
 have hb2:H2[0]? =some (some ⟨g,5,cG q⟩):=by rw[hk4 0 (by simp) hn0];rfl
 obtain⟨T2,rfl⟩:∃T2,H2=some (⟨g,5,cG q⟩:Blk)::T2:=by
  cases H2 with
  |nil=>simp at hb2
  |cons x T=>
   have hb2:x=some ⟨g,5,cG q⟩:=by simpa using hb2
   exact⟨T,by rw[hb2]⟩
 have hok:okM [true] T T2=True:=eq_true (okM_gen fun j b hj hb=>by
  have hj1:1≤j:=by
   cases j with
   |zero=>simp at hj
   |succ j=>omega
  have hjl:=(List.getElem?_eq_some_iff.1 hb).1
  have:=hk4 (j+1) (by simp;omega) fun hc=>by
   rcases hk2 _ hc with h|h
   · exact h
   · simp at h;omega
  simp only[List.getElem?_cons_succ]at this
  rw[this]
  exact hb)
 simp(maxSteps:=999999)(disch:=omega)only[go_sem,zA,zM,zS,zE,zL,hok]
 have hsn:snapD (some (⟨g,5,cG q⟩:Blk)::T2) (.agg [.f (.int .i64 q.task.size), .f (fints q.task.given), .f (fsl eR q.task.rules), .f (fints q.put),c2])=some (aG ⟨q.task,q.put,q.moves++[-1]⟩):=by
  have e1:∀(X:Heap) (n:Int),frzC X (.f (.int .i64 n))=some (.f (.int .i64 n)):=fun _ _=>rfl
  have e2:∀(X:Heap) (xs:List Int),frzC X (.f (fints xs))=some (.f (fints xs)):=fun _ _=>rfl
  have e3:∀(X:Heap) (xs:List Rul),frzC X (.f (fsl eR xs))=some (.f (fsl eR xs)):=fun _ _=>rfl
  simp only[snapD,List.mapM_cons,List.mapM_nil,hO2.frzC,e1,e2,e3,Option.bind_eq_bind,Option.pure_def,Option.bind_some,Option.map_some]
 have hR5:=GameValid_run ⟨q.task,q.put,q.moves++[-1]⟩ ⟨hs.1,hs.2.1,by simp;omega⟩
 rw[more_moves]at hR5
 refine OpS.rdD hR5 (⟨_,Try.func38,rfl,rfl⟩:Enters Try.prog 38) rfl rfl (snap_one hsn) rfl ?_
 simp(maxSteps:=999999)(disch:=omega)only[go_sem,zA,zM,zS,zE,zL]
 first|refine OpS.rd (aliveF_run) (⟨_,Try.func37,rfl,rfl⟩:Enters Try.prog 37) rfl rfl rfl rfl ?_|refine Loud.rd (aliveF_run) (⟨_,Try.func37,rfl,rfl⟩:Enters Try.prog 37) rfl rfl rfl rfl ?_
 simp(maxSteps:=999999)(disch:=omega)only[go_sem,zA,zM,zS,zE,zL]
end Go.Lg

namespace Go.Lg
open Go.Proofs
attribute [-go_sem] appendM lwF_cons
set_option maxHeartbeats 4000000 in
theorem law_FnGameBack(code:List Int)(hl:code.length≤9223372036854775807)(hw:∀x∈code,(Lit.int .u8 x).wf=true):Reads Try.prog 10 [rsl (eI .u8) code] (bool true):=by
 refine RunCall.cw (c:=_) Try.func10 rfl (n:=94) Try.ntmps10 (rs:=[.tmp 2]) rfl ?_
 simp only[List.length_cons,List.length_nil,zA,zS,List.replicate,List.cons_append,List.nil_append]
 simp(maxSteps:=999999)(disch:=omega)only[go_sem,zA,zM,zS,zE,zL]
 ((first|(with_reducible first|refine condK_dec ?_ ?_|refine condK_ndec ?_ ?_|refine condK_nb ?_ ?_)|refine condK_b ?_ ?_)<;>intro h1)
 · simp(maxSteps:=999999)(disch:=omega)only[go_sem,zA,zM,zS,zE,zL]
 simp(maxSteps:=999999)(disch:=omega)only[go_sem,zA,zM,zS,zE,zL]
 refine OpS.mkF (DrawGameBack_run code (wf_u8' hw) (by omega)) (⟨_,Try.func44,rfl,rfl⟩:Enters Try.prog 44) rfl rfl rfl ?_
 rintro _ ⟨q,rfl,hq⟩
 refine⟨rfl,rfl, ?_⟩
 have hs:=hq.sm
 simp(maxSteps:=999999)(disch:=omega)only[go_sem,zA,zM,zS,zE,zL]
 intro g
 first|refine OpS.mk (Reads.ownGB (GameBack_own q hs)) (⟨_,Try.func31,rfl,rfl⟩:Enters Try.prog 31) rfl rfl rfl rfl rfl ?_|refine Loud.mk (Reads.ownGB (GameBack_own q hs)) (⟨_,Try.func31,rfl,rfl⟩:Enters Try.prog 31) rfl rfl rfl rfl rfl ?_
 simp(maxSteps:=999999)(disch:=omega)only[go_sem,zA,zM,zS,zE,zL]
 intro g2
 first|refine OpS.mk (sGameBack_run q hs) (⟨_,Try.func30,rfl,rfl⟩:Enters Try.prog 30) rfl rfl rfl rfl rfl ?_|refine Loud.mk (sGameBack_run q hs) (⟨_,Try.func30,rfl,rfl⟩:Enters Try.prog 30) rfl rfl rfl rfl rfl ?_
 simp(maxSteps:=999999)(disch:=omega)only[go_sem,zA,zM,zS,zE,zL]
 intro g3
 cases hv:gameValid q with
 |false=>
  have e:gameBack q=zeroG:=by unfold gameBack;rw[hv];rfl
  have eB:gameBackB q=false:=by unfold gameBackB;rw[hv];rfl
  rw[e,eB]
  have hz:smG zeroG:=⟨⟨by simp[zeroG],by simp[zeroG],by simp[zeroG]⟩,by simp[zeroG],by simp[zeroG]⟩
  have hzz:decide (zeroG=zeroG)=true:=decide_eq_true rfl
  first|refine OpS.rd (sameGame_run zeroG zeroG hz) (⟨_,Try.func35,rfl,rfl⟩:Enters Try.prog 35) rfl rfl rfl rfl ?_|refine Loud.rd (sameGame_run zeroG zeroG hz) (⟨_,Try.func35,rfl,rfl⟩:Enters Try.prog 35) rfl rfl rfl rfl ?_
  simp(maxSteps:=999999)(disch:=omega)only[go_sem,zA,zM,zS,zE,zL]
  have d0:decide (zeroG.task.size=0)=true:=rfl
  simp(maxSteps:=999999)(disch:=omega)only[go_sem,zA,zM,zS,zE,zL,d0,hzz]
  first|refine OpS.rd (aliveF_run) (⟨_,Try.func37,rfl,rfl⟩:Enters Try.prog 37) rfl rfl rfl rfl ?_|refine Loud.rd (aliveF_run) (⟨_,Try.func37,rfl,rfl⟩:Enters Try.prog 37) rfl rfl rfl rfl ?_
  simp(maxSteps:=999999)(disch:=omega)only[go_sem,zA,zM,zS,zE,zL]
 |true=>
  obtain⟨n,hN⟩:=GamN.of hv
  have hlen:=hN.len
  by_cases hm:q.moves=[]
  · obtain⟨e,eB⟩:=back_no hN hm
    rw[e,eB]
    have hqq:decide (q=q)=true:=decide_eq_true rfl
    have dm:decide (((q.moves.length:Nat):Int)=0)=true:=by rw[hm];rfl
    have hz4:decide (q.task.size=0)=false:=decide_eq_false (by have:=hN.sz;have:=hN.pz.hn;omega)
    first|refine OpS.rd (sameGame_run q q hs) (⟨_,Try.func35,rfl,rfl⟩:Enters Try.prog 35) rfl rfl rfl rfl ?_|refine Loud.rd (sameGame_run q q hs) (⟨_,Try.func35,rfl,rfl⟩:Enters Try.prog 35) rfl rfl rfl rfl ?_
    simp(maxSteps:=999999)(disch:=omega)only[go_sem,zA,zM,zS,zE,zL]
    simp(maxSteps:=999999)(disch:=omega)only[go_sem,zA,zM,zS,zE,zL,hz4]
    first|refine OpS.rd (sameGame_run q q hs) (⟨_,Try.func35,rfl,rfl⟩:Enters Try.prog 35) rfl rfl rfl rfl ?_|refine Loud.rd (sameGame_run q q hs) (⟨_,Try.func35,rfl,rfl⟩:Enters Try.prog 35) rfl rfl rfl rfl ?_
    simp(maxSteps:=999999)(disch:=omega)only[go_sem,zA,zM,zS,zE,zL]
    simp(maxSteps:=999999)(disch:=omega)only[go_sem,zA,zM,zS,zE,zL,dm]
    first|refine OpS.rd (aliveF_run) (⟨_,Try.func37,rfl,rfl⟩:Enters Try.prog 37) rfl rfl rfl rfl ?_|refine Loud.rd (aliveF_run) (⟨_,Try.func37,rfl,rfl⟩:Enters Try.prog 37) rfl rfl rfl rfl ?_
    simp(maxSteps:=999999)(disch:=omega)only[go_sem,zA,zM,zS,zE,zL]
  · obtain⟨hBN,i,h2,h3,h4,h5,h6⟩:=back_facts hN hm
    have eB:=back_B hN hm
    rw[eB]
    obtain⟨r,hr⟩:∃r,r=gameBack q:=⟨_,rfl⟩
    have hrs:smG r:=by rw[hr];exact hBN.smG (by rw[show(gameBack q).task=q.task by unfold gameBack;rw[if_pos hv,if_neg hm]];exact hs.1)
    have hrv:gameValid r=true:=by rw[hr];exact hBN.valid
    rw[←hr]at h4 h5 h6 hBN⊢
    have hrr:decide (r=r)=true:=decide_eq_true rfl
    have hqq:decide (q=q)=true:=decide_eq_true rfl
    have hmp:0<q.moves.length:=List.length_pos_iff.2 hm
    first|refine OpS.rd (sameGame_run r r hrs) (⟨_,Try.func35,rfl,rfl⟩:Enters Try.prog 35) rfl rfl rfl rfl ?_|refine Loud.rd (sameGame_run r r hrs) (⟨_,Try.func35,rfl,rfl⟩:Enters Try.prog 35) rfl rfl rfl rfl ?_
    simp(maxSteps:=999999)(disch:=omega)only[go_sem,zA,zM,zS,zE,zL]
    simp(maxSteps:=999999)(disch:=omega)only[go_sem,zA,zM,zS,zE,zL,h2]
    have hil:(i:Int)<(q.put.length:Int):=by omega
    refine drawP_lM [0,1,2,3,4,5,6,7,8,9,10,11,12] [7] none [13] [false,false,false,true] [0,0,0,4,0,28,60,127,255,511,511,0,3071,8191] foll (by kernel_rfl) ?_
    iterate 7 (rw[lwF_cons];simp(maxSteps:=999999)(disch:=omega)only[go_sem,zA,zM,zS,zE,zL])
    rw[lwF_cons]
    simp(maxSteps:=999999)(disch:=omega)only[go_sem,zA,zM,zS,zE,zL]
    refine softW_call (Reads.ownGB (GamePut_own r i (nth q.put i) hrs)) (⟨_,Try.func33,rfl,rfl⟩:Enters Try.prog 33) rfl rfl (by
     intro x hm
     simp only[Call.operands,List.mem_toArray,Array.mem_append,List.mem_cons,List.not_mem_nil,or_false]at hm
     rcases hm with rfl|rfl|rfl|rfl<;>rfl) rfl ⟨rfl,rfl,rfl,rfl⟩ ?_
    rw[h4,h5]
    simp(maxSteps:=999999)(disch:=omega)only[go_sem,zA,zM,zS,zE,zL]
    iterate 3 (rw[lwF_cons];simp(maxSteps:=999999)(disch:=omega)only[go_sem,zA,zM,zS,zE,zL])
    rw[lwF_cons]
    simp(maxSteps:=999999)(disch:=omega)only[go_sem,zA,zM,zS,zE,zL]
    intro g4
    rw[lwF_cons]
    simp(maxSteps:=999999)(disch:=omega)only[go_sem,zA,zM,zS,zE,zL]
    first|refine OpS.rd (GameValid_run r hrs) (⟨_,Try.func38,rfl,rfl⟩:Enters Try.prog 38) rfl rfl rfl rfl ?_|refine Loud.rd (GameValid_run r hrs) (⟨_,Try.func38,rfl,rfl⟩:Enters Try.prog 38) rfl rfl rfl rfl ?_
    simp(maxSteps:=999999)(disch:=omega)only[go_sem,zA,zM,zS,zE,zL]
    rw[hrv]
    have hd:decide ((r.moves.length:Int)=(q.moves.length:Int) -1)=true:=decide_eq_true (by omega)
    simp(maxSteps:=999999)(disch:=omega)only[go_sem,zA,zM,zS,zE,zL,hd]
    first|refine OpS.rd (sameGame_run q q hs) (⟨_,Try.func35,rfl,rfl⟩:Enters Try.prog 35) rfl rfl rfl rfl ?_|refine Loud.rd (sameGame_run q q hs) (⟨_,Try.func35,rfl,rfl⟩:Enters Try.prog 35) rfl rfl rfl rfl ?_
    simp(maxSteps:=999999)(disch:=omega)only[go_sem,zA,zM,zS,zE,zL]
end Go.Lg
