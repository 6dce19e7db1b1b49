/- GpUI, cut to what is needed. -/
import Derived.Test.YtidekghnkifbjaaGreatDoorJdd6
import Derived.Test.YtidekghnkifbjaaGreatDoorJdd5
open List renaming length_cons → Ja, cons_append → Jb, getElem?_append_left → Jc, nil_append → Jd, length_nil → Je, replicate → Jf, getElem?_eq_some_iff → Jh, getElem?_set_ne → Ji
open Nat renaming reduceAdd→zA,reduceMul→zM,reduceSub→zS,reduceEqDiff→zE,reduceLeDiff→zL
set_option linter.unusedSimpArgs false
set_option linter.unusedVariables false
set_option maxRecDepth 100000
namespace Go.Lg
open Go.Proofs
attribute [-go_sem] Qf J0
theorem Vx.snap{H:Jn}{c:CV}{ts:List (List UInt8)}{S:List Nat}(h:Vx H c ts S):Zs H (.c c)=some (Yf eS ts):=by
 show(Lg.frzC H c).map AV.c=_
 rw[h.frzC]
 rfl
theorem Ra{H:Jn}{ts:List (List UInt8)}:Zs H (Yf eS ts)=some (Yf eS ts):=rfl
theorem Vx.frm{H H':Jn}{c:CV}{ts:List (List UInt8)}{S T:List Nat}(h:Vx H c ts S)(hf:WA H H' T)(hd:∀i∈S,i∉T):Vx H' c ts S:=h.same fun i hi=>hf.2 i (hd i hi)
theorem JeT:∀{q:QU} (ls:List (List UInt8)),smG q→smG (VL q ls)∧Rw (VL q ls)≤Rw q+ls.length
 |q,[],h=>⟨h,Nat.le_refl _⟩
 |q,l::ls,h=>by
  obtain⟨h1,h2⟩:=Jfc h l
  obtain⟨h3,h4⟩:=JeT ls h1
  refine⟨h3, ?_⟩
  show Rw (VL (Zk q l) ls)≤_
  simp only[Ja]
  omega
theorem JjR{q:QU}(h:smG q)(ls:List (List UInt8)):smG (W6 q ls)∧Rw (W6 q ls)≤Rw q+ls.length:=by
 unfold W6
 split
 · exact JeT ls h
 · exact⟨⟨⟨by simp[ZQ],by simp[ZQ],by simp[ZQ]⟩,by simp[ZQ],by simp[ZQ]⟩,by simp[Rw,FG,wM,ZQ]⟩
theorem Jhy(q:QU)(ls:List (List UInt8)):(Xp q ls).length≤ls.length:=by
 unfold Xp
 split
 · rw[RQ];exact Nat.le_refl _
 · simp
theorem JU.markT{o:Oper}{st:St}{K:KV}{fo:Operand}{xs:Array Operand}{tys:Array TypeId}{c:CV}{ts:List (List UInt8)}{S:List Nat}{k:Int}(hT:Vx st.h c ts S)(hk:0≤k∧k≤2^50)(hx:ts.length≤2^40)
 (ho:o.op= .call ⟨.value fo,xs,tys⟩) (ha:Qb st fo xs=some (26,[.c c,int k])) (hK:∀H',Vx H' c (XQ k ts.length) S→WA st.h H' S→K (int (k+ts.length)) H'):JU Tryz.prog o st K:=by
 cases hT with
 |z=>
  refine JU.rdD (R7 k) (⟨_,Tryz.func26,rfl,rfl⟩:Jg Tryz.prog 26) ho ha (QW rfl rfl) rfl ?_
  have:=hK st.h .z (WA.refl _ _)
  simpa using this
 |m=>
  refine JU.rdD (R7 k) (⟨_,Tryz.func26,rfl,rfl⟩:Jg Tryz.prog 26) ho ha (QW rfl rfl) rfl ?_
  have:=hK st.h .m (WA.refl _ _)
  simpa using this
 |o id g xs hl=>
  refine JU.run (FK st.h id g ts k hl hk hx) (⟨_,Tryz.func26,rfl,rfl⟩:Jg Tryz.prog 26) ho ha ?_
  rintro _ H' ⟨rfl,rfl⟩
  have hlt:=(Jh.1 (JH hl).1).1
  refine hK _ ?_ ⟨by simp,fun i hi=>by rw[Ji (fun he=>hi (by simp[he]))]⟩
  have:=Vx.o (H:=st.h.set id (some ⟨g,1,cl eS (XQ k ts.length)⟩)) id g (XQ k ts.length) (J7 hlt)
  rwa [Un]at this
set_option maxHeartbeats 8000000 in
theorem Rk(q:QU)(ls:List (List UInt8))(h1:okG q)(h2:ls.length≤9223372036854775807∧∀l∈ls,l.length≤9223372036854775807):JM Tryz.prog 4 [aG q,Yf eS ls] (bool true):=by
 refine Jk.cw (c:=_) Tryz.func4 rfl (n:=135) Tryz.ntmps4 (rs:=[.tmp 4]) rfl ?_
 simp only[Ja,Je,zA,zS,Jf,Jb,Jd]
 simp(maxSteps:=999999)(disch:=omega)only[go_sem,zA,zM,zS,zE,zL]
 intro g
 first|refine JU.rd (Yc q 1048576 (by omega) h1) (⟨_,Tryz.func17,rfl,rfl⟩:Jg Tryz.prog 17) rfl rfl rfl rfl ?_|refine JG.rd (Yc q 1048576 (by omega) h1) (⟨_,Tryz.func17,rfl,rfl⟩:Jg Tryz.prog 17) rfl rfl rfl rfl ?_
 simp(maxSteps:=999999)(disch:=omega)only[go_sem,zA,zM,zS,zE,zL]
 ((first|(with_reducible first|refine Jm ?_ ?_|refine Jj ?_ ?_|refine Jo ?_ ?_)|refine Jr ?_ ?_)<;>intro h)
 · simp(maxSteps:=999999)(disch:=omega)only[go_sem,zA,zM,zS,zE,zL]
 obtain⟨hw,hwe⟩:=JdA h
 simp(maxSteps:=999999)(disch:=omega)only[go_sem,zA,zM,zS,zE,zL]
 first|refine JU.rd (KH ls (K8 (wG q) 1048576) (by omega) h2) (⟨_,Tryz.func18,rfl,rfl⟩:Jg Tryz.prog 18) rfl rfl rfl rfl ?_|refine JG.rd (KH ls (K8 (wG q) 1048576) (by omega) h2) (⟨_,Tryz.func18,rfl,rfl⟩:Jg Tryz.prog 18) rfl rfl rfl rfl ?_
 simp(maxSteps:=999999)(disch:=omega)only[go_sem,zA,zM,zS,zE,zL]
 ((first|(with_reducible first|refine Jm ?_ ?_|refine Jj ?_ ?_|refine Jo ?_ ?_)|refine Jr ?_ ?_)<;>intro h0)
 · simp(maxSteps:=999999)(disch:=omega)only[go_sem,zA,zM,zS,zE,zL]
 obtain⟨hw2,_⟩:=JdA h0
 have hs:smG q:=Jhq (n:=1048576) (by omega) (by omega)
 have hwm:=Jae q
 have hlen:ls.length≤1048576:=by unfold wS at hw2;omega
 have hll:∀l∈ls,l.length≤2^40:=fun l hl=>by have:=Jk8 l hl;omega
 obtain⟨hsg,hwg⟩:=JjR hs ls
 have hWl:=Jhy q ls
 have hspec:=Ja4 q ls hs (by omega) hll
 have himpl:=Jdl q ls hs (by omega) hll
 obtain⟨R,hR⟩:∃R,R=W6 q ls:=⟨_,rfl⟩
 obtain⟨W,hW⟩:∃W,W=Xp q ls:=⟨_,rfl⟩
 rw[←hR]at hsg hwg hspec himpl
 rw[←hW]at hWl hspec himpl
 clear hR hW
 simp(maxSteps:=999999)(disch:=omega)only[go_sem,zA,zM,zS,zE,zL]
 first|refine JU.mk (Us q hs) (⟨_,Tryz.func20,rfl,rfl⟩:Jg Tryz.prog 20) rfl rfl rfl rfl rfl ?_|refine JG.mk (Us q hs) (⟨_,Tryz.func20,rfl,rfl⟩:Jg Tryz.prog 20) rfl rfl rfl rfl rfl ?_
 simp(maxSteps:=999999)(disch:=omega)only[go_sem,zA,zM,zS,zE,zL]
 first|refine JU.mk (UT ls (by omega)) (⟨_,Tryz.func21,rfl,rfl⟩:Jg Tryz.prog 21) rfl rfl rfl rfl rfl ?_|refine JG.mk (UT ls (by omega)) (⟨_,Tryz.func21,rfl,rfl⟩:Jg Tryz.prog 21) rfl rfl rfl rfl rfl ?_
 simp(maxSteps:=999999)(disch:=omega)only[go_sem,zA,zM,zS,zE,zL]
 first|refine JU.mk (hspec) (⟨_,Tryz.func19,rfl,rfl⟩:Jg Tryz.prog 19) rfl rfl rfl rfl rfl ?_|refine JG.mk (hspec) (⟨_,Tryz.func19,rfl,rfl⟩:Jg Tryz.prog 19) rfl rfl rfl rfl rfl ?_
 simp(maxSteps:=999999)(disch:=omega)only[go_sem,zA,zM,zS,zE,zL]
 intro gw
 refine JU.mkG (B9 q hs) (⟨_,Tryz.func20,rfl,rfl⟩:Jg Tryz.prog 20) rfl rfl rfl ?_
 intro cs H1 S1 hP1 hS1
 simp only[Ja,Je,Jb,Jd]at hS1 hP1
 obtain⟨c1,c2,c3,c4,T1,T2,T3,T4,rfl,eS1,k1,k2,k3,k4⟩:=hP1.ex
 clear k1 k2 k3 k4 eS1
 simp(maxSteps:=999999)(disch:=omega)only[go_sem,zA,zM,zS,zE,zL,JF,Qy]
 intro g8
 refine JU.mkQ (KG ls (by omega)) (⟨_,Tryz.func21,rfl,rfl⟩:Jg Tryz.prog 21) rfl rfl rfl ?_
 rintro r H ⟨g9,rfl,rfl⟩
 refine⟨rfl, ?_⟩
 have e8:look (H1++[some ⟨g8,5,[.f (.int .i64 q.task.size),c1,c2,c3,c4]⟩]++[some ⟨g9,1,cl eS ls⟩]) H1.length g8=some ⟨g8,5,[.f (.int .i64 q.task.size),c1,c2,c3,c4]⟩:=J2 JF
 simp(maxSteps:=999999)(disch:=omega)only[go_sem,zA,zM,zS,zE,zL,JF,Qy,e8]
 obtain⟨HY,hHY⟩:∃HY:Jn,HY=some ⟨g,1,cG q⟩::some ⟨gw,5,cG R⟩::(H1++[some ⟨g8,5,[.f (.int .i64 q.task.size),c1,c2,c3,c4]⟩]++[some ⟨g9,1,cl eS ls⟩]):=⟨_,rfl⟩
 obtain⟨J8,hJ8⟩:∃J8,J8=H1.length+1+1:=⟨_,rfl⟩
 have y0:look HY 0 g=some ⟨g,1,cG q⟩:=by rw[hHY];exact XR
 have y1:look HY 1 gw=some ⟨gw,5,cG R⟩:=by rw[hHY];simp only[go_sem]
 have y8:look HY J8 g8=some ⟨g8,5,[.f (.int .i64 q.task.size),c1,c2,c3,c4]⟩:=by rw[hHY,hJ8];simp only[go_sem];exact e8
 have yX:Vx HY (.own (J8+1) g9 0 ls.length none) ls [J8+1]:= .o _ g9 ls (by rw[hHY,hJ8];unfold look;simp)
 have yP:UF HY [.f (.int .i64 q.task.size),c1,c2,c3,c4] q S1:=by
  rw[hHY]
  exact(hP1.app (H':=[some ⟨g8,5,[.f (.int .i64 q.task.size),c1,c2,c3,c4]⟩])).app (H':=[some ⟨g9,1,cl eS ls⟩])
 have yl:HY.length=J8+2:=by rw[hHY,hJ8];simp
 have mS1:∀i∈S1,2≤i∧i<J8:=fun i hi=>by have:=hS1 i hi;omega
 have h28:2≤J8:=by omega
 rw[Nat.zero_add,←hHY,←hJ8]
 clear hHY hP1 e8 hS1 hJ8
 refine JU.mkRun himpl (⟨_,Tryz.func22,rfl,rfl⟩:Jg Tryz.prog 22) rfl rfl (QW yP.snap yX.snap) ?_
 intro cs c H2 S2 T2 zG zT hST mS2 mT2
 obtain⟨d1,d2,d3,d4,U1,U2,U3,U4,rfl,eU,m1,m2,m3,m4⟩:=zG.ex
 clear m1 m2 m3 m4 eU
 simp only at zG zT mS2 mT2
 obtain⟨HB,hHB⟩:∃HB:Jn,HB=HY++H2:=⟨_,rfl⟩
 have lB:HB.length=HY.length+H2.length:=by rw[hHB];simp
 have eB:∀i,i<HY.length→HB[i]? =HY[i]? :=fun i hi=>by rw[hHB,Jc hi]
 rw[←hHB]at zG zT⊢
 clear hHB
 simp(maxSteps:=999999)(disch:=omega)only[go_sem,zA,zM,zS,zE,zL]
 intro g10
 simp(maxSteps:=999999)(disch:=omega)only[go_sem,zA,zM,zS,zE,zL,JF,Qy]
 obtain⟨HZ,hHZ⟩:∃HZ:Jn,HZ=HB++[some ⟨g10,5,[.f (.int .i64 R.task.size),d1,d2,d3,d4]⟩]:=⟨_,rfl⟩
 obtain⟨J,hJ⟩:∃J,J=HB.length:=⟨_,rfl⟩
 have eZ:∀i,i<HY.length→HZ[i]? =HY[i]? :=fun i hi=>by rw[hHZ,Jc (by omega),eB i hi]
 have lk:∀{i gg:Nat} {b:Zo},look HY i gg=some b→look HZ i gg=some b:=fun{i gg b} hb=>by
  have hi:=(Jh.1 (JH hb).1).1
  unfold look at*
  rw[eZ i hi]
  exact hb
 have z0:=lk y0
 have z1:=lk y1
 have z8:=lk y8
 have z10:look HZ J g10=some ⟨g10,5,[.f (.int .i64 R.task.size),d1,d2,d3,d4]⟩:=by rw[hHZ,hJ];exact JF
 have zX:=yX.same fun i hi=>eZ i (by have:i=J8+1:=by simpa using hi
                                     omega)
 have zP:=yP.same fun i hi=>eZ i (by have:=mS1 i hi;omega)
 have zG':UF HZ [.f (.int .i64 R.task.size),d1,d2,d3,d4] R S2:=zG.same fun i hi=>by rw[hHZ,Jc (by have:=mS2 i hi;omega)]
 have zT':Vx HZ c W T2:=zT.same fun i hi=>by rw[hHZ,Jc (by have:=mT2 i hi;omega)]
 have mS2:∀i∈S2,J8+2≤i∧i<J:=fun i hi=>by have:=mS2 i hi;omega
 have mT2:∀i∈T2,J8+2≤i∧i<J:=fun i hi=>by have:=mT2 i hi;omega
 have lZ:HZ.length=J+1:=by rw[hHZ,hJ];simp
 have hJ8:J8+2≤J:=by omega
 rw[←hHZ,←hJ]
 clear hHZ hJ lk eZ eB zG zT y0 y1 y8 yX yP
 have hRR:decide (R=R)=true:=decide_eq_true rfl
 have hWW:decide (W=W)=true:=decide_eq_true rfl
 have hqq:decide (q=q)=true:=decide_eq_true rfl
 have hss:decide (ls=ls)=true:=decide_eq_true rfl
 simp(maxSteps:=999999)(disch:=omega)only[go_sem,zA,zM,zS,zE,zL,z1]
 refine JU.rdD (Uu R R hsg) (⟨_,Tryz.func23,rfl,rfl⟩:Jg Tryz.prog 23) rfl rfl (QW zG'.snap Wr) rfl ?_
 simp(maxSteps:=999999)(disch:=omega)only[go_sem,zA,zM,zS,zE,zL,hRR]
 refine JU.rdD (Vw W W (by omega)) (⟨_,Tryz.func24,rfl,rfl⟩:Jg Tryz.prog 24) rfl rfl (QW zT'.snap Ra) rfl ?_
 simp(maxSteps:=999999)(disch:=omega)only[go_sem,zA,zM,zS,zE,zL,hWW]
 refine Z5 [0,1,2] [] none [3,4] [] [0,0,2,7,15] ZE (by kernel_rfl) ?_
 iterate 2 (rw[J0];simp(maxSteps:=999999)(disch:=omega)only[go_sem,zA,zM,zS,zE,zL,z8,z0])
 rw[J0]
 simp(maxSteps:=999999)(disch:=omega)only[go_sem,zA,zM,zS,zE,zL]
 refine JG.mk (Us q hs) (⟨_,Tryz.func20,rfl,rfl⟩:Jg Tryz.prog 20) rfl rfl rfl rfl rfl ?_
 simp(maxSteps:=999999)(disch:=omega)only[go_sem,zA,zM,zS,zE,zL]
 refine JU.rdD (Uu q q hs) (⟨_,Tryz.func23,rfl,rfl⟩:Jg Tryz.prog 23) rfl rfl (QW zP.snap Wr) rfl ?_
 simp(maxSteps:=999999)(disch:=omega)only[go_sem,zA,zM,zS,zE,zL,hqq]
 first|refine JU.mk (UT ls (by omega)) (⟨_,Tryz.func21,rfl,rfl⟩:Jg Tryz.prog 21) rfl rfl rfl rfl rfl ?_|refine JG.mk (UT ls (by omega)) (⟨_,Tryz.func21,rfl,rfl⟩:Jg Tryz.prog 21) rfl rfl rfl rfl rfl ?_
 simp(maxSteps:=999999)(disch:=omega)only[go_sem,zA,zM,zS,zE,zL]
 refine JU.rdD (Vw ls ls (by omega)) (⟨_,Tryz.func24,rfl,rfl⟩:Jg Tryz.prog 24) rfl rfl (QW zX.snap Ra) rfl ?_
 simp(maxSteps:=999999)(disch:=omega)only[go_sem,zA,zM,zS,zE,zL,hss,z8]
 refine JU.run (Wo HZ _ q S1 1 zP (by omega) hs) (⟨_,Tryz.func25,rfl,rfl⟩:Jg Tryz.prog 25) rfl rfl ?_
 rintro _ H3 ⟨rfl,_,f3⟩
 have a0:=z0
 have a1:=z1
 have a10:=z10
 rw[←f3.look (fun hm=>by have:=mS1 _ hm;omega)]at a0 a1 a10
 have aX:=zX.frm f3 fun i hi hm=>by
  have:=mS1 _ hm
  have:i=J8+1:=by simpa using hi
  omega
 have aG':=zG'.frm f3 fun i hi hm=>by have:=mS1 _ hm;have:=mS2 i hi;omega
 have aT:=zT'.frm f3 fun i hi hm=>by have:=mS1 _ hm;have:=mT2 i hi;omega
 simp(maxSteps:=999999)(disch:=omega)only[go_sem,zA,zM,zS,zE,zL]
 refine JU.markT aX (by omega) (by omega) rfl rfl ?_
 intro H4 _ f4
 have b0:=a0
 have b1:=a1
 have b10:=a10
 have hx0:∀i,i≠J8+1→i∉[J8+1]:=fun i hi hm=>hi (by simpa using hm)
 rw[←f4.look (hx0 _ (by omega))]at b0 b1 b10
 have bG:=aG'.frm f4 fun i hi=>hx0 i (by have:=mS2 i hi;omega)
 have bT:=aT.frm f4 fun i hi=>hx0 i (by have:=mT2 i hi;omega)
 clear a0 a1 a10 aX aG' aT f3 z0 z1 z8 z10 zX zP zG' zT'
 simp(maxSteps:=1000000) (disch:=omega)only[go_sem,U7,Z6,Xs,VW,Vv,Ut,Nat.reduceAdd,Nat.reduceMul,Nat.reduceSub,Nat.reduceEqDiff,Nat.reduceLeDiff]
 simp(maxSteps:=999999)(disch:=omega)only[go_sem,zA,zM,zS,zE,zL,b10,b1]
 refine JU.rdD (Uu R R hsg) (⟨_,Tryz.func23,rfl,rfl⟩:Jg Tryz.prog 23) rfl rfl (QW bG.snap Wr) rfl ?_
 simp(maxSteps:=999999)(disch:=omega)only[go_sem,zA,zM,zS,zE,zL,hRR]
 refine JU.rdD (Vw W W (by omega)) (⟨_,Tryz.func24,rfl,rfl⟩:Jg Tryz.prog 24) rfl rfl (QW bT.snap Ra) rfl ?_
 simp(maxSteps:=999999)(disch:=omega)only[go_sem,zA,zM,zS,zE,zL,hWW,b10]
 refine JU.run (Wo H4 _ R S2 1 bG (by omega) hsg) (⟨_,Tryz.func25,rfl,rfl⟩:Jg Tryz.prog 25) rfl rfl ?_
 rintro _ H5 ⟨rfl,cG',f5⟩
 have c0:=b0
 have c1':=b1
 have c10:=b10
 rw[←f5.look (fun hm=>by have:=mS2 _ hm;omega)]at c0 c1' c10
 have cT:=bT.frm f5 hST
 simp(maxSteps:=999999)(disch:=omega)only[go_sem,zA,zM,zS,zE,zL]
 refine JU.markT cT (by omega) (by omega) rfl rfl ?_
 intro H6 eT f6
 have e0:=c0
 have e1:=c1'
 have e10:=c10
 rw[←f6.look (fun hm=>by have:=mT2 _ hm;omega)]at e0 e1 e10
 have eG:=cG'.frm f6 fun i hi hm=>hST i hm hi
 clear b0 b1 b10 bG bT f4 c0 c1' c10 cG' cT f5 f6
 simp(maxSteps:=999999)(disch:=omega)only[go_sem,zA,zM,zS,zE,zL,e10]
 refine JU.rdD (WK R 1 (by omega) hsg) (⟨_,Tryz.func27,rfl,rfl⟩:Jg Tryz.prog 27) rfl rfl (QW eG.snap UU) rfl ?_
 simp(maxSteps:=1000000) (disch:=omega)only[go_sem,U7,Z6,Xs,VW,Vv,Ut,Nat.reduceAdd,Nat.reduceMul,Nat.reduceSub,Nat.reduceEqDiff,Nat.reduceLeDiff]
 refine JU.rdD (YA W.length (1+Rw R) (by omega) (by omega)) (⟨_,Tryz.func28,rfl,rfl⟩:Jg Tryz.prog 28) rfl rfl (QW eT.snap UU) rfl ?_
 simp(maxSteps:=1000000) (disch:=omega)only[go_sem,U7,Z6,Xs,VW,Vv,Ut,Nat.reduceAdd,Nat.reduceMul,Nat.reduceSub,Nat.reduceEqDiff,Nat.reduceLeDiff]
 simp(maxSteps:=999999)(disch:=omega)only[go_sem,zA,zM,zS,zE,zL,e0]
 first|refine JU.mk (Us q hs) (⟨_,Tryz.func20,rfl,rfl⟩:Jg Tryz.prog 20) rfl rfl rfl rfl rfl ?_|refine JG.mk (Us q hs) (⟨_,Tryz.func20,rfl,rfl⟩:Jg Tryz.prog 20) rfl rfl rfl rfl rfl ?_
 simp(maxSteps:=999999)(disch:=omega)only[go_sem,zA,zM,zS,zE,zL]
 first|refine JU.mk (UT ls (by omega)) (⟨_,Tryz.func21,rfl,rfl⟩:Jg Tryz.prog 21) rfl rfl rfl rfl rfl ?_|refine JG.mk (UT ls (by omega)) (⟨_,Tryz.func21,rfl,rfl⟩:Jg Tryz.prog 21) rfl rfl rfl rfl rfl ?_
 simp(maxSteps:=999999)(disch:=omega)only[go_sem,zA,zM,zS,zE,zL]
 first|refine JU.mk (JM.ownRun himpl) (⟨_,Tryz.func22,rfl,rfl⟩:Jg Tryz.prog 22) rfl rfl rfl rfl rfl ?_|refine JG.mk (JM.ownRun himpl) (⟨_,Tryz.func22,rfl,rfl⟩:Jg Tryz.prog 22) rfl rfl rfl rfl rfl ?_
 simp(maxSteps:=999999)(disch:=omega)only[go_sem,zA,zM,zS,zE,zL]
 intro g15
 have l1:∀b,look (H6++[b]) 1 gw=some ⟨gw,5,cG R⟩:=fun b=>J2 e1
 have l10:∀b,look (H6++[b]) J g10=some ⟨g10,5,[.f (.int .i64 R.task.size),d1,d2,d3,d4]⟩:=fun b=>J2 e10
 simp(maxSteps:=999999)(disch:=omega)only[go_sem,zA,zM,zS,zE,zL,JF,Qy,l1]
 first|refine JU.rd (Uu R R hsg) (⟨_,Tryz.func23,rfl,rfl⟩:Jg Tryz.prog 23) rfl rfl rfl rfl ?_|refine JG.rd (Uu R R hsg) (⟨_,Tryz.func23,rfl,rfl⟩:Jg Tryz.prog 23) rfl rfl rfl rfl ?_
 simp(maxSteps:=999999)(disch:=omega)only[go_sem,zA,zM,zS,zE,zL]
 first|refine JU.rd (Vw W W (by omega)) (⟨_,Tryz.func24,rfl,rfl⟩:Jg Tryz.prog 24) rfl rfl rfl rfl ?_|refine JG.rd (Vw W W (by omega)) (⟨_,Tryz.func24,rfl,rfl⟩:Jg Tryz.prog 24) rfl rfl rfl rfl ?_
 simp(maxSteps:=999999)(disch:=omega)only[go_sem,zA,zM,zS,zE,zL]
 simp(maxSteps:=999999)(disch:=omega)only[go_sem,zA,zM,zS,zE,zL,l10]
 refine JU.rdD (WK R 1 (by omega) hsg) (⟨_,Tryz.func27,rfl,rfl⟩:Jg Tryz.prog 27) rfl rfl (QW (eG.app (H':=[_])).snap UU) rfl ?_
 simp(maxSteps:=1000000) (disch:=omega)only[go_sem,U7,Z6,Xs,VW,Vv,Ut,Nat.reduceAdd,Nat.reduceMul,Nat.reduceSub,Nat.reduceEqDiff,Nat.reduceLeDiff]
 have eT':∀b,Vx (H6++[b]) c (XQ (1+↑(Rw R)) W.length) T2:=fun b=>eT.same fun i hi=>Jc (eT.lt i hi)
 refine JU.rdD (YA W.length (1+Rw R) (by omega) (by omega)) (⟨_,Tryz.func28,rfl,rfl⟩:Jg Tryz.prog 28) rfl rfl (QW (eT' _).snap UU) rfl ?_
 simp(maxSteps:=1000000) (disch:=omega)only[go_sem,U7,Z6,Xs,VW,Vv,Ut,Nat.reduceAdd,Nat.reduceMul,Nat.reduceSub,Nat.reduceEqDiff,Nat.reduceLeDiff]
end Go.Lg
