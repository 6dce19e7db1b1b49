/- GpYC, cut to what is needed. -/
import Derived.Test.YtidekghnkifbjaaGreatDoorJec2
open List renaming getElem?_append_left → Ja, cons_append → Jb, nil_append → Jc, replicate → Jd, length_cons → Je, length_nil → Jf, getElem?_set_ne → Jg, getElem?_eq_some_iff → Jh, length_append → Jk, length_set → Jo, append_assoc → Jt
open Nat renaming reduceAdd→zA,reduceMul→zM,reduceSub→zS,reduceEqDiff→zE,reduceLeDiff→zL
set_option linter.unusedSimpArgs false
set_option linter.unusedVariables false
set_option maxRecDepth 100000
namespace Go.Lg
open Go.Proofs
attribute [-go_sem] J9 Jv
def JhF(zs0 zs:List Int):Prop:=∀k:Nat,JA zs k=JA zs0 k∨JA zs k=0
theorem JhF.set{zs0 zs:List Int}{k:Nat}(h:JhF zs0 zs)(hk:k<zs.length):JhF zs0 (zs.set k 0):=fun j=>by
 rw[Za _ _ _ _ hk]
 split
 · exact .inr rfl
 · exact h j
def Jl6(H:Jm)(z:Int)(zs0:List Int)(rs:List Z0):KV:=fun v H'=>H.length≤H'.length∧(∀i,i<H.length→H'[i]? =H[i]?)∧((∃c1 c2 c3,v= .tup [.agg [c1,c2,c3],bool false])∨∃gc rc zs,v= .tup [.agg [.f (.int .i64 z),gc,rc],bool true]∧(zs.length=zs0.length∧JhF zs0 zs)∧PzO H' H.length z gc rc zs rs)
structure MiV(H HI:Jm)(XI xg g2:Nat)(z:Int)(zs0:List Int)(rs:List Z0):Prop where
 ex:∃gc rc zs,look HI XI xg=some ⟨xg,3,[.f (.int .i64 z),gc,rc]⟩∧(zs.length=zs0.length∧JhF zs0 zs)∧PzO HI (H.length+2) z gc rc zs rs∧¬QJ gc XI∧¬QJ rc XI
 out:look HI (H.length+1) g2=some ⟨g2,3,[.f (.int .i64 0), .f .nil, .f .nil]⟩
 lt:H.length+2≤XI∧XI<HI.length
 frm:∀i,i<H.length→HI[i]? =H[i]?
theorem Bg(H:Jm)(z:Int)(gid gg:Nat)(zs:List Int)(rc:CV)(rs:List Z0)(hg:look H gid gg=some ⟨gg,1,cl (eI .i64) zs⟩)(hr:Zq eR 3 H rc rs)(hz:zs.length≤2^30)(hx:Jgf rs):
 Jn Tryz.prog 120 [.agg [.f (.int .i64 z), .own gid gg 0 zs.length none,rc]] H (Jl6 H z zs rs):=by
 have hgX:∀L,look (H++L) gid gg=some ⟨gg,1,cl (eI .i64) zs⟩:=fun L=>JO hg
 have hsm:Rf ⟨z,zs,rs⟩:=⟨by show zs.length≤_;omega,hx⟩
 refine Jn.cw (c:=_) Tryz.func120 rfl (n:=42) Tryz.ntmps120 (rs:=[.cell 2 26, .tmp 3]) rfl ?_
 simp only[Je,Jf,zA,zS,Jd,Jb,Jc]
 simp(maxSteps:=999999)(disch:=omega)only[go_sem,zA,zM,zS,zE,zL,Qf,Qm,QS,QF,Jt,Jb,Jc,Jk,hgX]
 intro g1 g2
 refine JZ.run (Gp _ z gid gg zs rc rs (hgX _) hr.app (by omega) hx) (⟨_,Tryz.func98,rfl,rfl⟩:Ji Tryz.prog 98) rfl rfl ?_
 rintro _ _ ⟨rfl,rfl⟩
 simp(maxSteps:=999999)(disch:=omega)only[go_sem,zA,zM,zS,zE,zL,Qf,Qm,QS,QF,Jt,Jb,Jc,Jk,hgX]
 first|refine JZ.rd (Qh ⟨z,zs,rs⟩ hsm) (⟨_,Tryz.func38,rfl,rfl⟩:Ji Tryz.prog 38) rfl rfl rfl rfl ?_|refine JK.rd (Qh ⟨z,zs,rs⟩ hsm) (⟨_,Tryz.func38,rfl,rfl⟩:Ji Tryz.prog 38) rfl rfl rfl rfl ?_
 simp(maxSteps:=999999)(disch:=omega)only[go_sem,zA,zM,zS,zE,zL]
 ((with_reducible first|refine JJ ?_ ?_|refine JF ?_ ?_|refine JU ?_ ?_|refine Jw ?_ ?_|refine JH ?_ ?_|refine JI ?_ ?_|refine JD ?_ ?_|refine JE ?_ ?_|refine JS ?_ ?_|refine JT ?_ ?_|refine Jy ?_ ?_|refine Jz ?_ ?_)<;>intro h1<;>simp(maxSteps:=999999)(disch:=omega)only[go_sem,zA,zM,zS,zE,zL,h1])
 rotate_left
 · simp(maxSteps:=999999)(disch:=omega)only[go_sem,zA,zM,zS,zE,zL,Qf,Qm,QS,QF,Jt,Jb,Jc,Jk]
   exact⟨_,J0.refl _,by simp,fun i hi=>Ja hi, .inl ⟨_,_,_,rfl⟩⟩
 simp(maxSteps:=999999)(disch:=omega)only[go_sem,zA,zM,zS,zE,zL,Qf,Qm,QS,QF,Jt,Jb,Jc,Jk,hgX]
 first|refine JZ.rd (Wp ⟨z,zs,rs⟩ hsm) (⟨_,Tryz.func144,rfl,rfl⟩:Ji Tryz.prog 144) rfl rfl rfl rfl ?_|refine JK.rd (Wp ⟨z,zs,rs⟩ hsm) (⟨_,Tryz.func144,rfl,rfl⟩:Ji Tryz.prog 144) rfl rfl rfl rfl ?_
 simp(maxSteps:=999999)(disch:=omega)only[go_sem,zA,zM,zS,zE,zL]
 ((first|(with_reducible first|refine Jl ?_ ?_|refine Jj ?_ ?_|refine Jp ?_ ?_)|refine Jr ?_ ?_)<;>intro h2)
 rotate_left
 · simp(maxSteps:=999999)(disch:=omega)only[go_sem,zA,zM,zS,zE,zL,Qf,Qm,QS,QF,Jt,Jb,Jc,Jk]
   exact⟨_,J0.refl _,by simp,fun i hi=>Ja hi, .inl ⟨_,_,_,rfl⟩⟩
 have hz4:4≤zs.length:=by
  exact(Jeo h1).2.1
 simp(maxSteps:=999999)(disch:=omega)only[go_sem,zA,zM,zS,zE,zL,Qf,Qm,QS,QF,Jt,Jb,Jc,Jk]
 refine Q3 [0,1,2,3,4,6,7,8,11,5,9,10] [2,6] (some 11) [12] [] [0,1,0,0,8,28,0,0,128,508,1023,0,4095] Zd (by kernel_rfl) ?_
 iterate 9 (rw[Jv];simp(maxSteps:=999999)(disch:=omega)only[go_sem,zA,zM,zS,zE,zL,Qf,Qm,QS,QF,Jt,Jb,Jc,Jk])
 rw[Jv]
 simp(maxSteps:=999999)(disch:=omega)only[go_sem,zA,zM,zS,zE,zL,Qf,Qm,QS,QF,Jt,Jb,Jc,Jk]
 refine Ge (E:=eI .i64) (ys:=zs) (Qb UE rfl Kh) ⟨rfl,rfl,by decide,by decide⟩ ⟨by omega,by omega⟩ XR ?_
 intro g3
 simp(maxSteps:=999999)(disch:=omega)only[go_sem,zA,zM,zS,zE,zL,Qf,Qm,QS,QF,Jt,Jb,Jc,Jk]
 refine⟨Jc7 _ [_,_] [_], ?_⟩
 rcases Nat.eq_zero_or_pos rs.length with h0|h0
 · have:rs=[]:=List.eq_nil_of_length_eq_zero h0
   subst this
   rw[Jv]
   simp(maxSteps:=999999)(disch:=omega)only[go_sem,zA,zM,zS,zE,zL,Qf,Qm,QS,QF,Jt,Jb,Jc,Jk]
   have hapE:∀(H:Jm) (K:KV),K (.c .emp) H→J9 Tryz.prog H 24 (.c .emp) (.c (.f (Uu eR []))) K:=fun H K hk=>by
    unfold J9
    rw[Qb Jd5 rfl GI]
    exact hk
   refine hapE _ _ ?_
   simp(maxSteps:=999999)(disch:=omega)only[go_sem,zA,zM,zS,zE,zL,Qf,Qm,QS,QF,Jt,Jb,Jc,Jk]
   rw[Jv]
   simp(maxSteps:=999999)(disch:=omega)only[go_sem,zA,zM,zS,zE,zL,Qf,Qm,QS,QF,Jt,Jb,Jc,Jk]
   intro g5
   obtain⟨HI,hHI⟩:∃HI:Jm,HI=H++[some ⟨g1,1,[.f (.int .i64 z), .f (J5 zs), .f (Uu eR [])]⟩,some ⟨g2,3,[.f (.int .i64 0), .f .nil, .f .nil]⟩,some ⟨g3,1,cl (eI .i64) zs⟩,some ⟨g5,3,[.f (.int .i64 z), .own (H.length+2) g3 0 zs.length none, .emp]⟩]:=⟨_,rfl⟩
   have hm0:MiV H HI (H.length+3) g5 g2 z zs []:=
    {ex:=⟨.own (H.length+2) g3 0 zs.length none, .emp,zs,by rw[hHI,Qf];exact J8 (b:=⟨g5,3,[.f (.int .i64 z), .own (H.length+2) g3 0 zs.length none, .emp]⟩) rfl,⟨rfl,fun _=> .inl rfl⟩,⟨H.length+2,g3,rfl,by rw[hHI,Qf];exact J8 (b:=⟨g3,1,cl (eI .i64) zs⟩) rfl,Nat.le_refl _,by rw[hHI];exact .m,fun i h=>h.elim⟩,fun h=>by simp only[QJ]at h;omega,fun h=>h⟩
     out:=by rw[hHI,Qf];exact J8 (b:=⟨g2,3,[.f (.int .i64 0), .f .nil, .f .nil]⟩) rfl
     lt:=by rw[hHI];simp
     frm:=fun i hi=>by rw[hHI,Ja hi]}
   rw[←hHI]
   clear hHI
   refine Qp (fun(k:Nat) (HI:Jm)=>zs.length -k) (fun k HI=>k≤zs.length∧MiV H HI (H.length+3) g5 g2 z zs []) (fun k HI=>[.a, .a, .k, .a, .k, .p (int k), .a, .a, .a, .a, .a, .a, .a, .a, .a, .a, .a, .a, .a, .a, .a, .a, .a, .a, .a, .a, .a, .a, .a, .a, .a, .a, .a, .a, .a, .a, .a, .a, .a, .a, .a, .a]) (fun _ HI=>HI) 0 HI ⟨Nat.zero_le _,hm0⟩ (by simp(maxSteps:=999999)(disch:=omega)only[go_sem,zA,zM,zS,zE,zL];rfl) (J0.refl _) ?_
   rintro k HI ⟨hk,hm⟩
   obtain⟨gc,rc,zs',hx1,hx2,hx3,hx4,hx5⟩:=hm.ex
   have hsn:=hx3.snap
   have hout:=hm.out
   have hlt:=hm.lt
   obtain⟨gid',gg',rfl,hg1,hg2,hr1,hr2⟩:=hx3
   simp(maxSteps:=999999)(disch:=omega)only[go_sem,zA,zM,zS,zE,zL,hx1,hg1]
   ((first|(with_reducible first|refine Jl ?_ ?_|refine Jj ?_ ?_|refine Jp ?_ ?_)|refine Jr ?_ ?_)<;>intro c1)
   · have c1:k<zs'.length:=by omega
     have hsm':Rf ⟨z,zs',[]⟩:=⟨by show zs'.length≤_;omega,hx⟩
     simp(maxSteps:=999999)(disch:=omega)only[go_sem,zA,zM,zS,zE,zL,hx1]
     refine JZ.rdD (Yc ⟨z,zs',[]⟩ k (by omega) hsm') (⟨_,Tryz.func145,rfl,rfl⟩:Ji Tryz.prog 145) rfl rfl (UO hsn VO) rfl ?_
     simp(maxSteps:=999999)(disch:=omega)only[go_sem,zA,zM,zS,zE,zL]
     ((first|(with_reducible first|refine Jl ?_ ?_|refine Jj ?_ ?_|refine Jp ?_ ?_)|refine Jr ?_ ?_)<;>intro c2)
     · simp(maxSteps:=999999)(disch:=omega)only[go_sem,zA,zM,zS,zE,zL,hx1]
       refine JZ.run (Kz HI z gid' gg' k zs' rc hg1 c1 (by omega)) (⟨_,Tryz.func146,rfl,rfl⟩:Ji Tryz.prog 146) rfl rfl ?_
       rintro _ H5 ⟨id6,g6,rfl,w1,w2,w3,w4⟩
       have hid6:id6<H5.length:=(Jh.1 (JG w1).1).1
       have hx6:look H5 (H.length+3) g5=some ⟨g5,3,[.f (.int .i64 z), .own gid' gg' 0 zs'.length none,rc]⟩:=by unfold look at hx1⊢;rw[w4 _ hlt.2];exact hx1
       simp(maxSteps:=999999)(disch:=omega)only[go_sem,zA,zM,zS,zE,zL,hx6]
       have hset:∀i:Nat,i≠(H.length+3)→∀b,(H5.set (H.length+3) b)[i]? =H5[i]? :=fun i hi b=>by rw[Jg (Ne.symm hi)]
       refine⟨k+1,_,⟨⟨by omega, ?_⟩,by omega⟩,by push_cast;omega,J0.refl _⟩
       exact{ex:=⟨.own id6 g6 0 zs'.length none,rc,zs'.set k 0,JM (by omega),⟨by rw[Jo];exact hx2.1,hx2.2.set c1⟩,⟨id6,g6,by rw[Jo],by unfold look at w1⊢;rw[hset _ (by omega)];exact w1,by omega,hr1.same (fun i hi hl=>by
              rw[hset i (fun h=>hx5 (by rw[←h];exact hi)),w4 i hl]),fun i hi=>⟨(hr2 i hi).1,fun h=>by
              have:=hr1.lt i hi
              omega⟩⟩,fun h=>by simp only[QJ]at h;omega,hx5⟩
             out:=by unfold look at hout⊢;rw[hset _ (by omega),w4 _ (by omega)];exact hout
             lt:=by rw[Jo];omega
             frm:=fun i hi=>by rw[hset i (by omega),w4 i (by omega)];exact hm.frm i hi}
     · simp(maxSteps:=999999)(disch:=omega)only[go_sem,zA,zM,zS,zE,zL]
       exact⟨k+1,HI,⟨⟨by omega,hm⟩,by omega⟩,by push_cast;omega,J0.refl _⟩
   · simp(maxSteps:=999999)(disch:=omega)only[go_sem,zA,zM,zS,zE,zL,hx1,hout]
     have hS:∀b,look (HI.set (H.length+1) (some ⟨g2,3,b⟩)) (H.length+1) g2=some ⟨g2,3,b⟩:=fun b=>JM (by omega)
     simp(maxSteps:=999999)(disch:=omega)only[go_sem,zA,zM,zS,zE,zL,hS]
     refine⟨_,J0.refl _,by rw[Jo];omega,fun i hi=>by rw[Jg (by omega)];exact hm.frm i hi, .inr ⟨_,_,zs',rfl,hx2, ?_⟩⟩
     refine(PzO.same (H:=HI) ⟨gid',gg',rfl,hg1,hg2,hr1,hr2⟩ fun i hi _ _=> ?_).n0 (by omega)
     rw[Jg (by omega)]
 · rw[Jv]
   simp(maxSteps:=999999)(disch:=omega)only[go_sem,zA,zM,zS,zE,zL,Qf,Qm,QS,QF,Jt,Jb,Jc,Jk]
   refine Ge (E:=eR) (ys:=rs) (Qb Jd5 rfl GI) ⟨rfl,rfl,by decide,by decide⟩ ⟨by omega,hx.1⟩ XR ?_
   intro g4
   simp(maxSteps:=999999)(disch:=omega)only[go_sem,zA,zM,zS,zE,zL,Qf,Qm,QS,QF,Jt,Jb,Jc,Jk]
   refine⟨Jc7 _ [_,_,_] [_], ?_⟩
   rw[Jv]
   simp(maxSteps:=999999)(disch:=omega)only[go_sem,zA,zM,zS,zE,zL,Qf,Qm,QS,QF,Jt,Jb,Jc,Jk]
   intro g5
   obtain⟨HI,hHI⟩:∃HI:Jm,HI=H++[some ⟨g1,1,[.f (.int .i64 z), .f (J5 zs), .f (Uu eR rs)]⟩,some ⟨g2,3,[.f (.int .i64 0), .f .nil, .f .nil]⟩,some ⟨g3,1,cl (eI .i64) zs⟩,some ⟨g4,3,cl eR rs⟩,some ⟨g5,3,[.f (.int .i64 z), .own (H.length+2) g3 0 zs.length none, .own (H.length+3) g4 0 rs.length none]⟩]:=⟨_,rfl⟩
   have hm0:MiV H HI (H.length+4) g5 g2 z zs rs:=
    {ex:=⟨.own (H.length+2) g3 0 zs.length none, .own (H.length+3) g4 0 rs.length none,zs,by rw[hHI,Qf];exact J8 (b:=⟨g5,3,[.f (.int .i64 z), .own (H.length+2) g3 0 zs.length none, .own (H.length+3) g4 0 rs.length none]⟩) rfl,⟨rfl,fun _=> .inl rfl⟩,⟨H.length+2,g3,rfl,by rw[hHI,Qf];exact J8 (b:=⟨g3,1,cl (eI .i64) zs⟩) rfl,Nat.le_refl _,by rw[hHI];exact Zq.o (H.length+3) g4 rs (by rw[Qf];exact J8 (b:=⟨g4,3,cl eR rs⟩) rfl),fun i h=>by simp only[QJ]at h;omega⟩,fun h=>by simp only[QJ]at h;omega,fun h=>by simp only[QJ]at h;omega⟩
     out:=by rw[hHI,Qf];exact J8 (b:=⟨g2,3,[.f (.int .i64 0), .f .nil, .f .nil]⟩) rfl
     lt:=by rw[hHI];simp
     frm:=fun i hi=>by rw[hHI,Ja hi]}
   rw[←hHI]
   clear hHI
   refine Qp (fun(k:Nat) (HI:Jm)=>zs.length -k) (fun k HI=>k≤zs.length∧MiV H HI (H.length+4) g5 g2 z zs rs) (fun k HI=>[.a, .a, .k, .a, .k, .p (int k), .a, .a, .a, .a, .a, .a, .a, .a, .a, .a, .a, .a, .a, .a, .a, .a, .a, .a, .a, .a, .a, .a, .a, .a, .a, .a, .a, .a, .a, .a, .a, .a, .a, .a, .a, .a]) (fun _ HI=>HI) 0 HI ⟨Nat.zero_le _,hm0⟩ (by simp(maxSteps:=999999)(disch:=omega)only[go_sem,zA,zM,zS,zE,zL];rfl) (J0.refl _) ?_
   rintro k HI ⟨hk,hm⟩
   obtain⟨gc,rc,zs',hx1,hx2,hx3,hx4,hx5⟩:=hm.ex
   have hsn:=hx3.snap
   have hout:=hm.out
   have hlt:=hm.lt
   obtain⟨gid',gg',rfl,hg1,hg2,hr1,hr2⟩:=hx3
   simp(maxSteps:=999999)(disch:=omega)only[go_sem,zA,zM,zS,zE,zL,hx1,hg1]
   ((first|(with_reducible first|refine Jl ?_ ?_|refine Jj ?_ ?_|refine Jp ?_ ?_)|refine Jr ?_ ?_)<;>intro c1)
   · have c1:k<zs'.length:=by omega
     have hsm':Rf ⟨z,zs',rs⟩:=⟨by show zs'.length≤_;omega,hx⟩
     simp(maxSteps:=999999)(disch:=omega)only[go_sem,zA,zM,zS,zE,zL,hx1]
     refine JZ.rdD (Yc ⟨z,zs',rs⟩ k (by omega) hsm') (⟨_,Tryz.func145,rfl,rfl⟩:Ji Tryz.prog 145) rfl rfl (UO hsn VO) rfl ?_
     simp(maxSteps:=999999)(disch:=omega)only[go_sem,zA,zM,zS,zE,zL]
     ((first|(with_reducible first|refine Jl ?_ ?_|refine Jj ?_ ?_|refine Jp ?_ ?_)|refine Jr ?_ ?_)<;>intro c2)
     · simp(maxSteps:=999999)(disch:=omega)only[go_sem,zA,zM,zS,zE,zL,hx1]
       refine JZ.run (Kz HI z gid' gg' k zs' rc hg1 c1 (by omega)) (⟨_,Tryz.func146,rfl,rfl⟩:Ji Tryz.prog 146) rfl rfl ?_
       rintro _ H5 ⟨id6,g6,rfl,w1,w2,w3,w4⟩
       have hid6:id6<H5.length:=(Jh.1 (JG w1).1).1
       have hx6:look H5 (H.length+4) g5=some ⟨g5,3,[.f (.int .i64 z), .own gid' gg' 0 zs'.length none,rc]⟩:=by unfold look at hx1⊢;rw[w4 _ hlt.2];exact hx1
       simp(maxSteps:=999999)(disch:=omega)only[go_sem,zA,zM,zS,zE,zL,hx6]
       have hset:∀i:Nat,i≠(H.length+4)→∀b,(H5.set (H.length+4) b)[i]? =H5[i]? :=fun i hi b=>by rw[Jg (Ne.symm hi)]
       refine⟨k+1,_,⟨⟨by omega, ?_⟩,by omega⟩,by push_cast;omega,J0.refl _⟩
       exact{ex:=⟨.own id6 g6 0 zs'.length none,rc,zs'.set k 0,JM (by omega),⟨by rw[Jo];exact hx2.1,hx2.2.set c1⟩,⟨id6,g6,by rw[Jo],by unfold look at w1⊢;rw[hset _ (by omega)];exact w1,by omega,hr1.same (fun i hi hl=>by
              rw[hset i (fun h=>hx5 (by rw[←h];exact hi)),w4 i hl]),fun i hi=>⟨(hr2 i hi).1,fun h=>by
              have:=hr1.lt i hi
              omega⟩⟩,fun h=>by simp only[QJ]at h;omega,hx5⟩
             out:=by unfold look at hout⊢;rw[hset _ (by omega),w4 _ (by omega)];exact hout
             lt:=by rw[Jo];omega
             frm:=fun i hi=>by rw[hset i (by omega),w4 i (by omega)];exact hm.frm i hi}
     · simp(maxSteps:=999999)(disch:=omega)only[go_sem,zA,zM,zS,zE,zL]
       exact⟨k+1,HI,⟨⟨by omega,hm⟩,by omega⟩,by push_cast;omega,J0.refl _⟩
   · simp(maxSteps:=999999)(disch:=omega)only[go_sem,zA,zM,zS,zE,zL,hx1,hout]
     have hS:∀b,look (HI.set (H.length+1) (some ⟨g2,3,b⟩)) (H.length+1) g2=some ⟨g2,3,b⟩:=fun b=>JM (by omega)
     simp(maxSteps:=999999)(disch:=omega)only[go_sem,zA,zM,zS,zE,zL,hS]
     refine⟨_,J0.refl _,by rw[Jo];omega,fun i hi=>by rw[Jg (by omega)];exact hm.frm i hi, .inr ⟨_,_,zs',rfl,hx2, ?_⟩⟩
     refine(PzO.same (H:=HI) ⟨gid',gg',rfl,hg1,hg2,hr1,hr2⟩ fun i hi _ _=> ?_).n0 (by omega)
     rw[Jg (by omega)]
end Go.Lg
