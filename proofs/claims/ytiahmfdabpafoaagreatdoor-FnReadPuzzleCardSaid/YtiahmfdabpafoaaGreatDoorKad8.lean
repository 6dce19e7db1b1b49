/- GpWD, cut to what is needed. -/
import Derived.Test.YtiahmfdabpafoaaGreatDoorKad5
import Derived.Test.YtiahmfdabpafoaaGreatDoorKad7
open List renaming cons_append → Jc, nil_append → Jd, length_cons → Jf, replicate → Jg, getElem?_eq_getElem → Jh, length_nil → Jl, take_of_length_le → Jn, append_nil → Jv, mapM_cons → Jz, length_take → JA, mapM_nil → Qa
open Nat renaming reduceAdd→zA,reduceMul→zM,reduceSub→zS,reduceEqDiff→zE,reduceLeDiff→zL
set_option linter.unusedSimpArgs false
set_option linter.unusedVariables false
set_option maxRecDepth 100000
namespace Go.Lg
open Go.Proofs
def Vv:List UInt8:=[100,115,112,108,97]
def Jba(c:UInt8):Int:=Go.Lib.indexByte Vv c
theorem R8(c:UInt8): -1≤Jba c∧Jba c<5:=NV c Vv
def Vx(c:UInt8)(j:Nat):Int:=if 0≤Jba c∧Jba c<j then Jba c+1 else 0
theorem JcZ(c:UInt8)(j:Nat)(hj:j<5):Vx c (j+1)=if Ue Vv j=(c.toNat:Int)then(j:Int)+1 else Vx c j:=by
 have key:∀n,n<256→∀j,j<5→Vx (UInt8.ofNat n) (j+1)=if Ue Vv (j:Nat)=((UInt8.ofNat n).toNat:Int)then(j:Int)+1 else Vx (UInt8.ofNat n) j:=by
  intro n hn j hj
  have h:((List.range 256).all fun n=>(List.range 5).all fun j=>decide (Vx (UInt8.ofNat n) (j+1)=if Ue Vv (j:Nat)=((UInt8.ofNat n).toNat:Int)then(j:Int)+1 else Vx (UInt8.ofNat n) j))=true:=by kernel_rfl
  exact of_decide_eq_true (List.all_eq_true.1 (List.all_eq_true.1 h n (List.mem_range.2 hn)) j (List.mem_range.2 hj))
 have e:UInt8.ofNat c.toNat=c:=by simp
 have:=key c.toNat c.toNat_lt j hj
 rwa [e]at this
theorem Je0(c:UInt8):Vx c 5=Jba c+1:=by
 have:=R8 c
 unfold Vx
 split<;>omega
theorem Ja7(c:UInt8)(j:Nat):0≤Vx c j∧Vx c j≤5:=by
 have:=R8 c
 unfold Vx
 split<;>omega
def GR(s:List UInt8)(k:Nat):List Int×Int:=((s.take k).drop 1).foldl ZS ([],0)
theorem G5{s:List UInt8}{k:Nat}(h1:1≤k)(hk:k<s.length):GR s (k+1)=ZS (GR s k) (s.getD k 0):=by
 unfold GR
 rw[List.take_add_one,Jh hk,List.drop_append_of_le_length (by rw[JA];omega),List.foldl_append,List.getD_eq_getElem?_getD,Jh hk]
 rfl
theorem JbJ(s:List UInt8):GR s 1=([],0):=by
 unfold GR
 cases s<;>simp
theorem G4(s:List UInt8):GR s 0=([],0):=by simp[GR]
theorem Jay{st:List Int×Int}{b:UInt8}{B:Int}(h:0≤st.2∧st.2≤B):0≤(ZS st b).2∧(ZS st b).2≤10*B+9∧(ZS st b).1.length≤st.1.length+1:=by
 unfold ZS
 split
 · simp;omega
 · split
   · simp;omega
   · simp;omega
theorem Fb(s:List UInt8):∀k:Nat,k≤12→k≤s.length→0≤(GR s k).2∧(GR s k).2≤10^k -1∧(GR s k).1.length≤k
 |0,_,_=>by rw[G4];simp
 |1,_,_=>by rw[JbJ];simp
 |k+2,h1,h2=>by
  obtain⟨i1,i2,i3⟩:=Fb s (k+1) (by omega) (by omega)
  rw[G5 (by omega) (by omega)]
  have:=Jay (b:=s.getD (k+1) 0) (B:=10^(k+1) -1) ⟨i1,i2⟩
  have hp:(10:Int)^(k+2)=10*10^(k+1):=by rw[Int.pow_succ,Int.mul_comm]
  omega
theorem JhB{k:Nat}(h:k≤12):(10:Int)^k≤1000000000000:=by
 have h13:∀k:Nat,k<13→(10:Int)^k≤1000000000000:=by decide
 exact h13 k (by omega)
def JcB(K v:Int)(g0 g1:Nat)(L:List Int)(g:Nat):Ji:=match L with
 |[]=>[some ⟨g0,3,[.f (.int .i64 0), .f .nil, .f (.int .i64 0)]⟩,some ⟨g1,3,[.f (.int .i64 K), .f .nil, .f (.int .i64 v)]⟩]
 |x::l=>[some ⟨g0,3,[.f (.int .i64 0), .f .nil, .f (.int .i64 0)]⟩,some ⟨g1,3,[.f (.int .i64 K), .own 3 g 0 (x::l).length none, .f (.int .i64 v)]⟩,none,some ⟨g,1,cl (eI .i64) (x::l)⟩]
theorem JbI{L:List Int}{v:Int}{b:UInt8}(h:97≤(b.toNat:Int)∧(b.toNat:Int)≤112):ZS (L,v) b=(L++[(b.toNat:Int) -97],v):=by
 unfold ZS;rw[if_pos (by omega)]
theorem FW{L:List Int}{v:Int}{b:UInt8}(h:48≤(b.toNat:Int)∧(b.toNat:Int)≤57):ZS (L,v) b=(L,10*v+((b.toNat:Int) -48)):=by
 unfold ZS;rw[if_neg (by omega),if_pos (by omega)]
theorem KF{L:List Int}{v:Int}{b:UInt8}(h:¬(97≤(b.toNat:Int)∧(b.toNat:Int)≤112))(h':¬(48≤(b.toNat:Int)∧(b.toNat:Int)≤57)):ZS (L,v) b=(L,v):=by
 unfold ZS;rw[if_neg (by omega),if_neg (by omega)]
def Vw(s:List UInt8)(k:Nat):Int:=if k=0 then 0 else Jba (s.getD 0 0)+1
set_option maxHeartbeats 2000000 in
theorem UQ(s:List UInt8)(hs:s.length≤2^40):Jq Tryz.prog 30 [Um s] [] (Np (QA s) (Q6 s)):=by
 have hCb:∀e:Int,0≤Ue s e∧Ue s e≤255:=UP s
 refine Jq.nz ?_
 refine Jq.cw (c:=_) Tryz.func30 rfl (n:=85) Tryz.ntmps30 (rs:=[.cell 2 41, .tmp 3]) rfl ?_
 simp only[Jf,Jl,zA,zS,Jg,Jc,Jd]
 simp(maxSteps:=999999)(disch:=omega)only[go_sem,zA,zM,zS,zE,zL]
 intro g0 g1
 refine Qj (fun(k g:Nat)=>s.length -k) (fun k g=>k≤s.length∧k≤12) (fun k g=>[.k, .a, .k, .a, .k, .p (int k), .a, .a, .a, .a, .a, .a, .a, .a, .a, .a, .a, .a, .a, .a, .a, .a, .a, .a, .a, .a, .a, .a, .a, .a, .a, .a, .a, .a, .a, .a, .a, .a, .a, .a, .a, .a, .a, .a, .a, .a, .a, .a, .a, .a, .a, .a, .a, .a, .a, .a, .a, .a, .a, .a, .a, .a, .a, .a, .a, .a, .a, .a, .a, .a, .a, .a, .a, .a, .a, .a, .a, .a, .a, .a, .a, .a, .a, .a, .a]) (fun k g=>JcB (Vw s k) (GR s k).2 g0 g1 (GR s k).1 g) 0 0
  ⟨Nat.zero_le _,Nat.zero_le _⟩ (by simp(maxSteps:=999999)(disch:=omega)only[go_sem,zA,zM,zS,zE,zL];rfl) (Qc.refl _) ?_
 rintro k g ⟨hk,hk12⟩
 obtain⟨hb1,hb2,hb3⟩:=Fb s k hk12 hk
 have hpw:=JhB hk12
 have hkk:0≤Vw s k∧Vw s k≤5:=by
  have:=R8 (s.getD 0 0)
  unfold Vw
  split<;>omega
 by_cases hx:k<s.length∧k<12
 · have d1:decide ((k:Int)<s.length)=true:=decide_eq_true (by omega)
   have d2:decide ((k:Int)<12)=true:=decide_eq_true (by omega)
   simp(maxSteps:=999999)(disch:=omega)only[go_sem,zA,zM,zS,zE,zL,d1,d2]
   have hck:=hCb k
   rcases k with _|k
   · simp only[G4,JcB]
     simp(maxSteps:=999999)(disch:=omega)only[go_sem,zA,zM,zS,zE,zL]
     ((first|(with_reducible first|refine Jo ?_ ?_|refine Jk ?_ ?_|refine Jp ?_ ?_)|refine Jr ?_ ?_)<;>intro c0)
     rotate_left
     · exfalso;omega
     simp(maxSteps:=999999)(disch:=omega)only[go_sem,zA,zM,zS,zE,zL]
     have e0:Vw s 0=Vx (s.getD 0 0) 0:=by unfold Vw Vx;rw[if_pos rfl,if_neg (by omega)]
     rw[e0]
     have hc0:Ue s 0=((s.getD 0 0).toNat:Int):=rfl
     refine Qj (fun(j g:Nat)=>5 -j) (fun j g=>j≤5) (fun j g=>[.k, .a, .k, .a, .k, .k, .p (int j), .a, .a, .a, .a, .a, .a, .a, .a, .a, .a, .a, .a, .a, .a, .a, .a, .a, .a, .a, .a, .a, .a, .a, .a, .a, .a, .a, .a, .a, .a, .a, .a, .a, .a, .a, .a, .a, .a, .a, .a, .a, .a, .a, .a, .a, .a, .a, .a, .a, .a, .a, .a, .a, .a, .a, .a, .a, .a, .a, .a, .a, .a, .a, .a, .a, .a, .a, .a, .a, .a, .a, .a, .a, .a, .a, .a, .a, .a]) (fun j _=>[some ⟨g0,3,[.f (.int .i64 0), .f .nil, .f (.int .i64 0)]⟩,some ⟨g1,3,[.f (.int .i64 (Vx (s.getD 0 0) j)), .f .nil, .f (.int .i64 0)]⟩]) 0 0
      (Nat.zero_le _) (by simp(maxSteps:=999999)(disch:=omega)only[go_sem,zA,zM,zS,zE,zL];rfl) (Qc.refl _) ?_
     rintro j g' hj
     have hkb:=Ja7 (s.getD 0 0) j
     simp(maxSteps:=999999)(disch:=omega)only[go_sem,zA,zM,zS,zE,zL]
     ((first|(with_reducible first|refine Jo ?_ ?_|refine Jk ?_ ?_|refine Jp ?_ ?_)|refine Jr ?_ ?_)<;>intro c1)
     · have hks:=JcZ (s.getD 0 0) j (by omega)
       simp(maxSteps:=999999)(disch:=omega)only[go_sem,zA,zM,zS,zE,zL]
       refine Q7 Zr (by kernel_rfl) ?_
       simp(maxSteps:=999999)(disch:=omega)only[go_sem,Nat.reduceBEq,Bool.true_or,zA,zM,zS,zE,zL]
       ((first|(with_reducible first|refine Jo ?_ ?_|refine Jk ?_ ?_|refine Jp ?_ ?_)|refine Jr ?_ ?_)<;>intro c2)
       · rw[if_pos (show Ue Vv j=_ from c2.trans hc0)]at hks
         simp(maxSteps:=999999)(disch:=omega)only[go_sem,zA,zM,zS,zE,zL]
         exact⟨j+1,0,⟨by omega,by omega⟩,by push_cast;rfl,Zq _ _ _ (Zd (by rw[hks]) (J8 _))⟩
       · rw[if_neg (show¬Ue Vv j=_ from fun h=>c2 (h.trans hc0.symm))]at hks
         simp(maxSteps:=999999)(disch:=omega)only[go_sem,zA,zM,zS,zE,zL]
         exact⟨j+1,0,⟨by omega,by omega⟩,by push_cast;rfl,Zq _ _ _ (Zd (by rw[hks]) (J8 _))⟩
     have hj5:j=5:=by omega
     subst hj5
     simp(maxSteps:=999999)(disch:=omega)only[go_sem,zA,zM,zS,zE,zL]
     refine⟨1,0,⟨⟨by omega,by omega⟩,by omega⟩,by omega, ?_⟩
     rw[JbJ,show Vw s 1=Vx (s.getD 0 0) 5 by rw[Je0];rfl]
     exact Qc.refl _
   · have d3:decide (((k+1:Nat):Int)=0)=false:=decide_eq_false (by omega)
     have hk2:Vw s (k+1+1)=Vw s (k+1):=by unfold Vw;rw[if_neg (by omega),if_neg (by omega)]
     have hs2:=G5 (s:=s) (k:=k+1) (by omega) hx.1
     have hcb:Ue s ((k+1:Nat):Int)=((s.getD (k+1) 0).toNat:Int):=rfl
     generalize hK:Vw s (k+1)=K at hkk hk2⊢
     generalize hst:GR s (k+1)=st at hb1 hb2 hb3 hs2⊢
     obtain⟨L,v⟩:=st
     simp only at hb1 hb2 hb3⊢
     have hv:0≤v∧v≤1000000000000:=by omega
     generalize hb:s.getD (k+1) 0=b at hs2 hcb
     simp(maxSteps:=999999)(disch:=omega)only[go_sem,zA,zM,zS,zE,zL,d3]
     rcases L with _|⟨x,l⟩
     · simp only[JcB]
       ((with_reducible first|refine JU ?_ ?_|refine JJ ?_ ?_|refine J6 ?_ ?_|refine Jx ?_ ?_|refine JS ?_ ?_|refine JT ?_ ?_|refine JH ?_ ?_|refine JI ?_ ?_|refine J4 ?_ ?_|refine J5 ?_ ?_|refine JC ?_ ?_|refine JD ?_ ?_)<;>intro c5<;>simp(maxSteps:=999999)(disch:=omega)only[go_sem,zA,zM,zS,zE,zL,c5])
       · ((first|(with_reducible first|refine Jo ?_ ?_|refine Jk ?_ ?_|refine Jp ?_ ?_)|refine Jr ?_ ?_)<;>intro c6)
         · simp(maxSteps:=999999)(disch:=omega)only[go_sem,zA,zM,zS,zE,zL]
           refine Ua [0,1,2,3,4,5,6,7] [] none [8,9,10] [] Zr (by kernel_rfl) ?_
           simp(maxSteps:=999999)(disch:=omega)only[go_sem,Nat.reduceBEq,Bool.true_or,zA,zM,zS,zE,zL]
           intro g3 g4
           refine⟨k+1+1,g4,⟨⟨by omega,by omega⟩,by omega⟩,by push_cast;omega, ?_⟩
           rw[hs2,JbI (by omega),hk2]
           exact Zq _ _ _ (Zq _ _ _ (Bb _ _ _ (Zd (by rw[hcb];rfl) (J8 _))))
         · simp(maxSteps:=999999)(disch:=omega)only[go_sem,zA,zM,zS,zE,zL]
           ((with_reducible first|refine JU ?_ ?_|refine JJ ?_ ?_|refine J6 ?_ ?_|refine Jx ?_ ?_|refine JS ?_ ?_|refine JT ?_ ?_|refine JH ?_ ?_|refine JI ?_ ?_|refine J4 ?_ ?_|refine J5 ?_ ?_|refine JC ?_ ?_|refine JD ?_ ?_)<;>intro c7<;>simp(maxSteps:=999999)(disch:=omega)only[go_sem,zA,zM,zS,zE,zL,c7])
           · ((first|(with_reducible first|refine Jo ?_ ?_|refine Jk ?_ ?_|refine Jp ?_ ?_)|refine Jr ?_ ?_)<;>intro c8)
             · simp(maxSteps:=999999)(disch:=omega)only[go_sem,zA,zM,zS,zE,zL]
               refine Ua [0,1,2,3,4,5,6,7] [] none [8,9,10] [] Zr (by kernel_rfl) ?_
               simp(maxSteps:=999999)(disch:=omega)only[go_sem,Nat.reduceBEq,Bool.true_or,zA,zM,zS,zE,zL]
               refine⟨k+1+1,g,⟨⟨by omega,by omega⟩,by omega⟩,by push_cast;omega, ?_⟩
               rw[hs2,FW (by omega),hk2,←hcb]
               exact Qc.refl _
             · simp(maxSteps:=999999)(disch:=omega)only[go_sem,zA,zM,zS,zE,zL]
               refine⟨k+1+1,g,⟨⟨by omega,by omega⟩,by omega⟩,by push_cast;omega, ?_⟩
               rw[hs2,KF (by omega) (by omega),hk2]
               exact Qc.refl _
           · refine⟨k+1+1,g,⟨⟨by omega,by omega⟩,by omega⟩,by push_cast;omega, ?_⟩
             rw[hs2,KF (by omega) (by omega),hk2]
             exact Qc.refl _
       · skip
         ((with_reducible first|refine JU ?_ ?_|refine JJ ?_ ?_|refine J6 ?_ ?_|refine Jx ?_ ?_|refine JS ?_ ?_|refine JT ?_ ?_|refine JH ?_ ?_|refine JI ?_ ?_|refine J4 ?_ ?_|refine J5 ?_ ?_|refine JC ?_ ?_|refine JD ?_ ?_)<;>intro c7<;>simp(maxSteps:=999999)(disch:=omega)only[go_sem,zA,zM,zS,zE,zL,c7])
         · ((first|(with_reducible first|refine Jo ?_ ?_|refine Jk ?_ ?_|refine Jp ?_ ?_)|refine Jr ?_ ?_)<;>intro c8)
           · simp(maxSteps:=999999)(disch:=omega)only[go_sem,zA,zM,zS,zE,zL]
             refine Ua [0,1,2,3,4,5,6,7] [] none [8,9,10] [] Zr (by kernel_rfl) ?_
             simp(maxSteps:=999999)(disch:=omega)only[go_sem,Nat.reduceBEq,Bool.true_or,zA,zM,zS,zE,zL]
             refine⟨k+1+1,g,⟨⟨by omega,by omega⟩,by omega⟩,by push_cast;omega, ?_⟩
             rw[hs2,FW (by omega),hk2,←hcb]
             exact Qc.refl _
           · simp(maxSteps:=999999)(disch:=omega)only[go_sem,zA,zM,zS,zE,zL]
             refine⟨k+1+1,g,⟨⟨by omega,by omega⟩,by omega⟩,by push_cast;omega, ?_⟩
             rw[hs2,KF (by omega) (by omega),hk2]
             exact Qc.refl _
         · refine⟨k+1+1,g,⟨⟨by omega,by omega⟩,by omega⟩,by push_cast;omega, ?_⟩
           rw[hs2,KF (by omega) (by omega),hk2]
           exact Qc.refl _
     · simp only[JcB]
       have hl12:l.length≤12:=by rw[Jf]at hb3;omega
       ((with_reducible first|refine JU ?_ ?_|refine JJ ?_ ?_|refine J6 ?_ ?_|refine Jx ?_ ?_|refine JS ?_ ?_|refine JT ?_ ?_|refine JH ?_ ?_|refine JI ?_ ?_|refine J4 ?_ ?_|refine J5 ?_ ?_|refine JC ?_ ?_|refine JD ?_ ?_)<;>intro c5<;>simp(maxSteps:=999999)(disch:=omega)only[go_sem,zA,zM,zS,zE,zL,c5])
       · ((first|(with_reducible first|refine Jo ?_ ?_|refine Jk ?_ ?_|refine Jp ?_ ?_)|refine Jr ?_ ?_)<;>intro c6)
         · simp(maxSteps:=999999)(disch:=omega)only[go_sem,zA,zM,zS,zE,zL]
           refine Ua [0,1,2,3,4,5,6,7] [] none [8,9,10] [] Zr (by kernel_rfl) ?_
           simp(maxSteps:=999999)(disch:=omega)only[go_sem,Nat.reduceBEq,Bool.true_or,zA,zM,zS,zE,zL]
           intro g3 g4
           refine⟨k+1+1,g4,⟨⟨by omega,by omega⟩,by omega⟩,by push_cast;omega, ?_⟩
           rw[hs2,JbI (by omega),hk2]
           refine Zq _ _ _ (Zd ?_ (Zq _ _ _ (Zd ?_ (J8 _))))
           · simp
           · rw[hcb]
             rfl
         · simp(maxSteps:=999999)(disch:=omega)only[go_sem,zA,zM,zS,zE,zL]
           ((with_reducible first|refine JU ?_ ?_|refine JJ ?_ ?_|refine J6 ?_ ?_|refine Jx ?_ ?_|refine JS ?_ ?_|refine JT ?_ ?_|refine JH ?_ ?_|refine JI ?_ ?_|refine J4 ?_ ?_|refine J5 ?_ ?_|refine JC ?_ ?_|refine JD ?_ ?_)<;>intro c7<;>simp(maxSteps:=999999)(disch:=omega)only[go_sem,zA,zM,zS,zE,zL,c7])
           · ((first|(with_reducible first|refine Jo ?_ ?_|refine Jk ?_ ?_|refine Jp ?_ ?_)|refine Jr ?_ ?_)<;>intro c8)
             · simp(maxSteps:=999999)(disch:=omega)only[go_sem,zA,zM,zS,zE,zL]
               refine Ua [0,1,2,3,4,5,6,7] [] none [8,9,10] [] Zr (by kernel_rfl) ?_
               simp(maxSteps:=999999)(disch:=omega)only[go_sem,Nat.reduceBEq,Bool.true_or,zA,zM,zS,zE,zL]
               refine⟨k+1+1,g,⟨⟨by omega,by omega⟩,by omega⟩,by push_cast;omega, ?_⟩
               rw[hs2,FW (by omega),hk2,←hcb]
               exact Qc.refl _
             · simp(maxSteps:=999999)(disch:=omega)only[go_sem,zA,zM,zS,zE,zL]
               refine⟨k+1+1,g,⟨⟨by omega,by omega⟩,by omega⟩,by push_cast;omega, ?_⟩
               rw[hs2,KF (by omega) (by omega),hk2]
               exact Qc.refl _
           · refine⟨k+1+1,g,⟨⟨by omega,by omega⟩,by omega⟩,by push_cast;omega, ?_⟩
             rw[hs2,KF (by omega) (by omega),hk2]
             exact Qc.refl _
       · skip
         ((with_reducible first|refine JU ?_ ?_|refine JJ ?_ ?_|refine J6 ?_ ?_|refine Jx ?_ ?_|refine JS ?_ ?_|refine JT ?_ ?_|refine JH ?_ ?_|refine JI ?_ ?_|refine J4 ?_ ?_|refine J5 ?_ ?_|refine JC ?_ ?_|refine JD ?_ ?_)<;>intro c7<;>simp(maxSteps:=999999)(disch:=omega)only[go_sem,zA,zM,zS,zE,zL,c7])
         · ((first|(with_reducible first|refine Jo ?_ ?_|refine Jk ?_ ?_|refine Jp ?_ ?_)|refine Jr ?_ ?_)<;>intro c8)
           · simp(maxSteps:=999999)(disch:=omega)only[go_sem,zA,zM,zS,zE,zL]
             refine Ua [0,1,2,3,4,5,6,7] [] none [8,9,10] [] Zr (by kernel_rfl) ?_
             simp(maxSteps:=999999)(disch:=omega)only[go_sem,Nat.reduceBEq,Bool.true_or,zA,zM,zS,zE,zL]
             refine⟨k+1+1,g,⟨⟨by omega,by omega⟩,by omega⟩,by push_cast;omega, ?_⟩
             rw[hs2,FW (by omega),hk2,←hcb]
             exact Qc.refl _
           · simp(maxSteps:=999999)(disch:=omega)only[go_sem,zA,zM,zS,zE,zL]
             refine⟨k+1+1,g,⟨⟨by omega,by omega⟩,by omega⟩,by push_cast;omega, ?_⟩
             rw[hs2,KF (by omega) (by omega),hk2]
             exact Qc.refl _
         · refine⟨k+1+1,g,⟨⟨by omega,by omega⟩,by omega⟩,by push_cast;omega, ?_⟩
           rw[hs2,KF (by omega) (by omega),hk2]
           exact Qc.refl _
 have hsd:Nf s=⟨Vw s k,(GR s k).1,(GR s k).2⟩:=by
  have ht:s.take k=s.take 12:=by
   by_cases h12:k=12
   · rw[h12]
   · rw[Jn (by omega),Jn (by omega)]
  unfold Nf GR
  rw[ht]
  have:(if s=[]then 0 else Go.Lib.indexByte [100,115,112,108,97] (s.getD 0 0)+1)=Vw s k:=by
   unfold Vw
   by_cases h0:s=[]
   · subst h0
     rw[if_pos rfl,if_pos (by simp at hk;omega)]
   · have:0<s.length:=List.length_pos_iff.2 h0
     rw[if_neg h0,if_neg (by omega)]
     rfl
  rw[this]
 have hcl:(Nf s).cells.length≤2^40:=by rw[hsd];show(GR s k).1.length≤_;omega
 generalize hK:Vw s k=K at hkk hsd⊢
 generalize hst:GR s k=st at hb1 hb2 hb3 hsd⊢
 obtain⟨L,v⟩:=st
 simp only at hb1 hb2 hb3 hsd⊢
 rcases L with _|⟨x,l⟩
 · simp only[JcB]
   have hrt:Qd Tryz.prog 20 [.agg [.f (.int .i64 K), .f .nil, .f (.int .i64 v)]] (Um (Ze (Nf s))):=
    Jq.iceIn (args:=[.agg [.f (.int .i64 K), .f .nil, .f (.int .i64 v)]]) (args':=[aR (Nf s)]) (fun _=>false) (FH fun id b hb=>by simp at hb) rfl (fun j hj=>by
     match j,hj with
     |0,_=>rw[hsd];exact⟨_,rfl,Ko X6 (Kn rfl) X6⟩) (Z7 (Nf s) hcl)
   simp(maxSteps:=999999)(disch:=omega)only[go_sem,zA,zM,zS,zE,zL]
   ((with_reducible first|refine JU ?_ ?_|refine JJ ?_ ?_|refine J6 ?_ ?_|refine Jx ?_ ?_|refine JS ?_ ?_|refine JT ?_ ?_|refine JH ?_ ?_|refine JI ?_ ?_|refine J4 ?_ ?_|refine J5 ?_ ?_|refine JC ?_ ?_|refine JD ?_ ?_)<;>intro e1<;>simp(maxSteps:=999999)(disch:=omega)only[go_sem,zA,zM,zS,zE,zL,e1])
   · ((first|(with_reducible first|refine Jo ?_ ?_|refine Jk ?_ ?_|refine Jp ?_ ?_)|refine Jr ?_ ?_)<;>intro e2)
     · exfalso;omega
     simp(maxSteps:=999999)(disch:=omega)only[go_sem,zA,zM,zS,zE,zL]
     first|refine Qh.rd (hrt) (⟨_,Tryz.func20,rfl,rfl⟩:Jm Tryz.prog 20) rfl rfl rfl rfl ?_|refine Qe.rd (hrt) (⟨_,Tryz.func20,rfl,rfl⟩:Jm Tryz.prog 20) rfl rfl rfl rfl ?_
     simp(maxSteps:=999999)(disch:=omega)only[go_sem,zA,zM,zS,zE,zL]
     by_cases hacc:Ze (Nf s)=s
     · have d:=decide_eq_true hacc
       by_cases hs0:s=[]
       · have d0:=decide_eq_true hs0
         obtain⟨q1,q2⟩:=Uu (s:=s) fun h=>YX h.1 hs0
         rw[q1,q2]
         simp(maxSteps:=999999)(disch:=omega)only[go_sem,zA,zM,zS,zE,zL,d,d0]
         exact ZT _
       · have d0:=decide_eq_false hs0
         have ha:=(VN s).1 ⟨hacc,hs0⟩
         rw[←JbN ha,show Q6 s=true from decide_eq_true ha]
         simp(maxSteps:=999999)(disch:=omega)only[go_sem,zA,zM,zS,zE,zL,d,d0]
         rw[hsd]
         first|exact⟨_,Qc.refl _,_,[],rfl, .e⟩|exact⟨_,Qc.refl _,_,[3],rfl,Qv.o 3 g none (x::l) [] (by rw[Jv];simp[look])⟩
     · have d:=decide_eq_false hacc
       obtain⟨q1,q2⟩:=Uu (s:=s) fun h=>hacc ((VN s).2 h).1
       rw[q1,q2]
       simp(maxSteps:=999999)(disch:=omega)only[go_sem,zA,zM,zS,zE,zL,d]
       exact ZT _
   · skip
     first|refine Qh.rd (hrt) (⟨_,Tryz.func20,rfl,rfl⟩:Jm Tryz.prog 20) rfl rfl rfl rfl ?_|refine Qe.rd (hrt) (⟨_,Tryz.func20,rfl,rfl⟩:Jm Tryz.prog 20) rfl rfl rfl rfl ?_
     simp(maxSteps:=999999)(disch:=omega)only[go_sem,zA,zM,zS,zE,zL]
     by_cases hacc:Ze (Nf s)=s
     · have d:=decide_eq_true hacc
       by_cases hs0:s=[]
       · have d0:=decide_eq_true hs0
         obtain⟨q1,q2⟩:=Uu (s:=s) fun h=>YX h.1 hs0
         rw[q1,q2]
         simp(maxSteps:=999999)(disch:=omega)only[go_sem,zA,zM,zS,zE,zL,d,d0]
         exact ZT _
       · have d0:=decide_eq_false hs0
         have ha:=(VN s).1 ⟨hacc,hs0⟩
         rw[←JbN ha,show Q6 s=true from decide_eq_true ha]
         simp(maxSteps:=999999)(disch:=omega)only[go_sem,zA,zM,zS,zE,zL,d,d0]
         rw[hsd]
         first|exact⟨_,Qc.refl _,_,[],rfl, .e⟩|exact⟨_,Qc.refl _,_,[3],rfl,Qv.o 3 g none (x::l) [] (by rw[Jv];simp[look])⟩
     · have d:=decide_eq_false hacc
       obtain⟨q1,q2⟩:=Uu (s:=s) fun h=>hacc ((VN s).2 h).1
       rw[q1,q2]
       simp(maxSteps:=999999)(disch:=omega)only[go_sem,zA,zM,zS,zE,zL,d]
       exact ZT _
 · simp only[JcB]
   have hown:Qv [some ⟨g0,3,[.f (.int .i64 0), .f .nil, .f (.int .i64 0)]⟩,some ⟨g1,3,[.f (.int .i64 K), .own 3 g 0 (x::l).length none, .f (.int .i64 v)]⟩,none,some ⟨g,1,cl (eI .i64) (x::l)⟩] (.own 3 g 0 (x::l).length none) (x::l) [3]:=
    Qv.o 3 g none (x::l) [] (by rw[Jv];simp[look])
   have hfr:=hown.frzC
   have hsn:QS [some ⟨g0,3,[.f (.int .i64 0), .f .nil, .f (.int .i64 0)]⟩,some ⟨g1,3,[.f (.int .i64 K), .own 3 g 0 (x::l).length none, .f (.int .i64 v)]⟩,none,some ⟨g,1,cl (eI .i64) (x::l)⟩] (.agg [.f (.int .i64 K), .own 3 g 0 (x::l).length none, .f (.int .i64 v)])=some (aR (Nf s)):=by
    simp only[QS,Jz,Qa,hfr,show∀(H:Ji) n,frzC H (.f (.int .i64 n))=some (.f (.int .i64 n))from fun _ _=>rfl,Option.pure_def,Option.bind_eq_bind,Option.bind_some,Option.map_some,hsd]
   simp(maxSteps:=999999)(disch:=omega)only[go_sem,zA,zM,zS,zE,zL]
   ((with_reducible first|refine JU ?_ ?_|refine JJ ?_ ?_|refine J6 ?_ ?_|refine Jx ?_ ?_|refine JS ?_ ?_|refine JT ?_ ?_|refine JH ?_ ?_|refine JI ?_ ?_|refine J4 ?_ ?_|refine J5 ?_ ?_|refine JC ?_ ?_|refine JD ?_ ?_)<;>intro e1<;>simp(maxSteps:=999999)(disch:=omega)only[go_sem,zA,zM,zS,zE,zL,e1])
   · ((first|(with_reducible first|refine Jo ?_ ?_|refine Jk ?_ ?_|refine Jp ?_ ?_)|refine Jr ?_ ?_)<;>intro e2)
     · exfalso;omega
     simp(maxSteps:=999999)(disch:=omega)only[go_sem,zA,zM,zS,zE,zL]
     refine Qh.rdD (Z7 (Nf s) hcl) (⟨_,Tryz.func20,rfl,rfl⟩:Jm Tryz.prog 20) rfl rfl (V3 hsn) rfl ?_
     by_cases hacc:Ze (Nf s)=s
     · have d:=decide_eq_true hacc
       by_cases hs0:s=[]
       · have d0:=decide_eq_true hs0
         obtain⟨q1,q2⟩:=Uu (s:=s) fun h=>YX h.1 hs0
         rw[q1,q2]
         simp(maxSteps:=999999)(disch:=omega)only[go_sem,zA,zM,zS,zE,zL,d,d0]
         exact ZT _
       · have d0:=decide_eq_false hs0
         have ha:=(VN s).1 ⟨hacc,hs0⟩
         rw[←JbN ha,show Q6 s=true from decide_eq_true ha]
         simp(maxSteps:=999999)(disch:=omega)only[go_sem,zA,zM,zS,zE,zL,d,d0]
         rw[hsd]
         first|exact⟨_,Qc.refl _,_,[],rfl, .e⟩|exact⟨_,Qc.refl _,_,[3],rfl,Qv.o 3 g none (x::l) [] (by rw[Jv];simp[look])⟩
     · have d:=decide_eq_false hacc
       obtain⟨q1,q2⟩:=Uu (s:=s) fun h=>hacc ((VN s).2 h).1
       rw[q1,q2]
       simp(maxSteps:=999999)(disch:=omega)only[go_sem,zA,zM,zS,zE,zL,d]
       exact ZT _
   · skip
     refine Qh.rdD (Z7 (Nf s) hcl) (⟨_,Tryz.func20,rfl,rfl⟩:Jm Tryz.prog 20) rfl rfl (V3 hsn) rfl ?_
     by_cases hacc:Ze (Nf s)=s
     · have d:=decide_eq_true hacc
       by_cases hs0:s=[]
       · have d0:=decide_eq_true hs0
         obtain⟨q1,q2⟩:=Uu (s:=s) fun h=>YX h.1 hs0
         rw[q1,q2]
         simp(maxSteps:=999999)(disch:=omega)only[go_sem,zA,zM,zS,zE,zL,d,d0]
         exact ZT _
       · have d0:=decide_eq_false hs0
         have ha:=(VN s).1 ⟨hacc,hs0⟩
         rw[←JbN ha,show Q6 s=true from decide_eq_true ha]
         simp(maxSteps:=999999)(disch:=omega)only[go_sem,zA,zM,zS,zE,zL,d,d0]
         rw[hsd]
         first|exact⟨_,Qc.refl _,_,[],rfl, .e⟩|exact⟨_,Qc.refl _,_,[3],rfl,Qv.o 3 g none (x::l) [] (by rw[Jv];simp[look])⟩
     · have d:=decide_eq_false hacc
       obtain⟨q1,q2⟩:=Uu (s:=s) fun h=>hacc ((VN s).2 h).1
       rw[q1,q2]
       simp(maxSteps:=999999)(disch:=omega)only[go_sem,zA,zM,zS,zE,zL,d]
       exact ZT _
end Go.Lg
