/- GpUH, cut to what is needed. -/
import Derived.Test.YtidekghnkifbjaaGreatDoorJee2
import Derived.Test.YtidekghnkifbjaaGreatDoorJee0
open Nat renaming reduceAdd→zA,reduceMul→zM,reduceSub→zS,reduceEqDiff→zE,reduceLeDiff→zL
set_option linter.unusedSimpArgs false
set_option linter.unusedVariables false
set_option maxRecDepth 100000
namespace Go.Lg
open Go.Proofs
attribute [-go_sem] J9 Jv
theorem Jfo{q:QZ}(h:smG q)(ls:List (List UInt8)):smG (ZN q ls):=by
 unfold ZN
 split
 · rename_i hr
   obtain⟨n,hN⟩:=Z1.of hr.1
   exact(Xa ls hN).smG (by rw[Kr _ hN];exact h.1)
 · exact⟨⟨by simp[ZC],by simp[ZC],by simp[ZC]⟩,by simp[ZC],by simp[ZC]⟩
theorem tdiv2(m:Nat):(m:Int).tdiv 2=((m/2:Nat):Int):=rfl
theorem Jgk{q:QZ}{ls:List (List UInt8)}(h:Y0 q ls)(k:Nat):Y0 q (ls.take k)∧Y0 (ZN q (ls.take k)) (ls.drop k)∧ZN (ZN q (ls.take k)) (ls.drop k)=ZN q ls∧UG q (ls.take k)++UG (ZN q (ls.take k)) (ls.drop k)=UG q ls:=by
 obtain⟨n,hN⟩:=Z1.of h.1
 have h1:Y0 q (ls.take k):=⟨h.1,by have:=h.2;simp;omega⟩
 have e1:ZN q (ls.take k)=VS q (ls.take k):=by unfold ZN;rw[if_pos h1]
 have h2:Y0 (ZN q (ls.take k)) (ls.drop k):=⟨by rw[e1];exact(Xa _ hN).valid,by have:=h.2;simp;omega⟩
 refine⟨h1,h2, ?_, ?_⟩
 · have e2:ZN (ZN q (ls.take k)) (ls.drop k)=VS (ZN q (ls.take k)) (ls.drop k):=by rw[ZN,if_pos h2]
   have e3:ZN q ls=VS q ls:=by unfold ZN;rw[if_pos h]
   rw[e2,e3,e1,←JcP,List.take_append_drop]
 · have e2:UG (ZN q (ls.take k)) (ls.drop k)=Xm (ZN q (ls.take k)) (ls.drop k):=by rw[UG,if_pos h2]
   have e3:UG q ls=Xm q ls:=by unfold UG;rw[if_pos h]
   have e4:UG q (ls.take k)=Xm q (ls.take k):=by unfold UG;rw[if_pos h1]
   rw[e2,e3,e4,e1,←GY,List.take_append_drop]
set_option maxHeartbeats 4000000 in
theorem Jau(code:List Int)(hl:code.length≤9223372036854775807)(hw:∀x∈code,(Lit.int .u8 x).wf=true):JW Tryz.prog 5 [Bl (eI .u8) code] (bool true):=by
 refine Jn.cw (c:=_) Tryz.func5 rfl (n:=140) Tryz.ntmps5 (rs:=[.tmp 2]) rfl ?_
 simp only[List.length_cons,List.length_nil,zA,zS,List.replicate,List.cons_append,List.nil_append]
 simp(maxSteps:=999999)(disch:=omega)only[go_sem,zA,zM,zS,zE,zL]
 ((first|(with_reducible first|refine Jl ?_ ?_|refine Jj ?_ ?_|refine Jp ?_ ?_)|refine Jr ?_ ?_)<;>intro h1)
 · simp(maxSteps:=999999)(disch:=omega)only[go_sem,zA,zM,zS,zE,zL]
 simp(maxSteps:=999999)(disch:=omega)only[go_sem,zA,zM,zS,zE,zL]
 refine JZ.mkF (Gu code (JhO hw) (by omega)) (⟨_,Tryz.func29,rfl,rfl⟩:Ji Tryz.prog 29) rfl rfl rfl ?_
 rintro _ ⟨q,ls,rfl,hq,hll,hls⟩
 refine⟨rfl,rfl, ?_⟩
 have hs:=hq.sm
 have hl40:∀l∈ls,l.length≤2^40:=fun l h=>by have:=hls l h;omega
 simp(maxSteps:=999999)(disch:=omega)only[go_sem,zA,zM,zS,zE,zL]
 intro g
 first|refine JZ.mk (JW.ownRun (XU q ls hs (by omega) hl40)) (⟨_,Tryz.func22,rfl,rfl⟩:Ji Tryz.prog 22) rfl rfl rfl rfl rfl ?_|refine JK.mk (JW.ownRun (XU q ls hs (by omega) hl40)) (⟨_,Tryz.func22,rfl,rfl⟩:Ji Tryz.prog 22) rfl rfl rfl rfl rfl ?_
 simp(maxSteps:=999999)(disch:=omega)only[go_sem,zA,zM,zS,zE,zL]
 intro g2
 first|refine JZ.mk (Bh q ls hs (by omega) hl40) (⟨_,Tryz.func19,rfl,rfl⟩:Ji Tryz.prog 19) rfl rfl rfl rfl rfl ?_|refine JK.mk (Bh q ls hs (by omega) hl40) (⟨_,Tryz.func19,rfl,rfl⟩:Ji Tryz.prog 19) rfl rfl rfl rfl rfl ?_
 simp(maxSteps:=999999)(disch:=omega)only[go_sem,zA,zM,zS,zE,zL]
 intro g3
 have hr:=Jfo hs ls
 have hbb:decide (ZN q ls=ZN q ls)=true:=decide_eq_true rfl
 have hbl:decide (((UG q ls).length:Int)=((UG q ls).length:Int))=true:=decide_eq_true rfl
 first|refine JZ.rd (Z5 (ZN q ls) (ZN q ls) hr) (⟨_,Tryz.func30,rfl,rfl⟩:Ji Tryz.prog 30) rfl rfl rfl rfl ?_|refine JK.rd (Z5 (ZN q ls) (ZN q ls) hr) (⟨_,Tryz.func30,rfl,rfl⟩:Ji Tryz.prog 30) rfl rfl rfl rfl ?_
 simp(maxSteps:=999999)(disch:=omega)only[go_sem,zA,zM,zS,zE,zL]
 first|refine JZ.rd (QN q hs) (⟨_,Tryz.func12,rfl,rfl⟩:Ji Tryz.prog 12) rfl rfl rfl rfl ?_|refine JK.rd (QN q hs) (⟨_,Tryz.func12,rfl,rfl⟩:Ji Tryz.prog 12) rfl rfl rfl rfl ?_
 simp(maxSteps:=999999)(disch:=omega)only[go_sem,zA,zM,zS,zE,zL]
 by_cases hok:Y0 q ls
 rotate_left
 · have e1:ZN q ls=ZC:=by unfold ZN;rw[if_neg hok]
   have e2:UG q ls=[]:=by unfold UG;rw[if_neg hok]
   have d0:decide ((ZN q ls).task.size=0)=true:=by rw[e1];rfl
   have d1:decide (((UG q ls).length:Int)=0)=true:=by rw[e2];rfl
   cases hv:Qd q with
   |false=>
    simp(maxSteps:=999999)(disch:=omega)only[go_sem,zA,zM,zS,zE,zL,d0,d1]
    first|refine JZ.rd (Wt) (⟨_,Tryz.func14,rfl,rfl⟩:Ji Tryz.prog 14) rfl rfl rfl rfl ?_|refine JK.rd (Wt) (⟨_,Tryz.func14,rfl,rfl⟩:Ji Tryz.prog 14) rfl rfl rfl rfl ?_
    simp(maxSteps:=999999)(disch:=omega)only[go_sem,zA,zM,zS,zE,zL]
   |true=>
    have d:decide ((40:Int)<(ls.length:Int))=true:=decide_eq_true (by
     have:¬ls.length≤40:=fun h=>hok ⟨hv,h⟩
     omega)
    simp(maxSteps:=999999)(disch:=omega)only[go_sem,zA,zM,zS,zE,zL,d,d0,d1]
    first|refine JZ.rd (Wt) (⟨_,Tryz.func14,rfl,rfl⟩:Ji Tryz.prog 14) rfl rfl rfl rfl ?_|refine JK.rd (Wt) (⟨_,Tryz.func14,rfl,rfl⟩:Ji Tryz.prog 14) rfl rfl rfl rfl ?_
    simp(maxSteps:=999999)(disch:=omega)only[go_sem,zA,zM,zS,zE,zL]
 have d:decide ((40:Int)<(ls.length:Int))=false:=decide_eq_false (by have:=hok.2;omega)
 rw[hok.1]
 simp(maxSteps:=999999)(disch:=omega)only[go_sem,zA,zM,zS,zE,zL,d,tdiv2]
 obtain⟨h,hh⟩:∃h:Nat,h=ls.length/2:=⟨_,rfl⟩
 have hhl:h≤ls.length:=by omega
 rw[←hh]
 obtain⟨p1,p2,p3,p4⟩:=Jgk hok h
 have hA:=Jfo hs (ls.take h)
 have hl1:∀l∈ls.take h,l.length≤2^40:=fun l hl=>hl40 l (List.mem_of_mem_take hl)
 have hl2:∀l∈ls.drop h,l.length≤2^40:=fun l hl=>hl40 l (List.mem_of_mem_drop hl)
 have q1:=XU q (ls.take h) hs (by simp;omega) hl1
 have q2:=XU (ZN q (ls.take h)) (ls.drop h) hA (by simp;omega) hl2
 rw[p3]at q2
 obtain⟨A,hAe⟩:∃A,A=ZN q (ls.take h):=⟨_,rfl⟩
 obtain⟨R,hRe⟩:∃R,R=ZN q ls:=⟨_,rfl⟩
 obtain⟨F1,hF1⟩:∃F1,F1=UG q (ls.take h):=⟨_,rfl⟩
 obtain⟨F2,hF2⟩:∃F2,F2=UG A (ls.drop h):=⟨_,rfl⟩
 obtain⟨F,hF⟩:∃F,F=UG q ls:=⟨_,rfl⟩
 have hFl:F.length=ls.length:=by rw[hF];unfold UG;rw[if_pos hok,Bk]
 rw[←hAe,←hRe]at q2
 rw[←hAe,←hF1]at q1
 rw[←hAe]at hA p4
 rw[←hF2]at q2
 rw[←hF1,←hF2,←hF]at p4
 rw[←hRe]at hr hbb
 rw[←hF]at hbl
 rw[←hRe,←hF]
 clear hAe hRe hF1 hF2 hF
 have s1:sub ls 0 (h:Int)=ls.take h:=by simp[sub]
 have s2:sub ls (h:Int) ls.length=ls.drop h:=by
  show(ls.drop h).take _=ls.drop h
  exact List.take_of_length_le (by simp)
 refine YO [0,1,2,3,8,4,5,6,7] [] (some 8) [9,10] 7 [] Zd (by kernel_rfl) ?_
 iterate 6 (rw[Jv];simp(maxSteps:=999999)(disch:=omega)only[go_sem,zA,zM,zS,zE,zL,s1])
 refine JK.mk (JW.ownRun q1) (⟨_,Tryz.func22,rfl,rfl⟩:Ji Tryz.prog 22) rfl rfl rfl rfl rfl ?_
 simp(maxSteps:=999999)(disch:=omega)only[go_sem,zA,zM,zS,zE,zL]
 iterate 3 (rw[Jv];simp(maxSteps:=999999)(disch:=omega)only[go_sem,zA,zM,zS,zE,zL])
 intro g4
 refine VJ rfl (.inr rfl) ?_
 simp(maxSteps:=999999)(disch:=omega)only[go_sem,zA,zM,zS,zE,zL]
 refine VJ rfl (.inl rfl) ?_
 simp(maxSteps:=999999)(disch:=omega)only[go_sem,zA,zM,zS,zE,zL]
 refine YO [0,1,2,3,8,4,5,6,7] [] (some 8) [9,10] 7 [] Zd (by kernel_rfl) ?_
 iterate 6 (rw[Jv];simp(maxSteps:=999999)(disch:=omega)only[go_sem,zA,zM,zS,zE,zL,s2])
 refine JK.mk (JW.ownRun q2) (⟨_,Tryz.func22,rfl,rfl⟩:Ji Tryz.prog 22) rfl rfl rfl rfl rfl ?_
 simp(maxSteps:=999999)(disch:=omega)only[go_sem,zA,zM,zS,zE,zL]
 iterate 3 (rw[Jv];simp(maxSteps:=999999)(disch:=omega)only[go_sem,zA,zM,zS,zE,zL])
 intro g5
 refine VJ rfl (.inr rfl) ?_
 simp(maxSteps:=999999)(disch:=omega)only[go_sem,zA,zM,zS,zE,zL]
 refine VJ rfl (.inl rfl) ?_
 simp(maxSteps:=999999)(disch:=omega)only[go_sem,zA,zM,zS,zE,zL]
 intro g6
 have hF1:F1.length≤2^40∧F2.length≤2^40:=by
  have:=congrArg List.length p4
  rw[List.length_append]at this
  omega
 refine UV (E:=eS) (n:=1) (k:=0) (xs:=[]) (ys:=F1) (Qb Jf8 rfl ti9) ⟨rfl,rfl,by decide,by decide⟩ rfl (id:=5) (g:=g6) (by unfold look;simp;rfl) ⟨by simp,by omega⟩ XR ?_
 intro g7
 rw[Nat.zero_add,List.nil_append]
 simp(maxSteps:=999999)(disch:=omega)only[go_sem,zA,zM,zS,zE,zL]
 refine UV (E:=eS) (n:=1) (k:=F1.length) (xs:=F1) (ys:=F2) (Qb Jf8 rfl ti9) ⟨rfl,rfl,by decide,by decide⟩ rfl (id:=5) (g:=g7) (by unfold look;simp) ⟨by omega,by omega⟩ XR ?_
 intro g8
 rw[←List.length_append,p4]
 simp(maxSteps:=999999)(disch:=omega)only[go_sem,zA,zM,zS,zE,zL]
 refine JY (fun i:Nat=>F.length -i) (fun i=>i≤F.length) (fun i=>[.a, .a, .a, .a, .k, .k, .k, .a, .k, .a, .a, .a, .k, .a, .k, .p (int i), .a, .a, .a, .a, .a, .a, .a, .a, .a, .a, .a, .a, .a, .a, .a, .a, .a, .a, .a, .a, .a, .a, .a, .a, .a, .a, .a, .a, .a, .a, .a, .a, .a, .a, .a, .a, .a, .a, .a, .a, .a, .a, .a, .a, .a, .a, .a, .a, .a, .a, .a, .a, .a, .a, .a, .a, .a, .a, .a, .a, .a, .a, .a, .a, .a, .a, .a, .a, .a, .a, .a, .a, .a, .a, .a, .a, .a, .a, .a, .a, .a, .a, .a, .a, .a, .a, .a, .a, .a, .a, .a, .a, .a, .a, .a, .a, .a, .a, .a, .a, .a, .a, .a, .a, .a, .a, .a, .a, .a, .a, .a, .a, .a, .a, .a, .a, .a, .a, .a, .a, .a, .a, .a, .a]) (fun i=>[some ⟨g,5,cG q⟩,some ⟨g2,5,cG R⟩,some ⟨g3,5,cG R⟩,some ⟨g4,5,cG A⟩,some ⟨g5,5,cG R⟩,some ⟨g8,1,cl eS F⟩]) 0 (Nat.zero_le _) (by simp(maxSteps:=999999)(disch:=omega)only[go_sem,zA,zM,zS,zE,zL];rfl) (J0.refl _) ?_
 intro i hi
 simp(maxSteps:=999999)(disch:=omega)only[go_sem,zA,zM,zS,zE,zL]
 ((first|(with_reducible first|refine Jl ?_ ?_|refine Jj ?_ ?_|refine Jp ?_ ?_)|refine Jr ?_ ?_)<;>intro c1)
 · have dd:decide (JA F i=JA F i)=true:=decide_eq_true rfl
   simp(maxSteps:=999999)(disch:=omega)only[go_sem,zA,zM,zS,zE,zL]
   refine Zj Zd (by kernel_rfl) ?_
   simp(maxSteps:=999999)(disch:=omega)only[go_sem,Nat.reduceBEq,Bool.true_or,zA,zM,zS,zE,zL]
   have dle:decide (((F.length:Nat):Int)≤(i:Int))=false:=decide_eq_false (by omega)
   simp(maxSteps:=999999)(disch:=omega)only[go_sem,zA,zM,zS,zE,zL,dle]
   exact⟨i+1,⟨by omega,by omega⟩,by push_cast;rfl,J0.refl _⟩
 · have dl:decide (((F.length:Nat):Int)=(ls.length:Int))=true:=decide_eq_true (by omega)
   simp(maxSteps:=999999)(disch:=omega)only[go_sem,zA,zM,zS,zE,zL,dl]
   first|refine JZ.rd (Z5 R R hr) (⟨_,Tryz.func30,rfl,rfl⟩:Ji Tryz.prog 30) rfl rfl rfl rfl ?_|refine JK.rd (Z5 R R hr) (⟨_,Tryz.func30,rfl,rfl⟩:Ji Tryz.prog 30) rfl rfl rfl rfl ?_
   simp(maxSteps:=999999)(disch:=omega)only[go_sem,zA,zM,zS,zE,zL]
end Go.Lg
