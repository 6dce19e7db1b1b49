/- GpMC, GpMD, cut to what is needed. -/
import Derived.Test.YtidekghnkifbjaaGreatDoorJdc5
import Derived.Test.YtidekghnkifbjaaGreatDoorJdc4
open List renaming length_cons → Ja, cons_append → Jb, nil_append → Jd, length_nil → Je, replicate → Jf, append_nil → Jt, append_assoc → JW
open Nat renaming reduceAdd→zA,reduceMul→zM,reduceSub→zS,reduceEqDiff→zE,reduceLeDiff→zL
set_option linter.unusedSimpArgs false
set_option linter.unusedVariables false
set_option maxRecDepth 100000
namespace Go.Lg
open Go.Proofs
set_option maxHeartbeats 4000000 in
theorem Bs{n:Nat}(hn:n=2∨n=3∨n=4)(ms:List Nat)(hm:XG ms n):JM Tryz.prog 137 [QF (JN ms),int n] (QF (JN (NJ ms n))):=by
 have hsq:4≤n*n∧n*n≤16:=by rcases hn with rfl|rfl|rfl<;>omega
 have hl:(JN ms).length=n*n:=by rw[Qm];exact hm.len
 refine JM.own ?_
 refine Jk.cw (c:=_) Tryz.func137 rfl (n:=65) Tryz.ntmps137 (rs:=[.tmp 4]) rfl ?_
 simp only[Ja,Je,zA,zS,Jf,Jb,Jd]
 simp(maxSteps:=999999)(disch:=omega)only[go_sem,zA,zM,zS,zE,zL]
 first|refine JU.rd (ZI hn ms hm) (⟨_,Tryz.func156,rfl,rfl⟩:Jg Tryz.prog 156) rfl rfl rfl rfl ?_|refine JG.rd (ZI hn ms hm) (⟨_,Tryz.func156,rfl,rfl⟩:Jg Tryz.prog 156) rfl rfl rfl rfl ?_
 simp(maxSteps:=999999)(disch:=omega)only[go_sem,zA,zM,zS,zE,zL]
 refine JU.mkQ (F2 (JN ms) (by omega) (by intro h;rw[h]at hl;simp at hl;omega)) (⟨_,Tryz.func89,rfl,rfl⟩:Jg Tryz.prog 89) rfl rfl rfl ?_
 rintro _ _ ⟨g,rfl,rfl⟩
 refine⟨rfl, ?_⟩
 simp(maxSteps:=999999)(disch:=omega)only[go_sem,zA,zM,zS,zE,zL]
 rw[hl]
 refine JO (fun i:Nat=>n*n -i) (fun i=>i≤n*n) (fun i=>[.a, .k, .a, .a, .a, .k, .a, .a, .a, .a, .a, .a, .a, .a, .a, .a, .a, .k, .k, .p (int i), .a, .a, .a, .a, .a, .a, .a, .a, .a, .a, .a, .a, .a, .a, .a, .a, .a, .a, .a, .a, .a, .a, .a, .a, .a, .a, .a, .a, .a, .a, .a, .a, .a, .a, .a, .a, .a, .a, .a, .a, .a, .a, .a, .a, .a]) (fun i=>[some ⟨g,1,cl (eI .i64) (JN (Q0 ((List.range i).flatMap (Jce ms n)) ms))⟩]) 0 (Nat.zero_le _) (by simp(maxSteps:=999999)(disch:=omega)only[go_sem,zA,zM,zS,zE,zL];rfl) (J5.refl _) ?_
 intro i hi
 have hrs:=ZL (Jce ms n) i
 have hok:=fun R=>WN R hm
 have hlt:=fun R k=>(hok R).lt hn k
 have hll:=fun R:List (Nat×Nat)=>(V1 R ms).trans hm.len
 generalize hR:(List.range i).flatMap (Jce ms n)=R at hrs⊢
 simp(maxSteps:=999999)(disch:=omega)only[go_sem,zA,zM,zS,zE,zL]
 ((first|(with_reducible first|refine Jm ?_ ?_|refine Jj ?_ ?_|refine Jo ?_ ?_)|refine Jr ?_ ?_)<;>intro h1)
 · have h1:i<n*n:=by omega
   have hmi:=hm.lt hn i
   have hni:=Q4 ms i
   simp(maxSteps:=999999)(disch:=omega)only[go_sem,zA,zM,zS,zE,zL,hni]
   first|refine JU.rd (Wm (QH ms i) hmi.1) (⟨_,Tryz.func81,rfl,rfl⟩:Jg Tryz.prog 81) rfl rfl rfl rfl ?_|refine JG.rd (Wm (QH ms i) hmi.1) (⟨_,Tryz.func81,rfl,rfl⟩:Jg Tryz.prog 81) rfl rfl rfl rfl ?_
   simp(maxSteps:=999999)(disch:=omega)only[go_sem,zA,zM,zS,zE,zL]
   ((first|(with_reducible first|refine Jm ?_ ?_|refine Jj ?_ ?_|refine Jo ?_ ?_)|refine Jr ?_ ?_)<;>intro h2)
   · have h2:ZH (QH ms i)=0:=by exact_mod_cast h2
     have hA:Jce ms n i=[]:=if_pos h2
     rw[hA,Jt]at hrs
     simp(maxSteps:=999999)(disch:=omega)only[go_sem,zA,zM,zS,zE,zL]
     exact⟨i+1,⟨by omega,by omega⟩,by push_cast;rfl,by rw[hrs];exact J5.refl _⟩
   · have h2:ZH (QH ms i)≠0:=fun h=>h2 (by rw[h];rfl)
     have hA:Jce ms n i=(List.range n).flatMap (NK ms n i):=if_neg h2
     rw[hA]at hrs
     clear hA
     obtain⟨d,hd⟩:∃d,d=i/n:=⟨_,rfl⟩
     obtain⟨e,he⟩:∃e,e=i%n:=⟨_,rfl⟩
     have hid:(i:Int).tdiv (n:Int)=((d:Nat):Int):=by rw[hd];rfl
     have him:(i:Int).tmod (n:Int)=((e:Nat):Int):=by rw[he];rfl
     have hd2:d<n:=by rw[hd,Nat.div_lt_iff_lt_mul (by omega)];exact h1
     have he2:e<n:=by rw[he];exact Nat.mod_lt _ (by omega)
     simp(maxSteps:=999999)(disch:=omega)only[go_sem,zA,zM,zS,zE,zL]
     refine JO (fun k:Nat=>n -k) (fun k=>k≤n) (fun k=>[.a, .k, .a, .a, .a, .k, .k, .k, .a, .a, .a, .a, .a, .a, .a, .a, .a, .k, .k, .k, .a, .a, .a, .a, .a, .a, .a, .k, .p (int k), .a, .a, .a, .a, .a, .a, .a, .a, .a, .a, .a, .a, .a, .a, .a, .a, .a, .a, .a, .a, .a, .a, .a, .a, .a, .a, .a, .a, .a, .a, .a, .a, .a, .a, .a, .a]) (fun k=>[some ⟨g,1,cl (eI .i64) (JN (Q0 (R++(List.range k).flatMap (NK ms n i)) ms))⟩]) 0 (Nat.zero_le _) (by simp(maxSteps:=999999)(disch:=omega)only[go_sem,zA,zM,zS,zE,zL];rfl) (by simp only[List.range_zero,List.flatMap_nil,Jt];exact J5.refl _) ?_
     intro k hk
     have hks:=ZL (NK ms n i) k
     have hkd:NK ms n i k=Ws ms n i (d*n+k)++Ws ms n i (k*n+e):=by rw[hd,he];rfl
     generalize hS:(List.range k).flatMap (NK ms n i)=S at hks⊢
     simp(maxSteps:=999999)(disch:=omega)only[go_sem,zA,zM,zS,zE,zL]
     ((first|(with_reducible first|refine Jm ?_ ?_|refine Jj ?_ ?_|refine Jo ?_ ?_)|refine Jr ?_ ?_)<;>intro h3)
     · have h3:k<n:=by omega
       have hb:(d*n+k<n*n∧d*n≤16)∧(k*n+e<n*n∧k*n≤16):=by rcases hn with rfl|rfl|rfl<;>omega
       have hb1:0≤(d:Int)*n∧(d:Int)*n≤16:=by have:=hb.1.2;exact⟨by omega,by exact_mod_cast this⟩
       have hb2:0≤(k:Int)*n∧(k:Int)*n≤16:=by have:=hb.2.2;exact⟨by omega,by exact_mod_cast this⟩
       simp(maxSteps:=999999)(disch:=omega)only[go_sem,zA,zM,zS,zE,zL]
       refine Ug [0,1,2,3,4,5,6,7,8,9,10,11,12,13,16,14,15] [] none [] [] ZE (by kernel_rfl) ?_
       simp(maxSteps:=999999)(disch:=omega)only[go_sem,Nat.reduceBEq,Bool.true_or,zA,zM,zS,zE,zL]
       intro g2
       have hw1:IntKind.i64.wrap (IntKind.i64.wrap ((d:Int)*n)+k)=((d*n+k:Nat):Int):=by
        rw[BJ (n:=(d:Int)*n) (by omega),BJ (by omega)]
        push_cast
        rfl
       have hw2:(k:Int)*n+(e:Int)=((k*n+e:Nat):Int):=by push_cast;rfl
       rw[hid,him,hw1,hw2]
       have hba:=hb.1.1
       have hbb:=hb.2.1
       clear hw1 hw2 hb1 hb2 hb
       generalize d*n+k=a at hkd hba⊢
       generalize k*n+e=b at hkd hbb⊢
       refine JO (fun j:Nat=>2 -j) (fun j=>j≤2) (fun j=>[.a, .k, .a, .a, .a, .k, .k, .k, .a, .a, .a, .a, .a, .a, .a, .a, .a, .k, .k, .k, .a, .a, .a, .a, .a, .a, .a, .k, .k, .a, .a, .a, .a, .a, .a, .a, .a, .a, .a, .a, .a, .a, .a, .a, .a, .k, .k, .p (int j), .a, .a, .a, .a, .a, .a, .a, .a, .a, .a, .a, .a, .a, .a, .a, .a, .a]) (fun j=>[some ⟨g,1,cl (eI .i64) (JN (Q0 (R++(S++([Ws ms n i a,Ws ms n i b].take j).flatten)) ms))⟩,some ⟨g2,1,[.f (.int .i64 (a:Int)), .f (.int .i64 (b:Int))]⟩]) 0 (Nat.zero_le _) (by simp(maxSteps:=999999)(disch:=omega)only[go_sem,zA,zM,zS,zE,zL];rfl) (by simp only[List.take_zero,List.flatten_nil,Jt];exact J5.refl _) ?_
       intro j hj
       simp(maxSteps:=999999)(disch:=omega)only[go_sem,zA,zM,zS,zE,zL]
       ((first|(with_reducible first|refine Jm ?_ ?_|refine Jj ?_ ?_|refine Jo ?_ ?_)|refine Jr ?_ ?_)<;>intro h4)
       · have h4:j=0∨j=1:=by omega
         rcases h4 with rfl|rfl
         · skip
           have hld:ldP (some ⟨g2,1,[.f (.int .i64 (a:Int)), .f (.int .i64 (b:Int))]⟩) (0+((0:Nat):Int).toNat*1)=some (int a):=rfl
           obtain⟨Z,hZ⟩:∃Z,Z=Ws ms n i a:=⟨_,rfl⟩
           have hX:R++(S++([Ws ms n i a,Ws ms n i b].take (0+1)).flatten)=(R++(S++([Ws ms n i a,Ws ms n i b].take 0).flatten))++Z:=by rw[hZ];simp
           generalize R++(S++([Ws ms n i a,Ws ms n i b].take 0).flatten)=Q at hX⊢
           have hQn:=Q4 (Q0 Q ms) a
           have hQl:(JN (Q0 Q ms)).length=n*n:=by rw[Qm];exact hll Q
           have hQc:Uv .andNot .i64 ((QH (Q0 Q ms) a:Nat):Int) ((QH ms i:Nat):Int)=((Bv (QH (Q0 Q ms) a) (QH ms i):Nat):Int):=Vl (by have:=(hlt Q a).1;omega) (by omega)
           have hQs:=fun v:Nat=>Vo (b:=Q0 Q ms) (k:=a) (v:=v) (by rw[hll Q];omega)
           simp(maxSteps:=999999)(disch:=omega)only[go_sem,zA,zM,zS,zE,zL,hld]
           ((first|(with_reducible first|refine Jm ?_ ?_|refine Jj ?_ ?_|refine Jo ?_ ?_)|refine Jr ?_ ?_)<;>intro h5)
           · have hA:Z=[]:=hZ.trans (if_pos (by omega))
             rw[hA,Jt]at hX
             simp(maxSteps:=999999)(disch:=omega)only[go_sem,zA,zM,zS,zE,zL]
             exact⟨0+1,⟨by omega,by omega⟩,rfl,by rw[hX];exact J5.refl _⟩
           · have hA:Z=[(a,QH ms i)]:=hZ.trans (if_neg (by omega))
             rw[hA]at hX
             simp(maxSteps:=999999)(disch:=omega)only[go_sem,zA,zM,zS,zE,zL,hQn,hQl,hQc,hQs]
             exact⟨0+1,⟨by omega,by omega⟩,rfl,by rw[hX,Wx];exact J5.refl _⟩
         · skip
           have hld:ldP (some ⟨g2,1,[.f (.int .i64 (a:Int)), .f (.int .i64 (b:Int))]⟩) (0+((1:Nat):Int).toNat*1)=some (int b):=rfl
           obtain⟨Z,hZ⟩:∃Z,Z=Ws ms n i b:=⟨_,rfl⟩
           have hX:R++(S++([Ws ms n i a,Ws ms n i b].take (1+1)).flatten)=(R++(S++([Ws ms n i a,Ws ms n i b].take 1).flatten))++Z:=by rw[hZ];simp
           generalize R++(S++([Ws ms n i a,Ws ms n i b].take 1).flatten)=Q at hX⊢
           have hQn:=Q4 (Q0 Q ms) b
           have hQl:(JN (Q0 Q ms)).length=n*n:=by rw[Qm];exact hll Q
           have hQc:Uv .andNot .i64 ((QH (Q0 Q ms) b:Nat):Int) ((QH ms i:Nat):Int)=((Bv (QH (Q0 Q ms) b) (QH ms i):Nat):Int):=Vl (by have:=(hlt Q b).1;omega) (by omega)
           have hQs:=fun v:Nat=>Vo (b:=Q0 Q ms) (k:=b) (v:=v) (by rw[hll Q];omega)
           simp(maxSteps:=999999)(disch:=omega)only[go_sem,zA,zM,zS,zE,zL,hld]
           ((first|(with_reducible first|refine Jm ?_ ?_|refine Jj ?_ ?_|refine Jo ?_ ?_)|refine Jr ?_ ?_)<;>intro h5)
           · have hA:Z=[]:=hZ.trans (if_pos (by omega))
             rw[hA,Jt]at hX
             simp(maxSteps:=999999)(disch:=omega)only[go_sem,zA,zM,zS,zE,zL]
             exact⟨1+1,⟨by omega,by omega⟩,rfl,by rw[hX];exact J5.refl _⟩
           · have hA:Z=[(b,QH ms i)]:=hZ.trans (if_neg (by omega))
             rw[hA]at hX
             simp(maxSteps:=999999)(disch:=omega)only[go_sem,zA,zM,zS,zE,zL,hQn,hQl,hQc,hQs]
             exact⟨1+1,⟨by omega,by omega⟩,rfl,by rw[hX,Wx];exact J5.refl _⟩
       · have hje:j=2:=by omega
         subst hje
         have hX:R++(List.range (k+1)).flatMap (NK ms n i)=R++(S++([Ws ms n i a,Ws ms n i b].take 2).flatten):=by rw[hks,hkd];simp
         generalize R++(S++([Ws ms n i a,Ws ms n i b].take 2).flatten)=Q at hX⊢
         simp(maxSteps:=999999)(disch:=omega)only[go_sem,zA,zM,zS,zE,zL]
         exact⟨k+1,⟨by omega,by omega⟩,by push_cast;rfl,ZY (by rw[hX]) (J9 _)⟩
     · have hke:k=n:=by omega
       rw[hke]at hS
       simp(maxSteps:=999999)(disch:=omega)only[go_sem,zA,zM,zS,zE,zL]
       exact⟨i+1,⟨by omega,by omega⟩,by push_cast;rfl,by rw[hrs,hS];exact J5.refl _⟩
 · have hie:i=n*n:=by omega
   rw[hie]at hR
   have hM:Q0 R ms=NJ ms n:=by rw[←hR];rfl
   have hl2:(JN (NJ ms n)).length=n*n:=by rw[Qm,←hM];exact hll R
   rw[hM]
   simp(maxSteps:=999999)(disch:=omega)only[go_sem,zA,zM,zS,zE,zL]
   rw[←hl2]
   exact ZK (E:=eI .i64) (n:=1) (J5.refl _)
theorem Yk(xs:List Int)(hx:xs.length≤2^40)(h0:xs≠[]):Jk Tryz.prog 153 [QF xs] [] (RX (eI .i64) 1 xs):=by
 have hp:0<xs.length:=List.length_pos_iff.2 h0
 refine Jk.cw (c:=_) Tryz.func153 rfl (n:=6) Tryz.ntmps153 (rs:=[.tmp 2]) rfl ?_
 simp only[Ja,Je,zA,zS,Jf,Jb,Jd]
 simp(maxSteps:=999999)(disch:=omega)only[go_sem,zA,zM,zS,zE,zL]
 intro g g'
 rw[Nat.zero_add]
 exact ZK (E:=eI .i64) (n:=1) (J5.refl _)
set_option maxHeartbeats 4000000 in
theorem Rc{n:Nat}(hn:n=2∨n=3∨n=4)(ms:List Nat)(hm:XG ms n):JM Tryz.prog 132 [QF (JN ms),int n] (QF (JN (NJ ms n))):=by
 have hsq:4≤n*n∧n*n≤16:=by rcases hn with rfl|rfl|rfl<;>omega
 have hl:(JN ms).length=n*n:=by rw[Qm];exact hm.len
 rw[←Jht hn hm]
 refine JM.own ?_
 refine Jk.cw (c:=_) Tryz.func132 rfl (n:=68) Tryz.ntmps132 (rs:=[.tmp 4]) rfl ?_
 simp only[Ja,Je,zA,zS,Jf,Jb,Jd]
 simp(maxSteps:=999999)(disch:=omega)only[go_sem,zA,zM,zS,zE,zL]
 first|refine JU.rd (Ze hn (JN ms) hm.ok) (⟨_,Tryz.func131,rfl,rfl⟩:Jg Tryz.prog 131) rfl rfl rfl rfl ?_|refine JG.rd (Ze hn (JN ms) hm.ok) (⟨_,Tryz.func131,rfl,rfl⟩:Jg Tryz.prog 131) rfl rfl rfl rfl ?_
 simp(maxSteps:=999999)(disch:=omega)only[go_sem,zA,zM,zS,zE,zL]
 refine JU.mkQ (Yk (JN ms) (by omega) (by intro h;rw[h]at hl;simp at hl;omega)) (⟨_,Tryz.func153,rfl,rfl⟩:Jg Tryz.prog 153) rfl rfl rfl ?_
 rintro _ _ ⟨g,rfl,rfl⟩
 refine⟨rfl, ?_⟩
 simp(maxSteps:=999999)(disch:=omega)only[go_sem,zA,zM,zS,zE,zL]
 rw[hl]
 refine JO (fun i:Nat=>n*n -i) (fun i=>i≤n*n) (fun i=>[.k, .k, .a, .a, .a, .k, .p (int i), .a, .a, .a, .a, .a, .a, .a, .a, .a, .a, .a, .a, .a, .a, .a, .a, .a, .a, .a, .a, .a, .a, .a, .a, .a, .a, .a, .a, .a, .a, .a, .a, .a, .a, .a, .a, .a, .a, .a, .a, .a, .a, .a, .a, .a, .a, .a, .a, .a, .a, .a, .a, .a, .a, .a, .a, .a, .a, .a, .a, .a]) (fun i=>[some ⟨g,1,cl (eI .i64) (JN (Q0 ((List.range i).flatMap (Jcd ms n)) ms))⟩]) 0 (Nat.zero_le _) (by simp(maxSteps:=999999)(disch:=omega)only[go_sem,zA,zM,zS,zE,zL];rfl) (J5.refl _) ?_
 intro i hi
 have hrs:=ZL (Jcd ms n) i
 have hok:=fun R=>WN R hm
 have hlt:=fun R k=>(hok R).lt hn k
 have hll:=fun R:List (Nat×Nat)=>(V1 R ms).trans hm.len
 generalize hR:(List.range i).flatMap (Jcd ms n)=R at hrs⊢
 simp(maxSteps:=999999)(disch:=omega)only[go_sem,zA,zM,zS,zE,zL]
 ((first|(with_reducible first|refine Jm ?_ ?_|refine Jj ?_ ?_|refine Jo ?_ ?_)|refine Jr ?_ ?_)<;>intro h1)
 · have h1:i<n*n:=by omega
   have hmi:=hm.lt hn i
   have hni:=Q4 ms i
   have hmv:=GI hmi
   simp(maxSteps:=999999)(disch:=omega)only[go_sem,zA,zM,zS,zE,zL,hni]
   first|refine JU.mk (ZZ (QH ms i) hmi) (⟨_,Tryz.func106,rfl,rfl⟩:Jg Tryz.prog 106) rfl rfl rfl rfl rfl ?_|refine JG.mk (ZZ (QH ms i) hmi) (⟨_,Tryz.func106,rfl,rfl⟩:Jg Tryz.prog 106) rfl rfl rfl rfl rfl ?_
   simp(maxSteps:=999999)(disch:=omega)only[go_sem,zA,zM,zS,zE,zL]
   ((first|(with_reducible first|refine Jm ?_ ?_|refine Jj ?_ ?_|refine Jo ?_ ?_)|refine Jr ?_ ?_)<;>intro h2)
   rotate_left
   · have h2:ZH (QH ms i)=0:=by
      by_cases h:ZH (QH ms i)=0
      · exact h
      · exact absurd (hmv.1.2 h) (by omega)
     have hA:Jcd ms n i=[]:=if_pos h2
     rw[hA,Jt]at hrs
     simp(maxSteps:=999999)(disch:=omega)only[go_sem,zA,zM,zS,zE,zL]
     exact⟨i+1,⟨by omega,by omega⟩,by push_cast;rfl,by rw[hrs];exact J5.refl _⟩
   · have h2:ZH (QH ms i)≠0:=hmv.1.1 (by omega)
     have hA:Jcd ms n i=(List.range (n*n)).flatMap (Gj ms n i):=if_neg h2
     rw[hA]at hrs
     clear hA
     simp(maxSteps:=999999)(disch:=omega)only[go_sem,zA,zM,zS,zE,zL]
     refine JO (fun j:Nat=>n*n -j) (fun j=>j≤n*n) (fun j=>[.k, .k, .a, .a, .a, .k, .k, .p (int j), .a, .a, .a, .a, .a, .a, .a, .a, .a, .a, .a, .a, .a, .a, .a, .a, .a, .a, .a, .a, .a, .a, .a, .a, .a, .a, .a, .a, .a, .a, .a, .a, .a, .a, .a, .a, .a, .a, .a, .a, .a, .a, .a, .a, .a, .a, .a, .a, .a, .a, .a, .a, .a, .a, .a, .a, .a, .a, .a, .a]) (fun j=>[some ⟨g,1,cl (eI .i64) (JN (Q0 (R++(List.range j).flatMap (Gj ms n i)) ms))⟩]) 0 (Nat.zero_le _) (by simp(maxSteps:=999999)(disch:=omega)only[go_sem,zA,zM,zS,zE,zL];rfl) (by simp only[List.range_zero,List.flatMap_nil,Jt];exact J5.refl _) ?_
     intro j hj
     have hks:=ZL (Gj ms n i) j
     generalize hS:(List.range j).flatMap (Gj ms n i)=S at hks⊢
     simp(maxSteps:=999999)(disch:=omega)only[go_sem,zA,zM,zS,zE,zL]
     ((first|(with_reducible first|refine Jm ?_ ?_|refine Jj ?_ ?_|refine Jo ?_ ?_)|refine Jr ?_ ?_)<;>intro h3)
     · have h3:j<n*n:=by omega
       have hjd:(j:Int).tdiv (n:Int)=((j/n:Nat):Int):=rfl
       have hjm:(j:Int).tmod (n:Int)=((j%n:Nat):Int):=rfl
       have hid:(i:Int).tdiv (n:Int)=((i/n:Nat):Int):=rfl
       have him:(i:Int).tmod (n:Int)=((i%n:Nat):Int):=rfl
       have hJ:Gj ms n i j=if j≠i∧(j/n=i/n∨j%n=i%n)then[(j,QH ms i)]else[]:=rfl
       have hbd:j/n≤j∧i/n≤i∧j%n≤j∧i%n≤i:=⟨Nat.div_le_self _ _,Nat.div_le_self _ _,Nat.mod_le _ _,Nat.mod_le _ _⟩
       generalize j/n=a at hjd hJ hbd
       generalize i/n=b at hid hJ hbd
       generalize j%n=c at hjm hJ hbd
       generalize i%n=d at him hJ hbd
       generalize hQ:R++S=Q
       have hQn:=Q4 (Q0 Q ms) j
       have hQl:(JN (Q0 Q ms)).length=n*n:=by rw[Qm];exact hll Q
       have hQc:Uv .andNot .i64 ((QH (Q0 Q ms) j:Nat):Int) ((QH ms i:Nat):Int)=((Bv (QH (Q0 Q ms) j) (QH ms i):Nat):Int):=Vl (by have:=(hlt Q j).1;omega) (by omega)
       have hQs:=fun v:Nat=>Vo (b:=Q0 Q ms) (k:=j) (v:=v) (by rw[hll Q];omega)
       have hyes:(j≠i∧(a=b∨c=d))→R++(List.range (j+1)).flatMap (Gj ms n i)=Q++[(j,QH ms i)]:=fun h=>by rw[hks,hJ,if_pos h,←JW,hQ]
       have hnot:¬(j≠i∧(a=b∨c=d))→R++(List.range (j+1)).flatMap (Gj ms n i)=Q:=fun h=>by rw[hks,hJ,if_neg h,Jt,hQ]
       simp(maxSteps:=999999)(disch:=omega)only[go_sem,zA,zM,zS,zE,zL]
       refine Zi ZE (by kernel_rfl) ?_
       simp(maxSteps:=999999)(disch:=omega)only[go_sem,Nat.reduceBEq,Bool.true_or,zA,zM,zS,zE,zL]
       ((with_reducible first|refine JL ?_ ?_|refine JD ?_ ?_|refine JT ?_ ?_|refine Jv ?_ ?_|refine JJ ?_ ?_|refine JK ?_ ?_|refine JB ?_ ?_|refine JC ?_ ?_|refine JR ?_ ?_|refine JS ?_ ?_|refine Jw ?_ ?_|refine Jx ?_ ?_)<;>intro h4<;>simp(maxSteps:=999999)(disch:=omega)only[go_sem,zA,zM,zS,zE,zL,h4])
       · exact⟨j+1,⟨by omega,by omega⟩,by push_cast;omega,by rw[hnot (by omega)];exact J5.refl _⟩
       · simp(maxSteps:=999999)(disch:=omega)only[go_sem,zA,zM,zS,zE,zL,hjd,hjm,hid,him]
         ((with_reducible first|refine JL ?_ ?_|refine JD ?_ ?_|refine JT ?_ ?_|refine Jv ?_ ?_|refine JJ ?_ ?_|refine JK ?_ ?_|refine JB ?_ ?_|refine JC ?_ ?_|refine JR ?_ ?_|refine JS ?_ ?_|refine Jw ?_ ?_|refine Jx ?_ ?_)<;>intro h5<;>simp(maxSteps:=999999)(disch:=omega)only[go_sem,zA,zM,zS,zE,zL,h5])
         · skip
           refine Ug [0,1,2,3,4,5,6,7,8,9,10] [] none [11,12] [] ZE (by kernel_rfl) ?_
           simp(maxSteps:=999999)(disch:=omega)only[go_sem,Nat.reduceBEq,Bool.true_or,zA,zM,zS,zE,zL]
           simp(maxSteps:=999999)(disch:=omega)only[go_sem,zA,zM,zS,zE,zL,hQn,hQl,hQc,hQs]
           exact⟨j+1,⟨by omega,by omega⟩,by push_cast;rfl,by rw[hyes ⟨by omega, .inl (by omega)⟩,Wx,←Vr,←hQc,←hni,Int.toNat_natCast];exact J5.refl _⟩
         · simp(maxSteps:=999999)(disch:=omega)only[go_sem,zA,zM,zS,zE,zL,hjd,hjm,hid,him]
           ((first|(with_reducible first|refine Jm ?_ ?_|refine Jj ?_ ?_|refine Jo ?_ ?_)|refine Jr ?_ ?_)<;>intro h6)
           · simp(maxSteps:=999999)(disch:=omega)only[go_sem,zA,zM,zS,zE,zL]
             refine Ug [0,1,2,3,4,5,6,7,8,9,10] [] none [11,12] [] ZE (by kernel_rfl) ?_
             simp(maxSteps:=999999)(disch:=omega)only[go_sem,Nat.reduceBEq,Bool.true_or,zA,zM,zS,zE,zL]
             simp(maxSteps:=999999)(disch:=omega)only[go_sem,zA,zM,zS,zE,zL,hQn,hQl,hQc,hQs]
             exact⟨j+1,⟨by omega,by omega⟩,by push_cast;rfl,by rw[hyes ⟨by omega, .inr (by omega)⟩,Wx,←Vr,←hQc,←hni,Int.toNat_natCast];exact J5.refl _⟩
           · simp(maxSteps:=999999)(disch:=omega)only[go_sem,zA,zM,zS,zE,zL]
             exact⟨j+1,⟨by omega,by omega⟩,by push_cast;rfl,by rw[hnot (by omega)];exact J5.refl _⟩
     · have hke:j=n*n:=by omega
       rw[hke]at hS
       simp(maxSteps:=999999)(disch:=omega)only[go_sem,zA,zM,zS,zE,zL]
       exact⟨i+1,⟨by omega,by omega⟩,by push_cast;rfl,by rw[hrs,hS];exact J5.refl _⟩
 · have hie:i=n*n:=by omega
   rw[hie]at hR
   rw[hR]
   have hl2:(JN (Q0 R ms)).length=n*n:=by rw[Qm];exact hll R
   simp(maxSteps:=999999)(disch:=omega)only[go_sem,zA,zM,zS,zE,zL]
   rw[←hl2]
   exact ZK (E:=eI .i64) (n:=1) (J5.refl _)
end Go.Lg

namespace Go.Lg
open Go.Proofs
def Vs(n line k:Nat):Nat:=(Jy (Zb n line) k).toNat
theorem Xb{n line k:Nat}(hn:n=2∨n=3∨n=4)(hl:line<2*n)(hk:k<n):Vs n line k<n*n∧Jy (Zb n line) k=((Vs n line k:Nat):Int):=by
 obtain⟨h1,h2⟩:=YZ hn hl hk
 unfold Vs
 have:(0:Int)≤Jy (Zb n line) k:=h1
 constructor
 · omega
 · omega
def WL(ms:List Nat)(n line v:Nat):Nat→Nat×Nat
 |0=>(0,0)
 |k+1=>if(QH ms (Vs n line k)).testBit v=true then((WL ms n line v k).1+1,Vs n line k)else WL ms n line v k
theorem Jbv(ms:List Nat)(n line v:Nat):∀k,(WL ms n line v k).1≤k
 |0=>Nat.le_refl _
 |k+1=>by
  have:=Jbv ms n line v k
  unfold WL
  split
  · simp only;omega
  · omega
theorem Jbw{ms:List Nat}{n line v:Nat}(hn:n=2∨n=3∨n=4)(hl:line<2*n):∀k,k≤n→(WL ms n line v k).2<n*n
 |0,_=>by
  show 0<n*n
  rcases hn with rfl|rfl|rfl<;>decide
 |k+1,hk=>by
  unfold WL
  split
  · exact(Xb hn hl (by omega)).1
  · exact Jbw hn hl k (by omega)
def Jbu(ms:List Nat)(n line u:Nat):List (Nat×Nat):=if(WL ms n line (u+1) n).1=1 then[((WL ms n line (u+1) n).2,31^^^2^(u+1))]else[]
def Jea(ms:List Nat)(n line:Nat):List (Nat×Nat):=(List.range n).flatMap (Jbu ms n line)
def G6(ms:List Nat)(n:Nat):List Nat:=Q0 ((List.range (2*n)).flatMap (Jea ms n)) ms
set_option maxHeartbeats 4000000 in
theorem B5{n:Nat}(hn:n=2∨n=3∨n=4)(ms:List Nat)(hm:XG ms n):JM Tryz.prog 138 [QF (JN ms),int n] (QF (JN (G6 ms n))):=by
 have hsq:4≤n*n∧n*n≤16:=by rcases hn with rfl|rfl|rfl<;>omega
 have hl:(JN ms).length=n*n:=by rw[Qm];exact hm.len
 have hn4:2≤n∧n≤4:=by omega
 refine JM.own ?_
 refine Jk.cw (c:=_) Tryz.func138 rfl (n:=60) Tryz.ntmps138 (rs:=[.tmp 4]) rfl ?_
 simp only[Ja,Je,zA,zS,Jf,Jb,Jd]
 simp(maxSteps:=999999)(disch:=omega)only[go_sem,zA,zM,zS,zE,zL]
 first|refine JU.rd (ZI hn ms hm) (⟨_,Tryz.func156,rfl,rfl⟩:Jg Tryz.prog 156) rfl rfl rfl rfl ?_|refine JG.rd (ZI hn ms hm) (⟨_,Tryz.func156,rfl,rfl⟩:Jg Tryz.prog 156) rfl rfl rfl rfl ?_
 simp(maxSteps:=999999)(disch:=omega)only[go_sem,zA,zM,zS,zE,zL]
 refine JU.mkQ (F2 (JN ms) (by omega) (by intro h;rw[h]at hl;simp at hl;omega)) (⟨_,Tryz.func89,rfl,rfl⟩:Jg Tryz.prog 89) rfl rfl rfl ?_
 rintro _ _ ⟨g,rfl,rfl⟩
 refine⟨rfl, ?_⟩
 simp(maxSteps:=999999)(disch:=omega)only[go_sem,zA,zM,zS,zE,zL]
 rw[hl]
 refine JO (fun i:Nat=>2*n -i) (fun i=>i≤2*n) (fun i=>[.k, .k, .a, .a, .a, .k, .a, .a, .a, .a, .a, .a, .a, .a, .a, .a, .a, .a, .a, .k, .p (int i), .a, .a, .a, .a, .a, .a, .a, .a, .a, .a, .a, .a, .a, .a, .a, .a, .a, .a, .a, .a, .a, .a, .a, .a, .a, .a, .a, .a, .a, .a, .a, .a, .a, .a, .a, .a, .a, .a, .a]) (fun i=>[some ⟨g,1,cl (eI .i64) (JN (Q0 ((List.range i).flatMap (Jea ms n)) ms))⟩]) 0 (Nat.zero_le _) (by simp(maxSteps:=999999)(disch:=omega)only[go_sem,zA,zM,zS,zE,zL];rfl) (J5.refl _) ?_
 intro i hi
 have hrs:=ZL (Jea ms n) i
 have hok:=fun R=>WN R hm
 have hlt:=fun R k=>(hok R).lt hn k
 have hll:=fun R:List (Nat×Nat)=>(V1 R ms).trans hm.len
 generalize hR:(List.range i).flatMap (Jea ms n)=R at hrs⊢
 simp(maxSteps:=999999)(disch:=omega)only[go_sem,zA,zM,zS,zE,zL]
 ((first|(with_reducible first|refine Jm ?_ ?_|refine Jj ?_ ?_|refine Jo ?_ ?_)|refine Jr ?_ ?_)<;>intro h1)
 · have h1:i<2*n:=by omega
   simp(maxSteps:=999999)(disch:=omega)only[go_sem,zA,zM,zS,zE,zL]
   refine JO (fun u:Nat=>n -u) (fun u=>u≤n) (fun u=>[.k, .k, .a, .a, .a, .k, .k, .p (int ((u:Int)+1)), .a, .a, .a, .a, .a, .a, .a, .a, .a, .a, .a, .k, .k, .a, .a, .a, .a, .a, .a, .a, .a, .a, .a, .a, .a, .a, .a, .a, .a, .a, .a, .a, .a, .a, .a, .a, .a, .a, .a, .a, .a, .a, .a, .a, .a, .a, .a, .a, .a, .a, .a, .a]) (fun u=>[some ⟨g,1,cl (eI .i64) (JN (Q0 (R++(List.range u).flatMap (Jbu ms n i)) ms))⟩]) 0 (Nat.zero_le _) (by simp(maxSteps:=999999)(disch:=omega)only[go_sem,zA,zM,zS,zE,zL];rfl) (by simp only[List.range_zero,List.flatMap_nil,Jt];exact J5.refl _) ?_
   intro u hu
   have hks:=ZL (Jbu ms n i) u
   have hV:Jbu ms n i u=if(WL ms n i (u+1) n).1=1 then[((WL ms n i (u+1) n).2,31^^^2^(u+1))]else[]:=rfl
   generalize hS:(List.range u).flatMap (Jbu ms n i)=S at hks⊢
   simp(maxSteps:=999999)(disch:=omega)only[go_sem,zA,zM,zS,zE,zL]
   ((first|(with_reducible first|refine Jm ?_ ?_|refine Jj ?_ ?_|refine Jo ?_ ?_)|refine Jr ?_ ?_)<;>intro h3)
   · have h3:u<n:=by omega
     simp(maxSteps:=999999)(disch:=omega)only[go_sem,zA,zM,zS,zE,zL]
     first|refine JU.mk (UC hn h1) (⟨_,Tryz.func124,rfl,rfl⟩:Jg Tryz.prog 124) rfl rfl rfl rfl rfl ?_|refine JG.mk (UC hn h1) (⟨_,Tryz.func124,rfl,rfl⟩:Jg Tryz.prog 124) rfl rfl rfl rfl rfl ?_
     simp(maxSteps:=999999)(disch:=omega)only[go_sem,zA,zM,zS,zE,zL]
     have hlc:=Z7 n i
     refine JO (fun k:Nat=>n -k) (fun k=>k≤n) (fun k=>[.k, .k, .a, .a, .a, .k, .k, .k, .p (int ((WL ms n i (u+1) k).2:Nat)), .p (int ((WL ms n i (u+1) k).1:Nat)), .a, .a, .a, .a, .a, .a, .a, .a, .a, .k, .k, .a, .a, .a, .a, .a, .a, .a, .a, .a, .k, .k, .p (int k), .a, .a, .a, .a, .a, .a, .a, .a, .a, .a, .a, .a, .a, .a, .a, .a, .a, .a, .a, .a, .a, .a, .a, .a, .a, .a, .a]) (fun k=>[some ⟨g,1,cl (eI .i64) (JN (Q0 (R++S) ms))⟩]) 0 (Nat.zero_le _) (by simp(maxSteps:=999999)(disch:=omega)only[go_sem,zA,zM,zS,zE,zL];exact⟨rfl,rfl,rfl⟩) (J5.refl _) ?_
     intro k hk
     simp(maxSteps:=999999)(disch:=omega)only[go_sem,zA,zM,zS,zE,zL]
     ((first|(with_reducible first|refine Jm ?_ ?_|refine Jj ?_ ?_|refine Jo ?_ ?_)|refine Jr ?_ ?_)<;>intro h4)
     · skip
       have h4:k<n:=by omega
       obtain⟨hc1,hc2⟩:=Xb hn h1 h4
       have hk1:WL ms n i (u+1) (k+1)=if(QH ms (Vs n i k)).testBit (u+1)=true then((WL ms n i (u+1) k).1+1,Vs n i k)else WL ms n i (u+1) k:=rfl
       generalize Vs n i k=c at hc1 hc2 hk1
       have hmc:=Q4 ms c
       have hmc2:=hm.lt hn c
       have hsr:=XJ (s:=QH ms c) (v:=(u:Int)+1) (by omega)
       have hcle:=Jbv ms n i (u+1) k
       rw[show((u:Int)+1).toNat=u+1 by omega]at hsr
       have hab:=Jfu (m:=QH ms c) (k:=u+1) (by omega)
       simp(maxSteps:=999999)(disch:=omega)only[go_sem,zA,zM,zS,zE,zL,hc2,hmc,hsr,hab]
       cases htb:(QH ms c).testBit (u+1)with
       |true=>
        rw[htb,if_pos rfl]at hk1
        simp(maxSteps:=999999)(disch:=omega)only[go_sem,zA,zM,zS,zE,zL]
        exact⟨k+1,⟨by omega,by omega⟩,⟨by rw[hk1],by rw[hk1];push_cast;rfl,by push_cast;rfl⟩,J5.refl _⟩
       |false=>
        rw[htb,if_neg (by decide)]at hk1
        simp(maxSteps:=999999)(disch:=omega)only[go_sem,zA,zM,zS,zE,zL]
        exact⟨k+1,⟨by omega,by omega⟩,⟨by rw[hk1],by rw[hk1],by push_cast;rfl⟩,J5.refl _⟩
     · have hke:k=n:=by omega
       rw[hke]
       have hat:=Jbw (ms:=ms) (v:=u+1) hn h1 n (Nat.le_refl _)
       generalize WL ms n i (u+1) n=q at hV hat⊢
       obtain⟨many,at_⟩:=q
       simp only at hV hat⊢
       generalize hQ:R++S=Q
       have hQn:=Q4 (Q0 Q ms) at_
       have hQl:(JN (Q0 Q ms)).length=n*n:=by rw[Qm];exact hll Q
       have hQc:Uv .and .i64 ((QH (Q0 Q ms) at_:Nat):Int) ((2^(u+1):Nat):Int)=((Bv (QH (Q0 Q ms) at_) (31^^^2^(u+1)):Nat):Int):=JaR (by have:=(hlt Q at_).1;omega) (by omega)
       have hsh:=Uz (v:=(u:Int)+1) (by omega)
       rw[show((u:Int)+1).toNat=u+1 by omega]at hsh
       simp(maxSteps:=999999)(disch:=omega)only[go_sem,zA,zM,zS,zE,zL]
       ((first|(with_reducible first|refine Jm ?_ ?_|refine Jj ?_ ?_|refine Jo ?_ ?_)|refine Jr ?_ ?_)<;>intro h5)
       · have h5:many=1:=by omega
         rw[if_pos h5]at hV
         simp(maxSteps:=999999)(disch:=omega)only[go_sem,zA,zM,zS,zE,zL]
         refine Ug [0,1,2,3,4,5] [] none [6,7,8] [] ZE (by kernel_rfl) ?_
         simp(maxSteps:=999999)(disch:=omega)only[go_sem,Nat.reduceBEq,Bool.true_or,zA,zM,zS,zE,zL]
         simp(maxSteps:=999999)(disch:=omega)only[go_sem,zA,zM,zS,zE,zL,hQn,hQl,hQc,hsh]
         refine⟨u+1,⟨by omega,by omega⟩,by push_cast;rfl, ?_⟩
         rw[hks,hV,←JW,hQ,Wx,←Vr,←hQc]
         exact J5.refl _
       · rw[if_neg (by omega)]at hV
         simp(maxSteps:=999999)(disch:=omega)only[go_sem,zA,zM,zS,zE,zL]
         exact⟨u+1,⟨by omega,by omega⟩,by push_cast;rfl,by rw[hks,hV,Jt,hQ];exact J5.refl _⟩
   · have hke:u=n:=by omega
     rw[hke]at hS
     simp(maxSteps:=999999)(disch:=omega)only[go_sem,zA,zM,zS,zE,zL]
     exact⟨i+1,⟨by omega,by omega⟩,by push_cast;rfl,by rw[hrs,←hS];exact J5.refl _⟩
 · have hie:i=2*n:=by omega
   rw[hie]at hR
   have hM:Q0 R ms=G6 ms n:=by rw[←hR];rfl
   have hl2:(JN (G6 ms n)).length=n*n:=by rw[Qm,←hM];exact hll R
   rw[hM]
   simp(maxSteps:=999999)(disch:=omega)only[go_sem,zA,zM,zS,zE,zL]
   rw[←hl2]
   exact ZK (E:=eI .i64) (n:=1) (J5.refl _)
set_option maxHeartbeats 4000000 in
theorem RL{n:Nat}(hn:n=2∨n=3∨n=4)(ms:List Nat)(hm:XG ms n):JM Tryz.prog 133 [QF (JN ms),int n] (QF (JN (G6 ms n))):=by
 have hsq:4≤n*n∧n*n≤16:=by rcases hn with rfl|rfl|rfl<;>omega
 have hl:(JN ms).length=n*n:=by rw[Qm];exact hm.len
 have hn4:2≤n∧n≤4:=by omega
 refine JM.own ?_
 refine Jk.cw (c:=_) Tryz.func133 rfl (n:=69) Tryz.ntmps133 (rs:=[.tmp 4]) rfl ?_
 simp only[Ja,Je,zA,zS,Jf,Jb,Jd]
 simp(maxSteps:=999999)(disch:=omega)only[go_sem,zA,zM,zS,zE,zL]
 first|refine JU.rd (Ze hn (JN ms) hm.ok) (⟨_,Tryz.func131,rfl,rfl⟩:Jg Tryz.prog 131) rfl rfl rfl rfl ?_|refine JG.rd (Ze hn (JN ms) hm.ok) (⟨_,Tryz.func131,rfl,rfl⟩:Jg Tryz.prog 131) rfl rfl rfl rfl ?_
 simp(maxSteps:=999999)(disch:=omega)only[go_sem,zA,zM,zS,zE,zL]
 refine JU.mkQ (Yk (JN ms) (by omega) (by intro h;rw[h]at hl;simp at hl;omega)) (⟨_,Tryz.func153,rfl,rfl⟩:Jg Tryz.prog 153) rfl rfl rfl ?_
 rintro _ _ ⟨g,rfl,rfl⟩
 refine⟨rfl, ?_⟩
 simp(maxSteps:=999999)(disch:=omega)only[go_sem,zA,zM,zS,zE,zL]
 rw[hl]
 refine JO (fun i:Nat=>2*n -i) (fun i=>i≤2*n) (fun i=>[.k, .k, .a, .a, .a, .k, .p (int i), .a, .a, .a, .a, .a, .a, .a, .a, .a, .a, .a, .a, .a, .a, .a, .a, .a, .a, .a, .a, .a, .a, .a, .a, .a, .a, .a, .a, .a, .a, .a, .a, .a, .a, .a, .a, .a, .a, .a, .a, .a, .a, .a, .a, .a, .a, .a, .a, .a, .a, .a, .a, .a, .a, .a, .a, .a, .a, .a, .a, .a, .a]) (fun i=>[some ⟨g,1,cl (eI .i64) (JN (Q0 ((List.range i).flatMap (Jea ms n)) ms))⟩]) 0 (Nat.zero_le _) (by simp(maxSteps:=999999)(disch:=omega)only[go_sem,zA,zM,zS,zE,zL];rfl) (J5.refl _) ?_
 intro i hi
 have hrs:=ZL (Jea ms n) i
 have hok:=fun R=>WN R hm
 have hlt:=fun R k=>(hok R).lt hn k
 have hll:=fun R:List (Nat×Nat)=>(V1 R ms).trans hm.len
 generalize hR:(List.range i).flatMap (Jea ms n)=R at hrs⊢
 simp(maxSteps:=999999)(disch:=omega)only[go_sem,zA,zM,zS,zE,zL]
 ((first|(with_reducible first|refine Jm ?_ ?_|refine Jj ?_ ?_|refine Jo ?_ ?_)|refine Jr ?_ ?_)<;>intro h1)
 · have h1:i<2*n:=by omega
   have hlc:=Z7 n i
   simp(maxSteps:=999999)(disch:=omega)only[go_sem,zA,zM,zS,zE,zL]
   first|refine JU.mk (UY hn h1) (⟨_,Tryz.func154,rfl,rfl⟩:Jg Tryz.prog 154) rfl rfl rfl rfl rfl ?_|refine JG.mk (UY hn h1) (⟨_,Tryz.func154,rfl,rfl⟩:Jg Tryz.prog 154) rfl rfl rfl rfl rfl ?_
   simp(maxSteps:=999999)(disch:=omega)only[go_sem,zA,zM,zS,zE,zL]
   refine JO (fun u:Nat=>n -u) (fun u=>u≤n) (fun u=>[.k, .k, .a, .a, .a, .k, .k, .k, .p (int ((u:Int)+1)), .a, .a, .a, .a, .a, .a, .a, .a, .a, .a, .a, .a, .a, .a, .a, .a, .a, .a, .a, .a, .a, .a, .a, .a, .a, .a, .a, .a, .a, .a, .a, .a, .a, .a, .a, .a, .a, .a, .a, .a, .a, .a, .a, .a, .a, .a, .a, .a, .a, .a, .a, .a, .a, .a, .a, .a, .a, .a, .a, .a]) (fun u=>[some ⟨g,1,cl (eI .i64) (JN (Q0 (R++(List.range u).flatMap (Jbu ms n i)) ms))⟩]) 0 (Nat.zero_le _) (by simp(maxSteps:=999999)(disch:=omega)only[go_sem,zA,zM,zS,zE,zL];rfl) (by simp only[List.range_zero,List.flatMap_nil,Jt];exact J5.refl _) ?_
   intro u hu
   have hks:=ZL (Jbu ms n i) u
   have hV:Jbu ms n i u=if(WL ms n i (u+1) n).1=1 then[((WL ms n i (u+1) n).2,31^^^2^(u+1))]else[]:=rfl
   generalize hS:(List.range u).flatMap (Jbu ms n i)=S at hks⊢
   simp(maxSteps:=999999)(disch:=omega)only[go_sem,zA,zM,zS,zE,zL]
   ((first|(with_reducible first|refine Jm ?_ ?_|refine Jj ?_ ?_|refine Jo ?_ ?_)|refine Jr ?_ ?_)<;>intro h3)
   · have h3:u<n:=by omega
     simp(maxSteps:=999999)(disch:=omega)only[go_sem,zA,zM,zS,zE,zL]
     refine JO (fun k:Nat=>n -k) (fun k=>k≤n) (fun k=>[.k, .k, .a, .a, .a, .k, .k, .k, .k, .p (int ((WL ms n i (u+1) k).1:Nat)), .p (int ((WL ms n i (u+1) k).2:Nat)), .p (int k), .a, .a, .a, .a, .a, .a, .a, .a, .a, .a, .a, .a, .a, .a, .a, .a, .a, .a, .a, .a, .a, .a, .a, .a, .a, .a, .a, .a, .a, .a, .a, .a, .a, .a, .a, .a, .a, .a, .a, .a, .a, .a, .a, .a, .a, .a, .a, .a, .a, .a, .a, .a, .a, .a, .a, .a, .a]) (fun k=>[some ⟨g,1,cl (eI .i64) (JN (Q0 (R++S) ms))⟩]) 0 (Nat.zero_le _) (by simp(maxSteps:=999999)(disch:=omega)only[go_sem,zA,zM,zS,zE,zL];exact⟨rfl,rfl,rfl⟩) (J5.refl _) ?_
     intro k hk
     simp(maxSteps:=999999)(disch:=omega)only[go_sem,zA,zM,zS,zE,zL]
     ((first|(with_reducible first|refine Jm ?_ ?_|refine Jj ?_ ?_|refine Jo ?_ ?_)|refine Jr ?_ ?_)<;>intro h4)
     · skip
       have h4:k<n:=by omega
       obtain⟨hc1,hc2⟩:=Xb hn h1 h4
       have hk1:WL ms n i (u+1) (k+1)=if(QH ms (Vs n i k)).testBit (u+1)=true then((WL ms n i (u+1) k).1+1,Vs n i k)else WL ms n i (u+1) k:=rfl
       generalize Vs n i k=c at hc1 hc2 hk1
       have hmc:=Q4 ms c
       have hmc2:=hm.lt hn c
       have hsr:=XJ (s:=QH ms c) (v:=(u:Int)+1) (by omega)
       have hcle:=Jbv ms n i (u+1) k
       rw[show((u:Int)+1).toNat=u+1 by omega]at hsr
       have hab:=JbK (s:=QH ms c) (k:=u+1)
       simp(maxSteps:=999999)(disch:=omega)only[go_sem,zA,zM,zS,zE,zL,hc2,hmc,hsr,hab]
       cases htb:(QH ms c).testBit (u+1)with
       |true=>
        rw[htb,if_pos rfl]at hk1
        simp(maxSteps:=999999)(disch:=omega)only[go_sem,zA,zM,zS,zE,zL]
        exact⟨k+1,⟨by omega,by omega⟩,⟨by rw[hk1];push_cast;rfl,by rw[hk1];exact hc2,by push_cast;rfl⟩,J5.refl _⟩
       |false=>
        rw[htb,if_neg (by decide)]at hk1
        simp(maxSteps:=999999)(disch:=omega)only[go_sem,zA,zM,zS,zE,zL]
        exact⟨k+1,⟨by omega,by omega⟩,⟨by rw[hk1],by rw[hk1],by push_cast;rfl⟩,J5.refl _⟩
     · have hke:k=n:=by omega
       rw[hke]
       have hat:=Jbw (ms:=ms) (v:=u+1) hn h1 n (Nat.le_refl _)
       generalize WL ms n i (u+1) n=q at hV hat⊢
       obtain⟨many,at_⟩:=q
       simp only at hV hat⊢
       generalize hQ:R++S=Q
       have hQn:=Q4 (Q0 Q ms) at_
       have hQl:(JN (Q0 Q ms)).length=n*n:=by rw[Qm];exact hll Q
       have hQc:Uv .and .i64 ((QH (Q0 Q ms) at_:Nat):Int) ((2^(u+1):Nat):Int)=((Bv (QH (Q0 Q ms) at_) (31^^^2^(u+1)):Nat):Int):=JaR (by have:=(hlt Q at_).1;omega) (by omega)
       have hsh:=Uz (v:=(u:Int)+1) (by omega)
       rw[show((u:Int)+1).toNat=u+1 by omega]at hsh
       simp(maxSteps:=999999)(disch:=omega)only[go_sem,zA,zM,zS,zE,zL]
       ((first|(with_reducible first|refine Jm ?_ ?_|refine Jj ?_ ?_|refine Jo ?_ ?_)|refine Jr ?_ ?_)<;>intro h5)
       · have h5:many=1:=by omega
         rw[if_pos h5]at hV
         simp(maxSteps:=999999)(disch:=omega)only[go_sem,zA,zM,zS,zE,zL]
         refine Ug [0,1,2,3,4,5,6,7,8] [] none [9,10] [] ZE (by kernel_rfl) ?_
         simp(maxSteps:=999999)(disch:=omega)only[go_sem,Nat.reduceBEq,Bool.true_or,zA,zM,zS,zE,zL]
         simp(maxSteps:=999999)(disch:=omega)only[go_sem,zA,zM,zS,zE,zL,hQn,hQl,hQc,hsh]
         refine⟨u+1,⟨by omega,by omega⟩,by push_cast;rfl, ?_⟩
         rw[hks,hV,←JW,hQ,Wx,←Vr,←hQc]
         exact J5.refl _
       · rw[if_neg (by omega)]at hV
         simp(maxSteps:=999999)(disch:=omega)only[go_sem,zA,zM,zS,zE,zL]
         exact⟨u+1,⟨by omega,by omega⟩,by push_cast;rfl,by rw[hks,hV,Jt,hQ];exact J5.refl _⟩
   · have hke:u=n:=by omega
     rw[hke]at hS
     simp(maxSteps:=999999)(disch:=omega)only[go_sem,zA,zM,zS,zE,zL]
     exact⟨i+1,⟨by omega,by omega⟩,by push_cast;rfl,by rw[hrs,←hS];exact J5.refl _⟩
 · have hie:i=2*n:=by omega
   rw[hie]at hR
   have hM:Q0 R ms=G6 ms n:=by rw[←hR];rfl
   have hl2:(JN (G6 ms n)).length=n*n:=by rw[Qm,←hM];exact hll R
   rw[hM]
   simp(maxSteps:=999999)(disch:=omega)only[go_sem,zA,zM,zS,zE,zL]
   rw[←hl2]
   exact ZK (E:=eI .i64) (n:=1) (J5.refl _)
end Go.Lg
