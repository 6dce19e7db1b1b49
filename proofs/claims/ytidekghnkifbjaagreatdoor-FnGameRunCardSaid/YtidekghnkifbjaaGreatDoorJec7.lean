/- GpMC, GpMD, cut to what is needed. -/
import Derived.Test.YtidekghnkifbjaaGreatDoorJec6
import Derived.Test.YtidekghnkifbjaaGreatDoorJec5
open List renaming cons_append → Jb, nil_append → Jc, replicate → Jd, length_cons → Je, length_nil → Jf, append_assoc → Jt, append_nil → Ju
open Nat renaming reduceAdd→zA,reduceMul→zM,reduceSub→zS,reduceEqDiff→zE,reduceLeDiff→zL
set_option linter.unusedSimpArgs false
set_option linter.unusedVariables false
set_option maxRecDepth 100000
namespace Go.Lg
open Go.Proofs
set_option maxHeartbeats 4000000 in
theorem BY{n:Nat}(hn:n=2∨n=3∨n=4)(ms:List Nat)(hm:XT ms n):JW Tryz.prog 137 [QO (JQ ms),int n] (QO (JQ (Jah ms n))):=by
 have hsq:4≤n*n∧n*n≤16:=by rcases hn with rfl|rfl|rfl<;>omega
 have hl:(JQ ms).length=n*n:=by rw[Qq];exact hm.len
 refine JW.own ?_
 refine Jn.cw (c:=_) Tryz.func137 rfl (n:=65) Tryz.ntmps137 (rs:=[.tmp 4]) rfl ?_
 simp only[Je,Jf,zA,zS,Jd,Jb,Jc]
 simp(maxSteps:=999999)(disch:=omega)only[go_sem,zA,zM,zS,zE,zL]
 first|refine JZ.rd (ZU hn ms hm) (⟨_,Tryz.func156,rfl,rfl⟩:Ji Tryz.prog 156) rfl rfl rfl rfl ?_|refine JK.rd (ZU hn ms hm) (⟨_,Tryz.func156,rfl,rfl⟩:Ji Tryz.prog 156) rfl rfl rfl rfl ?_
 simp(maxSteps:=999999)(disch:=omega)only[go_sem,zA,zM,zS,zE,zL]
 refine JZ.mkQ (GB (JQ ms) (by omega) (by intro h;rw[h]at hl;simp at hl;omega)) (⟨_,Tryz.func89,rfl,rfl⟩:Ji Tryz.prog 89) rfl rfl rfl ?_
 rintro _ _ ⟨g,rfl,rfl⟩
 refine⟨rfl, ?_⟩
 simp(maxSteps:=999999)(disch:=omega)only[go_sem,zA,zM,zS,zE,zL]
 rw[hl]
 refine JY (fun i:Nat=>n*n -i) (fun i=>i≤n*n) (fun i=>[.a, .k, .a, .a, .a, .k, .a, .a, .a, .a, .a, .a, .a, .a, .a, .a, .a, .k, .k, .p (int i), .a, .a, .a, .a, .a, .a, .a, .a, .a, .a, .a, .a, .a, .a, .a, .a, .a, .a, .a, .a, .a, .a, .a, .a, .a, .a, .a, .a, .a, .a, .a, .a, .a, .a, .a, .a, .a, .a, .a, .a, .a, .a, .a, .a, .a]) (fun i=>[some ⟨g,1,cl (eI .i64) (JQ (Ze ((List.range i).flatMap (JcF ms n)) ms))⟩]) 0 (Nat.zero_le _) (by simp(maxSteps:=999999)(disch:=omega)only[go_sem,zA,zM,zS,zE,zL];rfl) (J0.refl _) ?_
 intro i hi
 have hrs:=ZW (JcF ms n) i
 have hok:=fun R=>W0 R hm
 have hlt:=fun R k=>(hok R).lt hn k
 have hll:=fun R:List (Nat×Nat)=>(V7 R ms).trans hm.len
 generalize hR:(List.range i).flatMap (JcF ms n)=R at hrs⊢
 simp(maxSteps:=999999)(disch:=omega)only[go_sem,zA,zM,zS,zE,zL]
 ((first|(with_reducible first|refine Jl ?_ ?_|refine Jj ?_ ?_|refine Jp ?_ ?_)|refine Jr ?_ ?_)<;>intro h1)
 · have h1:i<n*n:=by omega
   have hmi:=hm.lt hn i
   have hni:=Zf ms i
   simp(maxSteps:=999999)(disch:=omega)only[go_sem,zA,zM,zS,zE,zL,hni]
   first|refine JZ.rd (Wv (QL ms i) hmi.1) (⟨_,Tryz.func81,rfl,rfl⟩:Ji Tryz.prog 81) rfl rfl rfl rfl ?_|refine JK.rd (Wv (QL ms i) hmi.1) (⟨_,Tryz.func81,rfl,rfl⟩:Ji Tryz.prog 81) rfl rfl rfl rfl ?_
   simp(maxSteps:=999999)(disch:=omega)only[go_sem,zA,zM,zS,zE,zL]
   ((first|(with_reducible first|refine Jl ?_ ?_|refine Jj ?_ ?_|refine Jp ?_ ?_)|refine Jr ?_ ?_)<;>intro h2)
   · have h2:Zi (QL ms i)=0:=by exact_mod_cast h2
     have hA:JcF ms n i=[]:=if_pos h2
     rw[hA,Ju]at hrs
     simp(maxSteps:=999999)(disch:=omega)only[go_sem,zA,zM,zS,zE,zL]
     exact⟨i+1,⟨by omega,by omega⟩,by push_cast;rfl,by rw[hrs];exact J0.refl _⟩
   · have h2:Zi (QL ms i)≠0:=fun h=>h2 (by rw[h];rfl)
     have hA:JcF ms n i=(List.range n).flatMap (Jai ms n i):=if_neg h2
     rw[hA]at hrs
     clear hA
     obtain⟨d,hd⟩:∃d,d=i/n:=⟨_,rfl⟩
     obtain⟨e,he⟩:∃e,e=i%n:=⟨_,rfl⟩
     have hid:(i:Int).tdiv (n:Int)=((d:Nat):Int):=by rw[hd];rfl
     have him:(i:Int).tmod (n:Int)=((e:Nat):Int):=by rw[he];rfl
     have hd2:d<n:=by rw[hd,Nat.div_lt_iff_lt_mul (by omega)];exact h1
     have he2:e<n:=by rw[he];exact Nat.mod_lt _ (by omega)
     simp(maxSteps:=999999)(disch:=omega)only[go_sem,zA,zM,zS,zE,zL]
     refine JY (fun k:Nat=>n -k) (fun k=>k≤n) (fun k=>[.a, .k, .a, .a, .a, .k, .k, .k, .a, .a, .a, .a, .a, .a, .a, .a, .a, .k, .k, .k, .a, .a, .a, .a, .a, .a, .a, .k, .p (int k), .a, .a, .a, .a, .a, .a, .a, .a, .a, .a, .a, .a, .a, .a, .a, .a, .a, .a, .a, .a, .a, .a, .a, .a, .a, .a, .a, .a, .a, .a, .a, .a, .a, .a, .a, .a]) (fun k=>[some ⟨g,1,cl (eI .i64) (JQ (Ze (R++(List.range k).flatMap (Jai ms n i)) ms))⟩]) 0 (Nat.zero_le _) (by simp(maxSteps:=999999)(disch:=omega)only[go_sem,zA,zM,zS,zE,zL];rfl) (by simp only[List.range_zero,List.flatMap_nil,Ju];exact J0.refl _) ?_
     intro k hk
     have hks:=ZW (Jai ms n i) k
     have hkd:Jai ms n i k=WA ms n i (d*n+k)++WA ms n i (k*n+e):=by rw[hd,he];rfl
     generalize hS:(List.range k).flatMap (Jai ms n i)=S at hks⊢
     simp(maxSteps:=999999)(disch:=omega)only[go_sem,zA,zM,zS,zE,zL]
     ((first|(with_reducible first|refine Jl ?_ ?_|refine Jj ?_ ?_|refine Jp ?_ ?_)|refine Jr ?_ ?_)<;>intro h3)
     · have h3:k<n:=by omega
       have hb:(d*n+k<n*n∧d*n≤16)∧(k*n+e<n*n∧k*n≤16):=by rcases hn with rfl|rfl|rfl<;>omega
       have hb1:0≤(d:Int)*n∧(d:Int)*n≤16:=by have:=hb.1.2;exact⟨by omega,by exact_mod_cast this⟩
       have hb2:0≤(k:Int)*n∧(k:Int)*n≤16:=by have:=hb.2.2;exact⟨by omega,by exact_mod_cast this⟩
       simp(maxSteps:=999999)(disch:=omega)only[go_sem,zA,zM,zS,zE,zL]
       refine Ui [0,1,2,3,4,5,6,7,8,9,10,11,12,13,16,14,15] [] none [] [] Zd (by kernel_rfl) ?_
       simp(maxSteps:=999999)(disch:=omega)only[go_sem,Nat.reduceBEq,Bool.true_or,zA,zM,zS,zE,zL]
       intro g2
       have hw1:IntKind.i64.wrap (IntKind.i64.wrap ((d:Int)*n)+k)=((d*n+k:Nat):Int):=by
        rw[Ku (n:=(d:Int)*n) (by omega),Ku (by omega)]
        push_cast
        rfl
       have hw2:(k:Int)*n+(e:Int)=((k*n+e:Nat):Int):=by push_cast;rfl
       rw[hid,him,hw1,hw2]
       have hba:=hb.1.1
       have hbb:=hb.2.1
       clear hw1 hw2 hb1 hb2 hb
       generalize d*n+k=a at hkd hba⊢
       generalize k*n+e=b at hkd hbb⊢
       refine JY (fun j:Nat=>2 -j) (fun j=>j≤2) (fun j=>[.a, .k, .a, .a, .a, .k, .k, .k, .a, .a, .a, .a, .a, .a, .a, .a, .a, .k, .k, .k, .a, .a, .a, .a, .a, .a, .a, .k, .k, .a, .a, .a, .a, .a, .a, .a, .a, .a, .a, .a, .a, .a, .a, .a, .a, .k, .k, .p (int j), .a, .a, .a, .a, .a, .a, .a, .a, .a, .a, .a, .a, .a, .a, .a, .a, .a]) (fun j=>[some ⟨g,1,cl (eI .i64) (JQ (Ze (R++(S++([WA ms n i a,WA ms n i b].take j).flatten)) ms))⟩,some ⟨g2,1,[.f (.int .i64 (a:Int)), .f (.int .i64 (b:Int))]⟩]) 0 (Nat.zero_le _) (by simp(maxSteps:=999999)(disch:=omega)only[go_sem,zA,zM,zS,zE,zL];rfl) (by simp only[List.take_zero,List.flatten_nil,Ju];exact J0.refl _) ?_
       intro j hj
       simp(maxSteps:=999999)(disch:=omega)only[go_sem,zA,zM,zS,zE,zL]
       ((first|(with_reducible first|refine Jl ?_ ?_|refine Jj ?_ ?_|refine Jp ?_ ?_)|refine Jr ?_ ?_)<;>intro h4)
       · have h4:j=0∨j=1:=by omega
         rcases h4 with rfl|rfl
         · skip
           have hld:ldP (some ⟨g2,1,[.f (.int .i64 (a:Int)), .f (.int .i64 (b:Int))]⟩) (0+((0:Nat):Int).toNat*1)=some (int a):=rfl
           obtain⟨Z,hZ⟩:∃Z,Z=WA ms n i a:=⟨_,rfl⟩
           have hX:R++(S++([WA ms n i a,WA ms n i b].take (0+1)).flatten)=(R++(S++([WA ms n i a,WA ms n i b].take 0).flatten))++Z:=by rw[hZ];simp
           generalize R++(S++([WA ms n i a,WA ms n i b].take 0).flatten)=Q at hX⊢
           have hQn:=Zf (Ze Q ms) a
           have hQl:(JQ (Ze Q ms)).length=n*n:=by rw[Qq];exact hll Q
           have hQc:Uq .andNot .i64 ((QL (Ze Q ms) a:Nat):Int) ((QL ms i:Nat):Int)=((B1 (QL (Ze Q ms) a) (QL ms i):Nat):Int):=Vv (by have:=(hlt Q a).1;omega) (by omega)
           have hQs:=fun v:Nat=>Vz (b:=Ze Q ms) (k:=a) (v:=v) (by rw[hll Q];omega)
           simp(maxSteps:=999999)(disch:=omega)only[go_sem,zA,zM,zS,zE,zL,hld]
           ((first|(with_reducible first|refine Jl ?_ ?_|refine Jj ?_ ?_|refine Jp ?_ ?_)|refine Jr ?_ ?_)<;>intro h5)
           · have hA:Z=[]:=hZ.trans (if_pos (by omega))
             rw[hA,Ju]at hX
             simp(maxSteps:=999999)(disch:=omega)only[go_sem,zA,zM,zS,zE,zL]
             exact⟨0+1,⟨by omega,by omega⟩,rfl,by rw[hX];exact J0.refl _⟩
           · have hA:Z=[(a,QL ms i)]:=hZ.trans (if_neg (by omega))
             rw[hA]at hX
             simp(maxSteps:=999999)(disch:=omega)only[go_sem,zA,zM,zS,zE,zL,hQn,hQl,hQc,hQs]
             exact⟨0+1,⟨by omega,by omega⟩,rfl,by rw[hX,WI];exact J0.refl _⟩
         · skip
           have hld:ldP (some ⟨g2,1,[.f (.int .i64 (a:Int)), .f (.int .i64 (b:Int))]⟩) (0+((1:Nat):Int).toNat*1)=some (int b):=rfl
           obtain⟨Z,hZ⟩:∃Z,Z=WA ms n i b:=⟨_,rfl⟩
           have hX:R++(S++([WA ms n i a,WA ms n i b].take (1+1)).flatten)=(R++(S++([WA ms n i a,WA ms n i b].take 1).flatten))++Z:=by rw[hZ];simp
           generalize R++(S++([WA ms n i a,WA ms n i b].take 1).flatten)=Q at hX⊢
           have hQn:=Zf (Ze Q ms) b
           have hQl:(JQ (Ze Q ms)).length=n*n:=by rw[Qq];exact hll Q
           have hQc:Uq .andNot .i64 ((QL (Ze Q ms) b:Nat):Int) ((QL ms i:Nat):Int)=((B1 (QL (Ze Q ms) b) (QL ms i):Nat):Int):=Vv (by have:=(hlt Q b).1;omega) (by omega)
           have hQs:=fun v:Nat=>Vz (b:=Ze Q ms) (k:=b) (v:=v) (by rw[hll Q];omega)
           simp(maxSteps:=999999)(disch:=omega)only[go_sem,zA,zM,zS,zE,zL,hld]
           ((first|(with_reducible first|refine Jl ?_ ?_|refine Jj ?_ ?_|refine Jp ?_ ?_)|refine Jr ?_ ?_)<;>intro h5)
           · have hA:Z=[]:=hZ.trans (if_pos (by omega))
             rw[hA,Ju]at hX
             simp(maxSteps:=999999)(disch:=omega)only[go_sem,zA,zM,zS,zE,zL]
             exact⟨1+1,⟨by omega,by omega⟩,rfl,by rw[hX];exact J0.refl _⟩
           · have hA:Z=[(b,QL ms i)]:=hZ.trans (if_neg (by omega))
             rw[hA]at hX
             simp(maxSteps:=999999)(disch:=omega)only[go_sem,zA,zM,zS,zE,zL,hQn,hQl,hQc,hQs]
             exact⟨1+1,⟨by omega,by omega⟩,rfl,by rw[hX,WI];exact J0.refl _⟩
       · have hje:j=2:=by omega
         subst hje
         have hX:R++(List.range (k+1)).flatMap (Jai ms n i)=R++(S++([WA ms n i a,WA ms n i b].take 2).flatten):=by rw[hks,hkd];simp
         generalize R++(S++([WA ms n i a,WA ms n i b].take 2).flatten)=Q at hX⊢
         simp(maxSteps:=999999)(disch:=omega)only[go_sem,zA,zM,zS,zE,zL]
         exact⟨k+1,⟨by omega,by omega⟩,by push_cast;rfl,Z4 (by rw[hX]) (Qu _)⟩
     · have hke:k=n:=by omega
       rw[hke]at hS
       simp(maxSteps:=999999)(disch:=omega)only[go_sem,zA,zM,zS,zE,zL]
       exact⟨i+1,⟨by omega,by omega⟩,by push_cast;rfl,by rw[hrs,hS];exact J0.refl _⟩
 · have hie:i=n*n:=by omega
   rw[hie]at hR
   have hM:Ze R ms=Jah ms n:=by rw[←hR];rfl
   have hl2:(JQ (Jah ms n)).length=n*n:=by rw[Qq,←hM];exact hll R
   rw[hM]
   simp(maxSteps:=999999)(disch:=omega)only[go_sem,zA,zM,zS,zE,zL]
   rw[←hl2]
   exact ZO (E:=eI .i64) (n:=1) (J0.refl _)
theorem YH(xs:List Int)(hx:xs.length≤2^40)(h0:xs≠[]):Jn Tryz.prog 153 [QO xs] [] (G6 (eI .i64) 1 xs):=by
 have hp:0<xs.length:=List.length_pos_iff.2 h0
 refine Jn.cw (c:=_) Tryz.func153 rfl (n:=6) Tryz.ntmps153 (rs:=[.tmp 2]) rfl ?_
 simp only[Je,Jf,zA,zS,Jd,Jb,Jc]
 simp(maxSteps:=999999)(disch:=omega)only[go_sem,zA,zM,zS,zE,zL]
 intro g g'
 rw[Nat.zero_add]
 exact ZO (E:=eI .i64) (n:=1) (J0.refl _)
set_option maxHeartbeats 4000000 in
theorem RJ{n:Nat}(hn:n=2∨n=3∨n=4)(ms:List Nat)(hm:XT ms n):JW Tryz.prog 132 [QO (JQ ms),int n] (QO (JQ (Jah ms n))):=by
 have hsq:4≤n*n∧n*n≤16:=by rcases hn with rfl|rfl|rfl<;>omega
 have hl:(JQ ms).length=n*n:=by rw[Qq];exact hm.len
 rw[←Jh4 hn hm]
 refine JW.own ?_
 refine Jn.cw (c:=_) Tryz.func132 rfl (n:=68) Tryz.ntmps132 (rs:=[.tmp 4]) rfl ?_
 simp only[Je,Jf,zA,zS,Jd,Jb,Jc]
 simp(maxSteps:=999999)(disch:=omega)only[go_sem,zA,zM,zS,zE,zL]
 first|refine JZ.rd (Zr hn (JQ ms) hm.ok) (⟨_,Tryz.func131,rfl,rfl⟩:Ji Tryz.prog 131) rfl rfl rfl rfl ?_|refine JK.rd (Zr hn (JQ ms) hm.ok) (⟨_,Tryz.func131,rfl,rfl⟩:Ji Tryz.prog 131) rfl rfl rfl rfl ?_
 simp(maxSteps:=999999)(disch:=omega)only[go_sem,zA,zM,zS,zE,zL]
 refine JZ.mkQ (YH (JQ ms) (by omega) (by intro h;rw[h]at hl;simp at hl;omega)) (⟨_,Tryz.func153,rfl,rfl⟩:Ji Tryz.prog 153) rfl rfl rfl ?_
 rintro _ _ ⟨g,rfl,rfl⟩
 refine⟨rfl, ?_⟩
 simp(maxSteps:=999999)(disch:=omega)only[go_sem,zA,zM,zS,zE,zL]
 rw[hl]
 refine JY (fun i:Nat=>n*n -i) (fun i=>i≤n*n) (fun i=>[.k, .k, .a, .a, .a, .k, .p (int i), .a, .a, .a, .a, .a, .a, .a, .a, .a, .a, .a, .a, .a, .a, .a, .a, .a, .a, .a, .a, .a, .a, .a, .a, .a, .a, .a, .a, .a, .a, .a, .a, .a, .a, .a, .a, .a, .a, .a, .a, .a, .a, .a, .a, .a, .a, .a, .a, .a, .a, .a, .a, .a, .a, .a, .a, .a, .a, .a, .a, .a]) (fun i=>[some ⟨g,1,cl (eI .i64) (JQ (Ze ((List.range i).flatMap (JcE ms n)) ms))⟩]) 0 (Nat.zero_le _) (by simp(maxSteps:=999999)(disch:=omega)only[go_sem,zA,zM,zS,zE,zL];rfl) (J0.refl _) ?_
 intro i hi
 have hrs:=ZW (JcE ms n) i
 have hok:=fun R=>W0 R hm
 have hlt:=fun R k=>(hok R).lt hn k
 have hll:=fun R:List (Nat×Nat)=>(V7 R ms).trans hm.len
 generalize hR:(List.range i).flatMap (JcE ms n)=R at hrs⊢
 simp(maxSteps:=999999)(disch:=omega)only[go_sem,zA,zM,zS,zE,zL]
 ((first|(with_reducible first|refine Jl ?_ ?_|refine Jj ?_ ?_|refine Jp ?_ ?_)|refine Jr ?_ ?_)<;>intro h1)
 · have h1:i<n*n:=by omega
   have hmi:=hm.lt hn i
   have hni:=Zf ms i
   have hmv:=RP hmi
   simp(maxSteps:=999999)(disch:=omega)only[go_sem,zA,zM,zS,zE,zL,hni]
   first|refine JZ.mk (Uc (QL ms i) hmi) (⟨_,Tryz.func106,rfl,rfl⟩:Ji Tryz.prog 106) rfl rfl rfl rfl rfl ?_|refine JK.mk (Uc (QL ms i) hmi) (⟨_,Tryz.func106,rfl,rfl⟩:Ji Tryz.prog 106) rfl rfl rfl rfl rfl ?_
   simp(maxSteps:=999999)(disch:=omega)only[go_sem,zA,zM,zS,zE,zL]
   ((first|(with_reducible first|refine Jl ?_ ?_|refine Jj ?_ ?_|refine Jp ?_ ?_)|refine Jr ?_ ?_)<;>intro h2)
   rotate_left
   · have h2:Zi (QL ms i)=0:=by
      by_cases h:Zi (QL ms i)=0
      · exact h
      · exact absurd (hmv.1.2 h) (by omega)
     have hA:JcE ms n i=[]:=if_pos h2
     rw[hA,Ju]at hrs
     simp(maxSteps:=999999)(disch:=omega)only[go_sem,zA,zM,zS,zE,zL]
     exact⟨i+1,⟨by omega,by omega⟩,by push_cast;rfl,by rw[hrs];exact J0.refl _⟩
   · have h2:Zi (QL ms i)≠0:=hmv.1.1 (by omega)
     have hA:JcE ms n i=(List.range (n*n)).flatMap (GR ms n i):=if_neg h2
     rw[hA]at hrs
     clear hA
     simp(maxSteps:=999999)(disch:=omega)only[go_sem,zA,zM,zS,zE,zL]
     refine JY (fun j:Nat=>n*n -j) (fun j=>j≤n*n) (fun j=>[.k, .k, .a, .a, .a, .k, .k, .p (int j), .a, .a, .a, .a, .a, .a, .a, .a, .a, .a, .a, .a, .a, .a, .a, .a, .a, .a, .a, .a, .a, .a, .a, .a, .a, .a, .a, .a, .a, .a, .a, .a, .a, .a, .a, .a, .a, .a, .a, .a, .a, .a, .a, .a, .a, .a, .a, .a, .a, .a, .a, .a, .a, .a, .a, .a, .a, .a, .a, .a]) (fun j=>[some ⟨g,1,cl (eI .i64) (JQ (Ze (R++(List.range j).flatMap (GR ms n i)) ms))⟩]) 0 (Nat.zero_le _) (by simp(maxSteps:=999999)(disch:=omega)only[go_sem,zA,zM,zS,zE,zL];rfl) (by simp only[List.range_zero,List.flatMap_nil,Ju];exact J0.refl _) ?_
     intro j hj
     have hks:=ZW (GR ms n i) j
     generalize hS:(List.range j).flatMap (GR ms n i)=S at hks⊢
     simp(maxSteps:=999999)(disch:=omega)only[go_sem,zA,zM,zS,zE,zL]
     ((first|(with_reducible first|refine Jl ?_ ?_|refine Jj ?_ ?_|refine Jp ?_ ?_)|refine Jr ?_ ?_)<;>intro h3)
     · have h3:j<n*n:=by omega
       have hjd:(j:Int).tdiv (n:Int)=((j/n:Nat):Int):=rfl
       have hjm:(j:Int).tmod (n:Int)=((j%n:Nat):Int):=rfl
       have hid:(i:Int).tdiv (n:Int)=((i/n:Nat):Int):=rfl
       have him:(i:Int).tmod (n:Int)=((i%n:Nat):Int):=rfl
       have hJ:GR ms n i j=if j≠i∧(j/n=i/n∨j%n=i%n)then[(j,QL ms i)]else[]:=rfl
       have hbd:j/n≤j∧i/n≤i∧j%n≤j∧i%n≤i:=⟨Nat.div_le_self _ _,Nat.div_le_self _ _,Nat.mod_le _ _,Nat.mod_le _ _⟩
       generalize j/n=a at hjd hJ hbd
       generalize i/n=b at hid hJ hbd
       generalize j%n=c at hjm hJ hbd
       generalize i%n=d at him hJ hbd
       generalize hQ:R++S=Q
       have hQn:=Zf (Ze Q ms) j
       have hQl:(JQ (Ze Q ms)).length=n*n:=by rw[Qq];exact hll Q
       have hQc:Uq .andNot .i64 ((QL (Ze Q ms) j:Nat):Int) ((QL ms i:Nat):Int)=((B1 (QL (Ze Q ms) j) (QL ms i):Nat):Int):=Vv (by have:=(hlt Q j).1;omega) (by omega)
       have hQs:=fun v:Nat=>Vz (b:=Ze Q ms) (k:=j) (v:=v) (by rw[hll Q];omega)
       have hyes:(j≠i∧(a=b∨c=d))→R++(List.range (j+1)).flatMap (GR ms n i)=Q++[(j,QL ms i)]:=fun h=>by rw[hks,hJ,if_pos h,←Jt,hQ]
       have hnot:¬(j≠i∧(a=b∨c=d))→R++(List.range (j+1)).flatMap (GR ms n i)=Q:=fun h=>by rw[hks,hJ,if_neg h,Ju,hQ]
       simp(maxSteps:=999999)(disch:=omega)only[go_sem,zA,zM,zS,zE,zL]
       refine Zj Zd (by kernel_rfl) ?_
       simp(maxSteps:=999999)(disch:=omega)only[go_sem,Nat.reduceBEq,Bool.true_or,zA,zM,zS,zE,zL]
       ((with_reducible first|refine JJ ?_ ?_|refine JF ?_ ?_|refine JU ?_ ?_|refine Jw ?_ ?_|refine JH ?_ ?_|refine JI ?_ ?_|refine JD ?_ ?_|refine JE ?_ ?_|refine JS ?_ ?_|refine JT ?_ ?_|refine Jy ?_ ?_|refine Jz ?_ ?_)<;>intro h4<;>simp(maxSteps:=999999)(disch:=omega)only[go_sem,zA,zM,zS,zE,zL,h4])
       · exact⟨j+1,⟨by omega,by omega⟩,by push_cast;omega,by rw[hnot (by omega)];exact J0.refl _⟩
       · simp(maxSteps:=999999)(disch:=omega)only[go_sem,zA,zM,zS,zE,zL,hjd,hjm,hid,him]
         ((with_reducible first|refine JJ ?_ ?_|refine JF ?_ ?_|refine JU ?_ ?_|refine Jw ?_ ?_|refine JH ?_ ?_|refine JI ?_ ?_|refine JD ?_ ?_|refine JE ?_ ?_|refine JS ?_ ?_|refine JT ?_ ?_|refine Jy ?_ ?_|refine Jz ?_ ?_)<;>intro h5<;>simp(maxSteps:=999999)(disch:=omega)only[go_sem,zA,zM,zS,zE,zL,h5])
         · skip
           refine Ui [0,1,2,3,4,5,6,7,8,9,10] [] none [11,12] [] Zd (by kernel_rfl) ?_
           simp(maxSteps:=999999)(disch:=omega)only[go_sem,Nat.reduceBEq,Bool.true_or,zA,zM,zS,zE,zL]
           simp(maxSteps:=999999)(disch:=omega)only[go_sem,zA,zM,zS,zE,zL,hQn,hQl,hQc,hQs]
           exact⟨j+1,⟨by omega,by omega⟩,by push_cast;rfl,by rw[hyes ⟨by omega, .inl (by omega)⟩,WI,←VE,←hQc,←hni,Int.toNat_natCast];exact J0.refl _⟩
         · simp(maxSteps:=999999)(disch:=omega)only[go_sem,zA,zM,zS,zE,zL,hjd,hjm,hid,him]
           ((first|(with_reducible first|refine Jl ?_ ?_|refine Jj ?_ ?_|refine Jp ?_ ?_)|refine Jr ?_ ?_)<;>intro h6)
           · simp(maxSteps:=999999)(disch:=omega)only[go_sem,zA,zM,zS,zE,zL]
             refine Ui [0,1,2,3,4,5,6,7,8,9,10] [] none [11,12] [] Zd (by kernel_rfl) ?_
             simp(maxSteps:=999999)(disch:=omega)only[go_sem,Nat.reduceBEq,Bool.true_or,zA,zM,zS,zE,zL]
             simp(maxSteps:=999999)(disch:=omega)only[go_sem,zA,zM,zS,zE,zL,hQn,hQl,hQc,hQs]
             exact⟨j+1,⟨by omega,by omega⟩,by push_cast;rfl,by rw[hyes ⟨by omega, .inr (by omega)⟩,WI,←VE,←hQc,←hni,Int.toNat_natCast];exact J0.refl _⟩
           · simp(maxSteps:=999999)(disch:=omega)only[go_sem,zA,zM,zS,zE,zL]
             exact⟨j+1,⟨by omega,by omega⟩,by push_cast;rfl,by rw[hnot (by omega)];exact J0.refl _⟩
     · have hke:j=n*n:=by omega
       rw[hke]at hS
       simp(maxSteps:=999999)(disch:=omega)only[go_sem,zA,zM,zS,zE,zL]
       exact⟨i+1,⟨by omega,by omega⟩,by push_cast;rfl,by rw[hrs,hS];exact J0.refl _⟩
 · have hie:i=n*n:=by omega
   rw[hie]at hR
   rw[hR]
   have hl2:(JQ (Ze R ms)).length=n*n:=by rw[Qq];exact hll R
   simp(maxSteps:=999999)(disch:=omega)only[go_sem,zA,zM,zS,zE,zL]
   rw[←hl2]
   exact ZO (E:=eI .i64) (n:=1) (J0.refl _)
end Go.Lg

namespace Go.Lg
open Go.Proofs
def VG(n line k:Nat):Nat:=(JA (Zo n line) k).toNat
theorem Xr{n line k:Nat}(hn:n=2∨n=3∨n=4)(hl:line<2*n)(hk:k<n):VG n line k<n*n∧JA (Zo n line) k=((VG n line k:Nat):Int):=by
 obtain⟨h1,h2⟩:=Kw hn hl hk
 unfold VG
 have:(0:Int)≤JA (Zo n line) k:=h1
 constructor
 · omega
 · omega
def WY(ms:List Nat)(n line v:Nat):Nat→Nat×Nat
 |0=>(0,0)
 |k+1=>if(QL ms (VG n line k)).testBit v=true then((WY ms n line v k).1+1,VG n line k)else WY ms n line v k
theorem JbW(ms:List Nat)(n line v:Nat):∀k,(WY ms n line v k).1≤k
 |0=>Nat.le_refl _
 |k+1=>by
  have:=JbW ms n line v k
  unfold WY
  split
  · simp only;omega
  · omega
theorem JbX{ms:List Nat}{n line v:Nat}(hn:n=2∨n=3∨n=4)(hl:line<2*n):∀k,k≤n→(WY ms n line v k).2<n*n
 |0,_=>by
  show 0<n*n
  rcases hn with rfl|rfl|rfl<;>decide
 |k+1,hk=>by
  unfold WY
  split
  · exact(Xr hn hl (by omega)).1
  · exact JbX hn hl k (by omega)
def JbV(ms:List Nat)(n line u:Nat):List (Nat×Nat):=if(WY ms n line (u+1) n).1=1 then[((WY ms n line (u+1) n).2,31^^^2^(u+1))]else[]
def JeI(ms:List Nat)(n line:Nat):List (Nat×Nat):=(List.range n).flatMap (JbV ms n line)
def ND(ms:List Nat)(n:Nat):List Nat:=Ze ((List.range (2*n)).flatMap (JeI ms n)) ms
set_option maxHeartbeats 4000000 in
theorem FE{n:Nat}(hn:n=2∨n=3∨n=4)(ms:List Nat)(hm:XT ms n):JW Tryz.prog 138 [QO (JQ ms),int n] (QO (JQ (ND ms n))):=by
 have hsq:4≤n*n∧n*n≤16:=by rcases hn with rfl|rfl|rfl<;>omega
 have hl:(JQ ms).length=n*n:=by rw[Qq];exact hm.len
 have hn4:2≤n∧n≤4:=by omega
 refine JW.own ?_
 refine Jn.cw (c:=_) Tryz.func138 rfl (n:=60) Tryz.ntmps138 (rs:=[.tmp 4]) rfl ?_
 simp only[Je,Jf,zA,zS,Jd,Jb,Jc]
 simp(maxSteps:=999999)(disch:=omega)only[go_sem,zA,zM,zS,zE,zL]
 first|refine JZ.rd (ZU hn ms hm) (⟨_,Tryz.func156,rfl,rfl⟩:Ji Tryz.prog 156) rfl rfl rfl rfl ?_|refine JK.rd (ZU hn ms hm) (⟨_,Tryz.func156,rfl,rfl⟩:Ji Tryz.prog 156) rfl rfl rfl rfl ?_
 simp(maxSteps:=999999)(disch:=omega)only[go_sem,zA,zM,zS,zE,zL]
 refine JZ.mkQ (GB (JQ ms) (by omega) (by intro h;rw[h]at hl;simp at hl;omega)) (⟨_,Tryz.func89,rfl,rfl⟩:Ji Tryz.prog 89) rfl rfl rfl ?_
 rintro _ _ ⟨g,rfl,rfl⟩
 refine⟨rfl, ?_⟩
 simp(maxSteps:=999999)(disch:=omega)only[go_sem,zA,zM,zS,zE,zL]
 rw[hl]
 refine JY (fun i:Nat=>2*n -i) (fun i=>i≤2*n) (fun i=>[.k, .k, .a, .a, .a, .k, .a, .a, .a, .a, .a, .a, .a, .a, .a, .a, .a, .a, .a, .k, .p (int i), .a, .a, .a, .a, .a, .a, .a, .a, .a, .a, .a, .a, .a, .a, .a, .a, .a, .a, .a, .a, .a, .a, .a, .a, .a, .a, .a, .a, .a, .a, .a, .a, .a, .a, .a, .a, .a, .a, .a]) (fun i=>[some ⟨g,1,cl (eI .i64) (JQ (Ze ((List.range i).flatMap (JeI ms n)) ms))⟩]) 0 (Nat.zero_le _) (by simp(maxSteps:=999999)(disch:=omega)only[go_sem,zA,zM,zS,zE,zL];rfl) (J0.refl _) ?_
 intro i hi
 have hrs:=ZW (JeI ms n) i
 have hok:=fun R=>W0 R hm
 have hlt:=fun R k=>(hok R).lt hn k
 have hll:=fun R:List (Nat×Nat)=>(V7 R ms).trans hm.len
 generalize hR:(List.range i).flatMap (JeI ms n)=R at hrs⊢
 simp(maxSteps:=999999)(disch:=omega)only[go_sem,zA,zM,zS,zE,zL]
 ((first|(with_reducible first|refine Jl ?_ ?_|refine Jj ?_ ?_|refine Jp ?_ ?_)|refine Jr ?_ ?_)<;>intro h1)
 · have h1:i<2*n:=by omega
   simp(maxSteps:=999999)(disch:=omega)only[go_sem,zA,zM,zS,zE,zL]
   refine JY (fun u:Nat=>n -u) (fun u=>u≤n) (fun u=>[.k, .k, .a, .a, .a, .k, .k, .p (int ((u:Int)+1)), .a, .a, .a, .a, .a, .a, .a, .a, .a, .a, .a, .k, .k, .a, .a, .a, .a, .a, .a, .a, .a, .a, .a, .a, .a, .a, .a, .a, .a, .a, .a, .a, .a, .a, .a, .a, .a, .a, .a, .a, .a, .a, .a, .a, .a, .a, .a, .a, .a, .a, .a, .a]) (fun u=>[some ⟨g,1,cl (eI .i64) (JQ (Ze (R++(List.range u).flatMap (JbV ms n i)) ms))⟩]) 0 (Nat.zero_le _) (by simp(maxSteps:=999999)(disch:=omega)only[go_sem,zA,zM,zS,zE,zL];rfl) (by simp only[List.range_zero,List.flatMap_nil,Ju];exact J0.refl _) ?_
   intro u hu
   have hks:=ZW (JbV ms n i) u
   have hV:JbV ms n i u=if(WY ms n i (u+1) n).1=1 then[((WY ms n i (u+1) n).2,31^^^2^(u+1))]else[]:=rfl
   generalize hS:(List.range u).flatMap (JbV ms n i)=S at hks⊢
   simp(maxSteps:=999999)(disch:=omega)only[go_sem,zA,zM,zS,zE,zL]
   ((first|(with_reducible first|refine Jl ?_ ?_|refine Jj ?_ ?_|refine Jp ?_ ?_)|refine Jr ?_ ?_)<;>intro h3)
   · have h3:u<n:=by omega
     simp(maxSteps:=999999)(disch:=omega)only[go_sem,zA,zM,zS,zE,zL]
     first|refine JZ.mk (UT hn h1) (⟨_,Tryz.func124,rfl,rfl⟩:Ji Tryz.prog 124) rfl rfl rfl rfl rfl ?_|refine JK.mk (UT hn h1) (⟨_,Tryz.func124,rfl,rfl⟩:Ji Tryz.prog 124) rfl rfl rfl rfl rfl ?_
     simp(maxSteps:=999999)(disch:=omega)only[go_sem,zA,zM,zS,zE,zL]
     have hlc:=Ul n i
     refine JY (fun k:Nat=>n -k) (fun k=>k≤n) (fun k=>[.k, .k, .a, .a, .a, .k, .k, .k, .p (int ((WY ms n i (u+1) k).2:Nat)), .p (int ((WY ms n i (u+1) k).1:Nat)), .a, .a, .a, .a, .a, .a, .a, .a, .a, .k, .k, .a, .a, .a, .a, .a, .a, .a, .a, .a, .k, .k, .p (int k), .a, .a, .a, .a, .a, .a, .a, .a, .a, .a, .a, .a, .a, .a, .a, .a, .a, .a, .a, .a, .a, .a, .a, .a, .a, .a, .a]) (fun k=>[some ⟨g,1,cl (eI .i64) (JQ (Ze (R++S) ms))⟩]) 0 (Nat.zero_le _) (by simp(maxSteps:=999999)(disch:=omega)only[go_sem,zA,zM,zS,zE,zL];exact⟨rfl,rfl,rfl⟩) (J0.refl _) ?_
     intro k hk
     simp(maxSteps:=999999)(disch:=omega)only[go_sem,zA,zM,zS,zE,zL]
     ((first|(with_reducible first|refine Jl ?_ ?_|refine Jj ?_ ?_|refine Jp ?_ ?_)|refine Jr ?_ ?_)<;>intro h4)
     · skip
       have h4:k<n:=by omega
       obtain⟨hc1,hc2⟩:=Xr hn h1 h4
       have hk1:WY ms n i (u+1) (k+1)=if(QL ms (VG n i k)).testBit (u+1)=true then((WY ms n i (u+1) k).1+1,VG n i k)else WY ms n i (u+1) k:=rfl
       generalize VG n i k=c at hc1 hc2 hk1
       have hmc:=Zf ms c
       have hmc2:=hm.lt hn c
       have hsr:=Ya (s:=QL ms c) (v:=(u:Int)+1) (by omega)
       have hcle:=JbW ms n i (u+1) k
       rw[show((u:Int)+1).toNat=u+1 by omega]at hsr
       have hab:=JfY (m:=QL ms c) (k:=u+1) (by omega)
       simp(maxSteps:=999999)(disch:=omega)only[go_sem,zA,zM,zS,zE,zL,hc2,hmc,hsr,hab]
       cases htb:(QL ms c).testBit (u+1)with
       |true=>
        rw[htb,if_pos rfl]at hk1
        simp(maxSteps:=999999)(disch:=omega)only[go_sem,zA,zM,zS,zE,zL]
        exact⟨k+1,⟨by omega,by omega⟩,⟨by rw[hk1],by rw[hk1];push_cast;rfl,by push_cast;rfl⟩,J0.refl _⟩
       |false=>
        rw[htb,if_neg (by decide)]at hk1
        simp(maxSteps:=999999)(disch:=omega)only[go_sem,zA,zM,zS,zE,zL]
        exact⟨k+1,⟨by omega,by omega⟩,⟨by rw[hk1],by rw[hk1],by push_cast;rfl⟩,J0.refl _⟩
     · have hke:k=n:=by omega
       rw[hke]
       have hat:=JbX (ms:=ms) (v:=u+1) hn h1 n (Nat.le_refl _)
       generalize WY ms n i (u+1) n=q at hV hat⊢
       obtain⟨many,at_⟩:=q
       simp only at hV hat⊢
       generalize hQ:R++S=Q
       have hQn:=Zf (Ze Q ms) at_
       have hQl:(JQ (Ze Q ms)).length=n*n:=by rw[Qq];exact hll Q
       have hQc:Uq .and .i64 ((QL (Ze Q ms) at_:Nat):Int) ((2^(u+1):Nat):Int)=((B1 (QL (Ze Q ms) at_) (31^^^2^(u+1)):Nat):Int):=Jbl (by have:=(hlt Q at_).1;omega) (by omega)
       have hsh:=UP (v:=(u:Int)+1) (by omega)
       rw[show((u:Int)+1).toNat=u+1 by omega]at hsh
       simp(maxSteps:=999999)(disch:=omega)only[go_sem,zA,zM,zS,zE,zL]
       ((first|(with_reducible first|refine Jl ?_ ?_|refine Jj ?_ ?_|refine Jp ?_ ?_)|refine Jr ?_ ?_)<;>intro h5)
       · have h5:many=1:=by omega
         rw[if_pos h5]at hV
         simp(maxSteps:=999999)(disch:=omega)only[go_sem,zA,zM,zS,zE,zL]
         refine Ui [0,1,2,3,4,5] [] none [6,7,8] [] Zd (by kernel_rfl) ?_
         simp(maxSteps:=999999)(disch:=omega)only[go_sem,Nat.reduceBEq,Bool.true_or,zA,zM,zS,zE,zL]
         simp(maxSteps:=999999)(disch:=omega)only[go_sem,zA,zM,zS,zE,zL,hQn,hQl,hQc,hsh]
         refine⟨u+1,⟨by omega,by omega⟩,by push_cast;rfl, ?_⟩
         rw[hks,hV,←Jt,hQ,WI,←VE,←hQc]
         exact J0.refl _
       · rw[if_neg (by omega)]at hV
         simp(maxSteps:=999999)(disch:=omega)only[go_sem,zA,zM,zS,zE,zL]
         exact⟨u+1,⟨by omega,by omega⟩,by push_cast;rfl,by rw[hks,hV,Ju,hQ];exact J0.refl _⟩
   · have hke:u=n:=by omega
     rw[hke]at hS
     simp(maxSteps:=999999)(disch:=omega)only[go_sem,zA,zM,zS,zE,zL]
     exact⟨i+1,⟨by omega,by omega⟩,by push_cast;rfl,by rw[hrs,←hS];exact J0.refl _⟩
 · have hie:i=2*n:=by omega
   rw[hie]at hR
   have hM:Ze R ms=ND ms n:=by rw[←hR];rfl
   have hl2:(JQ (ND ms n)).length=n*n:=by rw[Qq,←hM];exact hll R
   rw[hM]
   simp(maxSteps:=999999)(disch:=omega)only[go_sem,zA,zM,zS,zE,zL]
   rw[←hl2]
   exact ZO (E:=eI .i64) (n:=1) (J0.refl _)
set_option maxHeartbeats 4000000 in
theorem Bf{n:Nat}(hn:n=2∨n=3∨n=4)(ms:List Nat)(hm:XT ms n):JW Tryz.prog 133 [QO (JQ ms),int n] (QO (JQ (ND ms n))):=by
 have hsq:4≤n*n∧n*n≤16:=by rcases hn with rfl|rfl|rfl<;>omega
 have hl:(JQ ms).length=n*n:=by rw[Qq];exact hm.len
 have hn4:2≤n∧n≤4:=by omega
 refine JW.own ?_
 refine Jn.cw (c:=_) Tryz.func133 rfl (n:=69) Tryz.ntmps133 (rs:=[.tmp 4]) rfl ?_
 simp only[Je,Jf,zA,zS,Jd,Jb,Jc]
 simp(maxSteps:=999999)(disch:=omega)only[go_sem,zA,zM,zS,zE,zL]
 first|refine JZ.rd (Zr hn (JQ ms) hm.ok) (⟨_,Tryz.func131,rfl,rfl⟩:Ji Tryz.prog 131) rfl rfl rfl rfl ?_|refine JK.rd (Zr hn (JQ ms) hm.ok) (⟨_,Tryz.func131,rfl,rfl⟩:Ji Tryz.prog 131) rfl rfl rfl rfl ?_
 simp(maxSteps:=999999)(disch:=omega)only[go_sem,zA,zM,zS,zE,zL]
 refine JZ.mkQ (YH (JQ ms) (by omega) (by intro h;rw[h]at hl;simp at hl;omega)) (⟨_,Tryz.func153,rfl,rfl⟩:Ji Tryz.prog 153) rfl rfl rfl ?_
 rintro _ _ ⟨g,rfl,rfl⟩
 refine⟨rfl, ?_⟩
 simp(maxSteps:=999999)(disch:=omega)only[go_sem,zA,zM,zS,zE,zL]
 rw[hl]
 refine JY (fun i:Nat=>2*n -i) (fun i=>i≤2*n) (fun i=>[.k, .k, .a, .a, .a, .k, .p (int i), .a, .a, .a, .a, .a, .a, .a, .a, .a, .a, .a, .a, .a, .a, .a, .a, .a, .a, .a, .a, .a, .a, .a, .a, .a, .a, .a, .a, .a, .a, .a, .a, .a, .a, .a, .a, .a, .a, .a, .a, .a, .a, .a, .a, .a, .a, .a, .a, .a, .a, .a, .a, .a, .a, .a, .a, .a, .a, .a, .a, .a, .a]) (fun i=>[some ⟨g,1,cl (eI .i64) (JQ (Ze ((List.range i).flatMap (JeI ms n)) ms))⟩]) 0 (Nat.zero_le _) (by simp(maxSteps:=999999)(disch:=omega)only[go_sem,zA,zM,zS,zE,zL];rfl) (J0.refl _) ?_
 intro i hi
 have hrs:=ZW (JeI ms n) i
 have hok:=fun R=>W0 R hm
 have hlt:=fun R k=>(hok R).lt hn k
 have hll:=fun R:List (Nat×Nat)=>(V7 R ms).trans hm.len
 generalize hR:(List.range i).flatMap (JeI ms n)=R at hrs⊢
 simp(maxSteps:=999999)(disch:=omega)only[go_sem,zA,zM,zS,zE,zL]
 ((first|(with_reducible first|refine Jl ?_ ?_|refine Jj ?_ ?_|refine Jp ?_ ?_)|refine Jr ?_ ?_)<;>intro h1)
 · have h1:i<2*n:=by omega
   have hlc:=Ul n i
   simp(maxSteps:=999999)(disch:=omega)only[go_sem,zA,zM,zS,zE,zL]
   first|refine JZ.mk (Vf hn h1) (⟨_,Tryz.func154,rfl,rfl⟩:Ji Tryz.prog 154) rfl rfl rfl rfl rfl ?_|refine JK.mk (Vf hn h1) (⟨_,Tryz.func154,rfl,rfl⟩:Ji Tryz.prog 154) rfl rfl rfl rfl rfl ?_
   simp(maxSteps:=999999)(disch:=omega)only[go_sem,zA,zM,zS,zE,zL]
   refine JY (fun u:Nat=>n -u) (fun u=>u≤n) (fun u=>[.k, .k, .a, .a, .a, .k, .k, .k, .p (int ((u:Int)+1)), .a, .a, .a, .a, .a, .a, .a, .a, .a, .a, .a, .a, .a, .a, .a, .a, .a, .a, .a, .a, .a, .a, .a, .a, .a, .a, .a, .a, .a, .a, .a, .a, .a, .a, .a, .a, .a, .a, .a, .a, .a, .a, .a, .a, .a, .a, .a, .a, .a, .a, .a, .a, .a, .a, .a, .a, .a, .a, .a, .a]) (fun u=>[some ⟨g,1,cl (eI .i64) (JQ (Ze (R++(List.range u).flatMap (JbV ms n i)) ms))⟩]) 0 (Nat.zero_le _) (by simp(maxSteps:=999999)(disch:=omega)only[go_sem,zA,zM,zS,zE,zL];rfl) (by simp only[List.range_zero,List.flatMap_nil,Ju];exact J0.refl _) ?_
   intro u hu
   have hks:=ZW (JbV ms n i) u
   have hV:JbV ms n i u=if(WY ms n i (u+1) n).1=1 then[((WY ms n i (u+1) n).2,31^^^2^(u+1))]else[]:=rfl
   generalize hS:(List.range u).flatMap (JbV ms n i)=S at hks⊢
   simp(maxSteps:=999999)(disch:=omega)only[go_sem,zA,zM,zS,zE,zL]
   ((first|(with_reducible first|refine Jl ?_ ?_|refine Jj ?_ ?_|refine Jp ?_ ?_)|refine Jr ?_ ?_)<;>intro h3)
   · have h3:u<n:=by omega
     simp(maxSteps:=999999)(disch:=omega)only[go_sem,zA,zM,zS,zE,zL]
     refine JY (fun k:Nat=>n -k) (fun k=>k≤n) (fun k=>[.k, .k, .a, .a, .a, .k, .k, .k, .k, .p (int ((WY ms n i (u+1) k).1:Nat)), .p (int ((WY ms n i (u+1) k).2:Nat)), .p (int k), .a, .a, .a, .a, .a, .a, .a, .a, .a, .a, .a, .a, .a, .a, .a, .a, .a, .a, .a, .a, .a, .a, .a, .a, .a, .a, .a, .a, .a, .a, .a, .a, .a, .a, .a, .a, .a, .a, .a, .a, .a, .a, .a, .a, .a, .a, .a, .a, .a, .a, .a, .a, .a, .a, .a, .a, .a]) (fun k=>[some ⟨g,1,cl (eI .i64) (JQ (Ze (R++S) ms))⟩]) 0 (Nat.zero_le _) (by simp(maxSteps:=999999)(disch:=omega)only[go_sem,zA,zM,zS,zE,zL];exact⟨rfl,rfl,rfl⟩) (J0.refl _) ?_
     intro k hk
     simp(maxSteps:=999999)(disch:=omega)only[go_sem,zA,zM,zS,zE,zL]
     ((first|(with_reducible first|refine Jl ?_ ?_|refine Jj ?_ ?_|refine Jp ?_ ?_)|refine Jr ?_ ?_)<;>intro h4)
     · skip
       have h4:k<n:=by omega
       obtain⟨hc1,hc2⟩:=Xr hn h1 h4
       have hk1:WY ms n i (u+1) (k+1)=if(QL ms (VG n i k)).testBit (u+1)=true then((WY ms n i (u+1) k).1+1,VG n i k)else WY ms n i (u+1) k:=rfl
       generalize VG n i k=c at hc1 hc2 hk1
       have hmc:=Zf ms c
       have hmc2:=hm.lt hn c
       have hsr:=Ya (s:=QL ms c) (v:=(u:Int)+1) (by omega)
       have hcle:=JbW ms n i (u+1) k
       rw[show((u:Int)+1).toNat=u+1 by omega]at hsr
       have hab:=Jcb (s:=QL ms c) (k:=u+1)
       simp(maxSteps:=999999)(disch:=omega)only[go_sem,zA,zM,zS,zE,zL,hc2,hmc,hsr,hab]
       cases htb:(QL ms c).testBit (u+1)with
       |true=>
        rw[htb,if_pos rfl]at hk1
        simp(maxSteps:=999999)(disch:=omega)only[go_sem,zA,zM,zS,zE,zL]
        exact⟨k+1,⟨by omega,by omega⟩,⟨by rw[hk1];push_cast;rfl,by rw[hk1];exact hc2,by push_cast;rfl⟩,J0.refl _⟩
       |false=>
        rw[htb,if_neg (by decide)]at hk1
        simp(maxSteps:=999999)(disch:=omega)only[go_sem,zA,zM,zS,zE,zL]
        exact⟨k+1,⟨by omega,by omega⟩,⟨by rw[hk1],by rw[hk1],by push_cast;rfl⟩,J0.refl _⟩
     · have hke:k=n:=by omega
       rw[hke]
       have hat:=JbX (ms:=ms) (v:=u+1) hn h1 n (Nat.le_refl _)
       generalize WY ms n i (u+1) n=q at hV hat⊢
       obtain⟨many,at_⟩:=q
       simp only at hV hat⊢
       generalize hQ:R++S=Q
       have hQn:=Zf (Ze Q ms) at_
       have hQl:(JQ (Ze Q ms)).length=n*n:=by rw[Qq];exact hll Q
       have hQc:Uq .and .i64 ((QL (Ze Q ms) at_:Nat):Int) ((2^(u+1):Nat):Int)=((B1 (QL (Ze Q ms) at_) (31^^^2^(u+1)):Nat):Int):=Jbl (by have:=(hlt Q at_).1;omega) (by omega)
       have hsh:=UP (v:=(u:Int)+1) (by omega)
       rw[show((u:Int)+1).toNat=u+1 by omega]at hsh
       simp(maxSteps:=999999)(disch:=omega)only[go_sem,zA,zM,zS,zE,zL]
       ((first|(with_reducible first|refine Jl ?_ ?_|refine Jj ?_ ?_|refine Jp ?_ ?_)|refine Jr ?_ ?_)<;>intro h5)
       · have h5:many=1:=by omega
         rw[if_pos h5]at hV
         simp(maxSteps:=999999)(disch:=omega)only[go_sem,zA,zM,zS,zE,zL]
         refine Ui [0,1,2,3,4,5,6,7,8] [] none [9,10] [] Zd (by kernel_rfl) ?_
         simp(maxSteps:=999999)(disch:=omega)only[go_sem,Nat.reduceBEq,Bool.true_or,zA,zM,zS,zE,zL]
         simp(maxSteps:=999999)(disch:=omega)only[go_sem,zA,zM,zS,zE,zL,hQn,hQl,hQc,hsh]
         refine⟨u+1,⟨by omega,by omega⟩,by push_cast;rfl, ?_⟩
         rw[hks,hV,←Jt,hQ,WI,←VE,←hQc]
         exact J0.refl _
       · rw[if_neg (by omega)]at hV
         simp(maxSteps:=999999)(disch:=omega)only[go_sem,zA,zM,zS,zE,zL]
         exact⟨u+1,⟨by omega,by omega⟩,by push_cast;rfl,by rw[hks,hV,Ju,hQ];exact J0.refl _⟩
   · have hke:u=n:=by omega
     rw[hke]at hS
     simp(maxSteps:=999999)(disch:=omega)only[go_sem,zA,zM,zS,zE,zL]
     exact⟨i+1,⟨by omega,by omega⟩,by push_cast;rfl,by rw[hrs,←hS];exact J0.refl _⟩
 · have hie:i=2*n:=by omega
   rw[hie]at hR
   have hM:Ze R ms=ND ms n:=by rw[←hR];rfl
   have hl2:(JQ (ND ms n)).length=n*n:=by rw[Qq,←hM];exact hll R
   rw[hM]
   simp(maxSteps:=999999)(disch:=omega)only[go_sem,zA,zM,zS,zE,zL]
   rw[←hl2]
   exact ZO (E:=eI .i64) (n:=1) (J0.refl _)
end Go.Lg
