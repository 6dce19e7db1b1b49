/- GpEE, GpMB, cut to what is needed. -/
import Derived.Test.YtidekghnkifbjaaGreatDoorJdc4
import Derived.Test.YtidekghnkifbjaaGreatDoorJdb4
import Derived.Test.YtidekghnkifbjaaGreatDoorJdc0
open List renaming length_cons → Ja, cons_append → Jb, nil_append → Jd, length_nil → Je, replicate → Jf, getElem?_eq_getElem → Jl, length_set → Jp, take_of_length_le → Js, length_take → JX, mem_map → Qg, length_map → Qi, getElem?_map → Qk
open Nat renaming reduceAdd→zA,reduceMul→zM,reduceSub→zS,reduceEqDiff→zE,reduceLeDiff→zL
set_option linter.unusedSimpArgs false
set_option linter.unusedVariables false
set_option maxRecDepth 100000
namespace Go.Lg
open Go.Proofs
theorem Uq.sm{p:QR}{n:Nat}(hp:Uq p n):RC p:=by
 have hsq:n*n≤16:=by rcases hp.hn with rfl|rfl|rfl<;>omega
 have:=hp.len
 have:=hp.rl
 refine⟨by omega,by omega,fun r hr=> ?_⟩
 have:=(QV (hp.rv r hr)).1
 omega
theorem Kp{p:QR}{n:Nat}(hp:Uq p n)(hv:JA p=true)(xs:List Int)(hg:Zd xs n):JM Tryz.prog 50 [aP p,QF xs] (bool (QJ p xs n)):=by
 have hn:=hp.hn
 have hz:=hp.size
 have hgl:=hp.len
 have hxl:=hg.len
 have hrl:=hp.rl
 have hsq:n*n≤16:=by rcases hn with rfl|rfl|rfl<;>omega
 refine Jk.cw (c:=_) Tryz.func50 rfl (n:=60) Tryz.ntmps50 (rs:=[.tmp 4]) rfl ?_
 simp only[Ja,Je,zA,zS,Jf,Jb,Jd]
 simp(maxSteps:=999999)(disch:=omega)only[go_sem,zA,zM,zS,zE,zL]
 intro g
 first|refine JU.rd (Qq p hp.sm) (⟨_,Tryz.func41,rfl,rfl⟩:Jg Tryz.prog 41) rfl rfl rfl rfl ?_|refine JG.rd (Qq p hp.sm) (⟨_,Tryz.func41,rfl,rfl⟩:Jg Tryz.prog 41) rfl rfl rfl rfl ?_
 simp(maxSteps:=999999)(disch:=omega)only[go_sem,zA,zM,zS,zE,zL]
 ((with_reducible first|refine JL ?_ ?_|refine JD ?_ ?_|refine JT ?_ ?_|refine Jv ?_ ?_|refine JJ ?_ ?_|refine JK ?_ ?_|refine JB ?_ ?_|refine JC ?_ ?_|refine JR ?_ ?_|refine JS ?_ ?_|refine Jw ?_ ?_|refine Jx ?_ ?_)<;>intro c1<;>simp(maxSteps:=999999)(disch:=omega)only[go_sem,zA,zM,zS,zE,zL,c1])
 rotate_left
 · exfalso;rw[hv]at c1;cases c1
 have hsf:=Kn hn xs hg
 rw[←hz]at hsf
 first|refine JU.rd (hsf) (⟨_,Tryz.func93,rfl,rfl⟩:Jg Tryz.prog 93) rfl rfl rfl rfl ?_|refine JG.rd (hsf) (⟨_,Tryz.func93,rfl,rfl⟩:Jg Tryz.prog 93) rfl rfl rfl rfl ?_
 simp(maxSteps:=999999)(disch:=omega)only[go_sem,zA,zM,zS,zE,zL]
 ((first|(with_reducible first|refine Jm ?_ ?_|refine Jj ?_ ?_|refine Jo ?_ ?_)|refine Jr ?_ ?_)<;>intro c2)
 rotate_left
 · have c2:Wy xs n=true:=by simpa using c2
   simp(maxSteps:=999999)(disch:=omega)only[go_sem,zA,zM,zS,zE,zL]
   simp[QJ,c2]
 have c2:Wy xs n=false:=by simpa using c2
 simp(maxSteps:=999999)(disch:=omega)only[go_sem,zA,zM,zS,zE,zL]
 refine JO (fun k:Nat=>xs.length -k) (fun k=>k≤xs.length∧∀j:Nat,j<k→¬(0<Jy p.given j∧0<Jy xs j∧Jy xs j≠Jy p.given j)) (fun k=>[.a, .k, .k, .a, .a, .a, .a, .a, .a, .a, .a, .a, .a, .a, .a, .a, .a, .a, .a, .k, .k, .p (int k), .a, .a, .a, .a, .a, .a, .a, .a, .a, .a, .a, .a, .a, .a, .a, .a, .a, .a, .a, .a, .a, .a, .a, .a, .a, .a, .a, .a, .a, .a, .a, .a, .a, .a, .a, .a, .a, .a]) (fun _=>[some ⟨g,1,cP p⟩]) 0 ⟨Nat.zero_le _,fun j hj=>absurd hj (Nat.not_lt_zero _)⟩ (by simp(maxSteps:=999999)(disch:=omega)only[go_sem,zA,zM,zS,zE,zL];rfl) (J5.refl _) ?_
 rintro k ⟨hk,hno⟩
 simp(maxSteps:=999999)(disch:=omega)only[go_sem,zA,zM,zS,zE,zL]
 ((first|(with_reducible first|refine Jm ?_ ?_|refine Jj ?_ ?_|refine Jo ?_ ?_)|refine Jr ?_ ?_)<;>intro h1)
 · have h1:k<xs.length:=by omega
   have hgo:¬(0<Jy p.given k∧0<Jy xs k∧Jy xs k≠Jy p.given k)→∀j:Nat,j<k+1→¬(0<Jy p.given j∧0<Jy xs j∧Jy xs j≠Jy p.given j):=fun h j hj=>by
    by_cases hjk:j=k
    · rw[hjk];exact h
    · exact hno j (by omega)
   simp(maxSteps:=999999)(disch:=omega)only[go_sem,zA,zM,zS,zE,zL]
   ((with_reducible first|refine JL ?_ ?_|refine JD ?_ ?_|refine JT ?_ ?_|refine Jv ?_ ?_|refine JJ ?_ ?_|refine JK ?_ ?_|refine JB ?_ ?_|refine JC ?_ ?_|refine JR ?_ ?_|refine JS ?_ ?_|refine Jw ?_ ?_|refine Jx ?_ ?_)<;>intro d1<;>simp(maxSteps:=999999)(disch:=omega)only[go_sem,zA,zM,zS,zE,zL,d1])
   · ((with_reducible first|refine JL ?_ ?_|refine JD ?_ ?_|refine JT ?_ ?_|refine Jv ?_ ?_|refine JJ ?_ ?_|refine JK ?_ ?_|refine JB ?_ ?_|refine JC ?_ ?_|refine JR ?_ ?_|refine JS ?_ ?_|refine Jw ?_ ?_|refine Jx ?_ ?_)<;>intro d2<;>simp(maxSteps:=999999)(disch:=omega)only[go_sem,zA,zM,zS,zE,zL,d2])
     · ((first|(with_reducible first|refine Jm ?_ ?_|refine Jj ?_ ?_|refine Jo ?_ ?_)|refine Jr ?_ ?_)<;>intro d3)
       · simp(maxSteps:=999999)(disch:=omega)only[go_sem,zA,zM,zS,zE,zL]
         exact⟨k+1,⟨⟨by omega,hgo fun h=>h.2.2 d3⟩,by omega⟩,by push_cast;omega,J5.refl _⟩
       · simp(maxSteps:=999999)(disch:=omega)only[go_sem,zA,zM,zS,zE,zL]
         have:clear p xs=false:=by
          simp only[clear,decide_eq_false_iff_not]
          exact fun h=>h k h1 ⟨d2,d1,d3⟩
         simp[QJ,this]
     · exact⟨k+1,⟨⟨by omega,hgo fun h=>d2 h.1⟩,by omega⟩,by push_cast;omega,J5.refl _⟩
   · exact⟨k+1,⟨⟨by omega,hgo fun h=>d1 h.2.1⟩,by omega⟩,by push_cast;omega,J5.refl _⟩
 · have hcl:clear p xs=true:=by
    simp only[clear,decide_eq_true_eq]
    exact fun j hj=>hno j (by omega)
   simp(maxSteps:=999999)(disch:=omega)only[go_sem,zA,zM,zS,zE,zL]
   refine JO (fun k:Nat=>p.rules.length -k) (fun k=>k≤p.rules.length∧∀j:Nat,j<k→Q9 (Jy p.rules j) xs n=true) (fun k=>[.a, .k, .k, .a, .a, .a, .a, .a, .a, .a, .a, .a, .a, .a, .a, .a, .a, .a, .a, .a, .a, .a, .a, .a, .a, .a, .a, .a, .a, .a, .a, .a, .a, .a, .a, .a, .a, .a, .a, .a, .a, .a, .a, .a, .a, .a, .a, .k, .k, .p (int k), .a, .a, .a, .a, .a, .a, .a, .a, .a, .a]) (fun _=>[some ⟨g,1,cP p⟩]) 0 ⟨Nat.zero_le _,fun j hj=>absurd hj (Nat.not_lt_zero _)⟩ (by simp(maxSteps:=999999)(disch:=omega)only[go_sem,zA,zM,zS,zE,zL];rfl) (J5.refl _) ?_
   rintro i ⟨hi,hyes⟩
   simp(maxSteps:=999999)(disch:=omega)only[go_sem,zA,zM,zS,zE,zL]
   ((first|(with_reducible first|refine Jm ?_ ?_|refine Jj ?_ ?_|refine Jo ?_ ?_)|refine Jr ?_ ?_)<;>intro h2)
   · have h2:i<p.rules.length:=by omega
     have hmem:Jy p.rules i∈p.rules:=Q8 h2
     simp(maxSteps:=999999)(disch:=omega)only[go_sem,zA,zM,zS,zE,zL]
     intro g2
     have hch:=FB hn (Jy p.rules i) xs (hp.rv _ hmem) hg
     rw[←hz]at hch
     first|refine JU.rd (hch) (⟨_,Tryz.func94,rfl,rfl⟩:Jg Tryz.prog 94) rfl rfl rfl rfl ?_|refine JG.rd (hch) (⟨_,Tryz.func94,rfl,rfl⟩:Jg Tryz.prog 94) rfl rfl rfl rfl ?_
     simp(maxSteps:=999999)(disch:=omega)only[go_sem,zA,zM,zS,zE,zL]
     ((first|(with_reducible first|refine Jm ?_ ?_|refine Jj ?_ ?_|refine Jo ?_ ?_)|refine Jr ?_ ?_)<;>intro h3)
     · simp(maxSteps:=999999)(disch:=omega)only[go_sem,zA,zM,zS,zE,zL]
       refine⟨i+1,⟨⟨by omega,fun j hj=> ?_⟩,by omega⟩,by push_cast;omega,J5.app _ _⟩
       by_cases hji:j=i
       · rw[hji];exact h3
       · exact hyes j (by omega)
     · simp(maxSteps:=999999)(disch:=omega)only[go_sem,zA,zM,zS,zE,zL]
       have:p.rules.all (fun r=>Q9 r xs n)=false:=by
        rw[List.all_eq_false]
        exact⟨_,hmem,by rw[h3];simp⟩
       simp[QJ,this]
   · have hall:p.rules.all (fun r=>Q9 r xs n)=true:=by
      rw[List.all_eq_true]
      intro r hr
      obtain⟨j,hj,rfl⟩:=List.mem_iff_getElem.1 hr
      have:=hyes j (by omega)
      rwa [Qe (by omega)]at this
     simp(maxSteps:=999999)(disch:=omega)only[go_sem,zA,zM,zS,zE,zL]
     simp[QJ,hcl,hall,c2]
theorem cellB{n i k:Nat}(hn:n=2∨n=3∨n=4)(hin:i<n*n)(hk:k<n):i/n*n+k<n*n∧k*n+i%n<n*n:=by
 rcases hn with rfl|rfl|rfl<;>omega
theorem cellW{n i k:Nat}(hn:n=2∨n=3∨n=4)(hin:i<n*n)(hk:k<n):
 IntKind.i64.wrap (IntKind.i64.wrap (IntKind.i64.wrap ((i:Int).tdiv n)*n)+k)=((i/n*n+k:Nat):Int)∧IntKind.i64.wrap (IntKind.i64.wrap ((k:Int)*n)+(i:Int).tmod n)=((k*n+i%n:Nat):Int):=by
 have hw:∀x:Nat,x≤64→IntKind.i64.wrap (x:Int)=x:=fun x h=>BJ (by omega)
 have hd:(i:Int).tdiv n=((i/n:Nat):Int):=rfl
 have hm:(i:Int).tmod n=((i%n:Nat):Int):=rfl
 have b1:i/n≤64∧i/n*n≤64∧i/n*n+k≤64∧k*n≤64∧k*n+i%n≤64:=by rcases hn with rfl|rfl|rfl<;>omega
 rw[hd,hm,hw _ b1.1,←Int.natCast_mul,hw _ b1.2.1,←Int.natCast_add,hw _ b1.2.2.1,←Int.natCast_mul,hw _ b1.2.2.2.1,←Int.natCast_add,hw _ b1.2.2.2.2]
 exact⟨rfl,rfl⟩
theorem JbH{p:QR}{n:Nat}(hp:Uq p n)(xs:List Int)(hg:Zd xs n)(i:Nat)(hin:i<n*n):JM Tryz.prog 122 [aP p,QF xs,int i] (bool (Xi p xs n i)):=by
 have hn:=hp.hn
 have hz:=hp.size
 have hxl:=hg.len
 have hrl:=hp.rl
 have hsq:n*n≤16:=by rcases hn with rfl|rfl|rfl<;>omega
 have hn0:0<n:=by omega
 have hn4:2≤n∧n≤4:=by omega
 have hdm:i/n<n∧i%n<n:=⟨Nat.div_lt_of_lt_mul hin,Nat.mod_lt _ hn0⟩
 have hdi:((i/n:Nat):Int)=(i:Int)/n:=rfl
 refine Jk.cw (c:=_) Tryz.func122 rfl (n:=74) Tryz.ntmps122 (rs:=[.tmp 6]) rfl ?_
 simp only[Ja,Je,zA,zS,Jf,Jb,Jd]
 simp(maxSteps:=999999)(disch:=omega)only[go_sem,zA,zM,zS,zE,zL]
 intro g
 rw[hz]
 refine JO (fun k:Nat=>n -k) (fun k=>k≤n∧∀j:Nat,j<k→(i/n*n+j≠i→Jy xs ((i/n*n+j:Nat):Int)≠Jy xs i)∧(j*n+i%n≠i→Jy xs ((j*n+i%n:Nat):Int)≠Jy xs i)) (fun k=>[.a, .k, .k, .k, .a, .a, .a, .k, .a, .a, .a, .a, .a, .a, .a, .k, .p (int k), .a, .a, .a, .a, .a, .a, .a, .a, .a, .a, .a, .a, .a, .a, .a, .a, .a, .a, .a, .a, .a, .a, .a, .a, .a, .a, .a, .a, .a, .a, .a, .a, .a, .a, .a, .a, .a, .a, .a, .a, .a, .a, .a, .a, .a, .a, .a, .a, .a, .a, .a, .a, .a, .a, .a, .a, .a]) (fun _=>[some ⟨g,1,cP p⟩]) 0 ⟨Nat.zero_le _,fun j hj=>absurd hj (Nat.not_lt_zero _)⟩ (by simp(maxSteps:=999999)(disch:=omega)only[go_sem,zA,zM,zS,zE,zL];rfl) (J5.refl _) ?_
 rintro k ⟨hk,hno⟩
 simp(maxSteps:=999999)(disch:=omega)only[go_sem,zA,zM,zS,zE,zL]
 ((first|(with_reducible first|refine Jm ?_ ?_|refine Jj ?_ ?_|refine Jo ?_ ?_)|refine Jr ?_ ?_)<;>intro h1)
 · have h1:k<n:=by omega
   obtain⟨c1,c2⟩:=cellW hn hin h1
   simp(maxSteps:=999999)(disch:=omega)only[go_sem,zA,zM,zS,zE,zL]
   refine Zi ZE (by kernel_rfl) ?_
   simp(maxSteps:=999999)(disch:=omega)only[go_sem,Nat.reduceBEq,Bool.true_or,zA,zM,zS,zE,zL]
   rw[c1,c2]
   obtain⟨b1,b2⟩:=cellB hn hin h1
   obtain⟨L,hL⟩:∃L:List Int,L=[((i/n*n+k:Nat):Int),((k*n+i%n:Nat):Int)]:=⟨_,rfl⟩
   have h1k:=h1
   have hL2:L.length=2:=by rw[hL];rfl
   have hLb:∀m:Nat,m<2→0≤Jy L m∧Jy L m<(n*n:Nat):=fun m hm=>by
    rw[hL]
    have:m=0∨m=1:=by omega
    rcases this with rfl|rfl
    · show(0:Int)≤((i/n*n+k:Nat):Int)∧((i/n*n+k:Nat):Int)<(n*n:Nat)
      omega
    · show(0:Int)≤((k*n+i%n:Nat):Int)∧((k*n+i%n:Nat):Int)<(n*n:Nat)
      omega
   have hfl:FV.sl 2 [FV.int .i64 ((i/n*n+k:Nat):Int),FV.int .i64 ((k*n+i%n:Nat):Int)]=Ql L:=by rw[hL];rfl
   rw[hfl]
   have hL0:Jy L 0=((i/n*n+k:Nat):Int):=by rw[hL];rfl
   have hL1:Jy L 1=((k*n+i%n:Nat):Int):=by rw[hL];rfl
   clear hL hfl
   refine JO (fun l:Nat=>2 -l) (fun l=>l≤2∧∀m:Nat,m<l→Jy L m≠i→Jy xs (Jy L m)≠Jy xs i) (fun l=>[.a, .k, .k, .k, .a, .a, .a, .k, .a, .a, .a, .a, .a, .a, .a, .k, .k, .a, .a, .a, .a, .a, .a, .a, .a, .a, .a, .a, .a, .a, .a, .a, .a, .k, .k, .p (int l), .a, .a, .a, .a, .a, .a, .a, .a, .a, .a, .a, .a, .a, .a, .a, .a, .a, .a, .a, .a, .a, .a, .a, .a, .a, .a, .a, .a, .a, .a, .a, .a, .a, .a, .a, .a, .a, .a]) (fun _=>[some ⟨g,1,cP p⟩]) 0 ⟨Nat.zero_le _,fun j hj=>absurd hj (Nat.not_lt_zero _)⟩ (by simp(maxSteps:=999999)(disch:=omega)only[go_sem,zA,zM,zS,zE,zL];rfl) (J5.refl _) ?_
   rintro l ⟨hl,hno2⟩
   simp(maxSteps:=999999)(disch:=omega)only[go_sem,zA,zM,zS,zE,zL]
   ((first|(with_reducible first|refine Jm ?_ ?_|refine Jj ?_ ?_|refine Jo ?_ ?_)|refine Jr ?_ ?_)<;>intro h2)
   · have h2:l<2:=by omega
     obtain⟨hb1,hb2⟩:=hLb l h2
     obtain⟨c,hc⟩:∃c:Nat,Jy L l=c:=⟨(Jy L l).toNat,by omega⟩
     have hcl:c<xs.length:=by omega
     have hil:i<xs.length:=by omega
     have hbad:c≠i→Jy xs c=Jy xs i→false=Xi p xs n i:=fun h1 h2=>by
      have hrow:c/n=i/n∨c%n=i%n:=by
       have:l=0∨l=1:=by omega
       rcases this with rfl|rfl
       · left
         have e:(c:Int)=((i/n*n+k:Nat):Int):=by rw[←hc];exact hL0
         have e:c=i/n*n+k:=by omega
         rw[e]
         rw[Nat.mul_comm,Nat.mul_add_div hn0,Nat.div_eq_of_lt h1k,Nat.add_zero]
       · right
         have e:(c:Int)=((k*n+i%n:Nat):Int):=by rw[←hc];exact hL1
         have e:c=k*n+i%n:=by omega
         rw[e,Nat.mul_comm,Nat.mul_add_mod,Nat.mod_eq_of_lt hdm.2]
      have:decide (∀j:Nat,j<n*n→j≠i→(j/n=i/n∨j%n=i%n)→Jy xs j≠Jy xs i)=false:=decide_eq_false fun h=>h c (by omega) h1 hrow h2
      simp[Xi,this]
     have hgo:(c≠i→Jy xs c≠Jy xs i)→∀m:Nat,m<l+1→Jy L m≠i→Jy xs (Jy L m)≠Jy xs i:=fun h m hm=>by
      by_cases hml:m=l
      · rw[hml,hc];exact fun h'=>h (by omega)
      · exact hno2 m (by omega)
     simp(maxSteps:=999999)(disch:=omega)only[go_sem,zA,zM,zS,zE,zL]
     rw[hc]
     by_cases a:(c:Int)=i
     · refine Zi ZE (by kernel_rfl) ?_
       simp(maxSteps:=999999)(disch:=omega)only[go_sem,zA,zM,zS,zE,zL,Ut,Vv]
       exact⟨l+1,⟨⟨by omega,hgo fun h=>absurd (by omega) h⟩,by omega⟩,by push_cast;omega,J5.refl _⟩
     · by_cases b:Jy xs c=Jy xs i
       · refine Zi ZE (by kernel_rfl) ?_
         simp(maxSteps:=999999)(disch:=omega)only[go_sem,zA,zM,zS,zE,zL,Ut,Vv]
         exact hbad (by omega) b
       · refine Zi ZE (by kernel_rfl) ?_
         simp(maxSteps:=999999)(disch:=omega)only[go_sem,zA,zM,zS,zE,zL,Ut,Vv]
         exact⟨l+1,⟨⟨by omega,hgo fun _=>b⟩,by omega⟩,by push_cast;omega,J5.refl _⟩
   · have hl2:l=2:=by omega
     simp(maxSteps:=999999)(disch:=omega)only[go_sem,zA,zM,zS,zE,zL]
     refine⟨k+1,⟨⟨by omega,fun j hj=> ?_⟩,by omega⟩,by push_cast;omega,J5.refl _⟩
     by_cases hjk:j=k
     · subst hjk
       have n0:=hno2 0 (by omega)
       have n1:=hno2 1 (by omega)
       simp only[Int.natCast_zero,Int.natCast_one,Int.cast_ofNat_Int]at n0 n1
       rw[hL0]at n0
       rw[hL1]at n1
       exact⟨fun h=>n0 (by omega),fun h=>n1 (by omega)⟩
     · exact hno j (by omega)
 · have hkn:k=n:=by omega
   have hD:decide (∀j:Nat,j<n*n→j≠i→(j/n=i/n∨j%n=i%n)→Jy xs j≠Jy xs i)=true:=by
    refine decide_eq_true fun j hj hji hl=> ?_
    have hjd:=Nat.div_add_mod j n
    rcases hl with hl|hl
    · have:=(hno (j%n) (by have:=Nat.mod_lt j hn0;omega)).1
      have e:i/n*n+j%n=j:=by rw[←hl,Nat.mul_comm];exact hjd
      rw[e]at this
      exact this hji
    · have:=(hno (j/n) (by have:=Nat.div_lt_of_lt_mul hj;omega)).2
      have e:j/n*n+i%n=j:=by rw[←hl,Nat.mul_comm];exact hjd
      rw[e]at this
      exact this hji
   simp(maxSteps:=999999)(disch:=omega)only[go_sem,zA,zM,zS,zE,zL]
   refine JO (fun k:Nat=>p.rules.length -k) (fun k=>k≤p.rules.length∧∀j:Nat,j<k→(!(Jy p.rules j).cells.contains (i:Int)||Q9 (Jy p.rules j) xs n)=true) (fun k=>[.a, .k, .k, .a, .a, .a, .a, .k, .a, .a, .a, .a, .a, .a, .a, .a, .a, .a, .a, .a, .a, .a, .a, .a, .a, .a, .a, .a, .a, .a, .a, .a, .a, .a, .a, .a, .a, .a, .a, .a, .a, .a, .a, .a, .a, .a, .a, .a, .a, .a, .a, .a, .a, .a, .a, .a, .k, .k, .p (int k), .a, .a, .a, .a, .a, .a, .a, .a, .a, .a, .a, .a, .a, .a, .a]) (fun _=>[some ⟨g,1,cP p⟩]) 0 ⟨Nat.zero_le _,fun j hj=>absurd hj (Nat.not_lt_zero _)⟩ (by simp(maxSteps:=999999)(disch:=omega)only[go_sem,zA,zM,zS,zE,zL];rfl) (J5.refl _) ?_
   rintro j ⟨hj,hyes⟩
   simp(maxSteps:=999999)(disch:=omega)only[go_sem,zA,zM,zS,zE,zL]
   ((first|(with_reducible first|refine Jm ?_ ?_|refine Jj ?_ ?_|refine Jo ?_ ?_)|refine Jr ?_ ?_)<;>intro h2)
   · have h2:j<p.rules.length:=by omega
     have hmem:Jy p.rules j∈p.rules:=Q8 h2
     have hcl:=(QV (hp.rv _ hmem)).1
     have hch:=FB hn (Jy p.rules j) xs (hp.rv _ hmem) hg
     have hgo:(!(Jy p.rules j).cells.contains (i:Int)||Q9 (Jy p.rules j) xs n)=true→∀m:Nat,m<j+1→(!(Jy p.rules m).cells.contains (i:Int)||Q9 (Jy p.rules m) xs n)=true:=fun h m hm=>by
      by_cases hmj:m=j
      · rw[hmj];exact h
      · exact hyes m (by omega)
     simp(maxSteps:=999999)(disch:=omega)only[go_sem,zA,zM,zS,zE,zL]
     intro g2
     first|refine JU.rd (UN (Jy p.rules j).cells (i:Int) (by omega)) (⟨_,Tryz.func82,rfl,rfl⟩:Jg Tryz.prog 82) rfl rfl rfl rfl ?_|refine JG.rd (UN (Jy p.rules j).cells (i:Int) (by omega)) (⟨_,Tryz.func82,rfl,rfl⟩:Jg Tryz.prog 82) rfl rfl rfl rfl ?_
     simp(maxSteps:=999999)(disch:=omega)only[go_sem,zA,zM,zS,zE,zL]
     ((with_reducible first|refine JL ?_ ?_|refine JD ?_ ?_|refine JT ?_ ?_|refine Jv ?_ ?_|refine JJ ?_ ?_|refine JK ?_ ?_|refine JB ?_ ?_|refine JC ?_ ?_|refine JR ?_ ?_|refine JS ?_ ?_|refine Jw ?_ ?_|refine Jx ?_ ?_)<;>intro d1<;>simp(maxSteps:=999999)(disch:=omega)only[go_sem,zA,zM,zS,zE,zL,d1])
     · first|refine JU.rd (hch) (⟨_,Tryz.func94,rfl,rfl⟩:Jg Tryz.prog 94) rfl rfl rfl rfl ?_|refine JG.rd (hch) (⟨_,Tryz.func94,rfl,rfl⟩:Jg Tryz.prog 94) rfl rfl rfl rfl ?_
       simp(maxSteps:=999999)(disch:=omega)only[go_sem,zA,zM,zS,zE,zL]
       ((first|(with_reducible first|refine Jm ?_ ?_|refine Jj ?_ ?_|refine Jo ?_ ?_)|refine Jr ?_ ?_)<;>intro d2)
       · simp(maxSteps:=999999)(disch:=omega)only[go_sem,zA,zM,zS,zE,zL]
         exact⟨j+1,⟨⟨by omega,hgo (by simp[d2])⟩,by omega⟩,by push_cast;omega,J5.app _ _⟩
       · simp(maxSteps:=999999)(disch:=omega)only[go_sem,zA,zM,zS,zE,zL]
         have:p.rules.all (fun r=> !r.cells.contains (i:Int)||Q9 r xs n)=false:=by
          rw[List.all_eq_false]
          exact⟨_,hmem,by simp[d1,d2]⟩
         unfold Xi
         rw[this,Bool.and_false]
     · exact⟨j+1,⟨⟨by omega,hgo (by simp[d1])⟩,by omega⟩,by push_cast;omega,J5.app _ _⟩
   · have hall:p.rules.all (fun r=> !r.cells.contains (i:Int)||Q9 r xs n)=true:=by
      rw[List.all_eq_true]
      intro r hr
      obtain⟨m,hm,rfl⟩:=List.mem_iff_getElem.1 hr
      have:=hyes m (by omega)
      rwa [Qe (by omega)]at this
     simp(maxSteps:=999999)(disch:=omega)only[go_sem,zA,zM,zS,zE,zL]
     unfold Xi
     rw[hD,hall]
     rfl
end Go.Lg

namespace Go.Lg
open Go.Proofs
theorem ZI{n:Nat}(hn:n=2∨n=3∨n=4)(ms:List Nat)(hm:XG ms n):JM Tryz.prog 156 [QF (JN ms),int n] (bool true):=by
 have hsq:4≤n*n∧n*n≤16:=by rcases hn with rfl|rfl|rfl<;>omega
 have hsi:(n:Int)*n=((n*n:Nat):Int):=by push_cast;rfl
 have hl:(JN ms).length=n*n:=by rw[Qm];exact hm.len
 have hpw:=Jcu hn
 have d0:decide (((0:Nat):Int)=0)=true:=rfl
 have hnn:decide (2≤(n:Int)∧(n:Int)≤4)=true:=decide_eq_true (by omega)
 refine Jk.cw (c:=_) Tryz.func156 rfl (n:=34) Tryz.ntmps156 (rs:=[.tmp 4]) rfl ?_
 simp only[Ja,Je,zA,zS,Jf,Jb,Jd]
 simp(maxSteps:=999999)(disch:=omega)only[go_sem,zA,zM,zS,zE,zL]
 first|refine JU.rd (Vz n) (⟨_,Tryz.func96,rfl,rfl⟩:Jg Tryz.prog 96) rfl rfl rfl rfl ?_|refine JG.rd (Vz n) (⟨_,Tryz.func96,rfl,rfl⟩:Jg Tryz.prog 96) rfl rfl rfl rfl ?_
 simp(maxSteps:=999999)(disch:=omega)only[go_sem,zA,zM,zS,zE,zL]
 rw[hnn]
 simp(maxSteps:=999999)(disch:=omega)only[go_sem,zA,zM,zS,zE,zL]
 ((first|(with_reducible first|refine Jm ?_ ?_|refine Jj ?_ ?_|refine Jo ?_ ?_)|refine Jr ?_ ?_)<;>intro h1)
 rotate_left
 · exfalso;rw[hsi,hl]at h1;exact h1 rfl
 simp(maxSteps:=999999)(disch:=omega)only[go_sem,zA,zM,zS,zE,zL]
 refine JO (fun k:Nat=>n*n -k) (fun k=>k≤n*n) (fun k=>[.a, .k, .a, .a, .a, .a, .a, .a, .a, .a, .a, .a, .a, .a, .a, .a, .a, .a, .k, .k, .p (int k), .a, .a, .a, .a, .a, .a, .a, .a, .a, .a, .a, .a, .a]) (fun _=>[]) 0 (Nat.zero_le _) (by simp(maxSteps:=999999)(disch:=omega)only[go_sem,zA,zM,zS,zE,zL];rfl) (J9 _) ?_
 intro k hk
 simp(maxSteps:=999999)(disch:=omega)only[go_sem,zA,zM,zS,zE,zL]
 ((first|(with_reducible first|refine Jm ?_ ?_|refine Jj ?_ ?_|refine Jo ?_ ?_)|refine Jr ?_ ?_)<;>intro h2)
 · have h2:k<n*n:=by omega
   have hv:=hm.at k
   have hnk:=Q4 ms k
   have hc:Uv .andNot .i64 ((QH ms k:Nat):Int) (((2^(n+1) -2:Nat)):Int)=((Bv (QH ms k) (2^(n+1) -2):Nat):Int):=Vl (by omega) (by omega)
   have hz:Bv (QH ms k) (2^(n+1) -2)=0:=by
    obtain⟨v1,v2⟩:=hv
    have key:∀n:Nat,(n=2∨n=3∨n=4)→∀a:Nat,a≤2^(n+1) -2→a%2=0→Bv a (2^(n+1) -2)=0:=by
     rintro n (rfl|rfl|rfl)
     · have:∀a:Nat,a<7→a%2=0→Bv a 6=0:=by decide
       exact fun a h1 h2=>this a (by omega) h2
     · have:∀a:Nat,a<15→a%2=0→Bv a 14=0:=by decide
       exact fun a h1 h2=>this a (by omega) h2
     · have:∀a:Nat,a<31→a%2=0→Bv a 30=0:=by decide
       exact fun a h1 h2=>this a (by omega) h2
    exact key n hn _ v1 v2
   rw[hz]at hc
   simp(maxSteps:=999999)(disch:=omega)only[go_sem,zA,zM,zS,zE,zL,hnk]
   ((with_reducible first|refine JL ?_ ?_|refine JD ?_ ?_|refine JT ?_ ?_|refine Jv ?_ ?_|refine JJ ?_ ?_|refine JK ?_ ?_|refine JB ?_ ?_|refine JC ?_ ?_|refine JR ?_ ?_|refine JS ?_ ?_|refine Jw ?_ ?_|refine Jx ?_ ?_)<;>intro h3<;>simp(maxSteps:=999999)(disch:=omega)only[go_sem,zA,zM,zS,zE,zL,h3])
   · exfalso;omega
   first|refine JU.rd (UX hn) (⟨_,Tryz.func111,rfl,rfl⟩:Jg Tryz.prog 111) rfl rfl rfl rfl ?_|refine JG.rd (UX hn) (⟨_,Tryz.func111,rfl,rfl⟩:Jg Tryz.prog 111) rfl rfl rfl rfl ?_
   simp(maxSteps:=999999)(disch:=omega)only[go_sem,zA,zM,zS,zE,zL]
   simp(maxSteps:=999999)(disch:=omega)only[go_sem,zA,zM,zS,zE,zL,hc,d0,Bool.not_true]
   exact⟨k+1,⟨by omega,by omega⟩,by push_cast;omega,J9 _⟩
 · simp(maxSteps:=999999)(disch:=omega)only[go_sem,zA,zM,zS,zE,zL]
theorem Wm(m:Nat)(hm:m≤30):JM Tryz.prog 81 [int m] (int (ZH m:Nat)):=by
 refine Jk.cw (c:=_) Tryz.func81 rfl (n:=13) Tryz.ntmps81 (rs:=[.tmp 2]) rfl ?_
 simp only[Ja,Je,zA,zS,Jf,Jb,Jd]
 simp(maxSteps:=999999)(disch:=omega)only[go_sem,zA,zM,zS,zE,zL]
 refine JO (fun v:Nat=>5 -v) (fun v=>1≤v∧v≤5∧∀u:Nat,1≤u→u<v→m≠2^u) (fun v=>[.k, .a, .a, .p (int v), .a, .a, .a, .a, .a, .a, .a, .a, .a]) (fun _=>[]) 1 ⟨by omega,by omega,fun u h1 h2=>by omega⟩ (by simp(maxSteps:=999999)(disch:=omega)only[go_sem,zA,zM,zS,zE,zL];rfl) (J9 _) ?_
 rintro v ⟨hv1,hv2,hno⟩
 simp(maxSteps:=999999)(disch:=omega)only[go_sem,zA,zM,zS,zE,zL]
 ((first|(with_reducible first|refine Jm ?_ ?_|refine Jj ?_ ?_|refine Jo ?_ ?_)|refine Jr ?_ ?_)<;>intro h1)
 · have h1:v≤4:=by omega
   have hs:=Uz (v:=(v:Int)) (by omega)
   rw[Int.toNat_natCast]at hs
   simp(maxSteps:=999999)(disch:=omega)only[go_sem,zA,zM,zS,zE,zL,hs]
   ((first|(with_reducible first|refine Jm ?_ ?_|refine Jj ?_ ?_|refine Jo ?_ ?_)|refine Jr ?_ ?_)<;>intro h2)
   · have h2:m=2^v:=by exact_mod_cast h2
     have hov:ZH m=v:=by
      rw[h2]
      have:v=1∨v=2∨v=3∨v=4:=by omega
      rcases this with rfl|rfl|rfl|rfl<;>rfl
     simp(maxSteps:=999999)(disch:=omega)only[go_sem,zA,zM,zS,zE,zL]
     rw[hov]
   · simp(maxSteps:=999999)(disch:=omega)only[go_sem,zA,zM,zS,zE,zL]
     refine⟨v+1,⟨⟨by omega,by omega,fun u u1 u2=> ?_⟩,by omega⟩,by push_cast;rfl,J9 _⟩
     by_cases huv:u=v
     · rw[huv];intro h;exact h2 (by rw[h])
     · exact hno u u1 (by omega)
 · have hve:v=5:=by omega
   subst hve
   have h1:=hno 1 (by omega) (by omega)
   have h2:=hno 2 (by omega) (by omega)
   have h3:=hno 3 (by omega) (by omega)
   have h4:=hno 4 (by omega) (by omega)
   have hov:ZH m=0:=by
    unfold ZH
    rw[if_neg h1,if_neg h2,if_neg h3,if_neg h4]
   simp(maxSteps:=999999)(disch:=omega)only[go_sem,zA,zM,zS,zE,zL]
   rw[hov]
   rfl
theorem F2(xs:List Int)(hx:xs.length≤2^40)(h0:xs≠[]):Jk Tryz.prog 89 [QF xs] [] (RX (eI .i64) 1 xs):=by
 have hp:0<xs.length:=List.length_pos_iff.2 h0
 refine Jk.cw (c:=_) Tryz.func89 rfl (n:=8) Tryz.ntmps89 (rs:=[.tmp 2]) rfl ?_
 simp only[Ja,Je,zA,zS,Jf,Jb,Jd]
 simp(maxSteps:=999999)(disch:=omega)only[go_sem,zA,zM,zS,zE,zL,JbL WG rfl hp]
 intro g g'
 rw[Nat.zero_add]
 exact ZK (E:=eI .i64) (n:=1) (J5.refl _)
def Zz(p:QR):List Nat:=p.given.map fun v=>if 0<v then 2^v.toNat else 2^(p.size.toNat+1) -2
theorem Bx{p:QR}{k:Nat}(h:k<p.given.length):QH (Zz p) k=if 0<Jy p.given k then 2^(Jy p.given k).toNat else 2^(p.size.toNat+1) -2:=by
 unfold QH Zz
 rw[Qe (by omega)]
 simp only[List.getD,Qk,Jl h,Int.toNat_natCast,Option.map_some,Option.getD_some]
theorem Bw{p:QR}{n:Nat}(hp:Uq p n)(hg:Zd p.given n):XG (Zz p) n:=by
 refine⟨by unfold Zz;rw[Qi];exact hg.len,fun m hm=> ?_⟩
 unfold Zz at hm
 obtain⟨v,hv,rfl⟩:=Qg.1 hm
 obtain⟨k,hk,rfl⟩:=List.mem_iff_getElem.1 hv
 have hb:=hg.val k hk
 rw[Qe (by omega)]at hb
 simp only[Int.toNat_natCast]at hb
 have hz:p.size.toNat=n:=by rw[hp.size];rfl
 have hn:=hp.hn
 rw[hz]
 generalize p.given[k]=v at hb
 obtain⟨u,rfl⟩:∃u:Nat,v=u:=⟨v.toNat,by omega⟩
 have hu:u≤n:=by omega
 rcases hn with rfl|rfl|rfl
 · have:u=0∨u=1∨u=2:=by omega
   rcases this with rfl|rfl|rfl<;>decide
 · have:u=0∨u=1∨u=2∨u=3:=by omega
   rcases this with rfl|rfl|rfl|rfl<;>decide
 · have:u=0∨u=1∨u=2∨u=3∨u=4:=by omega
   rcases this with rfl|rfl|rfl|rfl|rfl<;>decide
set_option maxHeartbeats 2000000 in
theorem Km{p:QR}{n:Nat}(hp:Uq p n)(hv:JA p=true)(hg:Zd p.given n):JM Tryz.prog 79 [aP p] (QF (JN (Zz p))):=by
 have hn:=hp.hn
 have hsq:4≤n*n∧n*n≤16:=by rcases hn with rfl|rfl|rfl<;>omega
 have hz:=hp.size
 have hl:=hg.len
 have hpw:=Jcu hn
 have hsl:(Zz p).length=p.given.length:=by simp[Zz]
 refine JM.ice (Q:=fun v H'=>Vu H' v=some (QF (JN (Zz p)))) ?_ (fun r H' h=>h)
 refine Jk.cw (c:=_) Tryz.func79 rfl (n:=36) Tryz.ntmps79 (rs:=[.tmp 2]) rfl ?_
 simp only[Ja,Je,zA,zS,Jf,Jb,Jd]
 simp(maxSteps:=999999)(disch:=omega)only[go_sem,zA,zM,zS,zE,zL]
 intro g1
 first|refine JU.rd (Qq p hp.sm) (⟨_,Tryz.func41,rfl,rfl⟩:Jg Tryz.prog 41) rfl rfl rfl rfl ?_|refine JG.rd (Qq p hp.sm) (⟨_,Tryz.func41,rfl,rfl⟩:Jg Tryz.prog 41) rfl rfl rfl rfl ?_
 simp(maxSteps:=999999)(disch:=omega)only[go_sem,zA,zM,zS,zE,zL]
 rw[hv]
 simp(maxSteps:=999999)(disch:=omega)only[go_sem,zA,zM,zS,zE,zL]
 intro g2
 refine Qx (fun(k:Nat) (b:List Nat)=>p.given.length -k) (fun k b=>k≤p.given.length∧b.length=p.given.length∧∀i,i<k→QH b i=QH (Zz p) i) (fun k b=>[.a, .k, .a, .k, .a, .a, .a, .a, .a, .a, .a, .a, .a, .a, .k, .k, .p (int k), .a, .a, .a, .a, .a, .a, .a, .a, .a, .a, .a, .a, .a, .a, .a, .a, .a, .a, .a]) (fun k b=>[some ⟨g1,1,cP p⟩,some ⟨g2,1,cl (eI .i64) (JN b)⟩]) 0 (Jf p.given.length 0) ⟨Nat.zero_le _,by simp,fun i hi=>absurd hi (Nat.not_lt_zero _)⟩ (by simp(maxSteps:=999999)(disch:=omega)only[go_sem,zA,zM,zS,zE,zL];rfl) (ZY rfl (ZY (by rw[Rh]) (J9 _))) ?_
 rintro k b ⟨hk,hbl,hbi⟩
 simp(maxSteps:=999999)(disch:=omega)only[go_sem,zA,zM,zS,zE,zL]
 ((first|(with_reducible first|refine Jm ?_ ?_|refine Jj ?_ ?_|refine Jo ?_ ?_)|refine Jr ?_ ?_)<;>intro h1)
 · have h1:k<p.given.length:=by omega
   have hav:=Bx h1
   have hzn:p.size.toNat=n:=by rw[hz];rfl
   rw[hzn]at hav
   have hgv:=hg.val k h1
   have hnb:∀v:Nat,(JN b).set k ((v:Nat):Int)=JN (b.set k v):=Vr b k
   have hnl:∀b:List Nat,(JN b).length=b.length:=Qm
   have hstep:∀c:List Nat,c.length=p.given.length→(∀i,i≠k→QH c i=QH b i)→QH c k=QH (Zz p) k→∀i,i<k+1→QH c i=QH (Zz p) i:=fun c hc h1 h2 i hi=>by
    by_cases hik:i=k
    · rw[hik];exact h2
    · rw[h1 i hik];exact hbi i (by omega)
   simp(maxSteps:=999999)(disch:=omega)only[go_sem,zA,zM,zS,zE,zL]
   rw[hz]
   first|refine JU.rd (UX hn) (⟨_,Tryz.func111,rfl,rfl⟩:Jg Tryz.prog 111) rfl rfl rfl rfl ?_|refine JG.rd (UX hn) (⟨_,Tryz.func111,rfl,rfl⟩:Jg Tryz.prog 111) rfl rfl rfl rfl ?_
   simp(maxSteps:=999999)(disch:=omega)only[go_sem,zA,zM,zS,zE,zL]
   simp(maxSteps:=999999)(disch:=omega)only[go_sem,zA,zM,zS,zE,zL,hnl,Vo]
   ((first|(with_reducible first|refine Jm ?_ ?_|refine Jj ?_ ?_|refine Jo ?_ ?_)|refine Jr ?_ ?_)<;>intro h2)
   · rw[if_pos h2]at hav
     have hs:=Uz (v:=Jy p.given k) (by omega)
     have hsr2:∀v u:Nat,J6 (cl (eI .i64) (JN (b.set k v))) (0+((k:Nat):Int).toNat*1) [CV.f (.int .i64 ((u:Nat):Int))]=cl (eI .i64) (JN ((b.set k v).set k u)):=fun v u=>Vo (by rw[Jp];omega)
     simp(maxSteps:=999999)(disch:=omega)only[go_sem,zA,zM,zS,zE,zL,hnl,hs,hsr2]
     refine⟨k+1,_,⟨⟨by omega, ?_,hstep _ ?_ (fun i hi=> ?_) ?_⟩,by omega⟩,by push_cast;rfl,J5.refl _⟩
     · rw[Jp,Jp];exact hbl
     · rw[Jp,Jp];exact hbl
     · rw[WJ (by rw[Jp];omega),if_neg hi,WJ (by omega),if_neg hi]
     · rw[WJ (by rw[Jp];omega),if_pos rfl,hav]
   · rw[if_neg h2]at hav
     simp(maxSteps:=999999)(disch:=omega)only[go_sem,zA,zM,zS,zE,zL]
     refine⟨k+1,_,⟨⟨by omega, ?_,hstep _ ?_ (fun i hi=> ?_) ?_⟩,by omega⟩,by push_cast;rfl,J5.refl _⟩
     · rw[Jp];exact hbl
     · rw[Jp];exact hbl
     · rw[WJ (by omega),if_neg hi]
     · rw[WJ (by omega),if_pos rfl,hav]
 · have hke:k=p.given.length:=by omega
   have hb:b=Zz p:=Je7 (by omega) fun i hi=>hbi i (by omega)
   subst hb
   simp(maxSteps:=999999)(disch:=omega)only[go_sem,zA,zM,zS,zE,zL]
   have hnl:p.given.length=(JN (Zz p)).length:=by rw[Qm,hsl]
   rw[hnl]
   exact⟨_,J5.refl _,XV (E:=eI .i64) (n:=1) (Qj (b:=⟨g2,1,cl (eI .i64) (JN (Zz p))⟩) rfl)⟩
set_option maxHeartbeats 2000000 in
theorem Yx{p:QR}{n:Nat}(hp:Uq p n)(hv:JA p=true)(hg:Zd p.given n):JM Tryz.prog 105 [aP p] (QF (JN (Zz p))):=by
 have hn:=hp.hn
 have hsq:4≤n*n∧n*n≤16:=by rcases hn with rfl|rfl|rfl<;>omega
 have hz:=hp.size
 have hl:=hg.len
 have hpw:=Jcu hn
 have hsl:(Zz p).length=p.given.length:=by simp[Zz]
 refine JM.ice (Q:=fun v H'=>Vu H' v=some (QF (JN (Zz p)))) ?_ (fun r H' h=>h)
 refine Jk.cw (c:=_) Tryz.func105 rfl (n:=41) Tryz.ntmps105 (rs:=[.tmp 2]) rfl ?_
 simp only[Ja,Je,zA,zS,Jf,Jb,Jd]
 simp(maxSteps:=999999)(disch:=omega)only[go_sem,zA,zM,zS,zE,zL]
 intro g1 g2
 refine Qx (fun(k g:Nat)=>p.given.length -k) (fun k g=>k≤p.given.length) (fun k g=>[.a, .k, .a, .p (.c (.own 1 g 0 k none)), .p (int k), .a, .a, .a, .a, .a, .a, .a, .a, .a, .a, .a, .a, .a, .a, .a, .a, .a, .a, .a, .a, .a, .a, .a, .a, .a, .a, .a, .a, .a, .a, .a, .a, .a, .a, .a, .a]) (fun k g=>[some ⟨g1,1,cP p⟩,some ⟨g,1,cl (eI .i64) (JN ((Zz p).take k))⟩]) 0 g2 (Nat.zero_le _) (by simp(maxSteps:=999999)(disch:=omega)only[go_sem,zA,zM,zS,zE,zL];rfl) (J5.refl _) ?_
 intro k g hk
 have htl:(JN ((Zz p).take k)).length=k:=by rw[Qm,JX];omega
 simp(maxSteps:=999999)(disch:=omega)only[go_sem,zA,zM,zS,zE,zL]
 ((with_reducible first|refine JL ?_ ?_|refine JD ?_ ?_|refine JT ?_ ?_|refine Jv ?_ ?_|refine JJ ?_ ?_|refine JK ?_ ?_|refine JB ?_ ?_|refine JC ?_ ?_|refine JR ?_ ?_|refine JS ?_ ?_|refine Jw ?_ ?_|refine Jx ?_ ?_)<;>intro h1<;>simp(maxSteps:=999999)(disch:=omega)only[go_sem,zA,zM,zS,zE,zL,h1])
 · first|refine JU.rd (Qt p hp.sm) (⟨_,Tryz.func38,rfl,rfl⟩:Jg Tryz.prog 38) rfl rfl rfl rfl ?_|refine JG.rd (Qt p hp.sm) (⟨_,Tryz.func38,rfl,rfl⟩:Jg Tryz.prog 38) rfl rfl rfl rfl ?_
   simp(maxSteps:=999999)(disch:=omega)only[go_sem,zA,zM,zS,zE,zL]
   rw[hv]
   have h1:k<p.given.length:=by omega
   have hav:=Bx h1
   have hzn:p.size.toNat=n:=by rw[hz];rfl
   rw[hzn]at hav
   have hgv:=hg.val k h1
   have hts:=Jkf (ms:=Zz p) (k:=k) (by omega)
   simp(maxSteps:=999999)(disch:=omega)only[go_sem,zA,zM,zS,zE,zL]
   ((first|(with_reducible first|refine Jm ?_ ?_|refine Jj ?_ ?_|refine Jo ?_ ?_)|refine Jr ?_ ?_)<;>intro h2)
   · rw[if_pos h2]at hav
     have hs:=Uz (v:=Jy p.given k) (by omega)
     simp(maxSteps:=999999)(disch:=omega)only[go_sem,zA,zM,zS,zE,zL,hs]
     intro g3 g4
     exact⟨k+1,g4,⟨by omega,by omega⟩,⟨⟨rfl,rfl⟩,by push_cast;rfl⟩,ZY rfl (ZY (by rw[hts,hav]) (J9 _))⟩
   · rw[if_neg h2]at hav
     have hs:=JeQ hn
     rw[←hz]at hs
     simp(maxSteps:=999999)(disch:=omega)only[go_sem,zA,zM,zS,zE,zL,hs]
     have e:((2^(n+1) -2:Nat):Int)=((2^(n+1):Nat):Int) -2:=by omega
     intro g3 g4
     exact⟨k+1,g4,⟨by omega,by omega⟩,⟨⟨rfl,rfl⟩,by push_cast;rfl⟩,ZY rfl (ZY (by rw[hts,hav,e]) (J9 _))⟩
 · have hke:k=p.given.length:=by omega
   subst hke
   rw[Js (by omega)]at htl⊢
   have hfr:=XV (E:=eI .i64) (n:=1) (lim:=none) (H:=[some ⟨g1,1,cP p⟩,some ⟨g,1,cl (eI .i64) (JN (Zz p))⟩]) (Qj (b:=⟨g,1,cl (eI .i64) (JN (Zz p))⟩) (id:=1) rfl)
   rw[htl]at hfr
   exact⟨_,J5.refl _,hfr⟩
end Go.Lg
