/- GpEE, GpMB, cut to what is needed. -/
import Derived.Test.YtidekghnkifbjaaGreatDoorJec5
import Derived.Test.YtidekghnkifbjaaGreatDoorJeb3
import Derived.Test.YtidekghnkifbjaaGreatDoorJeb9
open List renaming cons_append → Jb, nil_append → Jc, replicate → Jd, length_cons → Je, length_nil → Jf, length_set → Jo, getElem?_eq_getElem → Jq, take_of_length_le → Js, length_take → JP, mem_map → Qj, length_map → Qs, getElem?_map → Qv
open Nat renaming reduceAdd→zA,reduceMul→zM,reduceSub→zS,reduceEqDiff→zE,reduceLeDiff→zL
set_option linter.unusedSimpArgs false
set_option linter.unusedVariables false
set_option maxRecDepth 100000
namespace Go.Lg
open Go.Proofs
theorem Ux.sm{p:Q4}{n:Nat}(hp:Ux p n):Rf p:=by
 have hsq:n*n≤16:=by rcases hp.hn with rfl|rfl|rfl<;>omega
 have:=hp.len
 have:=hp.rl
 refine⟨by omega,by omega,fun r hr=> ?_⟩
 have:=(Q9 (hp.rv r hr)).1
 omega
theorem KU{p:Q4}{n:Nat}(hp:Ux p n)(hv:JB p=true)(xs:List Int)(hg:Zk xs n):JW Tryz.prog 50 [aP p,QO xs] (bool (QT p xs n)):=by
 have hn:=hp.hn
 have hz:=hp.size
 have hgl:=hp.len
 have hxl:=hg.len
 have hrl:=hp.rl
 have hsq:n*n≤16:=by rcases hn with rfl|rfl|rfl<;>omega
 refine Jn.cw (c:=_) Tryz.func50 rfl (n:=60) Tryz.ntmps50 (rs:=[.tmp 4]) rfl ?_
 simp only[Je,Jf,zA,zS,Jd,Jb,Jc]
 simp(maxSteps:=999999)(disch:=omega)only[go_sem,zA,zM,zS,zE,zL]
 intro g
 first|refine JZ.rd (Qx p hp.sm) (⟨_,Tryz.func41,rfl,rfl⟩:Ji Tryz.prog 41) rfl rfl rfl rfl ?_|refine JK.rd (Qx p hp.sm) (⟨_,Tryz.func41,rfl,rfl⟩:Ji Tryz.prog 41) rfl rfl rfl rfl ?_
 simp(maxSteps:=999999)(disch:=omega)only[go_sem,zA,zM,zS,zE,zL]
 ((with_reducible first|refine JJ ?_ ?_|refine JF ?_ ?_|refine JU ?_ ?_|refine Jw ?_ ?_|refine JH ?_ ?_|refine JI ?_ ?_|refine JD ?_ ?_|refine JE ?_ ?_|refine JS ?_ ?_|refine JT ?_ ?_|refine Jy ?_ ?_|refine Jz ?_ ?_)<;>intro c1<;>simp(maxSteps:=999999)(disch:=omega)only[go_sem,zA,zM,zS,zE,zL,c1])
 rotate_left
 · exfalso;rw[hv]at c1;cases c1
 have hsf:=KQ hn xs hg
 rw[←hz]at hsf
 first|refine JZ.rd (hsf) (⟨_,Tryz.func93,rfl,rfl⟩:Ji Tryz.prog 93) rfl rfl rfl rfl ?_|refine JK.rd (hsf) (⟨_,Tryz.func93,rfl,rfl⟩:Ji Tryz.prog 93) rfl rfl rfl rfl ?_
 simp(maxSteps:=999999)(disch:=omega)only[go_sem,zA,zM,zS,zE,zL]
 ((first|(with_reducible first|refine Jl ?_ ?_|refine Jj ?_ ?_|refine Jp ?_ ?_)|refine Jr ?_ ?_)<;>intro c2)
 rotate_left
 · have c2:UL xs n=true:=by simpa using c2
   simp(maxSteps:=999999)(disch:=omega)only[go_sem,zA,zM,zS,zE,zL]
   simp[QT,c2]
 have c2:UL xs n=false:=by simpa using c2
 simp(maxSteps:=999999)(disch:=omega)only[go_sem,zA,zM,zS,zE,zL]
 refine JY (fun k:Nat=>xs.length -k) (fun k=>k≤xs.length∧∀j:Nat,j<k→¬(0<JA p.given j∧0<JA xs j∧JA xs j≠JA p.given j)) (fun k=>[.a, .k, .k, .a, .a, .a, .a, .a, .a, .a, .a, .a, .a, .a, .a, .a, .a, .a, .a, .k, .k, .p (int k), .a, .a, .a, .a, .a, .a, .a, .a, .a, .a, .a, .a, .a, .a, .a, .a, .a, .a, .a, .a, .a, .a, .a, .a, .a, .a, .a, .a, .a, .a, .a, .a, .a, .a, .a, .a, .a, .a]) (fun _=>[some ⟨g,1,cP p⟩]) 0 ⟨Nat.zero_le _,fun j hj=>absurd hj (Nat.not_lt_zero _)⟩ (by simp(maxSteps:=999999)(disch:=omega)only[go_sem,zA,zM,zS,zE,zL];rfl) (J0.refl _) ?_
 rintro k ⟨hk,hno⟩
 simp(maxSteps:=999999)(disch:=omega)only[go_sem,zA,zM,zS,zE,zL]
 ((first|(with_reducible first|refine Jl ?_ ?_|refine Jj ?_ ?_|refine Jp ?_ ?_)|refine Jr ?_ ?_)<;>intro h1)
 · have h1:k<xs.length:=by omega
   have hgo:¬(0<JA p.given k∧0<JA xs k∧JA xs k≠JA p.given k)→∀j:Nat,j<k+1→¬(0<JA p.given j∧0<JA xs j∧JA xs j≠JA p.given j):=fun h j hj=>by
    by_cases hjk:j=k
    · rw[hjk];exact h
    · exact hno j (by omega)
   simp(maxSteps:=999999)(disch:=omega)only[go_sem,zA,zM,zS,zE,zL]
   ((with_reducible first|refine JJ ?_ ?_|refine JF ?_ ?_|refine JU ?_ ?_|refine Jw ?_ ?_|refine JH ?_ ?_|refine JI ?_ ?_|refine JD ?_ ?_|refine JE ?_ ?_|refine JS ?_ ?_|refine JT ?_ ?_|refine Jy ?_ ?_|refine Jz ?_ ?_)<;>intro d1<;>simp(maxSteps:=999999)(disch:=omega)only[go_sem,zA,zM,zS,zE,zL,d1])
   · ((with_reducible first|refine JJ ?_ ?_|refine JF ?_ ?_|refine JU ?_ ?_|refine Jw ?_ ?_|refine JH ?_ ?_|refine JI ?_ ?_|refine JD ?_ ?_|refine JE ?_ ?_|refine JS ?_ ?_|refine JT ?_ ?_|refine Jy ?_ ?_|refine Jz ?_ ?_)<;>intro d2<;>simp(maxSteps:=999999)(disch:=omega)only[go_sem,zA,zM,zS,zE,zL,d2])
     · ((first|(with_reducible first|refine Jl ?_ ?_|refine Jj ?_ ?_|refine Jp ?_ ?_)|refine Jr ?_ ?_)<;>intro d3)
       · simp(maxSteps:=999999)(disch:=omega)only[go_sem,zA,zM,zS,zE,zL]
         exact⟨k+1,⟨⟨by omega,hgo fun h=>h.2.2 d3⟩,by omega⟩,by push_cast;omega,J0.refl _⟩
       · simp(maxSteps:=999999)(disch:=omega)only[go_sem,zA,zM,zS,zE,zL]
         have:clear p xs=false:=by
          simp only[clear,decide_eq_false_iff_not]
          exact fun h=>h k h1 ⟨d2,d1,d3⟩
         simp[QT,this]
     · exact⟨k+1,⟨⟨by omega,hgo fun h=>d2 h.1⟩,by omega⟩,by push_cast;omega,J0.refl _⟩
   · exact⟨k+1,⟨⟨by omega,hgo fun h=>d1 h.2.1⟩,by omega⟩,by push_cast;omega,J0.refl _⟩
 · have hcl:clear p xs=true:=by
    simp only[clear,decide_eq_true_eq]
    exact fun j hj=>hno j (by omega)
   simp(maxSteps:=999999)(disch:=omega)only[go_sem,zA,zM,zS,zE,zL]
   refine JY (fun k:Nat=>p.rules.length -k) (fun k=>k≤p.rules.length∧∀j:Nat,j<k→Zn (JA p.rules j) xs n=true) (fun k=>[.a, .k, .k, .a, .a, .a, .a, .a, .a, .a, .a, .a, .a, .a, .a, .a, .a, .a, .a, .a, .a, .a, .a, .a, .a, .a, .a, .a, .a, .a, .a, .a, .a, .a, .a, .a, .a, .a, .a, .a, .a, .a, .a, .a, .a, .a, .a, .k, .k, .p (int k), .a, .a, .a, .a, .a, .a, .a, .a, .a, .a]) (fun _=>[some ⟨g,1,cP p⟩]) 0 ⟨Nat.zero_le _,fun j hj=>absurd hj (Nat.not_lt_zero _)⟩ (by simp(maxSteps:=999999)(disch:=omega)only[go_sem,zA,zM,zS,zE,zL];rfl) (J0.refl _) ?_
   rintro i ⟨hi,hyes⟩
   simp(maxSteps:=999999)(disch:=omega)only[go_sem,zA,zM,zS,zE,zL]
   ((first|(with_reducible first|refine Jl ?_ ?_|refine Jj ?_ ?_|refine Jp ?_ ?_)|refine Jr ?_ ?_)<;>intro h2)
   · have h2:i<p.rules.length:=by omega
     have hmem:JA p.rules i∈p.rules:=ZP h2
     simp(maxSteps:=999999)(disch:=omega)only[go_sem,zA,zM,zS,zE,zL]
     intro g2
     have hch:=Gd hn (JA p.rules i) xs (hp.rv _ hmem) hg
     rw[←hz]at hch
     first|refine JZ.rd (hch) (⟨_,Tryz.func94,rfl,rfl⟩:Ji Tryz.prog 94) rfl rfl rfl rfl ?_|refine JK.rd (hch) (⟨_,Tryz.func94,rfl,rfl⟩:Ji Tryz.prog 94) rfl rfl rfl rfl ?_
     simp(maxSteps:=999999)(disch:=omega)only[go_sem,zA,zM,zS,zE,zL]
     ((first|(with_reducible first|refine Jl ?_ ?_|refine Jj ?_ ?_|refine Jp ?_ ?_)|refine Jr ?_ ?_)<;>intro h3)
     · simp(maxSteps:=999999)(disch:=omega)only[go_sem,zA,zM,zS,zE,zL]
       refine⟨i+1,⟨⟨by omega,fun j hj=> ?_⟩,by omega⟩,by push_cast;omega,J0.app _ _⟩
       by_cases hji:j=i
       · rw[hji];exact h3
       · exact hyes j (by omega)
     · simp(maxSteps:=999999)(disch:=omega)only[go_sem,zA,zM,zS,zE,zL]
       have:p.rules.all (fun r=>Zn r xs n)=false:=by
        rw[List.all_eq_false]
        exact⟨_,hmem,by rw[h3];simp⟩
       simp[QT,this]
   · have hall:p.rules.all (fun r=>Zn r xs n)=true:=by
      rw[List.all_eq_true]
      intro r hr
      obtain⟨j,hj,rfl⟩:=List.mem_iff_getElem.1 hr
      have:=hyes j (by omega)
      rwa [Qt (by omega)]at this
     simp(maxSteps:=999999)(disch:=omega)only[go_sem,zA,zM,zS,zE,zL]
     simp[QT,hcl,hall,c2]
theorem cellB{n i k:Nat}(hn:n=2∨n=3∨n=4)(hin:i<n*n)(hk:k<n):i/n*n+k<n*n∧k*n+i%n<n*n:=by
 rcases hn with rfl|rfl|rfl<;>omega
theorem cellW{n i k:Nat}(hn:n=2∨n=3∨n=4)(hin:i<n*n)(hk:k<n):
 IntKind.i64.wrap (IntKind.i64.wrap (IntKind.i64.wrap ((i:Int).tdiv n)*n)+k)=((i/n*n+k:Nat):Int)∧IntKind.i64.wrap (IntKind.i64.wrap ((k:Int)*n)+(i:Int).tmod n)=((k*n+i%n:Nat):Int):=by
 have hw:∀x:Nat,x≤64→IntKind.i64.wrap (x:Int)=x:=fun x h=>Ku (by omega)
 have hd:(i:Int).tdiv n=((i/n:Nat):Int):=rfl
 have hm:(i:Int).tmod n=((i%n:Nat):Int):=rfl
 have b1:i/n≤64∧i/n*n≤64∧i/n*n+k≤64∧k*n≤64∧k*n+i%n≤64:=by rcases hn with rfl|rfl|rfl<;>omega
 rw[hd,hm,hw _ b1.1,←Int.natCast_mul,hw _ b1.2.1,←Int.natCast_add,hw _ b1.2.2.1,←Int.natCast_mul,hw _ b1.2.2.2.1,←Int.natCast_add,hw _ b1.2.2.2.2]
 exact⟨rfl,rfl⟩
theorem Jb8{p:Q4}{n:Nat}(hp:Ux p n)(xs:List Int)(hg:Zk xs n)(i:Nat)(hin:i<n*n):JW Tryz.prog 122 [aP p,QO xs,int i] (bool (XB p xs n i)):=by
 have hn:=hp.hn
 have hz:=hp.size
 have hxl:=hg.len
 have hrl:=hp.rl
 have hsq:n*n≤16:=by rcases hn with rfl|rfl|rfl<;>omega
 have hn0:0<n:=by omega
 have hn4:2≤n∧n≤4:=by omega
 have hdm:i/n<n∧i%n<n:=⟨Nat.div_lt_of_lt_mul hin,Nat.mod_lt _ hn0⟩
 have hdi:((i/n:Nat):Int)=(i:Int)/n:=rfl
 refine Jn.cw (c:=_) Tryz.func122 rfl (n:=74) Tryz.ntmps122 (rs:=[.tmp 6]) rfl ?_
 simp only[Je,Jf,zA,zS,Jd,Jb,Jc]
 simp(maxSteps:=999999)(disch:=omega)only[go_sem,zA,zM,zS,zE,zL]
 intro g
 rw[hz]
 refine JY (fun k:Nat=>n -k) (fun k=>k≤n∧∀j:Nat,j<k→(i/n*n+j≠i→JA xs ((i/n*n+j:Nat):Int)≠JA xs i)∧(j*n+i%n≠i→JA xs ((j*n+i%n:Nat):Int)≠JA xs i)) (fun k=>[.a, .k, .k, .k, .a, .a, .a, .k, .a, .a, .a, .a, .a, .a, .a, .k, .p (int k), .a, .a, .a, .a, .a, .a, .a, .a, .a, .a, .a, .a, .a, .a, .a, .a, .a, .a, .a, .a, .a, .a, .a, .a, .a, .a, .a, .a, .a, .a, .a, .a, .a, .a, .a, .a, .a, .a, .a, .a, .a, .a, .a, .a, .a, .a, .a, .a, .a, .a, .a, .a, .a, .a, .a, .a, .a]) (fun _=>[some ⟨g,1,cP p⟩]) 0 ⟨Nat.zero_le _,fun j hj=>absurd hj (Nat.not_lt_zero _)⟩ (by simp(maxSteps:=999999)(disch:=omega)only[go_sem,zA,zM,zS,zE,zL];rfl) (J0.refl _) ?_
 rintro k ⟨hk,hno⟩
 simp(maxSteps:=999999)(disch:=omega)only[go_sem,zA,zM,zS,zE,zL]
 ((first|(with_reducible first|refine Jl ?_ ?_|refine Jj ?_ ?_|refine Jp ?_ ?_)|refine Jr ?_ ?_)<;>intro h1)
 · have h1:k<n:=by omega
   obtain⟨c1,c2⟩:=cellW hn hin h1
   simp(maxSteps:=999999)(disch:=omega)only[go_sem,zA,zM,zS,zE,zL]
   refine Zj Zd (by kernel_rfl) ?_
   simp(maxSteps:=999999)(disch:=omega)only[go_sem,Nat.reduceBEq,Bool.true_or,zA,zM,zS,zE,zL]
   rw[c1,c2]
   obtain⟨b1,b2⟩:=cellB hn hin h1
   obtain⟨L,hL⟩:∃L:List Int,L=[((i/n*n+k:Nat):Int),((k*n+i%n:Nat):Int)]:=⟨_,rfl⟩
   have h1k:=h1
   have hL2:L.length=2:=by rw[hL];rfl
   have hLb:∀m:Nat,m<2→0≤JA L m∧JA L m<(n*n:Nat):=fun m hm=>by
    rw[hL]
    have:m=0∨m=1:=by omega
    rcases this with rfl|rfl
    · show(0:Int)≤((i/n*n+k:Nat):Int)∧((i/n*n+k:Nat):Int)<(n*n:Nat)
      omega
    · show(0:Int)≤((k*n+i%n:Nat):Int)∧((k*n+i%n:Nat):Int)<(n*n:Nat)
      omega
   have hfl:FV.sl 2 [FV.int .i64 ((i/n*n+k:Nat):Int),FV.int .i64 ((k*n+i%n:Nat):Int)]=J5 L:=by rw[hL];rfl
   rw[hfl]
   have hL0:JA L 0=((i/n*n+k:Nat):Int):=by rw[hL];rfl
   have hL1:JA L 1=((k*n+i%n:Nat):Int):=by rw[hL];rfl
   clear hL hfl
   refine JY (fun l:Nat=>2 -l) (fun l=>l≤2∧∀m:Nat,m<l→JA L m≠i→JA xs (JA L m)≠JA xs i) (fun l=>[.a, .k, .k, .k, .a, .a, .a, .k, .a, .a, .a, .a, .a, .a, .a, .k, .k, .a, .a, .a, .a, .a, .a, .a, .a, .a, .a, .a, .a, .a, .a, .a, .a, .k, .k, .p (int l), .a, .a, .a, .a, .a, .a, .a, .a, .a, .a, .a, .a, .a, .a, .a, .a, .a, .a, .a, .a, .a, .a, .a, .a, .a, .a, .a, .a, .a, .a, .a, .a, .a, .a, .a, .a, .a, .a]) (fun _=>[some ⟨g,1,cP p⟩]) 0 ⟨Nat.zero_le _,fun j hj=>absurd hj (Nat.not_lt_zero _)⟩ (by simp(maxSteps:=999999)(disch:=omega)only[go_sem,zA,zM,zS,zE,zL];rfl) (J0.refl _) ?_
   rintro l ⟨hl,hno2⟩
   simp(maxSteps:=999999)(disch:=omega)only[go_sem,zA,zM,zS,zE,zL]
   ((first|(with_reducible first|refine Jl ?_ ?_|refine Jj ?_ ?_|refine Jp ?_ ?_)|refine Jr ?_ ?_)<;>intro h2)
   · have h2:l<2:=by omega
     obtain⟨hb1,hb2⟩:=hLb l h2
     obtain⟨c,hc⟩:∃c:Nat,JA L l=c:=⟨(JA L l).toNat,by omega⟩
     have hcl:c<xs.length:=by omega
     have hil:i<xs.length:=by omega
     have hbad:c≠i→JA xs c=JA xs i→false=XB p xs n i:=fun h1 h2=>by
      have hrow:c/n=i/n∨c%n=i%n:=by
       have:l=0∨l=1:=by omega
       rcases this with rfl|rfl
       · left
         have e:(c:Int)=((i/n*n+k:Nat):Int):=by rw[←hc];exact hL0
         have e:c=i/n*n+k:=by omega
         rw[e]
         rw[Nat.mul_comm,Nat.mul_add_div hn0,Nat.div_eq_of_lt h1k,Nat.add_zero]
       · right
         have e:(c:Int)=((k*n+i%n:Nat):Int):=by rw[←hc];exact hL1
         have e:c=k*n+i%n:=by omega
         rw[e,Nat.mul_comm,Nat.mul_add_mod,Nat.mod_eq_of_lt hdm.2]
      have:decide (∀j:Nat,j<n*n→j≠i→(j/n=i/n∨j%n=i%n)→JA xs j≠JA xs i)=false:=decide_eq_false fun h=>h c (by omega) h1 hrow h2
      simp[XB,this]
     have hgo:(c≠i→JA xs c≠JA xs i)→∀m:Nat,m<l+1→JA L m≠i→JA xs (JA L m)≠JA xs i:=fun h m hm=>by
      by_cases hml:m=l
      · rw[hml,hc];exact fun h'=>h (by omega)
      · exact hno2 m (by omega)
     simp(maxSteps:=999999)(disch:=omega)only[go_sem,zA,zM,zS,zE,zL]
     rw[hc]
     by_cases a:(c:Int)=i
     · refine Zj Zd (by kernel_rfl) ?_
       simp(maxSteps:=999999)(disch:=omega)only[go_sem,zA,zM,zS,zE,zL,RY,NS]
       exact⟨l+1,⟨⟨by omega,hgo fun h=>absurd (by omega) h⟩,by omega⟩,by push_cast;omega,J0.refl _⟩
     · by_cases b:JA xs c=JA xs i
       · refine Zj Zd (by kernel_rfl) ?_
         simp(maxSteps:=999999)(disch:=omega)only[go_sem,zA,zM,zS,zE,zL,RY,NS]
         exact hbad (by omega) b
       · refine Zj Zd (by kernel_rfl) ?_
         simp(maxSteps:=999999)(disch:=omega)only[go_sem,zA,zM,zS,zE,zL,RY,NS]
         exact⟨l+1,⟨⟨by omega,hgo fun _=>b⟩,by omega⟩,by push_cast;omega,J0.refl _⟩
   · have hl2:l=2:=by omega
     simp(maxSteps:=999999)(disch:=omega)only[go_sem,zA,zM,zS,zE,zL]
     refine⟨k+1,⟨⟨by omega,fun j hj=> ?_⟩,by omega⟩,by push_cast;omega,J0.refl _⟩
     by_cases hjk:j=k
     · subst hjk
       have n0:=hno2 0 (by omega)
       have n1:=hno2 1 (by omega)
       simp only[Int.natCast_zero,Int.natCast_one,Int.cast_ofNat_Int]at n0 n1
       rw[hL0]at n0
       rw[hL1]at n1
       exact⟨fun h=>n0 (by omega),fun h=>n1 (by omega)⟩
     · exact hno j (by omega)
 · have hkn:k=n:=by omega
   have hD:decide (∀j:Nat,j<n*n→j≠i→(j/n=i/n∨j%n=i%n)→JA xs j≠JA xs i)=true:=by
    refine decide_eq_true fun j hj hji hl=> ?_
    have hjd:=Nat.div_add_mod j n
    rcases hl with hl|hl
    · have:=(hno (j%n) (by have:=Nat.mod_lt j hn0;omega)).1
      have e:i/n*n+j%n=j:=by rw[←hl,Nat.mul_comm];exact hjd
      rw[e]at this
      exact this hji
    · have:=(hno (j/n) (by have:=Nat.div_lt_of_lt_mul hj;omega)).2
      have e:j/n*n+i%n=j:=by rw[←hl,Nat.mul_comm];exact hjd
      rw[e]at this
      exact this hji
   simp(maxSteps:=999999)(disch:=omega)only[go_sem,zA,zM,zS,zE,zL]
   refine JY (fun k:Nat=>p.rules.length -k) (fun k=>k≤p.rules.length∧∀j:Nat,j<k→(!(JA p.rules j).cells.contains (i:Int)||Zn (JA p.rules j) xs n)=true) (fun k=>[.a, .k, .k, .a, .a, .a, .a, .k, .a, .a, .a, .a, .a, .a, .a, .a, .a, .a, .a, .a, .a, .a, .a, .a, .a, .a, .a, .a, .a, .a, .a, .a, .a, .a, .a, .a, .a, .a, .a, .a, .a, .a, .a, .a, .a, .a, .a, .a, .a, .a, .a, .a, .a, .a, .a, .a, .k, .k, .p (int k), .a, .a, .a, .a, .a, .a, .a, .a, .a, .a, .a, .a, .a, .a, .a]) (fun _=>[some ⟨g,1,cP p⟩]) 0 ⟨Nat.zero_le _,fun j hj=>absurd hj (Nat.not_lt_zero _)⟩ (by simp(maxSteps:=999999)(disch:=omega)only[go_sem,zA,zM,zS,zE,zL];rfl) (J0.refl _) ?_
   rintro j ⟨hj,hyes⟩
   simp(maxSteps:=999999)(disch:=omega)only[go_sem,zA,zM,zS,zE,zL]
   ((first|(with_reducible first|refine Jl ?_ ?_|refine Jj ?_ ?_|refine Jp ?_ ?_)|refine Jr ?_ ?_)<;>intro h2)
   · have h2:j<p.rules.length:=by omega
     have hmem:JA p.rules j∈p.rules:=ZP h2
     have hcl:=(Q9 (hp.rv _ hmem)).1
     have hch:=Gd hn (JA p.rules j) xs (hp.rv _ hmem) hg
     have hgo:(!(JA p.rules j).cells.contains (i:Int)||Zn (JA p.rules j) xs n)=true→∀m:Nat,m<j+1→(!(JA p.rules m).cells.contains (i:Int)||Zn (JA p.rules m) xs n)=true:=fun h m hm=>by
      by_cases hmj:m=j
      · rw[hmj];exact h
      · exact hyes m (by omega)
     simp(maxSteps:=999999)(disch:=omega)only[go_sem,zA,zM,zS,zE,zL]
     intro g2
     first|refine JZ.rd (U5 (JA p.rules j).cells (i:Int) (by omega)) (⟨_,Tryz.func82,rfl,rfl⟩:Ji Tryz.prog 82) rfl rfl rfl rfl ?_|refine JK.rd (U5 (JA p.rules j).cells (i:Int) (by omega)) (⟨_,Tryz.func82,rfl,rfl⟩:Ji Tryz.prog 82) rfl rfl rfl rfl ?_
     simp(maxSteps:=999999)(disch:=omega)only[go_sem,zA,zM,zS,zE,zL]
     ((with_reducible first|refine JJ ?_ ?_|refine JF ?_ ?_|refine JU ?_ ?_|refine Jw ?_ ?_|refine JH ?_ ?_|refine JI ?_ ?_|refine JD ?_ ?_|refine JE ?_ ?_|refine JS ?_ ?_|refine JT ?_ ?_|refine Jy ?_ ?_|refine Jz ?_ ?_)<;>intro d1<;>simp(maxSteps:=999999)(disch:=omega)only[go_sem,zA,zM,zS,zE,zL,d1])
     · first|refine JZ.rd (hch) (⟨_,Tryz.func94,rfl,rfl⟩:Ji Tryz.prog 94) rfl rfl rfl rfl ?_|refine JK.rd (hch) (⟨_,Tryz.func94,rfl,rfl⟩:Ji Tryz.prog 94) rfl rfl rfl rfl ?_
       simp(maxSteps:=999999)(disch:=omega)only[go_sem,zA,zM,zS,zE,zL]
       ((first|(with_reducible first|refine Jl ?_ ?_|refine Jj ?_ ?_|refine Jp ?_ ?_)|refine Jr ?_ ?_)<;>intro d2)
       · simp(maxSteps:=999999)(disch:=omega)only[go_sem,zA,zM,zS,zE,zL]
         exact⟨j+1,⟨⟨by omega,hgo (by simp[d2])⟩,by omega⟩,by push_cast;omega,J0.app _ _⟩
       · simp(maxSteps:=999999)(disch:=omega)only[go_sem,zA,zM,zS,zE,zL]
         have:p.rules.all (fun r=> !r.cells.contains (i:Int)||Zn r xs n)=false:=by
          rw[List.all_eq_false]
          exact⟨_,hmem,by simp[d1,d2]⟩
         unfold XB
         rw[this,Bool.and_false]
     · exact⟨j+1,⟨⟨by omega,hgo (by simp[d1])⟩,by omega⟩,by push_cast;omega,J0.app _ _⟩
   · have hall:p.rules.all (fun r=> !r.cells.contains (i:Int)||Zn r xs n)=true:=by
      rw[List.all_eq_true]
      intro r hr
      obtain⟨m,hm,rfl⟩:=List.mem_iff_getElem.1 hr
      have:=hyes m (by omega)
      rwa [Qt (by omega)]at this
     simp(maxSteps:=999999)(disch:=omega)only[go_sem,zA,zM,zS,zE,zL]
     unfold XB
     rw[hD,hall]
     rfl
end Go.Lg

namespace Go.Lg
open Go.Proofs
theorem ZU{n:Nat}(hn:n=2∨n=3∨n=4)(ms:List Nat)(hm:XT ms n):JW Tryz.prog 156 [QO (JQ ms),int n] (bool true):=by
 have hsq:4≤n*n∧n*n≤16:=by rcases hn with rfl|rfl|rfl<;>omega
 have hsi:(n:Int)*n=((n*n:Nat):Int):=by push_cast;rfl
 have hl:(JQ ms).length=n*n:=by rw[Qq];exact hm.len
 have hpw:=Jc1 hn
 have d0:decide (((0:Nat):Int)=0)=true:=rfl
 have hnn:decide (2≤(n:Int)∧(n:Int)≤4)=true:=decide_eq_true (by omega)
 refine Jn.cw (c:=_) Tryz.func156 rfl (n:=34) Tryz.ntmps156 (rs:=[.tmp 4]) rfl ?_
 simp only[Je,Jf,zA,zS,Jd,Jb,Jc]
 simp(maxSteps:=999999)(disch:=omega)only[go_sem,zA,zM,zS,zE,zL]
 first|refine JZ.rd (VM n) (⟨_,Tryz.func96,rfl,rfl⟩:Ji Tryz.prog 96) rfl rfl rfl rfl ?_|refine JK.rd (VM n) (⟨_,Tryz.func96,rfl,rfl⟩:Ji Tryz.prog 96) rfl rfl rfl rfl ?_
 simp(maxSteps:=999999)(disch:=omega)only[go_sem,zA,zM,zS,zE,zL]
 rw[hnn]
 simp(maxSteps:=999999)(disch:=omega)only[go_sem,zA,zM,zS,zE,zL]
 ((first|(with_reducible first|refine Jl ?_ ?_|refine Jj ?_ ?_|refine Jp ?_ ?_)|refine Jr ?_ ?_)<;>intro h1)
 rotate_left
 · exfalso;rw[hsi,hl]at h1;exact h1 rfl
 simp(maxSteps:=999999)(disch:=omega)only[go_sem,zA,zM,zS,zE,zL]
 refine JY (fun k:Nat=>n*n -k) (fun k=>k≤n*n) (fun k=>[.a, .k, .a, .a, .a, .a, .a, .a, .a, .a, .a, .a, .a, .a, .a, .a, .a, .a, .k, .k, .p (int k), .a, .a, .a, .a, .a, .a, .a, .a, .a, .a, .a, .a, .a]) (fun _=>[]) 0 (Nat.zero_le _) (by simp(maxSteps:=999999)(disch:=omega)only[go_sem,zA,zM,zS,zE,zL];rfl) (Qu _) ?_
 intro k hk
 simp(maxSteps:=999999)(disch:=omega)only[go_sem,zA,zM,zS,zE,zL]
 ((first|(with_reducible first|refine Jl ?_ ?_|refine Jj ?_ ?_|refine Jp ?_ ?_)|refine Jr ?_ ?_)<;>intro h2)
 · have h2:k<n*n:=by omega
   have hv:=hm.at k
   have hnk:=Zf ms k
   have hc:Uq .andNot .i64 ((QL ms k:Nat):Int) (((2^(n+1) -2:Nat)):Int)=((B1 (QL ms k) (2^(n+1) -2):Nat):Int):=Vv (by omega) (by omega)
   have hz:B1 (QL ms k) (2^(n+1) -2)=0:=by
    obtain⟨v1,v2⟩:=hv
    have key:∀n:Nat,(n=2∨n=3∨n=4)→∀a:Nat,a≤2^(n+1) -2→a%2=0→B1 a (2^(n+1) -2)=0:=by
     rintro n (rfl|rfl|rfl)
     · have:∀a:Nat,a<7→a%2=0→B1 a 6=0:=by decide
       exact fun a h1 h2=>this a (by omega) h2
     · have:∀a:Nat,a<15→a%2=0→B1 a 14=0:=by decide
       exact fun a h1 h2=>this a (by omega) h2
     · have:∀a:Nat,a<31→a%2=0→B1 a 30=0:=by decide
       exact fun a h1 h2=>this a (by omega) h2
    exact key n hn _ v1 v2
   rw[hz]at hc
   simp(maxSteps:=999999)(disch:=omega)only[go_sem,zA,zM,zS,zE,zL,hnk]
   ((with_reducible first|refine JJ ?_ ?_|refine JF ?_ ?_|refine JU ?_ ?_|refine Jw ?_ ?_|refine JH ?_ ?_|refine JI ?_ ?_|refine JD ?_ ?_|refine JE ?_ ?_|refine JS ?_ ?_|refine JT ?_ ?_|refine Jy ?_ ?_|refine Jz ?_ ?_)<;>intro h3<;>simp(maxSteps:=999999)(disch:=omega)only[go_sem,zA,zM,zS,zE,zL,h3])
   · exfalso;omega
   first|refine JZ.rd (Ve hn) (⟨_,Tryz.func111,rfl,rfl⟩:Ji Tryz.prog 111) rfl rfl rfl rfl ?_|refine JK.rd (Ve hn) (⟨_,Tryz.func111,rfl,rfl⟩:Ji Tryz.prog 111) rfl rfl rfl rfl ?_
   simp(maxSteps:=999999)(disch:=omega)only[go_sem,zA,zM,zS,zE,zL]
   simp(maxSteps:=999999)(disch:=omega)only[go_sem,zA,zM,zS,zE,zL,hc,d0,Bool.not_true]
   exact⟨k+1,⟨by omega,by omega⟩,by push_cast;omega,Qu _⟩
 · simp(maxSteps:=999999)(disch:=omega)only[go_sem,zA,zM,zS,zE,zL]
theorem Wv(m:Nat)(hm:m≤30):JW Tryz.prog 81 [int m] (int (Zi m:Nat)):=by
 refine Jn.cw (c:=_) Tryz.func81 rfl (n:=13) Tryz.ntmps81 (rs:=[.tmp 2]) rfl ?_
 simp only[Je,Jf,zA,zS,Jd,Jb,Jc]
 simp(maxSteps:=999999)(disch:=omega)only[go_sem,zA,zM,zS,zE,zL]
 refine JY (fun v:Nat=>5 -v) (fun v=>1≤v∧v≤5∧∀u:Nat,1≤u→u<v→m≠2^u) (fun v=>[.k, .a, .a, .p (int v), .a, .a, .a, .a, .a, .a, .a, .a, .a]) (fun _=>[]) 1 ⟨by omega,by omega,fun u h1 h2=>by omega⟩ (by simp(maxSteps:=999999)(disch:=omega)only[go_sem,zA,zM,zS,zE,zL];rfl) (Qu _) ?_
 rintro v ⟨hv1,hv2,hno⟩
 simp(maxSteps:=999999)(disch:=omega)only[go_sem,zA,zM,zS,zE,zL]
 ((first|(with_reducible first|refine Jl ?_ ?_|refine Jj ?_ ?_|refine Jp ?_ ?_)|refine Jr ?_ ?_)<;>intro h1)
 · have h1:v≤4:=by omega
   have hs:=UP (v:=(v:Int)) (by omega)
   rw[Int.toNat_natCast]at hs
   simp(maxSteps:=999999)(disch:=omega)only[go_sem,zA,zM,zS,zE,zL,hs]
   ((first|(with_reducible first|refine Jl ?_ ?_|refine Jj ?_ ?_|refine Jp ?_ ?_)|refine Jr ?_ ?_)<;>intro h2)
   · have h2:m=2^v:=by exact_mod_cast h2
     have hov:Zi m=v:=by
      rw[h2]
      have:v=1∨v=2∨v=3∨v=4:=by omega
      rcases this with rfl|rfl|rfl|rfl<;>rfl
     simp(maxSteps:=999999)(disch:=omega)only[go_sem,zA,zM,zS,zE,zL]
     rw[hov]
   · simp(maxSteps:=999999)(disch:=omega)only[go_sem,zA,zM,zS,zE,zL]
     refine⟨v+1,⟨⟨by omega,by omega,fun u u1 u2=> ?_⟩,by omega⟩,by push_cast;rfl,Qu _⟩
     by_cases huv:u=v
     · rw[huv];intro h;exact h2 (by rw[h])
     · exact hno u u1 (by omega)
 · have hve:v=5:=by omega
   subst hve
   have h1:=hno 1 (by omega) (by omega)
   have h2:=hno 2 (by omega) (by omega)
   have h3:=hno 3 (by omega) (by omega)
   have h4:=hno 4 (by omega) (by omega)
   have hov:Zi m=0:=by
    unfold Zi
    rw[if_neg h1,if_neg h2,if_neg h3,if_neg h4]
   simp(maxSteps:=999999)(disch:=omega)only[go_sem,zA,zM,zS,zE,zL]
   rw[hov]
   rfl
theorem GB(xs:List Int)(hx:xs.length≤2^40)(h0:xs≠[]):Jn Tryz.prog 89 [QO xs] [] (G6 (eI .i64) 1 xs):=by
 have hp:0<xs.length:=List.length_pos_iff.2 h0
 refine Jn.cw (c:=_) Tryz.func89 rfl (n:=8) Tryz.ntmps89 (rs:=[.tmp 2]) rfl ?_
 simp only[Je,Jf,zA,zS,Jd,Jb,Jc]
 simp(maxSteps:=999999)(disch:=omega)only[go_sem,zA,zM,zS,zE,zL,Jcc UE rfl hp]
 intro g g'
 rw[Nat.zero_add]
 exact ZO (E:=eI .i64) (n:=1) (J0.refl _)
def ZI(p:Q4):List Nat:=p.given.map fun v=>if 0<v then 2^v.toNat else 2^(p.size.toNat+1) -2
theorem B5{p:Q4}{k:Nat}(h:k<p.given.length):QL (ZI p) k=if 0<JA p.given k then 2^(JA p.given k).toNat else 2^(p.size.toNat+1) -2:=by
 unfold QL ZI
 rw[Qt (by omega)]
 simp only[List.getD,Qv,Jq h,Int.toNat_natCast,Option.map_some,Option.getD_some]
theorem KY{p:Q4}{n:Nat}(hp:Ux p n)(hg:Zk p.given n):XT (ZI p) n:=by
 refine⟨by unfold ZI;rw[Qs];exact hg.len,fun m hm=> ?_⟩
 unfold ZI at hm
 obtain⟨v,hv,rfl⟩:=Qj.1 hm
 obtain⟨k,hk,rfl⟩:=List.mem_iff_getElem.1 hv
 have hb:=hg.val k hk
 rw[Qt (by omega)]at hb
 simp only[Int.toNat_natCast]at hb
 have hz:p.size.toNat=n:=by rw[hp.size];rfl
 have hn:=hp.hn
 rw[hz]
 generalize p.given[k]=v at hb
 obtain⟨u,rfl⟩:∃u:Nat,v=u:=⟨v.toNat,by omega⟩
 have hu:u≤n:=by omega
 rcases hn with rfl|rfl|rfl
 · have:u=0∨u=1∨u=2:=by omega
   rcases this with rfl|rfl|rfl<;>decide
 · have:u=0∨u=1∨u=2∨u=3:=by omega
   rcases this with rfl|rfl|rfl|rfl<;>decide
 · have:u=0∨u=1∨u=2∨u=3∨u=4:=by omega
   rcases this with rfl|rfl|rfl|rfl|rfl<;>decide
set_option maxHeartbeats 2000000 in
theorem KP{p:Q4}{n:Nat}(hp:Ux p n)(hv:JB p=true)(hg:Zk p.given n):JW Tryz.prog 79 [aP p] (QO (JQ (ZI p))):=by
 have hn:=hp.hn
 have hsq:4≤n*n∧n*n≤16:=by rcases hn with rfl|rfl|rfl<;>omega
 have hz:=hp.size
 have hl:=hg.len
 have hpw:=Jc1 hn
 have hsl:(ZI p).length=p.given.length:=by simp[ZI]
 refine JW.ice (Q:=fun v H'=>Vu H' v=some (QO (JQ (ZI p)))) ?_ (fun r H' h=>h)
 refine Jn.cw (c:=_) Tryz.func79 rfl (n:=36) Tryz.ntmps79 (rs:=[.tmp 2]) rfl ?_
 simp only[Je,Jf,zA,zS,Jd,Jb,Jc]
 simp(maxSteps:=999999)(disch:=omega)only[go_sem,zA,zM,zS,zE,zL]
 intro g1
 first|refine JZ.rd (Qx p hp.sm) (⟨_,Tryz.func41,rfl,rfl⟩:Ji Tryz.prog 41) rfl rfl rfl rfl ?_|refine JK.rd (Qx p hp.sm) (⟨_,Tryz.func41,rfl,rfl⟩:Ji Tryz.prog 41) rfl rfl rfl rfl ?_
 simp(maxSteps:=999999)(disch:=omega)only[go_sem,zA,zM,zS,zE,zL]
 rw[hv]
 simp(maxSteps:=999999)(disch:=omega)only[go_sem,zA,zM,zS,zE,zL]
 intro g2
 refine Qp (fun(k:Nat) (b:List Nat)=>p.given.length -k) (fun k b=>k≤p.given.length∧b.length=p.given.length∧∀i,i<k→QL b i=QL (ZI p) i) (fun k b=>[.a, .k, .a, .k, .a, .a, .a, .a, .a, .a, .a, .a, .a, .a, .k, .k, .p (int k), .a, .a, .a, .a, .a, .a, .a, .a, .a, .a, .a, .a, .a, .a, .a, .a, .a, .a, .a]) (fun k b=>[some ⟨g1,1,cP p⟩,some ⟨g2,1,cl (eI .i64) (JQ b)⟩]) 0 (Jd p.given.length 0) ⟨Nat.zero_le _,by simp,fun i hi=>absurd hi (Nat.not_lt_zero _)⟩ (by simp(maxSteps:=999999)(disch:=omega)only[go_sem,zA,zM,zS,zE,zL];rfl) (Z4 rfl (Z4 (by rw[RN]) (Qu _))) ?_
 rintro k b ⟨hk,hbl,hbi⟩
 simp(maxSteps:=999999)(disch:=omega)only[go_sem,zA,zM,zS,zE,zL]
 ((first|(with_reducible first|refine Jl ?_ ?_|refine Jj ?_ ?_|refine Jp ?_ ?_)|refine Jr ?_ ?_)<;>intro h1)
 · have h1:k<p.given.length:=by omega
   have hav:=B5 h1
   have hzn:p.size.toNat=n:=by rw[hz];rfl
   rw[hzn]at hav
   have hgv:=hg.val k h1
   have hnb:∀v:Nat,(JQ b).set k ((v:Nat):Int)=JQ (b.set k v):=VE b k
   have hnl:∀b:List Nat,(JQ b).length=b.length:=Qq
   have hstep:∀c:List Nat,c.length=p.given.length→(∀i,i≠k→QL c i=QL b i)→QL c k=QL (ZI p) k→∀i,i<k+1→QL c i=QL (ZI p) i:=fun c hc h1 h2 i hi=>by
    by_cases hik:i=k
    · rw[hik];exact h2
    · rw[h1 i hik];exact hbi i (by omega)
   simp(maxSteps:=999999)(disch:=omega)only[go_sem,zA,zM,zS,zE,zL]
   rw[hz]
   first|refine JZ.rd (Ve hn) (⟨_,Tryz.func111,rfl,rfl⟩:Ji Tryz.prog 111) rfl rfl rfl rfl ?_|refine JK.rd (Ve hn) (⟨_,Tryz.func111,rfl,rfl⟩:Ji Tryz.prog 111) rfl rfl rfl rfl ?_
   simp(maxSteps:=999999)(disch:=omega)only[go_sem,zA,zM,zS,zE,zL]
   simp(maxSteps:=999999)(disch:=omega)only[go_sem,zA,zM,zS,zE,zL,hnl,Vz]
   ((first|(with_reducible first|refine Jl ?_ ?_|refine Jj ?_ ?_|refine Jp ?_ ?_)|refine Jr ?_ ?_)<;>intro h2)
   · rw[if_pos h2]at hav
     have hs:=UP (v:=JA p.given k) (by omega)
     have hsr2:∀v u:Nat,Qk (cl (eI .i64) (JQ (b.set k v))) (0+((k:Nat):Int).toNat*1) [CV.f (.int .i64 ((u:Nat):Int))]=cl (eI .i64) (JQ ((b.set k v).set k u)):=fun v u=>Vz (by rw[Jo];omega)
     simp(maxSteps:=999999)(disch:=omega)only[go_sem,zA,zM,zS,zE,zL,hnl,hs,hsr2]
     refine⟨k+1,_,⟨⟨by omega, ?_,hstep _ ?_ (fun i hi=> ?_) ?_⟩,by omega⟩,by push_cast;rfl,J0.refl _⟩
     · rw[Jo,Jo];exact hbl
     · rw[Jo,Jo];exact hbl
     · rw[WX (by rw[Jo];omega),if_neg hi,WX (by omega),if_neg hi]
     · rw[WX (by rw[Jo];omega),if_pos rfl,hav]
   · rw[if_neg h2]at hav
     simp(maxSteps:=999999)(disch:=omega)only[go_sem,zA,zM,zS,zE,zL]
     refine⟨k+1,_,⟨⟨by omega, ?_,hstep _ ?_ (fun i hi=> ?_) ?_⟩,by omega⟩,by push_cast;rfl,J0.refl _⟩
     · rw[Jo];exact hbl
     · rw[Jo];exact hbl
     · rw[WX (by omega),if_neg hi]
     · rw[WX (by omega),if_pos rfl,hav]
 · have hke:k=p.given.length:=by omega
   have hb:b=ZI p:=JfC (by omega) fun i hi=>hbi i (by omega)
   subst hb
   simp(maxSteps:=999999)(disch:=omega)only[go_sem,zA,zM,zS,zE,zL]
   have hnl:p.given.length=(JQ (ZI p)).length:=by rw[Qq,hsl]
   rw[hnl]
   exact⟨_,J0.refl _,Xv (E:=eI .i64) (n:=1) (J8 (b:=⟨g2,1,cl (eI .i64) (JQ (ZI p))⟩) rfl)⟩
set_option maxHeartbeats 2000000 in
theorem YY{p:Q4}{n:Nat}(hp:Ux p n)(hv:JB p=true)(hg:Zk p.given n):JW Tryz.prog 105 [aP p] (QO (JQ (ZI p))):=by
 have hn:=hp.hn
 have hsq:4≤n*n∧n*n≤16:=by rcases hn with rfl|rfl|rfl<;>omega
 have hz:=hp.size
 have hl:=hg.len
 have hpw:=Jc1 hn
 have hsl:(ZI p).length=p.given.length:=by simp[ZI]
 refine JW.ice (Q:=fun v H'=>Vu H' v=some (QO (JQ (ZI p)))) ?_ (fun r H' h=>h)
 refine Jn.cw (c:=_) Tryz.func105 rfl (n:=41) Tryz.ntmps105 (rs:=[.tmp 2]) rfl ?_
 simp only[Je,Jf,zA,zS,Jd,Jb,Jc]
 simp(maxSteps:=999999)(disch:=omega)only[go_sem,zA,zM,zS,zE,zL]
 intro g1 g2
 refine Qp (fun(k g:Nat)=>p.given.length -k) (fun k g=>k≤p.given.length) (fun k g=>[.a, .k, .a, .p (.c (.own 1 g 0 k none)), .p (int k), .a, .a, .a, .a, .a, .a, .a, .a, .a, .a, .a, .a, .a, .a, .a, .a, .a, .a, .a, .a, .a, .a, .a, .a, .a, .a, .a, .a, .a, .a, .a, .a, .a, .a, .a, .a]) (fun k g=>[some ⟨g1,1,cP p⟩,some ⟨g,1,cl (eI .i64) (JQ ((ZI p).take k))⟩]) 0 g2 (Nat.zero_le _) (by simp(maxSteps:=999999)(disch:=omega)only[go_sem,zA,zM,zS,zE,zL];rfl) (J0.refl _) ?_
 intro k g hk
 have htl:(JQ ((ZI p).take k)).length=k:=by rw[Qq,JP];omega
 simp(maxSteps:=999999)(disch:=omega)only[go_sem,zA,zM,zS,zE,zL]
 ((with_reducible first|refine JJ ?_ ?_|refine JF ?_ ?_|refine JU ?_ ?_|refine Jw ?_ ?_|refine JH ?_ ?_|refine JI ?_ ?_|refine JD ?_ ?_|refine JE ?_ ?_|refine JS ?_ ?_|refine JT ?_ ?_|refine Jy ?_ ?_|refine Jz ?_ ?_)<;>intro h1<;>simp(maxSteps:=999999)(disch:=omega)only[go_sem,zA,zM,zS,zE,zL,h1])
 · first|refine JZ.rd (Qh p hp.sm) (⟨_,Tryz.func38,rfl,rfl⟩:Ji Tryz.prog 38) rfl rfl rfl rfl ?_|refine JK.rd (Qh p hp.sm) (⟨_,Tryz.func38,rfl,rfl⟩:Ji Tryz.prog 38) rfl rfl rfl rfl ?_
   simp(maxSteps:=999999)(disch:=omega)only[go_sem,zA,zM,zS,zE,zL]
   rw[hv]
   have h1:k<p.given.length:=by omega
   have hav:=B5 h1
   have hzn:p.size.toNat=n:=by rw[hz];rfl
   rw[hzn]at hav
   have hgv:=hg.val k h1
   have hts:=JkK (ms:=ZI p) (k:=k) (by omega)
   simp(maxSteps:=999999)(disch:=omega)only[go_sem,zA,zM,zS,zE,zL]
   ((first|(with_reducible first|refine Jl ?_ ?_|refine Jj ?_ ?_|refine Jp ?_ ?_)|refine Jr ?_ ?_)<;>intro h2)
   · rw[if_pos h2]at hav
     have hs:=UP (v:=JA p.given k) (by omega)
     simp(maxSteps:=999999)(disch:=omega)only[go_sem,zA,zM,zS,zE,zL,hs]
     intro g3 g4
     exact⟨k+1,g4,⟨by omega,by omega⟩,⟨⟨rfl,rfl⟩,by push_cast;rfl⟩,Z4 rfl (Z4 (by rw[hts,hav]) (Qu _))⟩
   · rw[if_neg h2]at hav
     have hs:=Jfk hn
     rw[←hz]at hs
     simp(maxSteps:=999999)(disch:=omega)only[go_sem,zA,zM,zS,zE,zL,hs]
     have e:((2^(n+1) -2:Nat):Int)=((2^(n+1):Nat):Int) -2:=by omega
     intro g3 g4
     exact⟨k+1,g4,⟨by omega,by omega⟩,⟨⟨rfl,rfl⟩,by push_cast;rfl⟩,Z4 rfl (Z4 (by rw[hts,hav,e]) (Qu _))⟩
 · have hke:k=p.given.length:=by omega
   subst hke
   rw[Js (by omega)]at htl⊢
   have hfr:=Xv (E:=eI .i64) (n:=1) (lim:=none) (H:=[some ⟨g1,1,cP p⟩,some ⟨g,1,cl (eI .i64) (JQ (ZI p))⟩]) (J8 (b:=⟨g,1,cl (eI .i64) (JQ (ZI p))⟩) (id:=1) rfl)
   rw[htl]at hfr
   exact⟨_,J0.refl _,hfr⟩
end Go.Lg
