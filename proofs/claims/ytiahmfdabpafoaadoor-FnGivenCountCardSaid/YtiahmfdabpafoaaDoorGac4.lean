/- GpEE, GpDG, cut to what is needed. -/
import Derived.Test.YtiahmfdabpafoaaDoorGac3
import Derived.Test.YtiahmfdabpafoaaDoorGac2
open Nat renaming reduceAdd→zA,reduceMul→zM,reduceSub→zS,reduceEqDiff→zE,reduceLeDiff→zL
set_option linter.unusedSimpArgs false
set_option linter.unusedVariables false
set_option maxRecDepth 100000
namespace Go.Lg
open Go.Proofs
theorem PuzN.sm{p:Puz}{n:Nat}(hp:PuzN p n):smP p:=by
 have hsq:n*n≤16:=by rcases hp.hn with rfl|rfl|rfl<;>omega
 have:=hp.len
 have:=hp.rl
 refine⟨by omega,by omega,fun r hr=> ?_⟩
 have:=(ruleValid_facts (hp.rv r hr)).1
 omega
theorem PuzzleFits_run{p:Puz}{n:Nat}(hp:PuzN p n)(hv:puzzleValid p=true)(xs:List Int)(hg:GrdN xs n):Reads Tryd.prog 81 [aP p,ints xs] (bool (fitsL p xs n)):=by
 have hn:=hp.hn
 have hz:=hp.size
 have hgl:=hp.len
 have hxl:=hg.len
 have hrl:=hp.rl
 have hsq:n*n≤16:=by rcases hn with rfl|rfl|rfl<;>omega
 refine RunCall.cw (c:=_) Tryd.func81 rfl (n:=60) Tryd.ntmps81 (rs:=[.tmp 4]) rfl ?_
 simp only[List.length_cons,List.length_nil,zA,zS,List.replicate,List.cons_append,List.nil_append]
 simp(maxSteps:=999999)(disch:=omega)only[go_sem,zA,zM,zS,zE,zL]
 intro g
 first|refine OpS.rd (PuzzleValid_run p hp.sm) (⟨_,Tryd.func40,rfl,rfl⟩:Enters Tryd.prog 40) rfl rfl rfl rfl ?_|refine Loud.rd (PuzzleValid_run p hp.sm) (⟨_,Tryd.func40,rfl,rfl⟩:Enters Tryd.prog 40) rfl rfl rfl rfl ?_
 simp(maxSteps:=999999)(disch:=omega)only[go_sem,zA,zM,zS,zE,zL]
 ((with_reducible first|refine guardK_dec ?_ ?_|refine guardK_ndec ?_ ?_|refine guardK_nb ?_ ?_|refine guardK_split ?_ ?_|refine guardQ_dec ?_ ?_|refine guardL_dec ?_ ?_|refine guardQ_ndec ?_ ?_|refine guardL_ndec ?_ ?_|refine guardQ_nb ?_ ?_|refine guardL_nb ?_ ?_|refine guardQ_split ?_ ?_|refine guardL_split ?_ ?_)<;>intro c1<;>simp(maxSteps:=999999)(disch:=omega)only[go_sem,zA,zM,zS,zE,zL,c1])
 rotate_left
 · exfalso;rw[hv]at c1;cases c1
 have hsf:=SquareFits_run hn xs hg
 rw[←hz]at hsf
 first|refine OpS.rd (hsf) (⟨_,Tryd.func104,rfl,rfl⟩:Enters Tryd.prog 104) rfl rfl rfl rfl ?_|refine Loud.rd (hsf) (⟨_,Tryd.func104,rfl,rfl⟩:Enters Tryd.prog 104) rfl rfl rfl rfl ?_
 simp(maxSteps:=999999)(disch:=omega)only[go_sem,zA,zM,zS,zE,zL]
 ((first|(with_reducible first|refine condK_dec ?_ ?_|refine condK_ndec ?_ ?_|refine condK_nb ?_ ?_)|refine condK_b ?_ ?_)<;>intro c2)
 rotate_left
 · have c2:clash xs n=true:=by simpa using c2
   simp(maxSteps:=999999)(disch:=omega)only[go_sem,zA,zM,zS,zE,zL]
   simp[fitsL,c2]
 have c2:clash xs n=false:=by simpa using c2
 simp(maxSteps:=999999)(disch:=omega)only[go_sem,zA,zM,zS,zE,zL]
 refine loop_rule (fun k:Nat=>xs.length -k) (fun k=>k≤xs.length∧∀j:Nat,j<k→¬(0<nth p.given j∧0<nth xs j∧nth xs j≠nth p.given j)) (fun k=>[.a, .k, .k, .a, .a, .a, .a, .a, .a, .a, .a, .a, .a, .a, .a, .a, .a, .a, .a, .k, .k, .p (int k), .a, .a, .a, .a, .a, .a, .a, .a, .a, .a, .a, .a, .a, .a, .a, .a, .a, .a, .a, .a, .a, .a, .a, .a, .a, .a, .a, .a, .a, .a, .a, .a, .a, .a, .a, .a, .a, .a]) (fun _=>[some ⟨g,1,cP p⟩]) 0 ⟨Nat.zero_le _,fun j hj=>absurd hj (Nat.not_lt_zero _)⟩ (by simp(maxSteps:=999999)(disch:=omega)only[go_sem,zA,zM,zS,zE,zL];rfl) (HLe.refl _) ?_
 rintro k ⟨hk,hno⟩
 simp(maxSteps:=999999)(disch:=omega)only[go_sem,zA,zM,zS,zE,zL]
 ((first|(with_reducible first|refine condK_dec ?_ ?_|refine condK_ndec ?_ ?_|refine condK_nb ?_ ?_)|refine condK_b ?_ ?_)<;>intro h1)
 · have h1:k<xs.length:=by omega
   have hgo:¬(0<nth p.given k∧0<nth xs k∧nth xs k≠nth p.given k)→∀j:Nat,j<k+1→¬(0<nth p.given j∧0<nth xs j∧nth xs j≠nth p.given j):=fun h j hj=>by
    by_cases hjk:j=k
    · rw[hjk];exact h
    · exact hno j (by omega)
   simp(maxSteps:=999999)(disch:=omega)only[go_sem,zA,zM,zS,zE,zL]
   ((with_reducible first|refine guardK_dec ?_ ?_|refine guardK_ndec ?_ ?_|refine guardK_nb ?_ ?_|refine guardK_split ?_ ?_|refine guardQ_dec ?_ ?_|refine guardL_dec ?_ ?_|refine guardQ_ndec ?_ ?_|refine guardL_ndec ?_ ?_|refine guardQ_nb ?_ ?_|refine guardL_nb ?_ ?_|refine guardQ_split ?_ ?_|refine guardL_split ?_ ?_)<;>intro d1<;>simp(maxSteps:=999999)(disch:=omega)only[go_sem,zA,zM,zS,zE,zL,d1])
   · ((with_reducible first|refine guardK_dec ?_ ?_|refine guardK_ndec ?_ ?_|refine guardK_nb ?_ ?_|refine guardK_split ?_ ?_|refine guardQ_dec ?_ ?_|refine guardL_dec ?_ ?_|refine guardQ_ndec ?_ ?_|refine guardL_ndec ?_ ?_|refine guardQ_nb ?_ ?_|refine guardL_nb ?_ ?_|refine guardQ_split ?_ ?_|refine guardL_split ?_ ?_)<;>intro d2<;>simp(maxSteps:=999999)(disch:=omega)only[go_sem,zA,zM,zS,zE,zL,d2])
     · ((first|(with_reducible first|refine condK_dec ?_ ?_|refine condK_ndec ?_ ?_|refine condK_nb ?_ ?_)|refine condK_b ?_ ?_)<;>intro d3)
       · simp(maxSteps:=999999)(disch:=omega)only[go_sem,zA,zM,zS,zE,zL]
         exact⟨k+1,⟨⟨by omega,hgo fun h=>h.2.2 d3⟩,by omega⟩,by push_cast;omega,HLe.refl _⟩
       · simp(maxSteps:=999999)(disch:=omega)only[go_sem,zA,zM,zS,zE,zL]
         have:clear p xs=false:=by
          simp only[clear,decide_eq_false_iff_not]
          exact fun h=>h k h1 ⟨d2,d1,d3⟩
         simp[fitsL,this]
     · exact⟨k+1,⟨⟨by omega,hgo fun h=>d2 h.1⟩,by omega⟩,by push_cast;omega,HLe.refl _⟩
   · exact⟨k+1,⟨⟨by omega,hgo fun h=>d1 h.2.1⟩,by omega⟩,by push_cast;omega,HLe.refl _⟩
 · have hcl:clear p xs=true:=by
    simp only[clear,decide_eq_true_eq]
    exact fun j hj=>hno j (by omega)
   simp(maxSteps:=999999)(disch:=omega)only[go_sem,zA,zM,zS,zE,zL]
   refine loop_rule (fun k:Nat=>p.rules.length -k) (fun k=>k≤p.rules.length∧∀j:Nat,j<k→canHold (nth p.rules j) xs n=true) (fun k=>[.a, .k, .k, .a, .a, .a, .a, .a, .a, .a, .a, .a, .a, .a, .a, .a, .a, .a, .a, .a, .a, .a, .a, .a, .a, .a, .a, .a, .a, .a, .a, .a, .a, .a, .a, .a, .a, .a, .a, .a, .a, .a, .a, .a, .a, .a, .a, .k, .k, .p (int k), .a, .a, .a, .a, .a, .a, .a, .a, .a, .a]) (fun _=>[some ⟨g,1,cP p⟩]) 0 ⟨Nat.zero_le _,fun j hj=>absurd hj (Nat.not_lt_zero _)⟩ (by simp(maxSteps:=999999)(disch:=omega)only[go_sem,zA,zM,zS,zE,zL];rfl) (HLe.refl _) ?_
   rintro i ⟨hi,hyes⟩
   simp(maxSteps:=999999)(disch:=omega)only[go_sem,zA,zM,zS,zE,zL]
   ((first|(with_reducible first|refine condK_dec ?_ ?_|refine condK_ndec ?_ ?_|refine condK_nb ?_ ?_)|refine condK_b ?_ ?_)<;>intro h2)
   · have h2:i<p.rules.length:=by omega
     have hmem:nth p.rules i∈p.rules:=nth_mem h2
     simp(maxSteps:=999999)(disch:=omega)only[go_sem,zA,zM,zS,zE,zL]
     intro g2
     have hch:=canHold_run hn (nth p.rules i) xs (hp.rv _ hmem) hg
     rw[←hz]at hch
     first|refine OpS.rd (hch) (⟨_,Tryd.func105,rfl,rfl⟩:Enters Tryd.prog 105) rfl rfl rfl rfl ?_|refine Loud.rd (hch) (⟨_,Tryd.func105,rfl,rfl⟩:Enters Tryd.prog 105) rfl rfl rfl rfl ?_
     simp(maxSteps:=999999)(disch:=omega)only[go_sem,zA,zM,zS,zE,zL]
     ((first|(with_reducible first|refine condK_dec ?_ ?_|refine condK_ndec ?_ ?_|refine condK_nb ?_ ?_)|refine condK_b ?_ ?_)<;>intro h3)
     · simp(maxSteps:=999999)(disch:=omega)only[go_sem,zA,zM,zS,zE,zL]
       refine⟨i+1,⟨⟨by omega,fun j hj=> ?_⟩,by omega⟩,by push_cast;omega,HLe.app _ _⟩
       by_cases hji:j=i
       · rw[hji];exact h3
       · exact hyes j (by omega)
     · simp(maxSteps:=999999)(disch:=omega)only[go_sem,zA,zM,zS,zE,zL]
       have:p.rules.all (fun r=>canHold r xs n)=false:=by
        rw[List.all_eq_false]
        exact⟨_,hmem,by rw[h3];simp⟩
       simp[fitsL,this]
   · have hall:p.rules.all (fun r=>canHold r xs n)=true:=by
      rw[List.all_eq_true]
      intro r hr
      obtain⟨j,hj,rfl⟩:=List.mem_iff_getElem.1 hr
      have:=hyes j (by omega)
      rwa [nth_eq (by omega)]at this
     simp(maxSteps:=999999)(disch:=omega)only[go_sem,zA,zM,zS,zE,zL]
     simp[fitsL,hcl,hall,c2]
theorem cellB{n i k:Nat}(hn:n=2∨n=3∨n=4)(hin:i<n*n)(hk:k<n):i/n*n+k<n*n∧k*n+i%n<n*n:=by
 rcases hn with rfl|rfl|rfl<;>omega
theorem cellW{n i k:Nat}(hn:n=2∨n=3∨n=4)(hin:i<n*n)(hk:k<n):
 IntKind.i64.wrap (IntKind.i64.wrap (IntKind.i64.wrap ((i:Int).tdiv n)*n)+k)=((i/n*n+k:Nat):Int)∧IntKind.i64.wrap (IntKind.i64.wrap ((k:Int)*n)+(i:Int).tmod n)=((k*n+i%n:Nat):Int):=by
 have hw:∀x:Nat,x≤64→IntKind.i64.wrap (x:Int)=x:=fun x h=>ok_i64 (by omega)
 have hd:(i:Int).tdiv n=((i/n:Nat):Int):=rfl
 have hm:(i:Int).tmod n=((i%n:Nat):Int):=rfl
 have b1:i/n≤64∧i/n*n≤64∧i/n*n+k≤64∧k*n≤64∧k*n+i%n≤64:=by rcases hn with rfl|rfl|rfl<;>omega
 rw[hd,hm,hw _ b1.1,←Int.natCast_mul,hw _ b1.2.1,←Int.natCast_add,hw _ b1.2.2.1,←Int.natCast_mul,hw _ b1.2.2.2.1,←Int.natCast_add,hw _ b1.2.2.2.2]
 exact⟨rfl,rfl⟩
theorem cellFits_run{p:Puz}{n:Nat}(hp:PuzN p n)(xs:List Int)(hg:GrdN xs n)(i:Nat)(hin:i<n*n):Reads Tryd.prog 83 [aP p,ints xs,int i] (bool (cellFits p xs n i)):=by
 have hn:=hp.hn
 have hz:=hp.size
 have hxl:=hg.len
 have hrl:=hp.rl
 have hsq:n*n≤16:=by rcases hn with rfl|rfl|rfl<;>omega
 have hn0:0<n:=by omega
 have hn4:2≤n∧n≤4:=by omega
 have hdm:i/n<n∧i%n<n:=⟨Nat.div_lt_of_lt_mul hin,Nat.mod_lt _ hn0⟩
 have hdi:((i/n:Nat):Int)=(i:Int)/n:=rfl
 refine RunCall.cw (c:=_) Tryd.func83 rfl (n:=74) Tryd.ntmps83 (rs:=[.tmp 6]) rfl ?_
 simp only[List.length_cons,List.length_nil,zA,zS,List.replicate,List.cons_append,List.nil_append]
 simp(maxSteps:=999999)(disch:=omega)only[go_sem,zA,zM,zS,zE,zL]
 intro g
 rw[hz]
 refine loop_rule (fun k:Nat=>n -k) (fun k=>k≤n∧∀j:Nat,j<k→(i/n*n+j≠i→nth xs ((i/n*n+j:Nat):Int)≠nth xs i)∧(j*n+i%n≠i→nth xs ((j*n+i%n:Nat):Int)≠nth xs i)) (fun k=>[.a, .k, .k, .k, .a, .a, .a, .k, .a, .a, .a, .a, .a, .a, .a, .k, .p (int k), .a, .a, .a, .a, .a, .a, .a, .a, .a, .a, .a, .a, .a, .a, .a, .a, .a, .a, .a, .a, .a, .a, .a, .a, .a, .a, .a, .a, .a, .a, .a, .a, .a, .a, .a, .a, .a, .a, .a, .a, .a, .a, .a, .a, .a, .a, .a, .a, .a, .a, .a, .a, .a, .a, .a, .a, .a]) (fun _=>[some ⟨g,1,cP p⟩]) 0 ⟨Nat.zero_le _,fun j hj=>absurd hj (Nat.not_lt_zero _)⟩ (by simp(maxSteps:=999999)(disch:=omega)only[go_sem,zA,zM,zS,zE,zL];rfl) (HLe.refl _) ?_
 rintro k ⟨hk,hno⟩
 simp(maxSteps:=999999)(disch:=omega)only[go_sem,zA,zM,zS,zE,zL]
 ((first|(with_reducible first|refine condK_dec ?_ ?_|refine condK_ndec ?_ ?_|refine condK_nb ?_ ?_)|refine condK_b ?_ ?_)<;>intro h1)
 · have h1:k<n:=by omega
   obtain⟨c1,c2⟩:=cellW hn hin h1
   simp(maxSteps:=999999)(disch:=omega)only[go_sem,zA,zM,zS,zE,zL]
   refine drawP_q foll (by kernel_rfl) ?_
   simp(maxSteps:=999999)(disch:=omega)only[go_sem,Nat.reduceBEq,Bool.true_or,zA,zM,zS,zE,zL]
   rw[c1,c2]
   obtain⟨b1,b2⟩:=cellB hn hin h1
   obtain⟨L,hL⟩:∃L:List Int,L=[((i/n*n+k:Nat):Int),((k*n+i%n:Nat):Int)]:=⟨_,rfl⟩
   have h1k:=h1
   have hL2:L.length=2:=by rw[hL];rfl
   have hLb:∀m:Nat,m<2→0≤nth L m∧nth L m<(n*n:Nat):=fun m hm=>by
    rw[hL]
    have:m=0∨m=1:=by omega
    rcases this with rfl|rfl
    · show(0:Int)≤((i/n*n+k:Nat):Int)∧((i/n*n+k:Nat):Int)<(n*n:Nat)
      omega
    · show(0:Int)≤((k*n+i%n:Nat):Int)∧((k*n+i%n:Nat):Int)<(n*n:Nat)
      omega
   have hfl:FV.sl 2 [FV.int .i64 ((i/n*n+k:Nat):Int),FV.int .i64 ((k*n+i%n:Nat):Int)]=fints L:=by rw[hL];rfl
   rw[hfl]
   have hL0:nth L 0=((i/n*n+k:Nat):Int):=by rw[hL];rfl
   have hL1:nth L 1=((k*n+i%n:Nat):Int):=by rw[hL];rfl
   clear hL hfl
   refine loop_rule (fun l:Nat=>2 -l) (fun l=>l≤2∧∀m:Nat,m<l→nth L m≠i→nth xs (nth L m)≠nth xs i) (fun l=>[.a, .k, .k, .k, .a, .a, .a, .k, .a, .a, .a, .a, .a, .a, .a, .k, .k, .a, .a, .a, .a, .a, .a, .a, .a, .a, .a, .a, .a, .a, .a, .a, .a, .k, .k, .p (int l), .a, .a, .a, .a, .a, .a, .a, .a, .a, .a, .a, .a, .a, .a, .a, .a, .a, .a, .a, .a, .a, .a, .a, .a, .a, .a, .a, .a, .a, .a, .a, .a, .a, .a, .a, .a, .a, .a]) (fun _=>[some ⟨g,1,cP p⟩]) 0 ⟨Nat.zero_le _,fun j hj=>absurd hj (Nat.not_lt_zero _)⟩ (by simp(maxSteps:=999999)(disch:=omega)only[go_sem,zA,zM,zS,zE,zL];rfl) (HLe.refl _) ?_
   rintro l ⟨hl,hno2⟩
   simp(maxSteps:=999999)(disch:=omega)only[go_sem,zA,zM,zS,zE,zL]
   ((first|(with_reducible first|refine condK_dec ?_ ?_|refine condK_ndec ?_ ?_|refine condK_nb ?_ ?_)|refine condK_b ?_ ?_)<;>intro h2)
   · have h2:l<2:=by omega
     obtain⟨hb1,hb2⟩:=hLb l h2
     obtain⟨c,hc⟩:∃c:Nat,nth L l=c:=⟨(nth L l).toNat,by omega⟩
     have hcl:c<xs.length:=by omega
     have hil:i<xs.length:=by omega
     have hbad:c≠i→nth xs c=nth xs i→false=cellFits p xs n i:=fun h1 h2=>by
      have hrow:c/n=i/n∨c%n=i%n:=by
       have:l=0∨l=1:=by omega
       rcases this with rfl|rfl
       · left
         have e:(c:Int)=((i/n*n+k:Nat):Int):=by rw[←hc];exact hL0
         have e:c=i/n*n+k:=by omega
         rw[e]
         rw[Nat.mul_comm,Nat.mul_add_div hn0,Nat.div_eq_of_lt h1k,Nat.add_zero]
       · right
         have e:(c:Int)=((k*n+i%n:Nat):Int):=by rw[←hc];exact hL1
         have e:c=k*n+i%n:=by omega
         rw[e,Nat.mul_comm,Nat.mul_add_mod,Nat.mod_eq_of_lt hdm.2]
      have:decide (∀j:Nat,j<n*n→j≠i→(j/n=i/n∨j%n=i%n)→nth xs j≠nth xs i)=false:=decide_eq_false fun h=>h c (by omega) h1 hrow h2
      simp[cellFits,this]
     have hgo:(c≠i→nth xs c≠nth xs i)→∀m:Nat,m<l+1→nth L m≠i→nth xs (nth L m)≠nth xs i:=fun h m hm=>by
      by_cases hml:m=l
      · rw[hml,hc];exact fun h'=>h (by omega)
      · exact hno2 m (by omega)
     simp(maxSteps:=999999)(disch:=omega)only[go_sem,zA,zM,zS,zE,zL]
     rw[hc]
     by_cases a:(c:Int)=i
     · refine drawP_q foll (by kernel_rfl) ?_
       simp(maxSteps:=999999)(disch:=omega)only[go_sem,zA,zM,zS,zE,zL,eq_yes,eq_no]
       exact⟨l+1,⟨⟨by omega,hgo fun h=>absurd (by omega) h⟩,by omega⟩,by push_cast;omega,HLe.refl _⟩
     · by_cases b:nth xs c=nth xs i
       · refine drawP_q foll (by kernel_rfl) ?_
         simp(maxSteps:=999999)(disch:=omega)only[go_sem,zA,zM,zS,zE,zL,eq_yes,eq_no]
         exact hbad (by omega) b
       · refine drawP_q foll (by kernel_rfl) ?_
         simp(maxSteps:=999999)(disch:=omega)only[go_sem,zA,zM,zS,zE,zL,eq_yes,eq_no]
         exact⟨l+1,⟨⟨by omega,hgo fun _=>b⟩,by omega⟩,by push_cast;omega,HLe.refl _⟩
   · have hl2:l=2:=by omega
     simp(maxSteps:=999999)(disch:=omega)only[go_sem,zA,zM,zS,zE,zL]
     refine⟨k+1,⟨⟨by omega,fun j hj=> ?_⟩,by omega⟩,by push_cast;omega,HLe.refl _⟩
     by_cases hjk:j=k
     · subst hjk
       have n0:=hno2 0 (by omega)
       have n1:=hno2 1 (by omega)
       simp only[Int.natCast_zero,Int.natCast_one,Int.cast_ofNat_Int]at n0 n1
       rw[hL0]at n0
       rw[hL1]at n1
       exact⟨fun h=>n0 (by omega),fun h=>n1 (by omega)⟩
     · exact hno j (by omega)
 · have hkn:k=n:=by omega
   have hD:decide (∀j:Nat,j<n*n→j≠i→(j/n=i/n∨j%n=i%n)→nth xs j≠nth xs i)=true:=by
    refine decide_eq_true fun j hj hji hl=> ?_
    have hjd:=Nat.div_add_mod j n
    rcases hl with hl|hl
    · have:=(hno (j%n) (by have:=Nat.mod_lt j hn0;omega)).1
      have e:i/n*n+j%n=j:=by rw[←hl,Nat.mul_comm];exact hjd
      rw[e]at this
      exact this hji
    · have:=(hno (j/n) (by have:=Nat.div_lt_of_lt_mul hj;omega)).2
      have e:j/n*n+i%n=j:=by rw[←hl,Nat.mul_comm];exact hjd
      rw[e]at this
      exact this hji
   simp(maxSteps:=999999)(disch:=omega)only[go_sem,zA,zM,zS,zE,zL]
   refine loop_rule (fun k:Nat=>p.rules.length -k) (fun k=>k≤p.rules.length∧∀j:Nat,j<k→(!(nth p.rules j).cells.contains (i:Int)||canHold (nth p.rules j) xs n)=true) (fun k=>[.a, .k, .k, .a, .a, .a, .a, .k, .a, .a, .a, .a, .a, .a, .a, .a, .a, .a, .a, .a, .a, .a, .a, .a, .a, .a, .a, .a, .a, .a, .a, .a, .a, .a, .a, .a, .a, .a, .a, .a, .a, .a, .a, .a, .a, .a, .a, .a, .a, .a, .a, .a, .a, .a, .a, .a, .k, .k, .p (int k), .a, .a, .a, .a, .a, .a, .a, .a, .a, .a, .a, .a, .a, .a, .a]) (fun _=>[some ⟨g,1,cP p⟩]) 0 ⟨Nat.zero_le _,fun j hj=>absurd hj (Nat.not_lt_zero _)⟩ (by simp(maxSteps:=999999)(disch:=omega)only[go_sem,zA,zM,zS,zE,zL];rfl) (HLe.refl _) ?_
   rintro j ⟨hj,hyes⟩
   simp(maxSteps:=999999)(disch:=omega)only[go_sem,zA,zM,zS,zE,zL]
   ((first|(with_reducible first|refine condK_dec ?_ ?_|refine condK_ndec ?_ ?_|refine condK_nb ?_ ?_)|refine condK_b ?_ ?_)<;>intro h2)
   · have h2:j<p.rules.length:=by omega
     have hmem:nth p.rules j∈p.rules:=nth_mem h2
     have hcl:=(ruleValid_facts (hp.rv _ hmem)).1
     have hch:=canHold_run hn (nth p.rules j) xs (hp.rv _ hmem) hg
     have hgo:(!(nth p.rules j).cells.contains (i:Int)||canHold (nth p.rules j) xs n)=true→∀m:Nat,m<j+1→(!(nth p.rules m).cells.contains (i:Int)||canHold (nth p.rules m) xs n)=true:=fun h m hm=>by
      by_cases hmj:m=j
      · rw[hmj];exact h
      · exact hyes m (by omega)
     simp(maxSteps:=999999)(disch:=omega)only[go_sem,zA,zM,zS,zE,zL]
     intro g2
     first|refine OpS.rd (Contains_run (nth p.rules j).cells (i:Int) (by omega)) (⟨_,Tryd.func51,rfl,rfl⟩:Enters Tryd.prog 51) rfl rfl rfl rfl ?_|refine Loud.rd (Contains_run (nth p.rules j).cells (i:Int) (by omega)) (⟨_,Tryd.func51,rfl,rfl⟩:Enters Tryd.prog 51) rfl rfl rfl rfl ?_
     simp(maxSteps:=999999)(disch:=omega)only[go_sem,zA,zM,zS,zE,zL]
     ((with_reducible first|refine guardK_dec ?_ ?_|refine guardK_ndec ?_ ?_|refine guardK_nb ?_ ?_|refine guardK_split ?_ ?_|refine guardQ_dec ?_ ?_|refine guardL_dec ?_ ?_|refine guardQ_ndec ?_ ?_|refine guardL_ndec ?_ ?_|refine guardQ_nb ?_ ?_|refine guardL_nb ?_ ?_|refine guardQ_split ?_ ?_|refine guardL_split ?_ ?_)<;>intro d1<;>simp(maxSteps:=999999)(disch:=omega)only[go_sem,zA,zM,zS,zE,zL,d1])
     · first|refine OpS.rd (hch) (⟨_,Tryd.func105,rfl,rfl⟩:Enters Tryd.prog 105) rfl rfl rfl rfl ?_|refine Loud.rd (hch) (⟨_,Tryd.func105,rfl,rfl⟩:Enters Tryd.prog 105) rfl rfl rfl rfl ?_
       simp(maxSteps:=999999)(disch:=omega)only[go_sem,zA,zM,zS,zE,zL]
       ((first|(with_reducible first|refine condK_dec ?_ ?_|refine condK_ndec ?_ ?_|refine condK_nb ?_ ?_)|refine condK_b ?_ ?_)<;>intro d2)
       · simp(maxSteps:=999999)(disch:=omega)only[go_sem,zA,zM,zS,zE,zL]
         exact⟨j+1,⟨⟨by omega,hgo (by simp[d2])⟩,by omega⟩,by push_cast;omega,HLe.app _ _⟩
       · simp(maxSteps:=999999)(disch:=omega)only[go_sem,zA,zM,zS,zE,zL]
         have:p.rules.all (fun r=> !r.cells.contains (i:Int)||canHold r xs n)=false:=by
          rw[List.all_eq_false]
          exact⟨_,hmem,by simp[d1,d2]⟩
         unfold cellFits
         rw[this,Bool.and_false]
     · exact⟨j+1,⟨⟨by omega,hgo (by simp[d1])⟩,by omega⟩,by push_cast;omega,HLe.app _ _⟩
   · have hall:p.rules.all (fun r=> !r.cells.contains (i:Int)||canHold r xs n)=true:=by
      rw[List.all_eq_true]
      intro r hr
      obtain⟨m,hm,rfl⟩:=List.mem_iff_getElem.1 hr
      have:=hyes m (by omega)
      rwa [nth_eq (by omega)]at this
     simp(maxSteps:=999999)(disch:=omega)only[go_sem,zA,zM,zS,zE,zL]
     unfold cellFits
     rw[hD,hall]
     rfl
end Go.Lg

namespace Go.Lg
open Go.Proofs
theorem sPuzzleFits_run(p:Puz)(xs:List Int)(hx:smP p)(hl:xs.length≤2^40):Reads Tryd.prog 98 [aP p,ints xs] (bool (puzzleValid p&&(gridValid xs p.size&&fitsL p xs p.size.toNat))):=by
 refine RunCall.cw (c:=_) Tryd.func98 rfl (n:=18) Tryd.ntmps98 (rs:=[.tmp 4]) rfl ?_
 simp only[List.length_cons,List.length_nil,zA,zS,List.replicate,List.cons_append,List.nil_append]
 simp(maxSteps:=999999)(disch:=omega)only[go_sem,zA,zM,zS,zE,zL]
 intro g
 first|refine OpS.rd (sPuzzleValid_run p hx) (⟨_,Tryd.func28,rfl,rfl⟩:Enters Tryd.prog 28) rfl rfl rfl rfl ?_|refine Loud.rd (sPuzzleValid_run p hx) (⟨_,Tryd.func28,rfl,rfl⟩:Enters Tryd.prog 28) rfl rfl rfl rfl ?_
 simp(maxSteps:=999999)(disch:=omega)only[go_sem,zA,zM,zS,zE,zL]
 cases h1:puzzleValid p with
 |false=>
  simp(maxSteps:=999999)(disch:=omega)only[go_sem,zA,zM,zS,zE,zL]
  rfl
 |true=>
  simp(maxSteps:=999999)(disch:=omega)only[go_sem,zA,zM,zS,zE,zL]
  first|refine OpS.rd (sGridValid_run xs p.size hl) (⟨_,Tryd.func59,rfl,rfl⟩:Enters Tryd.prog 59) rfl rfl rfl rfl ?_|refine Loud.rd (sGridValid_run xs p.size hl) (⟨_,Tryd.func59,rfl,rfl⟩:Enters Tryd.prog 59) rfl rfl rfl rfl ?_
  simp(maxSteps:=999999)(disch:=omega)only[go_sem,zA,zM,zS,zE,zL]
  cases h2:gridValid xs p.size with
  |false=>
   simp(maxSteps:=999999)(disch:=omega)only[go_sem,zA,zM,zS,zE,zL]
   rfl
  |true=>
   obtain⟨hp,hs⟩:=PuzN.of h1
   have hg:=GrdN.of hp.hn (by rw[hs];exact h2)
   simp(maxSteps:=999999)(disch:=omega)only[go_sem,zA,zM,zS,zE,zL]
   first|refine OpS.rd (l5Fits_run hp xs hg) (⟨_,Tryd.func120,rfl,rfl⟩:Enters Tryd.prog 120) rfl rfl rfl rfl ?_|refine Loud.rd (l5Fits_run hp xs hg) (⟨_,Tryd.func120,rfl,rfl⟩:Enters Tryd.prog 120) rfl rfl rfl rfl ?_
   simp(maxSteps:=999999)(disch:=omega)only[go_sem,zA,zM,zS,zE,zL]
theorem mask_get:∀(m:List Bool) (H:Heap) (j:Nat),(mask m H)[j]? =if m.getD j false=true then(H[j]?).map (fun _=>none)else H[j]?
 |[],H,j=>by simp[mask]
 |b::m,[],j=>by cases b<;>simp[mask]
 |b::m,x::H,j=>by
  have ih:=mask_get m H
  cases b<;>cases j with
  |zero=>simp[mask]
  |succ j=>simp only[mask,List.getElem?_cons_succ,List.getD_cons_succ,ih j]
theorem look_mask{m:List Bool}{H:Heap}{id g:Nat}(h:m.getD id false=false):look (mask m H) id g=look H id g:=by
 unfold look
 rw[mask_get,h]
 simp
theorem okM_gen{m:List Bool}{H H':Heap}(h:∀j (b:Blk),m.getD j false=false→H[j]? =some (some b)→H'[j]? =some (some b)):okM m H H':=fun id b hb=>by
 rw[mask_get]at hb⊢
 by_cases hm:m.getD id false=true
 · rw[if_pos hm]at hb
   cases hh:H[id]? <;>simp[hh]at hb
 · rw[if_neg hm]at hb⊢
   exact h id b (by simpa using hm) hb
def hideM(o n:Nat)(N:Nat):List Bool:=(List.range N).map fun j=>decide (j=o∨n≤j)
theorem hideM_no{o n N j:Nat}(h1:j≠o)(h2:j<n):(hideM o n N).getD j false=false:=by
 by_cases h:j<N
 · simp[hideM,List.getD,h,h1,h2]
 · have:(hideM o n N)[j]? =none:=List.getElem?_eq_none (by simp[hideM];omega)
   simp[List.getD,this]
theorem hideM_yes{o n N j:Nat}(h:(hideM o n N).getD j false=false)(hj:j<N):j≠o∧j<n:=by
 simp[hideM,List.getD,hj]at h
 omega
structure OutL(H:Heap)(pid pg:Nat)(ls:List (List Int))(S:List Nat):Prop where
 ex:∃oid og cs,look H pid pg=some ⟨pg,1,[.own oid og 0 ls.length none]⟩∧look H oid og=some ⟨og,1,cs⟩∧oid∈S∧cs.length=ls.length∧∀i (h:i<ls.length),∃id g,cs[i]? =some (.own id g 0 ls[i].length none)∧look H id g=some ⟨g,1,cl (eI .i64) ls[i]⟩∧id∈S∧id≠oid
 pn:pid∉S
theorem OutL.same{H H':Heap}{pid pg:Nat}{ls:List (List Int)}{S:List Nat}(h:OutL H pid pg ls S)(hs:∀i,i=pid∨i∈S→H'[i]? =H[i]?):OutL H' pid pg ls S:=by
 obtain⟨⟨oid,og,cs,h1,h2,h3,h4,h5⟩,hn⟩:=h
 refine⟨⟨oid,og,cs,by unfold look at*;rw[hs pid (.inl rfl)];exact h1,by unfold look at*;rw[hs oid (.inr h3)];exact h2,h3,h4,fun i hi=> ?_⟩,hn⟩
 obtain⟨id,g,k1,k2,k3,k4⟩:=h5 i hi
 exact⟨id,g,k1,by unfold look at*;rw[hs id (.inr k3)];exact k2,k3,k4⟩
end Go.Lg
