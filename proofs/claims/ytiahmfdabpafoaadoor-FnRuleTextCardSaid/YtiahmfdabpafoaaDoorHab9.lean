/- GpCB, cut to what is needed. -/
import Derived.Test.YtiahmfdabpafoaaDoorHab8
import Derived.Test.YtiahmfdabpafoaaDoorHab2
open Nat renaming reduceAdd→zA,reduceMul→zM,reduceSub→zS,reduceEqDiff→zE,reduceLeDiff→zL
set_option linter.unusedSimpArgs false
set_option linter.unusedVariables false
set_option maxRecDepth 100000
namespace Go.Lg
open Go.Proofs
theorem lineC_length(n line:Nat):(lineC n line).length=n:=by simp[lineC]
theorem lineC_nth{n line k:Nat}(h:k<n):nth (lineC n line) k=if line<n then((line*n+k:Nat):Int)else((k*n+line -n:Nat):Int):=by
 rw[nth_eq (by rw[lineC_length];omega)]
 simp[lineC]
theorem lineC_bound{n line k:Nat}(hn:n=2∨n=3∨n=4)(hl:line<2*n)(h:k<n):0≤nth (lineC n line) k∧nth (lineC n line) k<(n*n:Nat):=by
 rw[lineC_nth h]
 split<;>rcases hn with rfl|rfl|rfl<;>omega
theorem LineCells_own{n line:Nat}(hn:n=2∨n=3∨n=4)(hl:line<2*n):RunCall Tryd.prog 130 [int n,int line] [] (ownQ (eI .i64) 1 (lineC n line)):=by
 have hb:(line:Int)*n≤28∧0≤(line:Int)*n:=by rcases hn with rfl|rfl|rfl<;>omega
 have hn4:2≤n∧n≤4:=by omega
 have hlen:=lineC_length n line
 refine RunCall.cw (c:=_) Tryd.func130 rfl (n:=46) Tryd.ntmps130 (rs:=[.tmp 4]) rfl ?_
 simp only[List.length_cons,List.length_nil,zA,zS,List.replicate,List.cons_append,List.nil_append]
 simp(maxSteps:=999999)(disch:=omega)only[go_sem,zA,zM,zS,zE,zL]
 intro g
 refine loop_rule2 (fun(k g:Nat)=>n -k) (fun k g=>k≤n) (fun k g=>[.k, .k, .a, .a, .a, .p (.c (.own 0 g 0 k none)), .p (int k), .a, .a, .a, .a, .a, .a, .a, .a, .a, .a, .a, .a, .a, .a, .a, .a, .a, .a, .a, .a, .a, .a, .a, .a, .a, .a, .a, .a, .a, .a, .a, .a, .a, .a, .a, .a, .a, .a, .a]) (fun k g=>[some ⟨g,1,cl (eI .i64) ((lineC n line).take k)⟩]) 0 g
  (Nat.zero_le _) (by simp(maxSteps:=999999)(disch:=omega)only[go_sem,zA,zM,zS,zE,zL];rfl) (HLe.refl _) ?_
 intro k g hk
 simp(maxSteps:=999999)(disch:=omega)only[go_sem,zA,zM,zS,zE,zL]
 ((with_reducible first|refine guardK_dec ?_ ?_|refine guardK_ndec ?_ ?_|refine guardK_nb ?_ ?_|refine guardK_split ?_ ?_|refine guardQ_dec ?_ ?_|refine guardL_dec ?_ ?_|refine guardQ_ndec ?_ ?_|refine guardL_ndec ?_ ?_|refine guardQ_nb ?_ ?_|refine guardL_nb ?_ ?_|refine guardQ_split ?_ ?_|refine guardL_split ?_ ?_)<;>intro h1<;>simp(maxSteps:=999999)(disch:=omega)only[go_sem,zA,zM,zS,zE,zL,h1])
 · first|refine OpS.rd (l1In_run _ _ _) (⟨_,Tryd.func72,rfl,rfl⟩:Enters Tryd.prog 72) rfl rfl rfl rfl ?_|refine Loud.rd (l1In_run _ _ _) (⟨_,Tryd.func72,rfl,rfl⟩:Enters Tryd.prog 72) rfl rfl rfl rfl ?_
   simp(maxSteps:=999999)(disch:=omega)only[go_sem,zA,zM,zS,zE,zL]
   ((with_reducible first|refine guardK_dec ?_ ?_|refine guardK_ndec ?_ ?_|refine guardK_nb ?_ ?_|refine guardK_split ?_ ?_|refine guardQ_dec ?_ ?_|refine guardL_dec ?_ ?_|refine guardQ_ndec ?_ ?_|refine guardL_ndec ?_ ?_|refine guardQ_nb ?_ ?_|refine guardL_nb ?_ ?_|refine guardQ_split ?_ ?_|refine guardL_split ?_ ?_)<;>intro h2<;>simp(maxSteps:=999999)(disch:=omega)only[go_sem,zA,zM,zS,zE,zL,h2])
   rotate_left
   · exfalso;omega
   first|refine OpS.rd (l1In_run _ _ _) (⟨_,Tryd.func72,rfl,rfl⟩:Enters Tryd.prog 72) rfl rfl rfl rfl ?_|refine Loud.rd (l1In_run _ _ _) (⟨_,Tryd.func72,rfl,rfl⟩:Enters Tryd.prog 72) rfl rfl rfl rfl ?_
   simp(maxSteps:=999999)(disch:=omega)only[go_sem,zA,zM,zS,zE,zL]
   have h1:k<n:=by omega
   have hkb:(k:Int)*n≤16∧0≤(k:Int)*n:=by rcases hn with rfl|rfl|rfl<;>omega
   have hne:=lineC_nth (line:=line) h1
   ((first|(with_reducible first|refine condK_dec ?_ ?_|refine condK_ndec ?_ ?_|refine condK_nb ?_ ?_)|refine condK_b ?_ ?_)<;>intro h3)
   · simp(maxSteps:=999999)(disch:=omega)only[go_sem,zA,zM,zS,zE,zL]
     ((first|(with_reducible first|refine condK_dec ?_ ?_|refine condK_ndec ?_ ?_|refine condK_nb ?_ ?_)|refine condK_b ?_ ?_)<;>intro h4)
     · simp(maxSteps:=999999)(disch:=omega)only[go_sem,zA,zM,zS,zE,zL]
       intro g1 g2
       refine⟨k+1,g2,⟨by omega,by omega⟩,⟨⟨rfl,rfl⟩,by push_cast;omega⟩,hle_eq ?_ (hle_nil _)⟩
       rw[take_succ_nth (by omega),hne,if_pos (by omega)]
       push_cast
       rfl
     · simp(maxSteps:=999999)(disch:=omega)only[go_sem,zA,zM,zS,zE,zL]
       intro g1 g2
       refine⟨k+1,g2,⟨by omega,by omega⟩,⟨⟨rfl,rfl⟩,by push_cast;omega⟩,hle_eq ?_ (hle_nil _)⟩
       rw[take_succ_nth (by omega),hne,if_neg (by omega)]
       have:((k*n+line -n:Nat):Int)=(k:Int)*n+line -n:=by
        have:n≤k*n+line:=by omega
        omega
       rw[this]
   · exfalso;omega
 · have hi':k=n:=by omega
   subst hi'
   rw[List.take_of_length_le (by omega)]
   have:=lessQ_own (E:=eI .i64) (n:=1) (g:=g) (xs:=lineC k line) (HLe.refl [some ⟨g,1,cl (eI .i64) (lineC k line)⟩])
   rw[hlen]at this
   exact this
theorem LineCells_run{n line:Nat}(hn:n=2∨n=3∨n=4)(hl:line<2*n):Reads Tryd.prog 130 [int n,int line] (ints (lineC n line)):=Reads.own (LineCells_own hn hl)
theorem shl_small{v:Int}(h:0≤v∧v≤4):binI .shl .i64 1 .i64 v=some (.int .i64 ((2^v.toNat:Nat):Int)):=by
 obtain⟨k,rfl⟩:∃k:Nat,v=k:=⟨v.toNat,by omega⟩
 have hk:k=0∨k=1∨k=2∨k=3∨k=4:=by omega
 rcases hk with rfl|rfl|rfl|rfl|rfl<;>rfl
theorem shr_small{s:Nat}{v:Int}(h:0≤v∧v≤4):binI .shr .i64 (s:Int) .i64 v=some (.int .i64 ((s>>>v.toNat:Nat):Int)):=by
 obtain⟨k,rfl⟩:∃k:Nat,v=k:=⟨v.toNat,by omega⟩
 simp only[binI]
 rw[if_neg (by omega)]
 have hb:min (k:Int).toNat IntKind.i64.bits=k:=by
  rw[Int.toNat_natCast]
  have:IntKind.i64.bits=64:=rfl
  omega
 rw[hb,Int.toNat_natCast,Nat.shiftRight_eq_div_pow]
 have e:((s:Int)).fdiv (2^k)=((s/2^k:Nat):Int):=by
  rw[Int.fdiv_eq_ediv_of_nonneg _ (by have:(0:Int)<2^k:=Int.pow_pos (by omega);omega)]
  push_cast
  rfl
 rw[e]
theorem or_small{a b:Nat}(ha:a<2^62)(hb:b<2^62):bitsI .or .i64 (a:Int) (b:Int)=((a|||b:Nat):Int):=by
 have hz:a|||b<2^62:=Nat.or_lt_two_pow ha hb
 have e:(BitVec.ofInt 64 (a:Int)|||BitVec.ofInt 64 (b:Int)).toNat=a|||b:=by
  simp only[BitVec.toNat_or,BitVec.ofInt_natCast,BitVec.toNat_ofNat]
  rw[Nat.mod_eq_of_lt (by omega),Nat.mod_eq_of_lt (by omega)]
 unfold bitsI
 show IntKind.wrap .i64 ((BitVec.ofInt 64 (a:Int)|||BitVec.ofInt 64 (b:Int)).toNat:Int)=_
 rw[e]
 exact ok_i64 (by omega)
theorem bit_mod{s k:Nat}:decide ((((s>>>k:Nat):Int)).tmod 2=1)=s.testBit k:=by
 rw[Nat.testBit_eq_decide_div_mod_eq,Nat.shiftRight_eq_div_pow]
 generalize s/2^k=m
 rw[tmod_nn (by omega),decide_eq_decide]
 omega
theorem clashC_cons(xs:List Int)(c:Int)(cs:List Int)(seen:Nat):clashC xs (c::cs) seen=if(decide (0<nth xs c)&&seen.testBit (nth xs c).toNat)=true then true else clashC xs cs (seen|||2^(nth xs c).toNat):=rfl
theorem l2Clash_run{n:Nat}(hn:n=2∨n=3∨n=4)(xs:List Int)(hl:xs.length=n*n)(hv:∀k:Nat,k<xs.length→0≤nth xs k∧nth xs k≤4):Reads Tryd.prog 115 [ints xs,int n] (bool (clash xs n)):=by
 have hn4:2≤n∧n≤4:=by omega
 refine RunCall.cw (c:=_) Tryd.func115 rfl (n:=45) Tryd.ntmps115 (rs:=[.tmp 4]) rfl ?_
 simp only[List.length_cons,List.length_nil,zA,zS,List.replicate,List.cons_append,List.nil_append]
 simp(maxSteps:=999999)(disch:=omega)only[go_sem,zA,zM,zS,zE,zL]
 refine loop_rule (fun i:Nat=>2*n -i) (fun i=>i≤2*n∧∀j,j<i→clashC xs (lineC n j) 0=false) (fun i=>[.k, .k, .a, .a, .a, .p (int i), .a, .a, .a, .a, .a, .a, .a, .a, .a, .a, .a, .a, .a, .a, .a, .a, .a, .a, .a, .a, .a, .a, .a, .a, .a, .a, .a, .a, .a, .a, .a, .a, .a, .a, .a, .a, .a, .a, .a]) (fun _=>[]) 0 ⟨Nat.zero_le _,fun j hj=>absurd hj (Nat.not_lt_zero _)⟩ (by simp(maxSteps:=999999)(disch:=omega)only[go_sem,zA,zM,zS,zE,zL];rfl) (hle_nil _) ?_
 rintro i ⟨hi,hno⟩
 simp(maxSteps:=999999)(disch:=omega)only[go_sem,zA,zM,zS,zE,zL]
 ((first|(with_reducible first|refine condK_dec ?_ ?_|refine condK_ndec ?_ ?_|refine condK_nb ?_ ?_)|refine condK_b ?_ ?_)<;>intro h1)
 · have h1:i<2*n:=by omega
   simp(maxSteps:=999999)(disch:=omega)only[go_sem,zA,zM,zS,zE,zL]
   first|refine OpS.mk (LineCells_run hn h1) (⟨_,Tryd.func130,rfl,rfl⟩:Enters Tryd.prog 130) rfl rfl rfl rfl rfl ?_|refine Loud.mk (LineCells_run hn h1) (⟨_,Tryd.func130,rfl,rfl⟩:Enters Tryd.prog 130) rfl rfl rfl rfl rfl ?_
   simp(maxSteps:=999999)(disch:=omega)only[go_sem,zA,zM,zS,zE,zL]
   have hlen:=lineC_length n i
   refine loop_rule2 (fun(k seen:Nat)=>n -k) (fun k seen=>k≤n∧clashC xs (lineC n i) 0=clashC xs ((lineC n i).drop k) seen∧seen<32) (fun k seen=>[.k, .k, .a, .a, .a, .k, .k, .p (int seen), .p (int k), .a, .a, .a, .a, .a, .a, .a, .a, .a, .a, .a, .a, .a, .a, .a, .a, .a, .a, .a, .a, .a, .a, .a, .a, .a, .a, .a, .a, .a, .a, .a, .a, .a, .a, .a, .a]) (fun _ _=>[]) 0 0 ⟨Nat.zero_le _,rfl,by omega⟩ (by simp(maxSteps:=999999)(disch:=omega)only[go_sem,zA,zM,zS,zE,zL];rfl) (hle_nil _) ?_
   rintro k seen ⟨hk,hc,hs⟩
   simp(maxSteps:=999999)(disch:=omega)only[go_sem,zA,zM,zS,zE,zL]
   ((first|(with_reducible first|refine condK_dec ?_ ?_|refine condK_ndec ?_ ?_|refine condK_nb ?_ ?_)|refine condK_b ?_ ?_)<;>intro h2)
   · have h2:k<n:=by omega
     obtain⟨hb0,hb1⟩:=lineC_bound hn h1 h2
     obtain⟨c,hcc⟩:∃c:Nat,nth (lineC n i) k=c:=⟨(nth (lineC n i) k).toNat,by omega⟩
     have hcl:c<xs.length:=by omega
     have hvc:=hv c hcl
     have hd:(lineC n i).drop k=(c:Int)::(lineC n i).drop (k+1):=by
      rw[List.drop_eq_getElem_cons (by omega),←hcc,nth_eq (by omega)]
      simp
     rw[hd,clashC_cons]at hc
     have hor:seen|||2^(nth xs c).toNat<32:=by
      refine Nat.or_lt_two_pow (n:=5) (by omega) ?_
      have:(nth xs c).toNat=0∨(nth xs c).toNat=1∨(nth xs c).toNat=2∨(nth xs c).toNat=3∨(nth xs c).toNat=4:=by omega
      rcases this with h|h|h|h|h<;>rw[h]<;>omega
     have hpw:2^(nth xs c).toNat<2^62:=Nat.pow_lt_pow_right (by omega) (by omega)
     simp(maxSteps:=999999)(disch:=omega)only[go_sem,zA,zM,zS,zE,zL,hcc]
     ((with_reducible first|refine guardK_dec ?_ ?_|refine guardK_ndec ?_ ?_|refine guardK_nb ?_ ?_|refine guardK_split ?_ ?_|refine guardQ_dec ?_ ?_|refine guardL_dec ?_ ?_|refine guardQ_ndec ?_ ?_|refine guardL_ndec ?_ ?_|refine guardQ_nb ?_ ?_|refine guardL_nb ?_ ?_|refine guardQ_split ?_ ?_|refine guardL_split ?_ ?_)<;>intro h3<;>simp(maxSteps:=999999)(disch:=omega)only[go_sem,zA,zM,zS,zE,zL,h3])
     · simp(maxSteps:=999999)(disch:=omega)only[go_sem,zA,zM,zS,zE,zL,shr_small hvc,bit_mod]
       ((first|(with_reducible first|refine condK_dec ?_ ?_|refine condK_ndec ?_ ?_|refine condK_nb ?_ ?_)|refine condK_b ?_ ?_)<;>intro h4)
       · simp(maxSteps:=999999)(disch:=omega)only[go_sem,zA,zM,zS,zE,zL]
         have hcl:clashC xs (lineC n i) 0=true:=by rw[hc,if_pos (by simp[h3,h4])]
         unfold clash
         rw[eq_comm,List.any_eq_true]
         exact⟨i,List.mem_range.2 h1,hcl⟩
       · simp(maxSteps:=999999)(disch:=omega)only[go_sem,zA,zM,zS,zE,zL,shl_small hvc,or_small (show seen<2^62 by omega) hpw]
         exact⟨k+1,_,⟨⟨by omega,by rw[hc,if_neg (by simp[h4])],hor⟩,by omega⟩,⟨rfl,by push_cast;omega⟩,hle_nil _⟩
     · simp(maxSteps:=999999)(disch:=omega)only[go_sem,zA,zM,zS,zE,zL,shl_small hvc,or_small (show seen<2^62 by omega) hpw]
       exact⟨k+1,_,⟨⟨by omega,by rw[hc,if_neg (by simp;omega)],hor⟩,by omega⟩,⟨rfl,by push_cast;omega⟩,hle_nil _⟩
   · have hkn:k=n:=by omega
     have hc':clashC xs (lineC n i) 0=false:=by rw[hc,hkn,List.drop_of_length_le (by omega)];rfl
     simp(maxSteps:=999999)(disch:=omega)only[go_sem,zA,zM,zS,zE,zL]
     refine⟨i+1,⟨⟨by omega,fun j hj=> ?_⟩,by omega⟩,by push_cast;omega,hle_nil _⟩
     by_cases hji:j=i
     · rw[hji];exact hc'
     · exact hno j (by omega)
 · simp(maxSteps:=999999)(disch:=omega)only[go_sem,zA,zM,zS,zE,zL]
   unfold clash
   rw[eq_comm,List.any_eq_false]
   intro j hj
   rw[hno j (by have:=List.mem_range.1 hj;omega)]
   simp
end Go.Lg
