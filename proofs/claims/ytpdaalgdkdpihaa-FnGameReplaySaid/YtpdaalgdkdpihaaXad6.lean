/- GpMC, GpMD, GpME, cut to what is needed. -/
import Derived.Test.YtpdaalgdkdpihaaXad5
import Derived.Test.YtpdaalgdkdpihaaXac8
open Nat renaming reduceAdd→zA,reduceMul→zM,reduceSub→zS,reduceEqDiff→zE,reduceLeDiff→zL
set_option linter.unusedSimpArgs false
set_option linter.unusedVariables false
set_option maxRecDepth 100000
namespace Go.Lg
open Go.Proofs
theorem l6Copy_own(xs:List Int)(hx:xs.length≤2^40)(h0:xs≠[]):RunCall Try.prog 125 [ints xs] [] (ownQ (eI .i64) 1 xs):=by
 have hp:0<xs.length:=List.length_pos_iff.2 h0
 refine RunCall.cw (c:=_) Try.func125 rfl (n:=6) Try.ntmps125 (rs:=[.tmp 2]) rfl ?_
 simp only[List.length_cons,List.length_nil,zA,zS,List.replicate,List.cons_append,List.nil_append]
 simp(maxSteps:=999999)(disch:=omega)only[go_sem,zA,zM,zS,zE,zL]
 intro g g'
 rw[Nat.zero_add]
 exact lessQ_own (E:=eI .i64) (n:=1) (HLe.refl _)
set_option maxHeartbeats 4000000 in
theorem sNarrowSingles_run{n:Nat}(hn:n=2∨n=3∨n=4)(ms:List Nat)(hm:MsN ms n):Reads Try.prog 119 [ints (nats ms),int n] (ints (nats (sglM ms n))):=by
 have hsq:4≤n*n∧n*n≤16:=by rcases hn with rfl|rfl|rfl<;>omega
 have hl:(nats ms).length=n*n:=by rw[nats_len];exact hm.len
 rw[←sgl_same hn hm]
 refine Reads.own ?_
 refine RunCall.cw (c:=_) Try.func119 rfl (n:=68) Try.ntmps119 (rs:=[.tmp 4]) rfl ?_
 simp only[List.length_cons,List.length_nil,zA,zS,List.replicate,List.cons_append,List.nil_append]
 simp(maxSteps:=999999)(disch:=omega)only[go_sem,zA,zM,zS,zE,zL]
 first|refine OpS.rd (sMasksValid_run hn (nats ms) hm.ok) (⟨_,Try.func118,rfl,rfl⟩:Enters Try.prog 118) rfl rfl rfl rfl ?_|refine Loud.rd (sMasksValid_run hn (nats ms) hm.ok) (⟨_,Try.func118,rfl,rfl⟩:Enters Try.prog 118) rfl rfl rfl rfl ?_
 simp(maxSteps:=999999)(disch:=omega)only[go_sem,zA,zM,zS,zE,zL]
 refine OpS.mkQ (l6Copy_own (nats ms) (by omega) (by intro h;rw[h]at hl;simp at hl;omega)) (⟨_,Try.func125,rfl,rfl⟩:Enters Try.prog 125) rfl rfl rfl ?_
 rintro _ _ ⟨g,rfl,rfl⟩
 refine⟨rfl, ?_⟩
 simp(maxSteps:=999999)(disch:=omega)only[go_sem,zA,zM,zS,zE,zL]
 rw[hl]
 refine loop_rule (fun i:Nat=>n*n -i) (fun i=>i≤n*n) (fun i=>[.k, .k, .a, .a, .a, .k, .p (int i), .a, .a, .a, .a, .a, .a, .a, .a, .a, .a, .a, .a, .a, .a, .a, .a, .a, .a, .a, .a, .a, .a, .a, .a, .a, .a, .a, .a, .a, .a, .a, .a, .a, .a, .a, .a, .a, .a, .a, .a, .a, .a, .a, .a, .a, .a, .a, .a, .a, .a, .a, .a, .a, .a, .a, .a, .a, .a, .a, .a, .a]) (fun i=>[some ⟨g,1,cl (eI .i64) (nats (clrL ((List.range i).flatMap (sglB ms n)) ms))⟩]) 0 (Nat.zero_le _) (by simp(maxSteps:=999999)(disch:=omega)only[go_sem,zA,zM,zS,zE,zL];rfl) (HLe.refl _) ?_
 intro i hi
 have hrs:=flat_succ (sglB ms n) i
 have hok:=fun R=>clrL_ok R hm
 have hlt:=fun R k=>(hok R).lt hn k
 have hll:=fun R:List (Nat×Nat)=>(clrL_len R ms).trans hm.len
 generalize hR:(List.range i).flatMap (sglB ms n)=R at hrs⊢
 simp(maxSteps:=999999)(disch:=omega)only[go_sem,zA,zM,zS,zE,zL]
 ((first|(with_reducible first|refine condK_dec ?_ ?_|refine condK_ndec ?_ ?_|refine condK_nb ?_ ?_)|refine condK_b ?_ ?_)<;>intro h1)
 · have h1:i<n*n:=by omega
   have hmi:=hm.lt hn i
   have hni:=nth_nats ms i
   have hmv:=mvals_only hmi
   simp(maxSteps:=999999)(disch:=omega)only[go_sem,zA,zM,zS,zE,zL,hni]
   first|refine OpS.mk (MaskValues_run (mAt ms i) hmi) (⟨_,Try.func112,rfl,rfl⟩:Enters Try.prog 112) rfl rfl rfl rfl rfl ?_|refine Loud.mk (MaskValues_run (mAt ms i) hmi) (⟨_,Try.func112,rfl,rfl⟩:Enters Try.prog 112) rfl rfl rfl rfl rfl ?_
   simp(maxSteps:=999999)(disch:=omega)only[go_sem,zA,zM,zS,zE,zL]
   ((first|(with_reducible first|refine condK_dec ?_ ?_|refine condK_ndec ?_ ?_|refine condK_nb ?_ ?_)|refine condK_b ?_ ?_)<;>intro h2)
   rotate_left
   · have h2:onlyV (mAt ms i)=0:=by
      by_cases h:onlyV (mAt ms i)=0
      · exact h
      · exact absurd (hmv.1.2 h) (by omega)
     have hA:sglB ms n i=[]:=if_pos h2
     rw[hA,List.append_nil]at hrs
     simp(maxSteps:=999999)(disch:=omega)only[go_sem,zA,zM,zS,zE,zL]
     exact⟨i+1,⟨by omega,by omega⟩,by push_cast;rfl,by rw[hrs];exact HLe.refl _⟩
   · have h2:onlyV (mAt ms i)≠0:=hmv.1.1 (by omega)
     have hA:sglB ms n i=(List.range (n*n)).flatMap (sglJ ms n i):=if_neg h2
     rw[hA]at hrs
     clear hA
     simp(maxSteps:=999999)(disch:=omega)only[go_sem,zA,zM,zS,zE,zL]
     refine loop_rule (fun j:Nat=>n*n -j) (fun j=>j≤n*n) (fun j=>[.k, .k, .a, .a, .a, .k, .k, .p (int j), .a, .a, .a, .a, .a, .a, .a, .a, .a, .a, .a, .a, .a, .a, .a, .a, .a, .a, .a, .a, .a, .a, .a, .a, .a, .a, .a, .a, .a, .a, .a, .a, .a, .a, .a, .a, .a, .a, .a, .a, .a, .a, .a, .a, .a, .a, .a, .a, .a, .a, .a, .a, .a, .a, .a, .a, .a, .a, .a, .a]) (fun j=>[some ⟨g,1,cl (eI .i64) (nats (clrL (R++(List.range j).flatMap (sglJ ms n i)) ms))⟩]) 0 (Nat.zero_le _) (by simp(maxSteps:=999999)(disch:=omega)only[go_sem,zA,zM,zS,zE,zL];rfl) (by simp only[List.range_zero,List.flatMap_nil,List.append_nil];exact HLe.refl _) ?_
     intro j hj
     have hks:=flat_succ (sglJ ms n i) j
     generalize hS:(List.range j).flatMap (sglJ ms n i)=S at hks⊢
     simp(maxSteps:=999999)(disch:=omega)only[go_sem,zA,zM,zS,zE,zL]
     ((first|(with_reducible first|refine condK_dec ?_ ?_|refine condK_ndec ?_ ?_|refine condK_nb ?_ ?_)|refine condK_b ?_ ?_)<;>intro h3)
     · have h3:j<n*n:=by omega
       have hjd:(j:Int).tdiv (n:Int)=((j/n:Nat):Int):=rfl
       have hjm:(j:Int).tmod (n:Int)=((j%n:Nat):Int):=rfl
       have hid:(i:Int).tdiv (n:Int)=((i/n:Nat):Int):=rfl
       have him:(i:Int).tmod (n:Int)=((i%n:Nat):Int):=rfl
       have hJ:sglJ ms n i j=if j≠i∧(j/n=i/n∨j%n=i%n)then[(j,mAt ms i)]else[]:=rfl
       have hbd:j/n≤j∧i/n≤i∧j%n≤j∧i%n≤i:=⟨Nat.div_le_self _ _,Nat.div_le_self _ _,Nat.mod_le _ _,Nat.mod_le _ _⟩
       generalize j/n=a at hjd hJ hbd
       generalize i/n=b at hid hJ hbd
       generalize j%n=c at hjm hJ hbd
       generalize i%n=d at him hJ hbd
       generalize hQ:R++S=Q
       have hQn:=nth_nats (clrL Q ms) j
       have hQl:(nats (clrL Q ms)).length=n*n:=by rw[nats_len];exact hll Q
       have hQc:bitsI .andNot .i64 ((mAt (clrL Q ms) j:Nat):Int) ((mAt ms i:Nat):Int)=((clr (mAt (clrL Q ms) j) (mAt ms i):Nat):Int):=andNot_small (by have:=(hlt Q j).1;omega) (by omega)
       have hQs:=fun v:Nat=>setRange_nats (b:=clrL Q ms) (k:=j) (v:=v) (by rw[hll Q];omega)
       have hyes:(j≠i∧(a=b∨c=d))→R++(List.range (j+1)).flatMap (sglJ ms n i)=Q++[(j,mAt ms i)]:=fun h=>by rw[hks,hJ,if_pos h,←List.append_assoc,hQ]
       have hnot:¬(j≠i∧(a=b∨c=d))→R++(List.range (j+1)).flatMap (sglJ ms n i)=Q:=fun h=>by rw[hks,hJ,if_neg h,List.append_nil,hQ]
       simp(maxSteps:=999999)(disch:=omega)only[go_sem,zA,zM,zS,zE,zL]
       refine drawP_q foll (by kernel_rfl) ?_
       simp(maxSteps:=999999)(disch:=omega)only[go_sem,Nat.reduceBEq,Bool.true_or,zA,zM,zS,zE,zL]
       ((with_reducible first|refine guardK_dec ?_ ?_|refine guardK_ndec ?_ ?_|refine guardK_nb ?_ ?_|refine guardK_split ?_ ?_|refine guardQ_dec ?_ ?_|refine guardL_dec ?_ ?_|refine guardQ_ndec ?_ ?_|refine guardL_ndec ?_ ?_|refine guardQ_nb ?_ ?_|refine guardL_nb ?_ ?_|refine guardQ_split ?_ ?_|refine guardL_split ?_ ?_)<;>intro h4<;>simp(maxSteps:=999999)(disch:=omega)only[go_sem,zA,zM,zS,zE,zL,h4])
       · exact⟨j+1,⟨by omega,by omega⟩,by push_cast;omega,by rw[hnot (by omega)];exact HLe.refl _⟩
       · simp(maxSteps:=999999)(disch:=omega)only[go_sem,zA,zM,zS,zE,zL,hjd,hjm,hid,him]
         ((with_reducible first|refine guardK_dec ?_ ?_|refine guardK_ndec ?_ ?_|refine guardK_nb ?_ ?_|refine guardK_split ?_ ?_|refine guardQ_dec ?_ ?_|refine guardL_dec ?_ ?_|refine guardQ_ndec ?_ ?_|refine guardL_ndec ?_ ?_|refine guardQ_nb ?_ ?_|refine guardL_nb ?_ ?_|refine guardQ_split ?_ ?_|refine guardL_split ?_ ?_)<;>intro h5<;>simp(maxSteps:=999999)(disch:=omega)only[go_sem,zA,zM,zS,zE,zL,h5])
         · skip
           refine drawP_lF [0,1,2,3,4,5,6,7,8,9,10] [] none [11,12] [] foll (by kernel_rfl) ?_
           simp(maxSteps:=999999)(disch:=omega)only[go_sem,Nat.reduceBEq,Bool.true_or,zA,zM,zS,zE,zL]
           simp(maxSteps:=999999)(disch:=omega)only[go_sem,zA,zM,zS,zE,zL,hQn,hQl,hQc,hQs]
           exact⟨j+1,⟨by omega,by omega⟩,by push_cast;rfl,by rw[hyes ⟨by omega, .inl (by omega)⟩,clrL_one,←nats_set,←hQc,←hni,Int.toNat_natCast];exact HLe.refl _⟩
         · simp(maxSteps:=999999)(disch:=omega)only[go_sem,zA,zM,zS,zE,zL,hjd,hjm,hid,him]
           ((first|(with_reducible first|refine condK_dec ?_ ?_|refine condK_ndec ?_ ?_|refine condK_nb ?_ ?_)|refine condK_b ?_ ?_)<;>intro h6)
           · simp(maxSteps:=999999)(disch:=omega)only[go_sem,zA,zM,zS,zE,zL]
             refine drawP_lF [0,1,2,3,4,5,6,7,8,9,10] [] none [11,12] [] foll (by kernel_rfl) ?_
             simp(maxSteps:=999999)(disch:=omega)only[go_sem,Nat.reduceBEq,Bool.true_or,zA,zM,zS,zE,zL]
             simp(maxSteps:=999999)(disch:=omega)only[go_sem,zA,zM,zS,zE,zL,hQn,hQl,hQc,hQs]
             exact⟨j+1,⟨by omega,by omega⟩,by push_cast;rfl,by rw[hyes ⟨by omega, .inr (by omega)⟩,clrL_one,←nats_set,←hQc,←hni,Int.toNat_natCast];exact HLe.refl _⟩
           · simp(maxSteps:=999999)(disch:=omega)only[go_sem,zA,zM,zS,zE,zL]
             exact⟨j+1,⟨by omega,by omega⟩,by push_cast;rfl,by rw[hnot (by omega)];exact HLe.refl _⟩
     · have hke:j=n*n:=by omega
       rw[hke]at hS
       simp(maxSteps:=999999)(disch:=omega)only[go_sem,zA,zM,zS,zE,zL]
       exact⟨i+1,⟨by omega,by omega⟩,by push_cast;rfl,by rw[hrs,hS];exact HLe.refl _⟩
 · have hie:i=n*n:=by omega
   rw[hie]at hR
   rw[hR]
   have hl2:(nats (clrL R ms)).length=n*n:=by rw[nats_len];exact hll R
   simp(maxSteps:=999999)(disch:=omega)only[go_sem,zA,zM,zS,zE,zL]
   rw[←hl2]
   exact lessQ_own (E:=eI .i64) (n:=1) (HLe.refl _)
end Go.Lg

namespace Go.Lg
open Go.Proofs
def lnN(n line k:Nat):Nat:=(nth (lineC n line) k).toNat
theorem lnN_lt{n line k:Nat}(hn:n=2∨n=3∨n=4)(hl:line<2*n)(hk:k<n):lnN n line k<n*n∧nth (lineC n line) k=((lnN n line k:Nat):Int):=by
 obtain⟨h1,h2⟩:=lineC_bound hn hl hk
 unfold lnN
 have:(0:Int)≤nth (lineC n line) k:=h1
 constructor
 · omega
 · omega
def hcnt(ms:List Nat)(n line v:Nat):Nat→Nat×Nat
 |0=>(0,0)
 |k+1=>if(mAt ms (lnN n line k)).testBit v=true then((hcnt ms n line v k).1+1,lnN n line k)else hcnt ms n line v k
theorem hcnt_le(ms:List Nat)(n line v:Nat):∀k,(hcnt ms n line v k).1≤k
 |0=>Nat.le_refl _
 |k+1=>by
  have:=hcnt_le ms n line v k
  unfold hcnt
  split
  · simp only;omega
  · omega
theorem hcnt_at{ms:List Nat}{n line v:Nat}(hn:n=2∨n=3∨n=4)(hl:line<2*n):∀k,k≤n→(hcnt ms n line v k).2<n*n
 |0,_=>by
  show 0<n*n
  rcases hn with rfl|rfl|rfl<;>decide
 |k+1,hk=>by
  unfold hcnt
  split
  · exact(lnN_lt hn hl (by omega)).1
  · exact hcnt_at hn hl k (by omega)
def hidV(ms:List Nat)(n line u:Nat):List (Nat×Nat):=if(hcnt ms n line (u+1) n).1=1 then[((hcnt ms n line (u+1) n).2,31^^^2^(u+1))]else[]
def hidA(ms:List Nat)(n line:Nat):List (Nat×Nat):=(List.range n).flatMap (hidV ms n line)
def hidM(ms:List Nat)(n:Nat):List Nat:=clrL ((List.range (2*n)).flatMap (hidA ms n)) ms
set_option maxHeartbeats 4000000 in
theorem sNarrowHidden_run{n:Nat}(hn:n=2∨n=3∨n=4)(ms:List Nat)(hm:MsN ms n):Reads Try.prog 120 [ints (nats ms),int n] (ints (nats (hidM ms n))):=by
 have hsq:4≤n*n∧n*n≤16:=by rcases hn with rfl|rfl|rfl<;>omega
 have hl:(nats ms).length=n*n:=by rw[nats_len];exact hm.len
 have hn4:2≤n∧n≤4:=by omega
 refine Reads.own ?_
 refine RunCall.cw (c:=_) Try.func120 rfl (n:=69) Try.ntmps120 (rs:=[.tmp 4]) rfl ?_
 simp only[List.length_cons,List.length_nil,zA,zS,List.replicate,List.cons_append,List.nil_append]
 simp(maxSteps:=999999)(disch:=omega)only[go_sem,zA,zM,zS,zE,zL]
 first|refine OpS.rd (sMasksValid_run hn (nats ms) hm.ok) (⟨_,Try.func118,rfl,rfl⟩:Enters Try.prog 118) rfl rfl rfl rfl ?_|refine Loud.rd (sMasksValid_run hn (nats ms) hm.ok) (⟨_,Try.func118,rfl,rfl⟩:Enters Try.prog 118) rfl rfl rfl rfl ?_
 simp(maxSteps:=999999)(disch:=omega)only[go_sem,zA,zM,zS,zE,zL]
 refine OpS.mkQ (l6Copy_own (nats ms) (by omega) (by intro h;rw[h]at hl;simp at hl;omega)) (⟨_,Try.func125,rfl,rfl⟩:Enters Try.prog 125) rfl rfl rfl ?_
 rintro _ _ ⟨g,rfl,rfl⟩
 refine⟨rfl, ?_⟩
 simp(maxSteps:=999999)(disch:=omega)only[go_sem,zA,zM,zS,zE,zL]
 rw[hl]
 refine loop_rule (fun i:Nat=>2*n -i) (fun i=>i≤2*n) (fun i=>[.k, .k, .a, .a, .a, .k, .p (int i), .a, .a, .a, .a, .a, .a, .a, .a, .a, .a, .a, .a, .a, .a, .a, .a, .a, .a, .a, .a, .a, .a, .a, .a, .a, .a, .a, .a, .a, .a, .a, .a, .a, .a, .a, .a, .a, .a, .a, .a, .a, .a, .a, .a, .a, .a, .a, .a, .a, .a, .a, .a, .a, .a, .a, .a, .a, .a, .a, .a, .a, .a]) (fun i=>[some ⟨g,1,cl (eI .i64) (nats (clrL ((List.range i).flatMap (hidA ms n)) ms))⟩]) 0 (Nat.zero_le _) (by simp(maxSteps:=999999)(disch:=omega)only[go_sem,zA,zM,zS,zE,zL];rfl) (HLe.refl _) ?_
 intro i hi
 have hrs:=flat_succ (hidA ms n) i
 have hok:=fun R=>clrL_ok R hm
 have hlt:=fun R k=>(hok R).lt hn k
 have hll:=fun R:List (Nat×Nat)=>(clrL_len R ms).trans hm.len
 generalize hR:(List.range i).flatMap (hidA ms n)=R at hrs⊢
 simp(maxSteps:=999999)(disch:=omega)only[go_sem,zA,zM,zS,zE,zL]
 ((first|(with_reducible first|refine condK_dec ?_ ?_|refine condK_ndec ?_ ?_|refine condK_nb ?_ ?_)|refine condK_b ?_ ?_)<;>intro h1)
 · have h1:i<2*n:=by omega
   have hlc:=lineC_length n i
   simp(maxSteps:=999999)(disch:=omega)only[go_sem,zA,zM,zS,zE,zL]
   first|refine OpS.mk (LineCells_run hn h1) (⟨_,Try.func123,rfl,rfl⟩:Enters Try.prog 123) rfl rfl rfl rfl rfl ?_|refine Loud.mk (LineCells_run hn h1) (⟨_,Try.func123,rfl,rfl⟩:Enters Try.prog 123) rfl rfl rfl rfl rfl ?_
   simp(maxSteps:=999999)(disch:=omega)only[go_sem,zA,zM,zS,zE,zL]
   refine loop_rule (fun u:Nat=>n -u) (fun u=>u≤n) (fun u=>[.k, .k, .a, .a, .a, .k, .k, .k, .p (int ((u:Int)+1)), .a, .a, .a, .a, .a, .a, .a, .a, .a, .a, .a, .a, .a, .a, .a, .a, .a, .a, .a, .a, .a, .a, .a, .a, .a, .a, .a, .a, .a, .a, .a, .a, .a, .a, .a, .a, .a, .a, .a, .a, .a, .a, .a, .a, .a, .a, .a, .a, .a, .a, .a, .a, .a, .a, .a, .a, .a, .a, .a, .a]) (fun u=>[some ⟨g,1,cl (eI .i64) (nats (clrL (R++(List.range u).flatMap (hidV ms n i)) ms))⟩]) 0 (Nat.zero_le _) (by simp(maxSteps:=999999)(disch:=omega)only[go_sem,zA,zM,zS,zE,zL];rfl) (by simp only[List.range_zero,List.flatMap_nil,List.append_nil];exact HLe.refl _) ?_
   intro u hu
   have hks:=flat_succ (hidV ms n i) u
   have hV:hidV ms n i u=if(hcnt ms n i (u+1) n).1=1 then[((hcnt ms n i (u+1) n).2,31^^^2^(u+1))]else[]:=rfl
   generalize hS:(List.range u).flatMap (hidV ms n i)=S at hks⊢
   simp(maxSteps:=999999)(disch:=omega)only[go_sem,zA,zM,zS,zE,zL]
   ((first|(with_reducible first|refine condK_dec ?_ ?_|refine condK_ndec ?_ ?_|refine condK_nb ?_ ?_)|refine condK_b ?_ ?_)<;>intro h3)
   · have h3:u<n:=by omega
     simp(maxSteps:=999999)(disch:=omega)only[go_sem,zA,zM,zS,zE,zL]
     refine loop_rule (fun k:Nat=>n -k) (fun k=>k≤n) (fun k=>[.k, .k, .a, .a, .a, .k, .k, .k, .k, .p (int ((hcnt ms n i (u+1) k).1:Nat)), .p (int ((hcnt ms n i (u+1) k).2:Nat)), .p (int k), .a, .a, .a, .a, .a, .a, .a, .a, .a, .a, .a, .a, .a, .a, .a, .a, .a, .a, .a, .a, .a, .a, .a, .a, .a, .a, .a, .a, .a, .a, .a, .a, .a, .a, .a, .a, .a, .a, .a, .a, .a, .a, .a, .a, .a, .a, .a, .a, .a, .a, .a, .a, .a, .a, .a, .a, .a]) (fun k=>[some ⟨g,1,cl (eI .i64) (nats (clrL (R++S) ms))⟩]) 0 (Nat.zero_le _) (by simp(maxSteps:=999999)(disch:=omega)only[go_sem,zA,zM,zS,zE,zL];exact⟨rfl,rfl,rfl⟩) (HLe.refl _) ?_
     intro k hk
     simp(maxSteps:=999999)(disch:=omega)only[go_sem,zA,zM,zS,zE,zL]
     ((first|(with_reducible first|refine condK_dec ?_ ?_|refine condK_ndec ?_ ?_|refine condK_nb ?_ ?_)|refine condK_b ?_ ?_)<;>intro h4)
     · skip
       have h4:k<n:=by omega
       obtain⟨hc1,hc2⟩:=lnN_lt hn h1 h4
       have hk1:hcnt ms n i (u+1) (k+1)=if(mAt ms (lnN n i k)).testBit (u+1)=true then((hcnt ms n i (u+1) k).1+1,lnN n i k)else hcnt ms n i (u+1) k:=rfl
       generalize lnN n i k=c at hc1 hc2 hk1
       have hmc:=nth_nats ms c
       have hmc2:=hm.lt hn c
       have hsr:=shr_small (s:=mAt ms c) (v:=(u:Int)+1) (by omega)
       have hcle:=hcnt_le ms n i (u+1) k
       rw[show((u:Int)+1).toNat=u+1 by omega]at hsr
       have hab:=bit_mod (s:=mAt ms c) (k:=u+1)
       simp(maxSteps:=999999)(disch:=omega)only[go_sem,zA,zM,zS,zE,zL,hc2,hmc,hsr,hab]
       cases htb:(mAt ms c).testBit (u+1)with
       |true=>
        rw[htb,if_pos rfl]at hk1
        simp(maxSteps:=999999)(disch:=omega)only[go_sem,zA,zM,zS,zE,zL]
        exact⟨k+1,⟨by omega,by omega⟩,⟨by rw[hk1];push_cast;rfl,by rw[hk1];exact hc2,by push_cast;rfl⟩,HLe.refl _⟩
       |false=>
        rw[htb,if_neg (by decide)]at hk1
        simp(maxSteps:=999999)(disch:=omega)only[go_sem,zA,zM,zS,zE,zL]
        exact⟨k+1,⟨by omega,by omega⟩,⟨by rw[hk1],by rw[hk1],by push_cast;rfl⟩,HLe.refl _⟩
     · have hke:k=n:=by omega
       rw[hke]
       have hat:=hcnt_at (ms:=ms) (v:=u+1) hn h1 n (Nat.le_refl _)
       generalize hcnt ms n i (u+1) n=q at hV hat⊢
       obtain⟨many,at_⟩:=q
       simp only at hV hat⊢
       generalize hQ:R++S=Q
       have hQn:=nth_nats (clrL Q ms) at_
       have hQl:(nats (clrL Q ms)).length=n*n:=by rw[nats_len];exact hll Q
       have hQc:bitsI .and .i64 ((mAt (clrL Q ms) at_:Nat):Int) ((2^(u+1):Nat):Int)=((clr (mAt (clrL Q ms) at_) (31^^^2^(u+1)):Nat):Int):=and_small (by have:=(hlt Q at_).1;omega) (by omega)
       have hsh:=shl_small (v:=(u:Int)+1) (by omega)
       rw[show((u:Int)+1).toNat=u+1 by omega]at hsh
       simp(maxSteps:=999999)(disch:=omega)only[go_sem,zA,zM,zS,zE,zL]
       ((first|(with_reducible first|refine condK_dec ?_ ?_|refine condK_ndec ?_ ?_|refine condK_nb ?_ ?_)|refine condK_b ?_ ?_)<;>intro h5)
       · have h5:many=1:=by omega
         rw[if_pos h5]at hV
         simp(maxSteps:=999999)(disch:=omega)only[go_sem,zA,zM,zS,zE,zL]
         refine drawP_lF [0,1,2,3,4,5,6,7,8] [] none [9,10] [] foll (by kernel_rfl) ?_
         simp(maxSteps:=999999)(disch:=omega)only[go_sem,Nat.reduceBEq,Bool.true_or,zA,zM,zS,zE,zL]
         simp(maxSteps:=999999)(disch:=omega)only[go_sem,zA,zM,zS,zE,zL,hQn,hQl,hQc,hsh]
         refine⟨u+1,⟨by omega,by omega⟩,by push_cast;rfl, ?_⟩
         rw[hks,hV,←List.append_assoc,hQ,clrL_one,←nats_set,←hQc]
         exact HLe.refl _
       · rw[if_neg (by omega)]at hV
         simp(maxSteps:=999999)(disch:=omega)only[go_sem,zA,zM,zS,zE,zL]
         exact⟨u+1,⟨by omega,by omega⟩,by push_cast;rfl,by rw[hks,hV,List.append_nil,hQ];exact HLe.refl _⟩
   · have hke:u=n:=by omega
     rw[hke]at hS
     simp(maxSteps:=999999)(disch:=omega)only[go_sem,zA,zM,zS,zE,zL]
     exact⟨i+1,⟨by omega,by omega⟩,by push_cast;rfl,by rw[hrs,←hS];exact HLe.refl _⟩
 · have hie:i=2*n:=by omega
   rw[hie]at hR
   have hM:clrL R ms=hidM ms n:=by rw[←hR];rfl
   have hl2:(nats (hidM ms n)).length=n*n:=by rw[nats_len,←hM];exact hll R
   rw[hM]
   simp(maxSteps:=999999)(disch:=omega)only[go_sem,zA,zM,zS,zE,zL]
   rw[←hl2]
   exact lessQ_own (E:=eI .i64) (n:=1) (HLe.refl _)
end Go.Lg

namespace Go.Lg
open Go.Proofs
def parK(ms:List Nat)(n line i j k:Nat):List (Nat×Nat):=if lnN n line k≠lnN n line i∧lnN n line k≠lnN n line j then[(lnN n line k,mAt ms (lnN n line i))]else[]
def parP(ms:List Nat)(n line i j:Nat):List (Nat×Nat):=if mAt ms (lnN n line i)=mAt ms (lnN n line j)∧(mvals (mAt ms (lnN n line i)) 4).length=2 then(List.range n).flatMap (parK ms n line i j)else[]
def parI(ms:List Nat)(n line i:Nat):List (Nat×Nat):=(List.range (n -(i+1))).flatMap fun t=>parP ms n line i (i+1+t)
def parA(ms:List Nat)(n line:Nat):List (Nat×Nat):=(List.range n).flatMap (parI ms n line)
def parM(ms:List Nat)(n:Nat):List Nat:=clrL ((List.range (2*n)).flatMap (parA ms n)) ms
def parKS(ms:List Nat)(n line i j k:Nat):List (Nat×Nat):=if k≠i∧k≠j then[(lnN n line k,mAt ms (lnN n line i))]else[]
def parPS(ms:List Nat)(n line i j:Nat):List (Nat×Nat):=if mAt ms (lnN n line i)=mAt ms (lnN n line j)∧(mvals (mAt ms (lnN n line i)) 4).length=2 then(List.range n).flatMap (parKS ms n line i j)else[]
def parIS(ms:List Nat)(n line i:Nat):List (Nat×Nat):=(List.range i).flatMap fun j=>parPS ms n line i j
def parAS(ms:List Nat)(n line:Nat):List (Nat×Nat):=(List.range n).flatMap (parIS ms n line)
theorem lnN_inj{n line i j:Nat}(hn:n=2∨n=3∨n=4)(hl:line<2*n)(hi:i<n)(hj:j<n):lnN n line i=lnN n line j↔i=j:=by
 constructor
 · intro h
   unfold lnN at h
   rw[lineC_nth hi,lineC_nth hj]at h
   split at h
   · rcases hn with rfl|rfl|rfl<;>omega
   · rcases hn with rfl|rfl|rfl<;>omega
 · rintro rfl;rfl
theorem par_mem{n:Nat}(hn:n=2∨n=3∨n=4)(ms:List Nat){line:Nat}(hl:line<2*n)(q:Nat×Nat):q∈parA ms n line↔∃x y k:Nat,x<y∧y<n∧k<n∧(mAt ms (lnN n line x)=mAt ms (lnN n line y)∧(mvals (mAt ms (lnN n line x)) 4).length=2)∧(k≠x∧k≠y)∧q=(lnN n line k,mAt ms (lnN n line x)):=by
 unfold parA parI parP
 rw[List.mem_flatMap]
 constructor
 · rintro⟨x,hx,hq⟩
   obtain⟨t,ht,hq⟩:=List.mem_flatMap.1 hq
   have hx:=List.mem_range.1 hx
   have ht:=List.mem_range.1 ht
   split at hq
   · rename_i hm
     obtain⟨k,hk,hq⟩:=List.mem_flatMap.1 hq
     have hk:=List.mem_range.1 hk
     unfold parK at hq
     split at hq
     · rename_i hne
       exact⟨x,x+1+t,k,by omega,by omega,hk,hm,⟨fun h=>hne.1 (by rw[h]),fun h=>hne.2 (by rw[h])⟩,by simpa using hq⟩
     · cases hq
   · cases hq
 · rintro⟨x,y,k,h1,h2,h3,h4,h5,rfl⟩
   refine⟨x,List.mem_range.2 (by omega),List.mem_flatMap.2 ⟨y -(x+1),List.mem_range.2 (by omega), ?_⟩⟩
   rw[show x+1+(y -(x+1))=y by omega,if_pos h4]
   refine List.mem_flatMap.2 ⟨k,List.mem_range.2 h3, ?_⟩
   unfold parK
   rw[if_pos ⟨fun h=>h5.1 ((lnN_inj hn hl h3 (by omega)).1 h),fun h=>h5.2 ((lnN_inj hn hl h3 h2).1 h)⟩]
   simp
theorem parS_mem{n:Nat}(ms:List Nat){line:Nat}(q:Nat×Nat):q∈parAS ms n line↔∃x y k:Nat,x<y∧y<n∧k<n∧(mAt ms (lnN n line x)=mAt ms (lnN n line y)∧(mvals (mAt ms (lnN n line x)) 4).length=2)∧(k≠x∧k≠y)∧q=(lnN n line k,mAt ms (lnN n line x)):=by
 unfold parAS parIS parPS
 rw[List.mem_flatMap]
 constructor
 · rintro⟨y,hy,hq⟩
   obtain⟨x,hx,hq⟩:=List.mem_flatMap.1 hq
   have hy:=List.mem_range.1 hy
   have hx:=List.mem_range.1 hx
   split at hq
   · rename_i hm
     obtain⟨k,hk,hq⟩:=List.mem_flatMap.1 hq
     have hk:=List.mem_range.1 hk
     unfold parKS at hq
     split at hq
     · rename_i hne
       refine⟨x,y,k,hx,hy,hk,⟨hm.1.symm,by rw[←hm.1];exact hm.2⟩,⟨hne.2,hne.1⟩, ?_⟩
       rw[←hm.1];simpa using hq
     · cases hq
   · cases hq
 · rintro⟨x,y,k,h1,h2,h3,h4,h5,rfl⟩
   refine⟨y,List.mem_range.2 h2,List.mem_flatMap.2 ⟨x,List.mem_range.2 h1, ?_⟩⟩
   rw[if_pos ⟨h4.1.symm,by rw[←h4.1];exact h4.2⟩]
   refine List.mem_flatMap.2 ⟨k,List.mem_range.2 h3, ?_⟩
   unfold parKS
   rw[if_pos ⟨h5.2,h5.1⟩,h4.1]
   simp
theorem par_same{n:Nat}(hn:n=2∨n=3∨n=4){ms:List Nat}(h:MsN ms n):clrL ((List.range (2*n)).flatMap (parAS ms n)) ms=parM ms n:=by
 refine clrL_ext (fun k=>by have:=h.lt hn k;omega) fun q=> ?_
 rw[List.mem_flatMap,List.mem_flatMap]
 constructor
 · rintro⟨i,hi,hq⟩;exact⟨i,hi,(par_mem hn ms (List.mem_range.1 hi) q).2 ((parS_mem ms q).1 hq)⟩
 · rintro⟨i,hi,hq⟩;exact⟨i,hi,(parS_mem ms q).2 ((par_mem hn ms (List.mem_range.1 hi) q).1 hq)⟩
end Go.Lg
