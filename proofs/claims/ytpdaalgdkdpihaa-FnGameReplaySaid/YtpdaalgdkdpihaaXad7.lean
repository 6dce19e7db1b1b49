/- GpMF, GpMG, GpMH, cut to what is needed. -/
import Derived.Test.YtpdaalgdkdpihaaXad6
import Derived.Test.YtpdaalgdkdpihaaXac8
open Nat renaming reduceAdd→zA,reduceMul→zM,reduceSub→zS,reduceEqDiff→zE,reduceLeDiff→zL
set_option linter.unusedSimpArgs false
set_option linter.unusedVariables false
set_option maxRecDepth 100000
namespace Go.Lg
open Go.Proofs
set_option maxHeartbeats 8000000 in
theorem sNarrowPairs_run{n:Nat}(hn:n=2∨n=3∨n=4)(ms:List Nat)(hm:MsN ms n):Reads Try.prog 121 [ints (nats ms),int n] (ints (nats (parM ms n))):=by
 have hsq:4≤n*n∧n*n≤16:=by rcases hn with rfl|rfl|rfl<;>omega
 have hl:(nats ms).length=n*n:=by rw[nats_len];exact hm.len
 have hn4:2≤n∧n≤4:=by omega
 rw[←par_same hn hm]
 refine Reads.own ?_
 refine RunCall.cw (c:=_) Try.func121 rfl (n:=89) Try.ntmps121 (rs:=[.tmp 4]) rfl ?_
 simp only[List.length_cons,List.length_nil,zA,zS,List.replicate,List.cons_append,List.nil_append]
 simp(maxSteps:=999999)(disch:=omega)only[go_sem,zA,zM,zS,zE,zL]
 first|refine OpS.rd (sMasksValid_run hn (nats ms) hm.ok) (⟨_,Try.func118,rfl,rfl⟩:Enters Try.prog 118) rfl rfl rfl rfl ?_|refine Loud.rd (sMasksValid_run hn (nats ms) hm.ok) (⟨_,Try.func118,rfl,rfl⟩:Enters Try.prog 118) rfl rfl rfl rfl ?_
 simp(maxSteps:=999999)(disch:=omega)only[go_sem,zA,zM,zS,zE,zL]
 refine OpS.mkQ (l6Copy_own (nats ms) (by omega) (by intro h;rw[h]at hl;simp at hl;omega)) (⟨_,Try.func125,rfl,rfl⟩:Enters Try.prog 125) rfl rfl rfl ?_
 rintro _ _ ⟨g,rfl,rfl⟩
 refine⟨rfl, ?_⟩
 simp(maxSteps:=999999)(disch:=omega)only[go_sem,zA,zM,zS,zE,zL]
 rw[hl]
 refine loop_rule (fun i:Nat=>2*n -i) (fun i=>i≤2*n) (fun i=>[.k, .k, .a, .a, .a, .k, .p (int i), .a, .a, .a, .a, .a, .a, .a, .a, .a, .a, .a, .a, .a, .a, .a, .a, .a, .a, .a, .a, .a, .a, .a, .a, .a, .a, .a, .a, .a, .a, .a, .a, .a, .a, .a, .a, .a, .a, .a, .a, .a, .a, .a, .a, .a, .a, .a, .a, .a, .a, .a, .a, .a, .a, .a, .a, .a, .a, .a, .a, .a, .a, .a, .a, .a, .a, .a, .a, .a, .a, .a, .a, .a, .a, .a, .a, .a, .a, .a, .a, .a, .a]) (fun i=>[some ⟨g,1,cl (eI .i64) (nats (clrL ((List.range i).flatMap (parAS ms n)) ms))⟩]) 0 (Nat.zero_le _) (by simp(maxSteps:=999999)(disch:=omega)only[go_sem,zA,zM,zS,zE,zL];rfl) (HLe.refl _) ?_
 intro i hi
 have hrs:=flat_succ (parAS ms n) i
 have hok:=fun R=>clrL_ok R hm
 have hlt:=fun R k=>(hok R).lt hn k
 have hll:=fun R:List (Nat×Nat)=>(clrL_len R ms).trans hm.len
 generalize hR:(List.range i).flatMap (parAS ms n)=R at hrs⊢
 simp(maxSteps:=999999)(disch:=omega)only[go_sem,zA,zM,zS,zE,zL]
 ((first|(with_reducible first|refine condK_dec ?_ ?_|refine condK_ndec ?_ ?_|refine condK_nb ?_ ?_)|refine condK_b ?_ ?_)<;>intro h1)
 · have h1:i<2*n:=by omega
   have hlc:=lineC_length n i
   simp(maxSteps:=999999)(disch:=omega)only[go_sem,zA,zM,zS,zE,zL]
   first|refine OpS.mk (LineCells_run hn h1) (⟨_,Try.func123,rfl,rfl⟩:Enters Try.prog 123) rfl rfl rfl rfl rfl ?_|refine Loud.mk (LineCells_run hn h1) (⟨_,Try.func123,rfl,rfl⟩:Enters Try.prog 123) rfl rfl rfl rfl rfl ?_
   simp(maxSteps:=999999)(disch:=omega)only[go_sem,zA,zM,zS,zE,zL]
   refine loop_rule (fun y:Nat=>n -y) (fun y=>y≤n) (fun y=>[.k, .k, .a, .a, .a, .k, .k, .k, .p (int y), .a, .a, .a, .a, .a, .a, .a, .a, .a, .a, .a, .a, .a, .a, .a, .a, .a, .a, .a, .a, .a, .a, .a, .a, .a, .a, .a, .a, .a, .a, .a, .a, .a, .a, .a, .a, .a, .a, .a, .a, .a, .a, .a, .a, .a, .a, .a, .a, .a, .a, .a, .a, .a, .a, .a, .a, .a, .a, .a, .a, .a, .a, .a, .a, .a, .a, .a, .a, .a, .a, .a, .a, .a, .a, .a, .a, .a, .a, .a, .a]) (fun y=>[some ⟨g,1,cl (eI .i64) (nats (clrL (R++(List.range y).flatMap (parIS ms n i)) ms))⟩]) 0 (Nat.zero_le _) (by simp(maxSteps:=999999)(disch:=omega)only[go_sem,zA,zM,zS,zE,zL];rfl) (by simp only[List.range_zero,List.flatMap_nil,List.append_nil];exact HLe.refl _) ?_
   intro y hy
   have hks:=flat_succ (parIS ms n i) y
   generalize hS:(List.range y).flatMap (parIS ms n i)=S at hks⊢
   simp(maxSteps:=999999)(disch:=omega)only[go_sem,zA,zM,zS,zE,zL]
   ((first|(with_reducible first|refine condK_dec ?_ ?_|refine condK_ndec ?_ ?_|refine condK_nb ?_ ?_)|refine condK_b ?_ ?_)<;>intro h2)
   · have h2:y<n:=by omega
     obtain⟨ha1,ha2⟩:=lnN_lt hn h1 h2
     have hI:parIS ms n i y=(List.range y).flatMap fun x=>parPS ms n i y x:=rfl
     simp(maxSteps:=999999)(disch:=omega)only[go_sem,zA,zM,zS,zE,zL]
     refine loop_rule (fun x:Nat=>y -x) (fun x=>x≤y) (fun x=>[.k, .k, .a, .a, .a, .k, .k, .k, .k, .p (int x), .a, .a, .a, .a, .a, .a, .a, .a, .a, .a, .a, .a, .a, .a, .a, .a, .a, .a, .a, .a, .a, .a, .a, .a, .a, .a, .a, .a, .a, .a, .a, .a, .a, .a, .a, .a, .a, .a, .a, .a, .a, .a, .a, .a, .a, .a, .a, .a, .a, .a, .a, .a, .a, .a, .a, .a, .a, .a, .a, .a, .a, .a, .a, .a, .a, .a, .a, .a, .a, .a, .a, .a, .a, .a, .a, .a, .a, .a, .a]) (fun x=>[some ⟨g,1,cl (eI .i64) (nats (clrL (R++(S++(List.range x).flatMap fun x=>parPS ms n i y x)) ms))⟩]) 0 (Nat.zero_le _) (by simp(maxSteps:=999999)(disch:=omega)only[go_sem,zA,zM,zS,zE,zL];rfl) (by simp only[List.range_zero,List.flatMap_nil,List.append_nil];exact HLe.refl _) ?_
     intro x hx
     have hts:=flat_succ (fun x=>parPS ms n i y x) x
     generalize hT:((List.range x).flatMap fun x=>parPS ms n i y x)=T at hts⊢
     simp(maxSteps:=999999)(disch:=omega)only[go_sem,zA,zM,zS,zE,zL]
     ((first|(with_reducible first|refine condK_dec ?_ ?_|refine condK_ndec ?_ ?_|refine condK_nb ?_ ?_)|refine condK_b ?_ ?_)<;>intro h3)
     · have h3:x<y:=by omega
       obtain⟨hb1,hb2⟩:=lnN_lt hn h1 (k:=x) (by omega)
       have hP:parPS ms n i y x=if mAt ms (lnN n i y)=mAt ms (lnN n i x)∧(mvals (mAt ms (lnN n i y)) 4).length=2 then(List.range n).flatMap (parKS ms n i y x)else[]:=rfl
       have hK:∀k,parKS ms n i y x k=if k≠y∧k≠x then[(lnN n i k,mAt ms (lnN n i y))]else[]:=fun k=>rfl
       generalize lnN n i x=b at hb1 hb2 hP hK
       generalize lnN n i y=a at ha1 ha2 hP hK
       have hma:=nth_nats ms a
       have hmb:=nth_nats ms b
       have hma2:=hm.lt hn a
       simp(maxSteps:=999999)(disch:=omega)only[go_sem,zA,zM,zS,zE,zL,ha2,hb2,hma,hmb]
       ((with_reducible first|refine guardK_dec ?_ ?_|refine guardK_ndec ?_ ?_|refine guardK_nb ?_ ?_|refine guardK_split ?_ ?_|refine guardQ_dec ?_ ?_|refine guardL_dec ?_ ?_|refine guardQ_ndec ?_ ?_|refine guardL_ndec ?_ ?_|refine guardQ_nb ?_ ?_|refine guardL_nb ?_ ?_|refine guardQ_split ?_ ?_|refine guardL_split ?_ ?_)<;>intro h4<;>simp(maxSteps:=999999)(disch:=omega)only[go_sem,zA,zM,zS,zE,zL,h4])
       rotate_left
       · rw[if_neg (fun h=>h4 (by rw[h.1]))]at hP
         exact⟨x+1,⟨by omega,by omega⟩,by push_cast;rfl,by rw[hts,hP,List.append_nil];exact HLe.refl _⟩
       have h4:mAt ms a=mAt ms b:=by omega
       first|refine OpS.mk (MaskValues_run (mAt ms b) (hm.lt hn b)) (⟨_,Try.func112,rfl,rfl⟩:Enters Try.prog 112) rfl rfl rfl rfl rfl ?_|refine Loud.mk (MaskValues_run (mAt ms b) (hm.lt hn b)) (⟨_,Try.func112,rfl,rfl⟩:Enters Try.prog 112) rfl rfl rfl rfl rfl ?_
       simp(maxSteps:=999999)(disch:=omega)only[go_sem,zA,zM,zS,zE,zL]
       ((first|(with_reducible first|refine condK_dec ?_ ?_|refine condK_ndec ?_ ?_|refine condK_nb ?_ ?_)|refine condK_b ?_ ?_)<;>intro h5)
       rotate_left
       · rw[if_neg (fun h=>h5 (by rw[←h4,h.2];rfl))]at hP
         simp(maxSteps:=999999)(disch:=omega)only[go_sem,zA,zM,zS,zE,zL]
         exact⟨x+1,⟨by omega,by omega⟩,by push_cast;rfl,by rw[hts,hP,List.append_nil];exact HLe.refl _⟩
       have h5:(mvals (mAt ms a) 4).length=2:=by rw[h4];omega
       rw[if_pos ⟨h4,h5⟩]at hP
       simp(maxSteps:=999999)(disch:=omega)only[go_sem,zA,zM,zS,zE,zL]
       refine loop_rule (fun k:Nat=>n -k) (fun k=>k≤n) (fun k=>[.k, .k, .a, .a, .a, .k, .k, .k, .k, .k, .k, .p (int k), .a, .a, .a, .a, .a, .a, .a, .a, .a, .a, .a, .a, .a, .a, .a, .a, .a, .a, .a, .a, .a, .a, .a, .a, .a, .a, .a, .a, .a, .a, .a, .a, .a, .a, .a, .a, .a, .a, .a, .a, .a, .a, .a, .a, .a, .a, .a, .a, .a, .a, .a, .a, .a, .a, .a, .a, .a, .a, .a, .a, .a, .a, .a, .a, .a, .a, .a, .a, .a, .a, .a, .a, .a, .a, .a, .a, .a]) (fun k=>[some ⟨g,1,cl (eI .i64) (nats (clrL (R++(S++(T++(List.range k).flatMap (parKS ms n i y x)))) ms))⟩]) 0 (Nat.zero_le _) (by simp(maxSteps:=999999)(disch:=omega)only[go_sem,zA,zM,zS,zE,zL];rfl) (by simp only[List.range_zero,List.flatMap_nil,List.append_nil];exact HLe.refl _) ?_
       intro k hk
       have hus:=flat_succ (parKS ms n i y x) k
       generalize hU:(List.range k).flatMap (parKS ms n i y x)=U at hus⊢
       simp(maxSteps:=999999)(disch:=omega)only[go_sem,zA,zM,zS,zE,zL]
       ((first|(with_reducible first|refine condK_dec ?_ ?_|refine condK_ndec ?_ ?_|refine condK_nb ?_ ?_)|refine condK_b ?_ ?_)<;>intro h6)
       · have h6:k<n:=by omega
         have hK:=hK k
         obtain⟨hc1,hc2⟩:=lnN_lt hn h1 h6
         generalize lnN n i k=c at hc1 hc2 hK
         generalize hQ:R++(S++(T++U))=Q
         have hQn:=nth_nats (clrL Q ms) c
         have hQl:(nats (clrL Q ms)).length=n*n:=by rw[nats_len];exact hll Q
         have hQc:bitsI .andNot .i64 ((mAt (clrL Q ms) c:Nat):Int) ((mAt ms a:Nat):Int)=((clr (mAt (clrL Q ms) c) (mAt ms a):Nat):Int):=andNot_small (by have:=(hlt Q c).1;omega) (by omega)
         have hyes:(k≠y∧k≠x)→R++(S++(T++(List.range (k+1)).flatMap (parKS ms n i y x)))=Q++[(c,mAt ms a)]:=fun h=>by rw[hus,hK,if_pos h,←hQ];simp only[List.append_assoc]
         have hnot:¬(k≠y∧k≠x)→R++(S++(T++(List.range (k+1)).flatMap (parKS ms n i y x)))=Q:=fun h=>by rw[hus,hK,if_neg h,List.append_nil,hQ]
         simp(maxSteps:=999999)(disch:=omega)only[go_sem,zA,zM,zS,zE,zL]
         ((with_reducible first|refine guardK_dec ?_ ?_|refine guardK_ndec ?_ ?_|refine guardK_nb ?_ ?_|refine guardK_split ?_ ?_|refine guardQ_dec ?_ ?_|refine guardL_dec ?_ ?_|refine guardQ_ndec ?_ ?_|refine guardL_ndec ?_ ?_|refine guardQ_nb ?_ ?_|refine guardL_nb ?_ ?_|refine guardQ_split ?_ ?_|refine guardL_split ?_ ?_)<;>intro h7<;>simp(maxSteps:=999999)(disch:=omega)only[go_sem,zA,zM,zS,zE,zL,h7])
         · exact⟨k+1,⟨by omega,by omega⟩,by push_cast;omega,by rw[hnot (by omega)];exact HLe.refl _⟩
         ((first|(with_reducible first|refine condK_dec ?_ ?_|refine condK_ndec ?_ ?_|refine condK_nb ?_ ?_)|refine condK_b ?_ ?_)<;>intro h8)
         · simp(maxSteps:=999999)(disch:=omega)only[go_sem,zA,zM,zS,zE,zL]
           exact⟨k+1,⟨by omega,by omega⟩,by push_cast;omega,by rw[hnot (by omega)];exact HLe.refl _⟩
         · simp(maxSteps:=999999)(disch:=omega)only[go_sem,zA,zM,zS,zE,zL]
           refine drawP_lF [0,1,2,3,4,5,6,7,8,9,10,11,12,13] [] none [14,15] [] foll (by kernel_rfl) ?_
           simp(maxSteps:=999999)(disch:=omega)only[go_sem,Nat.reduceBEq,Bool.true_or,zA,zM,zS,zE,zL]
           simp(maxSteps:=999999)(disch:=omega)only[go_sem,zA,zM,zS,zE,zL,hc2,hQn,hQl,hQc]
           exact⟨k+1,⟨by omega,by omega⟩,by push_cast;rfl,by rw[hyes (by omega),clrL_one,←nats_set,←hQc,h4];exact HLe.refl _⟩
       · have hke:k=n:=by omega
         rw[hke]at hU
         simp(maxSteps:=999999)(disch:=omega)only[go_sem,zA,zM,zS,zE,zL]
         exact⟨x+1,⟨by omega,by omega⟩,by push_cast;rfl,by rw[hts,hP,hU];exact HLe.refl _⟩
     · have hte:x=y:=by omega
       rw[hte]at hT
       simp(maxSteps:=999999)(disch:=omega)only[go_sem,zA,zM,zS,zE,zL]
       exact⟨y+1,⟨by omega,by omega⟩,by push_cast;rfl,by rw[hks,hI,hT];exact HLe.refl _⟩
   · have hke:y=n:=by omega
     rw[hke]at hS
     simp(maxSteps:=999999)(disch:=omega)only[go_sem,zA,zM,zS,zE,zL]
     exact⟨i+1,⟨by omega,by omega⟩,by push_cast;rfl,by rw[hrs,←hS];exact HLe.refl _⟩
 · skip
   have hie:i=2*n:=by omega
   rw[hie]at hR
   have hM:clrL R ms=clrL ((List.range (2*n)).flatMap (parAS ms n)) ms:=by rw[←hR]<;>rfl
   have hl2:(nats (clrL ((List.range (2*n)).flatMap (parAS ms n)) ms)).length=n*n:=by rw[nats_len,←hM];exact hll R
   rw[hM]
   simp(maxSteps:=999999)(disch:=omega)only[go_sem,zA,zM,zS,zE,zL]
   rw[←hl2]
   exact lessQ_own (E:=eI .i64) (n:=1) (HLe.refl _)
end Go.Lg

namespace Go.Lg
open Go.Proofs
theorem orV_bit{o:List Nat}{vs:List Int}(hl:vs.length=o.length){k b:Nat}(h:((orV o vs).getD k 0).testBit b=true):(o.getD k 0).testBit b=true∨(k<vs.length∧b=(nth vs k).toNat):=by
 unfold orV at h
 simp only[List.getD,List.getElem?_zipWith]at h
 by_cases hk:k<o.length
 · have hk2:k<vs.length:=by omega
   have e:nth vs k=vs[k]:=by rw[nth_eq (by omega)];rfl
   simp only[List.getElem?_eq_getElem hk,List.getElem?_eq_getElem hk2,Option.getD_some,Nat.testBit_or,Bool.or_eq_true,Nat.testBit_two_pow,decide_eq_true_eq]at h
   rcases h with h|h
   · left;simpa[List.getD,List.getElem?_eq_getElem hk]using h
   · right;exact⟨hk2,by rw[e];exact h.symm⟩
 · simp[List.getElem?_eq_none (show o.length≤k by omega)]at h
theorem ways_sub(r:Rul):∀(ms:List Nat) (pre:List Int) (o:List Nat),pre.length+ms.length=o.length→∀k b:Nat,((ways r ms pre o).getD k 0).testBit b=true→
 (o.getD k 0).testBit b=true∨(k<pre.length∧b=(nth pre k).toNat)∨(pre.length≤k∧1≤b∧b≤4∧(ms.getD (k -pre.length) 0).testBit b=true)
 |[],pre,o,hl,k,b,h=>by
  unfold ways at h
  split at h
  · rcases orV_bit (by simpa using hl) h with h|h
    · exact .inl h
    · exact .inr (.inl h)
  · exact .inl h
 |m::ms,pre,o,hl,k,b,h=>by
  rw[ways_cons]at h
  have hl':pre.length+ms.length+1=o.length:=by simp at hl;omega
  have gen:∀(vs:List Int),(∀v∈vs,v∈mvals m 4)→∀o':List Nat,o'.length=o.length→((vs.foldl (fun o v=>ways r ms (pre++[v]) o) o').getD k 0).testBit b=true→
   (o'.getD k 0).testBit b=true∨(k<pre.length∧b=(nth pre k).toNat)∨(pre.length≤k∧1≤b∧b≤4∧((m::ms).getD (k -pre.length) 0).testBit b=true):=by
   intro vs
   induction vs with
   |nil=>intro _ o' _ h;exact .inl h
   |cons v vs ih=>
    intro hv o' ho h
    rw[List.foldl_cons]at h
    have hlw:(ways r ms (pre++[v]) o').length=o'.length:=ways_len r ms _ _ (by simp;omega)
    rcases ih (fun u hu=>hv u (by simp[hu])) _ (by rw[hlw];exact ho) h with h|h
    · rcases ways_sub r ms (pre++[v]) o' (by simp;omega) k b h with h|⟨h1,h2⟩|⟨h1,h2,h3,h4⟩
      · exact .inl h
      · by_cases hk:k<pre.length
        · refine .inr (.inl ⟨hk, ?_⟩)
          rw[h2,nth_eq (by simp;omega),nth_eq (by omega)]
          simp only[Int.toNat_natCast,List.getElem_append_left hk]
        · have hk:k=pre.length:=by simp at h1;omega
          refine .inr (.inr ⟨by omega, ?_⟩)
          have e:nth (pre++[v]) k=v:=by
           rw[nth_eq (by simp;omega)]
           simp[hk]
          rw[e]at h2
          have hm:=hv v (by simp)
          have hb:=mvals_mem hm
          refine⟨by omega,by omega, ?_⟩
          rw[hk,Nat.sub_self,List.getD_cons_zero,h2]
          unfold mvals at hm
          obtain⟨u,_,hu⟩:=List.mem_flatMap.1 hm
          split at hu
          · rename_i ht
            have:v=u:=by simpa using hu
            rw[this,Int.toNat_natCast];exact ht
          · cases hu
      · simp only[List.length_append,List.length_cons,List.length_nil]at h1 h4
        refine .inr (.inr ⟨by omega,h2,h3, ?_⟩)
        rw[show k -pre.length=(k -(pre.length+1))+1 by omega,List.getD_cons_succ]
        exact h4
    · exact .inr h
  exact gen _ (fun v hv=>hv) o rfl h
theorem le_of_bits{a b:Nat}(h:∀i,a.testBit i=true→b.testBit i=true):a≤b:=by
 have:a&&&b=a:=by
  refine Nat.eq_of_testBit_eq fun i=> ?_
  rw[Nat.testBit_and]
  cases ha:a.testBit i
  · rfl
  · rw[h i ha];rfl
 rw[←this]
 exact Nat.and_le_right
theorem ruleM_at{r:Rul}{ms:List Nat}{k:Nat}(hk:k<r.cells.length){b:Nat}(h:((ruleM r (nats ms)).getD k 0).testBit b=true):1≤b∧(mAt ms (nth r.cells k).toNat).testBit b=true:=by
 unfold ruleM at h
 have hl:(remM r (nats ms) 0).length=r.cells.length:=by unfold remM;simp
 rcases ways_sub r _ [] _ (by simp[hl]) k b h with h|h|⟨_,h1,_,h2⟩
 · simp[List.getD,hk]at h
 · simp at h
 · refine⟨h1, ?_⟩
   have e:(remM r (nats ms) 0).getD (k -([]:List Int).length) 0=mAt ms (nth r.cells k).toNat:=by
    have e1:nth r.cells k=r.cells[k]:=by rw[nth_eq (by omega)];rfl
    unfold remM
    simp only[List.drop_zero,List.length_nil,Nat.sub_zero,List.getD,List.getElem?_map,List.getElem?_eq_getElem hk,Option.map_some,Option.getD_some]
    rw[nth_toNat,nth_nats,e1,Int.toNat_natCast]
   rw[e]at h2
   exact h2
def putR(r:Rul)(fd:List Nat)(ms:List Nat)(j:Nat):List Nat:=(List.range j).foldl (fun(o:List Nat) (i:Nat)=>o.set (nth r.cells (i:Int)).toNat (fd.getD i 0)) ms
theorem putR_succ(r:Rul)(fd ms:List Nat)(j:Nat):putR r fd ms (j+1)=(putR r fd ms j).set (nth r.cells j).toNat (fd.getD j 0):=by
 unfold putR
 rw[List.range_succ,List.foldl_append]
 rfl
theorem putR_len(r:Rul)(fd ms:List Nat):∀j,(putR r fd ms j).length=ms.length
 |0=>rfl
 |j+1=>by rw[putR_succ,List.length_set,putR_len r fd ms j]
theorem mAt_set_le{o ms:List Nat}{c v:Nat}(h:∀k,mAt o k≤mAt ms k)(hv:v≤mAt ms c)(k:Nat):mAt (o.set c v) k≤mAt ms k:=by
 by_cases hc:c<o.length
 · rw[mAt_set hc]
   split
   · rename_i hk;rw[hk];exact hv
   · exact h k
 · rw[List.set_eq_of_length_le (by omega)];exact h k
theorem ruleM_le{r:Rul}{ms:List Nat}{k:Nat}(hk:k<r.cells.length):(ruleM r (nats ms)).getD k 0≤mAt ms (nth r.cells k).toNat:=le_of_bits fun b hb=>(ruleM_at hk hb).2
theorem ruleM_even{r:Rul}{ms:List Nat}{k:Nat}(hk:k<r.cells.length):(ruleM r (nats ms)).getD k 0%2=0:=by
 have h1:((ruleM r (nats ms)).getD k 0).testBit 0=false:=by
  cases h:((ruleM r (nats ms)).getD k 0).testBit 0
  · rfl
  · have:=(ruleM_at hk h).1;omega
 rw[Nat.testBit_zero,decide_eq_false_iff_not]at h1
 omega
theorem putR_le(r:Rul)(ms:List Nat):∀j,j≤r.cells.length→∀k,mAt (putR r (ruleM r (nats ms)) ms j) k≤mAt ms k
 |0,_,_=>Nat.le_refl _
 |j+1,hj,k=>by
  rw[putR_succ]
  exact mAt_set_le (putR_le r ms j (by omega)) (ruleM_le (by omega)) k
theorem putR_ok{n:Nat}(r:Rul){ms:List Nat}(h:MsN ms n):∀j,j≤r.cells.length→MsN (putR r (ruleM r (nats ms)) ms j) n
 |0,_=>h
 |j+1,hj=>by
  rw[putR_succ]
  refine(putR_ok r h j (by omega)).set ⟨?_,ruleM_even (by omega)⟩
  have:=ruleM_le (r:=r) (ms:=ms) (k:=j) (by omega)
  have:=h.at (nth r.cells j).toNat
  omega
def rulS(ms:List Nat)(r:Rul):List Nat:=putR r (ruleM r (nats ms)) ms r.cells.length
def rulT(p:Puz)(ms:List Nat)(k:Nat):List Nat:=(p.rules.take k).foldl rulS ms
def rulM(p:Puz)(ms:List Nat):List Nat:=p.rules.foldl rulS ms
theorem rulT_succ{p:Puz}{ms:List Nat}{k:Nat}(h:k<p.rules.length):rulT p ms (k+1)=rulS (rulT p ms k) (nth p.rules k):=by
 unfold rulT
 rw[take_succ_nth h,List.foldl_append]
 rfl
theorem foldS_ok{n:Nat}:∀(rs:List Rul) {ms:List Nat},MsN ms n→MsN (rs.foldl rulS ms) n
 |[],_,h=>h
 |r::rs,_,h=>foldS_ok rs (putR_ok r h _ (Nat.le_refl _))
theorem foldS_le:∀(rs:List Rul) (ms:List Nat) (k:Nat),mAt (rs.foldl rulS ms) k≤mAt ms k
 |[],_,_=>Nat.le_refl _
 |r::rs,ms,k=>Nat.le_trans (foldS_le rs (rulS ms r) k) (putR_le r ms _ (Nat.le_refl _) k)
theorem clrL_le(R:List (Nat×Nat)):∀(ms:List Nat) (k:Nat),mAt (clrL R ms) k≤mAt ms k:=by
 induction R with
 |nil=>intro ms k;exact Nat.le_refl _
 |cons q R ih=>
  intro ms k
  refine Nat.le_trans (ih (ms.set q.1 (clr (mAt ms q.1) q.2)) k) ?_
  exact mAt_set_le (fun _=>Nat.le_refl _) (clr_le _ _) k
def narM(p:Puz)(t:Nat)(ms:List Nat):List Nat:=
 if t=1 then sglM ms p.size.toNat else if t=2 then hidM ms p.size.toNat else if t=3 then parM ms p.size.toNat else rulM p ms
theorem narM_ok{p:Puz}{n t:Nat}{ms:List Nat}(h:MsN ms n):MsN (narM p t ms) n:=by
 unfold narM sglM hidM parM rulM
 split
 · exact clrL_ok _ h
 split
 · exact clrL_ok _ h
 split
 · exact clrL_ok _ h
 · exact foldS_ok _ h
theorem narM_le(p:Puz)(t:Nat)(ms:List Nat)(k:Nat):mAt (narM p t ms) k≤mAt ms k:=by
 unfold narM sglM hidM parM rulM
 split
 · exact clrL_le _ _ _
 split
 · exact clrL_le _ _ _
 split
 · exact clrL_le _ _ _
 · exact foldS_le _ _ _
theorem sum_le_of:∀{a b:List Nat},a.length=b.length→(∀k,mAt a k≤mAt b k)→a.sum≤b.sum∧(a≠b→a.sum<b.sum)
 |[],[],_,_=>⟨Nat.le_refl _,fun h=>absurd rfl h⟩
 |x::a,y::b,hl,h=>by
  have h0:x≤y:=h 0
  obtain⟨h1,h2⟩:=sum_le_of (a:=a) (b:=b) (by simpa using hl) fun k=>h (k+1)
  simp only[List.sum_cons]
  refine⟨by omega,fun hne=> ?_⟩
  by_cases hxy:x=y
  · have:a≠b:=fun hab=>hne (by rw[hxy,hab])
    have:=h2 this
    omega
  · omega
 |[],_::_,h,_=>by simp at h
 |_::_,[],h,_=>by simp at h
theorem narM_sum{p:Puz}{n t:Nat}{ms:List Nat}(h:MsN ms n)(hne:narM p t ms≠ms):(narM p t ms).sum<ms.sum:=
 (sum_le_of ((narM_ok h).len.trans h.len.symm) (narM_le p t ms)).2 hne
def nextM(p:Puz)(ms:List Nat):Nat:=if narM p 1 ms≠ms then 1 else if narM p 2 ms≠ms then 2 else if narM p 3 ms≠ms then 3 else if narM p 4 ms≠ms then 4 else 0
theorem nextM_is{p:Puz}{ms:List Nat}{t:Nat}(ht:1≤t∧t≤4)(hlt:∀u,1≤u→u<t→narM p u ms=ms)(hne:narM p t ms≠ms):nextM p ms=t:=by
 unfold nextM
 have h4:t=1∨t=2∨t=3∨t=4:=by omega
 rcases h4 with rfl|rfl|rfl|rfl
 · rw[if_pos hne]
 · rw[if_neg (fun h=>h (hlt 1 (by omega) (by omega))),if_pos hne]
 · rw[if_neg (fun h=>h (hlt 1 (by omega) (by omega))),if_neg (fun h=>h (hlt 2 (by omega) (by omega))),if_pos hne]
 · rw[if_neg (fun h=>h (hlt 1 (by omega) (by omega))),if_neg (fun h=>h (hlt 2 (by omega) (by omega))),if_neg (fun h=>h (hlt 3 (by omega) (by omega))),if_pos hne]
theorem nextM_no{p:Puz}{ms:List Nat}(h:∀u,1≤u→u<5→narM p u ms=ms):nextM p ms=0:=by
 unfold nextM
 rw[if_neg (fun k=>k (h 1 (by omega) (by omega))),if_neg (fun k=>k (h 2 (by omega) (by omega))),if_neg (fun k=>k (h 3 (by omega) (by omega))),if_neg (fun k=>k (h 4 (by omega) (by omega)))]
end Go.Lg

namespace Go.Lg
open Go.Proofs
theorem snapD_aR'{H:Heap}{r:Rul}:snapD H (aR r)=some (aR r):=rfl
theorem rulM_of{r:Rul}{n:Nat}(hn:n=2∨n=3∨n=4)(hv:ruleValid r n=true){ms:List Nat}(hm:MsN ms n):RulM r (nats ms):=by
 obtain⟨f1,f2,f3,f4⟩:=ruleValid_facts hv
 have hsq:n*n≤16:=by rcases hn with rfl|rfl|rfl<;>omega
 have hl:=hm.len
 refine⟨f1.2,f2,fun c hc=> ?_,by rw[nats_len];omega⟩
 obtain⟨h1,h2⟩:=f3 c hc
 obtain⟨k,rfl⟩:∃k:Nat,c=k:=⟨c.toNat,by omega⟩
 have:=hm.lt hn k
 rw[nats_len,nth_nats]
 omega
theorem sRuleMasks_o{n:Nat}(hn:n=2∨n=3∨n=4)(r:Rul)(ms:List Nat)(hv:ruleValid r n=true)(hm:MsN ms n):RunCall Try.prog 124 [aR r,ints (nats ms),int n] [] (ownIQ (nats (ruleM r (nats ms)))):=
 sRuleMasks_own hn r (nats ms) hv hm.ok (rulM_of hn hv hm)
theorem l8Same_run(a b:List Int)(ha:a.length≤2^40):Reads Try.prog 114 [ints a,ints b] (bool (decide (a=b))):=by
 refine RunCall.cw (c:=_) Try.func114 rfl (n:=26) Try.ntmps114 (rs:=[.tmp 4]) rfl ?_
 simp only[List.length_cons,List.length_nil,zA,zS,List.replicate,List.cons_append,List.nil_append]
 simp(maxSteps:=999999)(disch:=omega)only[go_sem,zA,zM,zS,zE,zL]
 ((first|(with_reducible first|refine condK_dec ?_ ?_|refine condK_ndec ?_ ?_|refine condK_nb ?_ ?_)|refine condK_b ?_ ?_)<;>intro h0)
 rotate_left
 · simp(maxSteps:=999999)(disch:=omega)only[go_sem,zA,zM,zS,zE,zL]
   have:a≠b:=fun h=>h0 (by rw[h])
   rw[decide_eq_false this]
 have hl:a.length=b.length:=by omega
 simp(maxSteps:=999999)(disch:=omega)only[go_sem,zA,zM,zS,zE,zL]
 refine loop_rule (fun k:Nat=>a.length -k) (fun k=>k≤a.length∧∀j:Nat,j<k→nth a j=nth b j) (fun k=>[.k, .k, .a, .a, .a, .p (int k), .a, .a, .a, .a, .a, .a, .a, .a, .a, .a, .a, .a, .a, .a, .a, .a, .a, .a, .a, .a]) (fun _=>[]) 0 ⟨Nat.zero_le _,fun j hj=>absurd hj (Nat.not_lt_zero _)⟩ (by simp(maxSteps:=999999)(disch:=omega)only[go_sem,zA,zM,zS,zE,zL];rfl) (hle_nil _) ?_
 rintro k ⟨hk,hall⟩
 simp(maxSteps:=999999)(disch:=omega)only[go_sem,zA,zM,zS,zE,zL]
 ((first|(with_reducible first|refine condK_dec ?_ ?_|refine condK_ndec ?_ ?_|refine condK_nb ?_ ?_)|refine condK_b ?_ ?_)<;>intro h1)
 · have h1:k<a.length:=by omega
   simp(maxSteps:=999999)(disch:=omega)only[go_sem,zA,zM,zS,zE,zL]
   refine drawP_q foll (by kernel_rfl) ?_
   simp(maxSteps:=999999)(disch:=omega)only[go_sem,Nat.reduceBEq,Bool.true_or,zA,zM,zS,zE,zL]
   ((first|(with_reducible first|refine condK_dec ?_ ?_|refine condK_ndec ?_ ?_|refine condK_nb ?_ ?_)|refine condK_b ?_ ?_)<;>intro h2)
   · simp(maxSteps:=999999)(disch:=omega)only[go_sem,zA,zM,zS,zE,zL]
     exact⟨k+1,⟨⟨by omega,fun j hj=>by
      by_cases hjk:j=k
      · rw[hjk];exact h2
      · exact hall j (by omega)⟩,by omega⟩,by push_cast;rfl,hle_nil _⟩
   · simp(maxSteps:=999999)(disch:=omega)only[go_sem,zA,zM,zS,zE,zL]
     have:a≠b:=fun h=>h2 (by rw[h])
     rw[decide_eq_false this]
 · have hke:k=a.length:=by omega
   have:a=b:=by
    refine List.ext_getElem hl fun i h1 h2=> ?_
    have:=hall i (by omega)
    rw[nth_eq (by omega),nth_eq (by omega)]at this
    exact this
   simp(maxSteps:=999999)(disch:=omega)only[go_sem,zA,zM,zS,zE,zL]
   rw[decide_eq_true this]
theorem ruleM_len(r:Rul)(ms:List Nat):(ruleM r (nats ms)).length=r.cells.length:=by
 unfold ruleM
 rw[ways_len _ _ _ _ (by unfold remM;simp)]
 simp
theorem OwnI.look1{H:Heap}{c:CV}{zs:List Int}{S:List Nat}(h:OwnI H c zs S)(hz:0<zs.length):∃(id g:Nat) (lim:Option Nat) (ys:List Int),c= .own id g 0 zs.length lim∧S=[id]∧look H id g=some ⟨g,1,cl (eI .i64) (zs++ys)⟩:=by
 cases h with
 |e=>simp at hz
 |o id g lim zs ys h=>exact⟨id,g,lim,ys,rfl,rfl,h⟩
theorem nth_app{zs ys:List Int}{j:Nat}(h:j<zs.length):nth (zs++ys) j=nth zs j:=by
 rw[nth_eq (by simp;omega),nth_eq (by omega)]
 simp only[Int.toNat_natCast,List.getElem_append_left h]
end Go.Lg
