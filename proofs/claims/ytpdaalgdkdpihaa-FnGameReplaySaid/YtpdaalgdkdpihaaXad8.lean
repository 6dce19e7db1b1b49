/- GpMI, GpMJ, GpFC, GpEG, cut to what is needed. -/
import Derived.Test.YtpdaalgdkdpihaaXad7
import Derived.Test.YtpdaalgdkdpihaaXad3
import Derived.Test.YtpdaalgdkdpihaaXad5
import Derived.Test.YtpdaalgdkdpihaaXad0
open Nat renaming reduceAdd→zA,reduceMul→zM,reduceSub→zS,reduceEqDiff→zE,reduceLeDiff→zL
set_option linter.unusedSimpArgs false
set_option linter.unusedVariables false
set_option maxRecDepth 100000
namespace Go.Lg
open Go.Proofs
set_option maxHeartbeats 4000000 in
theorem sNarrowRules_run{p:Puz}{n:Nat}(hp:PuzN p n)(hv:puzzleValid p=true)(ms:List Nat)(hm:MsN ms n):Reads Try.prog 122 [aP p,ints (nats ms)] (ints (nats (rulM p ms))):=by
 have hn:=hp.hn
 have hsq:4≤n*n∧n*n≤16:=by rcases hn with rfl|rfl|rfl<;>omega
 have hl:(nats ms).length=n*n:=by rw[nats_len];exact hm.len
 have hz:=hp.size
 have hrl:=hp.rl
 have hmv:=sMasksValid_run hn (nats ms) hm.ok
 rw[←hz]at hmv
 refine Reads.ice (Q:=fun v H'=>frzA H' v=some (ints (nats (rulM p ms)))) ?_ (fun r H' h=>h)
 refine RunCall.cw (c:=_) Try.func122 rfl (n:=59) Try.ntmps122 (rs:=[.tmp 4]) rfl ?_
 simp only[List.length_cons,List.length_nil,zA,zS,List.replicate,List.cons_append,List.nil_append]
 simp(maxSteps:=999999)(disch:=omega)only[go_sem,zA,zM,zS,zE,zL]
 intro g0
 first|refine OpS.rd (sPuzzleValid_run p hp.sm) (⟨_,Try.func36,rfl,rfl⟩:Enters Try.prog 36) rfl rfl rfl rfl ?_|refine Loud.rd (sPuzzleValid_run p hp.sm) (⟨_,Try.func36,rfl,rfl⟩:Enters Try.prog 36) rfl rfl rfl rfl ?_
 simp(maxSteps:=999999)(disch:=omega)only[go_sem,zA,zM,zS,zE,zL]
 ((with_reducible first|refine guardK_dec ?_ ?_|refine guardK_ndec ?_ ?_|refine guardK_nb ?_ ?_|refine guardK_split ?_ ?_|refine guardQ_dec ?_ ?_|refine guardL_dec ?_ ?_|refine guardQ_ndec ?_ ?_|refine guardL_ndec ?_ ?_|refine guardQ_nb ?_ ?_|refine guardL_nb ?_ ?_|refine guardQ_split ?_ ?_|refine guardL_split ?_ ?_)<;>intro c1<;>simp(maxSteps:=999999)(disch:=omega)only[go_sem,zA,zM,zS,zE,zL,c1])
 rotate_left
 · exfalso;rw[hv]at c1;cases c1
 first|refine OpS.rd (hmv) (⟨_,Try.func118,rfl,rfl⟩:Enters Try.prog 118) rfl rfl rfl rfl ?_|refine Loud.rd (hmv) (⟨_,Try.func118,rfl,rfl⟩:Enters Try.prog 118) rfl rfl rfl rfl ?_
 simp(maxSteps:=999999)(disch:=omega)only[go_sem,zA,zM,zS,zE,zL]
 refine OpS.mkQ (l6Copy_own (nats ms) (by omega) (by intro h;rw[h]at hl;simp at hl;omega)) (⟨_,Try.func125,rfl,rfl⟩:Enters Try.prog 125) rfl rfl rfl ?_
 rintro _ _ ⟨g,rfl,rfl⟩
 refine⟨rfl, ?_⟩
 simp(maxSteps:=999999)(disch:=omega)only[go_sem,zA,zM,zS,zE,zL]
 rw[hl]
 refine loop_rule (fun k:Nat=>p.rules.length -k) (fun k=>k≤p.rules.length) (fun k=>[.a, .a, .k, .a, .a, .k, .p (int k), .a, .a, .a, .a, .a, .a, .a, .a, .a, .a, .a, .a, .a, .a, .a, .a, .a, .a, .a, .a, .a, .a, .a, .a, .a, .a, .a, .a, .a, .a, .a, .a, .a, .a, .a, .a, .a, .a, .a, .a, .a, .a, .a, .a, .a, .a, .a, .a, .a, .a, .a, .a]) (fun k=>[some ⟨g0,1,cP p⟩,some ⟨g,1,cl (eI .i64) (nats (rulT p ms k))⟩]) 0 (Nat.zero_le _) (by simp(maxSteps:=999999)(disch:=omega)only[go_sem,zA,zM,zS,zE,zL];rfl) (HLe.refl _) ?_
 intro k hk
 have hok:MsN (rulT p ms k) n:=foldS_ok _ hm
 simp(maxSteps:=999999)(disch:=omega)only[go_sem,zA,zM,zS,zE,zL]
 ((first|(with_reducible first|refine condK_dec ?_ ?_|refine condK_ndec ?_ ?_|refine condK_nb ?_ ?_)|refine condK_b ?_ ?_)<;>intro h1)
 · have h1:k<p.rules.length:=by omega
   have hsu:=rulT_succ (ms:=ms) h1
   have hrv:=hp.rv _ (nth_mem h1)
   generalize rulT p ms k=o at hok hsu⊢
   have hol:(nats o).length=n*n:=by rw[nats_len];exact hok.len
   simp(maxSteps:=999999)(disch:=omega)only[go_sem,zA,zM,zS,zE,zL]
   intro g2
   generalize nth p.rules k=r at hsu hrv⊢
   have hown:OwnI [some ⟨g0,1,cP p⟩,some ⟨g,1,cl (eI .i64) (nats o)⟩,some ⟨g2,3,[.f (.int .i64 r.kind), .f (fints r.cells), .f (.int .i64 r.val)]⟩] (.own 1 g 0 (n*n) none) (nats o) [1]:=by
    have:=OwnI.o (H:=[some ⟨g0,1,cP p⟩,some ⟨g,1,cl (eI .i64) (nats o)⟩,some ⟨g2,3,[.f (.int .i64 r.kind), .f (fints r.cells), .f (.int .i64 r.val)]⟩]) 1 g none (nats o) [] (by rw[List.append_nil];exact look_of (H:=[some ⟨g0,1,cP p⟩,some ⟨g,1,cl (eI .i64) (nats o)⟩,some ⟨g2,3,[.f (.int .i64 r.kind), .f (fints r.cells), .f (.int .i64 r.val)]⟩]) (id:=1) (b:=⟨g,1,cl (eI .i64) (nats o)⟩) rfl)
    rwa [hol]at this
   have hrun:=sRuleMasks_o hn r o hrv hok
   rw[←hz]at hrun
   refine OpS.mkDI hrun (⟨_,Try.func124,rfl,rfl⟩:Enters Try.prog 124) rfl rfl (snap_three snapD_aR' hown.snap snapD_int) ?_
   intro c H' S ho hS
   have hfl:=ruleM_len r o
   have hfn:(nats (ruleM r (nats o))).length=r.cells.length:=by rw[nats_len];exact hfl
   obtain⟨f1,f2,f3,f4⟩:=ruleValid_facts hrv
   obtain⟨cid,cg,lim,ys,rfl,hSe,hlk⟩:=ho.look1 (by omega)
   have hid:3≤cid:=(hS cid (by rw[hSe];simp)).1
   obtain⟨ci,rfl⟩:∃ci,cid=ci+3:=⟨cid -3,by omega⟩
   have hlk:look H' ci cg=some ⟨cg,1,cl (eI .i64) (nats (ruleM r (nats o))++ys)⟩:=hlk
   have hst:rulS o r=putR r (ruleM r (nats o)) o r.cells.length:=rfl
   have hfd:∀j:Nat,j<r.cells.length→nth (nats (ruleM r (nats o))++ys) j=(((ruleM r (nats o)).getD j 0:Nat):Int):=fun j hj=>by rw[nth_app (by omega),nth_nats];rfl
   have hpl:=putR_len r (ruleM r (nats o)) o
   rw[hst]at hsu
   rw[hfn]
   generalize ruleM r (nats o)=fd at hsu hlk hfd hfn hpl⊢
   have hyl:(nats fd++ys).length=r.cells.length+ys.length:=by rw[List.length_append,hfn]
   generalize nats fd++ys=zs at hlk hfd hyl
   simp(maxSteps:=999999)(disch:=omega)only[go_sem,zA,zM,zS,zE,zL,hlk]
   refine loop_rule (fun j:Nat=>r.cells.length -j) (fun j=>j≤r.cells.length) (fun j=>[.a, .a, .k, .a, .a, .k, .k, .k, .k, .p (int j), .a, .a, .a, .a, .a, .a, .a, .a, .a, .a, .a, .a, .a, .a, .a, .a, .a, .a, .a, .a, .a, .a, .a, .a, .a, .a, .a, .a, .a, .a, .a, .a, .a, .a, .a, .a, .a, .a, .a, .a, .a, .a, .a, .a, .a, .a, .a, .a, .a]) (fun j=>some ⟨g0,1,cP p⟩::some ⟨g,1,cl (eI .i64) (nats (putR r fd o j))⟩::some ⟨g2,3,[.f (.int .i64 r.kind), .f (fints r.cells), .f (.int .i64 r.val)]⟩::H') 0 (Nat.zero_le _) (by simp(maxSteps:=999999)(disch:=omega)only[go_sem,zA,zM,zS,zE,zL];rfl) (HLe.refl _) ?_
   intro j hj
   simp(maxSteps:=999999)(disch:=omega)only[go_sem,zA,zM,zS,zE,zL]
   ((first|(with_reducible first|refine condK_dec ?_ ?_|refine condK_ndec ?_ ?_|refine condK_nb ?_ ?_)|refine condK_b ?_ ?_)<;>intro h2)
   · have h2:j<r.cells.length:=by omega
     have hcj:=f3 _ (nth_mem h2)
     have hps:=putR_succ r fd o j
     have hfj:=hfd j h2
     obtain⟨q,hq⟩:∃q:Nat,nth r.cells j=q:=⟨(nth r.cells j).toNat,by omega⟩
     rw[hq,Int.toNat_natCast]at hps
     have hqn:q<n*n:=by rw[hq]at hcj;omega
     have hQl:(nats (putR r fd o j)).length=n*n:=by rw[nats_len,hpl];exact hok.len
     simp(maxSteps:=999999)(disch:=omega)only[go_sem,zA,zM,zS,zE,zL]
     have hM:∀b,look (mask [] (some ⟨g0,1,cP p⟩::b::some ⟨g2,3,[.f (.int .i64 r.kind), .f (fints r.cells), .f (.int .i64 r.val)]⟩::H')) (ci+3) cg=some ⟨cg,1,cl (eI .i64) zs⟩:=fun b=>hlk
     refine drawP_lF [0,1,2,3,4,5,6,7,8,9] [] none [10,11] [] foll (by kernel_rfl) ?_
     simp(maxSteps:=999999)(disch:=omega)only[go_sem,Nat.reduceBEq,Bool.true_or,zA,zM,zS,zE,zL]
     simp(maxSteps:=999999)(disch:=omega)only[go_sem,zA,zM,zS,zE,zL,hlk,hfj,hq,hQl]
     exact⟨j+1,⟨by omega,by omega⟩,by push_cast;rfl,hle_eq rfl (hle_eq (by rw[hps,←nats_set,Int.toNat_natCast]) (HLe.refl _))⟩
   · have hje:j=r.cells.length:=by omega
     subst hje
     rw[←hsu]
     simp(maxSteps:=999999)(disch:=omega)only[go_sem,zA,zM,zS,zE,zL]
     exact⟨k+1,⟨by omega,by omega⟩,by push_cast;rfl,hle_eq rfl (hle_eq rfl (hle_nil _))⟩
 · have hke:k=p.rules.length:=by omega
   have hM:rulT p ms k=rulM p ms:=by rw[hke];unfold rulT rulM;rw[List.take_length]
   rw[hM]at hok⊢
   have hl2:(nats (rulM p ms)).length=n*n:=by rw[nats_len];exact hok.len
   simp(maxSteps:=999999)(disch:=omega)only[go_sem,zA,zM,zS,zE,zL]
   rw[←hl2]
   exact⟨_,HLe.refl _,frzA_own (E:=eI .i64) (n:=1) (look_of (H:=[some ⟨g0,1,cP p⟩,some ⟨g,1,cl (eI .i64) (nats (rulM p ms))⟩]) (id:=1) (b:=⟨g,1,cl (eI .i64) (nats (rulM p ms))⟩) rfl)⟩
end Go.Lg

namespace Go.Lg
open Go.Proofs
theorem sNarrowBy_run{p:Puz}{n:Nat}(hp:PuzN p n)(hv:puzzleValid p=true)(ms:List Nat)(hm:MsN ms n)(t:Nat)(ht:1≤t∧t≤4):Reads Try.prog 113 [aP p,ints (nats ms),int t] (ints (nats (narM p t ms))):=by
 have hmv:=sMasksValid_run hp.hn (nats ms) hm.ok
 rw[←hp.size]at hmv
 have hn:=hp.hn
 have hz:=hp.size
 have hzn:p.size.toNat=n:=by rw[hz];rfl
 have h1:=sNarrowSingles_run hn ms hm
 have h2:=sNarrowHidden_run hn ms hm
 have h3:=sNarrowPairs_run hn ms hm
 have h4:=sNarrowRules_run hp hv ms hm
 rw[←hz]at h1 h2 h3
 have e:narM p t ms=if t=1 then sglM ms n else if t=2 then hidM ms n else if t=3 then parM ms n else rulM p ms:=by unfold narM;rw[hzn]
 rw[e]
 obtain rfl|rfl|rfl|rfl:t=1∨t=2∨t=3∨t=4:=by omega
 · refine RunCall.cw (c:=_) Try.func113 rfl (n:=43) Try.ntmps113 (rs:=[.tmp 6]) rfl ?_
   simp only[List.length_cons,List.length_nil,zA,zS,List.replicate,List.cons_append,List.nil_append]
   simp(maxSteps:=999999)(disch:=omega)only[go_sem,zA,zM,zS,zE,zL]
   intro g
   first|refine OpS.rd (sPuzzleValid_run p hp.sm) (⟨_,Try.func36,rfl,rfl⟩:Enters Try.prog 36) rfl rfl rfl rfl ?_|refine Loud.rd (sPuzzleValid_run p hp.sm) (⟨_,Try.func36,rfl,rfl⟩:Enters Try.prog 36) rfl rfl rfl rfl ?_
   simp(maxSteps:=999999)(disch:=omega)only[go_sem,zA,zM,zS,zE,zL]
   rw[hv]
   simp(maxSteps:=999999)(disch:=omega)only[go_sem,zA,zM,zS,zE,zL]
   first|refine OpS.rd (hmv) (⟨_,Try.func118,rfl,rfl⟩:Enters Try.prog 118) rfl rfl rfl rfl ?_|refine Loud.rd (hmv) (⟨_,Try.func118,rfl,rfl⟩:Enters Try.prog 118) rfl rfl rfl rfl ?_
   simp(maxSteps:=999999)(disch:=omega)only[go_sem,zA,zM,zS,zE,zL]
   have d11:decide (((1:Nat):Int)=1)=true:=rfl
   simp(maxSteps:=999999)(disch:=omega)only[go_sem,zA,zM,zS,zE,zL,d11]
   first|refine OpS.mk (h1) (⟨_,Try.func119,rfl,rfl⟩:Enters Try.prog 119) rfl rfl rfl rfl rfl ?_|refine Loud.mk (h1) (⟨_,Try.func119,rfl,rfl⟩:Enters Try.prog 119) rfl rfl rfl rfl rfl ?_
   simp(maxSteps:=999999)(disch:=omega)only[go_sem,zA,zM,zS,zE,zL]
 · refine RunCall.cw (c:=_) Try.func113 rfl (n:=43) Try.ntmps113 (rs:=[.tmp 6]) rfl ?_
   simp only[List.length_cons,List.length_nil,zA,zS,List.replicate,List.cons_append,List.nil_append]
   simp(maxSteps:=999999)(disch:=omega)only[go_sem,zA,zM,zS,zE,zL]
   intro g
   first|refine OpS.rd (sPuzzleValid_run p hp.sm) (⟨_,Try.func36,rfl,rfl⟩:Enters Try.prog 36) rfl rfl rfl rfl ?_|refine Loud.rd (sPuzzleValid_run p hp.sm) (⟨_,Try.func36,rfl,rfl⟩:Enters Try.prog 36) rfl rfl rfl rfl ?_
   simp(maxSteps:=999999)(disch:=omega)only[go_sem,zA,zM,zS,zE,zL]
   rw[hv]
   simp(maxSteps:=999999)(disch:=omega)only[go_sem,zA,zM,zS,zE,zL]
   first|refine OpS.rd (hmv) (⟨_,Try.func118,rfl,rfl⟩:Enters Try.prog 118) rfl rfl rfl rfl ?_|refine Loud.rd (hmv) (⟨_,Try.func118,rfl,rfl⟩:Enters Try.prog 118) rfl rfl rfl rfl ?_
   simp(maxSteps:=999999)(disch:=omega)only[go_sem,zA,zM,zS,zE,zL]
   have d21:decide (((2:Nat):Int)=1)=false:=rfl
   have d22:decide (((2:Nat):Int)=2)=true:=rfl
   simp(maxSteps:=999999)(disch:=omega)only[go_sem,zA,zM,zS,zE,zL,d21,d22]
   first|refine OpS.mk (h2) (⟨_,Try.func120,rfl,rfl⟩:Enters Try.prog 120) rfl rfl rfl rfl rfl ?_|refine Loud.mk (h2) (⟨_,Try.func120,rfl,rfl⟩:Enters Try.prog 120) rfl rfl rfl rfl rfl ?_
   simp(maxSteps:=999999)(disch:=omega)only[go_sem,zA,zM,zS,zE,zL]
 · refine RunCall.cw (c:=_) Try.func113 rfl (n:=43) Try.ntmps113 (rs:=[.tmp 6]) rfl ?_
   simp only[List.length_cons,List.length_nil,zA,zS,List.replicate,List.cons_append,List.nil_append]
   simp(maxSteps:=999999)(disch:=omega)only[go_sem,zA,zM,zS,zE,zL]
   intro g
   first|refine OpS.rd (sPuzzleValid_run p hp.sm) (⟨_,Try.func36,rfl,rfl⟩:Enters Try.prog 36) rfl rfl rfl rfl ?_|refine Loud.rd (sPuzzleValid_run p hp.sm) (⟨_,Try.func36,rfl,rfl⟩:Enters Try.prog 36) rfl rfl rfl rfl ?_
   simp(maxSteps:=999999)(disch:=omega)only[go_sem,zA,zM,zS,zE,zL]
   rw[hv]
   simp(maxSteps:=999999)(disch:=omega)only[go_sem,zA,zM,zS,zE,zL]
   first|refine OpS.rd (hmv) (⟨_,Try.func118,rfl,rfl⟩:Enters Try.prog 118) rfl rfl rfl rfl ?_|refine Loud.rd (hmv) (⟨_,Try.func118,rfl,rfl⟩:Enters Try.prog 118) rfl rfl rfl rfl ?_
   simp(maxSteps:=999999)(disch:=omega)only[go_sem,zA,zM,zS,zE,zL]
   have d31:decide (((3:Nat):Int)=1)=false:=rfl
   have d32:decide (((3:Nat):Int)=2)=false:=rfl
   have d33:decide (((3:Nat):Int)=3)=true:=rfl
   simp(maxSteps:=999999)(disch:=omega)only[go_sem,zA,zM,zS,zE,zL,d31,d32,d33]
   first|refine OpS.mk (h3) (⟨_,Try.func121,rfl,rfl⟩:Enters Try.prog 121) rfl rfl rfl rfl rfl ?_|refine Loud.mk (h3) (⟨_,Try.func121,rfl,rfl⟩:Enters Try.prog 121) rfl rfl rfl rfl rfl ?_
   simp(maxSteps:=999999)(disch:=omega)only[go_sem,zA,zM,zS,zE,zL]
 · refine RunCall.cw (c:=_) Try.func113 rfl (n:=43) Try.ntmps113 (rs:=[.tmp 6]) rfl ?_
   simp only[List.length_cons,List.length_nil,zA,zS,List.replicate,List.cons_append,List.nil_append]
   simp(maxSteps:=999999)(disch:=omega)only[go_sem,zA,zM,zS,zE,zL]
   intro g
   first|refine OpS.rd (sPuzzleValid_run p hp.sm) (⟨_,Try.func36,rfl,rfl⟩:Enters Try.prog 36) rfl rfl rfl rfl ?_|refine Loud.rd (sPuzzleValid_run p hp.sm) (⟨_,Try.func36,rfl,rfl⟩:Enters Try.prog 36) rfl rfl rfl rfl ?_
   simp(maxSteps:=999999)(disch:=omega)only[go_sem,zA,zM,zS,zE,zL]
   rw[hv]
   simp(maxSteps:=999999)(disch:=omega)only[go_sem,zA,zM,zS,zE,zL]
   first|refine OpS.rd (hmv) (⟨_,Try.func118,rfl,rfl⟩:Enters Try.prog 118) rfl rfl rfl rfl ?_|refine Loud.rd (hmv) (⟨_,Try.func118,rfl,rfl⟩:Enters Try.prog 118) rfl rfl rfl rfl ?_
   simp(maxSteps:=999999)(disch:=omega)only[go_sem,zA,zM,zS,zE,zL]
   have d41:decide (((4:Nat):Int)=1)=false:=rfl
   have d42:decide (((4:Nat):Int)=2)=false:=rfl
   have d43:decide (((4:Nat):Int)=3)=false:=rfl
   have d44:decide (((4:Nat):Int)=4)=true:=rfl
   simp(maxSteps:=999999)(disch:=omega)only[go_sem,zA,zM,zS,zE,zL,d41,d42,d43,d44]
   first|refine OpS.mk (h4) (⟨_,Try.func122,rfl,rfl⟩:Enters Try.prog 122) rfl rfl rfl rfl rfl ?_|refine Loud.mk (h4) (⟨_,Try.func122,rfl,rfl⟩:Enters Try.prog 122) rfl rfl rfl rfl rfl ?_
   simp(maxSteps:=999999)(disch:=omega)only[go_sem,zA,zM,zS,zE,zL]
end Go.Lg

namespace Go.Lg
open Go.Proofs
def canV(p:Puz)(xs:List Int):Bool:=if puzzleValid p=true∧gridValid xs p.size=true then decide ((finL p p.size.toNat xs 1).length=1)else false
theorem withP_sm{p:Puz}{xs:List Int}(h:smP p):smP (withP p xs):=⟨by show(withL p.given xs).length≤_;rw[withL_len];exact h.1,h.2⟩
theorem grd_facts{p:Puz}{xs:List Int}(h1:puzzleValid p=true)(h2:gridValid xs p.size=true):PuzN p p.size.toNat∧GrdN xs p.size.toNat∧GrdN p.given p.size.toNat∧p.given.length=xs.length∧4≤xs.length∧xs.length≤16:=by
 obtain⟨hp,hz⟩:=PuzN.of h1
 have hg:=GrdN.of hp.hn (xs:=xs) (by rw[hz];exact h2)
 have ha:=GrdN.of hp.hn (xs:=p.given) (by rw[hz];exact puzzleValid_grid' h1)
 have hsq:4≤p.size.toNat*p.size.toNat∧p.size.toNat*p.size.toNat≤16:=by
  have:=hp.hn
  rcases this with h|h|h<;>rw[h]<;>omega
 have:=hg.len
 have:=ha.len
 exact⟨hp,hg,ha,by omega,by omega,by omega⟩
theorem sCanFinish_run(p:Puz)(xs:List Int)(hx:smP p)(hl:xs.length≤2^40):Reads Try.prog 105 [aP p,ints xs] (bool (canV p xs)):=by
 refine RunCall.cw (c:=_) Try.func105 rfl (n:=15) Try.ntmps105 (rs:=[.tmp 4]) rfl ?_
 simp only[List.length_cons,List.length_nil,zA,zS,List.replicate,List.cons_append,List.nil_append]
 simp(maxSteps:=999999)(disch:=omega)only[go_sem,zA,zM,zS,zE,zL]
 intro g
 first|refine OpS.rd (sPuzzleFits_run p xs hx hl) (⟨_,Try.func98,rfl,rfl⟩:Enters Try.prog 98) rfl rfl rfl rfl ?_|refine Loud.rd (sPuzzleFits_run p xs hx hl) (⟨_,Try.func98,rfl,rfl⟩:Enters Try.prog 98) rfl rfl rfl rfl ?_
 simp(maxSteps:=999999)(disch:=omega)only[go_sem,zA,zM,zS,zE,zL]
 cases hc:(puzzleValid p&&(gridValid xs p.size&&fitsL p xs p.size.toNat))with
 |false=>
  simp(maxSteps:=999999)(disch:=omega)only[go_sem,zA,zM,zS,zE,zL]
  unfold canV
  by_cases h:puzzleValid p=true∧gridValid xs p.size=true
  · rw[if_pos h]
    obtain⟨hp,hg,_⟩:=grd_facts h.1 h.2
    rw[h.1,h.2,Bool.true_and,Bool.true_and]at hc
    rw[finL_spec hp h.1 hg,if_neg (by rw[hc];simp)]
    rfl
  · rw[if_neg h]
 |true=>
  simp only[Bool.and_eq_true]at hc
  obtain⟨h1,h2,h4⟩:=hc
  obtain⟨hp,hg,ha,hlen,hl4,hl16⟩:=grd_facts h1 h2
  have hV:canV p xs=decide ((finL p p.size.toNat xs 1).length=1):=by unfold canV;rw[if_pos ⟨h1,h2⟩]
  rw[hV,finL_spec hp h1 hg,if_pos h4]
  simp(maxSteps:=999999)(disch:=omega)only[go_sem,zA,zM,zS,zE,zL]
  first|refine OpS.mk (l23With_run p xs (by omega) (by omega) (by omega)) (⟨_,Try.func111,rfl,rfl⟩:Enters Try.prog 111) rfl rfl rfl rfl rfl ?_|refine Loud.mk (l23With_run p xs (by omega) (by omega) (by omega)) (⟨_,Try.func111,rfl,rfl⟩:Enters Try.prog 111) rfl rfl rfl rfl rfl ?_
  simp(maxSteps:=999999)(disch:=omega)only[go_sem,zA,zM,zS,zE,zL]
  have hle:=allS_len (withP p xs) 1
  first|refine OpS.mk (l5All_run (withP p xs) 1 (by omega) (withP_sm hx)) (⟨_,Try.func110,rfl,rfl⟩:Enters Try.prog 110) rfl rfl rfl rfl rfl ?_|refine Loud.mk (l5All_run (withP p xs) 1 (by omega) (withP_sm hx)) (⟨_,Try.func110,rfl,rfl⟩:Enters Try.prog 110) rfl rfl rfl rfl rfl ?_
  simp(maxSteps:=999999)(disch:=omega)only[go_sem,zA,zM,zS,zE,zL]
  rw[decide_eq_decide]
  omega
end Go.Lg

namespace Go.Lg
open Go.Proofs
attribute [-go_sem] appendM lwF_cons
structure Cap where
 gp:Nat
 gpg:Nat
 tb:Nat
 tbg:Nat
 ty:Nat
 tyg:Nat
 sz:Nat
 szg:Nat
 pb:Nat
 pbg:Nat
 mid:Nat
 mg:Nat
 pid:Nat
 pg:Nat
 gid:Nat
 gg:Nat
def Cap.ids(c:Cap):List Nat:=[c.gp,c.tb,c.ty,c.sz,c.pb,c.mid]
structure TryH(ft fy:FuncId)(p:Puz)(n most:Nat)(c:Cap)(H:Heap):Prop where
 g:look H c.gp c.gpg=some ⟨c.gpg,1,[.own c.gid c.gg 0 (n*n) none]⟩
 t:look H c.tb c.tbg=some ⟨c.tbg,1,[.fn ft [(c.pid,c.pg),(c.mid,c.mg)]]⟩
 y:look H c.ty c.tyg=some ⟨c.tyg,1,[.fn fy [(c.gp,c.gpg),(c.tb,c.tbg),(c.ty,c.tyg),(c.sz,c.szg),(c.pb,c.pbg)]]⟩
 z:look H c.sz c.szg=some ⟨c.szg,1,[.f (.int .i64 n)]⟩
 b:look H c.pb c.pbg=some ⟨c.pbg,1,cP p⟩
 m:look H c.mid c.mg=some ⟨c.mg,1,[.f (.int .i64 most)]⟩
theorem TryH.same{ft fy:FuncId}{p:Puz}{n most:Nat}{c:Cap}{H H':Heap}(h:TryH ft fy p n most c H)(hs:∀k∈c.ids,H'[k]? =H[k]?):TryH ft fy p n most c H':=by
 have k:∀i g b,i∈c.ids→look H i g=b→look H' i g=b:=fun i g b hi he=>by unfold look at*;rw[hs i hi];exact he
 exact⟨k _ _ _ (by simp[Cap.ids]) h.g,k _ _ _ (by simp[Cap.ids]) h.t,k _ _ _ (by simp[Cap.ids]) h.y,k _ _ _ (by simp[Cap.ids]) h.z,k _ _ _ (by simp[Cap.ids]) h.b,k _ _ _ (by simp[Cap.ids]) h.m⟩
theorem set_same{xs:List Int}{i:Nat}{x:Int}(h:nth xs i=x):xs.set i x=xs:=by
 refine List.ext_getElem (by simp) fun j h1 h2=> ?_
 rw[List.getElem_set]
 split
 · rename_i hij
   subst hij
   rw[←h,nth_eq (by simpa using h2)]
   simp
 · rfl
theorem TryH.lt{ft fy:FuncId}{p:Puz}{n most:Nat}{c:Cap}{H:Heap}(h:TryH ft fy p n most c H):∀k∈c.ids,k<H.length:=by
 intro k hk
 have hl:∀{i g:Nat} {b:Blk},look H i g=some b→i<H.length:=fun h=>(List.getElem?_eq_some_iff.1 (look_some h).1).1
 simp only[Cap.ids,List.mem_cons,List.not_mem_nil,or_false]at hk
 rcases hk with rfl|rfl|rfl|rfl|rfl|rfl
 · exact hl h.g
 · exact hl h.t
 · exact hl h.y
 · exact hl h.z
 · exact hl h.b
 · exact hl h.m
end Go.Lg
