/- GpI2, cut to what is needed. -/
import Derived.Test.YtpdaalgdkdpihaaXab5
open Nat renaming reduceAdd→zA,reduceMul→zM,reduceSub→zS,reduceEqDiff→zE,reduceLeDiff→zL
set_option linter.unusedSimpArgs false
set_option linter.unusedVariables false
set_option maxRecDepth 100000
namespace Go.Lg
open Go.Proofs
def puzzleValid(p:Puz):Bool:=gridValid p.given p.size&&(decide (p.rules.length≤20)&&p.rules.all fun r=>ruleValid r p.size)
theorem PuzzleValid_run(p:Puz)(hx:smP p):Reads Try.prog 55 [aP p] (bool (puzzleValid p)):=by
 obtain⟨hx1,hx2,hx3⟩:=hx
 refine RunCall.cw (c:=_) Try.func55 rfl (n:=30) Try.ntmps55 (rs:=[.tmp 2]) rfl ?_
 simp only[List.length_cons,List.length_nil,zA,zS,List.replicate,List.cons_append,List.nil_append]
 simp(maxSteps:=999999)(disch:=omega)only[go_sem,zA,zM,zS,zE,zL]
 intro g
 first|refine OpS.rd (GridValid_run p.given p.size (by omega)) (⟨_,Try.func69,rfl,rfl⟩:Enters Try.prog 69) rfl rfl rfl rfl ?_|refine Loud.rd (GridValid_run p.given p.size (by omega)) (⟨_,Try.func69,rfl,rfl⟩:Enters Try.prog 69) rfl rfl rfl rfl ?_
 simp(maxSteps:=999999)(disch:=omega)only[go_sem,zA,zM,zS,zE,zL]
 ((with_reducible first|refine guardK_dec ?_ ?_|refine guardK_ndec ?_ ?_|refine guardK_nb ?_ ?_|refine guardK_split ?_ ?_|refine guardQ_dec ?_ ?_|refine guardL_dec ?_ ?_|refine guardQ_ndec ?_ ?_|refine guardL_ndec ?_ ?_|refine guardQ_nb ?_ ?_|refine guardL_nb ?_ ?_|refine guardQ_split ?_ ?_|refine guardL_split ?_ ?_)<;>intro hv<;>simp(maxSteps:=999999)(disch:=omega)only[go_sem,zA,zM,zS,zE,zL,hv])
 rotate_left
 · simp[puzzleValid,hv]
 ((first|(with_reducible first|refine condK_dec ?_ ?_|refine condK_ndec ?_ ?_|refine condK_nb ?_ ?_)|refine condK_b ?_ ?_)<;>intro h20)
 · simp(maxSteps:=999999)(disch:=omega)only[go_sem,zA,zM,zS,zE,zL]
   symm;simp only[puzzleValid,hv,Bool.true_and,Bool.and_eq_false_iff,decide_eq_false_iff_not];exact .inl (by omega)
 simp(maxSteps:=999999)(disch:=omega)only[go_sem,zA,zM,zS,zE,zL]
 refine loop_rule (fun i:Nat=>p.rules.length -i) (fun i=>i≤p.rules.length∧∀j:Nat,j<i→ruleValid (nth p.rules j) p.size=true) (fun i=>[.a, .k, .a, .a, .a, .a, .a, .a, .a, .a, .a, .a, .a, .a, .a, .a, .a, .a, .k, .k, .p (int i), .a, .a, .a, .a, .a, .a, .a, .a, .a]) (fun _=>[some ⟨g,1,cP p⟩]) 0
  ⟨Nat.zero_le _,fun j hj=>absurd hj (Nat.not_lt_zero _)⟩ (by simp(maxSteps:=999999)(disch:=omega)only[go_sem,zA,zM,zS,zE,zL];rfl) (HLe.refl _) ?_
 rintro i ⟨hi,hall⟩
 simp(maxSteps:=999999)(disch:=omega)only[go_sem,zA,zM,zS,zE,zL]
 ((first|(with_reducible first|refine condK_dec ?_ ?_|refine condK_ndec ?_ ?_|refine condK_nb ?_ ?_)|refine condK_b ?_ ?_)<;>intro h)
 · have h:i<p.rules.length:=by omega
   simp(maxSteps:=999999)(disch:=omega)only[go_sem,zA,zM,zS,zE,zL]
   intro g2
   first|refine OpS.rd (RuleValid_run (nth p.rules i) p.size (hx3 _ (nth_mem h))) (⟨_,Try.func77,rfl,rfl⟩:Enters Try.prog 77) rfl rfl rfl rfl ?_|refine Loud.rd (RuleValid_run (nth p.rules i) p.size (hx3 _ (nth_mem h))) (⟨_,Try.func77,rfl,rfl⟩:Enters Try.prog 77) rfl rfl rfl rfl ?_
   simp(maxSteps:=999999)(disch:=omega)only[go_sem,zA,zM,zS,zE,zL]
   ((first|(with_reducible first|refine condK_dec ?_ ?_|refine condK_ndec ?_ ?_|refine condK_nb ?_ ?_)|refine condK_b ?_ ?_)<;>intro h2)
   · simp(maxSteps:=999999)(disch:=omega)only[go_sem,zA,zM,zS,zE,zL]
     exact⟨i+1,⟨⟨h,all_step hall h2⟩,by omega⟩,by omega,hle_self _ _ _ (hle_nil _)⟩
   · simp(maxSteps:=999999)(disch:=omega)only[go_sem,zA,zM,zS,zE,zL]
     symm;simp only[puzzleValid,Bool.and_eq_false_iff];exact .inr (.inr (all_no h h2))
 · simp(maxSteps:=999999)(disch:=omega)only[go_sem,zA,zM,zS,zE,zL]
   symm;simp only[puzzleValid,Bool.and_eq_true,decide_eq_true_eq]
   exact⟨hv,by omega,all_nth.2 fun j hj=>hall j (by omega)⟩
theorem sPuzzleValid_run(p:Puz)(hx:smP p):Reads Try.prog 36 [aP p] (bool (puzzleValid p)):=by
 obtain⟨hx1,hx2,hx3⟩:=hx
 refine RunCall.cw (c:=_) Try.func36 rfl (n:=31) Try.ntmps36 (rs:=[.tmp 2]) rfl ?_
 simp only[List.length_cons,List.length_nil,zA,zS,List.replicate,List.cons_append,List.nil_append]
 simp(maxSteps:=999999)(disch:=omega)only[go_sem,zA,zM,zS,zE,zL]
 intro g
 refine loop_rule (fun i:Nat=>p.rules.length -i) (fun i=>i≤p.rules.length∧∀j:Nat,j<i→ruleValid (nth p.rules j) p.size=true) (fun i=>[.a, .k, .a, .p (int i), .a, .a, .a, .a, .a, .a, .a, .a, .a, .a, .a, .a, .a, .a, .a, .a, .a, .a, .a, .a, .a, .a, .a, .a, .a, .a, .a]) (fun _=>[some ⟨g,1,cP p⟩]) 0
  ⟨Nat.zero_le _,fun j hj=>absurd hj (Nat.not_lt_zero _)⟩ (by simp(maxSteps:=999999)(disch:=omega)only[go_sem,zA,zM,zS,zE,zL];rfl) (HLe.refl _) ?_
 rintro i ⟨hi,hall⟩
 simp(maxSteps:=999999)(disch:=omega)only[go_sem,zA,zM,zS,zE,zL]
 ((first|(with_reducible first|refine condK_dec ?_ ?_|refine condK_ndec ?_ ?_|refine condK_nb ?_ ?_)|refine condK_b ?_ ?_)<;>intro h)
 · have h:i<p.rules.length:=by omega
   simp(maxSteps:=999999)(disch:=omega)only[go_sem,zA,zM,zS,zE,zL]
   refine drawP_q foll (by kernel_rfl) ?_
   simp(maxSteps:=999999)(disch:=omega)only[go_sem,Nat.reduceBEq,Bool.true_or,zA,zM,zS,zE,zL]
   refine quietW.rd (sRuleValid_run (nth p.rules i) p.size (hx3 _ (nth_mem h))) (⟨_,Try.func67,rfl,rfl⟩:Enters Try.prog 67) rfl rfl rfl rfl ?_
   simp(maxSteps:=999999)(disch:=omega)only[go_sem,zA,zM,zS,zE,zL]
   ((first|(with_reducible first|refine condK_dec ?_ ?_|refine condK_ndec ?_ ?_|refine condK_nb ?_ ?_)|refine condK_b ?_ ?_)<;>intro h2)
   · simp(maxSteps:=999999)(disch:=omega)only[go_sem,zA,zM,zS,zE,zL]
     exact⟨i+1,⟨⟨h,all_step hall h2⟩,by omega⟩,by omega,HLe.refl _⟩
   · simp(maxSteps:=999999)(disch:=omega)only[go_sem,zA,zM,zS,zE,zL]
     symm;simp only[puzzleValid,Bool.and_eq_false_iff];exact .inr (.inr (all_no h h2))
 · simp(maxSteps:=999999)(disch:=omega)only[go_sem,zA,zM,zS,zE,zL]
   have ha:(p.rules.all fun r=>ruleValid r p.size)=true:=all_nth.2 fun j hj=>hall j (by omega)
   first|refine OpS.rd (sGridValid_run p.given p.size (by omega)) (⟨_,Try.func68,rfl,rfl⟩:Enters Try.prog 68) rfl rfl rfl rfl ?_|refine Loud.rd (sGridValid_run p.given p.size (by omega)) (⟨_,Try.func68,rfl,rfl⟩:Enters Try.prog 68) rfl rfl rfl rfl ?_
   simp(maxSteps:=999999)(disch:=omega)only[go_sem,zA,zM,zS,zE,zL]
   ((with_reducible first|refine guardK_dec ?_ ?_|refine guardK_ndec ?_ ?_|refine guardK_nb ?_ ?_|refine guardK_split ?_ ?_|refine guardQ_dec ?_ ?_|refine guardL_dec ?_ ?_|refine guardQ_ndec ?_ ?_|refine guardL_ndec ?_ ?_|refine guardQ_nb ?_ ?_|refine guardL_nb ?_ ?_|refine guardQ_split ?_ ?_|refine guardL_split ?_ ?_)<;>intro hv<;>simp(maxSteps:=999999)(disch:=omega)only[go_sem,zA,zM,zS,zE,zL,hv])
   · simp only[puzzleValid,hv,ha,Bool.true_and,Bool.and_true,decide_eq_decide];omega
   · simp[puzzleValid,hv]
end Go.Lg
