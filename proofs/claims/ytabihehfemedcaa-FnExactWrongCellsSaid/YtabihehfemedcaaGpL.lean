/- What the laws' helpers make and mark, as the call's own to the bottom. -/
import Derived.Test.YtabihehfemedcaaGpK
import Derived.Test.YtabihehfemedcaaGpA
import Derived.Test.YtabihehfemedcaaLgPc
set_option linter.unusedSimpArgs false
set_option linter.unusedVariables false
set_option maxRecDepth 100000
namespace Go.Lg
open Go.Proofs

def toRuleQ (r : Rul) : KV := fun v H => ∃ g, v = .agg [.f (.int .i64 r.kind), .own 3 g 0 r.cells.length none, .f (.int .i64 r.val)] ∧ H = [none, none, none, some ⟨g, 1, cl (eI .i64) r.cells⟩]
theorem toRule_own (r : Rul) (hx : r.cells.length ≤ 2 ^ 40) : RunCall Try.prog 109 [aR r] [] (toRuleQ r) := by
  refine RunCall.cw (c := _) Try.func109 rfl (n := 15) Try.ntmps109 (rs := [.cell 2 29]) rfl ?_
  simp only [List.length_cons, List.length_nil, Nat.reduceAdd, Nat.reduceSub, List.replicate, List.cons_append, List.nil_append]
  simp (maxSteps := 1000000) (disch := omega) only [go_sem, Nat.reduceAdd, Nat.reduceMul, Nat.reduceSub, Nat.reduceEqDiff, Nat.reduceLeDiff]
  intro g1 g2 g3
  refine OpS.mkQ (toIntS_own r.cells hx) (⟨_, Try.func35, rfl, rfl⟩ : Enters Try.prog 35) rfl rfl rfl ?_
  rintro _ _ ⟨g, rfl, rfl⟩
  refine ⟨rfl, ?_⟩
  simp (maxSteps := 1000000) (disch := omega) only [go_sem, Nat.reduceAdd, Nat.reduceMul, Nat.reduceSub, Nat.reduceEqDiff, Nat.reduceLeDiff]
  exact ⟨_, hle_none _ _ _ (hle_none _ _ _ (hle_none _ _ _ (HLe.refl _))), g, rfl, rfl⟩
theorem cl_eRo_none (n : Nat) : cl eRo (List.replicate n none) = kl kRo (List.replicate n none) := by
  induction n with
  | zero => rfl
  | succ n ih =>
    simp only [List.replicate_succ, cl, fl, kl, List.flatMap_cons, List.map_append] at ih ⊢
    rw [ih]; rfl
theorem toRuleS_deep (rs : List Rul) (hn : rs.length ≤ 2 ^ 40) (hx : ∀ r ∈ rs, r.cells.length ≤ 2 ^ 40) : RunCall Try.prog 82 [rsl eR rs] [] (rulesQ rs) := by
  refine RunCall.cw (c := _) Try.func82 rfl (n := 23) Try.ntmps82 (rs := [.tmp 2]) rfl ?_
  simp only [List.length_cons, List.length_nil, Nat.reduceAdd, Nat.reduceSub, List.replicate, List.cons_append, List.nil_append]
  simp (maxSteps := 1000000) (disch := omega) only [go_sem, Nat.reduceAdd, Nat.reduceMul, Nat.reduceSub, Nat.reduceEqDiff, Nat.reduceLeDiff]
  intro g
  refine loop_rule2 (fun (i : Nat) (b : Heap × List RO) => rs.length - i) (fun i b => i ≤ rs.length ∧ b.2.length = i ∧ b.2.map (·.r) = rs.take i ∧ (∀ o ∈ b.2, OwnI (none :: b.1) o.c o.r.cells o.i) ∧ (b.2.flatMap (·.i)).Nodup ∧ ∀ x ∈ b.2.flatMap (·.i), 1 ≤ x ∧ x < b.1.length + 1)
    (fun i _ => [.k, .a, .a, .k, .p (int i), .a, .a, .a, .a, .a, .a, .a, .a, .a, .a, .a, .a, .a, .a, .a, .a, .a, .a]) (fun i b => some ⟨g, 3, kl kRo (b.2.map some ++ List.replicate (rs.length - i) none)⟩ :: b.1) 0 ([], [])
    ⟨Nat.zero_le _, rfl, rfl, by simp, by simp, by simp⟩ (by simp (maxSteps := 1000000) (disch := omega) only [go_sem, Nat.reduceAdd, Nat.reduceMul, Nat.reduceSub, Nat.reduceEqDiff, Nat.reduceLeDiff]; rfl) (hle_eq (cl_eRo_none _) (hle_nil _)) ?_
  rintro i ⟨T, l⟩ ⟨hi, hl, hm, ho, hnd, hlt⟩
  simp only at hl hm ho hnd hlt ⊢
  simp (maxSteps := 1000000) (disch := omega) only [go_sem, Nat.reduceAdd, Nat.reduceMul, Nat.reduceSub, Nat.reduceEqDiff, Nat.reduceLeDiff]
  (first | with_reducible refine condK_dec (fun h => ?_) (fun h => ?_) | with_reducible refine condK_ndec (fun h => ?_) (fun h => ?_) | with_reducible refine condK_nb (fun h => ?_) (fun h => ?_) | refine condK_b (fun h => ?_) (fun h => ?_))
  · have h : i < rs.length := by omega
    simp (maxSteps := 1000000) (disch := omega) only [go_sem, Nat.reduceAdd, Nat.reduceMul, Nat.reduceSub, Nat.reduceEqDiff, Nat.reduceLeDiff]
    refine OpS.mkQ (toRule_own (nth rs i) (hx _ (nth_mem h))) (⟨_, Try.func109, rfl, rfl⟩ : Enters Try.prog 109) rfl rfl rfl ?_
    rintro _ _ ⟨g2, rfl, rfl⟩
    refine ⟨rfl, ?_⟩
    simp (maxSteps := 1000000) (disch := omega) only [go_sem, Nat.reduceAdd, Nat.reduceMul, Nat.reduceSub, Nat.reduceEqDiff, Nat.reduceLeDiff, kl_length]
    have hlen : (l.map some ++ List.replicate (rs.length - i) (none : Option RO)).length = rs.length := by simp; omega
    refine ⟨i + 1, (T ++ [none, none, none, some ⟨g2, 1, cl (eI .i64) (nth rs i).cells⟩], l ++ [⟨nth rs i, .own (3 + (T.length + 1)) g2 0 (nth rs i).cells.length none, [T.length + 4]⟩]), ⟨⟨h, by simp [hl], ?_, fun o hm2 => ?_, ?_, fun x hx2 => ?_⟩, by omega⟩, by omega, hle_eq ?_ (HLe.refl _)⟩
    · rw [List.map_append, hm, take_succ_nth h]; rfl
    · rcases List.mem_append.1 hm2 with hm2 | hm2
      · exact (ho o hm2).app (H' := [none, none, none, some ⟨g2, 1, cl (eI .i64) (nth rs i).cells⟩])
      · have : o = ⟨nth rs i, .own (3 + (T.length + 1)) g2 0 (nth rs i).cells.length none, [T.length + 4]⟩ := by simpa using hm2
        subst this
        have e : 3 + (T.length + 1) = T.length + 4 := by omega
        simp only [e]
        refine OwnI.o (T.length + 4) g2 none _ [] ?_
        rw [List.append_nil]
        refine look_of (b := ⟨g2, 1, cl (eI .i64) (nth rs i).cells⟩) ?_
        simp
    · rw [List.flatMap_append, List.nodup_append]
      refine ⟨hnd, by simp, fun a ha b hb => ?_⟩
      have := hlt a ha
      have hb : b = T.length + 4 := by simpa using hb
      omega
    · rw [List.flatMap_append] at hx2
      simp only [List.length_append, List.length_cons, List.length_nil]
      rcases List.mem_append.1 hx2 with hx2 | hx2
      · have := hlt x hx2; omega
      · have : x = T.length + 4 := by simpa using hx2
        omega
    · have e2 : (l ++ [(⟨nth rs i, .own (3 + (T.length + 1)) g2 0 (nth rs i).cells.length none, [T.length + 4]⟩ : RO)]).map some ++ List.replicate (rs.length - (i + 1)) none = (l.map some ++ List.replicate (rs.length - i) none).set i (some ⟨nth rs i, .own (3 + (T.length + 1)) g2 0 (nth rs i).cells.length none, [T.length + 4]⟩) := by
        have e3 : rs.length - i = (rs.length - (i + 1)) + 1 := by omega
        rw [e3, List.replicate_succ, List.set_append_right _ _ (by simp; omega)]
        simp [hl]
      rw [e2]
      exact setRange_kl (E := kRo) (v := some ⟨nth rs i, .own (3 + (T.length + 1)) g2 0 (nth rs i).cells.length none, [T.length + 4]⟩) (by rw [hlen]; exact h)
  have hir : i = rs.length := by omega
  simp (maxSteps := 1000000) (disch := omega) only [go_sem, Nat.reduceAdd, Nat.reduceMul, Nat.reduceSub, Nat.reduceEqDiff, Nat.reduceLeDiff]
  subst hir
  rw [List.take_length] at hm
  refine ⟨_, HLe.refl _, .own 0 g 0 rs.length none, 0 :: l.flatMap (·.i), rfl, ?_⟩
  have key := OwnR.o (H := some ⟨g, 3, kl kRo (l.map some ++ List.replicate (rs.length - rs.length) none)⟩ :: T) 0 g none l [] (by
    rw [Nat.sub_self, List.replicate_zero, List.append_nil, List.append_nil, kl_kRo]; simp [look]) (fun o hm2 => by
    have := (ho o hm2)
    have hi0 : 0 ∉ o.i := fun h0 => by have := hlt 0 (List.mem_flatMap.2 ⟨o, hm2, h0⟩); omega
    exact this.frm (T := [0]) ⟨by simp, fun id hid => by cases id with
      | zero => simp at hid
      | succ id => rfl⟩ fun i hi => by simp; rintro rfl; exact hi0 hi) (List.nodup_cons.2 ⟨fun h0 => by have := hlt 0 h0; omega, hnd⟩) (by simp)
  rw [hm, hl] at key
  exact key
theorem toPuzzle_deep (p : Puz) (hx : smP p) : RunCall Try.prog 31 [aP p] [] (puzQ p) := by
  refine RunCall.cw (c := _) Try.func31 rfl (n := 16) Try.ntmps31 (rs := [.cell 2 37]) rfl ?_
  simp only [List.length_cons, List.length_nil, Nat.reduceAdd, Nat.reduceSub, List.replicate, List.cons_append, List.nil_append]
  simp (maxSteps := 1000000) (disch := omega) only [go_sem, Nat.reduceAdd, Nat.reduceMul, Nat.reduceSub, Nat.reduceEqDiff, Nat.reduceLeDiff]
  intro g1 g2 g3
  refine OpS.mkQ (toIntS_own p.given hx.1) (⟨_, Try.func35, rfl, rfl⟩ : Enters Try.prog 35) rfl rfl rfl ?_
  rintro _ _ ⟨g, rfl, rfl⟩
  refine ⟨rfl, ?_⟩
  simp (maxSteps := 1000000) (disch := omega) only [go_sem, Nat.reduceAdd, Nat.reduceMul, Nat.reduceSub, Nat.reduceEqDiff, Nat.reduceLeDiff]
  refine OpS.mkR (toRuleS_deep p.rules hx.2.1 hx.2.2) (⟨_, Try.func82, rfl, rfl⟩ : Enters Try.prog 82) rfl rfl rfl ?_
  intro c H' S hR hS
  simp only [List.length_cons, List.length_nil] at hS
  simp (maxSteps := 1000000) (disch := omega) only [go_sem, Nat.reduceAdd, Nat.reduceMul, Nat.reduceSub, Nat.reduceEqDiff, Nat.reduceLeDiff]
  refine ⟨_, HLe.refl _, _, [3] ++ S, rfl, ⟨_, _, _, _, rfl, rfl, OwnI.o 3 g none p.given [] (by rw [List.append_nil]; simp only [go_sem]), hR.frm (T := [1, 2]) ⟨rfl, fun id hid => ?_⟩ fun i hi => ?_⟩, ?_⟩
  · match id, hid with
    | 0, _ => rfl
    | 1, h => simp at h
    | 2, h => simp at h
    | _ + 3, _ => rfl
  · have := hS i hi; simp; omega
  · rw [List.nodup_append]
    refine ⟨by simp, hR.nd, fun a ha b hb he => ?_⟩
    have ha : a = 3 := by simpa using ha
    have := hS b hb
    omega
theorem markIntS_view (H : Heap) (id g : Nat) (lim : Option Nat) (xs ys : List Int) (k : Int) (hl : look H id g = some ⟨g, 1, cl (eI .i64) (xs ++ ys)⟩) (hk : 0 ≤ k ∧ k ≤ 2 ^ 50) (hx : xs.length ≤ 2 ^ 40) :
    RunCall Try.prog 43 [.c (.own id g 0 xs.length lim), int k] H (fun r H' => r = int (k + xs.length) ∧ H' = H.set id (some ⟨g, 1, cl (eI .i64) (marks k xs.length ++ ys)⟩)) := by
  refine RunCall.cw (c := _) Try.func43 rfl (n := 19) Try.ntmps43 (rs := [.tmp 4]) rfl ?_
  simp only [List.length_cons, List.length_nil, Nat.reduceAdd, Nat.reduceSub, List.replicate, List.cons_append, List.nil_append]
  simp (maxSteps := 1000000) (disch := omega) only [go_sem, Nat.reduceAdd, Nat.reduceMul, Nat.reduceSub, Nat.reduceEqDiff, Nat.reduceLeDiff]
  have hid : H[id]? = some (some ⟨g, 1, cl (eI .i64) (xs ++ ys)⟩) := (look_some hl).1
  have hlt : id < H.length := (List.getElem?_eq_some_iff.1 hid).1
  have hs : ∀ ys : List Int, look (H.set id (some ⟨g, 1, cl (eI .i64) ys⟩)) id g = some ⟨g, 1, cl (eI .i64) ys⟩ := fun ys => look_of (b := ⟨g, 1, cl (eI .i64) ys⟩) (by rw [List.getElem?_set_self hlt])
  refine loop_rule2 (fun (i : Nat) (zs : List Int) => xs.length - i) (fun i zs => i ≤ xs.length ∧ zs.length = xs.length + ys.length ∧ (∀ j : Nat, j < i → nth zs j = k + j) ∧ ∀ j : Nat, xs.length ≤ j → nth zs j = nth (xs ++ ys) j) (fun i _ => [.k, .p (int (k + i)), .a, .a, .a, .p (int i), .a, .a, .a, .a, .a, .a, .a, .a, .a, .a, .a, .a, .a]) (fun _ zs => H.set id (some ⟨g, 1, cl (eI .i64) zs⟩)) 0 (xs ++ ys)
    ⟨Nat.zero_le _, by simp, fun j hj => absurd hj (Nat.not_lt_zero _), fun j hj => rfl⟩ (by simp (maxSteps := 1000000) (disch := omega) only [go_sem, Nat.reduceAdd, Nat.reduceMul, Nat.reduceSub, Nat.reduceEqDiff, Nat.reduceLeDiff]; simp) (hle_set_same hid) ?_
  rintro i zs ⟨hi, hly, hall, hkeep⟩
  simp (maxSteps := 1000000) (disch := omega) only [go_sem, Nat.reduceAdd, Nat.reduceMul, Nat.reduceSub, Nat.reduceEqDiff, Nat.reduceLeDiff, hs]
  (first | with_reducible refine condK_dec (fun h => ?_) (fun h => ?_) | with_reducible refine condK_ndec (fun h => ?_) (fun h => ?_) | with_reducible refine condK_nb (fun h => ?_) (fun h => ?_) | refine condK_b (fun h => ?_) (fun h => ?_))
  · have h : i < xs.length := by omega
    simp (maxSteps := 1000000) (disch := omega) only [go_sem, Nat.reduceAdd, Nat.reduceMul, Nat.reduceSub, Nat.reduceEqDiff, Nat.reduceLeDiff, hs]
    refine ⟨i + 1, zs.set i (k + i), ⟨⟨h, by simp [hly], fun j hj => ?_, fun j hj => ?_⟩, by omega⟩, ⟨by push_cast; omega, by push_cast; omega⟩, by rw [List.set_set]; exact HLe.refl _⟩
    · rw [nth_set _ _ _ _ (by omega) (by omega)]
      split
      · omega
      · exact hall j (by omega)
    · rw [nth_set _ _ _ _ (by omega) (by omega), if_neg (by omega)]
      exact hkeep j hj
  have h : i = xs.length := by omega
  subst h
  simp (maxSteps := 1000000) (disch := omega) only [go_sem, Nat.reduceAdd, Nat.reduceMul, Nat.reduceSub, Nat.reduceEqDiff, Nat.reduceLeDiff]
  have : zs = marks k xs.length ++ ys := ext_nth (by rw [hly, List.length_append, marks_length]) fun j hj => by
    by_cases hj2 : j < xs.length
    · rw [hall j hj2, nth_eq (xs := marks k xs.length ++ ys) (by simp [marks_length]; omega)]
      have := marks_nth (k := k) hj2
      rw [nth_eq (by rw [marks_length]; omega)] at this
      rw [← this, List.getElem_append_left]
    · rw [hkeep j (by omega), nth_eq (by simp; omega), nth_eq (by simp [marks_length]; omega)]
      simp only [Int.toNat_natCast]
      rw [List.getElem_append_right (by omega), List.getElem_append_right (by rw [marks_length]; omega)]
      simp only [marks_length]
  subst this
  exact ⟨_, HLe.refl _, rfl, rfl⟩
theorem markIntS_deep (H : Heap) (c : CV) (xs : List Int) (S : List Nat) (k : Int) (h : OwnI H c xs S) (hk : 0 ≤ k ∧ k ≤ 2 ^ 50) (hx : xs.length ≤ 2 ^ 40) :
    RunCall Try.prog 43 [.c c, int k] H (fun r H' => r = int (k + xs.length) ∧ OwnI H' c (marks k xs.length) S ∧ Frm H H' S) := by
  cases h with
  | e =>
    refine (RunCall.frame rfl (markNil_run k) fun r H' h => by rw [h]; rfl).weaker ?_
    rintro r H2 ⟨r', H', rfl, rfl, rfl⟩
    refine ⟨H, HLe.app _ _, ?_, .e, Frm.refl _ _⟩
    simp [shiftA, shift1, shiftC]
  | o id g lim xs ys h =>
    refine (markIntS_view H id g lim xs ys k h hk hx).weaker ?_
    rintro r H2 ⟨rfl, rfl⟩
    have hlt : id < H.length := (List.getElem?_eq_some_iff.1 (look_some h).1).1
    refine ⟨_, HLe.refl _, rfl, ?_, Frm.set _ _ _⟩
    have := OwnI.o (H := H.set id (some ⟨g, 1, cl (eI .i64) (marks k xs.length ++ ys)⟩)) id g lim (marks k xs.length) ys (look_of (b := ⟨g, 1, cl (eI .i64) (marks k xs.length ++ ys)⟩) (by rw [List.getElem?_set_self hlt]))
    rw [marks_length] at this
    exact this
end Go.Lg
