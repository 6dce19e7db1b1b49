/- GpK, GpA, GpL, GpP, GpQ, cut to what is needed. -/
import Derived.Test.YtabihehfemedcaaQcc2
import Derived.Test.YtabihehfemedcaaQcb4
import Derived.Test.YtabihehfemedcaaQcb2
import Derived.Test.YtabihehfemedcaaQcb5
import Derived.Test.YtabihehfemedcaaQcb3
set_option linter.unusedSimpArgs false
set_option linter.unusedVariables false
set_option maxRecDepth 100000
namespace Go.Lg
open Go.Proofs
def filledAt (xs : List Int) : List Int := ((List.range xs.length).filter fun i : Nat => decide (0 < nth xs i)).map fun i : Nat => (i : Int)
def gameOk (g : Gam) : Prop := g.moves.Nodup ∧ (∀ c ∈ g.moves, c ∈ filledAt g.put) ∧ ∀ c ∈ filledAt g.put, c ∈ g.moves ∧ nth g.task.given c ≤ 0
instance (g : Gam) : Decidable (gameOk g) := by unfold gameOk; infer_instance
def eBo (b : Bool) : List FV := [.bool b]
instance : HSz eBo 1 := ⟨fun _ => rfl⟩
theorem eBo_0 (b : Bool) (d : FV) : (eBo b).getD 0 d = .bool b := rfl
theorem zerosBo (n : Nat) : zerosL (n * 1) [.f (.bool false)] = cl eBo (List.replicate n false) := by
  simp only [zerosL, Nat.mul_one, List.length_singleton, Nat.mod_one]
  induction n with
  | zero => rfl
  | succ n ih => rw [List.range_succ, List.map_append, ih, List.replicate_succ', cl_append]; rfl
theorem setBo {xs : List Bool} {e : Int} {v : Bool} (h : 0 ≤ e ∧ e < (xs.length : Int)) : setRange (cl eBo xs) (0 + e.toNat * 1) [.f (.bool v)] = cl eBo (xs.set e.toNat v) :=
  setRange_cl (E := eBo) (by omega)
attribute [go_sem] eBo_0 zerosBo setBo
end Go.Lg

set_option linter.unusedSimpArgs false
set_option linter.unusedVariables false
set_option maxRecDepth 100000
namespace Go.Lg
open Go.Proofs
theorem markNil_run (k : Int) : Reads Try.prog 43 [ints [], int k] (int k) := by
  refine RunCall.cw (c := _) Try.func43 rfl (n := 19) Try.ntmps43 (rs := [.tmp 4]) rfl ?_
  simp only [List.length_cons, List.length_nil, Nat.reduceAdd, Nat.reduceSub, List.replicate, List.cons_append, List.nil_append]
  simp (maxSteps := 1000000) (disch := omega) only [go_sem, Nat.reduceAdd, Nat.reduceMul, Nat.reduceSub, Nat.reduceEqDiff, Nat.reduceLeDiff]
  refine loop_rule (fun _ : Unit => 0) (fun _ => True) (fun _ => [.k, .p (int k), .a, .a, .a, .p (int 0), .a, .a, .a, .a, .a, .a, .a, .a, .a, .a, .a, .a, .a]) (fun _ => []) () trivial (by simp (maxSteps := 1000000) (disch := omega) only [go_sem, Nat.reduceAdd, Nat.reduceMul, Nat.reduceSub, Nat.reduceEqDiff, Nat.reduceLeDiff]) (hle_nil _) ?_
  intro _ _
  simp (maxSteps := 1000000) (disch := omega) only [go_sem, Nat.reduceAdd, Nat.reduceMul, Nat.reduceSub, Nat.reduceEqDiff, Nat.reduceLeDiff]
  simp only [show decide ((0 : Int) < ((0 : Nat) : Int)) = false from rfl]
  simp (maxSteps := 1000000) (disch := omega) only [go_sem, Nat.reduceAdd, Nat.reduceMul, Nat.reduceSub, Nat.reduceEqDiff, Nat.reduceLeDiff]
theorem heldIntS_run (n : Nat) (k : Int) (hk : 0 ≤ k ∧ k ≤ 2 ^ 50) (hx : n ≤ 2 ^ 40) : Reads Try.prog 44 [ints (marks k n), int k] (int (k + n)) := by
  refine RunCall.cw (c := _) Try.func44 rfl (n := 21) Try.ntmps44 (rs := [.tmp 4]) rfl ?_
  simp only [List.length_cons, List.length_nil, Nat.reduceAdd, Nat.reduceSub, List.replicate, List.cons_append, List.nil_append]
  simp (maxSteps := 1000000) (disch := omega) only [go_sem, Nat.reduceAdd, Nat.reduceMul, Nat.reduceSub, Nat.reduceEqDiff, Nat.reduceLeDiff]
  have hm := marks_length k n
  refine loop_rule (fun (i : Nat) => n - i) (fun i => i ≤ n) (fun i => [.k, .p (int (k + i)), .a, .a, .a, .p (int i), .a, .a, .a, .a, .a, .a, .a, .a, .a, .a, .a, .a, .a, .a, .a]) (fun _ => []) 0
    (Nat.zero_le _) (by simp (maxSteps := 1000000) (disch := omega) only [go_sem, Nat.reduceAdd, Nat.reduceMul, Nat.reduceSub, Nat.reduceEqDiff, Nat.reduceLeDiff]; simp) (hle_nil _) ?_
  intro i hi
  simp (maxSteps := 1000000) (disch := omega) only [go_sem, Nat.reduceAdd, Nat.reduceMul, Nat.reduceSub, Nat.reduceEqDiff, Nat.reduceLeDiff, marks_length]
  refine condK_split (fun h => ?_) (fun h => ?_)
  · have h : i < n := by simpa using h
    simp (maxSteps := 1000000) (disch := omega) only [go_sem, Nat.reduceAdd, Nat.reduceMul, Nat.reduceSub, Nat.reduceEqDiff, Nat.reduceLeDiff, marks_length, marks_nth h]
    exact ⟨i + 1, ⟨h, by omega⟩, ⟨by push_cast; omega, by push_cast; omega⟩, hle_nil _⟩
  have h : i = n := by have : ¬ i < n := by simpa using h
                       omega
  subst h
  simp (maxSteps := 1000000) (disch := omega) only [go_sem, Nat.reduceAdd, Nat.reduceMul, Nat.reduceSub, Nat.reduceEqDiff, Nat.reduceLeDiff]
end Go.Lg

set_option linter.unusedSimpArgs false
set_option linter.unusedVariables false
set_option maxRecDepth 100000
namespace Go.Lg
open Go.Proofs
def toRuleQ (r : Rul) : KV := fun v H => ∃ g, v = .agg [.f (.int .i64 r.kind), .own 3 g 0 r.cells.length none, .f (.int .i64 r.val)] ∧ H = [none, none, none, some ⟨g, 1, cl (eI .i64) r.cells⟩]
theorem toRule_own (r : Rul) (hx : r.cells.length ≤ 2 ^ 40) : RunCall Try.prog 109 [aR r] [] (toRuleQ r) := by
  refine RunCall.cw (c := _) Try.func109 rfl (n := 15) Try.ntmps109 (rs := [.cell 2 29]) rfl ?_
  simp only [List.length_cons, List.length_nil, Nat.reduceAdd, Nat.reduceSub, List.replicate, List.cons_append, List.nil_append]
  simp (maxSteps := 1000000) (disch := omega) only [go_sem, Nat.reduceAdd, Nat.reduceMul, Nat.reduceSub, Nat.reduceEqDiff, Nat.reduceLeDiff]
  intro g1 g2 g3
  refine OpS.mkQ (toIntS_own r.cells hx) (⟨_, Try.func35, rfl, rfl⟩ : Enters Try.prog 35) rfl rfl rfl ?_
  rintro _ _ ⟨g, rfl, rfl⟩
  refine ⟨rfl, ?_⟩
  simp (maxSteps := 1000000) (disch := omega) only [go_sem, Nat.reduceAdd, Nat.reduceMul, Nat.reduceSub, Nat.reduceEqDiff, Nat.reduceLeDiff]
  exact ⟨_, hle_none _ _ _ (hle_none _ _ _ (hle_none _ _ _ (HLe.refl _))), g, rfl, rfl⟩
theorem cl_eRo_none (n : Nat) : cl eRo (List.replicate n none) = kl kRo (List.replicate n none) := by
  induction n with
  | zero => rfl
  | succ n ih =>
    simp only [List.replicate_succ, cl, fl, kl, List.flatMap_cons, List.map_append] at ih ⊢
    rw [ih]; rfl
theorem toRuleS_deep (rs : List Rul) (hn : rs.length ≤ 2 ^ 40) (hx : ∀ r ∈ rs, r.cells.length ≤ 2 ^ 40) : RunCall Try.prog 82 [rsl eR rs] [] (rulesQ rs) := by
  refine RunCall.cw (c := _) Try.func82 rfl (n := 23) Try.ntmps82 (rs := [.tmp 2]) rfl ?_
  simp only [List.length_cons, List.length_nil, Nat.reduceAdd, Nat.reduceSub, List.replicate, List.cons_append, List.nil_append]
  simp (maxSteps := 1000000) (disch := omega) only [go_sem, Nat.reduceAdd, Nat.reduceMul, Nat.reduceSub, Nat.reduceEqDiff, Nat.reduceLeDiff]
  intro g
  refine loop_rule2 (fun (i : Nat) (b : Heap × List RO) => rs.length - i) (fun i b => i ≤ rs.length ∧ b.2.length = i ∧ b.2.map (·.r) = rs.take i ∧ (∀ o ∈ b.2, OwnI (none :: b.1) o.c o.r.cells o.i) ∧ (b.2.flatMap (·.i)).Nodup ∧ ∀ x ∈ b.2.flatMap (·.i), 1 ≤ x ∧ x < b.1.length + 1)
    (fun i _ => [.k, .a, .a, .k, .p (int i), .a, .a, .a, .a, .a, .a, .a, .a, .a, .a, .a, .a, .a, .a, .a, .a, .a, .a]) (fun i b => some ⟨g, 3, kl kRo (b.2.map some ++ List.replicate (rs.length - i) none)⟩ :: b.1) 0 ([], [])
    ⟨Nat.zero_le _, rfl, rfl, by simp, by simp, by simp⟩ (by simp (maxSteps := 1000000) (disch := omega) only [go_sem, Nat.reduceAdd, Nat.reduceMul, Nat.reduceSub, Nat.reduceEqDiff, Nat.reduceLeDiff]; rfl) (hle_eq (cl_eRo_none _) (hle_nil _)) ?_
  rintro i ⟨T, l⟩ ⟨hi, hl, hm, ho, hnd, hlt⟩
  simp only at hl hm ho hnd hlt ⊢
  simp (maxSteps := 1000000) (disch := omega) only [go_sem, Nat.reduceAdd, Nat.reduceMul, Nat.reduceSub, Nat.reduceEqDiff, Nat.reduceLeDiff]
  (first | with_reducible refine condK_dec (fun h => ?_) (fun h => ?_) | with_reducible refine condK_ndec (fun h => ?_) (fun h => ?_) | with_reducible refine condK_nb (fun h => ?_) (fun h => ?_) | refine condK_b (fun h => ?_) (fun h => ?_))
  · have h : i < rs.length := by omega
    simp (maxSteps := 1000000) (disch := omega) only [go_sem, Nat.reduceAdd, Nat.reduceMul, Nat.reduceSub, Nat.reduceEqDiff, Nat.reduceLeDiff]
    refine OpS.mkQ (toRule_own (nth rs i) (hx _ (nth_mem h))) (⟨_, Try.func109, rfl, rfl⟩ : Enters Try.prog 109) rfl rfl rfl ?_
    rintro _ _ ⟨g2, rfl, rfl⟩
    refine ⟨rfl, ?_⟩
    simp (maxSteps := 1000000) (disch := omega) only [go_sem, Nat.reduceAdd, Nat.reduceMul, Nat.reduceSub, Nat.reduceEqDiff, Nat.reduceLeDiff, kl_length]
    have hlen : (l.map some ++ List.replicate (rs.length - i) (none : Option RO)).length = rs.length := by simp; omega
    refine ⟨i + 1, (T ++ [none, none, none, some ⟨g2, 1, cl (eI .i64) (nth rs i).cells⟩], l ++ [⟨nth rs i, .own (3 + (T.length + 1)) g2 0 (nth rs i).cells.length none, [T.length + 4]⟩]), ⟨⟨h, by simp [hl], ?_, fun o hm2 => ?_, ?_, fun x hx2 => ?_⟩, by omega⟩, by omega, hle_eq ?_ (HLe.refl _)⟩
    · rw [List.map_append, hm, take_succ_nth h]; rfl
    · rcases List.mem_append.1 hm2 with hm2 | hm2
      · exact (ho o hm2).app (H' := [none, none, none, some ⟨g2, 1, cl (eI .i64) (nth rs i).cells⟩])
      · have : o = ⟨nth rs i, .own (3 + (T.length + 1)) g2 0 (nth rs i).cells.length none, [T.length + 4]⟩ := by simpa using hm2
        subst this
        have e : 3 + (T.length + 1) = T.length + 4 := by omega
        simp only [e]
        refine OwnI.o (T.length + 4) g2 none _ [] ?_
        rw [List.append_nil]
        refine look_of (b := ⟨g2, 1, cl (eI .i64) (nth rs i).cells⟩) ?_
        simp
    · rw [List.flatMap_append, List.nodup_append]
      refine ⟨hnd, by simp, fun a ha b hb => ?_⟩
      have := hlt a ha
      have hb : b = T.length + 4 := by simpa using hb
      omega
    · rw [List.flatMap_append] at hx2
      simp only [List.length_append, List.length_cons, List.length_nil]
      rcases List.mem_append.1 hx2 with hx2 | hx2
      · have := hlt x hx2; omega
      · have : x = T.length + 4 := by simpa using hx2
        omega
    · have e2 : (l ++ [(⟨nth rs i, .own (3 + (T.length + 1)) g2 0 (nth rs i).cells.length none, [T.length + 4]⟩ : RO)]).map some ++ List.replicate (rs.length - (i + 1)) none = (l.map some ++ List.replicate (rs.length - i) none).set i (some ⟨nth rs i, .own (3 + (T.length + 1)) g2 0 (nth rs i).cells.length none, [T.length + 4]⟩) := by
        have e3 : rs.length - i = (rs.length - (i + 1)) + 1 := by omega
        rw [e3, List.replicate_succ, List.set_append_right _ _ (by simp; omega)]
        simp [hl]
      rw [e2]
      exact setRange_kl (E := kRo) (v := some ⟨nth rs i, .own (3 + (T.length + 1)) g2 0 (nth rs i).cells.length none, [T.length + 4]⟩) (by rw [hlen]; exact h)
  have hir : i = rs.length := by omega
  simp (maxSteps := 1000000) (disch := omega) only [go_sem, Nat.reduceAdd, Nat.reduceMul, Nat.reduceSub, Nat.reduceEqDiff, Nat.reduceLeDiff]
  subst hir
  rw [List.take_length] at hm
  refine ⟨_, HLe.refl _, .own 0 g 0 rs.length none, 0 :: l.flatMap (·.i), rfl, ?_⟩
  have key := OwnR.o (H := some ⟨g, 3, kl kRo (l.map some ++ List.replicate (rs.length - rs.length) none)⟩ :: T) 0 g none l [] (by
    rw [Nat.sub_self, List.replicate_zero, List.append_nil, List.append_nil, kl_kRo]; simp [look]) (fun o hm2 => by
    have := (ho o hm2)
    have hi0 : 0 ∉ o.i := fun h0 => by have := hlt 0 (List.mem_flatMap.2 ⟨o, hm2, h0⟩); omega
    exact this.frm (T := [0]) ⟨by simp, fun id hid => by cases id with
      | zero => simp at hid
      | succ id => rfl⟩ fun i hi => by simp; rintro rfl; exact hi0 hi) (List.nodup_cons.2 ⟨fun h0 => by have := hlt 0 h0; omega, hnd⟩) (by simp)
  rw [hm, hl] at key
  exact key
theorem toPuzzle_deep (p : Puz) (hx : smP p) : RunCall Try.prog 31 [aP p] [] (puzQ p) := by
  refine RunCall.cw (c := _) Try.func31 rfl (n := 16) Try.ntmps31 (rs := [.cell 2 37]) rfl ?_
  simp only [List.length_cons, List.length_nil, Nat.reduceAdd, Nat.reduceSub, List.replicate, List.cons_append, List.nil_append]
  simp (maxSteps := 1000000) (disch := omega) only [go_sem, Nat.reduceAdd, Nat.reduceMul, Nat.reduceSub, Nat.reduceEqDiff, Nat.reduceLeDiff]
  intro g1 g2 g3
  refine OpS.mkQ (toIntS_own p.given hx.1) (⟨_, Try.func35, rfl, rfl⟩ : Enters Try.prog 35) rfl rfl rfl ?_
  rintro _ _ ⟨g, rfl, rfl⟩
  refine ⟨rfl, ?_⟩
  simp (maxSteps := 1000000) (disch := omega) only [go_sem, Nat.reduceAdd, Nat.reduceMul, Nat.reduceSub, Nat.reduceEqDiff, Nat.reduceLeDiff]
  refine OpS.mkR (toRuleS_deep p.rules hx.2.1 hx.2.2) (⟨_, Try.func82, rfl, rfl⟩ : Enters Try.prog 82) rfl rfl rfl ?_
  intro c H' S hR hS
  simp only [List.length_cons, List.length_nil] at hS
  simp (maxSteps := 1000000) (disch := omega) only [go_sem, Nat.reduceAdd, Nat.reduceMul, Nat.reduceSub, Nat.reduceEqDiff, Nat.reduceLeDiff]
  refine ⟨_, HLe.refl _, _, [3] ++ S, rfl, ⟨_, _, _, _, rfl, rfl, OwnI.o 3 g none p.given [] (by rw [List.append_nil]; simp only [go_sem]), hR.frm (T := [1, 2]) ⟨rfl, fun id hid => ?_⟩ fun i hi => ?_⟩, ?_⟩
  · match id, hid with
    | 0, _ => rfl
    | 1, h => simp at h
    | 2, h => simp at h
    | _ + 3, _ => rfl
  · have := hS i hi; simp; omega
  · rw [List.nodup_append]
    refine ⟨by simp, hR.nd, fun a ha b hb he => ?_⟩
    have ha : a = 3 := by simpa using ha
    have := hS b hb
    omega
theorem markIntS_view (H : Heap) (id g : Nat) (lim : Option Nat) (xs ys : List Int) (k : Int) (hl : look H id g = some ⟨g, 1, cl (eI .i64) (xs ++ ys)⟩) (hk : 0 ≤ k ∧ k ≤ 2 ^ 50) (hx : xs.length ≤ 2 ^ 40) :
    RunCall Try.prog 43 [.c (.own id g 0 xs.length lim), int k] H (fun r H' => r = int (k + xs.length) ∧ H' = H.set id (some ⟨g, 1, cl (eI .i64) (marks k xs.length ++ ys)⟩)) := by
  refine RunCall.cw (c := _) Try.func43 rfl (n := 19) Try.ntmps43 (rs := [.tmp 4]) rfl ?_
  simp only [List.length_cons, List.length_nil, Nat.reduceAdd, Nat.reduceSub, List.replicate, List.cons_append, List.nil_append]
  simp (maxSteps := 1000000) (disch := omega) only [go_sem, Nat.reduceAdd, Nat.reduceMul, Nat.reduceSub, Nat.reduceEqDiff, Nat.reduceLeDiff]
  have hid : H[id]? = some (some ⟨g, 1, cl (eI .i64) (xs ++ ys)⟩) := (look_some hl).1
  have hlt : id < H.length := (List.getElem?_eq_some_iff.1 hid).1
  have hs : ∀ ys : List Int, look (H.set id (some ⟨g, 1, cl (eI .i64) ys⟩)) id g = some ⟨g, 1, cl (eI .i64) ys⟩ := fun ys => look_of (b := ⟨g, 1, cl (eI .i64) ys⟩) (by rw [List.getElem?_set_self hlt])
  refine loop_rule2 (fun (i : Nat) (zs : List Int) => xs.length - i) (fun i zs => i ≤ xs.length ∧ zs.length = xs.length + ys.length ∧ (∀ j : Nat, j < i → nth zs j = k + j) ∧ ∀ j : Nat, xs.length ≤ j → nth zs j = nth (xs ++ ys) j) (fun i _ => [.k, .p (int (k + i)), .a, .a, .a, .p (int i), .a, .a, .a, .a, .a, .a, .a, .a, .a, .a, .a, .a, .a]) (fun _ zs => H.set id (some ⟨g, 1, cl (eI .i64) zs⟩)) 0 (xs ++ ys)
    ⟨Nat.zero_le _, by simp, fun j hj => absurd hj (Nat.not_lt_zero _), fun j hj => rfl⟩ (by simp (maxSteps := 1000000) (disch := omega) only [go_sem, Nat.reduceAdd, Nat.reduceMul, Nat.reduceSub, Nat.reduceEqDiff, Nat.reduceLeDiff]; simp) (hle_set_same hid) ?_
  rintro i zs ⟨hi, hly, hall, hkeep⟩
  simp (maxSteps := 1000000) (disch := omega) only [go_sem, Nat.reduceAdd, Nat.reduceMul, Nat.reduceSub, Nat.reduceEqDiff, Nat.reduceLeDiff, hs]
  (first | with_reducible refine condK_dec (fun h => ?_) (fun h => ?_) | with_reducible refine condK_ndec (fun h => ?_) (fun h => ?_) | with_reducible refine condK_nb (fun h => ?_) (fun h => ?_) | refine condK_b (fun h => ?_) (fun h => ?_))
  · have h : i < xs.length := by omega
    simp (maxSteps := 1000000) (disch := omega) only [go_sem, Nat.reduceAdd, Nat.reduceMul, Nat.reduceSub, Nat.reduceEqDiff, Nat.reduceLeDiff, hs]
    refine ⟨i + 1, zs.set i (k + i), ⟨⟨h, by simp [hly], fun j hj => ?_, fun j hj => ?_⟩, by omega⟩, ⟨by push_cast; omega, by push_cast; omega⟩, by rw [List.set_set]; exact HLe.refl _⟩
    · rw [nth_set _ _ _ _ (by omega) (by omega)]
      split
      · omega
      · exact hall j (by omega)
    · rw [nth_set _ _ _ _ (by omega) (by omega), if_neg (by omega)]
      exact hkeep j hj
  have h : i = xs.length := by omega
  subst h
  simp (maxSteps := 1000000) (disch := omega) only [go_sem, Nat.reduceAdd, Nat.reduceMul, Nat.reduceSub, Nat.reduceEqDiff, Nat.reduceLeDiff]
  have : zs = marks k xs.length ++ ys := ext_nth (by rw [hly, List.length_append, marks_length]) fun j hj => by
    by_cases hj2 : j < xs.length
    · rw [hall j hj2, nth_eq (xs := marks k xs.length ++ ys) (by simp [marks_length]; omega)]
      have := marks_nth (k := k) hj2
      rw [nth_eq (by rw [marks_length]; omega)] at this
      rw [← this, List.getElem_append_left]
    · rw [hkeep j (by omega), nth_eq (by simp; omega), nth_eq (by simp [marks_length]; omega)]
      simp only [Int.toNat_natCast]
      rw [List.getElem_append_right (by omega), List.getElem_append_right (by rw [marks_length]; omega)]
      simp only [marks_length]
  subst this
  exact ⟨_, HLe.refl _, rfl, rfl⟩
theorem markIntS_deep (H : Heap) (c : CV) (xs : List Int) (S : List Nat) (k : Int) (h : OwnI H c xs S) (hk : 0 ≤ k ∧ k ≤ 2 ^ 50) (hx : xs.length ≤ 2 ^ 40) :
    RunCall Try.prog 43 [.c c, int k] H (fun r H' => r = int (k + xs.length) ∧ OwnI H' c (marks k xs.length) S ∧ Frm H H' S) := by
  cases h with
  | e =>
    refine (RunCall.frame rfl (markNil_run k) fun r H' h => by rw [h]; rfl).weaker ?_
    rintro r H2 ⟨r', H', rfl, rfl, rfl⟩
    refine ⟨H, HLe.app _ _, ?_, .e, Frm.refl _ _⟩
    simp [shiftA, shift1, shiftC]
  | o id g lim xs ys h =>
    refine (markIntS_view H id g lim xs ys k h hk hx).weaker ?_
    rintro r H2 ⟨rfl, rfl⟩
    have hlt : id < H.length := (List.getElem?_eq_some_iff.1 (look_some h).1).1
    refine ⟨_, HLe.refl _, rfl, ?_, Frm.set _ _ _⟩
    have := OwnI.o (H := H.set id (some ⟨g, 1, cl (eI .i64) (marks k xs.length ++ ys)⟩)) id g lim (marks k xs.length) ys (look_of (b := ⟨g, 1, cl (eI .i64) (marks k xs.length ++ ys)⟩) (by rw [List.getElem?_set_self hlt]))
    rw [marks_length] at this
    exact this
end Go.Lg

set_option linter.unusedSimpArgs false
set_option linter.unusedVariables false
set_option maxRecDepth 100000
namespace Go.Lg
open Go.Proofs
theorem OpS.nilOpen {P : Program} {o : Oper} {st : St} {K : KV} {t yt : TypeId} {x y : Operand} {ei : TI} (ho : o.op = .binOp .eql t x y yt) (ht : sliceOf P t = some ei)
    (hx : evO st.s x = .c (.f (.sl 0 []))) (hy : isNilV st.h (evO st.s y) = some true) (hk : ∀ b, K (.c (.f (.bool b))) st.h) : OpS P o st K := by
  intro w X a R next Q hn
  obtain ⟨ti, e, ht, hk', he⟩ := sliceOf_some ht
  obtain ⟨inf, d, z', h1, h2, h3, h4, h5, h6, h7⟩ := tinf_some ht
  rw [h5] at hk'; cases tk_slice hk'
  have e2 := nil_of_isNone hy (evO_sound R y)
  have hx' := evO_sound R x
  rw [hx] at hx'
  have : ∃ a0 c, a.eval x = .slice a0 0 c := by
    have hh := va_c hx'
    generalize a.eval x = xv at hh
    cases hh with
    | sl0 a cap => exact ⟨_, _, rfl⟩
    | sl n cs b o cap u hc hI hu hv => exact ⟨_, _, rfl⟩
  obtain ⟨a0, c, ex⟩ := this
  have hrun : (do eqGuard .eql t x y (a.eval x) (a.eval y); binOp .eql t (a.eval x) (a.eval y) : Sem Value).run P w = .ok (.bool a0.isNone) w := by
    rw [Sem.run_bind, run_eqGuard_plain (by rw [ex]), Result.andThen_ok, e2, ex]
    exact Lib.run_eql_slice_nil w t e _ _ _ _ _ h2
  have h1 : (execOp a.eval o).run P w = .ok (.value (.bool a0.isNone)) w := by
    simp only [execOp, ho]; rw [Sem.run_bind, hrun]; rfl
  unfold Oper.wp
  rw [h1, Oper.upon_value]
  exact hn (.c (.f (.bool a0.isNone))) _ X st.h w (.c _ _ (VF.bool _)) R.heap (Ev.refl _ _ _) (hk _)
theorem OpS.valNil {P : Program} {o : Oper} {st : St} {K : KV} (h : opV P st.s st.h o.op = some (.c (.f .nil))) (hk : K (.c (.f (.sl 0 []))) st.h) : OpS P o st K := by
  intro w X a R next Q hn
  obtain ⟨u, h1, h2⟩ := opV_sound (P := P) R h
  unfold Oper.wp
  rw [h1 w (Grow.refl w) o rfl, Oper.upon_value]
  have : VA w X st.h (.c (.f (.sl 0 []))) u := by
    have hh := va_c h2
    cases hh
    exact .c (.f (.sl 0 [])) _ (VF.sl0 none 0)
  exact hn _ u X st.h w this R.heap (Ev.refl _ _ _) hk
theorem RunCall.of_bodyN {P : Program} {f : FuncId} {fn : Func} {c : Code} {args : List AV} {H : Heap} {Q : AV → Heap → Prop} (hf : P.funcs[f]? = some fn) (hb : fn.body = some c) {n : Nat} (hn : fn.ntmps = n) {rs : List ResultVar} (hr : fn.results.toList = rs)
    (h : RunC P c ⟨args ++ List.replicate (n - args.length) .void, H⟩ fun e st' => (e = .normal ∨ e = .ret) ∧ ∃ v H', resV P st'.s st'.h rs = some v ∧ HLe st'.h H' ∧ Q v H') : RunCall P f args H Q := by
  subst hn hr
  exact RunCall.of_body hf hb h
theorem sliceOf_of {P : Program} {t e : TypeId} {ti ei : TI} (ht : tinf P t = some ti) (hk : ti.k = .slice e) (he : tinf P e = some ei) : sliceOf P t = some ei := by
  unfold sliceOf; simp only [ht, hk, he]
theorem binA_ne {P : Program} {H : Heap} {t e : TypeId} {ti : TI} {n : Nat} {cs : List FV} (ht : tinf P t = some ti) (hk : ti.k = .slice e) (hn : 0 < n) : binA P H .eql t (.c (.f (.sl n cs))) (.c (.f .nil)) = some (.c (.f (.bool false))) := by
  unfold binA
  simp only [ht, hk, isNilV, if_neg (show ¬ n = 0 by omega)]
  rfl
theorem Clone_ne (xs : List Int) (hx : xs.length ≤ 2 ^ 40) (h0 : xs ≠ []) : RunCall Try.prog 112 [ints xs] [] (ownIQ xs) := by
  have hp : 0 < xs.length := List.length_pos_iff.2 h0
  refine RunCall.cw (c := _) Try.func112 rfl (n := 8) Try.ntmps112 (rs := [.tmp 2]) rfl ?_
  simp only [List.length_cons, List.length_nil, Nat.reduceAdd, Nat.reduceSub, List.replicate, List.cons_append, List.nil_append]
  simp (maxSteps := 1000000) (disch := omega) only [go_sem, Nat.reduceAdd, Nat.reduceMul, Nat.reduceSub, Nat.reduceEqDiff, Nat.reduceLeDiff, binA_ne ti23 rfl hp]
  intro g g'
  rw [Nat.zero_add]
  exact ⟨_, HLe.refl _, _, _, rfl, .o 0 g' none xs [] (by rw [List.append_nil]; exact look_of (b := ⟨g', 1, cl (eI .i64) xs⟩) rfl), scalH_ints (fun id b hb => by simp at hb)⟩
theorem Clone_e : RunCall Try.prog 112 [ints []] [] (ownIQ []) := by
  refine RunCall.of_bodyN (c := _) rfl rfl (n := 8) rfl (rs := [.tmp 2]) rfl ?_
  refine RunC.seq (RunC.region (OpS.val (v := .c (.f .nil)) rfl ?_))
  refine RunC.seq (RunC.seq (RunC.region (OpS.val (v := ints []) rfl (OpS.nilOpen rfl (sliceOf_of ti23 rfl ti3) rfl rfl fun b => ?_))))
  refine RunC.cond (b := b) rfl (fun hb => ?_) (fun hb => ?_)
  · refine RunC.seq (RunC.region (OpS.valNil rfl ?_))
    refine RunC.ret ?_
    exact ⟨.inr rfl, _, _, rfl, HLe.refl _, _, _, rfl, .e, fun id b hb => by simp at hb⟩
  · refine RunC.skip ?_
    refine (cw_sound _ _ _ (doneK Try.prog [.tmp 2] (ownIQ [])) ?_).mono fun e st ⟨h1, v, h2, H', h3, h4⟩ => ⟨h1, v, H', h2, h3, h4⟩
    simp only [List.length_cons, List.length_nil, Nat.reduceAdd, Nat.reduceSub, List.replicate, List.cons_append, List.nil_append]
    simp (maxSteps := 1000000) (disch := omega) only [go_sem, Nat.reduceAdd, Nat.reduceMul, Nat.reduceSub, Nat.reduceEqDiff, Nat.reduceLeDiff]
    intro g
    show lessQ [some ⟨g, 1, []⟩] (ownIQ []) (.c (.own 0 g 0 0 none))
    exact ⟨_, HLe.refl _, _, _, rfl, .o 0 g none [] [] (look_of (b := ⟨g, 1, []⟩) rfl), scalH_ints (xs := []) (fun id b hb => by simp at hb)⟩
theorem Clone_own (xs : List Int) (hx : xs.length ≤ 2 ^ 40) : RunCall Try.prog 112 [ints xs] [] (ownIQ xs) := by
  by_cases h : xs = []
  · subst h; exact Clone_e
  · exact Clone_ne xs hx h
end Go.Lg

set_option linter.unusedSimpArgs false
set_option linter.unusedVariables false
set_option maxRecDepth 100000
namespace Go.Lg
open Go.Proofs
section
variable {P : Program} {ops : Array Oper} {o : Oper} {s : List AV} {H : Heap} {K : KV} {fo : Operand} {xs : Array Operand} {ts : Array TypeId} {f : FuncId} {args args' : List AV} {zs : List Int}
theorem Loud.mkI (hc : RunCall P f args [] (ownIQ zs)) (he : Enters P f) (ho : o.op = .call ⟨.value fo, xs, ts⟩) (ha : callArgs ⟨s, H⟩ fo xs = some (f, args)) (hf : args.all frozenA = true)
    (hk : ∀ c H' S, OwnI (H ++ H') c zs S → (∀ i ∈ S, H.length ≤ i ∧ i < H.length + H'.length) → K (.c c) (H ++ H')) : Loud P ops o s H K :=
  Loud.call ho ha fun s' ha' => OpS.mkI hc he ho ha' hf hk
end
theorem look_mid {H H3 : Heap} {g sz : Nat} {cs : List CV} : look (H ++ [some ⟨g, sz, cs⟩] ++ H3) H.length g = some ⟨g, sz, cs⟩ := look_of (b := ⟨g, sz, cs⟩) (by simp)
theorem set_mid {H H3 : Heap} {x y : Option Blk} : (H ++ [x] ++ H3).set H.length y = H ++ [y] ++ H3 := by
  rw [List.append_assoc, List.append_assoc, List.set_append_right _ _ (Nat.le_refl _), Nat.sub_self]; rfl
theorem look_set_ne {H : Heap} {id j g : Nat} {x : Option Blk} (h : id ≠ j) : look (H.set id x) j g = look H j g := by
  unfold look; rw [List.getElem?_set_ne h]
structure CpI (B : Heap) (j g : Nat) (size : Int) (given : List Int) (c r : CV) (l : List RO) (S I : List Nat) : Prop where
  out : look B j g = some ⟨g, 3, [.f (.int .i64 size), c, r]⟩
  rl : (l = [] ∧ r = .f .nil ∧ I = S) ∨ ∃ id g', r = .own id g' 0 l.length none ∧ look B id g' = some ⟨g', 3, kl kR l⟩ ∧ I = S ++ id :: l.flatMap (·.i)
  cells : ∀ o ∈ l, OwnI B o.c o.r.cells o.i
  giv : OwnI B c given S
  nd : I.Nodup
  lt : ∀ x ∈ I, 2 ≤ x ∧ x < B.length ∧ x ≠ j
theorem CpI.next {B B3 : Heap} {j g : Nat} {size : Int} {given : List Int} {c r : CV} {l : List RO} {S I : List Nat} (hC : CpI B j g size given c r l S I) (o : RO) {id g' : Nat}
    (hI : (l = [] ∧ I = S ∧ B.length ≤ id) ∨ I = S ++ id :: l.flatMap (·.i)) (hs : ∀ k ∈ I, k ≠ id → B3[k]? = B[k]?) (hlen : B.length ≤ B3.length)
    (hout : look B3 j g = some ⟨g, 3, [.f (.int .i64 size), c, .own id g' 0 (l.length + 1) none]⟩) (hid : look B3 id g' = some ⟨g', 3, kl kR (l ++ [o])⟩)
    (ho : OwnI B3 o.c o.r.cells o.i) (hoi : ∀ k ∈ o.i, B.length ≤ k ∧ k < B3.length ∧ k ≠ id ∧ k ≠ j) (hi : 2 ≤ id ∧ id < B3.length ∧ id ≠ j) (h2 : 2 ≤ B.length) :
    CpI B3 j g size given c (.own id g' 0 (l.length + 1) none) (l ++ [o]) S (S ++ id :: (l ++ [o]).flatMap (·.i)) := by
  have hJ : (S ++ id :: l.flatMap (·.i)).Nodup ∧ (∀ x ∈ S ++ l.flatMap (·.i), x ∈ I) ∧ (∀ x ∈ S ++ l.flatMap (·.i), x ≠ id) := by
    rcases hI with ⟨rfl, rfl, hb⟩ | rfl
    · have hne : ∀ x ∈ I, x ≠ id := fun x hx => by have := hC.lt x hx; omega
      refine ⟨?_, by simp, by simpa using hne⟩
      simp only [List.flatMap_nil]
      rw [List.nodup_append]
      exact ⟨hC.nd, by simp, fun a ha b hb => by simp at hb; subst hb; exact hne a ha⟩
    · have hn := hC.nd
      refine ⟨hn, fun x hx => ?_, fun x hx he => ?_⟩
      · simp only [List.mem_append, List.mem_cons] at hx ⊢
        rcases hx with hx | hx
        · exact .inl hx
        · exact .inr (.inr hx)
      · subst he
        rw [List.nodup_append] at hn
        obtain ⟨n1, n2, n3⟩ := hn
        rcases List.mem_append.1 hx with hx | hx
        · exact n3 x hx x (by simp) rfl
        · exact (List.nodup_cons.1 n2).1 hx
  obtain ⟨hn, hin, hne⟩ := hJ
  have hmem : ∀ x ∈ S ++ id :: (l ++ [o]).flatMap (·.i), x ∈ S ++ l.flatMap (·.i) ∨ x = id ∨ x ∈ o.i := fun x hx => by
    simp only [List.flatMap_append, List.flatMap_cons, List.flatMap_nil, List.append_nil, List.mem_append, List.mem_cons] at hx ⊢
    rcases hx with hx | rfl | hx | hx
    · exact .inl (.inl hx)
    · exact .inr (.inl rfl)
    · exact .inl (.inr hx)
    · exact .inr (.inr hx)
  refine ⟨hout, .inr ⟨id, g', by simp, hid, rfl⟩, fun o' ho' => ?_, ?_, ?_, fun x hx => ?_⟩
  · rcases List.mem_append.1 ho' with ho' | ho'
    · refine (hC.cells o' ho').same fun k hk => ?_
      have : k ∈ S ++ l.flatMap (·.i) := List.mem_append.2 (.inr (List.mem_flatMap.2 ⟨o', ho', hk⟩))
      exact hs k (hin k this) (hne k this)
    · simp at ho'; subst ho'; exact ho
  · refine hC.giv.same fun k hk => ?_
    have : k ∈ S ++ l.flatMap (·.i) := List.mem_append.2 (.inl hk)
    exact hs k (hin k this) (hne k this)
  · have e : S ++ id :: (l ++ [o]).flatMap (·.i) = (S ++ id :: l.flatMap (·.i)) ++ o.i := by simp
    rw [e, List.nodup_append]
    refine ⟨hn, ho.nd, fun a ha b hb he => ?_⟩
    subst he
    have h4 := hoi a hb
    have : a ∈ S ++ l.flatMap (·.i) := by
      simp only [List.mem_append, List.mem_cons] at ha ⊢
      rcases ha with ha | ha | ha
      · exact .inl ha
      · exact absurd ha h4.2.2.1
      · exact .inr ha
    have := hC.lt a (hin a this)
    omega
  · rcases hmem x hx with hx | rfl | hx
    · have := hC.lt x (hin x hx); omega
    · exact hi
    · have := hoi x hx; omega
def limN : CV → Prop
  | .own _ _ _ _ lim => lim = none
  | .f .nil => True
  | _ => False
def puzQ1 (p : Puz) : KV := fun v H => ∃ c r S1 S2, v = .agg [.f (.int .i64 p.size), c, r] ∧ OwnI H c p.given S1 ∧ ((r = .f .nil ∧ p.rules = [] ∧ S2 = []) ∨ OwnR H r p.rules S2) ∧ (S1 ++ S2).Nodup ∧ limN r
theorem CpI.done {B B' : Heap} {j g : Nat} {p : Puz} {c r : CV} {l : List RO} {S I : List Nat} (hC : CpI B j g p.size p.given c r l S I) (hm : l.map (·.r) = p.rules) (hs : ∀ k ∈ I, B'[k]? = B[k]?) :
    puzQ1 p (.agg [.f (.int .i64 p.size), c, r]) B' := by
  rcases hC.rl with ⟨rfl, rfl, rfl⟩ | ⟨id, g', rfl, hid, rfl⟩
  · exact ⟨_, _, _, [], rfl, hC.giv.same hs, .inl ⟨rfl, hm.symm, rfl⟩, by rw [List.append_nil]; exact hC.nd, trivial⟩
  · refine ⟨_, _, _, _, rfl, hC.giv.same fun k hk => hs k (List.mem_append.2 (.inl hk)), .inr ?_, hC.nd, rfl⟩
    rw [← hm]
    refine OwnR.same (.o id g' none l [] (by rw [List.append_nil]; exact hid) hC.cells ?_ (by simp)) fun k hk => hs k (List.mem_append.2 (.inr hk))
    have := hC.nd
    rw [List.nodup_append] at this
    exact this.2.1
theorem look_set_eq {H : Heap} {id g sz : Nat} {cs : List CV} (h : id < H.length) : look (H.set id (some ⟨g, sz, cs⟩)) id g = some ⟨g, sz, cs⟩ := look_of (b := ⟨g, sz, cs⟩) (by rw [List.getElem?_set_self h])
theorem copyPuzzle_own1 (p : Puz) (hx : smP p) : RunCall Try.prog 92 [aP p] [] (puzQ1 p) := by
  refine RunCall.cw (c := _) Try.func92 rfl (n := 31) Try.ntmps92 (rs := [.cell 2 37]) rfl ?_
  simp only [List.length_cons, List.length_nil, Nat.reduceAdd, Nat.reduceSub, List.replicate, List.cons_append, List.nil_append]
  simp (maxSteps := 1000000) (disch := omega) only [go_sem, Nat.reduceAdd, Nat.reduceMul, Nat.reduceSub, Nat.reduceEqDiff, Nat.reduceLeDiff]
  intro g1 g2
  refine drawP_lF [0, 1, 2, 3, 6, 4, 5] [] (some 6) [7] [] foll (by kernel_rfl) ?_
  simp (maxSteps := 1000000) (disch := omega) only [go_sem, Nat.reduceBEq, Bool.true_or, Nat.reduceAdd, Nat.reduceMul, Nat.reduceSub, Nat.reduceEqDiff, Nat.reduceLeDiff]
  refine Loud.mkI (Clone_own p.given hx.1) (⟨_, Try.func112, rfl, rfl⟩ : Enters Try.prog 112) rfl rfl rfl ?_
  intro c H1 S h1 hS
  simp (maxSteps := 1000000) (disch := omega) only [go_sem, Nat.reduceAdd, Nat.reduceMul, Nat.reduceSub, Nat.reduceEqDiff, Nat.reduceLeDiff, look_last, set_last]
  intro g
  refine loop_rule2 (fun (i : Nat) (b : Heap × CV × List RO × List Nat) => p.rules.length - i) (fun i b => i ≤ p.rules.length ∧ b.2.2.1.length = i ∧ b.2.2.1.map (·.r) = p.rules.take i ∧ look b.1 1 g2 = some ⟨g2, 3, [.f (.int .i64 0), .f .nil, .f .nil]⟩ ∧ CpI b.1 (H1.length + 1 + 1) g p.size p.given c b.2.1 b.2.2.1 S b.2.2.2)
    (fun i _ => [.a, .a, .k, .k, .a, .a, .a, .a, .a, .a, .a, .a, .a, .k, .k, .p (int i), .a, .a, .a, .a, .a, .a, .a, .a, .a, .a, .a, .a, .a, .a, .a]) (fun i b => b.1) 0 (some ⟨g1, 1, cP p⟩ :: some ⟨g2, 3, [.f (.int .i64 0), .f .nil, .f .nil]⟩ :: (H1 ++ [some ⟨g, 3, [.f (.int .i64 p.size), c, .f .nil]⟩]), .f .nil, [], S)
    ⟨Nat.zero_le _, rfl, rfl, look_of (b := ⟨g2, 3, [.f (.int .i64 0), .f .nil, .f .nil]⟩) rfl, ?_⟩ (by simp (maxSteps := 1000000) (disch := omega) only [go_sem, Nat.reduceAdd, Nat.reduceMul, Nat.reduceSub, Nat.reduceEqDiff, Nat.reduceLeDiff]; rfl) (HLe.refl _) ?_
  · refine ⟨look_of (b := ⟨g, 3, [.f (.int .i64 p.size), c, .f .nil]⟩) (by simp), .inl ⟨rfl, rfl, rfl⟩, by simp, h1.app, h1.nd, fun x hx => ?_⟩
    have := hS x hx
    simp only [List.length_append, List.length_cons, List.length_nil] at this ⊢
    omega
  rintro i ⟨B, r, l, I⟩ ⟨hi, hl, hm, h1, hC⟩
  simp only at hl hm h1 hC ⊢
  have hj2 : 2 ≤ H1.length + 1 + 1 := by omega
  generalize H1.length + 1 + 1 = j at hC hj2 ⊢
  simp (maxSteps := 1000000) (disch := omega) only [go_sem, Nat.reduceAdd, Nat.reduceMul, Nat.reduceSub, Nat.reduceEqDiff, Nat.reduceLeDiff]
  (first | with_reducible refine condK_dec (fun h => ?_) (fun h => ?_) | with_reducible refine condK_ndec (fun h => ?_) (fun h => ?_) | with_reducible refine condK_nb (fun h => ?_) (fun h => ?_) | refine condK_b (fun h => ?_) (fun h => ?_))
  · have h : i < p.rules.length := by omega
    simp (maxSteps := 1000000) (disch := omega) only [go_sem, Nat.reduceAdd, Nat.reduceMul, Nat.reduceSub, Nat.reduceEqDiff, Nat.reduceLeDiff, look_last, set_last]
    intro g3
    refine OpS.mkI (Clone_own (nth p.rules i).cells (hx.2.2 _ (nth_mem h))) (⟨_, Try.func112, rfl, rfl⟩ : Enters Try.prog 112) rfl rfl rfl ?_
    intro c3 H3 S3 h3 hS3
    simp (maxSteps := 1000000) (disch := omega) only [go_sem, Nat.reduceAdd, Nat.reduceMul, Nat.reduceSub, Nat.reduceEqDiff, Nat.reduceLeDiff, look_mid, set_mid]
    generalize hB2 : B ++ [some ⟨g3, 3, [.f (.int .i64 (nth p.rules i).kind), c3, .f (.int .i64 (nth p.rules i).val)]⟩] ++ H3 = B2
    have hap : ∃ X, B2 = B ++ X := ⟨_, by rw [← hB2, List.append_assoc]⟩
    have hlB : B.length < B2.length := by rw [← hB2]; simp
    have hR : look B2 B.length g3 = some ⟨g3, 3, [.f (.int .i64 (nth p.rules i).kind), c3, .f (.int .i64 (nth p.rules i).val)]⟩ := by rw [← hB2]; exact look_mid
    have hB : ∀ {k g' : Nat} {b : Blk}, look B k g' = some b → look B2 k g' = some b := fun h => by obtain ⟨X, rfl⟩ := hap; exact look_appL h
    have h4 : OwnI B2 c3 (nth p.rules i).cells S3 := by
      refine h3.same fun k hk => ?_
      have := hS3 k hk
      simp only [List.length_append, List.length_cons, List.length_nil] at this
      rw [← hB2]
      simp only [List.append_assoc, List.cons_append, List.nil_append]
      rw [List.getElem?_append_right (by omega), List.getElem?_append_right (by omega), List.getElem?_cons, List.getElem?_cons]
      rw [if_neg (by omega), if_neg (by omega)]
    have hS4 : ∀ k ∈ S3, B.length + 1 ≤ k ∧ k < B2.length := fun k hk => by
      have := hS3 k hk
      rw [← hB2]
      simp only [List.length_append, List.length_cons, List.length_nil] at this ⊢
      omega
    have hpl : p.rules.length ≤ 2 ^ 40 := hx.2.1
    have hk1 : ∀ k, k < B.length → B2[k]? = B[k]? := fun k hk => by obtain ⟨X, rfl⟩ := hap; exact List.getElem?_append_left hk
    have hlen : 1 < B.length := (List.getElem?_eq_some_iff.1 (look_some h1).1).1
    have hjl : j < B.length := (List.getElem?_eq_some_iff.1 (look_some hC.out).1).1
    have h12 := hB h1
    have hj := hB hC.out
    clear hB2 h3 hS3
    rcases hC.rl with ⟨rfl, rfl, rfl⟩ | ⟨id, g', rfl, hid, rfl⟩
    · have hj5 : ∀ X, look (B2 ++ X) j g = some ⟨g, 3, [.f (.int .i64 p.size), c, .f .nil]⟩ := fun X => look_appL hj
      have hj6 : ∀ X Y, look (B2 ++ X ++ Y) j g = some ⟨g, 3, [.f (.int .i64 p.size), c, .f .nil]⟩ := fun X Y => look_appL (look_appL hj)
      simp (maxSteps := 1000000) (disch := omega) only [go_sem, Nat.reduceAdd, Nat.reduceMul, Nat.reduceSub, Nat.reduceEqDiff, Nat.reduceLeDiff, hR, hj, hj5, hj6, look_last, set_last]
      intro g4 g5
      refine ⟨i + 1, (_, .own (B2.length + 1) g5 0 1 none, [] ++ [⟨nth p.rules i, c3, S3⟩], _), ⟨⟨h, by simp at hl ⊢; omega, by rw [List.map_append, hm, take_succ_nth h]; rfl, ?_, CpI.next (id := B2.length + 1) (g' := g5) hC ⟨nth p.rules i, c3, S3⟩ (.inl ⟨rfl, rfl, by omega⟩) (fun k hk hki => ?_) ?_ ?_ ?_ (h4.same fun k hk => ?_) (fun k hk => ?_) ?_ hlen⟩, by omega⟩, by omega, HLe.refl _⟩
      · rw [look_set_ne (by omega)]; exact look_appL (look_appL h12)
      · have := hC.lt k hk
        rw [List.getElem?_set_ne (by omega), List.getElem?_append_left (by simp; omega), List.getElem?_append_left (by omega), hk1 k (by omega)]
      · simp; omega
      · exact look_set_eq (by simp; omega)
      · rw [look_set_ne (by omega)]
        exact look_of (b := ⟨g5, 3, [.f (.int .i64 (nth p.rules i).kind), c3, .f (.int .i64 (nth p.rules i).val)]⟩) (by simp)
      · have := hS4 k hk
        rw [List.getElem?_set_ne (by omega), List.getElem?_append_left (by simp; omega), List.getElem?_append_left (by omega)]
      · have := hS4 k hk
        simp only [List.length_set, List.length_append, List.length_cons, List.length_nil]
        omega
      · simp only [List.length_set, List.length_append, List.length_cons, List.length_nil]
        omega
    · have hid := hB hid
      have hne := hC.lt id (by simp)
      have hj5 : ∀ X, look (B2 ++ X) j g = some ⟨g, 3, [.f (.int .i64 p.size), c, .own id g' 0 l.length none]⟩ := fun X => look_appL hj
      have hid5 : ∀ X, look (B2 ++ X) id g' = some ⟨g', 3, kl kR l⟩ := fun X => look_appL hid
      have hnj : id ≠ j := hne.2.2
      have hll : l.length ≤ 2 ^ 40 := by have := hx.2.1; omega
      simp (maxSteps := 1000000) (disch := omega) only [go_sem, Nat.reduceAdd, Nat.reduceMul, Nat.reduceSub, Nat.reduceEqDiff, Nat.reduceLeDiff, hR, hj, hj5, hid5, look_last, set_last, kl_length, look_set_ne hnj]
      intro g4 g5
      refine ⟨i + 1, (_, .own id g5 0 (l.length + 1) none, l ++ [⟨nth p.rules i, c3, S3⟩], _), ⟨⟨h, by simp [hl], by rw [List.map_append, hm, take_succ_nth h]; rfl, ?_, CpI.next (id := id) (g' := g5) hC ⟨nth p.rules i, c3, S3⟩ (.inr rfl) (fun k hk hki => ?_) ?_ ?_ ?_ (h4.same fun k hk => ?_) (fun k hk => ?_) ?_ hlen⟩, by omega⟩, by omega, HLe.refl _⟩
      · rw [look_set_ne (by omega), look_set_ne (by omega)]; exact look_appL h12
      · have := hC.lt k hk
        rw [List.getElem?_set_ne (by omega), List.getElem?_set_ne (by omega), List.getElem?_append_left (by omega), hk1 k (by omega)]
      · simp; omega
      · exact look_set_eq (by simp; omega)
      · rw [look_set_ne (by omega), look_set_eq (by simp; omega), kl_append]
        rfl
      · have := hS4 k hk
        rw [List.getElem?_set_ne (by omega), List.getElem?_set_ne (by omega), List.getElem?_append_left (by omega)]
      · have := hS4 k hk
        simp only [List.length_set, List.length_append, List.length_cons, List.length_nil]
        omega
      · simp only [List.length_set, List.length_append, List.length_cons, List.length_nil]
        omega
  · have hout := hC.out
    have hlen : 1 < B.length := by
      obtain ⟨hh, _⟩ := look_some h1
      exact (List.getElem?_eq_some_iff.1 hh).1
    simp (maxSteps := 1000000) (disch := omega) only [go_sem, Nat.reduceAdd, Nat.reduceMul, Nat.reduceSub, Nat.reduceEqDiff, Nat.reduceLeDiff, hout, h1, look_set_eq hlen]
    have hi' : i = p.rules.length := by omega
    subst hi'
    rw [List.take_length] at hm
    refine ⟨_, HLe.refl _, hC.done hm fun k hk => ?_⟩
    have := hC.lt k hk
    exact List.getElem?_set_ne (by omega)
end Go.Lg
