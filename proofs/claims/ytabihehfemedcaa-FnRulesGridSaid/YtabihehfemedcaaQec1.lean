/- GpDF, GpDG, GpDH, GpDJ, GpGB, GpGC, GpGD, cut to what is needed. -/
import Derived.Test.YtabihehfemedcaaQec0
import Derived.Test.YtabihehfemedcaaQeb9
import Derived.Test.YtabihehfemedcaaQeb5
set_option linter.unusedSimpArgs false
set_option linter.unusedVariables false
set_option maxRecDepth 100000
namespace Go.Lg
open Go.Proofs
structure PuzN (p : Puz) (n : Nat) : Prop where
  hn : n = 2 ∨ n = 3 ∨ n = 4
  size : p.size = n
  len : p.given.length = n * n
  rl : p.rules.length ≤ 40
  rv : ∀ r ∈ p.rules, ruleValid r n = true
theorem PuzN.of {p : Puz} (h : puzzleValid p = true) : PuzN p p.size.toNat ∧ ((p.size.toNat : Nat) : Int) = p.size := by
  simp only [puzzleValid, Bool.and_eq_true, decide_eq_true_eq, List.all_eq_true] at h
  obtain ⟨h1, h2, h3⟩ := h
  have hb := gridValid_bound h1
  have hs : ((p.size.toNat : Nat) : Int) = p.size := by omega
  have hn : p.size.toNat = 2 ∨ p.size.toNat = 3 ∨ p.size.toNat = 4 := by omega
  refine ⟨⟨hn, hs.symm, ?_, by omega, fun r hr => by rw [hs]; exact h3 r hr⟩, hs⟩
  have := hb.2.2.1
  rw [← hs] at this
  exact_mod_cast this
structure GrdN (xs : List Int) (n : Nat) : Prop where
  len : xs.length = n * n
  val : ∀ k : Nat, k < xs.length → 0 ≤ nth xs k ∧ nth xs k ≤ n
theorem GrdN.valid {xs : List Int} {n : Nat} (hn : n = 2 ∨ n = 3 ∨ n = 4) (h : GrdN xs n) : gridValid xs n = true := by
  simp only [gridValid, decide_eq_true_eq]
  refine ⟨by omega, by omega, by rw [h.len]; push_cast; rfl, h.val⟩
theorem GrdN.of {xs : List Int} {n : Nat} (hn : n = 2 ∨ n = 3 ∨ n = 4) (h : gridValid xs n = true) : GrdN xs n := by
  have hb := gridValid_bound h
  exact ⟨by have := hb.2.2.1; rcases hn with rfl | rfl | rfl <;> omega, hb.2.2.2.2⟩
end Go.Lg

set_option linter.unusedSimpArgs false
set_option linter.unusedVariables false
set_option maxRecDepth 100000
namespace Go.Lg
open Go.Proofs
structure OutL (H : Heap) (pid pg : Nat) (ls : List (List Int)) (S : List Nat) : Prop where
  ex : ∃ oid og cs, look H pid pg = some ⟨pg, 1, [.own oid og 0 ls.length none]⟩ ∧ look H oid og = some ⟨og, 1, cs⟩ ∧ oid ∈ S ∧ cs.length = ls.length ∧ ∀ i (h : i < ls.length), ∃ id g, cs[i]? = some (.own id g 0 ls[i].length none) ∧ look H id g = some ⟨g, 1, cl (eI .i64) ls[i]⟩ ∧ id ∈ S ∧ id ≠ oid
  pn : pid ∉ S
theorem OutL.same {H H' : Heap} {pid pg : Nat} {ls : List (List Int)} {S : List Nat} (h : OutL H pid pg ls S) (hs : ∀ i, i = pid ∨ i ∈ S → H'[i]? = H[i]?) : OutL H' pid pg ls S := by
  obtain ⟨⟨oid, og, cs, h1, h2, h3, h4, h5⟩, hn⟩ := h
  refine ⟨⟨oid, og, cs, by unfold look at *; rw [hs pid (.inl rfl)]; exact h1, by unfold look at *; rw [hs oid (.inr h3)]; exact h2, h3, h4, fun i hi => ?_⟩, hn⟩
  obtain ⟨id, g, k1, k2, k3, k4⟩ := h5 i hi
  exact ⟨id, g, k1, by unfold look at *; rw [hs id (.inr k3)]; exact k2, k3, k4⟩
end Go.Lg

set_option linter.unusedSimpArgs false
set_option linter.unusedVariables false
set_option maxRecDepth 100000
namespace Go.Lg
open Go.Proofs
attribute [-go_sem] appendM lwF_cons
def vals (n v : Nat) : List Nat := ((List.range n).map (· + 1)).drop (v - 1)
end Go.Lg

set_option linter.unusedSimpArgs false
set_option linter.unusedVariables false
set_option maxRecDepth 100000
namespace Go.Lg
open Go.Proofs
theorem mapM_of {α β : Type} {f : α → Option β} : ∀ (l : List α) (r : List β), l.length = r.length → (∀ i (h : i < l.length) (h' : i < r.length), f l[i] = some r[i]) → l.mapM f = some r
  | [], [], _, _ => rfl
  | [], _ :: _, h, _ => by simp at h
  | _ :: _, [], h, _ => by simp at h
  | a :: l, b :: r, hl, h => by
    have h0 := h 0 (by simp) (by simp)
    have ih := mapM_of l r (by simpa using hl) fun i h1 h2 => h (i + 1) (by simpa using h1) (by simpa using h2)
    simp only [List.getElem_cons_zero] at h0
    simp only [List.mapM_cons, h0, ih, Option.pure_def, Option.bind_eq_bind, Option.bind_some]
theorem OutL.frz {H : Heap} {pid pg : Nat} {ls : List (List Int)} {S : List Nat} (h : OutL H pid pg ls S) : ∃ oid og, look H pid pg = some ⟨pg, 1, [.own oid og 0 ls.length none]⟩ ∧ frzC H (.own oid og 0 ls.length none) = some (.f (fsl eL ls)) := by
  obtain ⟨⟨oid, og, cs, h1, h2, h3, h4, h5⟩, _⟩ := h
  refine ⟨oid, og, h1, ?_⟩
  have hm : cs.mapM (Lg.frz H 5) = some (ls.map fints) := by
    refine mapM_of _ _ (by simp [h4]) fun i hi hi' => ?_
    have hil : i < ls.length := by omega
    obtain ⟨id, g, k1, k2, k3, k4⟩ := h5 i hil
    have e : cs[i] = .own id g 0 ls[i].length none := by
      rw [List.getElem?_eq_getElem hi] at k1
      exact Option.some.inj k1
    rw [e, List.getElem_map]
    exact (OwnI.o (H := H) id g none ls[i] [] (by rw [List.append_nil]; exact k2)).frz 4
  have et : (cs.drop 0).take (ls.length * 1) = cs := by rw [List.drop_zero, List.take_of_length_le (by omega)]
  have ef : ls.map fints = fl eL ls := by
    have : ∀ l : List (List Int), l.map fints = fl eL l := fun l => by
      induction l with
      | nil => rfl
      | cons x l ih => simp only [List.map_cons, ih, fl, List.flatMap_cons, eL, List.cons_append, List.nil_append]
    exact this ls
  simp only [frzC, Lg.frz, h2, et, hm, Option.map_some, ef]
end Go.Lg

set_option linter.unusedSimpArgs false
set_option linter.unusedVariables false
set_option maxRecDepth 100000
namespace Go.Lg
open Go.Proofs
attribute [-go_sem] appendM lwF_cons
structure RlI (H HI : Heap) (id g : Nat) (B : Int) (m g8 g2 : Nat) (ys : List Int) : Prop where
  out : look HI H.length g8 = some ⟨g8, 3, [.f (.int .i64 0), .f .nil, .f (.int .i64 0)]⟩
  cells : look HI (H.length + 1) g2 = some ⟨g2, 1, cl (eI .i64) ys⟩
  l1 : 1 ≤ ys.length
  l4 : ys.length ≤ 4
  val : ∀ k : Nat, k < ys.length → 0 ≤ nth ys k ∧ nth ys k < (m : Int) * m
  rd : RdAt HI id g B
  lt : id < H.length
  ln : H.length + 2 ≤ HI.length
  frm : ∀ k, k < H.length → k ≠ id → HI[k]? = H[k]?
section
variable {H HI H2 : Heap} {id g m g8 g2 : Nat} {B B' : Int} {ys : List Int}
theorem RlI.mono (h : RlI H HI id g B m g8 g2 ys) (hb : B ≤ B') : RlI H HI id g B' m g8 g2 ys := { h with rd := h.rd.mono hb }
theorem RlI.pick (h : RlI H HI id g B m g8 g2 ys) (hr : RdAt H2 id g B') (hf : Frm HI H2 [id]) : RlI H H2 id g B' m g8 g2 ys :=
  { out := by rw [hf.look (by have := h.lt; simp; omega)]; exact h.out
    cells := by rw [hf.look (by have := h.lt; simp; omega)]; exact h.cells
    l1 := h.l1, l4 := h.l4, val := h.val, rd := hr, lt := h.lt, ln := by rw [hf.1]; exact h.ln
    frm := fun k hk hn => by rw [hf.2 k (by simpa using hn)]; exact h.frm k hk hn }
theorem RlI.app {X : Heap} (h : RlI H HI id g B m g8 g2 ys) : RlI H (HI ++ X) id g B m g8 g2 ys :=
  { out := look_appL h.out, cells := look_appL h.cells, l1 := h.l1, l4 := h.l4, val := h.val, rd := h.rd.app, lt := h.lt
    ln := by have := h.ln; rw [List.length_append]; omega
    frm := fun k hk hn => by rw [List.getElem?_append_left (by have := h.ln; omega)]; exact h.frm k hk hn }
theorem RlI.set (h : RlI H HI id g B m g8 g2 ys) {g' : Nat} {zs : List Int} (h1 : 1 ≤ zs.length) (h4 : zs.length ≤ 4) (hv : ∀ k : Nat, k < zs.length → 0 ≤ nth zs k ∧ nth zs k < (m : Int) * m) : RlI H (HI.set (H.length + 1) (some ⟨g', 1, cl (eI .i64) zs⟩)) id g B m g8 g' zs := by
  have hl := h.ln
  have ht := h.lt
  exact { out := by rw [look_set_ne' (by omega)]; exact h.out
          cells := look_set_eq' (by omega)
          l1 := h1, l4 := h4, val := hv
          rd := h.rd.same (by rw [List.getElem?_set_ne (by omega)])
          lt := ht, ln := by rw [List.length_set]; exact hl
          frm := fun k hk hn => by rw [List.getElem?_set_ne (by omega)]; exact h.frm k hk hn }
end
def CellO (H HE : Heap) (J : Nat) (c : CV) (xs : List Int) : Prop := c = .f (fints xs) ∨ ∃ (i g k : Nat) (ys : List Int), c = .own i g 0 k none ∧ look HE i g = some ⟨g, 1, cl (eI .i64) ys⟩ ∧ k ≤ ys.length ∧ xs = ys.take k ∧ H.length < i ∧ i ≠ J
theorem CellO.same {H HE HE' : Heap} {J : Nat} {c : CV} {xs : List Int} (h : CellO H HE J c xs) (hs : ∀ i, H.length < i → i ≠ J → i < HE.length → HE'[i]? = HE[i]?) : CellO H HE' J c xs := by
  rcases h with h | ⟨i, g, k, ys, h1, h2, h3, h4, h5, h6⟩
  · exact .inl h
  · exact .inr ⟨i, g, k, ys, h1, by unfold look at *; rw [hs i h5 h6 (List.getElem?_eq_some_iff.1 (look_some h2).1).1]; exact h2, h3, h4, h5, h6⟩
theorem CellO.elems {H HE : Heap} {J : Nat} {c : CV} {xs : List Int} (h : CellO H HE J c xs) : elems HE 1 (.c c) = some (xs.length, cl (eI .i64) xs) := by
  rcases h with rfl | ⟨i, g, k, ys, rfl, h2, h3, rfl, h5, h6⟩
  · exact elems_f (E := eI .i64) (ys := xs)
  · have e : (cl (eI .i64) ys).take (k * 1) = cl (eI .i64) (ys.take k) := by
      rw [Nat.mul_one]
      have := List.take_append_drop k ys
      conv => lhs; rw [← this, cl_append]
      rw [List.take_append_of_le_length (by rw [cl_length]; simp; omega), List.take_of_length_le (by rw [cl_length]; simp; omega)]
    simp only [Lg.elems, h2, if_true, List.drop_zero, e, List.length_take, Nat.min_eq_left h3]
theorem CellO.frz {H HE : Heap} {J : Nat} {c : CV} {xs : List Int} (h : CellO H HE J c xs) : frzS (tailS H.length) HE 6 c = some (fints xs) := by
  rcases h with rfl | ⟨i, g, k, ys, rfl, h2, h3, rfl, h5, h6⟩
  · show some (nzF (fints xs)) = _
    rw [fints, nzF_sl, nzF_ints]
  · have := frzS_view (S := tailS H.length) (lim := none) (n := k) (off := 0) h2 (by simp [tailS]; omega) (by omega) 5
    rw [List.drop_zero] at this
    exact this
structure RuO (H HE : Heap) (id g : Nat) (B : Int) (N g8 J g18 : Nat) (xs : List Int) : Prop where
  out : look HE H.length g8 = some ⟨g8, 3, [.f (.int .i64 0), .f .nil, .f (.int .i64 0)]⟩
  ex : ∃ a b c, look HE J g18 = some ⟨g18, 3, [.f (.int .i64 a), c, .f (.int .i64 b)]⟩ ∧ CellO H HE J c xs
  l1 : 1 ≤ xs.length
  l5 : xs.length ≤ N
  rd : RdAt HE id g B
  lt : id < H.length
  ln : H.length < J ∧ J < HE.length
  frm : ∀ k, k < H.length → k ≠ id → HE[k]? = H[k]?
section
variable {H HE H2 : Heap} {id g N g8 J g18 : Nat} {B B' : Int} {xs : List Int}
theorem RuO.mono (h : RuO H HE id g B N g8 J g18 xs) (hb : B ≤ B') : RuO H HE id g B' N g8 J g18 xs := { h with rd := h.rd.mono hb }
theorem RuO.pick (h : RuO H HE id g B N g8 J g18 xs) (hr : RdAt H2 id g B') (hf : Frm HE H2 [id]) : RuO H H2 id g B' N g8 J g18 xs := by
  have hl := h.lt
  have hn := h.ln
  obtain ⟨a, b, c, h1, h2⟩ := h.ex
  exact { out := by rw [hf.look (by simp; omega)]; exact h.out
          ex := ⟨a, b, c, by rw [hf.look (by simp; omega)]; exact h1, h2.same fun i hi _ _ => hf.2 i (by simp; omega)⟩
          l1 := h.l1, l5 := h.l5, rd := hr, lt := hl, ln := ⟨hn.1, by rw [hf.1]; exact hn.2⟩
          frm := fun k hk hn => by rw [hf.2 k (by simpa using hn)]; exact h.frm k hk hn }
theorem RuO.app {X : Heap} (h : RuO H HE id g B N g8 J g18 xs) : RuO H (HE ++ X) id g B N g8 J g18 xs := by
  have hn := h.ln
  obtain ⟨a, b, c, h1, h2⟩ := h.ex
  exact { out := look_appL h.out
          ex := ⟨a, b, c, look_appL h1, h2.same fun i _ _ hi => List.getElem?_append_left hi⟩
          l1 := h.l1, l5 := h.l5, rd := h.rd.app, lt := h.lt, ln := ⟨hn.1, by rw [List.length_append]; omega⟩
          frm := fun k hk hn' => by rw [List.getElem?_append_left (by omega)]; exact h.frm k hk hn' }
theorem RuO.set (h : RuO H HE id g B N g8 J g18 xs) {a b : Int} {c : CV} {zs : List Int} (hc : CellO H HE J c zs) (h1 : 1 ≤ zs.length) (h5 : zs.length ≤ N) : RuO H (HE.set J (some ⟨g18, 3, [.f (.int .i64 a), c, .f (.int .i64 b)]⟩)) id g B N g8 J g18 zs := by
  have hn := h.ln
  have hl := h.lt
  exact { out := by rw [look_set_ne' (by omega)]; exact h.out
          ex := ⟨a, b, c, look_set_eq' hn.2, hc.same fun i _ hi _ => by rw [List.getElem?_set_ne (Ne.symm hi)]⟩
          l1 := h1, l5 := h5, rd := h.rd.same (by rw [List.getElem?_set_ne (by omega)]), lt := hl, ln := ⟨hn.1, by rw [List.length_set]; exact hn.2⟩
          frm := fun k hk hn' => by rw [List.getElem?_set_ne (by omega)]; exact h.frm k hk hn' }
theorem RuO.len (h : RuO H HE id g B N g8 J g18 xs) : H.length + 2 ≤ HE.length := by have := h.ln; omega
end
end Go.Lg

set_option linter.unusedSimpArgs false
set_option linter.unusedVariables false
set_option maxRecDepth 100000
namespace Go.Lg
open Go.Proofs
def boxL : List Int := (List.range 16).map fun (k : Nat) => (k : Int) / 8 * 2 + (k : Int) % 4 / 2
theorem boxL_len : boxL.length = 16 := by simp [boxL]
theorem boxL_nth {k : Nat} (h : k < 16) : nth boxL k = (k : Int) / 8 * 2 + (k : Int) % 4 / 2 := by
  rw [nth_eq (by rw [boxL_len]; omega)]
  simp [boxL]
def regsOk (rs : List Int) (n : Int) : Bool := decide ((∀ k : Nat, k < rs.length → 0 ≤ nth rs k ∧ nth rs k ≤ n - 1) ∧ 2 ≤ n ∧ n ≤ 4 ∧ (rs.length : Int) = n * n)
theorem sRegionsValid_run (rs : List Int) (n : Int) (hl : rs.length ≤ 2 ^ 40) (hn : -2 ^ 20 ≤ n ∧ n ≤ 2 ^ 20) : Reads Try.prog 77 [ints rs, int n] (bool (regsOk rs n)) := by
  refine RunCall.cw (c := _) Try.func77 rfl (n := 30) Try.ntmps77 (rs := [.tmp 4]) rfl ?_
  simp only [List.length_cons, List.length_nil, Nat.reduceAdd, Nat.reduceSub, List.replicate, List.cons_append, List.nil_append]
  simp (maxSteps := 1000000) (disch := omega) only [go_sem, Nat.reduceAdd, Nat.reduceMul, Nat.reduceSub, Nat.reduceEqDiff, Nat.reduceLeDiff]
  refine loop_rule (fun k : Nat => rs.length - k) (fun k => k ≤ rs.length ∧ ∀ j : Nat, j < k → 0 ≤ nth rs j ∧ nth rs j ≤ n - 1) (fun k => [.k, .k, .a, .a, .a, .p (int k), .a, .a, .a, .a, .a, .a, .a, .a, .a, .a, .a, .a, .a, .a, .a, .a, .a, .a, .a, .a, .a, .a, .a, .a]) (fun _ => []) 0 ⟨Nat.zero_le _, fun j hj => absurd hj (Nat.not_lt_zero _)⟩ (by simp (maxSteps := 1000000) (disch := omega) only [go_sem, Nat.reduceAdd, Nat.reduceMul, Nat.reduceSub, Nat.reduceEqDiff, Nat.reduceLeDiff]; rfl) (hle_nil _) ?_
  rintro k ⟨hk, hall⟩
  simp (maxSteps := 1000000) (disch := omega) only [go_sem, Nat.reduceAdd, Nat.reduceMul, Nat.reduceSub, Nat.reduceEqDiff, Nat.reduceLeDiff]
  (first | with_reducible refine condK_dec (fun c1 => ?_) (fun c1 => ?_) | with_reducible refine condK_ndec (fun c1 => ?_) (fun c1 => ?_) | with_reducible refine condK_nb (fun c1 => ?_) (fun c1 => ?_) | refine condK_b (fun c1 => ?_) (fun c1 => ?_))
  · have c1 : k < rs.length := by omega
    simp (maxSteps := 1000000) (disch := omega) only [go_sem, Nat.reduceAdd, Nat.reduceMul, Nat.reduceSub, Nat.reduceEqDiff, Nat.reduceLeDiff]
    first | refine OpS.rd (l1In_run _ _ _) (⟨_, Try.func66, rfl, rfl⟩ : Enters Try.prog 66) rfl rfl rfl rfl ?_ | refine Loud.rd (l1In_run _ _ _) (⟨_, Try.func66, rfl, rfl⟩ : Enters Try.prog 66) rfl rfl rfl rfl ?_
    simp (maxSteps := 1000000) (disch := omega) only [go_sem, Nat.reduceAdd, Nat.reduceMul, Nat.reduceSub, Nat.reduceEqDiff, Nat.reduceLeDiff]
    (first | with_reducible refine condK_dec (fun c2 => ?_) (fun c2 => ?_) | with_reducible refine condK_ndec (fun c2 => ?_) (fun c2 => ?_) | with_reducible refine condK_nb (fun c2 => ?_) (fun c2 => ?_) | refine condK_b (fun c2 => ?_) (fun c2 => ?_))
    · simp (maxSteps := 1000000) (disch := omega) only [go_sem, Nat.reduceAdd, Nat.reduceMul, Nat.reduceSub, Nat.reduceEqDiff, Nat.reduceLeDiff]
      refine ⟨k + 1, ⟨⟨by omega, fun j hj => ?_⟩, by omega⟩, by push_cast; omega, hle_nil _⟩
      by_cases hjk : j = k
      · rw [hjk]; omega
      · exact hall j (by omega)
    · simp (maxSteps := 1000000) (disch := omega) only [go_sem, Nat.reduceAdd, Nat.reduceMul, Nat.reduceSub, Nat.reduceEqDiff, Nat.reduceLeDiff]
      unfold regsOk
      rw [eq_comm, decide_eq_false_iff_not]
      exact fun h => c2 (h.1 k c1)
  · have hke : k = rs.length := by omega
    subst hke
    simp (maxSteps := 1000000) (disch := omega) only [go_sem, Nat.reduceAdd, Nat.reduceMul, Nat.reduceSub, Nat.reduceEqDiff, Nat.reduceLeDiff]
    first | refine OpS.rd (l1In_run _ _ _) (⟨_, Try.func66, rfl, rfl⟩ : Enters Try.prog 66) rfl rfl rfl rfl ?_ | refine Loud.rd (l1In_run _ _ _) (⟨_, Try.func66, rfl, rfl⟩ : Enters Try.prog 66) rfl rfl rfl rfl ?_
    simp (maxSteps := 1000000) (disch := omega) only [go_sem, Nat.reduceAdd, Nat.reduceMul, Nat.reduceSub, Nat.reduceEqDiff, Nat.reduceLeDiff]
    by_cases h2 : 2 ≤ n ∧ n ≤ 4
    · have hnn : 4 ≤ n * n ∧ n * n ≤ 16 := by
        obtain rfl | rfl | rfl : n = 2 ∨ n = 3 ∨ n = 4 := by omega
        all_goals omega
      rw [decide_eq_true h2]
      simp (maxSteps := 1000000) (disch := omega) only [go_sem, Nat.reduceAdd, Nat.reduceMul, Nat.reduceSub, Nat.reduceEqDiff, Nat.reduceLeDiff]
      unfold regsOk
      rw [decide_eq_decide]
      exact ⟨fun h => ⟨hall, h2.1, h2.2, h⟩, fun h => h.2.2.2⟩
    · rw [decide_eq_false h2]
      simp (maxSteps := 1000000) (disch := omega) only [go_sem, Nat.reduceAdd, Nat.reduceMul, Nat.reduceSub, Nat.reduceEqDiff, Nat.reduceLeDiff]
      unfold regsOk
      rw [eq_comm, decide_eq_false_iff_not]
      exact fun h => h2 ⟨h.2.1, h.2.2.1⟩
def regC (rs : List Int) (a : Int) (k : Nat) : List Int := ((List.range rs.length).take k).flatMap fun (i : Nat) => if nth rs i = a then [(i : Int)] else []
theorem regC_succ {rs : List Int} {a : Int} {k : Nat} (h : k < rs.length) : regC rs a (k + 1) = regC rs a k ++ if nth rs k = a then [(k : Int)] else [] := by
  unfold regC
  rw [List.take_succ_eq_append_getElem (by simpa using h), List.flatMap_append]
  simp
theorem regC_len (rs : List Int) (a : Int) (k : Nat) : (regC rs a k).length ≤ k := by
  unfold regC
  rw [List.length_flatMap]
  have : ∀ (l : List Nat), (l.map fun (i : Nat) => (if nth rs i = a then [(i : Int)] else []).length).sum ≤ l.length := by
    intro l
    induction l with
    | nil => simp
    | cons v l ih =>
      simp only [List.map_cons, List.sum_cons, List.length_cons]
      have : (if nth rs (v : Int) = a then [(v : Int)] else []).length ≤ 1 := by split <;> simp
      omega
  refine Nat.le_trans (this _) ?_
  rw [List.length_take, List.length_range]
  omega
def regV (rs : List Int) (n a : Int) : List Int := if regsOk rs n = true then regC rs a rs.length else []
theorem sRegionCells_run (rs : List Int) (n a : Int) (hl : rs.length ≤ 2 ^ 30) (hn : -2 ^ 20 ≤ n ∧ n ≤ 2 ^ 20) : Reads Try.prog 78 [ints rs, int n, int a] (ints (regV rs n a)) := by
  refine Reads.own ?_
  refine RunCall.cw (c := _) Try.func78 rfl (n := 32) Try.ntmps78 (rs := [.tmp 6]) rfl ?_
  simp only [List.length_cons, List.length_nil, Nat.reduceAdd, Nat.reduceSub, List.replicate, List.cons_append, List.nil_append]
  simp (maxSteps := 1000000) (disch := omega) only [go_sem, Nat.reduceAdd, Nat.reduceMul, Nat.reduceSub, Nat.reduceEqDiff, Nat.reduceLeDiff]
  intro g
  cases hv : regsOk rs n with
  | false =>
    have e : regV rs n a = [] := by unfold regV; rw [if_neg (by rw [hv]; simp)]
    rw [e]
    refine loop_rule2 (fun (k g : Nat) => rs.length - k) (fun k g => k = 0) (fun k g => [.k, .k, .k, .a, .a, .a, .a, .p (.c (.own 0 g 0 0 none)), .p (int k), .a, .a, .a, .a, .a, .a, .a, .a, .a, .a, .a, .a, .a, .a, .a, .a, .a, .a, .a, .a, .a, .a, .a]) (fun k g => [some ⟨g, 1, []⟩]) 0 g rfl (by simp (maxSteps := 1000000) (disch := omega) only [go_sem, Nat.reduceAdd, Nat.reduceMul, Nat.reduceSub, Nat.reduceEqDiff, Nat.reduceLeDiff]; rfl) (HLe.refl _) ?_
    intro k g hk
    subst hk
    simp (maxSteps := 1000000) (disch := omega) only [go_sem, Nat.reduceAdd, Nat.reduceMul, Nat.reduceSub, Nat.reduceEqDiff, Nat.reduceLeDiff]
    (first | with_reducible refine guardK_dec (fun c1 => ?_) (fun c1 => ?_) <;> simp (maxSteps := 1000000) (disch := omega) only [go_sem, Nat.reduceAdd, Nat.reduceMul, Nat.reduceSub, Nat.reduceEqDiff, Nat.reduceLeDiff, c1] | with_reducible refine guardK_ndec (fun c1 => ?_) (fun c1 => ?_) <;> simp (maxSteps := 1000000) (disch := omega) only [go_sem, Nat.reduceAdd, Nat.reduceMul, Nat.reduceSub, Nat.reduceEqDiff, Nat.reduceLeDiff, c1] | with_reducible refine guardK_nb (fun c1 => ?_) (fun c1 => ?_) <;> simp (maxSteps := 1000000) (disch := omega) only [go_sem, Nat.reduceAdd, Nat.reduceMul, Nat.reduceSub, Nat.reduceEqDiff, Nat.reduceLeDiff, c1] | with_reducible refine guardK_split (fun c1 => ?_) (fun c1 => ?_) <;> simp (maxSteps := 1000000) (disch := omega) only [go_sem, Nat.reduceAdd, Nat.reduceMul, Nat.reduceSub, Nat.reduceEqDiff, Nat.reduceLeDiff, c1] | with_reducible refine guardQ_dec (fun c1 => ?_) (fun c1 => ?_) <;> simp (maxSteps := 1000000) (disch := omega) only [go_sem, Nat.reduceAdd, Nat.reduceMul, Nat.reduceSub, Nat.reduceEqDiff, Nat.reduceLeDiff, c1] | with_reducible refine guardL_dec (fun c1 => ?_) (fun c1 => ?_) <;> simp (maxSteps := 1000000) (disch := omega) only [go_sem, Nat.reduceAdd, Nat.reduceMul, Nat.reduceSub, Nat.reduceEqDiff, Nat.reduceLeDiff, c1] | with_reducible refine guardQ_ndec (fun c1 => ?_) (fun c1 => ?_) <;> simp (maxSteps := 1000000) (disch := omega) only [go_sem, Nat.reduceAdd, Nat.reduceMul, Nat.reduceSub, Nat.reduceEqDiff, Nat.reduceLeDiff, c1] | with_reducible refine guardL_ndec (fun c1 => ?_) (fun c1 => ?_) <;> simp (maxSteps := 1000000) (disch := omega) only [go_sem, Nat.reduceAdd, Nat.reduceMul, Nat.reduceSub, Nat.reduceEqDiff, Nat.reduceLeDiff, c1] | with_reducible refine guardQ_nb (fun c1 => ?_) (fun c1 => ?_) <;> simp (maxSteps := 1000000) (disch := omega) only [go_sem, Nat.reduceAdd, Nat.reduceMul, Nat.reduceSub, Nat.reduceEqDiff, Nat.reduceLeDiff, c1] | with_reducible refine guardL_nb (fun c1 => ?_) (fun c1 => ?_) <;> simp (maxSteps := 1000000) (disch := omega) only [go_sem, Nat.reduceAdd, Nat.reduceMul, Nat.reduceSub, Nat.reduceEqDiff, Nat.reduceLeDiff, c1] | with_reducible refine guardQ_split (fun c1 => ?_) (fun c1 => ?_) <;> simp (maxSteps := 1000000) (disch := omega) only [go_sem, Nat.reduceAdd, Nat.reduceMul, Nat.reduceSub, Nat.reduceEqDiff, Nat.reduceLeDiff, c1] | with_reducible refine guardL_split (fun c1 => ?_) (fun c1 => ?_) <;> simp (maxSteps := 1000000) (disch := omega) only [go_sem, Nat.reduceAdd, Nat.reduceMul, Nat.reduceSub, Nat.reduceEqDiff, Nat.reduceLeDiff, c1])
    · first | refine OpS.rd (sRegionsValid_run rs n (by omega) hn) (⟨_, Try.func77, rfl, rfl⟩ : Enters Try.prog 77) rfl rfl rfl rfl ?_ | refine Loud.rd (sRegionsValid_run rs n (by omega) hn) (⟨_, Try.func77, rfl, rfl⟩ : Enters Try.prog 77) rfl rfl rfl rfl ?_
      simp (maxSteps := 1000000) (disch := omega) only [go_sem, Nat.reduceAdd, Nat.reduceMul, Nat.reduceSub, Nat.reduceEqDiff, Nat.reduceLeDiff]
      rw [hv]
      simp (maxSteps := 1000000) (disch := omega) only [go_sem, Nat.reduceAdd, Nat.reduceMul, Nat.reduceSub, Nat.reduceEqDiff, Nat.reduceLeDiff]
      exact lessQ_own (E := eI .i64) (n := 1) (xs := []) (HLe.refl _)
    · exact lessQ_own (E := eI .i64) (n := 1) (xs := []) (HLe.refl _)
  | true =>
    have e : regV rs n a = regC rs a rs.length := by unfold regV; rw [if_pos hv]
    rw [e]
    refine loop_rule2 (fun (k g : Nat) => rs.length - k) (fun k g => k ≤ rs.length) (fun k g => [.k, .k, .k, .a, .a, .a, .a, .p (.c (.own 0 g 0 (regC rs a k).length none)), .p (int k), .a, .a, .a, .a, .a, .a, .a, .a, .a, .a, .a, .a, .a, .a, .a, .a, .a, .a, .a, .a, .a, .a, .a]) (fun k g => [some ⟨g, 1, cl (eI .i64) (regC rs a k)⟩]) 0 g (Nat.zero_le _) (by simp (maxSteps := 1000000) (disch := omega) only [go_sem, Nat.reduceAdd, Nat.reduceMul, Nat.reduceSub, Nat.reduceEqDiff, Nat.reduceLeDiff]; simp [regC]) (HLe.refl _) ?_
    intro k g hk
    have hcl := regC_len rs a k
    simp (maxSteps := 1000000) (disch := omega) only [go_sem, Nat.reduceAdd, Nat.reduceMul, Nat.reduceSub, Nat.reduceEqDiff, Nat.reduceLeDiff]
    (first | with_reducible refine guardK_dec (fun c1 => ?_) (fun c1 => ?_) <;> simp (maxSteps := 1000000) (disch := omega) only [go_sem, Nat.reduceAdd, Nat.reduceMul, Nat.reduceSub, Nat.reduceEqDiff, Nat.reduceLeDiff, c1] | with_reducible refine guardK_ndec (fun c1 => ?_) (fun c1 => ?_) <;> simp (maxSteps := 1000000) (disch := omega) only [go_sem, Nat.reduceAdd, Nat.reduceMul, Nat.reduceSub, Nat.reduceEqDiff, Nat.reduceLeDiff, c1] | with_reducible refine guardK_nb (fun c1 => ?_) (fun c1 => ?_) <;> simp (maxSteps := 1000000) (disch := omega) only [go_sem, Nat.reduceAdd, Nat.reduceMul, Nat.reduceSub, Nat.reduceEqDiff, Nat.reduceLeDiff, c1] | with_reducible refine guardK_split (fun c1 => ?_) (fun c1 => ?_) <;> simp (maxSteps := 1000000) (disch := omega) only [go_sem, Nat.reduceAdd, Nat.reduceMul, Nat.reduceSub, Nat.reduceEqDiff, Nat.reduceLeDiff, c1] | with_reducible refine guardQ_dec (fun c1 => ?_) (fun c1 => ?_) <;> simp (maxSteps := 1000000) (disch := omega) only [go_sem, Nat.reduceAdd, Nat.reduceMul, Nat.reduceSub, Nat.reduceEqDiff, Nat.reduceLeDiff, c1] | with_reducible refine guardL_dec (fun c1 => ?_) (fun c1 => ?_) <;> simp (maxSteps := 1000000) (disch := omega) only [go_sem, Nat.reduceAdd, Nat.reduceMul, Nat.reduceSub, Nat.reduceEqDiff, Nat.reduceLeDiff, c1] | with_reducible refine guardQ_ndec (fun c1 => ?_) (fun c1 => ?_) <;> simp (maxSteps := 1000000) (disch := omega) only [go_sem, Nat.reduceAdd, Nat.reduceMul, Nat.reduceSub, Nat.reduceEqDiff, Nat.reduceLeDiff, c1] | with_reducible refine guardL_ndec (fun c1 => ?_) (fun c1 => ?_) <;> simp (maxSteps := 1000000) (disch := omega) only [go_sem, Nat.reduceAdd, Nat.reduceMul, Nat.reduceSub, Nat.reduceEqDiff, Nat.reduceLeDiff, c1] | with_reducible refine guardQ_nb (fun c1 => ?_) (fun c1 => ?_) <;> simp (maxSteps := 1000000) (disch := omega) only [go_sem, Nat.reduceAdd, Nat.reduceMul, Nat.reduceSub, Nat.reduceEqDiff, Nat.reduceLeDiff, c1] | with_reducible refine guardL_nb (fun c1 => ?_) (fun c1 => ?_) <;> simp (maxSteps := 1000000) (disch := omega) only [go_sem, Nat.reduceAdd, Nat.reduceMul, Nat.reduceSub, Nat.reduceEqDiff, Nat.reduceLeDiff, c1] | with_reducible refine guardQ_split (fun c1 => ?_) (fun c1 => ?_) <;> simp (maxSteps := 1000000) (disch := omega) only [go_sem, Nat.reduceAdd, Nat.reduceMul, Nat.reduceSub, Nat.reduceEqDiff, Nat.reduceLeDiff, c1] | with_reducible refine guardL_split (fun c1 => ?_) (fun c1 => ?_) <;> simp (maxSteps := 1000000) (disch := omega) only [go_sem, Nat.reduceAdd, Nat.reduceMul, Nat.reduceSub, Nat.reduceEqDiff, Nat.reduceLeDiff, c1])
    · have c1 : k < rs.length := by omega
      have hs := regC_succ (a := a) c1
      first | refine OpS.rd (sRegionsValid_run rs n (by omega) hn) (⟨_, Try.func77, rfl, rfl⟩ : Enters Try.prog 77) rfl rfl rfl rfl ?_ | refine Loud.rd (sRegionsValid_run rs n (by omega) hn) (⟨_, Try.func77, rfl, rfl⟩ : Enters Try.prog 77) rfl rfl rfl rfl ?_
      simp (maxSteps := 1000000) (disch := omega) only [go_sem, Nat.reduceAdd, Nat.reduceMul, Nat.reduceSub, Nat.reduceEqDiff, Nat.reduceLeDiff]
      rw [hv]
      simp (maxSteps := 1000000) (disch := omega) only [go_sem, Nat.reduceAdd, Nat.reduceMul, Nat.reduceSub, Nat.reduceEqDiff, Nat.reduceLeDiff]
      (first | with_reducible refine condK_dec (fun c2 => ?_) (fun c2 => ?_) | with_reducible refine condK_ndec (fun c2 => ?_) (fun c2 => ?_) | with_reducible refine condK_nb (fun c2 => ?_) (fun c2 => ?_) | refine condK_b (fun c2 => ?_) (fun c2 => ?_))
      · simp (maxSteps := 1000000) (disch := omega) only [go_sem, Nat.reduceAdd, Nat.reduceMul, Nat.reduceSub, Nat.reduceEqDiff, Nat.reduceLeDiff]
        intro g1 g2
        rw [if_pos c2] at hs
        refine ⟨k + 1, g2, ⟨by omega, by omega⟩, ⟨by rw [hs, List.length_append]; exact ⟨rfl, rfl⟩, by push_cast; omega⟩, hle_eq (by rw [hs]) (hle_nil _)⟩
      · simp (maxSteps := 1000000) (disch := omega) only [go_sem, Nat.reduceAdd, Nat.reduceMul, Nat.reduceSub, Nat.reduceEqDiff, Nat.reduceLeDiff]
        rw [if_neg c2, List.append_nil] at hs
        refine ⟨k + 1, g, ⟨by omega, by omega⟩, ⟨by rw [hs]; exact ⟨rfl, rfl⟩, by push_cast; omega⟩, by rw [hs]; exact HLe.refl _⟩
    · have hke : k = rs.length := by omega
      subst hke
      exact lessQ_own (E := eI .i64) (n := 1) (HLe.refl _)
def ruleSm (rs : List Rul) (a b : Nat) : Prop := rs.length ≤ a ∧ ∀ r ∈ rs, r.cells.length ≤ b
end Go.Lg

set_option linter.unusedSimpArgs false
set_option linter.unusedVariables false
set_option maxRecDepth 100000
namespace Go.Lg
open Go.Proofs
theorem sGridFilled_run (xs : List Int) (n : Int) (hx : xs.length ≤ 2 ^ 40) : Reads Try.prog 69 [ints xs, int n] (int (gridFilled xs n)) := by
  refine RunCall.cw (c := _) Try.func69 rfl (n := 25) Try.ntmps69 (rs := [.tmp 4]) rfl ?_
  simp only [List.length_cons, List.length_nil, Nat.reduceAdd, Nat.reduceSub, List.replicate, List.cons_append, List.nil_append]
  simp (maxSteps := 1000000) (disch := omega) only [go_sem, Nat.reduceAdd, Nat.reduceMul, Nat.reduceSub, Nat.reduceEqDiff, Nat.reduceLeDiff]
  first | refine OpS.rd (sGridValid_run xs n hx) (⟨_, Try.func53, rfl, rfl⟩ : Enters Try.prog 53) rfl rfl rfl rfl ?_ | refine Loud.rd (sGridValid_run xs n hx) (⟨_, Try.func53, rfl, rfl⟩ : Enters Try.prog 53) rfl rfl rfl rfl ?_
  simp (maxSteps := 1000000) (disch := omega) only [go_sem, Nat.reduceAdd, Nat.reduceMul, Nat.reduceSub, Nat.reduceEqDiff, Nat.reduceLeDiff]
  (first | with_reducible refine condK_dec (fun hv => ?_) (fun hv => ?_) | with_reducible refine condK_ndec (fun hv => ?_) (fun hv => ?_) | with_reducible refine condK_nb (fun hv => ?_) (fun hv => ?_) | refine condK_b (fun hv => ?_) (fun hv => ?_))
  rotate_left
  · simp (maxSteps := 1000000) (disch := omega) only [go_sem, Nat.reduceAdd, Nat.reduceMul, Nat.reduceSub, Nat.reduceEqDiff, Nat.reduceLeDiff]
    unfold gridFilled
    rw [if_neg (by rw [hv]; simp)]
  have hg : gridFilled xs n = (xs.countP fun v => decide (0 < v) : Nat) := by unfold gridFilled; rw [if_pos hv]
  rw [hg]
  simp (maxSteps := 1000000) (disch := omega) only [go_sem, Nat.reduceAdd, Nat.reduceMul, Nat.reduceSub, Nat.reduceEqDiff, Nat.reduceLeDiff]
  refine loop_rule (fun k : Nat => xs.length - k) (fun k => k ≤ xs.length) (fun k => [.k, .a, .a, .a, .a, .p (int ((xs.take k).countP fun v => decide (0 < v) : Nat)), .p (int k), .a, .a, .a, .a, .a, .a, .a, .a, .a, .a, .a, .a, .a, .a, .a, .a, .a, .a]) (fun _ => []) 0 (Nat.zero_le _) (by simp (maxSteps := 1000000) (disch := omega) only [go_sem, Nat.reduceAdd, Nat.reduceMul, Nat.reduceSub, Nat.reduceEqDiff, Nat.reduceLeDiff]; exact ⟨by simp, rfl⟩) (hle_nil _) ?_
  intro k hk
  have hc := countP_le xs (fun v => decide (0 < v)) k
  simp (maxSteps := 1000000) (disch := omega) only [go_sem, Nat.reduceAdd, Nat.reduceMul, Nat.reduceSub, Nat.reduceEqDiff, Nat.reduceLeDiff]
  (first | with_reducible refine condK_dec (fun c1 => ?_) (fun c1 => ?_) | with_reducible refine condK_ndec (fun c1 => ?_) (fun c1 => ?_) | with_reducible refine condK_nb (fun c1 => ?_) (fun c1 => ?_) | refine condK_b (fun c1 => ?_) (fun c1 => ?_))
  · have c1 : k < xs.length := by omega
    have hs := countP_take (f := fun v => decide (0 < v)) c1
    simp (maxSteps := 1000000) (disch := omega) only [go_sem, Nat.reduceAdd, Nat.reduceMul, Nat.reduceSub, Nat.reduceEqDiff, Nat.reduceLeDiff]
    (first | with_reducible refine condK_dec (fun c2 => ?_) (fun c2 => ?_) | with_reducible refine condK_ndec (fun c2 => ?_) (fun c2 => ?_) | with_reducible refine condK_nb (fun c2 => ?_) (fun c2 => ?_) | refine condK_b (fun c2 => ?_) (fun c2 => ?_))
    · rw [decide_eq_true c2, if_pos rfl] at hs
      simp (maxSteps := 1000000) (disch := omega) only [go_sem, Nat.reduceAdd, Nat.reduceMul, Nat.reduceSub, Nat.reduceEqDiff, Nat.reduceLeDiff]
      refine ⟨k + 1, ⟨by omega, by omega⟩, ⟨by rw [hs]; push_cast; omega, by push_cast; omega⟩, hle_nil _⟩
    · rw [decide_eq_false c2, if_neg (by simp)] at hs
      simp (maxSteps := 1000000) (disch := omega) only [go_sem, Nat.reduceAdd, Nat.reduceMul, Nat.reduceSub, Nat.reduceEqDiff, Nat.reduceLeDiff]
      refine ⟨k + 1, ⟨by omega, by omega⟩, ⟨by rw [hs]; rfl, by push_cast; omega⟩, hle_nil _⟩
  · have hke : k = xs.length := by omega
    simp (maxSteps := 1000000) (disch := omega) only [go_sem, Nat.reduceAdd, Nat.reduceMul, Nat.reduceSub, Nat.reduceEqDiff, Nat.reduceLeDiff]
    rw [hke, List.take_length]
attribute [-go_sem] appendM lwF_cons
theorem look_off (H L : Heap) (n g : Nat) : look (H ++ L) (H.length + n) g = look L n g := by
  unfold look
  rw [List.getElem?_append_right (by omega), Nat.add_sub_cancel_left]
theorem look_off0 (H L : Heap) (g : Nat) : look (H ++ L) H.length g = look L 0 g := look_off H L 0 g
theorem set_off (H L : Heap) (n : Nat) (x : Option Blk) : (H ++ L).set (H.length + n) x = H ++ L.set n x := by
  rw [List.set_append_right _ _ (by omega), Nat.add_sub_cancel_left]
theorem set_off0 (H L : Heap) (x : Option Blk) : (H ++ L).set H.length x = H ++ L.set 0 x := set_off H L 0 x
theorem appendM_own {α : Type} {E : α → List FV} {n : Nat} [HSz E n] {P : Program} {H : Heap} {t : TypeId} {ei : TI} {K : KV} (ht : sliceOf P t = some ei) (hz : ei.zero.length = ei.size ∧ ei.size = n ∧ 0 < n ∧ ei.bytes ≤ 64) {id g k : Nat} {xs ys : List α} (hxk : xs.length = k) (hl : look H id g = some ⟨g, n, cl E xs⟩) (hx : xs.length ≤ 2 ^ 40 ∧ ys.length ≤ 2 ^ 40)
    {src : AV} (hel : elems H n src = some (ys.length, cl E ys)) (hk : ∀ g', K (.c (.own id g' 0 (k + ys.length) none)) (H.set id (some ⟨g', n, cl E (xs ++ ys)⟩))) : appendM P H t (.c (.own id g 0 k none)) src K := by
  subst hxk
  obtain ⟨hz1, rfl, hz3, hz4⟩ := hz
  have hcl : (cl E xs).length = xs.length * ei.size := cl_length xs
  have hel2 : elems H ei.size (.c (.own id g 0 xs.length none)) = some (xs.length, cl E xs) := by
    simp only [elems, hl, List.drop_zero, if_true, List.take_of_length_le (Nat.le_of_eq hcl)]
  have hb : (xs.length + ys.length) * ei.bytes ≤ 140737488355328 := by
    have : (xs.length + ys.length) * ei.bytes ≤ (xs.length + ys.length) * 64 := Nat.mul_le_mul_left _ hz4
    omega
  unfold appendM
  simp only [ht, hz1, if_true, hel, hel2]
  simp only [appM, hl, hcl, if_true, okP]
  split
  · rename_i h0
    have : ys = [] := List.eq_nil_of_length_eq_zero h0
    subst this
    have h1 := hk g
    rw [List.append_nil] at h1
    have h2 : H.set id (some ⟨g, ei.size, cl E xs⟩) = H := by
      obtain ⟨q1, _⟩ := look_some hl
      have hlt := (List.getElem?_eq_some_iff.1 q1).1
      refine List.ext_getElem? fun i => ?_
      by_cases hi : i = id
      · subst hi; rw [List.getElem?_set_self hlt, q1]
      · rw [List.getElem?_set_ne (Ne.symm hi)]
    rw [h2] at h1
    exact h1
  refine ⟨⟨trivial, hz3, trivial, by omega, hb⟩, fun g' => ?_⟩
  have := hk g'
  rw [cl_append] at this
  exact this
theorem elems_own {α : Type} {E : α → List FV} {n : Nat} [HSz E n] {H : Heap} {id g : Nat} {lim : Option Nat} {xs : List α} (hl : look H id g = some ⟨g, n, cl E xs⟩) : elems H n (.c (.own id g 0 xs.length lim)) = some (xs.length, cl E xs) := by
  have hcl : (cl E xs).length = xs.length * n := cl_length xs
  simp only [elems, hl, List.drop_zero, if_true, List.take_of_length_le (Nat.le_of_eq hcl)]
theorem resV_ct (P : Program) (s : List AV) (H : Heap) (t u : Nat) (ty : TypeId) : resV P s H [.cell t ty, .tmp u] = (loadV P H ty (s.getD t .void)).map fun v => .tup [v, s.getD u .void] := by
  simp only [resV, resAll, resOne]
  cases loadV P H ty (s.getD t .void) <;> rfl
attribute [go_sem] resV_ct
def PzO (H : Heap) (n0 : Nat) (z : Int) (gc rc : CV) (zs : List Int) (rs : List Rul) : Prop := ∃ gid gg, gc = .own gid gg 0 zs.length none ∧ look H gid gg = some ⟨gg, 1, cl (eI .i64) zs⟩ ∧ n0 ≤ gid ∧ OwnL eR 3 H rc rs ∧ (∀ i, idsC rc i → n0 ≤ i ∧ i ≠ gid)
theorem PzO.snap {H : Heap} {n0 : Nat} {z : Int} {gc rc : CV} {zs : List Int} {rs : List Rul} (h : PzO H n0 z gc rc zs rs) : snapD H (.agg [.f (.int .i64 z), gc, rc]) = some (aP ⟨z, zs, rs⟩) := by
  obtain ⟨gid, gg, rfl, h1, _, h2, _⟩ := h
  have e1 : ∀ x : Int, frzC H (.f (.int .i64 x)) = some (.f (.int .i64 x)) := fun _ => rfl
  have e2 := (OwnI.o (H := H) gid gg none zs [] (by rw [List.append_nil]; exact h1)).frzC
  simp only [snapD, List.mapM_cons, List.mapM_nil, e1, e2, h2.frzC, Option.bind_eq_bind, Option.pure_def, Option.bind_some, Option.map_some]
theorem PzO.same {H H' : Heap} {n0 : Nat} {z : Int} {gc rc : CV} {zs : List Int} {rs : List Rul} (h : PzO H n0 z gc rc zs rs) (hs : ∀ i, n0 ≤ i → (idsC gc i ∨ idsC rc i) → i < H.length → H'[i]? = H[i]?) : PzO H' n0 z gc rc zs rs := by
  obtain ⟨gid, gg, rfl, h1, h2, h3, h4⟩ := h
  exact ⟨gid, gg, rfl, by unfold look at *; rw [hs gid h2 (.inl rfl) (List.getElem?_eq_some_iff.1 (look_some h1).1).1]; exact h1, h2, h3.same fun i hi hl => hs i (h4 i hi).1 (.inr hi) hl, h4⟩
theorem PzO.n0 {H : Heap} {n0 n1 : Nat} {z : Int} {gc rc : CV} {zs : List Int} {rs : List Rul} (h : PzO H n0 z gc rc zs rs) (hn : n1 ≤ n0) : PzO H n1 z gc rc zs rs := by
  obtain ⟨gid, gg, rfl, h1, h2, h3, h4⟩ := h
  exact ⟨gid, gg, rfl, h1, by omega, h3, fun i hi => ⟨by have := (h4 i hi).1; omega, (h4 i hi).2⟩⟩
end Go.Lg
