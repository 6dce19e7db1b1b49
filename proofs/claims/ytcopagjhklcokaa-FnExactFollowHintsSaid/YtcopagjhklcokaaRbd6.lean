/- GpMN, GpM, GpFF, cut to what is needed. -/
import Derived.Test.YtcopagjhklcokaaRbd5
import Derived.Test.YtcopagjhklcokaaRbc3
import Derived.Test.YtcopagjhklcokaaRbd3
set_option linter.unusedSimpArgs false
set_option linter.unusedVariables false
set_option maxRecDepth 100000
namespace Go.Lg
open Go.Proofs
def folF (p : Puz) : Nat → List Int → List Int × Nat
  | 0, xs => (xs, 0)
  | f + 1, xs => if hintB p xs = true then ((folF p f (xs.set (hintV p xs).cell.toNat (hintV p xs).val)).1, (folF p f (xs.set (hintV p xs).cell.toNat (hintV p xs).val)).2 + 1) else (xs, 0)
def folV (p : Puz) (xs : List Int) : List Int := if fitsV p xs = true then (folF p 17 xs).1 else []
def folN (p : Puz) (xs : List Int) : Int := if fitsV p xs = true then (folF p 17 xs).2 else -1
theorem hintF_facts {q : Puz} {n : Nat} {h : Hnt} : ∀ (f : Nat) (ms : List Nat), MsN ms n → hintF q f ms = some h → ∃ (k : Nat) (ms' : List Nat), MsN ms' n ∧ k < n * n ∧ h.cell = k ∧ h.val = (onlyV (mAt ms' k) : Nat) ∧ onlyV (mAt ms' k) ≠ 0 ∧ nth q.given k = 0
  | 0, _, _, h => by cases h
  | f + 1, ms, hm, hh => by
    unfold hintF at hh
    split at hh
    · cases hh
    have hok := narM_ok (p := q) (t := nextM q ms) hm
    generalize narM q (nextM q ms) ms = ms' at hh hok
    split at hh
    · rename_i k hk
      unfold firstK at hk
      have hp := List.find?_some hk
      have hmem := List.mem_of_find?_eq_some hk
      rw [decide_eq_true_eq] at hp
      cases hh
      exact ⟨k, ms', hok, by rw [← hok.len]; exact List.mem_range.1 hmem, rfl, rfl, hp.1, hp.2⟩
    · exact hintF_facts f ms' hok hh
theorem hint_facts {p : Puz} {xs : List Int} (h : hintB p xs = true) : fitsV p xs = true ∧ ∃ k v : Nat, k < xs.length ∧ (hintV p xs).cell = k ∧ (hintV p xs).val = v ∧ 1 ≤ v ∧ (v : Int) ≤ p.size ∧ nth xs k = 0 ∧ nth p.given k = 0 := by
  unfold hintB at h
  obtain ⟨hh, he⟩ := Option.isSome_iff_exists.1 h
  have hv : hintV p xs = hh := by unfold hintV; rw [he]; rfl
  unfold hintO at he
  split at he
  rotate_left
  · cases he
  rename_i hf
  obtain ⟨n, hz, hp, hvl, hg, ha, hfl, hcl, hlen, hl4, hl16⟩ := fitsV_facts hf
  obtain ⟨qv, qp, qg⟩ := withP_valid hp hvl hg ha
  obtain ⟨k, ms', hm, hk, h1, h2, h3, h4⟩ := hintF_facts _ _ (startM_ok qp qg) he
  have h5 := (mvals_only (hm.lt hp.hn k)).2 h3
  have h6 := hm.at k
  have h4' : nth (withL p.given xs) k = 0 := h4
  rw [withL_nth (by rw [hlen, hg.len]; exact hk)] at h4'
  have hx0 := hg.val k (by rw [hg.len]; exact hk)
  rw [hv]
  refine ⟨hf, k, onlyV (mAt ms' k), by rw [hg.len]; exact hk, h1, h2, by omega, ?_, ?_, ?_⟩
  · have hle := onlyV_le (mAt ms' k)
    have h7 : 2 ^ onlyV (mAt ms' k) ≤ 2 ^ (n + 1) - 2 := by rw [← h5.2]; exact h6.1
    rw [hz]
    have hn := hp.hn
    generalize onlyV (mAt ms' k) = v at *
    have : v = 1 ∨ v = 2 ∨ v = 3 ∨ v = 4 := by omega
    rcases hn with rfl | rfl | rfl <;> rcases this with rfl | rfl | rfl | rfl <;> simp at h7 ⊢
  · split at h4' <;> omega
  · split at h4' <;> omega
theorem folF_len (p : Puz) : ∀ (f : Nat) (xs : List Int), (folF p f xs).1.length = xs.length
  | 0, _ => rfl
  | f + 1, xs => by
    unfold folF
    split
    · show (folF p f _).1.length = _
      rw [folF_len p f, List.length_set]
    · rfl
def zc (xs : List Int) : Nat := xs.countP fun x => decide (x = 0)
theorem zc_set {xs : List Int} {k : Nat} {v : Int} (hk : k < xs.length) (h0 : nth xs k = 0) (hv : v ≠ 0) : zc (xs.set k v) + 1 = zc xs := by
  have e : xs[k] = 0 := by rw [← h0, nth_eq (by omega)]; rfl
  unfold zc
  rw [List.countP_set (h := hk), e]
  have : 0 < xs.countP fun x => decide (x = 0) := List.countP_pos_iff.2 ⟨xs[k], List.getElem_mem _, by simp [e]⟩
  simp [hv]
  omega
theorem folF_step {p : Puz} {f : Nat} {ys : List Int} (h : hintB p ys = true) : folF p (f + 1) ys = ((folF p f (ys.set (hintV p ys).cell.toNat (hintV p ys).val)).1, (folF p f (ys.set (hintV p ys).cell.toNat (hintV p ys).val)).2 + 1) := by
  conv => lhs; unfold folF
  rw [if_pos h]
theorem folF_stop {p : Puz} {f : Nat} {ys : List Int} (h : hintB p ys = false) : folF p f ys = (ys, 0) := by
  cases f with
  | zero => rfl
  | succ f => unfold folF; rw [if_neg (by rw [h]; simp)]
def folQ (p : Puz) (xs : List Int) : KV := fun v H => ∃ c S, v = .tup [.c c, int (folN p xs)] ∧ OwnI H c (folV p xs) S ∧ scalH H
theorem lessQ_fol {p : Puz} {xs : List Int} {H : Heap} {c : CV} {S : List Nat} (h : OwnI H c (folV p xs) S) : lessQ H (folQ p xs) (.tup [.c c, int (folN p xs)]) :=
  ⟨keepH S H, keepH_le S H, c, S, rfl, h.same (fun i hi => keepH_get hi (h.lt i hi)), scalH_keep h.blk⟩
section
variable {P : Program} {o : Oper} {st : St} {K : KV} {fo : Operand} {ws : Array Operand} {ts : Array TypeId} {f : FuncId} {args args' : List AV} {v : AV}
theorem OpS.mkDT (hc : Reads P f args' v) (he : Enters P f) (ho : o.op = .call ⟨.value fo, ws, ts⟩) (ha : callArgs st fo ws = some (f, args)) (hs : args.mapM (snapD st.h) = some args')
    (hv : tupOk v = true ∧ scal1 v = true) (hsh : ∀ k, shiftA k v = v) (hk : K v st.h) : OpS P o st K :=
  OpS.mkD (RunCall.weaker (Q' := fun r H => r = v ∧ H = []) hc fun v' H' h => ⟨[], hle_nil _, h, rfl⟩) he ho ha hs fun r H' ⟨h1, h2⟩ => by
    subst h1
    subst h2
    refine ⟨⟨hv.1, hv.2, fun id b hb => by simp at hb⟩, ?_⟩
    rw [hsh]
    show K r (st.h ++ [])
    rw [List.append_nil]
    exact hk
end
set_option maxHeartbeats 2000000 in
theorem FollowHints_own (p : Puz) (xs : List Int) (hx : smP p) (hl : xs.length ≤ 2 ^ 40) : RunCall Try.prog 37 [aP p, ints xs] [] (folQ p xs) := by
  refine RunCall.nz ?_
  refine RunCall.cw (c := _) Try.func37 rfl (n := 35) Try.ntmps37 (rs := [.tmp 4, .tmp 5]) rfl ?_
  simp only [List.length_cons, List.length_nil, Nat.reduceAdd, Nat.reduceSub, List.replicate, List.cons_append, List.nil_append]
  simp (maxSteps := 1000000) (disch := omega) only [go_sem, Nat.reduceAdd, Nat.reduceMul, Nat.reduceSub, Nat.reduceEqDiff, Nat.reduceLeDiff]
  intro g0
  first | refine OpS.rd (PuzzleFits_gen p xs hx hl) (⟨_, Try.func82, rfl, rfl⟩ : Enters Try.prog 82) rfl rfl rfl rfl ?_ | refine Loud.rd (PuzzleFits_gen p xs hx hl) (⟨_, Try.func82, rfl, rfl⟩ : Enters Try.prog 82) rfl rfl rfl rfl ?_
  simp (maxSteps := 1000000) (disch := omega) only [go_sem, Nat.reduceAdd, Nat.reduceMul, Nat.reduceSub, Nat.reduceEqDiff, Nat.reduceLeDiff]
  cases hf : fitsV p xs with
  | false =>
    have e1 : folV p xs = [] := by unfold folV; rw [if_neg (by rw [hf]; simp)]
    have e2 : folN p xs = -1 := by unfold folN; rw [if_neg (by rw [hf]; simp)]
    simp (maxSteps := 1000000) (disch := omega) only [go_sem, Nat.reduceAdd, Nat.reduceMul, Nat.reduceSub, Nat.reduceEqDiff, Nat.reduceLeDiff]
    rw [← e2]
    exact lessQ_fol (by rw [e1]; exact .e)
  | true =>
    have e1 : folV p xs = (folF p 17 xs).1 := by unfold folV; rw [if_pos hf]
    have e2 : folN p xs = ((folF p 17 xs).2 : Nat) := by unfold folN; rw [if_pos hf]
    obtain ⟨n, hz, hp, hv, hg, ha, hfl, hcl, hlen, hl4, hl16⟩ := fitsV_facts hf
    simp (maxSteps := 1000000) (disch := omega) only [go_sem, Nat.reduceAdd, Nat.reduceMul, Nat.reduceSub, Nat.reduceEqDiff, Nat.reduceLeDiff]
    intro g1 g2
    rw [Nat.zero_add]
    refine loop_rule2 (fun (f : Nat) (b : List Int × Nat) => f) (fun f b => b.1.length = xs.length ∧ (folF p 17 xs).1 = (folF p f b.1).1 ∧ (folF p 17 xs).2 = (folF p f b.1).2 + b.2 ∧ zc b.1 < f ∧ f + b.2 = 17) (fun f b => [.a, .a, .k, .a, .a, .a, .k, .p (int b.2), .a, .a, .a, .a, .a, .a, .a, .a, .a, .a, .a, .a, .a, .a, .a, .a, .a, .a, .a, .a, .a, .a, .a, .a, .a, .a, .a]) (fun f b => [some ⟨g0, 1, cP p⟩, some ⟨g2, 1, cl (eI .i64) b.1⟩]) 17 (xs, 0) ⟨rfl, rfl, rfl, by have : zc xs ≤ xs.length := List.countP_le_length; show zc xs < 17; omega, rfl⟩ (by simp (maxSteps := 1000000) (disch := omega) only [go_sem, Nat.reduceAdd, Nat.reduceMul, Nat.reduceSub, Nat.reduceEqDiff, Nat.reduceLeDiff]; first | rfl | exact ⟨rfl, rfl⟩) (hle_eq rfl (hle_eq rfl (hle_nil _))) ?_
    rintro f ⟨ys, N⟩ ⟨hyl, hy1, hy2, hzc, hN⟩
    simp only at hyl hy1 hy2 hzc hN ⊢
    obtain ⟨f, rfl⟩ : ∃ f', f = f' + 1 := ⟨f - 1, by omega⟩
    have hown : ∀ X : Heap, OwnI (some ⟨g0, 1, cP p⟩ :: some ⟨g2, 1, cl (eI .i64) ys⟩ :: X) (.own 1 g2 0 xs.length none) ys [1] := fun X => by
      have := OwnI.o (H := some ⟨g0, 1, cP p⟩ :: some ⟨g2, 1, cl (eI .i64) ys⟩ :: X) 1 g2 none ys [] (by rw [List.append_nil]; exact look_of (H := some ⟨g0, 1, cP p⟩ :: some ⟨g2, 1, cl (eI .i64) ys⟩ :: X) (id := 1) (b := ⟨g2, 1, cl (eI .i64) ys⟩) rfl)
      rwa [hyl] at this
    simp (maxSteps := 1000000) (disch := omega) only [go_sem, Nat.reduceAdd, Nat.reduceMul, Nat.reduceSub, Nat.reduceEqDiff, Nat.reduceLeDiff]
    refine OpS.mkDT (NextHint_run p ys hx (by omega)) (⟨_, Try.func32, rfl, rfl⟩ : Enters Try.prog 32) rfl rfl (snap_two snapD_aP (hown []).snap) ⟨rfl, rfl⟩ (fun _ => rfl) ?_
    simp (maxSteps := 1000000) (disch := omega) only [go_sem, Nat.reduceAdd, Nat.reduceMul, Nat.reduceSub, Nat.reduceEqDiff, Nat.reduceLeDiff]
    intro g3
    cases hb : hintB p ys with
    | false =>
      rw [folF_stop hb] at hy1 hy2
      have e3 : folV p xs = ys := by rw [e1, hy1]
      have e4 : folN p xs = N := by rw [e2, hy2]; simp
      simp (maxSteps := 1000000) (disch := omega) only [go_sem, Nat.reduceAdd, Nat.reduceMul, Nat.reduceSub, Nat.reduceEqDiff, Nat.reduceLeDiff]
      rw [← e4]
      exact lessQ_fol (by rw [e3]; exact hown _)
    | true =>
      obtain ⟨_, k, v, hk, hc, hvv, hv1, hv2, h0, _⟩ := hint_facts hb
      rw [folF_step hb] at hy1 hy2
      rw [hc, hvv, Int.toNat_natCast] at hy1 hy2
      have hzs := zc_set (v := (v : Int)) hk h0 (by omega)
      simp (maxSteps := 1000000) (disch := omega) only [go_sem, Nat.reduceAdd, Nat.reduceMul, Nat.reduceSub, Nat.reduceEqDiff, Nat.reduceLeDiff, hc, hvv, hyl]
      exact ⟨f, (ys.set k v, N + 1), ⟨⟨by rw [List.length_set]; exact hyl, hy1, by simp only; omega, by simp only; omega, by simp only; omega⟩, by omega⟩, by push_cast; rfl, hle_eq rfl (hle_eq (by rw [Int.toNat_natCast]) (hle_nil _))⟩
set_option maxHeartbeats 2000000 in
theorem sFollowHints_own (p : Puz) (xs : List Int) (hx : smP p) (hl : xs.length ≤ 2 ^ 40) : RunCall Try.prog 36 [aP p, ints xs] [] (folQ p xs) := by
  refine RunCall.nz ?_
  refine RunCall.cw (c := _) Try.func36 rfl (n := 36) Try.ntmps36 (rs := [.tmp 4, .tmp 5]) rfl ?_
  simp only [List.length_cons, List.length_nil, Nat.reduceAdd, Nat.reduceSub, List.replicate, List.cons_append, List.nil_append]
  simp (maxSteps := 1000000) (disch := omega) only [go_sem, Nat.reduceAdd, Nat.reduceMul, Nat.reduceSub, Nat.reduceEqDiff, Nat.reduceLeDiff]
  intro g0
  first | refine OpS.rd (sPuzzleFits_run p xs hx hl) (⟨_, Try.func75, rfl, rfl⟩ : Enters Try.prog 75) rfl rfl rfl rfl ?_ | refine Loud.rd (sPuzzleFits_run p xs hx hl) (⟨_, Try.func75, rfl, rfl⟩ : Enters Try.prog 75) rfl rfl rfl rfl ?_
  simp (maxSteps := 1000000) (disch := omega) only [go_sem, Nat.reduceAdd, Nat.reduceMul, Nat.reduceSub, Nat.reduceEqDiff, Nat.reduceLeDiff]
  rw [show (puzzleValid p && (gridValid xs p.size && fitsL p xs p.size.toNat)) = fitsV p xs from rfl]
  cases hf : fitsV p xs with
  | false =>
    have e1 : folV p xs = [] := by unfold folV; rw [if_neg (by rw [hf]; simp)]
    have e2 : folN p xs = -1 := by unfold folN; rw [if_neg (by rw [hf]; simp)]
    simp (maxSteps := 1000000) (disch := omega) only [go_sem, Nat.reduceAdd, Nat.reduceMul, Nat.reduceSub, Nat.reduceEqDiff, Nat.reduceLeDiff]
    intro g1
    rw [← e2]
    exact lessQ_fol (by rw [e1]; exact OwnI.o 1 g1 none [] [] (look_of (b := ⟨g1, 1, []⟩) rfl))
  | true =>
    have e1 : folV p xs = (folF p 17 xs).1 := by unfold folV; rw [if_pos hf]
    have e2 : folN p xs = ((folF p 17 xs).2 : Nat) := by unfold folN; rw [if_pos hf]
    obtain ⟨n, hz, hp, hv, hg, ha, hfl, hcl, hlen, hl4, hl16⟩ := fitsV_facts hf
    simp (maxSteps := 1000000) (disch := omega) only [go_sem, Nat.reduceAdd, Nat.reduceMul, Nat.reduceSub, Nat.reduceEqDiff, Nat.reduceLeDiff]
    intro g1 g2
    rw [Nat.zero_add]
    refine loop_rule2 (fun (f : Nat) (b : List Int × Nat) => f) (fun f b => b.1.length = xs.length ∧ (folF p 17 xs).1 = (folF p f b.1).1 ∧ (folF p 17 xs).2 = (folF p f b.1).2 + b.2 ∧ zc b.1 < f ∧ f + b.2 = 17) (fun f b => [.a, .a, .k, .a, .a, .a, .k, .p (int b.2), .a, .a, .a, .a, .a, .a, .a, .a, .a, .a, .a, .a, .a, .a, .a, .a, .a, .a, .a, .a, .a, .a, .a, .a, .a, .a, .a, .a]) (fun f b => [some ⟨g0, 1, cP p⟩, some ⟨g2, 1, cl (eI .i64) b.1⟩]) 17 (xs, 0) ⟨rfl, rfl, rfl, by have : zc xs ≤ xs.length := List.countP_le_length; show zc xs < 17; omega, rfl⟩ (by simp (maxSteps := 1000000) (disch := omega) only [go_sem, Nat.reduceAdd, Nat.reduceMul, Nat.reduceSub, Nat.reduceEqDiff, Nat.reduceLeDiff]; first | rfl | exact ⟨rfl, rfl⟩) (hle_eq rfl (hle_eq rfl (hle_nil _))) ?_
    rintro f ⟨ys, N⟩ ⟨hyl, hy1, hy2, hzc, hN⟩
    simp only at hyl hy1 hy2 hzc hN ⊢
    obtain ⟨f, rfl⟩ : ∃ f', f = f' + 1 := ⟨f - 1, by omega⟩
    have hown : ∀ X : Heap, OwnI (some ⟨g0, 1, cP p⟩ :: some ⟨g2, 1, cl (eI .i64) ys⟩ :: X) (.own 1 g2 0 xs.length none) ys [1] := fun X => by
      have := OwnI.o (H := some ⟨g0, 1, cP p⟩ :: some ⟨g2, 1, cl (eI .i64) ys⟩ :: X) 1 g2 none ys [] (by rw [List.append_nil]; exact look_of (H := some ⟨g0, 1, cP p⟩ :: some ⟨g2, 1, cl (eI .i64) ys⟩ :: X) (id := 1) (b := ⟨g2, 1, cl (eI .i64) ys⟩) rfl)
      rwa [hyl] at this
    simp (maxSteps := 1000000) (disch := omega) only [go_sem, Nat.reduceAdd, Nat.reduceMul, Nat.reduceSub, Nat.reduceEqDiff, Nat.reduceLeDiff]
    refine OpS.mkDT (sNextHint_run p ys hx (by omega)) (⟨_, Try.func29, rfl, rfl⟩ : Enters Try.prog 29) rfl rfl (snap_two snapD_aP (hown []).snap) ⟨rfl, rfl⟩ (fun _ => rfl) ?_
    simp (maxSteps := 1000000) (disch := omega) only [go_sem, Nat.reduceAdd, Nat.reduceMul, Nat.reduceSub, Nat.reduceEqDiff, Nat.reduceLeDiff]
    intro g3
    cases hb : hintB p ys with
    | false =>
      rw [folF_stop hb] at hy1 hy2
      have e3 : folV p xs = ys := by rw [e1, hy1]
      have e4 : folN p xs = N := by rw [e2, hy2]; simp
      simp (maxSteps := 1000000) (disch := omega) only [go_sem, Nat.reduceAdd, Nat.reduceMul, Nat.reduceSub, Nat.reduceEqDiff, Nat.reduceLeDiff]
      rw [← e4]
      exact lessQ_fol (by rw [e3]; exact hown _)
    | true =>
      obtain ⟨_, k, v, hk, hc, hvv, hv1, hv2, h0, _⟩ := hint_facts hb
      rw [folF_step hb] at hy1 hy2
      rw [hc, hvv, Int.toNat_natCast] at hy1 hy2
      have hzs := zc_set (v := (v : Int)) hk h0 (by omega)
      simp (maxSteps := 1000000) (disch := omega) only [go_sem, Nat.reduceAdd, Nat.reduceMul, Nat.reduceSub, Nat.reduceEqDiff, Nat.reduceLeDiff, hc, hvv, hyl]
      exact ⟨f, (ys.set k v, N + 1), ⟨⟨by rw [List.length_set]; exact hyl, hy1, by simp only; omega, by simp only; omega, by simp only; omega⟩, by omega⟩, by push_cast; rfl, hle_eq rfl (hle_eq (by rw [Int.toNat_natCast]) (hle_nil _))⟩
end Go.Lg

set_option linter.unusedSimpArgs false
set_option linter.unusedVariables false
set_option maxRecDepth 100000
namespace Go.Lg
open Go.Proofs
def mrk (k : Int) : List Rul → List Rul
  | [] => []
  | r :: rs => ⟨k, marks (k + 1) r.cells.length, k + 1 + r.cells.length⟩ :: mrk (k + 2 + r.cells.length) rs
def wM (rs : List Rul) : Nat := (rs.map fun r => 2 + r.cells.length).sum
theorem wM_app (a b : List Rul) : wM (a ++ b) = wM a + wM b := by simp [wM]
theorem wM_one (r : Rul) : wM [r] = 2 + r.cells.length := by simp [wM]
theorem mrk_app (k : Int) (a b : List Rul) : mrk k (a ++ b) = mrk k a ++ mrk (k + wM a) b := by
  induction a generalizing k with
  | nil => simp [mrk, wM]
  | cons r a ih =>
    simp only [List.cons_append, mrk, ih, wM, List.map_cons, List.sum_cons]
    congr 3
    push_cast
    omega
theorem wM_take_le (rs : List Rul) (i : Nat) : wM (rs.take i) ≤ wM rs := by
  conv => rhs; rw [← List.take_append_drop i rs, wM_app]
  omega
theorem wM_le (rs : List Rul) : wM rs ≤ 2 * wRs rs := by
  unfold wM wRs
  induction rs with
  | nil => simp
  | cons r rs ih => simp only [List.map_cons, List.sum_cons, List.length_cons] at ih ⊢; omega
theorem setRange_app {A ys m : List CV} {o : Nat} (h : o + m.length ≤ A.length) : setRange (A ++ ys) o m = setRange A o m ++ ys := by
  simp only [setRange]
  rw [List.take_append_of_le_length (by omega), List.drop_append_of_le_length (by omega)]
  simp
theorem ldP_kR {g : Nat} {l : List RO} {ys : List CV} {i : Nat} (h : i < l.length) : ldP (some ⟨g, 3, kl kR l ++ ys⟩) (0 + ((i : Int)).toNat * 3 + 1) = some (.c l[i].c) := by
  have hl := kl_length (E := kR) l
  have hle : (i + 1) * 3 ≤ l.length * 3 := Nat.mul_le_mul_right _ h
  rw [ldP_some]
  simp only [Int.toNat_natCast, Nat.zero_add]
  rw [List.getElem?_append_left (by omega), kl_getAt h (by omega)]
  rfl
def RO.setK (o : RO) (k : Int) : RO := { o with r := { o.r with kind := k } }
def RO.setV (o : RO) (k : Int) : RO := { o with r := { o.r with val := k } }
def RO.setC (o : RO) (xs : List Int) : RO := { o with r := { o.r with cells := xs } }
theorem set_kind {l : List RO} {ys : List CV} {i : Nat} {k : Int} (h : i < l.length) : setRange (kl kR l ++ ys) (0 + ((i : Int)).toNat * 3 + 0) [.f (.int .i64 k)] = kl kR (l.set i (l[i].setK k)) ++ ys := by
  have hl := kl_length (E := kR) l
  have hle : (i + 1) * 3 ≤ l.length * 3 := Nat.mul_le_mul_right _ h
  simp only [Int.toNat_natCast]
  rw [setRange_app (by simp; omega), setRange_klj (v := l[i].setK k) h (by omega) rfl]
theorem set_val {l : List RO} {ys : List CV} {i : Nat} {k : Int} (h : i < l.length) : setRange (kl kR l ++ ys) (0 + ((i : Int)).toNat * 3 + 2) [.f (.int .i64 k)] = kl kR (l.set i (l[i].setV k)) ++ ys := by
  have hl := kl_length (E := kR) l
  have hle : (i + 1) * 3 ≤ l.length * 3 := Nat.mul_le_mul_right _ h
  simp only [Int.toNat_natCast]
  rw [setRange_app (by simp; omega), setRange_klj (v := l[i].setV k) h (by omega) rfl]
theorem kl_setC {l : List RO} {i : Nat} {xs : List Int} (h : i < l.length) : kl kR (l.set i (l[i].setC xs)) = kl kR l := by
  have e : kl kR (l.set i (l[i].setC xs)) = kl kR (l.set i l[i]) := by
    rw [List.set_eq_take_append_cons_drop, if_pos h, List.set_eq_take_append_cons_drop, if_pos h]
    rw [kl_append, kl_append]
    rfl
  rw [e, List.set_getElem_self]
theorem flat_disj {l : List RO} (hn : (l.flatMap (·.i)).Nodup) {i j : Nat} (hi : i < l.length) (hj : j < l.length) (hij : i < j) {x : Nat} (h1 : x ∈ l[i].i) (h2 : x ∈ l[j].i) : False := by
  rw [← List.take_append_drop j l, List.flatMap_append, List.nodup_append] at hn
  refine hn.2.2 x (List.mem_flatMap.2 ⟨l[i], ?_, h1⟩) x (List.mem_flatMap.2 ⟨l[j], ?_, h2⟩) rfl
  · rw [List.mem_take_iff_getElem]
    exact ⟨i, by omega, rfl⟩
  · exact List.mem_iff_getElem.2 ⟨0, by simp; omega, by simp⟩
theorem markRuleNil_run (k : Int) : Reads Try.prog 88 [rsl eR [], int k] (int k) := by
  refine RunCall.cw (c := _) Try.func88 rfl (n := 34) Try.ntmps88 (rs := [.tmp 4]) rfl ?_
  simp only [List.length_cons, List.length_nil, Nat.reduceAdd, Nat.reduceSub, List.replicate, List.cons_append, List.nil_append]
  simp (maxSteps := 1000000) (disch := omega) only [go_sem, Nat.reduceAdd, Nat.reduceMul, Nat.reduceSub, Nat.reduceEqDiff, Nat.reduceLeDiff]
  refine loop_rule (fun _ : Unit => 0) (fun _ => True) (fun _ => [.k, .p (int k), .a, .a, .a, .p (int 0), .a, .a, .a, .a, .a, .a, .a, .a, .a, .a, .a, .a, .a, .a, .a, .a, .a, .a, .a, .a, .a, .a, .a, .a, .a, .a, .a, .a]) (fun _ => []) () trivial (by simp (maxSteps := 1000000) (disch := omega) only [go_sem, Nat.reduceAdd, Nat.reduceMul, Nat.reduceSub, Nat.reduceEqDiff, Nat.reduceLeDiff]) (hle_nil _) ?_
  intro _ _
  simp (maxSteps := 1000000) (disch := omega) only [go_sem, Nat.reduceAdd, Nat.reduceMul, Nat.reduceSub, Nat.reduceEqDiff, Nat.reduceLeDiff]
  simp only [show decide ((0 : Int) < ((0 : Nat) : Int)) = false from rfl]
  simp (maxSteps := 1000000) (disch := omega) only [go_sem, Nat.reduceAdd, Nat.reduceMul, Nat.reduceSub, Nat.reduceEqDiff, Nat.reduceLeDiff]
theorem markRuleS_deep (H : Heap) (c : CV) (rs : List Rul) (S : List Nat) (k : Int) (h : OwnR H c rs S) (hk : 0 ≤ k ∧ k + wM rs ≤ 2 ^ 50) (hx : smRs rs) :
    RunCall Try.prog 88 [.c c, int k] H (fun r H' => r = int (k + wM rs) ∧ OwnR H' c (mrk k rs) S ∧ Frm H H' S) := by
  cases h with
  | e =>
    refine (RunCall.frame rfl (markRuleNil_run k) fun r H' h => by rw [h]; rfl).weaker ?_
    rintro r H2 ⟨r', H', rfl, rfl, rfl⟩
    refine ⟨H, HLe.app _ _, ?_, .e, Frm.refl _ _⟩
    simp [shiftA, shift1, shiftC, wM]
  | o id g lim l ys hlook ho hnd hy =>
    obtain ⟨hn, hcl⟩ := hx
    simp only [List.length_map] at hn
    refine RunCall.cw (c := _) Try.func88 rfl (n := 34) Try.ntmps88 (rs := [.tmp 4]) rfl ?_
    simp only [List.length_cons, List.length_nil, Nat.reduceAdd, Nat.reduceSub, List.replicate, List.cons_append, List.nil_append]
    simp (maxSteps := 1000000) (disch := omega) only [go_sem, Nat.reduceAdd, Nat.reduceMul, Nat.reduceSub, Nat.reduceEqDiff, Nat.reduceLeDiff]
    refine loop_rule3 (fun (i : Nat) (b : Heap × List RO) (kk : Int) => l.length - i)
      (fun i b kk => i ≤ l.length ∧ kk = k + wM ((l.map (·.r)).take i) ∧ Frm H b.1 (id :: l.flatMap (·.i)) ∧ look b.1 id g = some ⟨g, 3, kl kR b.2 ++ ys⟩ ∧ b.2.length = l.length ∧ (∀ j (h1 : j < b.2.length) (h2 : j < l.length), b.2[j].c = l[j].c ∧ b.2[j].i = l[j].i ∧ OwnI b.1 b.2[j].c b.2[j].r.cells b.2[j].i) ∧
        (b.2.take i).map (·.r) = mrk k ((l.map (·.r)).take i) ∧ (b.2.drop i).map (·.r) = (l.map (·.r)).drop i)
      (fun i b kk => [.k, .p (int kk), .a, .a, .a, .p (int i), .a, .a, .a, .a, .a, .a, .a, .a, .a, .a, .a, .a, .a, .a, .a, .a, .a, .a, .a, .a, .a, .a, .a, .a, .a, .a, .a, .a]) (fun _ b _ => b.1) 0 (H, l) k
      ⟨Nat.zero_le _, by simp [wM], Frm.refl _ _, hlook, rfl, fun j h1 h2 => ⟨rfl, rfl, ho _ (List.getElem_mem h1)⟩, rfl, rfl⟩ (by simp (maxSteps := 1000000) (disch := omega) only [go_sem, Nat.reduceAdd, Nat.reduceMul, Nat.reduceSub, Nat.reduceEqDiff, Nat.reduceLeDiff]; rfl) (HLe.refl _) ?_
    rintro i ⟨H1, l1⟩ kk ⟨hi, hkk, hf, hl1, hlen, hall, hm1, hm2⟩
    simp only at hf hl1 hlen hall hm1 hm2 ⊢
    have hle := wM_take_le (l.map (·.r)) i
    have hidlt : id < H1.length := (List.getElem?_eq_some_iff.1 (look_some hl1).1).1
    simp (maxSteps := 1000000) (disch := omega) only [go_sem, Nat.reduceAdd, Nat.reduceMul, Nat.reduceSub, Nat.reduceEqDiff, Nat.reduceLeDiff, hl1]
    (first | with_reducible refine condK_dec (fun h => ?_) (fun h => ?_) | with_reducible refine condK_ndec (fun h => ?_) (fun h => ?_) | with_reducible refine condK_nb (fun h => ?_) (fun h => ?_) | refine condK_b (fun h => ?_) (fun h => ?_))
    · have h : i < l.length := by omega
      have h' : i < l1.length := by omega
      have hkl := kl_length (E := kR) l1
      have hmul : (i + 1) * 3 ≤ l1.length * 3 := Nat.mul_le_mul_right _ h'
      obtain ⟨q1, q2, q3⟩ := hall i h' h
      have hr : l1[i].r = l[i].r := by
        have := congrArg (fun q => q[0]?) hm2
        simp only [List.getElem?_map, List.getElem?_drop, Nat.add_zero, List.getElem?_eq_getElem h', List.getElem?_eq_getElem h, Option.map_some, Option.some.injEq] at this
        exact this
      have hc40 : l1[i].r.cells.length ≤ 2 ^ 40 := by rw [hr]; exact hcl _ (List.mem_map.2 ⟨l[i], List.getElem_mem h, rfl⟩)
      have htk : (l.map (·.r)).take (i + 1) = (l.map (·.r)).take i ++ [l[i].r] := by rw [List.take_succ_eq_append_getElem (by simpa using h)]; simp
      have hw1 : wM ((l.map (·.r)).take (i + 1)) = wM ((l.map (·.r)).take i) + (2 + l1[i].r.cells.length) := by rw [htk, wM_app, wM_one, hr]
      have hle2 := wM_take_le (l.map (·.r)) (i + 1)
      have hs : ∀ cs : List CV, look (H1.set id (some ⟨g, 3, cs⟩)) id g = some ⟨g, 3, cs⟩ := fun cs => look_of (b := ⟨g, 3, cs⟩) (by rw [List.getElem?_set_self hidlt])
      have e1 := set_kind (ys := ys) (k := kk) h'
      have hgi : (l1.set i (l1[i].setK kk))[i]'(by simp; exact h') = l1[i].setK kk := by simp
      have e2 := ldP_kR (g := g) (ys := ys) (l := l1.set i (l1[i].setK kk)) (i := i) (by simpa using h')
      rw [hgi] at e2
      simp (maxSteps := 1000000) (disch := omega) only [go_sem, Nat.reduceAdd, Nat.reduceMul, Nat.reduceSub, Nat.reduceEqDiff, Nat.reduceLeDiff, hl1, e1, hs, e2, List.length_append]
      let H2 : Heap := H1.set id (some ⟨g, 3, kl kR (l1.set i (l1[i].setK kk)) ++ ys⟩)
      have hq3 : OwnI H2 l1[i].c l1[i].r.cells l1[i].i := q3.frm (Frm.set _ _ _) fun x hx => by
        simp
        rintro rfl
        rw [q2] at hx
        exact (List.nodup_cons.1 hnd).1 (List.mem_flatMap.2 ⟨l[i], List.getElem_mem h, hx⟩)
      refine OpS.run (markIntS_deep H2 l1[i].c l1[i].r.cells l1[i].i (kk + 1) hq3 (by omega) hc40) (⟨_, Try.func39, rfl, rfl⟩ : Enters Try.prog 39) rfl rfl ?_
      rintro _ H3 ⟨rfl, hq4, hf3⟩
      have hid3 : id ∉ l1[i].i := by rw [q2]; exact fun hx => (List.nodup_cons.1 hnd).1 (List.mem_flatMap.2 ⟨l[i], List.getElem_mem h, hx⟩)
      have hl3 : look H3 id g = some ⟨g, 3, kl kR (l1.set i (l1[i].setK kk)) ++ ys⟩ := by rw [hf3.look hid3]; exact hs _
      have hid3lt : id < H3.length := (List.getElem?_eq_some_iff.1 (look_some hl3).1).1
      have hlen3 : i < (l1.set i (l1[i].setK kk)).length := by simpa using h'
      have hkl3 := kl_length (E := kR) (l1.set i (l1[i].setK kk))
      simp only [List.length_set] at hkl3
      have e3 := set_val (ys := ys) (k := kk + 1 + l1[i].r.cells.length) hlen3
      rw [hgi] at e3
      simp (maxSteps := 1000000) (disch := omega) only [go_sem, Nat.reduceAdd, Nat.reduceMul, Nat.reduceSub, Nat.reduceEqDiff, Nat.reduceLeDiff, hl3, e3, List.length_append]
      have e4 : kl kR ((l1.set i (l1[i].setK kk)).set i ((l1[i].setK kk).setV (kk + 1 + l1[i].r.cells.length))) = kl kR (l1.set i ⟨⟨kk, marks (kk + 1) l1[i].r.cells.length, kk + 1 + l1[i].r.cells.length⟩, l1[i].c, l1[i].i⟩) := by
        rw [List.set_set]
        have := kl_setC (l := l1.set i ((l1[i].setK kk).setV (kk + 1 + l1[i].r.cells.length))) (i := i) (xs := marks (kk + 1) l1[i].r.cells.length) (by simpa using h')
        rw [List.set_set] at this
        rw [← this]
        simp only [List.getElem_set_self]
        rfl
      rw [e4]
      refine ⟨i + 1, (_, l1.set i ⟨⟨kk, marks (kk + 1) l1[i].r.cells.length, kk + 1 + l1[i].r.cells.length⟩, l1[i].c, l1[i].i⟩), kk + 1 + l1[i].r.cells.length + 1, ⟨⟨h, ?_, ?_, ?_, by simp [hlen], fun j h1 h2 => ?_, ?_, ?_⟩, by omega⟩, ⟨by omega, by omega⟩, HLe.refl _⟩
      · rw [hw1]; push_cast; omega
      · refine (hf.trans ((Frm.set H1 id _).mono (by simp))).trans ((hf3.mono fun x hx => ?_).trans ((Frm.set H3 id _).mono (by simp)))
        rw [q2] at hx
        exact List.mem_cons_of_mem _ (List.mem_flatMap.2 ⟨l[i], List.getElem_mem h, hx⟩)
      · exact look_of (b := ⟨g, 3, kl kR (l1.set i ⟨⟨kk, marks (kk + 1) l1[i].r.cells.length, kk + 1 + l1[i].r.cells.length⟩, l1[i].c, l1[i].i⟩) ++ ys⟩) (by simp only [List.getElem?_set_self hid3lt])
      · simp only [List.length_set] at h1
        obtain ⟨p1, p2, p3⟩ := hall j h1 h2
        have hidj : id ∉ l[j].i := fun hx => (List.nodup_cons.1 hnd).1 (List.mem_flatMap.2 ⟨l[j], List.getElem_mem h2, hx⟩)
        by_cases hij : i = j
        · subst hij
          simp only [List.getElem_set_self]
          refine ⟨q1, q2, hq4.frm (Frm.set _ _ _) fun x hx => ?_⟩
          simp
          rintro rfl
          exact hid3 hx
        · simp only [List.getElem_set_ne hij]
          refine ⟨p1, p2, ((p3.frm (Frm.set _ _ _) fun x hx => ?_).frm hf3 fun x hx => ?_).frm (Frm.set _ _ _) fun x hx => ?_⟩
          · simp
            rintro rfl
            rw [p2] at hx; exact hidj hx
          · rw [p2] at hx
            rw [q2]
            have hn2 := (List.nodup_cons.1 hnd).2
            rcases Nat.lt_or_gt_of_ne hij with hlt | hlt
            · exact fun hy => flat_disj hn2 h h2 hlt hy hx
            · exact fun hy => flat_disj hn2 h2 h hlt hx hy
          · simp
            rintro rfl
            rw [p2] at hx; exact hidj hx
      · rw [htk, mrk_app, ← hm1, ← hkk]
        rw [List.take_set, List.take_succ_eq_append_getElem h', List.set_append_right _ _ (by simp; omega)]
        simp [mrk, hr, Nat.min_eq_left (Nat.le_of_lt h')]
      · rw [List.drop_set_of_lt (by omega)]
        have := congrArg (List.drop 1) hm2
        simp only [← List.map_drop, List.drop_drop] at this ⊢
        exact this
    · have hil : i = l.length := by omega
      subst hil
      simp (maxSteps := 1000000) (disch := omega) only [go_sem, Nat.reduceAdd, Nat.reduceMul, Nat.reduceSub, Nat.reduceEqDiff, Nat.reduceLeDiff]
      refine ⟨H1, HLe.refl _, ?_, ?_, hf⟩
      · rw [hkk, List.take_of_length_le (by simp)]
      · rw [List.take_of_length_le (by omega), List.take_of_length_le (by simp)] at hm1
        have hii : l1.flatMap (·.i) = l.flatMap (·.i) := by
          have : l1.map (·.i) = l.map (·.i) := List.ext_getElem (by simp [hlen]) fun j h1 h2 => by
            simp at h1 h2 ⊢
            exact (hall j h1 h2).2.1
          simp only [List.flatMap_def, this]
        have := OwnR.o id g lim l1 ys hl1 (fun o hm => by
          obtain ⟨j, hj, rfl⟩ := List.mem_iff_getElem.1 hm
          exact (hall j hj (by omega)).2.2) (by rw [hii]; exact hnd) hy
        rw [hm1, hii, hlen] at this
        exact this
def mrkP (k : Int) (p : Puz) : Puz := ⟨p.size, marks k p.given.length, mrk (k + p.given.length) p.rules⟩
def wMP (p : Puz) : Nat := p.given.length + wM p.rules
theorem markPuzzle_deep (H : Heap) (cs : List CV) (p : Puz) (S : List Nat) (k : Int) (h : OwnP H cs p S) (hk : 0 ≤ k ∧ k + wMP p ≤ 2 ^ 50) (hx : smP p) :
    RunCall Try.prog 38 [.agg cs, int k] H (fun r H' => r = int (k + wMP p) ∧ OwnP H' cs (mrkP k p) S ∧ Frm H H' S) := by
  obtain ⟨c1, c2, S1, S2, rfl, rfl, h1, h2⟩ := h.ex
  have hnd := h.nd
  rw [List.nodup_append] at hnd
  obtain ⟨hx1, hx2⟩ := hx
  unfold wMP at hk ⊢
  refine RunCall.cw (c := _) Try.func38 rfl (n := 14) Try.ntmps38 (rs := [.tmp 4]) rfl ?_
  simp only [List.length_cons, List.length_nil, Nat.reduceAdd, Nat.reduceSub, List.replicate, List.cons_append, List.nil_append]
  simp (maxSteps := 1000000) (disch := omega) only [go_sem, Nat.reduceAdd, Nat.reduceMul, Nat.reduceSub, Nat.reduceEqDiff, Nat.reduceLeDiff, look_last, look_app_lt]
  intro g
  have h1a := h1.app (H' := [some ⟨g, 1, [.f (.int .i64 p.size), c1, c2]⟩])
  have h2a := h2.app (H' := [some ⟨g, 1, [.f (.int .i64 p.size), c1, c2]⟩])
  refine OpS.run (markIntS_deep _ c1 p.given S1 k h1a (by omega) hx1) (⟨_, Try.func39, rfl, rfl⟩ : Enters Try.prog 39) rfl rfl ?_
  rintro _ H1 ⟨rfl, q1, f1⟩
  have hb1 : look H1 H.length g = some ⟨g, 1, [.f (.int .i64 p.size), c1, c2]⟩ := by
    rw [f1.look fun hm => Nat.lt_irrefl _ (h1.lt _ hm)]; exact look_last
  simp (maxSteps := 1000000) (disch := omega) only [go_sem, Nat.reduceAdd, Nat.reduceMul, Nat.reduceSub, Nat.reduceEqDiff, Nat.reduceLeDiff, hb1]
  have h2b := h2a.frm f1 fun i hi hm => hnd.2.2 i hm i hi rfl
  refine OpS.run (markRuleS_deep H1 c2 p.rules S2 (k + p.given.length) h2b (by omega) hx2) (⟨_, Try.func88, rfl, rfl⟩ : Enters Try.prog 88) rfl rfl ?_
  rintro _ H2 ⟨rfl, q2, f2⟩
  simp (maxSteps := 1000000) (disch := omega) only [go_sem, Nat.reduceAdd, Nat.reduceMul, Nat.reduceSub, Nat.reduceEqDiff, Nat.reduceLeDiff]
  refine ⟨H2.take H.length, ?_, by simp only [AV.c.injEq, CV.f.injEq, FV.int.injEq, true_and]; push_cast; omega, ⟨⟨c1, c2, S1, S2, rfl, rfl, ?_, ?_⟩, h.nd⟩, ?_⟩
  · intro id b hb
    have : id < H.length := by have := (List.getElem?_eq_some_iff.1 hb).1; simp at this; omega
    rw [List.getElem?_take_of_lt this] at hb; exact hb
  · refine ((q1.frm f2 fun i hi hm => hnd.2.2 i hi i hm rfl)).same fun i hi => List.getElem?_take_of_lt (h1.lt i hi)
  · have e : (mrkP k p).rules = mrk (k + p.given.length) p.rules := rfl
    rw [e]
    exact q2.same fun i hi => List.getElem?_take_of_lt (h2.lt i hi)
  · have hl2 := f2.1
    have hl1 := f1.1
    simp at hl1
    refine ⟨by simp; omega, fun id hid => ?_⟩
    simp only [List.mem_append, not_or] at hid
    by_cases hlt : id < H.length
    · rw [List.getElem?_take_of_lt hlt, f2.2 id hid.2, f1.2 id hid.1, List.getElem?_append_left hlt]
    · rw [List.getElem?_eq_none (by simp; omega), List.getElem?_eq_none (by omega)]
end Go.Lg

set_option linter.unusedSimpArgs false
set_option linter.unusedVariables false
set_option maxRecDepth 100000
namespace Go.Lg
open Go.Proofs
theorem toIntS_ownI (xs : List Int) (hx : xs.length ≤ 2 ^ 40) : RunCall Try.prog 31 [ints xs] [] (ownIQ xs) :=
  (toIntS_own xs hx).mono fun r H ⟨g, h1, h2⟩ => by
    subst h1 h2
    exact ⟨_, _, rfl, OwnI.o 0 g none xs [] (by rw [List.append_nil]; simp only [go_sem]), scalH_ints scal_none⟩
theorem wMP_small (p : Puz) : wMP p ≤ 2 * wP p := by
  have := wM_le p.rules
  unfold wMP wP
  omega
end Go.Lg
