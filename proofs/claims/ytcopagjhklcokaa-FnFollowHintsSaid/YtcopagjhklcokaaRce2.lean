/- GpMN, cut to what is needed. -/
import Derived.Test.YtcopagjhklcokaaRce1
open Nat(reduceAdd reduceMul reduceSub reduceEqDiff reduceLeDiff)
set_option linter.unusedSimpArgs false
set_option linter.unusedVariables false
set_option maxRecDepth 100000
namespace Go.Lg
open Go.Proofs
def folF (p : Puz) : Nat → List Int → List Int × Nat
  | 0, xs => (xs, 0)
  | f + 1, xs => if hintB p xs = true then ((folF p f (xs.set (hintV p xs).cell.toNat (hintV p xs).val)).1, (folF p f (xs.set (hintV p xs).cell.toNat (hintV p xs).val)).2 + 1) else (xs, 0)
def folV (p : Puz) (xs : List Int) : List Int := if fitsV p xs = true then (folF p 17 xs).1 else []
def folN (p : Puz) (xs : List Int) : Int := if fitsV p xs = true then (folF p 17 xs).2 else -1
theorem hintF_facts {q : Puz} {n : Nat} {h : Hnt} : ∀ (f : Nat) (ms : List Nat), MsN ms n → hintF q f ms = some h → ∃ (k : Nat) (ms' : List Nat), MsN ms' n ∧ k < n * n ∧ h.cell = k ∧ h.val = (onlyV (mAt ms' k) : Nat) ∧ onlyV (mAt ms' k) ≠ 0 ∧ nth q.given k = 0
  | 0, _, _, h => by cases h
  | f + 1, ms, hm, hh => by
    unfold hintF at hh
    split at hh
    · cases hh
    have hok := narM_ok (p := q) (t := nextM q ms) hm
    generalize narM q (nextM q ms) ms = ms' at hh hok
    split at hh
    · rename_i k hk
      unfold firstK at hk
      have hp := List.find?_some hk
      have hmem := List.mem_of_find?_eq_some hk
      rw [decide_eq_true_eq] at hp
      cases hh
      exact ⟨k, ms', hok, by rw [← hok.len]; exact List.mem_range.1 hmem, rfl, rfl, hp.1, hp.2⟩
    · exact hintF_facts f ms' hok hh
theorem hint_facts {p : Puz} {xs : List Int} (h : hintB p xs = true) : fitsV p xs = true ∧ ∃ k v : Nat, k < xs.length ∧ (hintV p xs).cell = k ∧ (hintV p xs).val = v ∧ 1 ≤ v ∧ (v : Int) ≤ p.size ∧ nth xs k = 0 ∧ nth p.given k = 0 := by
  unfold hintB at h
  obtain ⟨hh, he⟩ := Option.isSome_iff_exists.1 h
  have hv : hintV p xs = hh := by unfold hintV; rw [he]; rfl
  unfold hintO at he
  split at he
  rotate_left
  · cases he
  rename_i hf
  obtain ⟨n, hz, hp, hvl, hg, ha, hfl, hcl, hlen, hl4, hl16⟩ := fitsV_facts hf
  obtain ⟨qv, qp, qg⟩ := withP_valid hp hvl hg ha
  obtain ⟨k, ms', hm, hk, h1, h2, h3, h4⟩ := hintF_facts _ _ (startM_ok qp qg) he
  have h5 := (mvals_only (hm.lt hp.hn k)).2 h3
  have h6 := hm.at k
  have h4' : nth (withL p.given xs) k = 0 := h4
  rw [withL_nth (by rw [hlen, hg.len]; exact hk)] at h4'
  have hx0 := hg.val k (by rw [hg.len]; exact hk)
  rw [hv]
  refine ⟨hf, k, onlyV (mAt ms' k), by rw [hg.len]; exact hk, h1, h2, by omega, ?_, ?_, ?_⟩
  · have hle := onlyV_le (mAt ms' k)
    have h7 : 2 ^ onlyV (mAt ms' k) ≤ 2 ^ (n + 1) - 2 := by rw [← h5.2]; exact h6.1
    rw [hz]
    have hn := hp.hn
    generalize onlyV (mAt ms' k) = v at *
    have : v = 1 ∨ v = 2 ∨ v = 3 ∨ v = 4 := by omega
    rcases hn with rfl | rfl | rfl <;> rcases this with rfl | rfl | rfl | rfl <;> simp at h7 ⊢
  · split at h4' <;> omega
  · split at h4' <;> omega
theorem folF_len (p : Puz) : ∀ (f : Nat) (xs : List Int), (folF p f xs).1.length = xs.length
  | 0, _ => rfl
  | f + 1, xs => by
    unfold folF
    split
    · show (folF p f _).1.length = _
      rw [folF_len p f, List.length_set]
    · rfl
def zc (xs : List Int) : Nat := xs.countP fun x => decide (x = 0)
theorem zc_set {xs : List Int} {k : Nat} {v : Int} (hk : k < xs.length) (h0 : nth xs k = 0) (hv : v ≠ 0) : zc (xs.set k v) + 1 = zc xs := by
  have e : xs[k] = 0 := by rw [← h0, nth_eq (by omega)]; rfl
  unfold zc
  rw [List.countP_set (h := hk), e]
  have : 0 < xs.countP fun x => decide (x = 0) := List.countP_pos_iff.2 ⟨xs[k], List.getElem_mem _, by simp [e]⟩
  simp [hv]
  omega
theorem folF_step {p : Puz} {f : Nat} {ys : List Int} (h : hintB p ys = true) : folF p (f + 1) ys = ((folF p f (ys.set (hintV p ys).cell.toNat (hintV p ys).val)).1, (folF p f (ys.set (hintV p ys).cell.toNat (hintV p ys).val)).2 + 1) := by
  conv => lhs; unfold folF
  rw [if_pos h]
theorem folF_stop {p : Puz} {f : Nat} {ys : List Int} (h : hintB p ys = false) : folF p f ys = (ys, 0) := by
  cases f with
  | zero => rfl
  | succ f => unfold folF; rw [if_neg (by rw [h]; simp)]
def folQ (p : Puz) (xs : List Int) : KV := fun v H => ∃ c S, v = .tup [.c c, int (folN p xs)] ∧ OwnI H c (folV p xs) S ∧ scalH H
theorem lessQ_fol {p : Puz} {xs : List Int} {H : Heap} {c : CV} {S : List Nat} (h : OwnI H c (folV p xs) S) : lessQ H (folQ p xs) (.tup [.c c, int (folN p xs)]) :=
  ⟨keepH S H, keepH_le S H, c, S, rfl, h.same (fun i hi => keepH_get hi (h.lt i hi)), scalH_keep h.blk⟩
section
variable {P : Program} {o : Oper} {st : St} {K : KV} {fo : Operand} {ws : Array Operand} {ts : Array TypeId} {f : FuncId} {args args' : List AV} {v : AV}
theorem OpS.mkDT (hc : Reads P f args' v) (he : Enters P f) (ho : o.op = .call ⟨.value fo, ws, ts⟩) (ha : callArgs st fo ws = some (f, args)) (hs : args.mapM (snapD st.h) = some args')
    (hv : tupOk v = true ∧ scal1 v = true) (hsh : ∀ k, shiftA k v = v) (hk : K v st.h) : OpS P o st K :=
  OpS.mkD (RunCall.weaker (Q' := fun r H => r = v ∧ H = []) hc fun v' H' h => ⟨[], hle_nil _, h, rfl⟩) he ho ha hs fun r H' ⟨h1, h2⟩ => by
    subst h1
    subst h2
    refine ⟨⟨hv.1, hv.2, fun id b hb => by simp at hb⟩, ?_⟩
    rw [hsh]
    show K r (st.h ++ [])
    rw [List.append_nil]
    exact hk
end
set_option maxHeartbeats 2000000 in
theorem FollowHints_own (p : Puz) (xs : List Int) (hx : smP p) (hl : xs.length ≤ 2 ^ 40) : RunCall Try.prog 37 [aP p, ints xs] [] (folQ p xs) := by
  refine RunCall.nz ?_
  refine RunCall.cw (c := _) Try.func37 rfl (n := 35) Try.ntmps37 (rs := [.tmp 4, .tmp 5]) rfl ?_
  simp only [List.length_cons, List.length_nil, Nat.reduceAdd, Nat.reduceSub, List.replicate, List.cons_append, List.nil_append]
  simp(maxSteps:=999999)(disch:=omega)only[go_sem,reduceAdd,reduceMul,reduceSub,reduceEqDiff,reduceLeDiff]
  intro g0
  first | refine OpS.rd (PuzzleFits_gen p xs hx hl) (⟨_, Try.func82, rfl, rfl⟩ : Enters Try.prog 82) rfl rfl rfl rfl ?_ | refine Loud.rd (PuzzleFits_gen p xs hx hl) (⟨_, Try.func82, rfl, rfl⟩ : Enters Try.prog 82) rfl rfl rfl rfl ?_
  simp(maxSteps:=999999)(disch:=omega)only[go_sem,reduceAdd,reduceMul,reduceSub,reduceEqDiff,reduceLeDiff]
  cases hf : fitsV p xs with
  | false =>
    have e1 : folV p xs = [] := by unfold folV; rw [if_neg (by rw [hf]; simp)]
    have e2 : folN p xs = -1 := by unfold folN; rw [if_neg (by rw [hf]; simp)]
    simp(maxSteps:=999999)(disch:=omega)only[go_sem,reduceAdd,reduceMul,reduceSub,reduceEqDiff,reduceLeDiff]
    rw [← e2]
    exact lessQ_fol (by rw [e1]; exact .e)
  | true =>
    have e1 : folV p xs = (folF p 17 xs).1 := by unfold folV; rw [if_pos hf]
    have e2 : folN p xs = ((folF p 17 xs).2 : Nat) := by unfold folN; rw [if_pos hf]
    obtain ⟨n, hz, hp, hv, hg, ha, hfl, hcl, hlen, hl4, hl16⟩ := fitsV_facts hf
    simp(maxSteps:=999999)(disch:=omega)only[go_sem,reduceAdd,reduceMul,reduceSub,reduceEqDiff,reduceLeDiff]
    intro g1 g2
    rw [Nat.zero_add]
    refine loop_rule2 (fun (f : Nat) (b : List Int × Nat) => f) (fun f b => b.1.length = xs.length ∧ (folF p 17 xs).1 = (folF p f b.1).1 ∧ (folF p 17 xs).2 = (folF p f b.1).2 + b.2 ∧ zc b.1 < f ∧ f + b.2 = 17) (fun f b => [.a, .a, .k, .a, .a, .a, .k, .p (int b.2), .a, .a, .a, .a, .a, .a, .a, .a, .a, .a, .a, .a, .a, .a, .a, .a, .a, .a, .a, .a, .a, .a, .a, .a, .a, .a, .a]) (fun f b => [some ⟨g0, 1, cP p⟩, some ⟨g2, 1, cl (eI .i64) b.1⟩]) 17 (xs, 0) ⟨rfl, rfl, rfl, by have : zc xs ≤ xs.length := List.countP_le_length; show zc xs < 17; omega, rfl⟩ (by simp(maxSteps:=999999)(disch:=omega)only[go_sem,reduceAdd,reduceMul,reduceSub,reduceEqDiff,reduceLeDiff]; first | rfl | exact ⟨rfl, rfl⟩) (hle_eq rfl (hle_eq rfl (hle_nil _))) ?_
    rintro f ⟨ys, N⟩ ⟨hyl, hy1, hy2, hzc, hN⟩
    simp only at hyl hy1 hy2 hzc hN ⊢
    obtain ⟨f, rfl⟩ : ∃ f', f = f' + 1 := ⟨f - 1, by omega⟩
    have hown : ∀ X : Heap, OwnI (some ⟨g0, 1, cP p⟩ :: some ⟨g2, 1, cl (eI .i64) ys⟩ :: X) (.own 1 g2 0 xs.length none) ys [1] := fun X => by
      have := OwnI.o (H := some ⟨g0, 1, cP p⟩ :: some ⟨g2, 1, cl (eI .i64) ys⟩ :: X) 1 g2 none ys [] (by rw [List.append_nil]; exact look_of (H := some ⟨g0, 1, cP p⟩ :: some ⟨g2, 1, cl (eI .i64) ys⟩ :: X) (id := 1) (b := ⟨g2, 1, cl (eI .i64) ys⟩) rfl)
      rwa [hyl] at this
    simp(maxSteps:=999999)(disch:=omega)only[go_sem,reduceAdd,reduceMul,reduceSub,reduceEqDiff,reduceLeDiff]
    refine OpS.mkDT (NextHint_run p ys hx (by omega)) (⟨_, Try.func32, rfl, rfl⟩ : Enters Try.prog 32) rfl rfl (snap_two snapD_aP (hown []).snap) ⟨rfl, rfl⟩ (fun _ => rfl) ?_
    simp(maxSteps:=999999)(disch:=omega)only[go_sem,reduceAdd,reduceMul,reduceSub,reduceEqDiff,reduceLeDiff]
    intro g3
    cases hb : hintB p ys with
    | false =>
      rw [folF_stop hb] at hy1 hy2
      have e3 : folV p xs = ys := by rw [e1, hy1]
      have e4 : folN p xs = N := by rw [e2, hy2]; simp
      simp(maxSteps:=999999)(disch:=omega)only[go_sem,reduceAdd,reduceMul,reduceSub,reduceEqDiff,reduceLeDiff]
      rw [← e4]
      exact lessQ_fol (by rw [e3]; exact hown _)
    | true =>
      obtain ⟨_, k, v, hk, hc, hvv, hv1, hv2, h0, _⟩ := hint_facts hb
      rw [folF_step hb] at hy1 hy2
      rw [hc, hvv, Int.toNat_natCast] at hy1 hy2
      have hzs := zc_set (v := (v : Int)) hk h0 (by omega)
      simp(maxSteps:=999999)(disch:=omega)only[go_sem,reduceAdd,reduceMul,reduceSub,reduceEqDiff,reduceLeDiff, hc, hvv, hyl]
      exact ⟨f, (ys.set k v, N + 1), ⟨⟨by rw [List.length_set]; exact hyl, hy1, by simp only; omega, by simp only; omega, by simp only; omega⟩, by omega⟩, by push_cast; rfl, hle_eq rfl (hle_eq (by rw [Int.toNat_natCast]) (hle_nil _))⟩
set_option maxHeartbeats 2000000 in
theorem sFollowHints_own (p : Puz) (xs : List Int) (hx : smP p) (hl : xs.length ≤ 2 ^ 40) : RunCall Try.prog 36 [aP p, ints xs] [] (folQ p xs) := by
  refine RunCall.nz ?_
  refine RunCall.cw (c := _) Try.func36 rfl (n := 36) Try.ntmps36 (rs := [.tmp 4, .tmp 5]) rfl ?_
  simp only [List.length_cons, List.length_nil, Nat.reduceAdd, Nat.reduceSub, List.replicate, List.cons_append, List.nil_append]
  simp(maxSteps:=999999)(disch:=omega)only[go_sem,reduceAdd,reduceMul,reduceSub,reduceEqDiff,reduceLeDiff]
  intro g0
  first | refine OpS.rd (sPuzzleFits_run p xs hx hl) (⟨_, Try.func75, rfl, rfl⟩ : Enters Try.prog 75) rfl rfl rfl rfl ?_ | refine Loud.rd (sPuzzleFits_run p xs hx hl) (⟨_, Try.func75, rfl, rfl⟩ : Enters Try.prog 75) rfl rfl rfl rfl ?_
  simp(maxSteps:=999999)(disch:=omega)only[go_sem,reduceAdd,reduceMul,reduceSub,reduceEqDiff,reduceLeDiff]
  rw [show (puzzleValid p && (gridValid xs p.size && fitsL p xs p.size.toNat)) = fitsV p xs from rfl]
  cases hf : fitsV p xs with
  | false =>
    have e1 : folV p xs = [] := by unfold folV; rw [if_neg (by rw [hf]; simp)]
    have e2 : folN p xs = -1 := by unfold folN; rw [if_neg (by rw [hf]; simp)]
    simp(maxSteps:=999999)(disch:=omega)only[go_sem,reduceAdd,reduceMul,reduceSub,reduceEqDiff,reduceLeDiff]
    intro g1
    rw [← e2]
    exact lessQ_fol (by rw [e1]; exact OwnI.o 1 g1 none [] [] (look_of (b := ⟨g1, 1, []⟩) rfl))
  | true =>
    have e1 : folV p xs = (folF p 17 xs).1 := by unfold folV; rw [if_pos hf]
    have e2 : folN p xs = ((folF p 17 xs).2 : Nat) := by unfold folN; rw [if_pos hf]
    obtain ⟨n, hz, hp, hv, hg, ha, hfl, hcl, hlen, hl4, hl16⟩ := fitsV_facts hf
    simp(maxSteps:=999999)(disch:=omega)only[go_sem,reduceAdd,reduceMul,reduceSub,reduceEqDiff,reduceLeDiff]
    intro g1 g2
    rw [Nat.zero_add]
    refine loop_rule2 (fun (f : Nat) (b : List Int × Nat) => f) (fun f b => b.1.length = xs.length ∧ (folF p 17 xs).1 = (folF p f b.1).1 ∧ (folF p 17 xs).2 = (folF p f b.1).2 + b.2 ∧ zc b.1 < f ∧ f + b.2 = 17) (fun f b => [.a, .a, .k, .a, .a, .a, .k, .p (int b.2), .a, .a, .a, .a, .a, .a, .a, .a, .a, .a, .a, .a, .a, .a, .a, .a, .a, .a, .a, .a, .a, .a, .a, .a, .a, .a, .a, .a]) (fun f b => [some ⟨g0, 1, cP p⟩, some ⟨g2, 1, cl (eI .i64) b.1⟩]) 17 (xs, 0) ⟨rfl, rfl, rfl, by have : zc xs ≤ xs.length := List.countP_le_length; show zc xs < 17; omega, rfl⟩ (by simp(maxSteps:=999999)(disch:=omega)only[go_sem,reduceAdd,reduceMul,reduceSub,reduceEqDiff,reduceLeDiff]; first | rfl | exact ⟨rfl, rfl⟩) (hle_eq rfl (hle_eq rfl (hle_nil _))) ?_
    rintro f ⟨ys, N⟩ ⟨hyl, hy1, hy2, hzc, hN⟩
    simp only at hyl hy1 hy2 hzc hN ⊢
    obtain ⟨f, rfl⟩ : ∃ f', f = f' + 1 := ⟨f - 1, by omega⟩
    have hown : ∀ X : Heap, OwnI (some ⟨g0, 1, cP p⟩ :: some ⟨g2, 1, cl (eI .i64) ys⟩ :: X) (.own 1 g2 0 xs.length none) ys [1] := fun X => by
      have := OwnI.o (H := some ⟨g0, 1, cP p⟩ :: some ⟨g2, 1, cl (eI .i64) ys⟩ :: X) 1 g2 none ys [] (by rw [List.append_nil]; exact look_of (H := some ⟨g0, 1, cP p⟩ :: some ⟨g2, 1, cl (eI .i64) ys⟩ :: X) (id := 1) (b := ⟨g2, 1, cl (eI .i64) ys⟩) rfl)
      rwa [hyl] at this
    simp(maxSteps:=999999)(disch:=omega)only[go_sem,reduceAdd,reduceMul,reduceSub,reduceEqDiff,reduceLeDiff]
    refine OpS.mkDT (sNextHint_run p ys hx (by omega)) (⟨_, Try.func29, rfl, rfl⟩ : Enters Try.prog 29) rfl rfl (snap_two snapD_aP (hown []).snap) ⟨rfl, rfl⟩ (fun _ => rfl) ?_
    simp(maxSteps:=999999)(disch:=omega)only[go_sem,reduceAdd,reduceMul,reduceSub,reduceEqDiff,reduceLeDiff]
    intro g3
    cases hb : hintB p ys with
    | false =>
      rw [folF_stop hb] at hy1 hy2
      have e3 : folV p xs = ys := by rw [e1, hy1]
      have e4 : folN p xs = N := by rw [e2, hy2]; simp
      simp(maxSteps:=999999)(disch:=omega)only[go_sem,reduceAdd,reduceMul,reduceSub,reduceEqDiff,reduceLeDiff]
      rw [← e4]
      exact lessQ_fol (by rw [e3]; exact hown _)
    | true =>
      obtain ⟨_, k, v, hk, hc, hvv, hv1, hv2, h0, _⟩ := hint_facts hb
      rw [folF_step hb] at hy1 hy2
      rw [hc, hvv, Int.toNat_natCast] at hy1 hy2
      have hzs := zc_set (v := (v : Int)) hk h0 (by omega)
      simp(maxSteps:=999999)(disch:=omega)only[go_sem,reduceAdd,reduceMul,reduceSub,reduceEqDiff,reduceLeDiff, hc, hvv, hyl]
      exact ⟨f, (ys.set k v, N + 1), ⟨⟨by rw [List.length_set]; exact hyl, hy1, by simp only; omega, by simp only; omega, by simp only; omega⟩, by omega⟩, by push_cast; rfl, hle_eq rfl (hle_eq (by rw [Int.toNat_natCast]) (hle_nil _))⟩
end Go.Lg
