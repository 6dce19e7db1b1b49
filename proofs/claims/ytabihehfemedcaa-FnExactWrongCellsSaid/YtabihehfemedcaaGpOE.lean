/- Slices of numbers of the call's own that can be appended to; or of no length for sure. -/
import Derived.Test.YtabihehfemedcaaLgPc
set_option linter.unusedSimpArgs false
set_option linter.unusedVariables false
set_option maxRecDepth 100000
namespace Go.Lg

attribute [-go_sem] appendM
/-- A call that may come at any time: it reads what is only read, and yields such. -/
theorem softW_call {P : Program} {ops : Array Oper} {o : Oper} {s : List AV} {K : AV → Prop} {fo : Operand} {xs : Array Operand} {ts : Array TypeId} {f : FuncId} {args : List AV} {v : AV}
    (hc : Reads P f args v) (he : Enters P f) (ho : o.op = .call ⟨.value fo, xs, ts⟩) (ha : callArgs ⟨s, []⟩ fo xs = some (f, args)) (hz : ∀ x ∈ Call.operands ⟨.value fo, xs, ts⟩, frozenA (evO s x) = true) (hf : args.all frozenA = true)
    (hv : frozen1 v = true ∧ tupOk v = true ∧ shiftA 0 v = v ∧ frzA [] v = some v) (hk : K v) : softW P ops o s K := by
  unfold softW
  rw [ho]
  refine ⟨v, fun H => Soft.ops (by rw [ho]; exact hz) hv.1 fun s' hs' => ?_, hk⟩
  refine OpS.mk hc he ho ?_ hf hv.2.1 hv.2.2.1 hv.2.2.2
  rw [callArgs_congr (s := s) (H := []) ts fun x hx => hs' x (by rw [ho]; exact hx)]
  exact ha
/-- A slice of numbers of the call's own that can be appended to; or one of no length for sure. -/
inductive OwnE (H : Heap) : CV → List Int → List Nat → Prop where
  | m : OwnE H .emp [] []
  | o (id g : Nat) (xs : List Int) (h : look H id g = some ⟨g, 1, cl (eI .i64) xs⟩) : OwnE H (.own id g 0 xs.length none) xs [id]
theorem OwnE.frzC {H : Heap} {c : CV} {xs : List Int} {S : List Nat} (h : OwnE H c xs S) : Lg.frzC H c = some (.f (fints xs)) := by
  cases h with
  | m => rfl
  | o id g xs h => exact (OwnI.o id g none xs [] (by rw [List.append_nil]; exact h)).frzC
theorem OwnE.same {H H' : Heap} {c : CV} {xs : List Int} {S : List Nat} (h : OwnE H c xs S) (hs : ∀ i ∈ S, H'[i]? = H[i]?) : OwnE H' c xs S := by
  cases h with
  | m => exact .m
  | o id g xs h => exact .o id g xs (by unfold look at *; rw [hs id (by simp)]; exact h)
theorem OwnE.shift {H0 H : Heap} {c : CV} {xs : List Int} {S : List Nat} (h : OwnE H c xs S) : OwnE (H0 ++ shiftH H0.length H) (shiftC H0.length c) xs (S.map (· + H0.length)) := by
  cases h with
  | m => exact .m
  | o id g xs h =>
    refine .o (id + H0.length) g xs ?_
    rw [look_shiftH h]
    simp only [shiftB, shift_cl]
theorem OwnE.lt {H : Heap} {c : CV} {xs : List Int} {S : List Nat} (h : OwnE H c xs S) : ∀ i ∈ S, i < H.length := by
  cases h with
  | m => simp
  | o id g xs h => intro i hi; have : i = id := by simpa using hi
                   subst this; exact (List.getElem?_eq_some_iff.1 (look_some h).1).1
theorem OwnE.nd {H : Heap} {c : CV} {xs : List Int} {S : List Nat} (h : OwnE H c xs S) : S.Nodup := by cases h <;> simp
theorem OwnE.inv {H : Heap} {c : CV} {xs : List Int} {S : List Nat} (h : OwnE H c xs S) (hn : xs ≠ []) : ∃ id g, c = .own id g 0 xs.length none ∧ S = [id] ∧ look H id g = some ⟨g, 1, cl (eI .i64) xs⟩ := by
  cases h with
  | m => exact absurd rfl hn
  | o id g xs h => exact ⟨id, g, rfl, rfl, h⟩
theorem OwnE.inv0 {H : Heap} {c : CV} {xs : List Int} {S : List Nat} (h : OwnE H c xs S) (hn : xs = []) : c = .emp ∨ ∃ id g, c = .own id g 0 0 none ∧ look H id g = some ⟨g, 1, []⟩ := by
  cases h with
  | m => exact .inl rfl
  | o id g xs h => subst hn; exact .inr ⟨id, g, rfl, h⟩
theorem appendM_emp {P : Program} {H : Heap} {t : TypeId} {ei : TI} {K : KV} (ht : sliceOf P t = some ei) (hz : ei.zero.length = ei.size ∧ ei.size = 1 ∧ ei.bytes = 8) {xs : List Int} (hx : xs.length ≤ 2 ^ 40)
    (hk : ∀ c H' S, OwnE (H ++ H') c xs S → (∀ k ∈ S, H.length ≤ k ∧ k < H.length + H'.length) → K (.c c) (H ++ H')) : appendM P H t (.c .emp) (.c (.f (.sl xs.length (fl (eI .i64) xs)))) K := by
  obtain ⟨hz1, hz2, hz3⟩ := hz
  unfold appendM
  simp only [ht, hz1, hz2, if_true, elems, fl_length, appM]
  split
  · rename_i h0
    have : xs = [] := List.eq_nil_of_length_eq_zero h0
    subst this
    have := hk .emp [] [] .m (by simp)
    rwa [List.append_nil] at this
  · refine ⟨⟨by omega, by rw [hz3]; omega⟩, fun g => ?_⟩
    exact hk _ [some ⟨g, 1, cl (eI .i64) xs⟩] [H.length] (.o H.length g xs (look_of (b := ⟨g, 1, cl (eI .i64) xs⟩) (by simp))) (by simp)
theorem appendM_E {P : Program} {H : Heap} {t : TypeId} {ei : TI} {K : KV} (ht : sliceOf P t = some ei) (hz : ei.zero.length = ei.size ∧ ei.size = 1 ∧ ei.bytes = 8) {c : CV} {xs : List Int} {S : List Nat} (h : OwnE H c xs S) (hx : xs.length ≤ 2 ^ 40)
    {n g : Nat} {lim : Option Nat} {v : Int} (hl : look H n g = some ⟨g, 1, [.f (.int .i64 v)]⟩)
    (hk : ∀ c' H' S', OwnE H' c' (xs ++ [v]) S' → (∀ k, k < H.length → k ∉ S → H'[k]? = H[k]?) → (∀ k ∈ S', k ∈ S ∨ H.length ≤ k) → H.length ≤ H'.length → K (.c c') H') :
    appendM P H t (.c c) (.c (.own n g 0 1 lim)) K := by
  obtain ⟨hz1, hz2, hz3⟩ := hz
  unfold appendM
  cases h with
  | m =>
    simp only [ht, hz1, hz2, if_true, elems, hl, List.drop_zero, Nat.one_mul, appM, hz3, okP, newM]
    refine ⟨⟨by omega, by omega⟩, fun g' => ?_⟩
    refine hk _ _ [H.length] (OwnE.o H.length g' [v] (look_of (b := ⟨g', 1, cl (eI .i64) [v]⟩) (by simp; rfl))) (fun k hk _ => List.getElem?_append_left hk) (by simp) (by simp)
  | o id g2 xs hl2 =>
    have hlt : id < H.length := (List.getElem?_eq_some_iff.1 (look_some hl2).1).1
    simp only [ht, hz1, hz2, if_true, elems, hl, hl2, List.drop_zero, Nat.one_mul, appM, hz3, okP, cl_length, Nat.mul_one]
    refine ⟨⟨trivial, by omega, trivial, by omega, by omega⟩, fun g' => ?_⟩
    have := OwnE.o (H := H.set id (some ⟨g', 1, cl (eI .i64) xs ++ [.f (.int .i64 v)]⟩)) id g' (xs ++ [v]) (look_of (b := ⟨g', 1, cl (eI .i64) (xs ++ [v])⟩) (by rw [List.getElem?_set_self hlt, cl_append]; rfl))
    rw [List.length_append] at this
    exact hk _ _ [id] this (fun k _ hk => by rw [List.getElem?_set_ne (by simp at hk; omega)]) (fun k hk => .inl hk) (by simp)
end Go.Lg
