/- The order that is told, checked with what each operation waits for laid beside it. -/
import Derived.Test.YtlpehaekjclgcaaLgX
set_option linter.unusedSimpArgs false
set_option linter.unusedVariables false
namespace Go.Lg

/-- What an operation waits for, out of what the ones before it wait for. -/
def maskOf (W : List Nat) (o : Oper) : Nat := o.after.toList.foldl (fun m e => if Region.binds .any e = true then m ||| 2 ^ e.on ||| W.getD e.on 0 else m) 0
def fixB (ops : Array Oper) (W : List Nat) : Bool := (List.range ops.size).all fun i => match ops[i]? with | some o => W.getD i 0 == maskOf W o | none => true
theorem maskOf_bit (W : List Nat) (j : Nat) : ∀ (l : List Edge) (m : Nat), (l.foldl (fun m e => if Region.binds .any e = true then m ||| 2 ^ e.on ||| W.getD e.on 0 else m) m).testBit j =
    (m.testBit j || l.any fun e => Region.binds .any e && (e.on == j || (W.getD e.on 0).testBit j))
  | [], m => by simp
  | e :: l, m => by
    rw [List.foldl_cons, maskOf_bit W j l]
    simp only [List.any_cons]
    by_cases hb : Region.binds .any e = true
    · simp only [hb, if_true, Bool.true_and, Nat.testBit_or, Nat.testBit_two_pow]
      have : decide (e.on = j) = (e.on == j) := by by_cases h : e.on = j <;> simp [h]
      rw [this]
      cases m.testBit j <;> cases (e.on == j) <;> cases (W.getD e.on 0).testBit j <;> simp
    · simp only [hb, Bool.false_and, Bool.false_or]
      simp
theorem waits_mask {ops : Array Oper} {W : List Nat} (hf : fixB ops W = true) (hb : ∀ i o, ops[i]? = some o → ∀ e ∈ o.after, Region.binds .any e = true → e.on < i) : ∀ (f i j : Nat), i < f → i < ops.size → waitsB ops f i j = (W.getD i 0).testBit j
  | 0, _, _, h, _ => by omega
  | f + 1, i, j, h, hi => by
    have ho : ops[i]? = some ops[i] := Array.getElem?_eq_getElem hi
    have hw : W.getD i 0 = maskOf W ops[i] := by
      have := List.all_eq_true.1 hf i (List.mem_range.2 hi)
      simp only [ho] at this
      simpa using this
    rw [hw, maskOf, maskOf_bit]
    simp only [waitsB, ho, Nat.zero_testBit, Bool.false_or]
    have e1 : ∀ e ∈ ops[i].after, Region.binds .any e = true → waitsB ops f e.on j = (W.getD e.on 0).testBit j := fun e he hbe => by
      have := hb i _ ho e he hbe
      exact waits_mask hf hb f e.on j (by omega) (by omega)
    rw [← Array.any_toList, ← Array.any_toList]
    have hm : ∀ l : List Edge, (∀ e ∈ l, e ∈ ops[i].after) → ((l.any fun e => Region.binds .any e && e.on == j) || l.any fun e => Region.binds .any e && waitsB ops f e.on j) = l.any fun e => Region.binds .any e && (e.on == j || (W.getD e.on 0).testBit j) := by
      intro l hl
      induction l with
      | nil => rfl
      | cons e l ih =>
        have ih := ih fun x hx => hl x (by simp [hx])
        have := e1 e (hl e (by simp))
        simp only [List.any_cons, ← ih]
        by_cases hbe : Region.binds .any e = true
        · rw [this hbe]
          simp only [hbe, Bool.true_and]
          cases (e.on == j) <;> cases (W.getD e.on 0).testBit j <;> simp
        · simp only [hbe, Bool.false_and, Bool.false_or]
    exact hm _ fun e he => by simpa using he
theorem pairsB_congr {f g : Nat → Nat → Bool} : ∀ (l : List Nat), (∀ i ∈ l, ∀ j ∈ l, f i j = g i j) → planB.pairsB f l = planB.pairsB g l
  | [], _ => rfl
  | i :: r, h => by
    simp only [planB.pairsB]
    rw [pairsB_congr r fun a ha b hb => h a (by simp [ha]) b (by simp [hb])]
    congr 1
    rw [Bool.eq_iff_iff]
    simp only [List.all_eq_true]
    exact ⟨fun k x hx => by rw [← h i (by simp) x (by simp [hx])]; exact k x hx, fun k x hx => by rw [h i (by simp) x (by simp [hx])]; exact k x hx⟩
def planM (ops : Array Oper) (π : List Nat) (F : List Nat) (D : Option Nat) (σ : List Nat) (W : List Nat) : Bool :=
  fixB ops W && (((List.range ops.size).all fun i => match ops[i]? with | some o => o.after.all fun e => !Region.binds .any e || decide (e.on < i) | none => true) &&
  ((List.range ops.size).all fun i => π.contains i || σ.contains i) && (π ++ σ).all (fun i => decide (i < ops.size)) && decide (π ++ σ).Nodup &&
  planB.pairsB (fun i j => !((W.getD i 0).testBit j) && (!(meets ops i j || meets ops j i) || (W.getD j 0).testBit i) && (isQuiet ops F D i || (W.getD j 0).testBit i)) π &&
  (match D with | some d => (match ops[d]? with | some o => o.guard.isNone && (match o.op with | .alloc _ => true | .makeSlice .. => true | _ => false) | none => false) && π.all (fun i => decide (i = d) || !meets ops i d) | none => true) &&
  σ.all (fun i => π.all fun j => (W.getD i 0).testBit j) && planB.pairsB (fun i j => (W.getD j 0).testBit i) σ)
theorem planB_of {ops : Array Oper} {π F : List Nat} {D : Option Nat} {σ W : List Nat} (h : planM ops π F D σ W = true) : planB ops π F D σ = true := by
  simp only [planM, Bool.and_eq_true] at h
  obtain ⟨hf, ⟨⟨⟨⟨⟨⟨h1, h2⟩, h3⟩, h4⟩, h5⟩, h6⟩, h7⟩, h8⟩ := h
  have hb : ∀ i o, ops[i]? = some o → ∀ e ∈ o.after, Region.binds .any e = true → e.on < i := fun i o ho e he hbe => by
    have hi : i < ops.size := (Array.getElem?_eq_some_iff.1 ho).1
    have := List.all_eq_true.1 h1 i (List.mem_range.2 hi)
    simp only [ho] at this
    have := Array.all_eq_true_iff_forall_mem.1 this e he
    simpa [hbe] using this
  have key : ∀ i j, i < ops.size → waitsB ops ops.size i j = (W.getD i 0).testBit j := fun i j hi => waits_mask hf hb _ i j hi hi
  have hlt : ∀ i ∈ π ++ σ, i < ops.size := fun i hi => by simpa using List.all_eq_true.1 h3 i hi
  have lp : ∀ i ∈ π, i < ops.size := fun i hi => hlt i (by simp [hi])
  have ls : ∀ i ∈ σ, i < ops.size := fun i hi => hlt i (by simp [hi])
  simp only [planB, Bool.and_eq_true]
  refine ⟨⟨⟨⟨⟨⟨⟨h1, h2⟩, h3⟩, h4⟩, ?_⟩, h6⟩, ?_⟩, ?_⟩
  · rw [pairsB_congr π fun i hi j hj => by rw [key i j (lp i hi), key j i (lp j hj)]]; exact h5
  · rw [List.all_eq_true] at h7 ⊢
    intro i hi
    have := h7 i hi
    rw [List.all_eq_true] at this ⊢
    intro j hj
    rw [key i j (ls i hi)]; exact this j hj
  · rw [pairsB_congr σ fun i hi j hj => by rw [key j i (ls j hj)]]; exact h8
theorem drawP_lM {P : Program} {ops : Array Oper} {s : List AV} {H : Heap} {K : KS} (π : List Nat) (F : List Nat) (D : Option Nat) (σ : List Nat) (m : List Bool) (W : List Nat) (hm : P.follows .mixedOrders = true) (hB : planM ops π F D σ W = true)
    (h : lwF P ops m F D π none s H (swK P ops σ K)) : drawP P ops s H K := drawP_lF π F D σ m hm (planB_of hB) h
end Go.Lg
