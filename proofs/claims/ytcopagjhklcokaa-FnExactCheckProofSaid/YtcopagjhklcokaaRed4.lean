/- GpTC, GpMN, GpTE, cut to what is needed. -/
import Derived.Test.YtcopagjhklcokaaRed3
import Derived.Test.YtcopagjhklcokaaRed1
import Derived.Test.YtcopagjhklcokaaRed2
import Derived.Test.YtcopagjhklcokaaReb7
open Nat(reduceAdd reduceMul reduceSub reduceEqDiff reduceLeDiff)
set_option linter.unusedSimpArgs false
set_option linter.unusedVariables false
set_option maxRecDepth 100000
namespace Go.Lg
open Go.Proofs
def chkA : Option (Nat × List Brn) → AV
  | some (n, l) => .tup [int n, rsl eB l]
  | none => .tup [int (-1), rsl eB []]
theorem chkF_some {p : Puz} {f : Nat} {ms : List Nat} {bs : List Brn} {m : Nat} (h : endM p ms = some m) : chkF p (f + 1) ms bs = some (m, bs) := by
  unfold chkF; rw [h]
theorem chkF_nil {p : Puz} {f : Nat} {ms : List Nat} (h : endM p ms = none) : chkF p (f + 1) ms [] = none := by
  unfold chkF; rw [h]
theorem chkF_cons {p : Puz} {f : Nat} {ms : List Nat} {b : Brn} {r : List Brn} (h : endM p ms = none) : chkF p (f + 1) ms (b :: r) = if 0 < b.tech then chkF p f (narM p b.tech.toNat ms) r else tryL (chkF p f) ms b.cell.toNat (mvals (mAt ms b.cell.toNat) 4) r 0 := by
  conv => lhs; unfold chkF
  rw [h]
theorem cut_brn (b : Brn) (r : List Brn) : cutS 2 (r.length + 1) (fl eB (b :: r)) (Int.toNat 1) (r.length + 1) = some (rsl eB r) := by
  have h := cutS_flN (E := eB) (sz := 2) (xs := b :: r) (a := 1) ⟨by omega, by simp only [List.length_cons]; omega⟩
  have e : sub (b :: r) (1 : Int) ((b :: r).length : Int) = r := by simp [sub]
  rw [e] at h
  exact h
set_option maxHeartbeats 4000000 in
theorem checkLines_run {p : Puz} {n : Nat} (hp : PuzN p n) (hv : puzzleValid p = true) (hg : p.given.length = n * n) : ∀ (F : Nat) (ms : List Nat) (bs : List Brn), MsN ms n → bs.length < F → bs.length ≤ 200 → (∀ b ∈ bs, brnOk p.given.length b = true) → Reads Try.prog 95 [aP p, ints (nats ms), rsl eB bs] (chkA (chkF p F ms bs)) := by
  intro F
  induction F using Nat.strongRecOn with
  | ind F ih =>
  intro ms bs hm hF h200 hb
  have hn := hp.hn
  have hsq : 4 ≤ n * n ∧ n * n ≤ 16 := by rcases hn with rfl | rfl | rfl <;> omega
  refine Reads.ice (Q := fun v H' => frzA H' v = some (chkA (chkF p F ms bs))) ?_ (fun r H' h => h)
  obtain ⟨R, hR⟩ : ∃ R, R = chkF p F ms bs := ⟨_, rfl⟩
  rw [← hR]
  refine RunCall.cw (c := _) Try.func95 rfl (n := 72) Try.ntmps95 (rs := [.tmp 6, .tmp 7]) rfl ?_
  simp only [List.length_cons, List.length_nil, Nat.reduceAdd, Nat.reduceSub, List.replicate, List.cons_append, List.nil_append]
  simp(maxSteps:=999999)(disch:=omega)only[go_sem,reduceAdd,reduceMul,reduceSub,reduceEqDiff,reduceLeDiff]
  intro g
  refine loop_rule2 (fun (f : Nat) (b : List Nat × List Brn) => f) (fun f b => f ≤ F ∧ MsN b.1 n ∧ b.2.length < f ∧ b.2.length ≤ 200 ∧ (∀ x ∈ b.2, brnOk p.given.length x = true) ∧ chkF p f b.1 b.2 = R) (fun f b => [.a, .p (ints (nats b.1)), .p (rsl eB b.2), .k, .a, .a, .a, .a, .a, .a, .a, .a, .a, .a, .a, .a, .a, .a, .a, .a, .a, .a, .a, .a, .a, .a, .a, .a, .a, .a, .a, .a, .a, .a, .a, .a, .a, .a, .a, .a, .a, .a, .a, .a, .a, .a, .a, .a, .a, .a, .a, .a, .a, .a, .a, .a, .a, .a, .a, .a, .a, .a, .a, .a, .a, .a, .a, .a, .a, .a, .a, .a]) (fun _ _ => [some ⟨g, 1, cP p⟩]) F (ms, bs) ⟨Nat.le_refl _, hm, hF, h200, hb, hR.symm⟩ (by simp(maxSteps:=999999)(disch:=omega)only[go_sem,reduceAdd,reduceMul,reduceSub,reduceEqDiff,reduceLeDiff]) (HLe.refl _) ?_
  rintro f ⟨ns, cs⟩ ⟨hf, hns, hcs, hc2, hcb, hC⟩
  simp only at hns hcs hc2 hcb hC ⊢
  obtain ⟨f, rfl⟩ : ∃ f', f = f' + 1 := ⟨f - 1, by omega⟩
  simp(maxSteps:=999999)(disch:=omega)only[go_sem,reduceAdd,reduceMul,reduceSub,reduceEqDiff,reduceLeDiff]
  first | refine OpS.mk (masksEnd_run hp ns hns) (⟨_, Try.func128, rfl, rfl⟩ : Enters Try.prog 128) rfl rfl rfl rfl rfl ?_ | refine Loud.mk (masksEnd_run hp ns hns) (⟨_, Try.func128, rfl, rfl⟩ : Enters Try.prog 128) rfl rfl rfl rfl rfl ?_
  simp(maxSteps:=999999)(disch:=omega)only[go_sem,reduceAdd,reduceMul,reduceSub,reduceEqDiff,reduceLeDiff]
  cases he : endM p ns with
  | some m =>
    rw [chkF_some he] at hC
    subst hC
    simp(maxSteps:=999999)(disch:=omega)only[go_sem,reduceAdd,reduceMul,reduceSub,reduceEqDiff,reduceLeDiff]
    exact ⟨_, HLe.refl _, rfl⟩
  | none =>
    cases cs with
    | nil =>
      rw [chkF_nil he] at hC
      subst hC
      simp(maxSteps:=999999)(disch:=omega)only[go_sem,reduceAdd,reduceMul,reduceSub,reduceEqDiff,reduceLeDiff]
      ((first | with_reducible refine condK_dec ?_ ?_ | with_reducible refine condK_ndec ?_ ?_ | with_reducible refine condK_nb ?_ ?_ | refine condK_b ?_ ?_) <;> intro c1)
      rotate_left
      · exact absurd rfl c1
      simp(maxSteps:=999999)(disch:=omega)only[go_sem,reduceAdd,reduceMul,reduceSub,reduceEqDiff,reduceLeDiff]
      exact ⟨_, HLe.refl _, rfl⟩
    | cons b r =>
      rw [chkF_cons he] at hC
      have hbk := hcb b (by simp)
      obtain ⟨bt, bc⟩ := b
      simp only [brnOk, decide_eq_true_eq] at hbk hC
      obtain ⟨t, rfl⟩ : ∃ t : Nat, bt = t := ⟨bt.toNat, by omega⟩
      obtain ⟨k, rfl⟩ : ∃ k : Nat, bc = k := ⟨bc.toNat, by omega⟩
      simp only [List.length_cons] at hcs hc2
      rw [Int.toNat_natCast, Int.toNat_natCast] at hC
      have hrb : ∀ x ∈ r, brnOk p.given.length x = true := fun x hx => hcb x (by simp [hx])
      have hrl : r.length ≤ 199 := by omega
      simp(maxSteps:=999999)(disch:=omega)only[go_sem,reduceAdd,reduceMul,reduceSub,reduceEqDiff,reduceLeDiff]
      ((first | with_reducible refine condK_dec ?_ ?_ | with_reducible refine condK_ndec ?_ ?_ | with_reducible refine condK_nb ?_ ?_ | refine condK_b ?_ ?_) <;> intro c1)
      · exfalso; omega
      have hlc : ((⟨t, k⟩ : Brn) :: r).length = r.length + 1 := rfl
      have hn0 : nth ((⟨t, k⟩ : Brn) :: r) (0 : Int) = ⟨t, k⟩ := rfl
      simp(maxSteps:=999999)(disch:=omega)only[go_sem,reduceAdd,reduceMul,reduceSub,reduceEqDiff,reduceLeDiff, hn0]
      intro g10
      simp(maxSteps:=999999)(disch:=omega)only[go_sem,reduceAdd,reduceMul,reduceSub,reduceEqDiff,reduceLeDiff, cut_brn]
      ((first | with_reducible refine condK_dec ?_ ?_ | with_reducible refine condK_ndec ?_ ?_ | with_reducible refine condK_nb ?_ ?_ | refine condK_b ?_ ?_) <;> intro c2)
      · rw [if_pos c2] at hC
        simp(maxSteps:=999999)(disch:=omega)only[go_sem,reduceAdd,reduceMul,reduceSub,reduceEqDiff,reduceLeDiff]
        first | refine OpS.mk (NarrowBy_run hp hv ns hns t (by omega)) (⟨_, Try.func125, rfl, rfl⟩ : Enters Try.prog 125) rfl rfl rfl rfl rfl ?_ | refine Loud.mk (NarrowBy_run hp hv ns hns t (by omega)) (⟨_, Try.func125, rfl, rfl⟩ : Enters Try.prog 125) rfl rfl rfl rfl rfl ?_
        simp(maxSteps:=999999)(disch:=omega)only[go_sem,reduceAdd,reduceMul,reduceSub,reduceEqDiff,reduceLeDiff]
        exact ⟨f, (narM p t ns, r), ⟨⟨by omega, narM_ok hns, by show r.length < f; omega, by show r.length ≤ 200; omega, hrb, hC⟩, by omega⟩, by first | rfl | exact ⟨rfl, rfl⟩ | trivial, HLe.app _ _⟩
      · rw [if_neg c2] at hC
        have hk : k < n * n := by omega
        have hnk := nth_nats ns k
        have hmk := hns.lt hn k
        have hnl : (nats ns).length = n * n := by rw [nats_len]; exact hns.len
        have hvl := mvals_len (mAt ns k) 4
        simp(maxSteps:=999999)(disch:=omega)only[go_sem,reduceAdd,reduceMul,reduceSub,reduceEqDiff,reduceLeDiff, hnk]
        first | refine OpS.mk (iMaskValues_run (mAt ns k) hmk) (⟨_, Try.func131, rfl, rfl⟩ : Enters Try.prog 131) rfl rfl rfl rfl rfl ?_ | refine Loud.mk (iMaskValues_run (mAt ns k) hmk) (⟨_, Try.func131, rfl, rfl⟩ : Enters Try.prog 131) rfl rfl rfl rfl rfl ?_
        simp(maxSteps:=999999)(disch:=omega)only[go_sem,reduceAdd,reduceMul,reduceSub,reduceEqDiff,reduceLeDiff]
        obtain ⟨V, hV⟩ : ∃ V, V = mvals (mAt ns k) 4 := ⟨_, rfl⟩
        rw [← hV] at hC hvl ⊢
        refine loop_rule2 (fun (i : Nat) (b : List Brn × Nat) => V.length - i) (fun i b => i ≤ V.length ∧ (∃ pre, r = pre ++ b.1) ∧ b.2 + 3 * b.1.length ≤ 3 * r.length + i ∧ tryL (chkF p f) ns k (V.drop i) b.1 b.2 = R) (fun i b => [.a, .k, .p (rsl eB b.1), .k, .a, .a, .a, .a, .a, .a, .k, .p (int b.2), .a, .a, .a, .a, .a, .a, .a, .a, .a, .a, .a, .a, .a, .a, .a, .a, .a, .a, .a, .a, .a, .a, .a, .a, .a, .a, .a, .a, .a, .a, .a, .a, .a, .a, .k, .k, .p (int i), .a, .a, .a, .a, .a, .a, .a, .a, .a, .a, .a, .a, .a, .a, .a, .a, .a, .a, .a, .a, .a, .a, .a]) (fun _ _ => [some ⟨g, 1, cP p⟩, some ⟨g10, 2, [.f (.int .i64 t), .f (.int .i64 k)]⟩]) 0 (r, 0) ⟨Nat.zero_le _, ⟨[], rfl⟩, by show 0 + 3 * r.length ≤ _; omega, hC⟩ (by simp(maxSteps:=999999)(disch:=omega)only[go_sem,reduceAdd,reduceMul,reduceSub,reduceEqDiff,reduceLeDiff]; first | rfl | exact ⟨rfl, rfl⟩ | exact ⟨rfl, rfl, rfl⟩) (HLe.refl _) ?_
        rintro i ⟨l, s⟩ ⟨hi, ⟨pre, hpre⟩, hs, hT⟩
        simp only at hpre hs hT ⊢
        have hll : l.length ≤ r.length := by rw [hpre, List.length_append]; omega
        have hlb : ∀ x ∈ l, brnOk p.given.length x = true := fun x hx => hrb x (by rw [hpre]; simp [hx])
        simp(maxSteps:=999999)(disch:=omega)only[go_sem,reduceAdd,reduceMul,reduceSub,reduceEqDiff,reduceLeDiff]
        ((first | with_reducible refine condK_dec ?_ ?_ | with_reducible refine condK_ndec ?_ ?_ | with_reducible refine condK_nb ?_ ?_ | refine condK_b ?_ ?_) <;> intro c3)
        · have c3 : i < V.length := by omega
          rw [tryL_step c3] at hT
          have hvm : nth V (i : Int) ∈ mvals (mAt ns k) 4 := by rw [← hV, nth_eq (by omega)]; exact List.getElem_mem _
          obtain ⟨v, hv1, hv2, hv3, _⟩ := mvals_bit hvm
          have hmt := hns.tried hvm
          rw [hv1, Int.toNat_natCast] at hT hmt
          have hcl := ih f (by omega) (ns.set k (2 ^ v)) l hmt (by omega) (by omega) hlb
          have hck := chkF_ok p f (ns.set k (2 ^ v)) l
          simp(maxSteps:=999999)(disch:=omega)only[go_sem,reduceAdd,reduceMul,reduceSub,reduceEqDiff,reduceLeDiff, hv1]
          refine drawP_q foll (by kernel_rfl) ?_
          simp (maxSteps := 1000000) (disch := omega) only [go_sem, Nat.reduceBEq, Bool.true_or, Nat.reduceAdd, Nat.reduceMul, Nat.reduceSub, Nat.reduceEqDiff, Nat.reduceLeDiff]
          refine quietW.mk (tried_run hn ns hns k v hk hv3) (⟨_, Try.func132, rfl, rfl⟩ : Enters Try.prog 132) rfl rfl rfl rfl rfl ?_
          simp(maxSteps:=999999)(disch:=omega)only[go_sem,reduceAdd,reduceMul,reduceSub,reduceEqDiff,reduceLeDiff]
          cases hc : chkF p f (ns.set k (2 ^ v)) l with
          | none =>
            rw [hc] at hT hcl
            subst hT
            change Reads _ _ _ (.tup [int (-1), rsl eB []]) at hcl
            refine quietW.mk (hcl) (⟨_, Try.func95, rfl, rfl⟩ : Enters Try.prog 95) rfl rfl rfl rfl rfl ?_
            simp(maxSteps:=999999)(disch:=omega)only[go_sem,reduceAdd,reduceMul,reduceSub,reduceEqDiff,reduceLeDiff]
            ((first | with_reducible refine condK_dec ?_ ?_ | with_reducible refine condK_ndec ?_ ?_ | with_reducible refine condK_nb ?_ ?_ | refine condK_b ?_ ?_) <;> intro c4)
            rotate_left
            · exfalso; omega
            simp(maxSteps:=999999)(disch:=omega)only[go_sem,reduceAdd,reduceMul,reduceSub,reduceEqDiff,reduceLeDiff]
            exact ⟨_, HLe.refl _, rfl⟩
          | some q =>
            obtain ⟨m, l'⟩ := q
            rw [hc] at hT hcl hck
            obtain ⟨⟨pre2, hp2⟩, hm2⟩ := hck
            simp only at hT
            change Reads _ _ _ (.tup [int (m : Nat), rsl eB l']) at hcl
            refine quietW.mk (hcl) (⟨_, Try.func95, rfl, rfl⟩ : Enters Try.prog 95) rfl rfl rfl rfl rfl ?_
            simp(maxSteps:=999999)(disch:=omega)only[go_sem,reduceAdd,reduceMul,reduceSub,reduceEqDiff,reduceLeDiff]
            ((first | with_reducible refine condK_dec ?_ ?_ | with_reducible refine condK_ndec ?_ ?_ | with_reducible refine condK_nb ?_ ?_ | refine condK_b ?_ ?_) <;> intro c4)
            · exfalso; omega
            simp(maxSteps:=999999)(disch:=omega)only[go_sem,reduceAdd,reduceMul,reduceSub,reduceEqDiff,reduceLeDiff]
            exact ⟨i + 1, (l', s + m), ⟨⟨by omega, ⟨pre ++ pre2, by rw [hpre, hp2, List.append_assoc]⟩, by show s + m + 3 * l'.length ≤ _; omega, hT⟩, by omega⟩, by first | rfl | exact ⟨rfl, rfl⟩ | exact ⟨rfl, by push_cast; rfl, by push_cast; rfl⟩ | trace_state, HLe.refl _⟩
        · have c3 : V.length ≤ i := by omega
          rw [tryL_end c3] at hT
          subst hT
          simp(maxSteps:=999999)(disch:=omega)only[go_sem,reduceAdd,reduceMul,reduceSub,reduceEqDiff,reduceLeDiff]
          exact ⟨_, HLe.refl _, rfl⟩
end Go.Lg

set_option linter.unusedSimpArgs false
set_option linter.unusedVariables false
set_option maxRecDepth 100000
namespace Go.Lg
open Go.Proofs
section
variable {P : Program} {o : Oper} {st : St} {K : KV} {fo : Operand} {ws : Array Operand} {ts : Array TypeId} {f : FuncId} {args args' : List AV} {v : AV}
theorem OpS.mkDT (hc : Reads P f args' v) (he : Enters P f) (ho : o.op = .call ⟨.value fo, ws, ts⟩) (ha : callArgs st fo ws = some (f, args)) (hs : args.mapM (snapD st.h) = some args')
    (hv : tupOk v = true ∧ scal1 v = true) (hsh : ∀ k, shiftA k v = v) (hk : K v st.h) : OpS P o st K :=
  OpS.mkD (RunCall.weaker (Q' := fun r H => r = v ∧ H = []) hc fun v' H' h => ⟨[], hle_nil _, h, rfl⟩) he ho ha hs fun r H' ⟨h1, h2⟩ => by
    subst h1
    subst h2
    refine ⟨⟨hv.1, hv.2, fun id b hb => by simp at hb⟩, ?_⟩
    rw [hsh]
    show K r (st.h ++ [])
    rw [List.append_nil]
    exact hk
end
end Go.Lg

set_option linter.unusedSimpArgs false
set_option linter.unusedVariables false
set_option maxRecDepth 100000
namespace Go.Lg
open Go.Proofs
def chkS (L : Nat) : Option (Nat × List Brn) → AV
  | some (n, l) => .tup [int n, int (L - l.length : Nat)]
  | none => .tup [int (-1), int L]
theorem drop_end {α : Type} {bs pre l : List α} {a : Nat} (ha : a ≤ bs.length) (h : bs.drop a = pre ++ l) : bs.drop (bs.length - l.length) = l ∧ l.length ≤ bs.length - a := by
  have hl : (bs.drop a).length = pre.length + l.length := by rw [h, List.length_append]
  rw [List.length_drop] at hl
  refine ⟨?_, by omega⟩
  have e : bs.length - l.length = a + pre.length := by omega
  rw [e, ← List.drop_drop, h, List.drop_left]
theorem drop_nth {bs : List Brn} {a : Nat} (h : a < bs.length) : bs.drop a = nth bs a :: bs.drop (a + 1) := by
  rw [List.drop_eq_getElem_cons h, nth_eq (by omega)]
  rfl
theorem mvals_zero {m : Nat} (h : m ≤ 30 ∧ m % 2 = 0) : (mvals m 4).length = 0 ↔ m = 0 := by
  have key : ∀ a : Nat, a < 31 → a % 2 = 0 → ((mvals a 4).length = 0 ↔ a = 0) := by decide +kernel
  exact key m (by omega) h.2
theorem endM_is {p : Puz} {ms : List Nat} : endM p ms = if (∃ i : Nat, i < ms.length ∧ mAt ms i = 0) then some 0 else if (∀ i : Nat, i < ms.length → onlyV (mAt ms i) ≠ 0) then some (if solvedV p (nats (onlyL ms)) = true then 1 else 0) else none := by
  have h0 : (∃ m ∈ ms, m = 0) ↔ ∃ i : Nat, i < ms.length ∧ mAt ms i = 0 := by
    constructor
    · rintro ⟨m, hm, rfl⟩
      obtain ⟨i, hi, he⟩ := List.getElem_of_mem hm
      exact ⟨i, hi, by unfold mAt; simp [List.getD, List.getElem?_eq_getElem hi, he]⟩
    · rintro ⟨i, hi, he⟩
      exact ⟨_, mAt_mem hi, he⟩
  have h1 : (∀ m ∈ ms, onlyV m ≠ 0) ↔ ∀ i : Nat, i < ms.length → onlyV (mAt ms i) ≠ 0 := by
    constructor
    · intro h i hi; exact h _ (mAt_mem hi)
    · intro h m hm
      obtain ⟨i, hi, he⟩ := List.getElem_of_mem hm
      have := h i hi
      unfold mAt at this
      simpa [List.getD, List.getElem?_eq_getElem hi, he] using this
  unfold endM
  by_cases a : ∃ m ∈ ms, m = 0
  · rw [if_pos a, if_pos (h0.1 a)]
  · rw [if_neg a, if_neg (fun h => a (h0.2 h))]
    by_cases b : ∀ m ∈ ms, onlyV m ≠ 0
    · rw [if_pos b, if_pos (h1.1 b)]
    · rw [if_neg b, if_neg (fun h => b (h1.2 h))]
theorem snap_fourB {H : Heap} {a b c d a' b' c' d' : AV} (h1 : snapD H a = some a') (h2 : snapD H b = some b') (h3 : snapD H c = some c') (h4 : snapD H d = some d') : [a, b, c, d].mapM (snapD H) = some [a', b', c', d'] := by
  simp only [List.mapM_cons, List.mapM_nil, h1, h2, h3, h4, Option.bind_eq_bind, Option.pure_def, Option.bind_some]
set_option maxHeartbeats 4000000 in
theorem l20Check_run {p : Puz} {n : Nat} (hp : PuzN p n) (hv : puzzleValid p = true) (hg : p.given.length = n * n) (bs : List Brn) (h200 : bs.length ≤ 200) (hb : ∀ b ∈ bs, brnOk p.given.length b = true) : ∀ (F : Nat) (ms : List Nat) (a : Nat), MsN ms n → a ≤ bs.length → bs.length - a < F → Reads Try.prog 93 [aP p, ints (nats ms), rsl eB bs, int a] (chkS bs.length (chkF p F ms (bs.drop a))) := by
  intro F
  induction F using Nat.strongRecOn with
  | ind F ih =>
  intro ms a hm ha hF
  have hn := hp.hn
  have hsq : 4 ≤ n * n ∧ n * n ≤ 16 := by rcases hn with rfl | rfl | rfl <;> omega
  obtain ⟨R, hR⟩ : ∃ R, R = chkF p F ms (bs.drop a) := ⟨_, rfl⟩
  rw [← hR]
  refine RunCall.cw (c := _) Try.func93 rfl (n := 116) Try.ntmps93 (rs := [.tmp 8, .tmp 9]) rfl ?_
  simp only [List.length_cons, List.length_nil, Nat.reduceAdd, Nat.reduceSub, List.replicate, List.cons_append, List.nil_append]
  simp(maxSteps:=999999)(disch:=omega)only[go_sem,reduceAdd,reduceMul,reduceSub,reduceEqDiff,reduceLeDiff]
  intro g
  refine loop_rule2 (fun (f : Nat) (b : List Nat × Nat) => f) (fun f b => f ≤ F ∧ MsN b.1 n ∧ b.2 ≤ bs.length ∧ bs.length - b.2 < f ∧ chkF p f b.1 (bs.drop b.2) = R) (fun f b => [.a, .p (ints (nats b.1)), .k, .p (int b.2), .k, .a, .a, .a, .a, .a, .a, .a, .a, .a, .a, .a, .a, .a, .a, .a, .a, .a, .a, .a, .a, .a, .a, .a, .a, .a, .a, .a, .a, .a, .a, .a, .a, .a, .a, .a, .a, .a, .a, .a, .a, .a, .a, .a, .a, .a, .a, .a, .a, .a, .a, .a, .a, .a, .a, .a, .a, .a, .a, .a, .a, .a, .a, .a, .a, .a, .a, .a, .a, .a, .a, .a, .a, .a, .a, .a, .a, .a, .a, .a, .a, .a, .a, .a, .a, .a, .a, .a, .a, .a, .a, .a, .a, .a, .a, .a, .a, .a, .a, .a, .a, .a, .a, .a, .a, .a, .a, .a, .a, .a, .a, .a]) (fun _ _ => [some ⟨g, 1, cP p⟩]) F (ms, a) ⟨Nat.le_refl _, hm, ha, hF, hR.symm⟩ (by simp(maxSteps:=999999)(disch:=omega)only[go_sem,reduceAdd,reduceMul,reduceSub,reduceEqDiff,reduceLeDiff]) (HLe.refl _) ?_
  rintro f ⟨ns, a⟩ ⟨hf, hns, ha, haf, hC⟩
  simp only at hns ha haf hC ⊢
  obtain ⟨f, rfl⟩ : ∃ f', f = f' + 1 := ⟨f - 1, by omega⟩
  have hnl : (nats ns).length = n * n := by rw [nats_len]; exact hns.len
  have hnl2 := hns.len
  simp(maxSteps:=999999)(disch:=omega)only[go_sem,reduceAdd,reduceMul,reduceSub,reduceEqDiff,reduceLeDiff]
  refine loop_rule2 (fun (k : Nat) (b : Bool × Nat) => n * n - k) (fun k b => k ≤ n * n ∧ (b.1 = true ↔ ∃ i : Nat, i < k ∧ mAt ns i = 0) ∧ b.2 ≤ k ∧ (b.2 = k ↔ ∀ i : Nat, i < k → onlyV (mAt ns i) ≠ 0)) (fun k b => [.a, .k, .k, .k, .k, .a, .a, .a, .a, .a, .p (bool b.1), .p (int b.2), .p (int k), .a, .a, .a, .a, .a, .a, .a, .a, .a, .a, .a, .a, .a, .a, .a, .a, .a, .a, .a, .a, .a, .a, .a, .a, .a, .a, .a, .a, .a, .a, .a, .a, .a, .a, .a, .a, .a, .a, .a, .a, .a, .a, .a, .a, .a, .a, .a, .a, .a, .a, .a, .a, .a, .a, .a, .a, .a, .a, .a, .a, .a, .a, .a, .a, .a, .a, .a, .a, .a, .a, .a, .a, .a, .a, .a, .a, .a, .a, .a, .a, .a, .a, .a, .a, .a, .a, .a, .a, .a, .a, .a, .a, .a, .a, .a, .a, .a, .a, .a, .a, .a, .a, .a]) (fun _ _ => [some ⟨g, 1, cP p⟩]) 0 (false, 0) ⟨Nat.zero_le _, by simp, Nat.le_refl _, by simp⟩ (by simp(maxSteps:=999999)(disch:=omega)only[go_sem,reduceAdd,reduceMul,reduceSub,reduceEqDiff,reduceLeDiff]; first | rfl | exact ⟨rfl, rfl⟩ | exact ⟨rfl, rfl, rfl⟩) (HLe.refl _) ?_
  rintro k ⟨d, c⟩ ⟨hk, hd, hck, hc⟩
  simp only at hd hck hc ⊢
  simp(maxSteps:=999999)(disch:=omega)only[go_sem,reduceAdd,reduceMul,reduceSub,reduceEqDiff,reduceLeDiff]
  ((first | with_reducible refine condK_dec ?_ ?_ | with_reducible refine condK_ndec ?_ ?_ | with_reducible refine condK_nb ?_ ?_ | refine condK_b ?_ ?_) <;> intro c1)
  · have c1 : k < n * n := by omega
    have hmk := hns.lt hn k
    have hnk := nth_nats ns k
    have hz := mvals_zero hmk
    have ho := (mvals_only hmk).1
    have hvl := mvals_len (mAt ns k) 4
    simp(maxSteps:=999999)(disch:=omega)only[go_sem,reduceAdd,reduceMul,reduceSub,reduceEqDiff,reduceLeDiff, hnk]
    first | refine OpS.mk (MaskValues_run (mAt ns k) hmk) (⟨_, Try.func78, rfl, rfl⟩ : Enters Try.prog 78) rfl rfl rfl rfl rfl ?_ | refine Loud.mk (MaskValues_run (mAt ns k) hmk) (⟨_, Try.func78, rfl, rfl⟩ : Enters Try.prog 78) rfl rfl rfl rfl rfl ?_
    simp(maxSteps:=999999)(disch:=omega)only[go_sem,reduceAdd,reduceMul,reduceSub,reduceEqDiff,reduceLeDiff]
    obtain ⟨W, hW⟩ : ∃ W, W = (mvals (mAt ns k) 4).length := ⟨_, rfl⟩
    rw [← hW] at hz ho hvl ⊢
    have hd1 : ∀ e : Bool, (e = true ↔ (d = true ∨ W = 0)) → (e = true ↔ ∃ i : Nat, i < k + 1 ∧ mAt ns i = 0) := fun e he => by
      rw [he, hd, hz]
      constructor
      · rintro (⟨i, h1, h2⟩ | h)
        · exact ⟨i, by omega, h2⟩
        · exact ⟨k, by omega, h⟩
      · rintro ⟨i, h1, h2⟩
        by_cases hik : i = k
        · rw [hik] at h2; exact .inr h2
        · exact .inl ⟨i, by omega, h2⟩
    have hc1 : W = 1 → (c + 1 = k + 1 ↔ ∀ i : Nat, i < k + 1 → onlyV (mAt ns i) ≠ 0) := fun h => by
      have hk0 := ho.1 h
      constructor
      · intro h1 i hi
        by_cases hik : i = k
        · rw [hik]; exact hk0
        · exact hc.1 (by omega) i (by omega)
      · intro h1
        have := hc.2 fun i hi => h1 i (by omega)
        omega
    have hc2 : W ≠ 1 → (c = k + 1 ↔ ∀ i : Nat, i < k + 1 → onlyV (mAt ns i) ≠ 0) := fun h => by
      constructor
      · intro h1; omega
      · intro h1
        exact absurd (ho.2 (h1 k (by omega))) h
    cases d with
    | true =>
      simp(maxSteps:=999999)(disch:=omega)only[go_sem,reduceAdd,reduceMul,reduceSub,reduceEqDiff,reduceLeDiff]
      ((first | with_reducible refine condK_dec ?_ ?_ | with_reducible refine condK_ndec ?_ ?_ | with_reducible refine condK_nb ?_ ?_ | refine condK_b ?_ ?_) <;> intro c2)
      · have c2 : W = 1 := by omega
        simp(maxSteps:=999999)(disch:=omega)only[go_sem,reduceAdd,reduceMul,reduceSub,reduceEqDiff,reduceLeDiff]
        exact ⟨k + 1, (true, c + 1), ⟨⟨by omega, hd1 true (by simp), by show c + 1 ≤ k + 1; omega, hc1 c2⟩, by omega⟩, by first | exact ⟨rfl, by push_cast; rfl, by push_cast; rfl⟩ | trace_state, HLe.refl _⟩
      · have c2 : W ≠ 1 := by omega
        simp(maxSteps:=999999)(disch:=omega)only[go_sem,reduceAdd,reduceMul,reduceSub,reduceEqDiff,reduceLeDiff]
        exact ⟨k + 1, (true, c), ⟨⟨by omega, hd1 true (by simp), by show c ≤ k + 1; omega, hc2 c2⟩, by omega⟩, by first | exact ⟨rfl, rfl, by push_cast; rfl⟩ | trace_state, HLe.refl _⟩
    | false =>
      have hz0 : decide ((W : Int) = 0) = decide (W = 0) := by rw [decide_eq_decide]; omega
      simp(maxSteps:=999999)(disch:=omega)only[go_sem,reduceAdd,reduceMul,reduceSub,reduceEqDiff,reduceLeDiff, hz0]
      ((first | with_reducible refine condK_dec ?_ ?_ | with_reducible refine condK_ndec ?_ ?_ | with_reducible refine condK_nb ?_ ?_ | refine condK_b ?_ ?_) <;> intro c2)
      · have c2 : W = 1 := by omega
        simp(maxSteps:=999999)(disch:=omega)only[go_sem,reduceAdd,reduceMul,reduceSub,reduceEqDiff,reduceLeDiff]
        exact ⟨k + 1, (decide (W = 0), c + 1), ⟨⟨by omega, hd1 _ (by simp), by show c + 1 ≤ k + 1; omega, hc1 c2⟩, by omega⟩, by first | exact ⟨rfl, by push_cast; rfl, by push_cast; rfl⟩ | trace_state, HLe.refl _⟩
      · have c2 : W ≠ 1 := by omega
        simp(maxSteps:=999999)(disch:=omega)only[go_sem,reduceAdd,reduceMul,reduceSub,reduceEqDiff,reduceLeDiff]
        exact ⟨k + 1, (decide (W = 0), c), ⟨⟨by omega, hd1 _ (by simp), by show c ≤ k + 1; omega, hc2 c2⟩, by omega⟩, by first | exact ⟨rfl, rfl, by push_cast; rfl⟩ | trace_state, HLe.refl _⟩
  · have c1 : k = n * n := by omega
    subst c1
    have hE := endM_is (p := p) (ms := ns)
    rw [hnl2] at hE
    cases d with
    | true =>
      rw [if_pos (hd.1 rfl)] at hE
      rw [chkF_some hE] at hC
      subst hC
      simp(maxSteps:=999999)(disch:=omega)only[go_sem,reduceAdd,reduceMul,reduceSub,reduceEqDiff,reduceLeDiff]
      show AV.tup [int 0, int a] = AV.tup [int ((0 : Nat) : Int), int ((bs.length - (bs.drop a).length : Nat) : Int)]
      rw [List.length_drop, Nat.sub_sub_self ha]
      rfl
    | false =>
      rw [if_neg (fun h => by have := hd.2 h; cases this)] at hE
      simp(maxSteps:=999999)(disch:=omega)only[go_sem,reduceAdd,reduceMul,reduceSub,reduceEqDiff,reduceLeDiff]
      ((first | with_reducible refine condK_dec ?_ ?_ | with_reducible refine condK_ndec ?_ ?_ | with_reducible refine condK_nb ?_ ?_ | refine condK_b ?_ ?_) <;> intro c2)
      · have c2 : c = n * n := by omega
        rw [if_pos (hc.1 c2)] at hE
        rw [chkF_some hE] at hC
        subst hC
        have hgl : (nats (onlyL ns)).length ≤ 2 ^ 40 := by rw [nats_len, onlyL_len]; omega
        have hz := hp.size
        have hmg := sMasksGrid_run hn ns hns
        rw [← hz] at hmg
        simp(maxSteps:=999999)(disch:=omega)only[go_sem,reduceAdd,reduceMul,reduceSub,reduceEqDiff,reduceLeDiff]
        refine drawP_q foll (by kernel_rfl) ?_
        simp (maxSteps := 1000000) (disch := omega) only [go_sem, Nat.reduceBEq, Bool.true_or, Nat.reduceAdd, Nat.reduceMul, Nat.reduceSub, Nat.reduceEqDiff, Nat.reduceLeDiff]
        refine quietW.mk (hmg) (⟨_, Try.func133, rfl, rfl⟩ : Enters Try.prog 133) rfl rfl rfl rfl rfl ?_
        simp(maxSteps:=999999)(disch:=omega)only[go_sem,reduceAdd,reduceMul,reduceSub,reduceEqDiff,reduceLeDiff]
        refine quietW.rd (sPuzzleSolved_run p (nats (onlyL ns)) hp.sm hgl) (⟨_, Try.func103, rfl, rfl⟩ : Enters Try.prog 103) rfl rfl rfl rfl ?_
        simp(maxSteps:=999999)(disch:=omega)only[go_sem,reduceAdd,reduceMul,reduceSub,reduceEqDiff,reduceLeDiff]
        have e9 : chkS bs.length (some (if solvedV p (nats (onlyL ns)) = true then 1 else 0, bs.drop a)) = .tup [int (if solvedV p (nats (onlyL ns)) = true then (1 : Int) else 0), int a] := by
          show AV.tup [_, _] = _
          rw [List.length_drop, Nat.sub_sub_self ha]
          split <;> rfl
        rw [e9]
        cases solvedV p (nats (onlyL ns))
        · simp(maxSteps:=999999)(disch:=omega)only[go_sem,reduceAdd,reduceMul,reduceSub,reduceEqDiff,reduceLeDiff]
        · simp(maxSteps:=999999)(disch:=omega)only[go_sem,reduceAdd,reduceMul,reduceSub,reduceEqDiff,reduceLeDiff]
      · have c2 : c ≠ n * n := by omega
        rw [if_neg (fun h => c2 (hc.2 h))] at hE
        simp(maxSteps:=999999)(disch:=omega)only[go_sem,reduceAdd,reduceMul,reduceSub,reduceEqDiff,reduceLeDiff]
        ((first | with_reducible refine condK_dec ?_ ?_ | with_reducible refine condK_ndec ?_ ?_ | with_reducible refine condK_nb ?_ ?_ | refine condK_b ?_ ?_) <;> intro c3)
        · have c3 : a = bs.length := by omega
          have e0 : bs.drop a = [] := List.drop_eq_nil_of_le (by omega)
          rw [e0, chkF_nil hE] at hC
          subst hC
          simp(maxSteps:=999999)(disch:=omega)only[go_sem,reduceAdd,reduceMul,reduceSub,reduceEqDiff,reduceLeDiff]
          rw [c3]
          rfl
        have c3 : a < bs.length := by omega
        have hbk := hb (nth bs a) (by rw [nth_eq (by omega)]; exact List.getElem_mem _)
        rw [drop_nth c3, chkF_cons hE] at hC
        obtain ⟨⟨bt, bc⟩, hbb⟩ : ∃ b, b = nth bs a := ⟨_, rfl⟩
        rw [← hbb] at hC hbk
        simp only [brnOk, decide_eq_true_eq] at hbk hC
        obtain ⟨t, rfl⟩ : ∃ t : Nat, bt = t := ⟨bt.toNat, by omega⟩
        obtain ⟨k, rfl⟩ : ∃ k : Nat, bc = k := ⟨bc.toNat, by omega⟩
        rw [Int.toNat_natCast, Int.toNat_natCast] at hC
        simp(maxSteps:=999999)(disch:=omega)only[go_sem,reduceAdd,reduceMul,reduceSub,reduceEqDiff,reduceLeDiff, ← hbb]
        intro g14
        ((first | with_reducible refine condK_dec ?_ ?_ | with_reducible refine condK_ndec ?_ ?_ | with_reducible refine condK_nb ?_ ?_ | refine condK_b ?_ ?_) <;> intro c4)
        · rw [if_pos c4] at hC
          simp(maxSteps:=999999)(disch:=omega)only[go_sem,reduceAdd,reduceMul,reduceSub,reduceEqDiff,reduceLeDiff]
          first | refine OpS.mk (sNarrowBy_run hp hv ns hns t (by omega)) (⟨_, Try.func79, rfl, rfl⟩ : Enters Try.prog 79) rfl rfl rfl rfl rfl ?_ | refine Loud.mk (sNarrowBy_run hp hv ns hns t (by omega)) (⟨_, Try.func79, rfl, rfl⟩ : Enters Try.prog 79) rfl rfl rfl rfl rfl ?_
          simp(maxSteps:=999999)(disch:=omega)only[go_sem,reduceAdd,reduceMul,reduceSub,reduceEqDiff,reduceLeDiff]
          exact ⟨f, (narM p t ns, a + 1), ⟨⟨by omega, narM_ok hns, by show a + 1 ≤ _; omega, by show bs.length - (a + 1) < f; omega, hC⟩, by omega⟩, by first | exact ⟨rfl, by push_cast; rfl⟩ | (push_cast; rfl), HLe.app _ _⟩
        · rw [if_neg c4] at hC
          have hk : k < n * n := by omega
          have hnk := nth_nats ns k
          have hmk := hns.lt hn k
          have hvl := mvals_len (mAt ns k) 4
          simp(maxSteps:=999999)(disch:=omega)only[go_sem,reduceAdd,reduceMul,reduceSub,reduceEqDiff,reduceLeDiff, hnk]
          first | refine OpS.mk (MaskValues_run (mAt ns k) hmk) (⟨_, Try.func78, rfl, rfl⟩ : Enters Try.prog 78) rfl rfl rfl rfl rfl ?_ | refine Loud.mk (MaskValues_run (mAt ns k) hmk) (⟨_, Try.func78, rfl, rfl⟩ : Enters Try.prog 78) rfl rfl rfl rfl rfl ?_
          simp(maxSteps:=999999)(disch:=omega)only[go_sem,reduceAdd,reduceMul,reduceSub,reduceEqDiff,reduceLeDiff]
          obtain ⟨V, hV⟩ : ∃ V, V = mvals (mAt ns k) 4 := ⟨_, rfl⟩
          rw [← hV] at hC hvl ⊢
          refine loop_rule2 (fun (i : Nat) (b : Nat × Nat) => V.length - i) (fun i b => i ≤ V.length ∧ a + 1 ≤ b.1 ∧ b.1 ≤ bs.length ∧ b.2 + 3 * (bs.length - b.1) ≤ 3 * bs.length + i ∧ tryL (chkF p f) ns k (V.drop i) (bs.drop b.1) b.2 = R) (fun i b => [.a, .k, .k, .p (int b.1), .k, .a, .a, .a, .a, .a, .a, .a, .a, .a, .k, .p (int b.2), .k, .p (int i), .a, .a, .a, .a, .a, .a, .a, .a, .a, .a, .a, .a, .a, .a, .a, .a, .a, .a, .a, .a, .a, .a, .a, .a, .a, .a, .a, .a, .a, .a, .a, .a, .a, .a, .a, .a, .a, .a, .a, .a, .a, .a, .a, .a, .a, .a, .a, .a, .a, .a, .a, .a, .a, .a, .a, .a, .a, .a, .a, .a, .a, .a, .a, .a, .a, .a, .a, .a, .a, .a, .a, .a, .a, .a, .a, .a, .a, .a, .a, .a, .a, .a, .a, .a, .a, .a, .a, .a, .a, .a, .a, .a, .a, .a, .a, .a, .a, .a]) (fun _ _ => [some ⟨g, 1, cP p⟩, some ⟨g14, 2, [.f (.int .i64 t), .f (.int .i64 k)]⟩]) 0 (a + 1, 0) ⟨Nat.zero_le _, Nat.le_refl _, by show a + 1 ≤ _; omega, by show 0 + 3 * (bs.length - (a + 1)) ≤ _; omega, hC⟩ (by simp(maxSteps:=999999)(disch:=omega)only[go_sem,reduceAdd,reduceMul,reduceSub,reduceEqDiff,reduceLeDiff]; first | rfl | exact ⟨rfl, rfl⟩ | exact ⟨by push_cast; rfl, rfl, rfl⟩) (HLe.refl _) ?_
          rintro i ⟨e, s⟩ ⟨hi, he1, he2, hs, hT⟩
          simp only at he1 he2 hs hT ⊢
          simp(maxSteps:=999999)(disch:=omega)only[go_sem,reduceAdd,reduceMul,reduceSub,reduceEqDiff,reduceLeDiff]
          ((first | with_reducible refine condK_dec ?_ ?_ | with_reducible refine condK_ndec ?_ ?_ | with_reducible refine condK_nb ?_ ?_ | refine condK_b ?_ ?_) <;> intro c5)
          · have c5 : i < V.length := by omega
            rw [tryL_step c5] at hT
            have hvm : nth V (i : Int) ∈ mvals (mAt ns k) 4 := by rw [← hV, nth_eq (by omega)]; exact List.getElem_mem _
            obtain ⟨v, hv1, hv2, hv3, _⟩ := mvals_bit hvm
            have hmt := hns.tried hvm
            rw [hv1, Int.toNat_natCast] at hT hmt
            have hcl := ih f (by omega) (ns.set k (2 ^ v)) e hmt he2 (by omega)
            have hck := chkF_ok p f (ns.set k (2 ^ v)) (bs.drop e)
            have hs2 := shl_small (v := (v : Int)) (by omega)
            rw [Int.toNat_natCast] at hs2
            have hsr := setRange_nats (b := ns) (k := k) (v := 2 ^ v) (by omega)
            simp(maxSteps:=999999)(disch:=omega)only[go_sem,reduceAdd,reduceMul,reduceSub,reduceEqDiff,reduceLeDiff]
            intro g1 g2
            refine drawP_lF [0, 1, 2, 3, 4, 5, 6, 7] [] none [8, 9] [] foll (by kernel_rfl) ?_
            simp (maxSteps := 1000000) (disch := omega) only [go_sem, Nat.reduceBEq, Bool.true_or, Nat.reduceAdd, Nat.reduceMul, Nat.reduceSub, Nat.reduceEqDiff, Nat.reduceLeDiff]
            simp(maxSteps:=999999)(disch:=omega)only[go_sem,reduceAdd,reduceMul,reduceSub,reduceEqDiff,reduceLeDiff, hv1, hs2, hnl, hsr]
            obtain ⟨HH, hHH⟩ : ∃ HH : Heap, HH = [some ⟨g, 1, cP p⟩, some ⟨g14, 2, [.f (.int .i64 t), .f (.int .i64 k)]⟩, some ⟨g2, 1, cl (eI .i64) (nats (ns.set k (2 ^ v)))⟩] := ⟨_, rfl⟩
            have hl2 : (nats (ns.set k (2 ^ v))).length = n * n := by rw [nats_len, List.length_set]; exact hnl2
            have hown : OwnI HH (.own 2 g2 0 (n * n) none) (nats (ns.set k (2 ^ v))) [2] := by
              have := OwnI.o (H := HH) 2 g2 none (nats (ns.set k (2 ^ v))) [] (by rw [List.append_nil, hHH]; exact look_of (b := ⟨g2, 1, cl (eI .i64) (nats (ns.set k (2 ^ v)))⟩) rfl)
              rwa [hl2] at this
            rw [← hHH, Nat.zero_add (n * n)]
            refine OpS.mkDT hcl (⟨_, Try.func93, rfl, rfl⟩ : Enters Try.prog 93) rfl rfl (snap_fourB snapD_aP hown.snap rfl rfl) ?_ ?_ ?_
            · cases chkF p f (ns.set k (2 ^ v)) (bs.drop e) with
              | none => exact ⟨rfl, rfl⟩
              | some q => exact ⟨rfl, rfl⟩
            · intro j
              cases chkF p f (ns.set k (2 ^ v)) (bs.drop e) with
              | none => rfl
              | some q => rfl
            cases hc : chkF p f (ns.set k (2 ^ v)) (bs.drop e) with
            | none =>
              rw [hc] at hT
              subst hT
              show vwK _ _ _ _ _ _ (.tup [int (-1), int (bs.length : Nat)]) _
              simp(maxSteps:=999999)(disch:=omega)only[go_sem,reduceAdd,reduceMul,reduceSub,reduceEqDiff,reduceLeDiff]
              ((first | with_reducible refine condK_dec ?_ ?_ | with_reducible refine condK_ndec ?_ ?_ | with_reducible refine condK_nb ?_ ?_ | refine condK_b ?_ ?_) <;> intro c6)
              rotate_left
              · exfalso; omega
              simp(maxSteps:=999999)(disch:=omega)only[go_sem,reduceAdd,reduceMul,reduceSub,reduceEqDiff,reduceLeDiff]
              rfl
            | some q =>
              obtain ⟨m, l'⟩ := q
              rw [hc] at hT hck
              obtain ⟨⟨pre2, hp2⟩, hm2⟩ := hck
              simp only at hT
              obtain ⟨hd1, hd2⟩ := drop_end he2 hp2
              rw [List.length_drop] at hm2
              show vwK _ _ _ _ _ _ (.tup [int (m : Nat), int ((bs.length - l'.length : Nat) : Int)]) _
              simp(maxSteps:=999999)(disch:=omega)only[go_sem,reduceAdd,reduceMul,reduceSub,reduceEqDiff,reduceLeDiff]
              ((first | with_reducible refine condK_dec ?_ ?_ | with_reducible refine condK_ndec ?_ ?_ | with_reducible refine condK_nb ?_ ?_ | refine condK_b ?_ ?_) <;> intro c6)
              · exfalso; omega
              simp(maxSteps:=999999)(disch:=omega)only[go_sem,reduceAdd,reduceMul,reduceSub,reduceEqDiff,reduceLeDiff]
              exact ⟨i + 1, (bs.length - l'.length, s + m), ⟨⟨by omega, by show a + 1 ≤ bs.length - l'.length; omega, by show bs.length - l'.length ≤ _; omega, by show s + m + 3 * (bs.length - (bs.length - l'.length)) ≤ _; omega, by show tryL _ _ _ _ (bs.drop (bs.length - l'.length)) _ = R; rw [hd1]; exact hT⟩, by omega⟩, by first | exact ⟨rfl, by push_cast; rfl, by push_cast; rfl⟩ | trace_state, by rw [hHH]; exact HLe.app _ _⟩
          · have c5 : V.length ≤ i := by omega
            rw [tryL_end c5] at hT
            subst hT
            simp(maxSteps:=999999)(disch:=omega)only[go_sem,reduceAdd,reduceMul,reduceSub,reduceEqDiff,reduceLeDiff]
            show AV.tup [int s, int e] = AV.tup [int (s : Nat), int ((bs.length - (bs.drop e).length : Nat) : Int)]
            rw [List.length_drop, Nat.sub_sub_self he2]
end Go.Lg
