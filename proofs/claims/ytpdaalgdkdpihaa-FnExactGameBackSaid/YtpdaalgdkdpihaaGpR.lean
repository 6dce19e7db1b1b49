/- Games that are copied. -/
import Derived.Test.YtpdaalgdkdpihaaGpQ
set_option linter.unusedSimpArgs false
set_option linter.unusedVariables false
set_option maxRecDepth 100000
namespace Go.Lg
open Go.Proofs

section
variable {P : Program} {ops : Array Oper} {o : Oper} {s : List AV} {H : Heap} {K : KV} {fo : Operand} {xs : Array Operand} {ts : Array TypeId} {f : FuncId} {args args' : List AV} {zs : List Int}
theorem Loud.mkP {p : Puz} (hc : RunCall P f args [] (puzQ p)) (he : Enters P f) (ho : o.op = .call ⟨.value fo, xs, ts⟩) (ha : callArgs ⟨s, H⟩ fo xs = some (f, args)) (hf : args.all frozenA = true)
    (hk : ∀ cs H' S, OwnP (H ++ H') cs p S → (∀ i ∈ S, H.length ≤ i ∧ i < H.length + H'.length) → K (.agg cs) (H ++ H')) : Loud P ops o s H K :=
  Loud.call ho ha fun s' ha' => OpS.mkP hc he ho ha' hf hk
end
theorem VA.wk3 {w : World} {X : Cx} {H : Heap} {a b : CV} {u : Value} (h : VA w X H (.agg [a, b, .f .nil]) u) : VA w X H (.agg [a, b, .f (.sl 0 [])]) u := by
  cases h with
  | agg cs vs hs h =>
    refine .agg _ vs hs fun j hj => ?_
    obtain ⟨x, h1, h2⟩ := h j hj
    refine ⟨x, h1, ?_⟩
    rcases j with _ | _ | _ | j
    · exact h2
    · exact h2
    · have h2 : VF w X.I .nil x := h2
      cases h2
      exact VF.sl0 none 0
    · simp at hj; omega
theorem cons2 {a b : Option Blk} {L : Heap} {k : Nat} (h : 2 ≤ k) : (a :: b :: L)[k]? = L[k - 2]? := by
  obtain ⟨n, rfl⟩ : ∃ n, k = n + 2 := ⟨k - 2, by omega⟩
  rfl
theorem nodup4 {S1 S2 S3 S4 : List Nat} {n1 n2 : Nat} (h12 : (S1 ++ S2).Nodup) (h3 : S3.Nodup) (h4 : S4.Nodup) (k12 : ∀ i ∈ S1 ++ S2, i < n1) (k3 : ∀ i ∈ S3, n1 ≤ i ∧ i < n2) (k4 : ∀ i ∈ S4, n2 ≤ i) (hn : n1 ≤ n2) : (S1 ++ (S2 ++ (S3 ++ S4))).Nodup := by
  rw [← List.append_assoc, List.nodup_append]
  refine ⟨h12, ?_, fun a ha b hb he => ?_⟩
  · rw [List.nodup_append]
    refine ⟨h3, h4, fun a ha b hb he => ?_⟩
    have := k3 a ha; have := k4 b hb; omega
  · have := k12 a ha
    rcases List.mem_append.1 hb with hb | hb
    · have := k3 b hb; omega
    · have := k4 b hb
      omega

theorem copyPuzzle_puz (p : Puz) (hx : smP p) : RunCall Try.prog 56 [aP p] [] (puzQ p) := by
  refine (copyPuzzle_own p hx).wk ?_
  rintro v H' ⟨c, r, S1, S2, rfl, h1, h2, h3⟩
  rcases h2 with ⟨rfl, h4, rfl⟩ | h2
  · refine ⟨.agg [.f (.int .i64 p.size), c, .f (.sl 0 [])], fun w X u h => ?_, _, _, rfl, ⟨_, _, S1, [], rfl, rfl, h1, by rw [h4]; exact .e⟩, h3⟩
    exact h.wk3
  · exact ⟨_, fun _ _ _ h => h, _, _, rfl, ⟨_, _, S1, S2, rfl, rfl, h1, h2⟩, h3⟩

theorem copyGame_own (q : Gam) (hx : smG q) : RunCall Try.prog 61 [aG q] [] (gamQ q) := by
  refine RunCall.cw (c := _) Try.func61 rfl (n := 13) Try.ntmps61 (rs := [.cell 2 34]) rfl ?_
  simp only [List.length_cons, List.length_nil, Nat.reduceAdd, Nat.reduceSub, List.replicate, List.cons_append, List.nil_append]
  simp (maxSteps := 1000000) (disch := omega) only [go_sem, Nat.reduceAdd, Nat.reduceMul, Nat.reduceSub, Nat.reduceEqDiff, Nat.reduceLeDiff]
  intro g1 g2
  refine drawP_lF [0, 1, 3, 4, 6, 7, 2, 5] [] none [8, 9, 10] [] foll (by kernel_rfl) ?_
  simp (maxSteps := 1000000) (disch := omega) only [go_sem, Nat.reduceBEq, Bool.true_or, Nat.reduceAdd, Nat.reduceMul, Nat.reduceSub, Nat.reduceEqDiff, Nat.reduceLeDiff]
  refine Loud.mkP (copyPuzzle_puz q.task hx.1) (⟨_, Try.func56, rfl, rfl⟩ : Enters Try.prog 56) rfl rfl rfl ?_
  rintro _ H1 _ ⟨⟨c1, c2, S1, S2, rfl, rfl, k1, k2⟩, kn⟩ hS
  simp (maxSteps := 1000000) (disch := omega) only [go_sem, Nat.reduceAdd, Nat.reduceMul, Nat.reduceSub, Nat.reduceEqDiff, Nat.reduceLeDiff]
  refine Loud.mkI (Clone_own q.put hx.2.1) (⟨_, Try.func78, rfl, rfl⟩ : Enters Try.prog 78) rfl rfl rfl ?_
  intro c3 H3 S3 h3 hS3
  simp (maxSteps := 1000000) (disch := omega) only [go_sem, Nat.reduceAdd, Nat.reduceMul, Nat.reduceSub, Nat.reduceEqDiff, Nat.reduceLeDiff]
  refine OpS.mkI (Clone_own q.moves hx.2.2) (⟨_, Try.func78, rfl, rfl⟩ : Enters Try.prog 78) rfl rfl rfl ?_
  intro c4 H4 S4 h4 hS4
  simp (maxSteps := 1000000) (disch := omega) only [go_sem, Nat.reduceAdd, Nat.reduceMul, Nat.reduceSub, Nat.reduceEqDiff, Nat.reduceLeDiff]
  simp only [List.length_append, List.length_cons, List.length_nil] at hS hS3 hS4
  refine ⟨_, HLe.refl _, _, _, rfl, OwnG.of (p := q.task) (S1 := S1) (S2 := S2) ⟨⟨_, _, _, _, rfl, rfl, k1.same fun k hk => ?_, k2.same fun k hk => ?_⟩, kn⟩ (h3.same fun k hk => ?_) (h4.same fun k hk => ?_) (nodup4 (n1 := H1.length + 2) (n2 := H1.length + 2 + H3.length) kn h3.nd h4.nd (fun k hk => ?_) (fun k hk => ?_) (fun k hk => ?_) (by omega))⟩
  · have := hS k (by simp [hk])
    simp only [List.cons_append, List.nil_append]
    rw [cons2 (by omega), cons2 (by omega), List.getElem?_append_left (by simp; omega), List.getElem?_append_left (by omega)]
  · have := hS k (by simp [hk])
    simp only [List.cons_append, List.nil_append]
    rw [cons2 (by omega), cons2 (by omega), List.getElem?_append_left (by simp; omega), List.getElem?_append_left (by omega)]
  · have := hS3 k hk
    simp only [List.cons_append, List.nil_append]
    rw [cons2 (by omega), cons2 (by omega), List.getElem?_append_left (by simp; omega)]
  · have := hS4 k hk
    simp only [List.cons_append, List.nil_append]
    rw [cons2 (by omega), cons2 (by omega)]
  · have := hS k hk; omega
  · have := hS3 k hk; omega
  · have := hS4 k hk; omega
