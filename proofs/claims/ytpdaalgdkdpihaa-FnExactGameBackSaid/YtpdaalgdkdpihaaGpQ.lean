/- Copies of puzzles and games. -/
import Derived.Test.YtpdaalgdkdpihaaGpP
set_option linter.unusedSimpArgs false
set_option linter.unusedVariables false
set_option maxRecDepth 100000
namespace Go.Lg
open Go.Proofs

section
variable {P : Program} {ops : Array Oper} {o : Oper} {s : List AV} {H : Heap} {K : KV} {fo : Operand} {xs : Array Operand} {ts : Array TypeId} {f : FuncId} {args args' : List AV} {zs : List Int}
theorem Loud.mkI (hc : RunCall P f args [] (ownIQ zs)) (he : Enters P f) (ho : o.op = .call ⟨.value fo, xs, ts⟩) (ha : callArgs ⟨s, H⟩ fo xs = some (f, args)) (hf : args.all frozenA = true)
    (hk : ∀ c H' S, OwnI (H ++ H') c zs S → (∀ i ∈ S, H.length ≤ i ∧ i < H.length + H'.length) → K (.c c) (H ++ H')) : Loud P ops o s H K :=
  Loud.call ho ha fun s' ha' => OpS.mkI hc he ho ha' hf hk
end
/-- What is told of a result may be less. -/
theorem RunCall.wk {P : Program} {f : FuncId} {args : List AV} {H : Heap} {Q Q' : KV} (h : RunCall P f args H Q) (hw : ∀ v H', Q v H' → ∃ v', (∀ w X u, VA w X H' v u → VA w X H' v' u) ∧ Q' v' H') : RunCall P f args H Q' :=
  fun w X vs hH hvs => (h w X vs hH hvs).mono fun e w' ⟨v, u, X', H', h1, h2, h3, h4, h5⟩ =>
    let ⟨v', k1, k2⟩ := hw v H' h5
    ⟨v', u, X', H', h1, k1 _ _ _ h2, h3, h4, k2⟩

theorem look_mid {H H3 : Heap} {g sz : Nat} {cs : List CV} : look (H ++ [some ⟨g, sz, cs⟩] ++ H3) H.length g = some ⟨g, sz, cs⟩ := look_of (b := ⟨g, sz, cs⟩) (by simp)
theorem set_mid {H H3 : Heap} {x y : Option Blk} : (H ++ [x] ++ H3).set H.length y = H ++ [y] ++ H3 := by
  rw [List.append_assoc, List.append_assoc, List.set_append_right _ _ (Nat.le_refl _), Nat.sub_self]; rfl
theorem look_mid2 {H H3 H4 : Heap} {g sz : Nat} {cs : List CV} : look (H ++ [some ⟨g, sz, cs⟩] ++ H3 ++ H4) H.length g = some ⟨g, sz, cs⟩ := look_of (b := ⟨g, sz, cs⟩) (by simp)
theorem look_set_ne {H : Heap} {id j g : Nat} {x : Option Blk} (h : id ≠ j) : look (H.set id x) j g = look H j g := by
  unfold look; rw [List.getElem?_set_ne h]
/-- What copyPuzzle's loop keeps: the copy so far. -/
structure CpI (B : Heap) (j g : Nat) (size : Int) (given : List Int) (c r : CV) (l : List RO) (S I : List Nat) : Prop where
  out : look B j g = some ⟨g, 3, [.f (.int .i64 size), c, r]⟩
  rl : (l = [] ∧ r = .f .nil ∧ I = S) ∨ ∃ id g', r = .own id g' 0 l.length none ∧ look B id g' = some ⟨g', 3, kl kR l⟩ ∧ I = S ++ id :: l.flatMap (·.i)
  cells : ∀ o ∈ l, OwnI B o.c o.r.cells o.i
  giv : OwnI B c given S
  nd : I.Nodup
  lt : ∀ x ∈ I, 2 ≤ x ∧ x < B.length ∧ x ≠ j
theorem CpI.next {B B3 : Heap} {j g : Nat} {size : Int} {given : List Int} {c r : CV} {l : List RO} {S I : List Nat} (hC : CpI B j g size given c r l S I) (o : RO) {id g' : Nat}
    (hI : (l = [] ∧ I = S ∧ B.length ≤ id) ∨ I = S ++ id :: l.flatMap (·.i)) (hs : ∀ k ∈ I, k ≠ id → B3[k]? = B[k]?) (hlen : B.length ≤ B3.length)
    (hout : look B3 j g = some ⟨g, 3, [.f (.int .i64 size), c, .own id g' 0 (l.length + 1) none]⟩) (hid : look B3 id g' = some ⟨g', 3, kl kR (l ++ [o])⟩)
    (ho : OwnI B3 o.c o.r.cells o.i) (hoi : ∀ k ∈ o.i, B.length ≤ k ∧ k < B3.length ∧ k ≠ id ∧ k ≠ j) (hi : 2 ≤ id ∧ id < B3.length ∧ id ≠ j) (h2 : 2 ≤ B.length) :
    CpI B3 j g size given c (.own id g' 0 (l.length + 1) none) (l ++ [o]) S (S ++ id :: (l ++ [o]).flatMap (·.i)) := by
  have hJ : (S ++ id :: l.flatMap (·.i)).Nodup ∧ (∀ x ∈ S ++ l.flatMap (·.i), x ∈ I) ∧ (∀ x ∈ S ++ l.flatMap (·.i), x ≠ id) := by
    rcases hI with ⟨rfl, rfl, hb⟩ | rfl
    · have hne : ∀ x ∈ I, x ≠ id := fun x hx => by have := hC.lt x hx; omega
      refine ⟨?_, by simp, by simpa using hne⟩
      simp only [List.flatMap_nil]
      rw [List.nodup_append]
      exact ⟨hC.nd, by simp, fun a ha b hb => by simp at hb; subst hb; exact hne a ha⟩
    · have hn := hC.nd
      refine ⟨hn, fun x hx => ?_, fun x hx he => ?_⟩
      · simp only [List.mem_append, List.mem_cons] at hx ⊢
        rcases hx with hx | hx
        · exact .inl hx
        · exact .inr (.inr hx)
      · subst he
        rw [List.nodup_append] at hn
        obtain ⟨n1, n2, n3⟩ := hn
        rcases List.mem_append.1 hx with hx | hx
        · exact n3 x hx x (by simp) rfl
        · exact (List.nodup_cons.1 n2).1 hx
  obtain ⟨hn, hin, hne⟩ := hJ
  have hmem : ∀ x ∈ S ++ id :: (l ++ [o]).flatMap (·.i), x ∈ S ++ l.flatMap (·.i) ∨ x = id ∨ x ∈ o.i := fun x hx => by
    simp only [List.flatMap_append, List.flatMap_cons, List.flatMap_nil, List.append_nil, List.mem_append, List.mem_cons] at hx ⊢
    rcases hx with hx | rfl | hx | hx
    · exact .inl (.inl hx)
    · exact .inr (.inl rfl)
    · exact .inl (.inr hx)
    · exact .inr (.inr hx)
  refine ⟨hout, .inr ⟨id, g', by simp, hid, rfl⟩, fun o' ho' => ?_, ?_, ?_, fun x hx => ?_⟩
  · rcases List.mem_append.1 ho' with ho' | ho'
    · refine (hC.cells o' ho').same fun k hk => ?_
      have : k ∈ S ++ l.flatMap (·.i) := List.mem_append.2 (.inr (List.mem_flatMap.2 ⟨o', ho', hk⟩))
      exact hs k (hin k this) (hne k this)
    · simp at ho'; subst ho'; exact ho
  · refine hC.giv.same fun k hk => ?_
    have : k ∈ S ++ l.flatMap (·.i) := List.mem_append.2 (.inl hk)
    exact hs k (hin k this) (hne k this)
  · have e : S ++ id :: (l ++ [o]).flatMap (·.i) = (S ++ id :: l.flatMap (·.i)) ++ o.i := by simp
    rw [e, List.nodup_append]
    refine ⟨hn, ho.nd, fun a ha b hb he => ?_⟩
    subst he
    have h4 := hoi a hb
    have : a ∈ S ++ l.flatMap (·.i) := by
      simp only [List.mem_append, List.mem_cons] at ha ⊢
      rcases ha with ha | ha | ha
      · exact .inl ha
      · exact absurd ha h4.2.2.1
      · exact .inr ha
    have := hC.lt a (hin a this)
    omega
  · rcases hmem x hx with hx | rfl | hx
    · have := hC.lt x (hin x hx); omega
    · exact hi
    · have := hoi x hx; omega
/-- The copy, its rules nil or the call's own. -/
def puzQ0 (p : Puz) : KV := fun v H => ∃ c r S1 S2, v = .agg [.f (.int .i64 p.size), c, r] ∧ OwnI H c p.given S1 ∧ ((r = .f .nil ∧ p.rules = [] ∧ S2 = []) ∨ OwnR H r p.rules S2) ∧ (S1 ++ S2).Nodup
theorem CpI.done {B B' : Heap} {j g : Nat} {p : Puz} {c r : CV} {l : List RO} {S I : List Nat} (hC : CpI B j g p.size p.given c r l S I) (hm : l.map (·.r) = p.rules) (hs : ∀ k ∈ I, B'[k]? = B[k]?) :
    puzQ0 p (.agg [.f (.int .i64 p.size), c, r]) B' := by
  rcases hC.rl with ⟨rfl, rfl, rfl⟩ | ⟨id, g', rfl, hid, rfl⟩
  · exact ⟨_, _, _, [], rfl, hC.giv.same hs, .inl ⟨rfl, hm.symm, rfl⟩, by rw [List.append_nil]; exact hC.nd⟩
  · refine ⟨_, _, _, _, rfl, hC.giv.same fun k hk => hs k (List.mem_append.2 (.inl hk)), .inr ?_, hC.nd⟩
    rw [← hm]
    refine OwnR.same (.o id g' none l [] (by rw [List.append_nil]; exact hid) hC.cells ?_ (by simp)) fun k hk => hs k (List.mem_append.2 (.inr hk))
    have := hC.nd
    rw [List.nodup_append] at this
    exact this.2.1
theorem look_set_eq {H : Heap} {id g sz : Nat} {cs : List CV} (h : id < H.length) : look (H.set id (some ⟨g, sz, cs⟩)) id g = some ⟨g, sz, cs⟩ := look_of (b := ⟨g, sz, cs⟩) (by rw [List.getElem?_set_self h])

theorem copyPuzzle_own (p : Puz) (hx : smP p) : RunCall Try.prog 56 [aP p] [] (puzQ0 p) := by
  refine RunCall.cw (c := _) Try.func56 rfl (n := 31) Try.ntmps56 (rs := [.cell 2 32]) rfl ?_
  simp only [List.length_cons, List.length_nil, Nat.reduceAdd, Nat.reduceSub, List.replicate, List.cons_append, List.nil_append]
  simp (maxSteps := 1000000) (disch := omega) only [go_sem, Nat.reduceAdd, Nat.reduceMul, Nat.reduceSub, Nat.reduceEqDiff, Nat.reduceLeDiff]
  intro g1 g2
  refine drawP_lF [0, 1, 2, 3, 6, 4, 5] [] (some 6) [7] [] foll (by kernel_rfl) ?_
  simp (maxSteps := 1000000) (disch := omega) only [go_sem, Nat.reduceBEq, Bool.true_or, Nat.reduceAdd, Nat.reduceMul, Nat.reduceSub, Nat.reduceEqDiff, Nat.reduceLeDiff]
  refine Loud.mkI (Clone_own p.given hx.1) (⟨_, Try.func78, rfl, rfl⟩ : Enters Try.prog 78) rfl rfl rfl ?_
  intro c H1 S h1 hS
  simp (maxSteps := 1000000) (disch := omega) only [go_sem, Nat.reduceAdd, Nat.reduceMul, Nat.reduceSub, Nat.reduceEqDiff, Nat.reduceLeDiff, look_last, set_last]
  intro g
  refine loop_rule2 (fun (i : Nat) (b : Heap × CV × List RO × List Nat) => p.rules.length - i) (fun i b => i ≤ p.rules.length ∧ b.2.2.1.length = i ∧ b.2.2.1.map (·.r) = p.rules.take i ∧ look b.1 1 g2 = some ⟨g2, 3, [.f (.int .i64 0), .f .nil, .f .nil]⟩ ∧ CpI b.1 (H1.length + 1 + 1) g p.size p.given c b.2.1 b.2.2.1 S b.2.2.2)
    (fun i _ => [.a, .a, .k, .k, .a, .a, .a, .a, .a, .a, .a, .a, .a, .k, .k, .p (int i), .a, .a, .a, .a, .a, .a, .a, .a, .a, .a, .a, .a, .a, .a, .a]) (fun i b => b.1) 0 (some ⟨g1, 1, cP p⟩ :: some ⟨g2, 3, [.f (.int .i64 0), .f .nil, .f .nil]⟩ :: (H1 ++ [some ⟨g, 3, [.f (.int .i64 p.size), c, .f .nil]⟩]), .f .nil, [], S)
    ⟨Nat.zero_le _, rfl, rfl, look_of (b := ⟨g2, 3, [.f (.int .i64 0), .f .nil, .f .nil]⟩) rfl, ?_⟩ (by simp (maxSteps := 1000000) (disch := omega) only [go_sem, Nat.reduceAdd, Nat.reduceMul, Nat.reduceSub, Nat.reduceEqDiff, Nat.reduceLeDiff]; rfl) (HLe.refl _) ?_
  · refine ⟨look_of (b := ⟨g, 3, [.f (.int .i64 p.size), c, .f .nil]⟩) (by simp), .inl ⟨rfl, rfl, rfl⟩, by simp, h1.app, h1.nd, fun x hx => ?_⟩
    have := hS x hx
    simp only [List.length_append, List.length_cons, List.length_nil] at this ⊢
    omega
  rintro i ⟨B, r, l, I⟩ ⟨hi, hl, hm, h1, hC⟩
  simp only at hl hm h1 hC ⊢
  have hj2 : 2 ≤ H1.length + 1 + 1 := by omega
  generalize H1.length + 1 + 1 = j at hC hj2 ⊢
  simp (maxSteps := 1000000) (disch := omega) only [go_sem, Nat.reduceAdd, Nat.reduceMul, Nat.reduceSub, Nat.reduceEqDiff, Nat.reduceLeDiff]
  (first | with_reducible refine condK_dec (fun h => ?_) (fun h => ?_) | with_reducible refine condK_ndec (fun h => ?_) (fun h => ?_) | with_reducible refine condK_nb (fun h => ?_) (fun h => ?_) | refine condK_b (fun h => ?_) (fun h => ?_))
  · have h : i < p.rules.length := by omega
    simp (maxSteps := 1000000) (disch := omega) only [go_sem, Nat.reduceAdd, Nat.reduceMul, Nat.reduceSub, Nat.reduceEqDiff, Nat.reduceLeDiff, look_last, set_last]
    intro g3
    refine OpS.mkI (Clone_own (nth p.rules i).cells (hx.2.2 _ (nth_mem h))) (⟨_, Try.func78, rfl, rfl⟩ : Enters Try.prog 78) rfl rfl rfl ?_
    intro c3 H3 S3 h3 hS3
    simp (maxSteps := 1000000) (disch := omega) only [go_sem, Nat.reduceAdd, Nat.reduceMul, Nat.reduceSub, Nat.reduceEqDiff, Nat.reduceLeDiff, look_mid, set_mid]
    generalize hB2 : B ++ [some ⟨g3, 3, [.f (.int .i64 (nth p.rules i).kind), c3, .f (.int .i64 (nth p.rules i).val)]⟩] ++ H3 = B2
    have hap : ∃ X, B2 = B ++ X := ⟨_, by rw [← hB2, List.append_assoc]⟩
    have hlB : B.length < B2.length := by rw [← hB2]; simp
    have hR : look B2 B.length g3 = some ⟨g3, 3, [.f (.int .i64 (nth p.rules i).kind), c3, .f (.int .i64 (nth p.rules i).val)]⟩ := by rw [← hB2]; exact look_mid
    have hB : ∀ {k g' : Nat} {b : Blk}, look B k g' = some b → look B2 k g' = some b := fun h => by obtain ⟨X, rfl⟩ := hap; exact look_appL h
    have h4 : OwnI B2 c3 (nth p.rules i).cells S3 := by
      refine h3.same fun k hk => ?_
      have := hS3 k hk
      simp only [List.length_append, List.length_cons, List.length_nil] at this
      rw [← hB2]
      simp only [List.append_assoc, List.cons_append, List.nil_append]
      rw [List.getElem?_append_right (by omega), List.getElem?_append_right (by omega), List.getElem?_cons, List.getElem?_cons]
      rw [if_neg (by omega), if_neg (by omega)]
    have hS4 : ∀ k ∈ S3, B.length + 1 ≤ k ∧ k < B2.length := fun k hk => by
      have := hS3 k hk
      rw [← hB2]
      simp only [List.length_append, List.length_cons, List.length_nil] at this ⊢
      omega
    have hpl : p.rules.length ≤ 2 ^ 40 := hx.2.1
    have hk1 : ∀ k, k < B.length → B2[k]? = B[k]? := fun k hk => by obtain ⟨X, rfl⟩ := hap; exact List.getElem?_append_left hk
    have hlen : 1 < B.length := (List.getElem?_eq_some_iff.1 (look_some h1).1).1
    have hjl : j < B.length := (List.getElem?_eq_some_iff.1 (look_some hC.out).1).1
    have h12 := hB h1
    have hj := hB hC.out
    clear hB2 h3 hS3
    rcases hC.rl with ⟨rfl, rfl, rfl⟩ | ⟨id, g', rfl, hid, rfl⟩
    · have hj5 : ∀ X, look (B2 ++ X) j g = some ⟨g, 3, [.f (.int .i64 p.size), c, .f .nil]⟩ := fun X => look_appL hj
      have hj6 : ∀ X Y, look (B2 ++ X ++ Y) j g = some ⟨g, 3, [.f (.int .i64 p.size), c, .f .nil]⟩ := fun X Y => look_appL (look_appL hj)
      simp (maxSteps := 1000000) (disch := omega) only [go_sem, Nat.reduceAdd, Nat.reduceMul, Nat.reduceSub, Nat.reduceEqDiff, Nat.reduceLeDiff, hR, hj, hj5, hj6, look_last, set_last]
      intro g4 g5
      refine ⟨i + 1, (_, .own (B2.length + 1) g5 0 1 none, [] ++ [⟨nth p.rules i, c3, S3⟩], _), ⟨⟨h, by simp at hl ⊢; omega, by rw [List.map_append, hm, take_succ_nth h]; rfl, ?_, CpI.next (id := B2.length + 1) (g' := g5) hC ⟨nth p.rules i, c3, S3⟩ (.inl ⟨rfl, rfl, by omega⟩) (fun k hk hki => ?_) ?_ ?_ ?_ (h4.same fun k hk => ?_) (fun k hk => ?_) ?_ hlen⟩, by omega⟩, by omega, HLe.refl _⟩
      · rw [look_set_ne (by omega)]; exact look_appL (look_appL h12)
      · have := hC.lt k hk
        rw [List.getElem?_set_ne (by omega), List.getElem?_append_left (by simp; omega), List.getElem?_append_left (by omega), hk1 k (by omega)]
      · simp; omega
      · exact look_set_eq (by simp; omega)
      · rw [look_set_ne (by omega)]
        exact look_of (b := ⟨g5, 3, [.f (.int .i64 (nth p.rules i).kind), c3, .f (.int .i64 (nth p.rules i).val)]⟩) (by simp)
      · have := hS4 k hk
        rw [List.getElem?_set_ne (by omega), List.getElem?_append_left (by simp; omega), List.getElem?_append_left (by omega)]
      · have := hS4 k hk
        simp only [List.length_set, List.length_append, List.length_cons, List.length_nil]
        omega
      · simp only [List.length_set, List.length_append, List.length_cons, List.length_nil]
        omega
    · have hid := hB hid
      have hne := hC.lt id (by simp)
      have hj5 : ∀ X, look (B2 ++ X) j g = some ⟨g, 3, [.f (.int .i64 p.size), c, .own id g' 0 l.length none]⟩ := fun X => look_appL hj
      have hid5 : ∀ X, look (B2 ++ X) id g' = some ⟨g', 3, kl kR l⟩ := fun X => look_appL hid
      have hnj : id ≠ j := hne.2.2
      have hll : l.length ≤ 2 ^ 40 := by have := hx.2.1; omega
      simp (maxSteps := 1000000) (disch := omega) only [go_sem, Nat.reduceAdd, Nat.reduceMul, Nat.reduceSub, Nat.reduceEqDiff, Nat.reduceLeDiff, hR, hj, hj5, hid5, look_last, set_last, kl_length, look_set_ne hnj]
      intro g4 g5
      refine ⟨i + 1, (_, .own id g5 0 (l.length + 1) none, l ++ [⟨nth p.rules i, c3, S3⟩], _), ⟨⟨h, by simp [hl], by rw [List.map_append, hm, take_succ_nth h]; rfl, ?_, CpI.next (id := id) (g' := g5) hC ⟨nth p.rules i, c3, S3⟩ (.inr rfl) (fun k hk hki => ?_) ?_ ?_ ?_ (h4.same fun k hk => ?_) (fun k hk => ?_) ?_ hlen⟩, by omega⟩, by omega, HLe.refl _⟩
      · rw [look_set_ne (by omega), look_set_ne (by omega)]; exact look_appL h12
      · have := hC.lt k hk
        rw [List.getElem?_set_ne (by omega), List.getElem?_set_ne (by omega), List.getElem?_append_left (by omega), hk1 k (by omega)]
      · simp; omega
      · exact look_set_eq (by simp; omega)
      · rw [look_set_ne (by omega), look_set_eq (by simp; omega), kl_append]
        rfl
      · have := hS4 k hk
        rw [List.getElem?_set_ne (by omega), List.getElem?_set_ne (by omega), List.getElem?_append_left (by omega)]
      · have := hS4 k hk
        simp only [List.length_set, List.length_append, List.length_cons, List.length_nil]
        omega
      · simp only [List.length_set, List.length_append, List.length_cons, List.length_nil]
        omega
  · have hout := hC.out
    have hlen : 1 < B.length := by
      obtain ⟨hh, _⟩ := look_some h1
      exact (List.getElem?_eq_some_iff.1 hh).1
    simp (maxSteps := 1000000) (disch := omega) only [go_sem, Nat.reduceAdd, Nat.reduceMul, Nat.reduceSub, Nat.reduceEqDiff, Nat.reduceLeDiff, hout, h1, look_set_eq hlen]
    have hi' : i = p.rules.length := by omega
    subst hi'
    rw [List.take_length] at hm
    refine ⟨_, HLe.refl _, hC.done hm fun k hk => ?_⟩
    have := hC.lt k hk
    exact List.getElem?_set_ne (by omega)
