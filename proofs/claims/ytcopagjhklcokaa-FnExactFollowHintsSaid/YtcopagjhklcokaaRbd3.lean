/- GpQ, GpFB, GpFC, GpEF, GpEG, GpFD, cut to what is needed. -/
import Derived.Test.YtcopagjhklcokaaRbc3
import Derived.Test.YtcopagjhklcokaaRbc1
import Derived.Test.YtcopagjhklcokaaRbc5
set_option linter.unusedSimpArgs false
set_option linter.unusedVariables false
set_option maxRecDepth 100000
namespace Go.Lg
open Go.Proofs
section
variable {P : Program} {ops : Array Oper} {o : Oper} {s : List AV} {H : Heap} {K : KV} {fo : Operand} {xs : Array Operand} {ts : Array TypeId} {f : FuncId} {args args' : List AV} {zs : List Int}
theorem Loud.mkI (hc : RunCall P f args [] (ownIQ zs)) (he : Enters P f) (ho : o.op = .call ⟨.value fo, xs, ts⟩) (ha : callArgs ⟨s, H⟩ fo xs = some (f, args)) (hf : args.all frozenA = true)
    (hk : ∀ c H' S, OwnI (H ++ H') c zs S → (∀ i ∈ S, H.length ≤ i ∧ i < H.length + H'.length) → K (.c c) (H ++ H')) : Loud P ops o s H K :=
  Loud.call ho ha fun s' ha' => OpS.mkI hc he ho ha' hf hk
end
theorem look_mid {H H3 : Heap} {g sz : Nat} {cs : List CV} : look (H ++ [some ⟨g, sz, cs⟩] ++ H3) H.length g = some ⟨g, sz, cs⟩ := look_of (b := ⟨g, sz, cs⟩) (by simp)
theorem set_mid {H H3 : Heap} {x y : Option Blk} : (H ++ [x] ++ H3).set H.length y = H ++ [y] ++ H3 := by
  rw [List.append_assoc, List.append_assoc, List.set_append_right _ _ (Nat.le_refl _), Nat.sub_self]; rfl
theorem look_set_ne {H : Heap} {id j g : Nat} {x : Option Blk} (h : id ≠ j) : look (H.set id x) j g = look H j g := by
  unfold look; rw [List.getElem?_set_ne h]
structure CpI (B : Heap) (j g : Nat) (size : Int) (given : List Int) (c r : CV) (l : List RO) (S I : List Nat) : Prop where
  out : look B j g = some ⟨g, 3, [.f (.int .i64 size), c, r]⟩
  rl : (l = [] ∧ r = .f .nil ∧ I = S) ∨ ∃ id g', r = .own id g' 0 l.length none ∧ look B id g' = some ⟨g', 3, kl kR l⟩ ∧ I = S ++ id :: l.flatMap (·.i)
  cells : ∀ o ∈ l, OwnI B o.c o.r.cells o.i
  giv : OwnI B c given S
  nd : I.Nodup
  lt : ∀ x ∈ I, 2 ≤ x ∧ x < B.length ∧ x ≠ j
theorem CpI.next {B B3 : Heap} {j g : Nat} {size : Int} {given : List Int} {c r : CV} {l : List RO} {S I : List Nat} (hC : CpI B j g size given c r l S I) (o : RO) {id g' : Nat}
    (hI : (l = [] ∧ I = S ∧ B.length ≤ id) ∨ I = S ++ id :: l.flatMap (·.i)) (hs : ∀ k ∈ I, k ≠ id → B3[k]? = B[k]?) (hlen : B.length ≤ B3.length)
    (hout : look B3 j g = some ⟨g, 3, [.f (.int .i64 size), c, .own id g' 0 (l.length + 1) none]⟩) (hid : look B3 id g' = some ⟨g', 3, kl kR (l ++ [o])⟩)
    (ho : OwnI B3 o.c o.r.cells o.i) (hoi : ∀ k ∈ o.i, B.length ≤ k ∧ k < B3.length ∧ k ≠ id ∧ k ≠ j) (hi : 2 ≤ id ∧ id < B3.length ∧ id ≠ j) (h2 : 2 ≤ B.length) :
    CpI B3 j g size given c (.own id g' 0 (l.length + 1) none) (l ++ [o]) S (S ++ id :: (l ++ [o]).flatMap (·.i)) := by
  have hJ : (S ++ id :: l.flatMap (·.i)).Nodup ∧ (∀ x ∈ S ++ l.flatMap (·.i), x ∈ I) ∧ (∀ x ∈ S ++ l.flatMap (·.i), x ≠ id) := by
    rcases hI with ⟨rfl, rfl, hb⟩ | rfl
    · have hne : ∀ x ∈ I, x ≠ id := fun x hx => by have := hC.lt x hx; omega
      refine ⟨?_, by simp, by simpa using hne⟩
      simp only [List.flatMap_nil]
      rw [List.nodup_append]
      exact ⟨hC.nd, by simp, fun a ha b hb => by simp at hb; subst hb; exact hne a ha⟩
    · have hn := hC.nd
      refine ⟨hn, fun x hx => ?_, fun x hx he => ?_⟩
      · simp only [List.mem_append, List.mem_cons] at hx ⊢
        rcases hx with hx | hx
        · exact .inl hx
        · exact .inr (.inr hx)
      · subst he
        rw [List.nodup_append] at hn
        obtain ⟨n1, n2, n3⟩ := hn
        rcases List.mem_append.1 hx with hx | hx
        · exact n3 x hx x (by simp) rfl
        · exact (List.nodup_cons.1 n2).1 hx
  obtain ⟨hn, hin, hne⟩ := hJ
  have hmem : ∀ x ∈ S ++ id :: (l ++ [o]).flatMap (·.i), x ∈ S ++ l.flatMap (·.i) ∨ x = id ∨ x ∈ o.i := fun x hx => by
    simp only [List.flatMap_append, List.flatMap_cons, List.flatMap_nil, List.append_nil, List.mem_append, List.mem_cons] at hx ⊢
    rcases hx with hx | rfl | hx | hx
    · exact .inl (.inl hx)
    · exact .inr (.inl rfl)
    · exact .inl (.inr hx)
    · exact .inr (.inr hx)
  refine ⟨hout, .inr ⟨id, g', by simp, hid, rfl⟩, fun o' ho' => ?_, ?_, ?_, fun x hx => ?_⟩
  · rcases List.mem_append.1 ho' with ho' | ho'
    · refine (hC.cells o' ho').same fun k hk => ?_
      have : k ∈ S ++ l.flatMap (·.i) := List.mem_append.2 (.inr (List.mem_flatMap.2 ⟨o', ho', hk⟩))
      exact hs k (hin k this) (hne k this)
    · simp at ho'; subst ho'; exact ho
  · refine hC.giv.same fun k hk => ?_
    have : k ∈ S ++ l.flatMap (·.i) := List.mem_append.2 (.inl hk)
    exact hs k (hin k this) (hne k this)
  · have e : S ++ id :: (l ++ [o]).flatMap (·.i) = (S ++ id :: l.flatMap (·.i)) ++ o.i := by simp
    rw [e, List.nodup_append]
    refine ⟨hn, ho.nd, fun a ha b hb he => ?_⟩
    subst he
    have h4 := hoi a hb
    have : a ∈ S ++ l.flatMap (·.i) := by
      simp only [List.mem_append, List.mem_cons] at ha ⊢
      rcases ha with ha | ha | ha
      · exact .inl ha
      · exact absurd ha h4.2.2.1
      · exact .inr ha
    have := hC.lt a (hin a this)
    omega
  · rcases hmem x hx with hx | rfl | hx
    · have := hC.lt x (hin x hx); omega
    · exact hi
    · have := hoi x hx; omega
def puzQ0 (p : Puz) : KV := fun v H => ∃ c r S1 S2, v = .agg [.f (.int .i64 p.size), c, r] ∧ OwnI H c p.given S1 ∧ ((r = .f .nil ∧ p.rules = [] ∧ S2 = []) ∨ OwnR H r p.rules S2) ∧ (S1 ++ S2).Nodup
def limN : CV → Prop
  | .own _ _ _ _ lim => lim = none
  | .f .nil => True
  | _ => False
def puzQ1 (p : Puz) : KV := fun v H => ∃ c r S1 S2, v = .agg [.f (.int .i64 p.size), c, r] ∧ OwnI H c p.given S1 ∧ ((r = .f .nil ∧ p.rules = [] ∧ S2 = []) ∨ OwnR H r p.rules S2) ∧ (S1 ++ S2).Nodup ∧ limN r
theorem CpI.done {B B' : Heap} {j g : Nat} {p : Puz} {c r : CV} {l : List RO} {S I : List Nat} (hC : CpI B j g p.size p.given c r l S I) (hm : l.map (·.r) = p.rules) (hs : ∀ k ∈ I, B'[k]? = B[k]?) :
    puzQ1 p (.agg [.f (.int .i64 p.size), c, r]) B' := by
  rcases hC.rl with ⟨rfl, rfl, rfl⟩ | ⟨id, g', rfl, hid, rfl⟩
  · exact ⟨_, _, _, [], rfl, hC.giv.same hs, .inl ⟨rfl, hm.symm, rfl⟩, by rw [List.append_nil]; exact hC.nd, trivial⟩
  · refine ⟨_, _, _, _, rfl, hC.giv.same fun k hk => hs k (List.mem_append.2 (.inl hk)), .inr ?_, hC.nd, rfl⟩
    rw [← hm]
    refine OwnR.same (.o id g' none l [] (by rw [List.append_nil]; exact hid) hC.cells ?_ (by simp)) fun k hk => hs k (List.mem_append.2 (.inr hk))
    have := hC.nd
    rw [List.nodup_append] at this
    exact this.2.1
theorem look_set_eq {H : Heap} {id g sz : Nat} {cs : List CV} (h : id < H.length) : look (H.set id (some ⟨g, sz, cs⟩)) id g = some ⟨g, sz, cs⟩ := look_of (b := ⟨g, sz, cs⟩) (by rw [List.getElem?_set_self h])
theorem copyPuzzle_own1 (p : Puz) (hx : smP p) : RunCall Try.prog 61 [aP p] [] (puzQ1 p) := by
  refine RunCall.cw (c := _) Try.func61 rfl (n := 31) Try.ntmps61 (rs := [.cell 2 26]) rfl ?_
  simp only [List.length_cons, List.length_nil, Nat.reduceAdd, Nat.reduceSub, List.replicate, List.cons_append, List.nil_append]
  simp (maxSteps := 1000000) (disch := omega) only [go_sem, Nat.reduceAdd, Nat.reduceMul, Nat.reduceSub, Nat.reduceEqDiff, Nat.reduceLeDiff]
  intro g1 g2
  refine drawP_lF [0, 1, 2, 3, 6, 4, 5] [] (some 6) [7] [] foll (by kernel_rfl) ?_
  simp (maxSteps := 1000000) (disch := omega) only [go_sem, Nat.reduceBEq, Bool.true_or, Nat.reduceAdd, Nat.reduceMul, Nat.reduceSub, Nat.reduceEqDiff, Nat.reduceLeDiff]
  refine Loud.mkI (Clone_own p.given hx.1) (⟨_, Try.func106, rfl, rfl⟩ : Enters Try.prog 106) rfl rfl rfl ?_
  intro c H1 S h1 hS
  simp (maxSteps := 1000000) (disch := omega) only [go_sem, Nat.reduceAdd, Nat.reduceMul, Nat.reduceSub, Nat.reduceEqDiff, Nat.reduceLeDiff, look_last, set_last]
  intro g
  refine loop_rule2 (fun (i : Nat) (b : Heap × CV × List RO × List Nat) => p.rules.length - i) (fun i b => i ≤ p.rules.length ∧ b.2.2.1.length = i ∧ b.2.2.1.map (·.r) = p.rules.take i ∧ look b.1 1 g2 = some ⟨g2, 3, [.f (.int .i64 0), .f .nil, .f .nil]⟩ ∧ CpI b.1 (H1.length + 1 + 1) g p.size p.given c b.2.1 b.2.2.1 S b.2.2.2)
    (fun i _ => [.a, .a, .k, .k, .a, .a, .a, .a, .a, .a, .a, .a, .a, .k, .k, .p (int i), .a, .a, .a, .a, .a, .a, .a, .a, .a, .a, .a, .a, .a, .a, .a]) (fun i b => b.1) 0 (some ⟨g1, 1, cP p⟩ :: some ⟨g2, 3, [.f (.int .i64 0), .f .nil, .f .nil]⟩ :: (H1 ++ [some ⟨g, 3, [.f (.int .i64 p.size), c, .f .nil]⟩]), .f .nil, [], S)
    ⟨Nat.zero_le _, rfl, rfl, look_of (b := ⟨g2, 3, [.f (.int .i64 0), .f .nil, .f .nil]⟩) rfl, ?_⟩ (by simp (maxSteps := 1000000) (disch := omega) only [go_sem, Nat.reduceAdd, Nat.reduceMul, Nat.reduceSub, Nat.reduceEqDiff, Nat.reduceLeDiff]; rfl) (HLe.refl _) ?_
  · refine ⟨look_of (b := ⟨g, 3, [.f (.int .i64 p.size), c, .f .nil]⟩) (by simp), .inl ⟨rfl, rfl, rfl⟩, by simp, h1.app, h1.nd, fun x hx => ?_⟩
    have := hS x hx
    simp only [List.length_append, List.length_cons, List.length_nil] at this ⊢
    omega
  rintro i ⟨B, r, l, I⟩ ⟨hi, hl, hm, h1, hC⟩
  simp only at hl hm h1 hC ⊢
  have hj2 : 2 ≤ H1.length + 1 + 1 := by omega
  generalize H1.length + 1 + 1 = j at hC hj2 ⊢
  simp (maxSteps := 1000000) (disch := omega) only [go_sem, Nat.reduceAdd, Nat.reduceMul, Nat.reduceSub, Nat.reduceEqDiff, Nat.reduceLeDiff]
  (first | with_reducible refine condK_dec (fun h => ?_) (fun h => ?_) | with_reducible refine condK_ndec (fun h => ?_) (fun h => ?_) | with_reducible refine condK_nb (fun h => ?_) (fun h => ?_) | refine condK_b (fun h => ?_) (fun h => ?_))
  · have h : i < p.rules.length := by omega
    simp (maxSteps := 1000000) (disch := omega) only [go_sem, Nat.reduceAdd, Nat.reduceMul, Nat.reduceSub, Nat.reduceEqDiff, Nat.reduceLeDiff, look_last, set_last]
    intro g3
    refine OpS.mkI (Clone_own (nth p.rules i).cells (hx.2.2 _ (nth_mem h))) (⟨_, Try.func106, rfl, rfl⟩ : Enters Try.prog 106) rfl rfl rfl ?_
    intro c3 H3 S3 h3 hS3
    simp (maxSteps := 1000000) (disch := omega) only [go_sem, Nat.reduceAdd, Nat.reduceMul, Nat.reduceSub, Nat.reduceEqDiff, Nat.reduceLeDiff, look_mid, set_mid]
    generalize hB2 : B ++ [some ⟨g3, 3, [.f (.int .i64 (nth p.rules i).kind), c3, .f (.int .i64 (nth p.rules i).val)]⟩] ++ H3 = B2
    have hap : ∃ X, B2 = B ++ X := ⟨_, by rw [← hB2, List.append_assoc]⟩
    have hlB : B.length < B2.length := by rw [← hB2]; simp
    have hR : look B2 B.length g3 = some ⟨g3, 3, [.f (.int .i64 (nth p.rules i).kind), c3, .f (.int .i64 (nth p.rules i).val)]⟩ := by rw [← hB2]; exact look_mid
    have hB : ∀ {k g' : Nat} {b : Blk}, look B k g' = some b → look B2 k g' = some b := fun h => by obtain ⟨X, rfl⟩ := hap; exact look_appL h
    have h4 : OwnI B2 c3 (nth p.rules i).cells S3 := by
      refine h3.same fun k hk => ?_
      have := hS3 k hk
      simp only [List.length_append, List.length_cons, List.length_nil] at this
      rw [← hB2]
      simp only [List.append_assoc, List.cons_append, List.nil_append]
      rw [List.getElem?_append_right (by omega), List.getElem?_append_right (by omega), List.getElem?_cons, List.getElem?_cons]
      rw [if_neg (by omega), if_neg (by omega)]
    have hS4 : ∀ k ∈ S3, B.length + 1 ≤ k ∧ k < B2.length := fun k hk => by
      have := hS3 k hk
      rw [← hB2]
      simp only [List.length_append, List.length_cons, List.length_nil] at this ⊢
      omega
    have hpl : p.rules.length ≤ 2 ^ 40 := hx.2.1
    have hk1 : ∀ k, k < B.length → B2[k]? = B[k]? := fun k hk => by obtain ⟨X, rfl⟩ := hap; exact List.getElem?_append_left hk
    have hlen : 1 < B.length := (List.getElem?_eq_some_iff.1 (look_some h1).1).1
    have hjl : j < B.length := (List.getElem?_eq_some_iff.1 (look_some hC.out).1).1
    have h12 := hB h1
    have hj := hB hC.out
    clear hB2 h3 hS3
    rcases hC.rl with ⟨rfl, rfl, rfl⟩ | ⟨id, g', rfl, hid, rfl⟩
    · have hj5 : ∀ X, look (B2 ++ X) j g = some ⟨g, 3, [.f (.int .i64 p.size), c, .f .nil]⟩ := fun X => look_appL hj
      have hj6 : ∀ X Y, look (B2 ++ X ++ Y) j g = some ⟨g, 3, [.f (.int .i64 p.size), c, .f .nil]⟩ := fun X Y => look_appL (look_appL hj)
      simp (maxSteps := 1000000) (disch := omega) only [go_sem, Nat.reduceAdd, Nat.reduceMul, Nat.reduceSub, Nat.reduceEqDiff, Nat.reduceLeDiff, hR, hj, hj5, hj6, look_last, set_last]
      intro g4 g5
      refine ⟨i + 1, (_, .own (B2.length + 1) g5 0 1 none, [] ++ [⟨nth p.rules i, c3, S3⟩], _), ⟨⟨h, by simp at hl ⊢; omega, by rw [List.map_append, hm, take_succ_nth h]; rfl, ?_, CpI.next (id := B2.length + 1) (g' := g5) hC ⟨nth p.rules i, c3, S3⟩ (.inl ⟨rfl, rfl, by omega⟩) (fun k hk hki => ?_) ?_ ?_ ?_ (h4.same fun k hk => ?_) (fun k hk => ?_) ?_ hlen⟩, by omega⟩, by omega, HLe.refl _⟩
      · rw [look_set_ne (by omega)]; exact look_appL (look_appL h12)
      · have := hC.lt k hk
        rw [List.getElem?_set_ne (by omega), List.getElem?_append_left (by simp; omega), List.getElem?_append_left (by omega), hk1 k (by omega)]
      · simp; omega
      · exact look_set_eq (by simp; omega)
      · rw [look_set_ne (by omega)]
        exact look_of (b := ⟨g5, 3, [.f (.int .i64 (nth p.rules i).kind), c3, .f (.int .i64 (nth p.rules i).val)]⟩) (by simp)
      · have := hS4 k hk
        rw [List.getElem?_set_ne (by omega), List.getElem?_append_left (by simp; omega), List.getElem?_append_left (by omega)]
      · have := hS4 k hk
        simp only [List.length_set, List.length_append, List.length_cons, List.length_nil]
        omega
      · simp only [List.length_set, List.length_append, List.length_cons, List.length_nil]
        omega
    · have hid := hB hid
      have hne := hC.lt id (by simp)
      have hj5 : ∀ X, look (B2 ++ X) j g = some ⟨g, 3, [.f (.int .i64 p.size), c, .own id g' 0 l.length none]⟩ := fun X => look_appL hj
      have hid5 : ∀ X, look (B2 ++ X) id g' = some ⟨g', 3, kl kR l⟩ := fun X => look_appL hid
      have hnj : id ≠ j := hne.2.2
      have hll : l.length ≤ 2 ^ 40 := by have := hx.2.1; omega
      simp (maxSteps := 1000000) (disch := omega) only [go_sem, Nat.reduceAdd, Nat.reduceMul, Nat.reduceSub, Nat.reduceEqDiff, Nat.reduceLeDiff, hR, hj, hj5, hid5, look_last, set_last, kl_length, look_set_ne hnj]
      intro g4 g5
      refine ⟨i + 1, (_, .own id g5 0 (l.length + 1) none, l ++ [⟨nth p.rules i, c3, S3⟩], _), ⟨⟨h, by simp [hl], by rw [List.map_append, hm, take_succ_nth h]; rfl, ?_, CpI.next (id := id) (g' := g5) hC ⟨nth p.rules i, c3, S3⟩ (.inr rfl) (fun k hk hki => ?_) ?_ ?_ ?_ (h4.same fun k hk => ?_) (fun k hk => ?_) ?_ hlen⟩, by omega⟩, by omega, HLe.refl _⟩
      · rw [look_set_ne (by omega), look_set_ne (by omega)]; exact look_appL h12
      · have := hC.lt k hk
        rw [List.getElem?_set_ne (by omega), List.getElem?_set_ne (by omega), List.getElem?_append_left (by omega), hk1 k (by omega)]
      · simp; omega
      · exact look_set_eq (by simp; omega)
      · rw [look_set_ne (by omega), look_set_eq (by simp; omega), kl_append]
        rfl
      · have := hS4 k hk
        rw [List.getElem?_set_ne (by omega), List.getElem?_set_ne (by omega), List.getElem?_append_left (by omega)]
      · have := hS4 k hk
        simp only [List.length_set, List.length_append, List.length_cons, List.length_nil]
        omega
      · simp only [List.length_set, List.length_append, List.length_cons, List.length_nil]
        omega
  · have hout := hC.out
    have hlen : 1 < B.length := by
      obtain ⟨hh, _⟩ := look_some h1
      exact (List.getElem?_eq_some_iff.1 hh).1
    simp (maxSteps := 1000000) (disch := omega) only [go_sem, Nat.reduceAdd, Nat.reduceMul, Nat.reduceSub, Nat.reduceEqDiff, Nat.reduceLeDiff, hout, h1, look_set_eq hlen]
    have hi' : i = p.rules.length := by omega
    subst hi'
    rw [List.take_length] at hm
    refine ⟨_, HLe.refl _, hC.done hm fun k hk => ?_⟩
    have := hC.lt k hk
    exact List.getElem?_set_ne (by omega)
theorem copyPuzzle_own (p : Puz) (hx : smP p) : RunCall Try.prog 61 [aP p] [] (puzQ0 p) :=
  (copyPuzzle_own1 p hx).weaker fun v H' ⟨c, r, S1, S2, h1, h2, h3, h4, _⟩ => ⟨H', HLe.refl _, c, r, S1, S2, h1, h2, h3, h4⟩
end Go.Lg

set_option linter.unusedSimpArgs false
set_option linter.unusedVariables false
set_option maxRecDepth 100000
namespace Go.Lg
open Go.Proofs
attribute [-go_sem] appendM
def withT (a b : List Int) (k : Nat) : List Int := (withL a b).take k ++ a.drop k
theorem withT_0 (a b : List Int) : withT a b 0 = a := by simp [withT]
theorem withT_len {a b : List Int} {k : Nat} : (withT a b k).length = a.length := by simp [withT, withL_len]; omega
theorem withT_all {a b : List Int} {k : Nat} (h : a.length ≤ k) : withT a b k = withL a b := by
  unfold withT
  rw [List.take_of_length_le (by rw [withL_len]; exact h), List.drop_of_length_le h, List.append_nil]
theorem withT_pos {a b : List Int} {k : Nat} (h : k < a.length) (h0 : 0 < nth b k) : (withT a b k).set k (nth b k) = withT a b (k + 1) := by
  have e : (withL a b).take (k + 1) = (withL a b).take k ++ [nth b k] := by rw [take_succ_nth (by rw [withL_len]; exact h), withL_nth h, if_pos h0]
  unfold withT
  rw [e, List.set_append_right _ _ (by rw [List.length_take, withL_len]; omega), List.length_take, withL_len, Nat.min_eq_left (by omega), Nat.sub_self, List.drop_eq_getElem_cons h, List.set_cons_zero, List.append_assoc]
  rfl
theorem withT_neg {a b : List Int} {k : Nat} (h : k < a.length) (h0 : ¬ 0 < nth b k) : withT a b (k + 1) = withT a b k := by
  have e : (withL a b).take (k + 1) = (withL a b).take k ++ [nth a k] := by rw [take_succ_nth (by rw [withL_len]; exact h), withL_nth h, if_neg h0]
  unfold withT
  rw [e, List.append_assoc]
  congr 1
  rw [List.drop_eq_getElem_cons h, nth_eq (by omega)]
  simp
theorem l23With_run (p : Puz) (xs : List Int) (hx : p.given.length ≤ 2 ^ 40) (hl : p.given.length ≤ xs.length) (h0 : 0 < p.given.length) : Reads Try.prog 76 [aP p, ints xs] (aP (withP p xs)) := by
  refine Reads.iced ?_
  refine RunCall.cw (c := _) Try.func76 rfl (n := 35) Try.ntmps76 (rs := [.cell 4 26]) rfl ?_
  simp only [List.length_cons, List.length_nil, Nat.reduceAdd, Nat.reduceSub, List.replicate, List.cons_append, List.nil_append]
  simp (maxSteps := 1000000) (disch := omega) only [go_sem, Nat.reduceAdd, Nat.reduceMul, Nat.reduceSub, Nat.reduceEqDiff, Nat.reduceLeDiff]
  intro g0 g1 g2
  refine appendM_copyF (HI := [_, _]) (sliceOf_of' ti23 rfl ti3) ⟨rfl, rfl, rfl⟩ ⟨h0, hx⟩ ?_
  intro g3
  simp (maxSteps := 1000000) (disch := omega) only [go_sem, Nat.reduceAdd, Nat.reduceMul, Nat.reduceSub, Nat.reduceEqDiff, Nat.reduceLeDiff]
  refine loop_rule (fun k : Nat => p.given.length - k) (fun k => k ≤ p.given.length) (fun k => [.a, .k, .k, .a, .k, .k, .p (int k), .a, .a, .a, .a, .a, .a, .a, .a, .a, .a, .a, .a, .a, .a, .a, .a, .a, .a, .a, .a, .a, .a, .a, .a, .a, .a, .a, .a]) (fun k => [some ⟨g0, 1, cP p⟩, some ⟨g1, 3, [CV.f (FV.int IntKind.i64 0), CV.f FV.nil, CV.f FV.nil]⟩, some ⟨g3, 1, cl (eI .i64) (withT p.given xs k)⟩]) 0 (Nat.zero_le _) (by simp (maxSteps := 1000000) (disch := omega) only [go_sem, Nat.reduceAdd, Nat.reduceMul, Nat.reduceSub, Nat.reduceEqDiff, Nat.reduceLeDiff]; rfl) (by rw [withT_0]; exact HLe.refl _) ?_
  intro k hk
  have hwl := withT_len (a := p.given) (b := xs) (k := k)
  simp (maxSteps := 1000000) (disch := omega) only [go_sem, Nat.reduceAdd, Nat.reduceMul, Nat.reduceSub, Nat.reduceEqDiff, Nat.reduceLeDiff]
  (first | with_reducible refine condK_dec (fun c1 => ?_) (fun c1 => ?_) | with_reducible refine condK_ndec (fun c1 => ?_) (fun c1 => ?_) | with_reducible refine condK_nb (fun c1 => ?_) (fun c1 => ?_) | refine condK_b (fun c1 => ?_) (fun c1 => ?_))
  · have c1 : k < p.given.length := by omega
    simp (maxSteps := 1000000) (disch := omega) only [go_sem, Nat.reduceAdd, Nat.reduceMul, Nat.reduceSub, Nat.reduceEqDiff, Nat.reduceLeDiff]
    (first | with_reducible refine condK_dec (fun c2 => ?_) (fun c2 => ?_) | with_reducible refine condK_ndec (fun c2 => ?_) (fun c2 => ?_) | with_reducible refine condK_nb (fun c2 => ?_) (fun c2 => ?_) | refine condK_b (fun c2 => ?_) (fun c2 => ?_))
    · simp (maxSteps := 1000000) (disch := omega) only [go_sem, Nat.reduceAdd, Nat.reduceMul, Nat.reduceSub, Nat.reduceEqDiff, Nat.reduceLeDiff]
      rw [Int.toNat_natCast, withT_pos c1 c2]
      exact ⟨k + 1, ⟨by omega, by omega⟩, by push_cast; omega, HLe.refl _⟩
    · simp (maxSteps := 1000000) (disch := omega) only [go_sem, Nat.reduceAdd, Nat.reduceMul, Nat.reduceSub, Nat.reduceEqDiff, Nat.reduceLeDiff]
      refine ⟨k + 1, ⟨by omega, by omega⟩, by push_cast; omega, ?_⟩
      rw [withT_neg c1 c2]
      exact HLe.refl _
  · simp (maxSteps := 1000000) (disch := omega) only [go_sem, Nat.reduceAdd, Nat.reduceMul, Nat.reduceSub, Nat.reduceEqDiff, Nat.reduceLeDiff]
    rw [withT_all (by omega)]
    have hown : OwnI [some ⟨g0, 1, cP p⟩, some ⟨g1, 3, [CV.f (FV.int IntKind.i64 p.size), CV.own 2 g3 0 p.given.length none, CV.f (fsl eR p.rules)]⟩, some ⟨g3, 1, cl (eI .i64) (withL p.given xs)⟩] (.own 2 g3 0 p.given.length none) (withL p.given xs) [2] := by
      have := OwnI.o (H := [some ⟨g0, 1, cP p⟩, some ⟨g1, 3, [CV.f (FV.int IntKind.i64 p.size), CV.own 2 g3 0 p.given.length none, CV.f (fsl eR p.rules)]⟩, some ⟨g3, 1, cl (eI .i64) (withL p.given xs)⟩]) 2 g3 none (withL p.given xs) [] (by rw [List.append_nil]; simp only [go_sem])
      rwa [withL_len] at this
    refine lessQ_ice ?_
    have hf := hown.frzC
    show (([_, _, _] : List CV).mapM (Lg.frzC _)).map AV.agg = _
    simp only [List.mapM_cons, List.mapM_nil, hf, Option.bind_eq_bind, Option.pure_def]
    rfl
end Go.Lg

set_option linter.unusedSimpArgs false
set_option linter.unusedVariables false
set_option maxRecDepth 100000
namespace Go.Lg
open Go.Proofs
theorem grd_facts {p : Puz} {xs : List Int} (h1 : puzzleValid p = true) (h2 : gridValid xs p.size = true) : PuzN p p.size.toNat ∧ GrdN xs p.size.toNat ∧ GrdN p.given p.size.toNat ∧ p.given.length = xs.length ∧ 4 ≤ xs.length ∧ xs.length ≤ 16 := by
  obtain ⟨hp, hz⟩ := PuzN.of h1
  have hg := GrdN.of hp.hn (xs := xs) (by rw [hz]; exact h2)
  have ha := GrdN.of hp.hn (xs := p.given) (by rw [hz]; exact puzzleValid_grid' h1)
  have hsq : 4 ≤ p.size.toNat * p.size.toNat ∧ p.size.toNat * p.size.toNat ≤ 16 := by
    have := hp.hn
    rcases this with h | h | h <;> rw [h] <;> omega
  have := hg.len
  have := ha.len
  exact ⟨hp, hg, ha, by omega, by omega, by omega⟩
end Go.Lg

set_option linter.unusedSimpArgs false
set_option linter.unusedVariables false
set_option maxRecDepth 100000
namespace Go.Lg
open Go.Proofs
theorem binA_ne' {P : Program} {H : Heap} {t e : TypeId} {ti : TI} {n : Nat} {cs : List FV} (ht : tinf P t = some ti) (hk : ti.k = .slice e) (hn : 0 < n) : binA P H .eql t (.c (.f (.sl n cs))) (.c (.f .nil)) = some (.c (.f (.bool false))) := by
  unfold binA
  simp only [ht, hk, isNilV, if_neg (show ¬ n = 0 by omega)]
  rfl
section
variable {P : Program} {o : Oper} {st : St} {K : KV} {fo : Operand} {xs : Array Operand} {ts : Array TypeId} {f : FuncId} {args args' : List AV} {zs : List Int} {ops : Array Oper} {s : List AV} {H : Heap}
end
theorem Clone_q (xs : List Int) (hx : xs.length ≤ 2 ^ 40) (h0 : xs ≠ []) : RunCall Try.prog 106 [ints xs] [] (ownQ (eI .i64) 1 xs) := by
  have hp : 0 < xs.length := List.length_pos_iff.2 h0
  refine RunCall.cw (c := _) Try.func106 rfl (n := 8) Try.ntmps106 (rs := [.tmp 2]) rfl ?_
  simp only [List.length_cons, List.length_nil, Nat.reduceAdd, Nat.reduceSub, List.replicate, List.cons_append, List.nil_append]
  simp (maxSteps := 1000000) (disch := omega) only [go_sem, Nat.reduceAdd, Nat.reduceMul, Nat.reduceSub, Nat.reduceEqDiff, Nat.reduceLeDiff, binA_ne' ti23 rfl hp]
  intro g g'
  rw [Nat.zero_add]
  exact lessQ_own (HLe.refl _)
attribute [-go_sem] appendM lwF_cons
end Go.Lg

set_option linter.unusedSimpArgs false
set_option linter.unusedVariables false
set_option maxRecDepth 100000
namespace Go.Lg
open Go.Proofs
attribute [-go_sem] appendM lwF_cons
theorem setV {xs : List Int} {i : Nat} (h : i < xs.length) (w v : Int) : setRange (cl (eI .i64) (xs.set i w)) (0 + (i : Int).toNat * 1) [.f (.int .i64 v)] = cl (eI .i64) (xs.set i v) := by
  have := setRange_cl (E := eI .i64) (n := 1) (xs := xs.set i w) (i := i) (v := v) (by rw [List.length_set]; exact h)
  rw [List.set_set] at this
  exact this
structure Cap where
  gp : Nat
  gpg : Nat
  tb : Nat
  tbg : Nat
  ty : Nat
  tyg : Nat
  sz : Nat
  szg : Nat
  pb : Nat
  pbg : Nat
  mid : Nat
  mg : Nat
  pid : Nat
  pg : Nat
  gid : Nat
  gg : Nat
def Cap.ids (c : Cap) : List Nat := [c.gp, c.tb, c.ty, c.sz, c.pb, c.mid]
structure TryH (ft fy : FuncId) (p : Puz) (n most : Nat) (c : Cap) (H : Heap) : Prop where
  g : look H c.gp c.gpg = some ⟨c.gpg, 1, [.own c.gid c.gg 0 (n * n) none]⟩
  t : look H c.tb c.tbg = some ⟨c.tbg, 1, [.fn ft [(c.pid, c.pg), (c.mid, c.mg)]]⟩
  y : look H c.ty c.tyg = some ⟨c.tyg, 1, [.fn fy [(c.gp, c.gpg), (c.tb, c.tbg), (c.ty, c.tyg), (c.sz, c.szg), (c.pb, c.pbg)]]⟩
  z : look H c.sz c.szg = some ⟨c.szg, 1, [.f (.int .i64 n)]⟩
  b : look H c.pb c.pbg = some ⟨c.pbg, 1, cP p⟩
  m : look H c.mid c.mg = some ⟨c.mg, 1, [.f (.int .i64 most)]⟩
theorem TryH.same {ft fy : FuncId} {p : Puz} {n most : Nat} {c : Cap} {H H' : Heap} (h : TryH ft fy p n most c H) (hs : ∀ k ∈ c.ids, H'[k]? = H[k]?) : TryH ft fy p n most c H' := by
  have k : ∀ i g b, i ∈ c.ids → look H i g = b → look H' i g = b := fun i g b hi he => by unfold look at *; rw [hs i hi]; exact he
  exact ⟨k _ _ _ (by simp [Cap.ids]) h.g, k _ _ _ (by simp [Cap.ids]) h.t, k _ _ _ (by simp [Cap.ids]) h.y, k _ _ _ (by simp [Cap.ids]) h.z, k _ _ _ (by simp [Cap.ids]) h.b, k _ _ _ (by simp [Cap.ids]) h.m⟩
theorem TryH.lt {ft fy : FuncId} {p : Puz} {n most : Nat} {c : Cap} {H : Heap} (h : TryH ft fy p n most c H) : ∀ k ∈ c.ids, k < H.length := by
  intro k hk
  have hl : ∀ {i g : Nat} {b : Blk}, look H i g = some b → i < H.length := fun h => (List.getElem?_eq_some_iff.1 (look_some h).1).1
  simp only [Cap.ids, List.mem_cons, List.not_mem_nil, or_false] at hk
  rcases hk with rfl | rfl | rfl | rfl | rfl | rfl
  · exact hl h.g
  · exact hl h.t
  · exact hl h.y
  · exact hl h.z
  · exact hl h.b
  · exact hl h.m
end Go.Lg

set_option linter.unusedSimpArgs false
set_option linter.unusedVariables false
set_option maxRecDepth 100000
namespace Go.Lg
open Go.Proofs
theorem clear_short {p : Puz} {xs : List Int} {k : Nat} (hk : xs.length = k) (h : ∀ j : Nat, j < k → ¬ (0 < nth p.given j ∧ 0 < nth xs j ∧ nth xs j ≠ nth p.given j)) : clear p xs = true := by
  simp only [clear, decide_eq_true_eq]
  exact fun j hj => h j (by omega)
def bothT (a b : List Int) (k : Nat) : List Int := (withL a b).take k ++ List.replicate (a.length - k) 0
theorem bothT_0 (a b : List Int) : bothT a b 0 = List.replicate a.length 0 := by simp [bothT]
theorem bothT_len {a b : List Int} {k : Nat} : (bothT a b k).length = a.length ∨ a.length < k := by
  by_cases h : a.length < k
  · exact .inr h
  · left; simp [bothT, withL_len]; omega
theorem bothT_all {a b : List Int} {k : Nat} (h : a.length = k) : bothT a b k = withL a b := by
  unfold bothT
  rw [List.take_of_length_le (by rw [withL_len]; omega), h, Nat.sub_self, List.replicate_zero, List.append_nil]
theorem bothT_set {a b : List Int} {k : Nat} {v : Int} (h : k < a.length) (hv : v = if 0 < nth b k then nth b k else nth a k) : (bothT a b k).set k v = bothT a b (k + 1) := by
  have e : (withL a b).take (k + 1) = (withL a b).take k ++ [v] := by rw [take_succ_nth (by rw [withL_len]; exact h), withL_nth h, hv]
  unfold bothT
  rw [e, List.set_append_right _ _ (by rw [List.length_take, withL_len]; omega), List.length_take, withL_len, Nat.min_eq_left (by omega), Nat.sub_self, show a.length - k = (a.length - (k + 1)) + 1 by omega, List.replicate_succ, List.set_cons_zero, List.append_assoc]
  rfl
theorem bothGrids_run (p : Puz) (xs : List Int) (hl : xs.length = p.given.length) (hl2 : xs.length ≤ 16) (h0 : ∀ k : Nat, k < xs.length → 0 ≤ nth xs k ∧ 0 ≤ nth p.given k) : Reads Try.prog 83 [ints p.given, ints xs] (.tup [ints (if clear p xs = true then withL p.given xs else []), bool (clear p xs)]) := by
  refine Reads.iced ?_
  refine RunCall.cw (c := _) Try.func83 rfl (n := 47) Try.ntmps83 (rs := [.tmp 4, .tmp 5]) rfl ?_
  simp only [List.length_cons, List.length_nil, Nat.reduceAdd, Nat.reduceSub, List.replicate, List.cons_append, List.nil_append]
  simp (maxSteps := 1000000) (disch := omega) only [go_sem, Nat.reduceAdd, Nat.reduceMul, Nat.reduceSub, Nat.reduceEqDiff, Nat.reduceLeDiff]
  intro g
  refine loop_rule (fun k : Nat => xs.length - k) (fun k => k ≤ xs.length ∧ ∀ j : Nat, j < k → ¬ (0 < nth p.given j ∧ 0 < nth xs j ∧ nth xs j ≠ nth p.given j)) (fun k => [.a, .k, .a, .a, .a, .a, .k, .a, .a, .a, .a, .a, .k, .k, .p (int k), .a, .a, .a, .a, .a, .a, .a, .a, .a, .a, .a, .a, .a, .a, .a, .a, .a, .a, .a, .a, .a, .a, .a, .a, .a, .a, .a, .a, .a, .a, .a, .a]) (fun k => [some ⟨g, 1, cl (eI .i64) (bothT p.given xs k)⟩]) 0 ⟨Nat.zero_le _, fun j hj => absurd hj (Nat.not_lt_zero _)⟩ (by simp (maxSteps := 1000000) (disch := omega) only [go_sem, Nat.reduceAdd, Nat.reduceMul, Nat.reduceSub, Nat.reduceEqDiff, Nat.reduceLeDiff]; rfl) (by rw [bothT_0]; exact HLe.refl _) ?_
  rintro k ⟨hk, hno⟩
  have hbl := bothT_len (a := p.given) (b := xs) (k := k)
  simp (maxSteps := 1000000) (disch := omega) only [go_sem, Nat.reduceAdd, Nat.reduceMul, Nat.reduceSub, Nat.reduceEqDiff, Nat.reduceLeDiff]
  (first | with_reducible refine condK_dec (fun c1 => ?_) (fun c1 => ?_) | with_reducible refine condK_ndec (fun c1 => ?_) (fun c1 => ?_) | with_reducible refine condK_nb (fun c1 => ?_) (fun c1 => ?_) | refine condK_b (fun c1 => ?_) (fun c1 => ?_))
  · have c1 : k < xs.length := by omega
    have hx0 := h0 k c1
    have hbl : (bothT p.given xs k).length = p.given.length := by omega
    have hgo : ¬ (0 < nth p.given k ∧ 0 < nth xs k ∧ nth xs k ≠ nth p.given k) → ∀ j : Nat, j < k + 1 → ¬ (0 < nth p.given j ∧ 0 < nth xs j ∧ nth xs j ≠ nth p.given j) := fun h j hj => by
      by_cases hjk : j = k
      · rw [hjk]; exact h
      · exact hno j (by omega)
    have hset : ∀ v : Int, v = max (nth p.given k) (nth xs k) → ¬ (0 < nth p.given k ∧ 0 < nth xs k ∧ nth xs k ≠ nth p.given k) → (bothT p.given xs k).set k v = bothT p.given xs (k + 1) := fun v hv h => bothT_set (by omega) (by
      rw [hv]
      by_cases a : 0 < nth xs k
      · rw [if_pos a]
        by_cases b : 0 < nth p.given k
        · have : nth xs k = nth p.given k := by
            by_cases e : nth xs k = nth p.given k
            · exact e
            · exact absurd ⟨b, a, e⟩ h
          omega
        · omega
      · rw [if_neg a]
        omega)
    simp (maxSteps := 1000000) (disch := omega) only [go_sem, Nat.reduceAdd, Nat.reduceMul, Nat.reduceSub, Nat.reduceEqDiff, Nat.reduceLeDiff]
    rw [Int.toNat_natCast]
    (first | with_reducible refine guardK_dec (fun d1 => ?_) (fun d1 => ?_) <;> simp (maxSteps := 1000000) (disch := omega) only [go_sem, Nat.reduceAdd, Nat.reduceMul, Nat.reduceSub, Nat.reduceEqDiff, Nat.reduceLeDiff, d1] | with_reducible refine guardK_ndec (fun d1 => ?_) (fun d1 => ?_) <;> simp (maxSteps := 1000000) (disch := omega) only [go_sem, Nat.reduceAdd, Nat.reduceMul, Nat.reduceSub, Nat.reduceEqDiff, Nat.reduceLeDiff, d1] | with_reducible refine guardK_nb (fun d1 => ?_) (fun d1 => ?_) <;> simp (maxSteps := 1000000) (disch := omega) only [go_sem, Nat.reduceAdd, Nat.reduceMul, Nat.reduceSub, Nat.reduceEqDiff, Nat.reduceLeDiff, d1] | with_reducible refine guardK_split (fun d1 => ?_) (fun d1 => ?_) <;> simp (maxSteps := 1000000) (disch := omega) only [go_sem, Nat.reduceAdd, Nat.reduceMul, Nat.reduceSub, Nat.reduceEqDiff, Nat.reduceLeDiff, d1] | with_reducible refine guardQ_dec (fun d1 => ?_) (fun d1 => ?_) <;> simp (maxSteps := 1000000) (disch := omega) only [go_sem, Nat.reduceAdd, Nat.reduceMul, Nat.reduceSub, Nat.reduceEqDiff, Nat.reduceLeDiff, d1] | with_reducible refine guardL_dec (fun d1 => ?_) (fun d1 => ?_) <;> simp (maxSteps := 1000000) (disch := omega) only [go_sem, Nat.reduceAdd, Nat.reduceMul, Nat.reduceSub, Nat.reduceEqDiff, Nat.reduceLeDiff, d1] | with_reducible refine guardQ_ndec (fun d1 => ?_) (fun d1 => ?_) <;> simp (maxSteps := 1000000) (disch := omega) only [go_sem, Nat.reduceAdd, Nat.reduceMul, Nat.reduceSub, Nat.reduceEqDiff, Nat.reduceLeDiff, d1] | with_reducible refine guardL_ndec (fun d1 => ?_) (fun d1 => ?_) <;> simp (maxSteps := 1000000) (disch := omega) only [go_sem, Nat.reduceAdd, Nat.reduceMul, Nat.reduceSub, Nat.reduceEqDiff, Nat.reduceLeDiff, d1] | with_reducible refine guardQ_nb (fun d1 => ?_) (fun d1 => ?_) <;> simp (maxSteps := 1000000) (disch := omega) only [go_sem, Nat.reduceAdd, Nat.reduceMul, Nat.reduceSub, Nat.reduceEqDiff, Nat.reduceLeDiff, d1] | with_reducible refine guardL_nb (fun d1 => ?_) (fun d1 => ?_) <;> simp (maxSteps := 1000000) (disch := omega) only [go_sem, Nat.reduceAdd, Nat.reduceMul, Nat.reduceSub, Nat.reduceEqDiff, Nat.reduceLeDiff, d1] | with_reducible refine guardQ_split (fun d1 => ?_) (fun d1 => ?_) <;> simp (maxSteps := 1000000) (disch := omega) only [go_sem, Nat.reduceAdd, Nat.reduceMul, Nat.reduceSub, Nat.reduceEqDiff, Nat.reduceLeDiff, d1] | with_reducible refine guardL_split (fun d1 => ?_) (fun d1 => ?_) <;> simp (maxSteps := 1000000) (disch := omega) only [go_sem, Nat.reduceAdd, Nat.reduceMul, Nat.reduceSub, Nat.reduceEqDiff, Nat.reduceLeDiff, d1])
    · (first | with_reducible refine guardK_dec (fun d2 => ?_) (fun d2 => ?_) <;> simp (maxSteps := 1000000) (disch := omega) only [go_sem, Nat.reduceAdd, Nat.reduceMul, Nat.reduceSub, Nat.reduceEqDiff, Nat.reduceLeDiff, d2] | with_reducible refine guardK_ndec (fun d2 => ?_) (fun d2 => ?_) <;> simp (maxSteps := 1000000) (disch := omega) only [go_sem, Nat.reduceAdd, Nat.reduceMul, Nat.reduceSub, Nat.reduceEqDiff, Nat.reduceLeDiff, d2] | with_reducible refine guardK_nb (fun d2 => ?_) (fun d2 => ?_) <;> simp (maxSteps := 1000000) (disch := omega) only [go_sem, Nat.reduceAdd, Nat.reduceMul, Nat.reduceSub, Nat.reduceEqDiff, Nat.reduceLeDiff, d2] | with_reducible refine guardK_split (fun d2 => ?_) (fun d2 => ?_) <;> simp (maxSteps := 1000000) (disch := omega) only [go_sem, Nat.reduceAdd, Nat.reduceMul, Nat.reduceSub, Nat.reduceEqDiff, Nat.reduceLeDiff, d2] | with_reducible refine guardQ_dec (fun d2 => ?_) (fun d2 => ?_) <;> simp (maxSteps := 1000000) (disch := omega) only [go_sem, Nat.reduceAdd, Nat.reduceMul, Nat.reduceSub, Nat.reduceEqDiff, Nat.reduceLeDiff, d2] | with_reducible refine guardL_dec (fun d2 => ?_) (fun d2 => ?_) <;> simp (maxSteps := 1000000) (disch := omega) only [go_sem, Nat.reduceAdd, Nat.reduceMul, Nat.reduceSub, Nat.reduceEqDiff, Nat.reduceLeDiff, d2] | with_reducible refine guardQ_ndec (fun d2 => ?_) (fun d2 => ?_) <;> simp (maxSteps := 1000000) (disch := omega) only [go_sem, Nat.reduceAdd, Nat.reduceMul, Nat.reduceSub, Nat.reduceEqDiff, Nat.reduceLeDiff, d2] | with_reducible refine guardL_ndec (fun d2 => ?_) (fun d2 => ?_) <;> simp (maxSteps := 1000000) (disch := omega) only [go_sem, Nat.reduceAdd, Nat.reduceMul, Nat.reduceSub, Nat.reduceEqDiff, Nat.reduceLeDiff, d2] | with_reducible refine guardQ_nb (fun d2 => ?_) (fun d2 => ?_) <;> simp (maxSteps := 1000000) (disch := omega) only [go_sem, Nat.reduceAdd, Nat.reduceMul, Nat.reduceSub, Nat.reduceEqDiff, Nat.reduceLeDiff, d2] | with_reducible refine guardL_nb (fun d2 => ?_) (fun d2 => ?_) <;> simp (maxSteps := 1000000) (disch := omega) only [go_sem, Nat.reduceAdd, Nat.reduceMul, Nat.reduceSub, Nat.reduceEqDiff, Nat.reduceLeDiff, d2] | with_reducible refine guardQ_split (fun d2 => ?_) (fun d2 => ?_) <;> simp (maxSteps := 1000000) (disch := omega) only [go_sem, Nat.reduceAdd, Nat.reduceMul, Nat.reduceSub, Nat.reduceEqDiff, Nat.reduceLeDiff, d2] | with_reducible refine guardL_split (fun d2 => ?_) (fun d2 => ?_) <;> simp (maxSteps := 1000000) (disch := omega) only [go_sem, Nat.reduceAdd, Nat.reduceMul, Nat.reduceSub, Nat.reduceEqDiff, Nat.reduceLeDiff, d2])
      · (first | with_reducible refine condK_dec (fun d3 => ?_) (fun d3 => ?_) | with_reducible refine condK_ndec (fun d3 => ?_) (fun d3 => ?_) | with_reducible refine condK_nb (fun d3 => ?_) (fun d3 => ?_) | refine condK_b (fun d3 => ?_) (fun d3 => ?_))
        · simp (maxSteps := 1000000) (disch := omega) only [go_sem, Nat.reduceAdd, Nat.reduceMul, Nat.reduceSub, Nat.reduceEqDiff, Nat.reduceLeDiff]
          refine ⟨k + 1, ⟨⟨by omega, hgo fun h => h.2.2 d3.symm⟩, by omega⟩, by push_cast; omega, ?_⟩
          rw [hset _ rfl (fun h => h.2.2 d3.symm)]
          exact HLe.refl _
        · simp (maxSteps := 1000000) (disch := omega) only [go_sem, Nat.reduceAdd, Nat.reduceMul, Nat.reduceSub, Nat.reduceEqDiff, Nat.reduceLeDiff]
          have : clear p xs = false := by
            simp only [clear, decide_eq_false_iff_not]
            exact fun h => h k c1 ⟨d1, d2, fun h => d3 h.symm⟩
          rw [this]
          exact lessQ_ice rfl
      · refine ⟨k + 1, ⟨⟨by omega, hgo fun h => d2 h.2.1⟩, by omega⟩, by push_cast; omega, ?_⟩
        rw [hset _ rfl (fun h => d2 h.2.1)]
        exact HLe.refl _
    · refine ⟨k + 1, ⟨⟨by omega, hgo fun h => d1 h.1⟩, by omega⟩, by push_cast; omega, ?_⟩
      rw [hset _ rfl (fun h => d1 h.1)]
      exact HLe.refl _
  · have hke : p.given.length = k := by omega
    simp (maxSteps := 1000000) (disch := omega) only [go_sem, Nat.reduceAdd, Nat.reduceMul, Nat.reduceSub, Nat.reduceEqDiff, Nat.reduceLeDiff]
    rw [clear_short (by omega) hno, if_pos rfl, bothT_all hke]
    have hown : OwnI [some ⟨g, 1, cl (eI .i64) (withL p.given xs)⟩] (.own 0 g 0 p.given.length none) (withL p.given xs) [0] := by
      have := OwnI.o (H := [some ⟨g, 1, cl (eI .i64) (withL p.given xs)⟩]) 0 g none (withL p.given xs) [] (by rw [List.append_nil]; simp only [go_sem])
      rwa [withL_len] at this
    have hf := hown.frzC
    refine lessQ_ice ?_
    show (([_, _] : List AV).mapM (frz1 _)).map AV.tup = _
    simp only [List.mapM_cons, List.mapM_nil, frz1, hf, Option.bind_eq_bind, Option.pure_def, Option.map_some]
    rfl
end Go.Lg
