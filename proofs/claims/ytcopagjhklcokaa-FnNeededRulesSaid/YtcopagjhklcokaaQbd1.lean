/- GpQ, GpJB, GpFA, GpFB, cut to what is needed. -/
import Derived.Test.YtcopagjhklcokaaQbd0
import Derived.Test.YtcopagjhklcokaaQbc5
set_option linter.unusedSimpArgs false
set_option linter.unusedVariables false
set_option maxRecDepth 100000
namespace Go.Lg
open Go.Proofs
section
variable {P : Program} {ops : Array Oper} {o : Oper} {s : List AV} {H : Heap} {K : KV} {fo : Operand} {xs : Array Operand} {ts : Array TypeId} {f : FuncId} {args args' : List AV} {zs : List Int}
theorem Loud.mkI (hc : RunCall P f args [] (ownIQ zs)) (he : Enters P f) (ho : o.op = .call ⟨.value fo, xs, ts⟩) (ha : callArgs ⟨s, H⟩ fo xs = some (f, args)) (hf : args.all frozenA = true)
    (hk : ∀ c H' S, OwnI (H ++ H') c zs S → (∀ i ∈ S, H.length ≤ i ∧ i < H.length + H'.length) → K (.c c) (H ++ H')) : Loud P ops o s H K :=
  Loud.call ho ha fun s' ha' => OpS.mkI hc he ho ha' hf hk
end
theorem look_mid {H H3 : Heap} {g sz : Nat} {cs : List CV} : look (H ++ [some ⟨g, sz, cs⟩] ++ H3) H.length g = some ⟨g, sz, cs⟩ := look_of (b := ⟨g, sz, cs⟩) (by simp)
theorem set_mid {H H3 : Heap} {x y : Option Blk} : (H ++ [x] ++ H3).set H.length y = H ++ [y] ++ H3 := by
  rw [List.append_assoc, List.append_assoc, List.set_append_right _ _ (Nat.le_refl _), Nat.sub_self]; rfl
theorem look_set_ne {H : Heap} {id j g : Nat} {x : Option Blk} (h : id ≠ j) : look (H.set id x) j g = look H j g := by
  unfold look; rw [List.getElem?_set_ne h]
structure CpI (B : Heap) (j g : Nat) (size : Int) (given : List Int) (c r : CV) (l : List RO) (S I : List Nat) : Prop where
  out : look B j g = some ⟨g, 3, [.f (.int .i64 size), c, r]⟩
  rl : (l = [] ∧ r = .f .nil ∧ I = S) ∨ ∃ id g', r = .own id g' 0 l.length none ∧ look B id g' = some ⟨g', 3, kl kR l⟩ ∧ I = S ++ id :: l.flatMap (·.i)
  cells : ∀ o ∈ l, OwnI B o.c o.r.cells o.i
  giv : OwnI B c given S
  nd : I.Nodup
  lt : ∀ x ∈ I, 2 ≤ x ∧ x < B.length ∧ x ≠ j
theorem CpI.next {B B3 : Heap} {j g : Nat} {size : Int} {given : List Int} {c r : CV} {l : List RO} {S I : List Nat} (hC : CpI B j g size given c r l S I) (o : RO) {id g' : Nat}
    (hI : (l = [] ∧ I = S ∧ B.length ≤ id) ∨ I = S ++ id :: l.flatMap (·.i)) (hs : ∀ k ∈ I, k ≠ id → B3[k]? = B[k]?) (hlen : B.length ≤ B3.length)
    (hout : look B3 j g = some ⟨g, 3, [.f (.int .i64 size), c, .own id g' 0 (l.length + 1) none]⟩) (hid : look B3 id g' = some ⟨g', 3, kl kR (l ++ [o])⟩)
    (ho : OwnI B3 o.c o.r.cells o.i) (hoi : ∀ k ∈ o.i, B.length ≤ k ∧ k < B3.length ∧ k ≠ id ∧ k ≠ j) (hi : 2 ≤ id ∧ id < B3.length ∧ id ≠ j) (h2 : 2 ≤ B.length) :
    CpI B3 j g size given c (.own id g' 0 (l.length + 1) none) (l ++ [o]) S (S ++ id :: (l ++ [o]).flatMap (·.i)) := by
  have hJ : (S ++ id :: l.flatMap (·.i)).Nodup ∧ (∀ x ∈ S ++ l.flatMap (·.i), x ∈ I) ∧ (∀ x ∈ S ++ l.flatMap (·.i), x ≠ id) := by
    rcases hI with ⟨rfl, rfl, hb⟩ | rfl
    · have hne : ∀ x ∈ I, x ≠ id := fun x hx => by have := hC.lt x hx; omega
      refine ⟨?_, by simp, by simpa using hne⟩
      simp only [List.flatMap_nil]
      rw [List.nodup_append]
      exact ⟨hC.nd, by simp, fun a ha b hb => by simp at hb; subst hb; exact hne a ha⟩
    · have hn := hC.nd
      refine ⟨hn, fun x hx => ?_, fun x hx he => ?_⟩
      · simp only [List.mem_append, List.mem_cons] at hx ⊢
        rcases hx with hx | hx
        · exact .inl hx
        · exact .inr (.inr hx)
      · subst he
        rw [List.nodup_append] at hn
        obtain ⟨n1, n2, n3⟩ := hn
        rcases List.mem_append.1 hx with hx | hx
        · exact n3 x hx x (by simp) rfl
        · exact (List.nodup_cons.1 n2).1 hx
  obtain ⟨hn, hin, hne⟩ := hJ
  have hmem : ∀ x ∈ S ++ id :: (l ++ [o]).flatMap (·.i), x ∈ S ++ l.flatMap (·.i) ∨ x = id ∨ x ∈ o.i := fun x hx => by
    simp only [List.flatMap_append, List.flatMap_cons, List.flatMap_nil, List.append_nil, List.mem_append, List.mem_cons] at hx ⊢
    rcases hx with hx | rfl | hx | hx
    · exact .inl (.inl hx)
    · exact .inr (.inl rfl)
    · exact .inl (.inr hx)
    · exact .inr (.inr hx)
  refine ⟨hout, .inr ⟨id, g', by simp, hid, rfl⟩, fun o' ho' => ?_, ?_, ?_, fun x hx => ?_⟩
  · rcases List.mem_append.1 ho' with ho' | ho'
    · refine (hC.cells o' ho').same fun k hk => ?_
      have : k ∈ S ++ l.flatMap (·.i) := List.mem_append.2 (.inr (List.mem_flatMap.2 ⟨o', ho', hk⟩))
      exact hs k (hin k this) (hne k this)
    · simp at ho'; subst ho'; exact ho
  · refine hC.giv.same fun k hk => ?_
    have : k ∈ S ++ l.flatMap (·.i) := List.mem_append.2 (.inl hk)
    exact hs k (hin k this) (hne k this)
  · have e : S ++ id :: (l ++ [o]).flatMap (·.i) = (S ++ id :: l.flatMap (·.i)) ++ o.i := by simp
    rw [e, List.nodup_append]
    refine ⟨hn, ho.nd, fun a ha b hb he => ?_⟩
    subst he
    have h4 := hoi a hb
    have : a ∈ S ++ l.flatMap (·.i) := by
      simp only [List.mem_append, List.mem_cons] at ha ⊢
      rcases ha with ha | ha | ha
      · exact .inl ha
      · exact absurd ha h4.2.2.1
      · exact .inr ha
    have := hC.lt a (hin a this)
    omega
  · rcases hmem x hx with hx | rfl | hx
    · have := hC.lt x (hin x hx); omega
    · exact hi
    · have := hoi x hx; omega
def limN : CV → Prop
  | .own _ _ _ _ lim => lim = none
  | .f .nil => True
  | _ => False
def puzQ1 (p : Puz) : KV := fun v H => ∃ c r S1 S2, v = .agg [.f (.int .i64 p.size), c, r] ∧ OwnI H c p.given S1 ∧ ((r = .f .nil ∧ p.rules = [] ∧ S2 = []) ∨ OwnR H r p.rules S2) ∧ (S1 ++ S2).Nodup ∧ limN r
theorem CpI.done {B B' : Heap} {j g : Nat} {p : Puz} {c r : CV} {l : List RO} {S I : List Nat} (hC : CpI B j g p.size p.given c r l S I) (hm : l.map (·.r) = p.rules) (hs : ∀ k ∈ I, B'[k]? = B[k]?) :
    puzQ1 p (.agg [.f (.int .i64 p.size), c, r]) B' := by
  rcases hC.rl with ⟨rfl, rfl, rfl⟩ | ⟨id, g', rfl, hid, rfl⟩
  · exact ⟨_, _, _, [], rfl, hC.giv.same hs, .inl ⟨rfl, hm.symm, rfl⟩, by rw [List.append_nil]; exact hC.nd, trivial⟩
  · refine ⟨_, _, _, _, rfl, hC.giv.same fun k hk => hs k (List.mem_append.2 (.inl hk)), .inr ?_, hC.nd, rfl⟩
    rw [← hm]
    refine OwnR.same (.o id g' none l [] (by rw [List.append_nil]; exact hid) hC.cells ?_ (by simp)) fun k hk => hs k (List.mem_append.2 (.inr hk))
    have := hC.nd
    rw [List.nodup_append] at this
    exact this.2.1
theorem look_set_eq {H : Heap} {id g sz : Nat} {cs : List CV} (h : id < H.length) : look (H.set id (some ⟨g, sz, cs⟩)) id g = some ⟨g, sz, cs⟩ := look_of (b := ⟨g, sz, cs⟩) (by rw [List.getElem?_set_self h])
theorem copyPuzzle_own1 (p : Puz) (hx : smP p) : RunCall Try.prog 61 [aP p] [] (puzQ1 p) := by
  refine RunCall.cw (c := _) Try.func61 rfl (n := 31) Try.ntmps61 (rs := [.cell 2 26]) rfl ?_
  simp only [List.length_cons, List.length_nil, Nat.reduceAdd, Nat.reduceSub, List.replicate, List.cons_append, List.nil_append]
  simp (maxSteps := 1000000) (disch := omega) only [go_sem, Nat.reduceAdd, Nat.reduceMul, Nat.reduceSub, Nat.reduceEqDiff, Nat.reduceLeDiff]
  intro g1 g2
  refine drawP_lF [0, 1, 2, 3, 6, 4, 5] [] (some 6) [7] [] foll (by kernel_rfl) ?_
  simp (maxSteps := 1000000) (disch := omega) only [go_sem, Nat.reduceBEq, Bool.true_or, Nat.reduceAdd, Nat.reduceMul, Nat.reduceSub, Nat.reduceEqDiff, Nat.reduceLeDiff]
  refine Loud.mkI (Clone_own p.given hx.1) (⟨_, Try.func106, rfl, rfl⟩ : Enters Try.prog 106) rfl rfl rfl ?_
  intro c H1 S h1 hS
  simp (maxSteps := 1000000) (disch := omega) only [go_sem, Nat.reduceAdd, Nat.reduceMul, Nat.reduceSub, Nat.reduceEqDiff, Nat.reduceLeDiff, look_last, set_last]
  intro g
  refine loop_rule2 (fun (i : Nat) (b : Heap × CV × List RO × List Nat) => p.rules.length - i) (fun i b => i ≤ p.rules.length ∧ b.2.2.1.length = i ∧ b.2.2.1.map (·.r) = p.rules.take i ∧ look b.1 1 g2 = some ⟨g2, 3, [.f (.int .i64 0), .f .nil, .f .nil]⟩ ∧ CpI b.1 (H1.length + 1 + 1) g p.size p.given c b.2.1 b.2.2.1 S b.2.2.2)
    (fun i _ => [.a, .a, .k, .k, .a, .a, .a, .a, .a, .a, .a, .a, .a, .k, .k, .p (int i), .a, .a, .a, .a, .a, .a, .a, .a, .a, .a, .a, .a, .a, .a, .a]) (fun i b => b.1) 0 (some ⟨g1, 1, cP p⟩ :: some ⟨g2, 3, [.f (.int .i64 0), .f .nil, .f .nil]⟩ :: (H1 ++ [some ⟨g, 3, [.f (.int .i64 p.size), c, .f .nil]⟩]), .f .nil, [], S)
    ⟨Nat.zero_le _, rfl, rfl, look_of (b := ⟨g2, 3, [.f (.int .i64 0), .f .nil, .f .nil]⟩) rfl, ?_⟩ (by simp (maxSteps := 1000000) (disch := omega) only [go_sem, Nat.reduceAdd, Nat.reduceMul, Nat.reduceSub, Nat.reduceEqDiff, Nat.reduceLeDiff]; rfl) (HLe.refl _) ?_
  · refine ⟨look_of (b := ⟨g, 3, [.f (.int .i64 p.size), c, .f .nil]⟩) (by simp), .inl ⟨rfl, rfl, rfl⟩, by simp, h1.app, h1.nd, fun x hx => ?_⟩
    have := hS x hx
    simp only [List.length_append, List.length_cons, List.length_nil] at this ⊢
    omega
  rintro i ⟨B, r, l, I⟩ ⟨hi, hl, hm, h1, hC⟩
  simp only at hl hm h1 hC ⊢
  have hj2 : 2 ≤ H1.length + 1 + 1 := by omega
  generalize H1.length + 1 + 1 = j at hC hj2 ⊢
  simp (maxSteps := 1000000) (disch := omega) only [go_sem, Nat.reduceAdd, Nat.reduceMul, Nat.reduceSub, Nat.reduceEqDiff, Nat.reduceLeDiff]
  (first | with_reducible refine condK_dec (fun h => ?_) (fun h => ?_) | with_reducible refine condK_ndec (fun h => ?_) (fun h => ?_) | with_reducible refine condK_nb (fun h => ?_) (fun h => ?_) | refine condK_b (fun h => ?_) (fun h => ?_))
  · have h : i < p.rules.length := by omega
    simp (maxSteps := 1000000) (disch := omega) only [go_sem, Nat.reduceAdd, Nat.reduceMul, Nat.reduceSub, Nat.reduceEqDiff, Nat.reduceLeDiff, look_last, set_last]
    intro g3
    refine OpS.mkI (Clone_own (nth p.rules i).cells (hx.2.2 _ (nth_mem h))) (⟨_, Try.func106, rfl, rfl⟩ : Enters Try.prog 106) rfl rfl rfl ?_
    intro c3 H3 S3 h3 hS3
    simp (maxSteps := 1000000) (disch := omega) only [go_sem, Nat.reduceAdd, Nat.reduceMul, Nat.reduceSub, Nat.reduceEqDiff, Nat.reduceLeDiff, look_mid, set_mid]
    generalize hB2 : B ++ [some ⟨g3, 3, [.f (.int .i64 (nth p.rules i).kind), c3, .f (.int .i64 (nth p.rules i).val)]⟩] ++ H3 = B2
    have hap : ∃ X, B2 = B ++ X := ⟨_, by rw [← hB2, List.append_assoc]⟩
    have hlB : B.length < B2.length := by rw [← hB2]; simp
    have hR : look B2 B.length g3 = some ⟨g3, 3, [.f (.int .i64 (nth p.rules i).kind), c3, .f (.int .i64 (nth p.rules i).val)]⟩ := by rw [← hB2]; exact look_mid
    have hB : ∀ {k g' : Nat} {b : Blk}, look B k g' = some b → look B2 k g' = some b := fun h => by obtain ⟨X, rfl⟩ := hap; exact look_appL h
    have h4 : OwnI B2 c3 (nth p.rules i).cells S3 := by
      refine h3.same fun k hk => ?_
      have := hS3 k hk
      simp only [List.length_append, List.length_cons, List.length_nil] at this
      rw [← hB2]
      simp only [List.append_assoc, List.cons_append, List.nil_append]
      rw [List.getElem?_append_right (by omega), List.getElem?_append_right (by omega), List.getElem?_cons, List.getElem?_cons]
      rw [if_neg (by omega), if_neg (by omega)]
    have hS4 : ∀ k ∈ S3, B.length + 1 ≤ k ∧ k < B2.length := fun k hk => by
      have := hS3 k hk
      rw [← hB2]
      simp only [List.length_append, List.length_cons, List.length_nil] at this ⊢
      omega
    have hpl : p.rules.length ≤ 2 ^ 40 := hx.2.1
    have hk1 : ∀ k, k < B.length → B2[k]? = B[k]? := fun k hk => by obtain ⟨X, rfl⟩ := hap; exact List.getElem?_append_left hk
    have hlen : 1 < B.length := (List.getElem?_eq_some_iff.1 (look_some h1).1).1
    have hjl : j < B.length := (List.getElem?_eq_some_iff.1 (look_some hC.out).1).1
    have h12 := hB h1
    have hj := hB hC.out
    clear hB2 h3 hS3
    rcases hC.rl with ⟨rfl, rfl, rfl⟩ | ⟨id, g', rfl, hid, rfl⟩
    · have hj5 : ∀ X, look (B2 ++ X) j g = some ⟨g, 3, [.f (.int .i64 p.size), c, .f .nil]⟩ := fun X => look_appL hj
      have hj6 : ∀ X Y, look (B2 ++ X ++ Y) j g = some ⟨g, 3, [.f (.int .i64 p.size), c, .f .nil]⟩ := fun X Y => look_appL (look_appL hj)
      simp (maxSteps := 1000000) (disch := omega) only [go_sem, Nat.reduceAdd, Nat.reduceMul, Nat.reduceSub, Nat.reduceEqDiff, Nat.reduceLeDiff, hR, hj, hj5, hj6, look_last, set_last]
      intro g4 g5
      refine ⟨i + 1, (_, .own (B2.length + 1) g5 0 1 none, [] ++ [⟨nth p.rules i, c3, S3⟩], _), ⟨⟨h, by simp at hl ⊢; omega, by rw [List.map_append, hm, take_succ_nth h]; rfl, ?_, CpI.next (id := B2.length + 1) (g' := g5) hC ⟨nth p.rules i, c3, S3⟩ (.inl ⟨rfl, rfl, by omega⟩) (fun k hk hki => ?_) ?_ ?_ ?_ (h4.same fun k hk => ?_) (fun k hk => ?_) ?_ hlen⟩, by omega⟩, by omega, HLe.refl _⟩
      · rw [look_set_ne (by omega)]; exact look_appL (look_appL h12)
      · have := hC.lt k hk
        rw [List.getElem?_set_ne (by omega), List.getElem?_append_left (by simp; omega), List.getElem?_append_left (by omega), hk1 k (by omega)]
      · simp; omega
      · exact look_set_eq (by simp; omega)
      · rw [look_set_ne (by omega)]
        exact look_of (b := ⟨g5, 3, [.f (.int .i64 (nth p.rules i).kind), c3, .f (.int .i64 (nth p.rules i).val)]⟩) (by simp)
      · have := hS4 k hk
        rw [List.getElem?_set_ne (by omega), List.getElem?_append_left (by simp; omega), List.getElem?_append_left (by omega)]
      · have := hS4 k hk
        simp only [List.length_set, List.length_append, List.length_cons, List.length_nil]
        omega
      · simp only [List.length_set, List.length_append, List.length_cons, List.length_nil]
        omega
    · have hid := hB hid
      have hne := hC.lt id (by simp)
      have hj5 : ∀ X, look (B2 ++ X) j g = some ⟨g, 3, [.f (.int .i64 p.size), c, .own id g' 0 l.length none]⟩ := fun X => look_appL hj
      have hid5 : ∀ X, look (B2 ++ X) id g' = some ⟨g', 3, kl kR l⟩ := fun X => look_appL hid
      have hnj : id ≠ j := hne.2.2
      have hll : l.length ≤ 2 ^ 40 := by have := hx.2.1; omega
      simp (maxSteps := 1000000) (disch := omega) only [go_sem, Nat.reduceAdd, Nat.reduceMul, Nat.reduceSub, Nat.reduceEqDiff, Nat.reduceLeDiff, hR, hj, hj5, hid5, look_last, set_last, kl_length, look_set_ne hnj]
      intro g4 g5
      refine ⟨i + 1, (_, .own id g5 0 (l.length + 1) none, l ++ [⟨nth p.rules i, c3, S3⟩], _), ⟨⟨h, by simp [hl], by rw [List.map_append, hm, take_succ_nth h]; rfl, ?_, CpI.next (id := id) (g' := g5) hC ⟨nth p.rules i, c3, S3⟩ (.inr rfl) (fun k hk hki => ?_) ?_ ?_ ?_ (h4.same fun k hk => ?_) (fun k hk => ?_) ?_ hlen⟩, by omega⟩, by omega, HLe.refl _⟩
      · rw [look_set_ne (by omega), look_set_ne (by omega)]; exact look_appL h12
      · have := hC.lt k hk
        rw [List.getElem?_set_ne (by omega), List.getElem?_set_ne (by omega), List.getElem?_append_left (by omega), hk1 k (by omega)]
      · simp; omega
      · exact look_set_eq (by simp; omega)
      · rw [look_set_ne (by omega), look_set_eq (by simp; omega), kl_append]
        rfl
      · have := hS4 k hk
        rw [List.getElem?_set_ne (by omega), List.getElem?_set_ne (by omega), List.getElem?_append_left (by omega)]
      · have := hS4 k hk
        simp only [List.length_set, List.length_append, List.length_cons, List.length_nil]
        omega
      · simp only [List.length_set, List.length_append, List.length_cons, List.length_nil]
        omega
  · have hout := hC.out
    have hlen : 1 < B.length := by
      obtain ⟨hh, _⟩ := look_some h1
      exact (List.getElem?_eq_some_iff.1 hh).1
    simp (maxSteps := 1000000) (disch := omega) only [go_sem, Nat.reduceAdd, Nat.reduceMul, Nat.reduceSub, Nat.reduceEqDiff, Nat.reduceLeDiff, hout, h1, look_set_eq hlen]
    have hi' : i = p.rules.length := by omega
    subst hi'
    rw [List.take_length] at hm
    refine ⟨_, HLe.refl _, hC.done hm fun k hk => ?_⟩
    have := hC.lt k hk
    exact List.getElem?_set_ne (by omega)
end Go.Lg

set_option linter.unusedSimpArgs false
set_option linter.unusedVariables false
set_option maxRecDepth 100000
namespace Go.Lg
open Go.Proofs
attribute [-go_sem] appendM lwF_cons
theorem setRange_nil (cs : List CV) (n : Nat) : setRange cs n [] = cs := by
  simp [setRange]
theorem set_look {H : Heap} {id g : Nat} {b : Blk} (hl : look H id g = some b) : H.set id (some b) = H := by
  obtain ⟨q1, _⟩ := look_some hl
  have hlt := (List.getElem?_eq_some_iff.1 q1).1
  refine List.ext_getElem? fun i => ?_
  by_cases hi : i = id
  · subst hi; rw [List.getElem?_set_self hlt, q1]
  · rw [List.getElem?_set_ne (Ne.symm hi)]
theorem appendM_in {P : Program} {H : Heap} {t : TypeId} {ei : TI} {K : KV} (ht : sliceOf P t = some ei) (hz : ei.zero.length = ei.size ∧ ei.size = 3) {id g n m : Nat} {cs k : List CV} (hl : look H id g = some ⟨g, 3, cs⟩)
    {src : AV} (hel : elems H 3 src = some (m, k)) (hk0 : k.length = m * 3) (hn : n * 3 < cs.length) (hm : (n + m) * 3 ≤ cs.length)
    (hk : K (.c (.own id g 0 (n + m) none)) (H.set id (some ⟨g, 3, setRange cs (n * 3) k⟩))) : appendM P H t (.c (.own id g 0 n none)) src K := by
  obtain ⟨hz1, hz2⟩ := hz
  unfold appendM
  simp only [ht, hz1, if_true, hz2, hel]
  have e1 : elems H 3 (.c (.own id g 0 n none)) = some (n, (cs.drop 0).take (n * 3)) := by simp only [elems, hl, if_true]
  simp only [e1, appM, hl, hz2]
  split
  · rename_i h0
    subst h0
    have : k = [] := List.eq_nil_of_length_eq_zero (by omega)
    subst this
    rw [setRange_nil, set_look hl] at hk
    exact hk
  · rw [if_neg (by omega)]
    simp only [okP]
    refine ⟨⟨trivial, by omega, by omega⟩, ?_⟩
    rw [Nat.zero_add]
    exact hk
theorem sliceR_gen {P : Program} {H : Heap} {t e : TypeId} {ti ei : TI} {id g n : Nat} {cs : List CV} (ht : tinf P t = some ti) (hk : ti.k = .slice e) (he : tinf P e = some ei) (hs : ei.size = 3) (hl : look H id g = some ⟨g, 3, cs⟩) (lo hi mx : Option Nat) (l h m : Nat)
    (e1 : lo.getD 0 = l) (e2 : hi.getD n = h) (e3 : mx.getD h = m) (hc : l ≤ h ∧ h ≤ m ∧ m * 3 ≤ cs.length) (hi' : mx.isSome → hi.isSome) : sliceV P H t (.c (.own id g 0 n none)) lo hi mx = some (.c (.own id g (l * 3) (h - l) (mx.map (· - l)))) := by
  subst e1 e2 e3
  obtain ⟨h1, h2, h3⟩ := hc
  simp only [sliceV, ht, hk, he, hl, Option.getD_none, hs]
  rw [if_pos ⟨h1, h2, by omega, hi', trivial, by omega, by omega⟩, Nat.zero_add]
  cases mx <;> rfl
theorem cells_del {A B C D Z : List CV} (hB : B.length = 3) (hZ : Z.length = 3) : setRange (setRange (A ++ (B ++ (C ++ D))) A.length C) (A.length + C.length) Z = A ++ (C ++ (Z ++ D)) := by
  have e1 : setRange (A ++ (B ++ (C ++ D))) A.length C = (A ++ C) ++ ((B ++ (C ++ D)).drop C.length) := by
    unfold setRange
    rw [List.take_left, List.drop_append, List.drop_of_length_le (by omega), List.nil_append, Nat.add_sub_cancel_left]
  rw [e1]
  unfold setRange
  have e2 : A.length + C.length = (A ++ C).length := by simp
  rw [e2, List.take_left, List.drop_append, List.drop_of_length_le (by omega), List.nil_append, Nat.add_sub_cancel_left, List.drop_drop, hZ]
  have e3 : C.length + 3 = (B ++ C).length := by simp; omega
  rw [e3, ← List.append_assoc B C D, List.drop_left]
  simp
theorem DeleteR_run (H : Heap) (id g i : Nat) (l : List RO) (ys : List CV) (hl : look H id g = some ⟨g, 3, kl kR l ++ ys⟩) (hi : i < l.length) (hn : l.length ≤ 2 ^ 40) :
    RunCall Try.prog 62 [.c (.own id g 0 l.length none), int i, int (i + 1)] H (fun v H' => v = .c (.own id g 0 (l.length - 1) none) ∧ H' = H.set id (some ⟨g, 3, kl kR (l.eraseIdx i) ++ ([.f (.int .i64 0), .f .nil, .f (.int .i64 0)] ++ ys)⟩)) := by
  have hkl : (kl kR l ++ ys).length = l.length * 3 + ys.length := by rw [List.length_append, kl_length]
  have hix : ((i : Int)).toNat = i := Int.toNat_natCast i
  have hix2 : ((i : Int) + 1).toNat = i + 1 := by omega
  have hil : ((l.length : Int)).toNat = l.length := Int.toNat_natCast _
  have s1 := sliceR_gen ti24 rfl ti32 rfl hl (n := l.length) (some i) (some (i + 1)) (some l.length) i (i + 1) l.length rfl rfl rfl ⟨by omega, by omega, by omega⟩ (fun _ => rfl)
  have s2 := sliceR_gen ti24 rfl ti32 rfl hl (n := l.length) none (some i) none 0 i i rfl rfl rfl ⟨by omega, by omega, by omega⟩ (fun h => by cases h)
  have s3 := sliceR_gen ti24 rfl ti32 rfl hl (n := l.length) (some (i + 1)) none none (i + 1) l.length l.length rfl rfl rfl ⟨by omega, by omega, by omega⟩ (fun h => by cases h)
  have hms := mask_nil H
  refine RunCall.cw (c := _) Try.func62 rfl (n := 33) Try.ntmps62 (rs := [.tmp 6]) rfl ?_
  simp only [List.length_cons, List.length_nil, Nat.reduceAdd, Nat.reduceSub, List.replicate, List.cons_append, List.nil_append]
  simp (maxSteps := 1000000) (disch := omega) only [go_sem, Nat.reduceAdd, Nat.reduceMul, Nat.reduceSub, Nat.reduceEqDiff, Nat.reduceLeDiff, hl]
  rw [hix, hix2, hil, s1]
  have hd : decide ((i : Int) = (i : Int) + 1) = false := decide_eq_false (by omega)
  simp (maxSteps := 1000000) (disch := omega) only [go_sem, Nat.reduceAdd, Nat.reduceMul, Nat.reduceSub, Nat.reduceEqDiff, Nat.reduceLeDiff, hl, hd]
  refine drawP_lM [0, 1, 2, 3, 4, 5] [] none [6, 7] [] [0, 0, 3, 0, 0, 24, 63, 127] foll (by kernel_rfl) ?_
  iterate 2 (rw [lwF_cons]; simp (maxSteps := 1000000) (disch := omega) only [go_sem, Nat.reduceAdd, Nat.reduceMul, Nat.reduceSub, Nat.reduceEqDiff, Nat.reduceLeDiff, hms, hl])
  rw [lwF_cons]
  simp (maxSteps := 1000000) (disch := omega) only [go_sem, Nat.reduceAdd, Nat.reduceMul, Nat.reduceSub, Nat.reduceEqDiff, Nat.reduceLeDiff, hms, hl, hix, s2]
  iterate 2 (rw [lwF_cons]; simp (maxSteps := 1000000) (disch := omega) only [go_sem, Nat.reduceAdd, Nat.reduceMul, Nat.reduceSub, Nat.reduceEqDiff, Nat.reduceLeDiff, hms, hl])
  rw [lwF_cons]
  simp (maxSteps := 1000000) (disch := omega) only [go_sem, Nat.reduceAdd, Nat.reduceMul, Nat.reduceSub, Nat.reduceEqDiff, Nat.reduceLeDiff, hms, hl, hix2, s3]
  obtain ⟨A, hA⟩ : ∃ A, A = kl kR (l.take i) := ⟨_, rfl⟩
  obtain ⟨B, hB⟩ : ∃ B, B = kR l[i] := ⟨_, rfl⟩
  obtain ⟨C, hC⟩ : ∃ C, C = kl kR (l.drop (i + 1)) := ⟨_, rfl⟩
  have hAl : A.length = i * 3 := by rw [hA, kl_length, List.length_take, Nat.min_eq_left (by omega)]
  have hBl : B.length = 3 := by rw [hB]; rfl
  have hCl : C.length = (l.length - (i + 1)) * 3 := by rw [hC, kl_length, List.length_drop]
  have hcs : kl kR l ++ ys = A ++ (B ++ (C ++ ys)) := by
    have : l = l.take i ++ ([l[i]] ++ l.drop (i + 1)) := by rw [List.singleton_append, List.getElem_cons_drop, List.take_append_drop]
    conv => lhs; rw [this]
    rw [kl_append, kl_append, hA, hB, hC]
    simp [kl]
  have her : kl kR (l.eraseIdx i) = A ++ C := by rw [List.eraseIdx_eq_take_drop_succ, kl_append, hA, hC]
  rw [hcs] at hl hkl
  have hlt : id < H.length := (List.getElem?_eq_some_iff.1 (look_some hl).1).1
  have hel : elems H 3 (.c (.own id g ((i + 1) * 3) (l.length - (i + 1)) none)) = some (l.length - (i + 1), C) := by
    have e1 : (i + 1) * 3 = (A ++ B).length := by simp; omega
    simp only [elems, hl, if_true]
    rw [e1, ← List.append_assoc, List.drop_left, ← hCl, List.take_left]
  rw [Nat.sub_zero]
  refine appendM_in (sliceOf_of' ti24 rfl ti32) ⟨rfl, rfl⟩ hl hel hCl (by omega) (by omega) ?_
  rw [show i + (l.length - (i + 1)) = l.length - 1 by omega, ← hAl]
  obtain ⟨X, hX⟩ : ∃ X, X = setRange (A ++ (B ++ (C ++ ys))) A.length C := ⟨_, rfl⟩
  rw [← hX]
  have hXl : X.length = l.length * 3 + ys.length := by rw [hX, setRange_length (by rw [hkl]; omega), hkl]
  have hl2 : ∀ Y, look (H.set id (some ⟨g, 3, Y⟩)) id g = some ⟨g, 3, Y⟩ := fun Y => look_set_eq hlt
  have s4 := sliceR_gen ti24 rfl ti32 rfl (hl2 X) (n := l.length - 1) (some (l.length - 1)) (some l.length) none (l.length - 1) l.length l.length rfl rfl rfl ⟨by omega, by omega, by omega⟩ (fun h => by cases h)
  have hil2 : (((l.length - 1 : Nat) : Int)).toNat = l.length - 1 := Int.toNat_natCast _
  simp (maxSteps := 1000000) (disch := omega) only [go_sem, Nat.reduceAdd, Nat.reduceMul, Nat.reduceSub, Nat.reduceEqDiff, Nat.reduceLeDiff, hl2]
  rw [hil2, hil, s4]
  simp (maxSteps := 1000000) (disch := omega) only [go_sem, Nat.reduceAdd, Nat.reduceMul, Nat.reduceSub, Nat.reduceEqDiff, Nat.reduceLeDiff, hl2]
  refine OpS.clear rfl ti24 rfl ti32 rfl rfl (hl2 X) rfl (by omega) ?_ ?_
  · show (l.length - 1) * 3 + (l.length - (l.length - 1)) * 3 ≤ X.length
    omega
  have hfin : (H.set id (some ⟨g, 3, X⟩)).set id (some ⟨g, 3, setRange X ((l.length - 1) * 3) (zerosL ((l.length - (l.length - 1)) * 3) [.f (.int .i64 0), .f .nil, .f (.int .i64 0)])⟩) = H.set id (some ⟨g, 3, kl kR (l.eraseIdx i) ++ ([.f (.int .i64 0), .f .nil, .f (.int .i64 0)] ++ ys)⟩) := by
    have e1 : (l.length - 1) * 3 = A.length + C.length := by omega
    have e2 : l.length - (l.length - 1) = 1 := by omega
    have e3 : zerosL (1 * 3) [CV.f (.int .i64 0), .f .nil, .f (.int .i64 0)] = [.f (.int .i64 0), .f .nil, .f (.int .i64 0)] := rfl
    rw [List.set_set, e1, e2, e3, hX, cells_del hBl rfl, her, List.append_assoc]
  show vwK _ _ _ _ _ _ _ ((H.set id (some ⟨g, 3, X⟩)).set id (some ⟨g, 3, setRange X ((l.length - 1) * 3) (zerosL ((l.length - (l.length - 1)) * 3) [.f (.int .i64 0), .f .nil, .f (.int .i64 0)])⟩))
  rw [hfin]
  simp (maxSteps := 1000000) (disch := omega) only [go_sem, Nat.reduceAdd, Nat.reduceMul, Nat.reduceSub, Nat.reduceEqDiff, Nat.reduceLeDiff]
  exact ⟨_, HLe.refl _, rfl, rfl⟩
theorem ClipR_run (H : Heap) (id g n : Nat) (cs : List CV) (hl : look H id g = some ⟨g, 3, cs⟩) (hn : n * 3 ≤ cs.length) (hn4 : n ≤ 2 ^ 40) : RunCall Try.prog 63 [.c (.own id g 0 n none)] H (fun v H' => v = .c (.own id g 0 n (some n)) ∧ H' = H) := by
  have s1 := sliceR_gen ti24 rfl ti32 rfl hl (n := n) none (some n) (some n) 0 n n rfl rfl rfl ⟨by omega, by omega, by omega⟩ (fun _ => rfl)
  have hin : ((n : Int)).toNat = n := Int.toNat_natCast _
  refine RunCall.cw (c := _) Try.func63 rfl (n := 9) Try.ntmps63 (rs := [.tmp 2]) rfl ?_
  simp only [List.length_cons, List.length_nil, Nat.reduceAdd, Nat.reduceSub, List.replicate, List.cons_append, List.nil_append]
  simp (maxSteps := 1000000) (disch := omega) only [go_sem, Nat.reduceAdd, Nat.reduceMul, Nat.reduceSub, Nat.reduceEqDiff, Nat.reduceLeDiff, hl]
  rw [hin, s1]
  simp (maxSteps := 1000000) (disch := omega) only [go_sem, Nat.reduceAdd, Nat.reduceMul, Nat.reduceSub, Nat.reduceEqDiff, Nat.reduceLeDiff]
  exact ⟨_, HLe.refl _, by simp, rfl⟩
theorem ClipR_nil (H : Heap) : RunCall Try.prog 63 [.c (.f .nil)] H (fun v H' => v = .c (.f .nil) ∧ H' = H) := by
  have s1 : sliceV Try.prog H 24 (.c (.f .nil)) none (some (Int.toNat 0)) (some (Int.toNat 0)) = some (.c (.f .nil)) := by
    simp only [sliceV, ti24, ti32]
    rfl
  refine RunCall.cw (c := _) Try.func63 rfl (n := 9) Try.ntmps63 (rs := [.tmp 2]) rfl ?_
  simp only [List.length_cons, List.length_nil, Nat.reduceAdd, Nat.reduceSub, List.replicate, List.cons_append, List.nil_append]
  simp (maxSteps := 1000000) (disch := omega) only [go_sem, Nat.reduceAdd, Nat.reduceMul, Nat.reduceSub, Nat.reduceEqDiff, Nat.reduceLeDiff]
  rw [s1]
  simp (maxSteps := 1000000) (disch := omega) only [go_sem, Nat.reduceAdd, Nat.reduceMul, Nat.reduceSub, Nat.reduceEqDiff, Nat.reduceLeDiff]
  exact ⟨_, HLe.refl _, rfl, rfl⟩
end Go.Lg

set_option linter.unusedSimpArgs false
set_option linter.unusedVariables false
set_option maxRecDepth 100000
namespace Go.Lg
open Go.Proofs
theorem GrdN.nn' {xs : List Int} {n : Nat} (h : GrdN xs n) (c : Int) : 0 ≤ nth xs c := by
  rw [nth_toNat]
  by_cases hk : c.toNat < xs.length
  · exact (h.val _ hk).1
  · unfold nth
    rw [Int.toNat_natCast, List.getD_eq_getElem?_getD, List.getElem?_eq_none (by omega)]
    exact Int.le_refl _
theorem GrdN.set {xs : List Int} {n i v : Nat} (hg : GrdN xs n) (hi : i < xs.length) (hv : v ≤ n) : GrdN (xs.set i (v : Int)) n := ⟨by rw [List.length_set]; exact hg.len, fun k hk => by
  rw [List.length_set] at hk
  rw [nth_setN _ _ _ _ hi]
  split
  · omega
  · exact hg.val k hk⟩
theorem sols_succ (p : Puz) (n m : Nat) (xs : List Int) {i : Nat} (hi : xs.length - (m + 1) = i) : sols p n (m + 1) xs = if 0 < nth xs i then sols p n m xs else (vals n 1).flatMap fun (v : Nat) => if fitsL p (xs.set i (v : Int)) n = true then sols p n m (xs.set i (v : Int)) else [] := by
  conv => lhs; rw [sols, hi]
  rfl
theorem vals_mem {n v : Nat} (h : v ∈ vals n 1) : 1 ≤ v ∧ v ≤ n := by
  unfold vals at h
  rw [Nat.sub_self, List.drop_zero] at h
  obtain ⟨k, hk, rfl⟩ := List.mem_map.1 h
  rw [List.mem_range] at hk
  omega
theorem sols_full (p : Puz) {n : Nat} : ∀ (m : Nat) (xs : List Int), m ≤ n * n → GrdN xs n → (∀ k : Nat, k < n * n - m → 0 < nth xs k) → ∀ s ∈ sols p n m xs, GrdN s n ∧ (∀ k : Nat, k < n * n → 0 < nth s k) ∧ ∀ k : Nat, 0 < nth xs k → nth s k = nth xs k
  | 0, xs, hm, hg, hf, s, hs => by
    rw [sols, List.mem_singleton] at hs
    subst hs
    exact ⟨hg, fun k hk => hf k (by omega), fun _ _ => rfl⟩
  | m + 1, xs, hm, hg, hf, s, hs => by
    have hxl := hg.len
    obtain ⟨i, hi⟩ : ∃ i, i = xs.length - (m + 1) := ⟨_, rfl⟩
    rw [sols_succ p n m xs hi.symm] at hs
    split at hs
    · rename_i h0
      exact sols_full p m xs (by omega) hg (fun k hk => by
        by_cases hki : k = i
        · rw [hki]; exact h0
        · exact hf k (by omega)) s hs
    · rename_i h0
      obtain ⟨v, hv, hs⟩ := List.mem_flatMap.1 hs
      have hvb := vals_mem hv
      have hil : i < xs.length := by omega
      split at hs
      · obtain ⟨q1, q2, q3⟩ := sols_full p m (xs.set i (v : Int)) (by omega) (hg.set hil hvb.2) (fun k hk => by
          rw [nth_setN _ _ _ _ hil]
          split
          · omega
          · exact hf k (by omega)) s hs
        refine ⟨q1, q2, fun k hk => ?_⟩
        have hki : k ≠ i := fun h => by rw [h] at hk; omega
        have := q3 k (by rw [nth_setN _ _ _ _ hil, if_neg hki]; exact hk)
        rw [nth_setN _ _ _ _ hil, if_neg hki] at this
        exact this
      · simp at hs
def LeB (o o' : List Nat) : Prop := o.length = o'.length ∧ ∀ k b : Nat, (o.getD k 0).testBit b = true → (o'.getD k 0).testBit b = true
theorem LeB.refl (o : List Nat) : LeB o o := ⟨rfl, fun _ _ h => h⟩
theorem LeB.trans {a b c : List Nat} (h1 : LeB a b) (h2 : LeB b c) : LeB a c := ⟨h1.1.trans h2.1, fun k x h => h2.2 k x (h1.2 k x h)⟩
theorem orV_getD {o : List Nat} {vs : List Int} (h : vs.length = o.length) (k : Nat) : (orV o vs).getD k 0 = if k < o.length then (o.getD k 0 ||| 2 ^ (nth vs k).toNat) else 0 := by
  by_cases hk : k < o.length
  · rw [if_pos hk]
    have h1 : k < (orV o vs).length := by rw [orV_length]; omega
    rw [List.getD_eq_getElem?_getD, List.getElem?_eq_getElem h1, List.getD_eq_getElem?_getD, List.getElem?_eq_getElem hk, nth_eq (by omega)]
    simp [orV]
  · rw [if_neg hk, List.getD_eq_getElem?_getD, List.getElem?_eq_none (by rw [orV_length]; omega)]
    rfl
theorem orV_le {o : List Nat} {vs : List Int} (h : vs.length = o.length) : LeB o (orV o vs) := ⟨by rw [orV_length]; omega, fun k b hb => by
  rw [orV_getD h]
  split
  · rw [Nat.testBit_or, hb, Bool.true_or]
  · rename_i hk
    rw [List.getD_eq_getElem?_getD, List.getElem?_eq_none (by omega)] at hb
    simp at hb⟩
theorem orV_mono {o o' : List Nat} {vs : List Int} (h : vs.length = o.length) (hl : LeB o o') : LeB (orV o vs) (orV o' vs) := ⟨by rw [orV_length, orV_length, hl.1], fun k b hb => by
  rw [orV_getD h] at hb
  rw [orV_getD (h.trans hl.1), ← hl.1]
  split at hb
  · rename_i hk
    rw [if_pos hk]
    rw [Nat.testBit_or, Bool.or_eq_true] at hb ⊢
    exact hb.imp (hl.2 k b) id
  · simp at hb⟩
theorem ways_le (r : Rul) : ∀ (ms : List Nat) (pre : List Int) (o : List Nat), pre.length + ms.length = o.length → LeB o (ways r ms pre o)
  | [], pre, o, h => by
    unfold ways
    split
    · exact orV_le (by simpa using h)
    · exact .refl _
  | m :: ms, pre, o, h => by
    rw [ways_cons]
    have : ∀ (l : List Int) (o : List Nat), pre.length + 1 + ms.length = o.length → LeB o (l.foldl (fun o v => ways r ms (pre ++ [v]) o) o) := by
      intro l
      induction l with
      | nil => exact fun o _ => .refl _
      | cons v l ih =>
        intro o h
        rw [List.foldl_cons]
        have h1 := ways_le r ms (pre ++ [v]) o (by simp; omega)
        exact h1.trans (ih _ (by rw [← h1.1]; exact h))
    exact this _ _ (by simp at h; omega)
theorem ways_mono (r : Rul) : ∀ (ms ms' : List Nat) (pre : List Int) (o o' : List Nat), pre.length + ms.length = o.length → ms.length = ms'.length → (∀ k v : Nat, 1 ≤ v → v ≤ 4 → (ms.getD k 0).testBit v = true → (ms'.getD k 0).testBit v = true) → LeB o o' → LeB (ways r ms pre o) (ways r ms' pre o')
  | [], [], pre, o, o', h, _, _, ho => by
    unfold ways
    split
    · exact orV_mono (by simpa using h) ho
    · exact ho
  | [], _ :: _, _, _, _, _, h, _, _ => by simp at h
  | _ :: _, [], _, _, _, _, h, _, _ => by simp at h
  | m :: ms, m' :: ms', pre, o, o', h, hl, hb, ho => by
    have hstep : ∀ (v : Nat), 1 ≤ v → v ≤ 4 → ∀ (o o' : List Nat), pre.length + 1 + ms.length = o.length → LeB o o' →
        LeB (if m.testBit v = true then ways r ms (pre ++ [(v : Int)]) o else o) (if m'.testBit v = true then ways r ms' (pre ++ [(v : Int)]) o' else o') ∧ pre.length + 1 + ms.length = (if m.testBit v = true then ways r ms (pre ++ [(v : Int)]) o else o).length := by
      intro v hv1 hv4 o o' hlen ho
      have hlen' : (pre ++ [(v : Int)]).length + ms.length = o.length := by simp; omega
      by_cases hm : m.testBit v = true
      · have hm' : m'.testBit v = true := by simpa using hb 0 v hv1 hv4 (by simpa using hm)
        rw [if_pos hm, if_pos hm']
        exact ⟨ways_mono r ms ms' _ o o' hlen' (by simpa using hl) (fun k v h1 h2 h3 => by simpa using hb (k + 1) v h1 h2 (by simpa using h3)) ho, by rw [ways_len r ms _ _ hlen']; exact hlen⟩
      · rw [if_neg hm]
        refine ⟨?_, hlen⟩
        split
        · exact ho.trans (ways_le r ms' _ o' (by rw [← ho.1]; simp at hl ⊢; omega))
        · exact ho
    have e : ∀ (M : Nat) (MS : List Nat) (O : List Nat), ways r (M :: MS) pre O = [1, 2, 3, 4].foldl (fun o (v : Nat) => if M.testBit v = true then ways r MS (pre ++ [(v : Int)]) o else o) O := fun _ _ _ => rfl
    rw [e, e]
    simp only [List.foldl_cons, List.foldl_nil]
    have h0 : pre.length + 1 + ms.length = o.length := by simp at h; omega
    obtain ⟨a1, b1⟩ := hstep 1 (by omega) (by omega) o o' h0 ho
    obtain ⟨a2, b2⟩ := hstep 2 (by omega) (by omega) _ _ b1 a1
    obtain ⟨a3, b3⟩ := hstep 3 (by omega) (by omega) _ _ b2 a2
    exact (hstep 4 (by omega) (by omega) _ _ b3 a3).1
theorem maskAt_mono {xs ys : List Int} {n : Nat} (hn : n = 2 ∨ n = 3 ∨ n = 4) {c : Int} (h : 0 < nth xs c → nth ys c = nth xs c) (hy : 0 ≤ nth ys c ∧ nth ys c ≤ n) {v : Nat} (hv : 1 ≤ v ∧ v ≤ 4) (hb : (maskAt ys n c).testBit v = true) : (maskAt xs n c).testBit v = true := by
  unfold maskAt at hb ⊢
  by_cases hx : 0 < nth xs c
  · rw [if_pos hx]
    rw [h hx, if_pos hx] at hb
    exact hb
  · rw [if_neg hx]
    by_cases hy0 : 0 < nth ys c
    · rw [if_pos hy0, Nat.testBit_two_pow] at hb
      have hv' : v ≤ n := by simp at hb; omega
      clear hb
      have : v = 1 ∨ v = 2 ∨ v = 3 ∨ v = 4 := by omega
      rcases hn with rfl | rfl | rfl <;> rcases this with rfl | rfl | rfl | rfl <;> first | omega | decide
    · rw [if_neg hy0] at hb
      exact hb
theorem canHold_mono {xs ys : List Int} {n : Nat} (hn : n = 2 ∨ n = 3 ∨ n = 4) {r : Rul} (h : ∀ c ∈ r.cells, 0 < nth xs c → nth ys c = nth xs c) (hy : ∀ c ∈ r.cells, 0 ≤ nth ys c ∧ nth ys c ≤ n) (hc : canHold r ys n = true) : canHold r xs n = true := by
  unfold canHold at hc ⊢
  have hle := ways_mono r (r.cells.map (maskAt ys n)) (r.cells.map (maskAt xs n)) [] (List.replicate r.cells.length 0) (List.replicate r.cells.length 0) (by simp) (by simp) (fun k v h1 h2 h3 => by
    by_cases hk : k < r.cells.length
    · have e : ∀ zs : List Int, (r.cells.map (maskAt zs n)).getD k 0 = maskAt zs n r.cells[k] := fun zs => by
        rw [List.getD_eq_getElem?_getD, List.getElem?_map, List.getElem?_eq_getElem hk]; rfl
      rw [e] at h3 ⊢
      have hm : r.cells[k] ∈ r.cells := List.getElem_mem _
      exact maskAt_mono hn (h _ hm) (hy _ hm) ⟨h1, h2⟩ h3
    · rw [List.getD_eq_getElem?_getD, List.getElem?_eq_none (by simp; omega)] at h3
      simp at h3) (.refl _)
  generalize ways r (r.cells.map (maskAt ys n)) [] (List.replicate r.cells.length 0) = A at hc hle
  generalize ways r (r.cells.map (maskAt xs n)) [] (List.replicate r.cells.length 0) = B at hle ⊢
  have hA : A.getD 0 0 ≠ 0 := by simpa using hc
  obtain ⟨b, hb⟩ := Nat.exists_testBit_of_ne_zero hA
  have := hle.2 0 b hb
  have hB : B.getD 0 0 ≠ 0 := fun h => by rw [h] at this; simp at this
  simpa using hB
theorem cells_grd {r : Rul} {n : Nat} {ys : List Int} (hr : ruleValid r n = true) (hg : GrdN ys n) : ∀ c ∈ r.cells, 0 ≤ nth ys c ∧ nth ys c ≤ n := fun c hc => by
  have h3 := (ruleValid_facts hr).2.2.1 c hc
  have hl := hg.len
  obtain ⟨k, rfl⟩ : ∃ k : Nat, c = k := ⟨c.toNat, by omega⟩
  exact hg.val k (by omega)
theorem fits_mono {p : Puz} {n : Nat} (hp : PuzN p n) {xs ys : List Int} (hx : GrdN xs n) (hy : GrdN ys n) (h : ∀ k : Nat, 0 < nth xs k → nth ys k = nth xs k) (hf : fitsL p ys n = true) : fitsL p xs n = true := by
  have hn := hp.hn
  simp only [fitsL, Bool.and_eq_true, clear, decide_eq_true_eq, Bool.not_eq_true', List.all_eq_true] at hf ⊢
  obtain ⟨h1, h2, h3⟩ := hf
  have hc : ∀ c : Int, 0 < nth xs c → nth ys c = nth xs c := fun c hc => by
    rw [nth_toNat] at hc
    rw [nth_toNat ys, nth_toNat xs]
    exact h _ hc
  refine ⟨fun k hk => ?_, fun r hr => canHold_mono hn (fun c _ => hc c) (cells_grd (hp.rv r hr) hy) (h2 r hr), ?_⟩
  · rintro ⟨a, b, d⟩
    have := h k b
    exact h1 k (by rw [hy.len, ← hx.len]; exact hk) ⟨a, by omega, by omega⟩
  · rw [clash_nc hn hy.nn'] at h3
    rw [clash_nc hn hx.nn']
    intro a b hab hb hl h0 he
    have e1 := h a h0
    have e2 := h b (by omega)
    exact h3 a b hab hb hl (by omega) (by omega)
def Has (p : Puz) (xs : List Int) : Prop := ∀ k : Nat, 0 < nth p.given k → nth xs k = nth p.given k
theorem Has.clear {p : Puz} {xs : List Int} (h : Has p xs) : Lg.clear p xs = true := by
  simp only [Lg.clear, decide_eq_true_eq]
  exact fun k hk ⟨a, b, c⟩ => c (h k a)
theorem Has.set {p : Puz} {xs : List Int} (h : Has p xs) {i : Nat} {v : Int} (hi : i < xs.length) (h0 : ¬ 0 < nth xs i) : Has p (xs.set i v) := fun k hk => by
  rw [nth_setN _ _ _ _ hi]
  have := h k hk
  split
  · rename_i hki
    subst hki
    omega
  · exact this
theorem nth_over {xs : List Int} {k : Nat} (h : xs.length ≤ k) : nth xs (k : Int) = 0 := by
  unfold nth
  rw [Int.toNat_natCast, List.getD_eq_getElem?_getD, List.getElem?_eq_none h]
  rfl
end Go.Lg

set_option linter.unusedSimpArgs false
set_option linter.unusedVariables false
set_option maxRecDepth 100000
namespace Go.Lg
open Go.Proofs
theorem allS_full {p : Puz} {most : Nat} : ∀ s ∈ allS p most, GrdN s p.size.toNat ∧ ∀ k : Nat, k < p.given.length → 0 < nth s k := by
  intro s hs
  unfold allS at hs
  split at hs
  · rename_i h
    obtain ⟨hp, hz⟩ := PuzN.of h.1
    have hg := GrdN.of hp.hn (xs := p.given) (by rw [hz]; exact puzzleValid_grid' h.1)
    obtain ⟨q1, q2, _⟩ := sols_full p _ _ (Nat.le_refl _) hg (fun k hk => absurd hk (by omega)) s (List.mem_of_mem_take hs)
    exact ⟨q1, fun k hk => q2 k (by rw [← hg.len]; exact hk)⟩
  · simp at hs
theorem allS_cell {p : Puz} (hv : puzzleValid p = true) {most : Nat} {s : List Int} (hs : s ∈ allS p most) : s.length = p.given.length := by
  obtain ⟨hp, hz⟩ := PuzN.of hv
  rw [(allS_full s hs).1.len, hp.len]
attribute [-go_sem] appendM
end Go.Lg
