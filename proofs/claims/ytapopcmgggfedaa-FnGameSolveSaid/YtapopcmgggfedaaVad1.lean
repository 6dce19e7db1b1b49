/- GpMJ, GpQ, GpFC, GpEF, cut to what is needed. -/
import Derived.Test.YtapopcmgggfedaaVad0
import Derived.Test.YtapopcmgggfedaaVac5
import Derived.Test.YtapopcmgggfedaaVac4
import Derived.Test.YtapopcmgggfedaaVac7
import Derived.Test.YtapopcmgggfedaaVac3
open Nat(reduceAdd reduceMul reduceSub reduceEqDiff reduceLeDiff)
set_option linter.unusedSimpArgs false
set_option linter.unusedVariables false
set_option maxRecDepth 100000
namespace Go.Lg
open Go.Proofs
theorem NarrowBy_run {p : Puz} {n : Nat} (hp : PuzN p n) (hv : puzzleValid p = true) (ms : List Nat) (hm : MsN ms n) (t : Nat) (ht : 1 ≤ t ∧ t ≤ 4) : Reads Try.prog 63 [aP p, ints (nats ms), int t] (ints (nats (narM p t ms))) := by
  have hn := hp.hn
  have hz := hp.size
  have hzn : p.size.toNat = n := by rw [hz]; rfl
  have h1 := NarrowSingles_run hn ms hm
  have h2 := NarrowHidden_run hn ms hm
  have h3 := NarrowPairs_run hn ms hm
  have h4 := NarrowRules_run hp hv ms hm
  rw [← hz] at h1 h2 h3
  have e : narM p t ms = if t = 1 then sglM ms n else if t = 2 then hidM ms n else if t = 3 then parM ms n else rulM p ms := by unfold narM; rw [hzn]
  rw [e]
  obtain rfl | rfl | rfl | rfl : t = 1 ∨ t = 2 ∨ t = 3 ∨ t = 4 := by omega
  · refine RunCall.cw (c := _) Try.func63 rfl (n := 34) Try.ntmps63 (rs := [.tmp 6]) rfl ?_
    simp only[List.length_cons,List.length_nil,reduceAdd,reduceSub,List.replicate,List.cons_append,List.nil_append]
    simp(maxSteps:=999999)(disch:=omega)only[go_sem,reduceAdd,reduceMul,reduceSub,reduceEqDiff,reduceLeDiff]
    intro g
    first | refine OpS.rd (PuzzleValid_run p hp.sm) (⟨_, Try.func15, rfl, rfl⟩ : Enters Try.prog 15) rfl rfl rfl rfl ?_ | refine Loud.rd (PuzzleValid_run p hp.sm) (⟨_, Try.func15, rfl, rfl⟩ : Enters Try.prog 15) rfl rfl rfl rfl ?_
    simp(maxSteps:=999999)(disch:=omega)only[go_sem,reduceAdd,reduceMul,reduceSub,reduceEqDiff,reduceLeDiff]
    rw [hv]
    have d11 : decide (((1 : Nat) : Int) = 1) = true := rfl
    simp(maxSteps:=999999)(disch:=omega)only[go_sem,reduceAdd,reduceMul,reduceSub,reduceEqDiff,reduceLeDiff, d11]
    first | refine OpS.mk (h1) (⟨_, Try.func73, rfl, rfl⟩ : Enters Try.prog 73) rfl rfl rfl rfl rfl ?_ | refine Loud.mk (h1) (⟨_, Try.func73, rfl, rfl⟩ : Enters Try.prog 73) rfl rfl rfl rfl rfl ?_
    simp(maxSteps:=999999)(disch:=omega)only[go_sem,reduceAdd,reduceMul,reduceSub,reduceEqDiff,reduceLeDiff]
  · refine RunCall.cw (c := _) Try.func63 rfl (n := 34) Try.ntmps63 (rs := [.tmp 6]) rfl ?_
    simp only[List.length_cons,List.length_nil,reduceAdd,reduceSub,List.replicate,List.cons_append,List.nil_append]
    simp(maxSteps:=999999)(disch:=omega)only[go_sem,reduceAdd,reduceMul,reduceSub,reduceEqDiff,reduceLeDiff]
    intro g
    first | refine OpS.rd (PuzzleValid_run p hp.sm) (⟨_, Try.func15, rfl, rfl⟩ : Enters Try.prog 15) rfl rfl rfl rfl ?_ | refine Loud.rd (PuzzleValid_run p hp.sm) (⟨_, Try.func15, rfl, rfl⟩ : Enters Try.prog 15) rfl rfl rfl rfl ?_
    simp(maxSteps:=999999)(disch:=omega)only[go_sem,reduceAdd,reduceMul,reduceSub,reduceEqDiff,reduceLeDiff]
    rw [hv]
    have d21 : decide (((2 : Nat) : Int) = 1) = false := rfl
    have d22 : decide (((2 : Nat) : Int) = 2) = true := rfl
    simp(maxSteps:=999999)(disch:=omega)only[go_sem,reduceAdd,reduceMul,reduceSub,reduceEqDiff,reduceLeDiff, d21, d22]
    first | refine OpS.mk (h2) (⟨_, Try.func74, rfl, rfl⟩ : Enters Try.prog 74) rfl rfl rfl rfl rfl ?_ | refine Loud.mk (h2) (⟨_, Try.func74, rfl, rfl⟩ : Enters Try.prog 74) rfl rfl rfl rfl rfl ?_
    simp(maxSteps:=999999)(disch:=omega)only[go_sem,reduceAdd,reduceMul,reduceSub,reduceEqDiff,reduceLeDiff]
  · refine RunCall.cw (c := _) Try.func63 rfl (n := 34) Try.ntmps63 (rs := [.tmp 6]) rfl ?_
    simp only[List.length_cons,List.length_nil,reduceAdd,reduceSub,List.replicate,List.cons_append,List.nil_append]
    simp(maxSteps:=999999)(disch:=omega)only[go_sem,reduceAdd,reduceMul,reduceSub,reduceEqDiff,reduceLeDiff]
    intro g
    first | refine OpS.rd (PuzzleValid_run p hp.sm) (⟨_, Try.func15, rfl, rfl⟩ : Enters Try.prog 15) rfl rfl rfl rfl ?_ | refine Loud.rd (PuzzleValid_run p hp.sm) (⟨_, Try.func15, rfl, rfl⟩ : Enters Try.prog 15) rfl rfl rfl rfl ?_
    simp(maxSteps:=999999)(disch:=omega)only[go_sem,reduceAdd,reduceMul,reduceSub,reduceEqDiff,reduceLeDiff]
    rw [hv]
    have d31 : decide (((3 : Nat) : Int) = 1) = false := rfl
    have d32 : decide (((3 : Nat) : Int) = 2) = false := rfl
    have d33 : decide (((3 : Nat) : Int) = 3) = true := rfl
    simp(maxSteps:=999999)(disch:=omega)only[go_sem,reduceAdd,reduceMul,reduceSub,reduceEqDiff,reduceLeDiff, d31, d32, d33]
    first | refine OpS.mk (h3) (⟨_, Try.func75, rfl, rfl⟩ : Enters Try.prog 75) rfl rfl rfl rfl rfl ?_ | refine Loud.mk (h3) (⟨_, Try.func75, rfl, rfl⟩ : Enters Try.prog 75) rfl rfl rfl rfl rfl ?_
    simp(maxSteps:=999999)(disch:=omega)only[go_sem,reduceAdd,reduceMul,reduceSub,reduceEqDiff,reduceLeDiff]
  · refine RunCall.cw (c := _) Try.func63 rfl (n := 34) Try.ntmps63 (rs := [.tmp 6]) rfl ?_
    simp only[List.length_cons,List.length_nil,reduceAdd,reduceSub,List.replicate,List.cons_append,List.nil_append]
    simp(maxSteps:=999999)(disch:=omega)only[go_sem,reduceAdd,reduceMul,reduceSub,reduceEqDiff,reduceLeDiff]
    intro g
    first | refine OpS.rd (PuzzleValid_run p hp.sm) (⟨_, Try.func15, rfl, rfl⟩ : Enters Try.prog 15) rfl rfl rfl rfl ?_ | refine Loud.rd (PuzzleValid_run p hp.sm) (⟨_, Try.func15, rfl, rfl⟩ : Enters Try.prog 15) rfl rfl rfl rfl ?_
    simp(maxSteps:=999999)(disch:=omega)only[go_sem,reduceAdd,reduceMul,reduceSub,reduceEqDiff,reduceLeDiff]
    rw [hv]
    have d41 : decide (((4 : Nat) : Int) = 1) = false := rfl
    have d42 : decide (((4 : Nat) : Int) = 2) = false := rfl
    have d43 : decide (((4 : Nat) : Int) = 3) = false := rfl
    have d44 : decide (((4 : Nat) : Int) = 4) = true := rfl
    simp(maxSteps:=999999)(disch:=omega)only[go_sem,reduceAdd,reduceMul,reduceSub,reduceEqDiff,reduceLeDiff, d41, d42, d43, d44]
    first | refine OpS.mk (h4) (⟨_, Try.func76, rfl, rfl⟩ : Enters Try.prog 76) rfl rfl rfl rfl rfl ?_ | refine Loud.mk (h4) (⟨_, Try.func76, rfl, rfl⟩ : Enters Try.prog 76) rfl rfl rfl rfl rfl ?_
    simp(maxSteps:=999999)(disch:=omega)only[go_sem,reduceAdd,reduceMul,reduceSub,reduceEqDiff,reduceLeDiff]
theorem nextRound_run {p : Puz} {n : Nat} (hp : PuzN p n) (hv : puzzleValid p = true) (ms : List Nat) (hm : MsN ms n) : Reads Try.prog 44 [aP p, ints (nats ms), int 4] (.tup [ints (if nextM p ms = 0 then [] else nats (narM p (nextM p ms) ms)), int (nextM p ms)]) := by
  have hsq : n * n ≤ 16 := by rcases hp.hn with rfl | rfl | rfl <;> omega
  have hl := hm.len
  refine Reads.ice (Q := fun v H' => frzA H' v = some (.tup [ints (if nextM p ms = 0 then [] else nats (narM p (nextM p ms) ms)), int (nextM p ms)])) ?_ (fun r H' h => h)
  refine RunCall.cw (c := _) Try.func44 rfl (n := 25) Try.ntmps44 (rs := [.tmp 6, .tmp 7]) rfl ?_
  simp only[List.length_cons,List.length_nil,reduceAdd,reduceSub,List.replicate,List.cons_append,List.nil_append]
  simp(maxSteps:=999999)(disch:=omega)only[go_sem,reduceAdd,reduceMul,reduceSub,reduceEqDiff,reduceLeDiff]
  intro g
  refine loop_rule (fun t : Nat => 5 - t) (fun t => 1 ≤ t ∧ t ≤ 5 ∧ ∀ u, 1 ≤ u → u < t → narM p u ms = ms) (fun t => [.a, .k, .k, .k, .a, .a, .a, .a, .p (int t), .a, .a, .a, .a, .a, .a, .a, .a, .a, .a, .a, .a, .a, .a, .a, .a]) (fun _ => [some ⟨g, 1, cP p⟩]) 1 ⟨by omega, by omega, fun u h1 h2 => by omega⟩ (by simp(maxSteps:=999999)(disch:=omega)only[go_sem,reduceAdd,reduceMul,reduceSub,reduceEqDiff,reduceLeDiff]; rfl) (HLe.refl _) ?_
  rintro t ⟨ht1, ht2, hall⟩
  simp(maxSteps:=999999)(disch:=omega)only[go_sem,reduceAdd,reduceMul,reduceSub,reduceEqDiff,reduceLeDiff]
  ((first|(with_reducible first|refine condK_dec ?_ ?_|refine condK_ndec ?_ ?_|refine condK_nb ?_ ?_)|refine condK_b ?_ ?_) <;> intro h1)
  · have h1 : t ≤ 4 := by omega
    simp(maxSteps:=999999)(disch:=omega)only[go_sem,reduceAdd,reduceMul,reduceSub,reduceEqDiff,reduceLeDiff]
    first | refine OpS.mk (NarrowBy_run hp hv ms hm t ⟨ht1, h1⟩) (⟨_, Try.func63, rfl, rfl⟩ : Enters Try.prog 63) rfl rfl rfl rfl rfl ?_ | refine Loud.mk (NarrowBy_run hp hv ms hm t ⟨ht1, h1⟩) (⟨_, Try.func63, rfl, rfl⟩ : Enters Try.prog 63) rfl rfl rfl rfl rfl ?_
    simp(maxSteps:=999999)(disch:=omega)only[go_sem,reduceAdd,reduceMul,reduceSub,reduceEqDiff,reduceLeDiff]
    have hnl := (narM_ok (p := p) (t := t) hm).len
    first | refine OpS.rd (Equal_run (nats (narM p t ms)) (nats ms) (by rw [nats_len]; omega)) (⟨_, Try.func64, rfl, rfl⟩ : Enters Try.prog 64) rfl rfl rfl rfl ?_ | refine Loud.rd (Equal_run (nats (narM p t ms)) (nats ms) (by rw [nats_len]; omega)) (⟨_, Try.func64, rfl, rfl⟩ : Enters Try.prog 64) rfl rfl rfl rfl ?_
    simp(maxSteps:=999999)(disch:=omega)only[go_sem,reduceAdd,reduceMul,reduceSub,reduceEqDiff,reduceLeDiff]
    ((first|(with_reducible first|refine condK_dec ?_ ?_|refine condK_ndec ?_ ?_|refine condK_nb ?_ ?_)|refine condK_b ?_ ?_) <;> intro h2)
    · have h2 : narM p t ms = ms := nats_inj.1 h2
      simp(maxSteps:=999999)(disch:=omega)only[go_sem,reduceAdd,reduceMul,reduceSub,reduceEqDiff,reduceLeDiff]
      exact ⟨t + 1, ⟨⟨by omega, by omega, fun u u1 u2 => by
        by_cases hut : u = t
        · rw [hut]; exact h2
        · exact hall u u1 (by omega)⟩, by omega⟩, by push_cast; rfl, HLe.refl _⟩
    · have h2 : narM p t ms ≠ ms := fun h => h2 (by rw [h])
      have e := nextM_is ⟨ht1, h1⟩ hall h2
      rw [e, if_neg (by omega)]
      simp(maxSteps:=999999)(disch:=omega)only[go_sem,reduceAdd,reduceMul,reduceSub,reduceEqDiff,reduceLeDiff]
      exact ⟨_, HLe.refl _, rfl⟩
  · have hte : t = 5 := by omega
    have e := nextM_no (p := p) (ms := ms) fun u u1 u2 => hall u u1 (by omega)
    rw [e, if_pos rfl]
    simp(maxSteps:=999999)(disch:=omega)only[go_sem,reduceAdd,reduceMul,reduceSub,reduceEqDiff,reduceLeDiff]
    exact ⟨_, HLe.refl _, rfl⟩
end Go.Lg

namespace Go.Lg
open Go.Proofs
section
variable {P : Program} {ops : Array Oper} {o : Oper} {s : List AV} {H : Heap} {K : KV} {fo : Operand} {xs : Array Operand} {ts : Array TypeId} {f : FuncId} {args args' : List AV} {zs : List Int}
theorem Loud.mkI (hc : RunCall P f args [] (ownIQ zs)) (he : Enters P f) (ho : o.op = .call ⟨.value fo, xs, ts⟩) (ha : callArgs ⟨s, H⟩ fo xs = some (f, args)) (hf : args.all frozenA = true)
    (hk : ∀ c H' S, OwnI (H ++ H') c zs S → (∀ i ∈ S, H.length ≤ i ∧ i < H.length + H'.length) → K (.c c) (H ++ H')) : Loud P ops o s H K :=
  Loud.call ho ha fun s' ha' => OpS.mkI hc he ho ha' hf hk
end
theorem RunCall.wk {P : Program} {f : FuncId} {args : List AV} {H : Heap} {Q Q' : KV} (h : RunCall P f args H Q) (hw : ∀ v H', Q v H' → ∃ v', (∀ w X u, VA w X H' v u → VA w X H' v' u) ∧ Q' v' H') : RunCall P f args H Q' :=
  fun w X vs hH hvs => (h w X vs hH hvs).mono fun e w' ⟨v, u, X', H', h1, h2, h3, h4, h5⟩ =>
    let ⟨v', k1, k2⟩ := hw v H' h5
    ⟨v', u, X', H', h1, k1 _ _ _ h2, h3, h4, k2⟩
theorem look_mid {H H3 : Heap} {g sz : Nat} {cs : List CV} : look (H ++ [some ⟨g, sz, cs⟩] ++ H3) H.length g = some ⟨g, sz, cs⟩ := look_of (b := ⟨g, sz, cs⟩) (by simp)
theorem set_mid {H H3 : Heap} {x y : Option Blk} : (H ++ [x] ++ H3).set H.length y = H ++ [y] ++ H3 := by
  rw [List.append_assoc, List.append_assoc, List.set_append_right _ _ (Nat.le_refl _), Nat.sub_self]; rfl
theorem look_set_ne {H : Heap} {id j g : Nat} {x : Option Blk} (h : id ≠ j) : look (H.set id x) j g = look H j g := by
  unfold look; rw [List.getElem?_set_ne h]
structure CpI (B : Heap) (j g : Nat) (size : Int) (given : List Int) (c r : CV) (l : List RO) (S I : List Nat) : Prop where
  out : look B j g = some ⟨g, 3, [.f (.int .i64 size), c, r]⟩
  rl : (l = [] ∧ r = .f .nil ∧ I = S) ∨ ∃ id g', r = .own id g' 0 l.length none ∧ look B id g' = some ⟨g', 3, kl kR l⟩ ∧ I = S ++ id :: l.flatMap (·.i)
  cells : ∀ o ∈ l, OwnI B o.c o.r.cells o.i
  giv : OwnI B c given S
  nd : I.Nodup
  lt : ∀ x ∈ I, 2 ≤ x ∧ x < B.length ∧ x ≠ j
theorem CpI.next {B B3 : Heap} {j g : Nat} {size : Int} {given : List Int} {c r : CV} {l : List RO} {S I : List Nat} (hC : CpI B j g size given c r l S I) (o : RO) {id g' : Nat}
    (hI : (l = [] ∧ I = S ∧ B.length ≤ id) ∨ I = S ++ id :: l.flatMap (·.i)) (hs : ∀ k ∈ I, k ≠ id → B3[k]? = B[k]?) (hlen : B.length ≤ B3.length)
    (hout : look B3 j g = some ⟨g, 3, [.f (.int .i64 size), c, .own id g' 0 (l.length + 1) none]⟩) (hid : look B3 id g' = some ⟨g', 3, kl kR (l ++ [o])⟩)
    (ho : OwnI B3 o.c o.r.cells o.i) (hoi : ∀ k ∈ o.i, B.length ≤ k ∧ k < B3.length ∧ k ≠ id ∧ k ≠ j) (hi : 2 ≤ id ∧ id < B3.length ∧ id ≠ j) (h2 : 2 ≤ B.length) :
    CpI B3 j g size given c (.own id g' 0 (l.length + 1) none) (l ++ [o]) S (S ++ id :: (l ++ [o]).flatMap (·.i)) := by
  have hJ : (S ++ id :: l.flatMap (·.i)).Nodup ∧ (∀ x ∈ S ++ l.flatMap (·.i), x ∈ I) ∧ (∀ x ∈ S ++ l.flatMap (·.i), x ≠ id) := by
    rcases hI with ⟨rfl, rfl, hb⟩ | rfl
    · have hne : ∀ x ∈ I, x ≠ id := fun x hx => by have := hC.lt x hx; omega
      refine ⟨?_, by simp, by simpa using hne⟩
      simp only [List.flatMap_nil]
      rw [List.nodup_append]
      exact ⟨hC.nd, by simp, fun a ha b hb => by simp at hb; subst hb; exact hne a ha⟩
    · have hn := hC.nd
      refine ⟨hn, fun x hx => ?_, fun x hx he => ?_⟩
      · simp only [List.mem_append, List.mem_cons] at hx ⊢
        rcases hx with hx | hx
        · exact .inl hx
        · exact .inr (.inr hx)
      · subst he
        rw [List.nodup_append] at hn
        obtain ⟨n1, n2, n3⟩ := hn
        rcases List.mem_append.1 hx with hx | hx
        · exact n3 x hx x (by simp) rfl
        · exact (List.nodup_cons.1 n2).1 hx
  obtain ⟨hn, hin, hne⟩ := hJ
  have hmem : ∀ x ∈ S ++ id :: (l ++ [o]).flatMap (·.i), x ∈ S ++ l.flatMap (·.i) ∨ x = id ∨ x ∈ o.i := fun x hx => by
    simp only [List.flatMap_append, List.flatMap_cons, List.flatMap_nil, List.append_nil, List.mem_append, List.mem_cons] at hx ⊢
    rcases hx with hx | rfl | hx | hx
    · exact .inl (.inl hx)
    · exact .inr (.inl rfl)
    · exact .inl (.inr hx)
    · exact .inr (.inr hx)
  refine ⟨hout, .inr ⟨id, g', by simp, hid, rfl⟩, fun o' ho' => ?_, ?_, ?_, fun x hx => ?_⟩
  · rcases List.mem_append.1 ho' with ho' | ho'
    · refine (hC.cells o' ho').same fun k hk => ?_
      have : k ∈ S ++ l.flatMap (·.i) := List.mem_append.2 (.inr (List.mem_flatMap.2 ⟨o', ho', hk⟩))
      exact hs k (hin k this) (hne k this)
    · simp at ho'; subst ho'; exact ho
  · refine hC.giv.same fun k hk => ?_
    have : k ∈ S ++ l.flatMap (·.i) := List.mem_append.2 (.inl hk)
    exact hs k (hin k this) (hne k this)
  · have e : S ++ id :: (l ++ [o]).flatMap (·.i) = (S ++ id :: l.flatMap (·.i)) ++ o.i := by simp
    rw [e, List.nodup_append]
    refine ⟨hn, ho.nd, fun a ha b hb he => ?_⟩
    subst he
    have h4 := hoi a hb
    have : a ∈ S ++ l.flatMap (·.i) := by
      simp only [List.mem_append, List.mem_cons] at ha ⊢
      rcases ha with ha | ha | ha
      · exact .inl ha
      · exact absurd ha h4.2.2.1
      · exact .inr ha
    have := hC.lt a (hin a this)
    omega
  · rcases hmem x hx with hx | rfl | hx
    · have := hC.lt x (hin x hx); omega
    · exact hi
    · have := hoi x hx; omega
def puzQ0 (p : Puz) : KV := fun v H => ∃ c r S1 S2, v = .agg [.f (.int .i64 p.size), c, r] ∧ OwnI H c p.given S1 ∧ ((r = .f .nil ∧ p.rules = [] ∧ S2 = []) ∨ OwnR H r p.rules S2) ∧ (S1 ++ S2).Nodup
def limN : CV → Prop
  | .own _ _ _ _ lim => lim = none
  | .f .nil => True
  | _ => False
def puzQ1 (p : Puz) : KV := fun v H => ∃ c r S1 S2, v = .agg [.f (.int .i64 p.size), c, r] ∧ OwnI H c p.given S1 ∧ ((r = .f .nil ∧ p.rules = [] ∧ S2 = []) ∨ OwnR H r p.rules S2) ∧ (S1 ++ S2).Nodup ∧ limN r
theorem CpI.done {B B' : Heap} {j g : Nat} {p : Puz} {c r : CV} {l : List RO} {S I : List Nat} (hC : CpI B j g p.size p.given c r l S I) (hm : l.map (·.r) = p.rules) (hs : ∀ k ∈ I, B'[k]? = B[k]?) :
    puzQ1 p (.agg [.f (.int .i64 p.size), c, r]) B' := by
  rcases hC.rl with ⟨rfl, rfl, rfl⟩ | ⟨id, g', rfl, hid, rfl⟩
  · exact ⟨_, _, _, [], rfl, hC.giv.same hs, .inl ⟨rfl, hm.symm, rfl⟩, by rw [List.append_nil]; exact hC.nd, trivial⟩
  · refine ⟨_, _, _, _, rfl, hC.giv.same fun k hk => hs k (List.mem_append.2 (.inl hk)), .inr ?_, hC.nd, rfl⟩
    rw [← hm]
    refine OwnR.same (.o id g' none l [] (by rw [List.append_nil]; exact hid) hC.cells ?_ (by simp)) fun k hk => hs k (List.mem_append.2 (.inr hk))
    have := hC.nd
    rw [List.nodup_append] at this
    exact this.2.1
theorem look_set_eq {H : Heap} {id g sz : Nat} {cs : List CV} (h : id < H.length) : look (H.set id (some ⟨g, sz, cs⟩)) id g = some ⟨g, sz, cs⟩ := look_of (b := ⟨g, sz, cs⟩) (by rw [List.getElem?_set_self h])
theorem copyPuzzle_own1 (p : Puz) (hx : smP p) : RunCall Try.prog 16 [aP p] [] (puzQ1 p) := by
  refine RunCall.cw (c := _) Try.func16 rfl (n := 31) Try.ntmps16 (rs := [.cell 2 26]) rfl ?_
  simp only[List.length_cons,List.length_nil,reduceAdd,reduceSub,List.replicate,List.cons_append,List.nil_append]
  simp(maxSteps:=999999)(disch:=omega)only[go_sem,reduceAdd,reduceMul,reduceSub,reduceEqDiff,reduceLeDiff]
  intro g1 g2
  refine drawP_lF [0, 1, 2, 3, 6, 4, 5] [] (some 6) [7] [] foll (by kernel_rfl) ?_
  simp(maxSteps:=999999)(disch:=omega)only[go_sem,Nat.reduceBEq,Bool.true_or,reduceAdd,reduceMul,reduceSub,reduceEqDiff,reduceLeDiff]
  refine Loud.mkI (Clone_own p.given hx.1) (⟨_, Try.func38, rfl, rfl⟩ : Enters Try.prog 38) rfl rfl rfl ?_
  intro c H1 S h1 hS
  simp(maxSteps:=999999)(disch:=omega)only[go_sem,reduceAdd,reduceMul,reduceSub,reduceEqDiff,reduceLeDiff, look_last, set_last]
  intro g
  refine loop_rule2 (fun (i : Nat) (b : Heap × CV × List RO × List Nat) => p.rules.length - i) (fun i b => i ≤ p.rules.length ∧ b.2.2.1.length = i ∧ b.2.2.1.map (·.r) = p.rules.take i ∧ look b.1 1 g2 = some ⟨g2, 3, [.f (.int .i64 0), .f .nil, .f .nil]⟩ ∧ CpI b.1 (H1.length + 1 + 1) g p.size p.given c b.2.1 b.2.2.1 S b.2.2.2)
    (fun i _ => [.a, .a, .k, .k, .a, .a, .a, .a, .a, .a, .a, .a, .a, .k, .k, .p (int i), .a, .a, .a, .a, .a, .a, .a, .a, .a, .a, .a, .a, .a, .a, .a]) (fun i b => b.1) 0 (some ⟨g1, 1, cP p⟩ :: some ⟨g2, 3, [.f (.int .i64 0), .f .nil, .f .nil]⟩ :: (H1 ++ [some ⟨g, 3, [.f (.int .i64 p.size), c, .f .nil]⟩]), .f .nil, [], S)
    ⟨Nat.zero_le _, rfl, rfl, look_of (b := ⟨g2, 3, [.f (.int .i64 0), .f .nil, .f .nil]⟩) rfl, ?_⟩ (by simp(maxSteps:=999999)(disch:=omega)only[go_sem,reduceAdd,reduceMul,reduceSub,reduceEqDiff,reduceLeDiff]; rfl) (HLe.refl _) ?_
  · refine ⟨look_of (b := ⟨g, 3, [.f (.int .i64 p.size), c, .f .nil]⟩) (by simp), .inl ⟨rfl, rfl, rfl⟩, by simp, h1.app, h1.nd, fun x hx => ?_⟩
    have := hS x hx
    simp only [List.length_append, List.length_cons, List.length_nil] at this ⊢
    omega
  rintro i ⟨B, r, l, I⟩ ⟨hi, hl, hm, h1, hC⟩
  simp only at hl hm h1 hC ⊢
  have hj2 : 2 ≤ H1.length + 1 + 1 := by omega
  generalize H1.length + 1 + 1 = j at hC hj2 ⊢
  simp(maxSteps:=999999)(disch:=omega)only[go_sem,reduceAdd,reduceMul,reduceSub,reduceEqDiff,reduceLeDiff]
  ((first|(with_reducible first|refine condK_dec ?_ ?_|refine condK_ndec ?_ ?_|refine condK_nb ?_ ?_)|refine condK_b ?_ ?_) <;> intro h)
  · have h : i < p.rules.length := by omega
    simp(maxSteps:=999999)(disch:=omega)only[go_sem,reduceAdd,reduceMul,reduceSub,reduceEqDiff,reduceLeDiff, look_last, set_last]
    intro g3
    refine OpS.mkI (Clone_own (nth p.rules i).cells (hx.2.2 _ (nth_mem h))) (⟨_, Try.func38, rfl, rfl⟩ : Enters Try.prog 38) rfl rfl rfl ?_
    intro c3 H3 S3 h3 hS3
    simp(maxSteps:=999999)(disch:=omega)only[go_sem,reduceAdd,reduceMul,reduceSub,reduceEqDiff,reduceLeDiff, look_mid, set_mid]
    generalize hB2 : B ++ [some ⟨g3, 3, [.f (.int .i64 (nth p.rules i).kind), c3, .f (.int .i64 (nth p.rules i).val)]⟩] ++ H3 = B2
    have hap : ∃ X, B2 = B ++ X := ⟨_, by rw [← hB2, List.append_assoc]⟩
    have hlB : B.length < B2.length := by rw [← hB2]; simp
    have hR : look B2 B.length g3 = some ⟨g3, 3, [.f (.int .i64 (nth p.rules i).kind), c3, .f (.int .i64 (nth p.rules i).val)]⟩ := by rw [← hB2]; exact look_mid
    have hB : ∀ {k g' : Nat} {b : Blk}, look B k g' = some b → look B2 k g' = some b := fun h => by obtain ⟨X, rfl⟩ := hap; exact look_appL h
    have h4 : OwnI B2 c3 (nth p.rules i).cells S3 := by
      refine h3.same fun k hk => ?_
      have := hS3 k hk
      simp only [List.length_append, List.length_cons, List.length_nil] at this
      rw [← hB2]
      simp only [List.append_assoc, List.cons_append, List.nil_append]
      rw [List.getElem?_append_right (by omega), List.getElem?_append_right (by omega), List.getElem?_cons, List.getElem?_cons]
      rw [if_neg (by omega), if_neg (by omega)]
    have hS4 : ∀ k ∈ S3, B.length + 1 ≤ k ∧ k < B2.length := fun k hk => by
      have := hS3 k hk
      rw [← hB2]
      simp only [List.length_append, List.length_cons, List.length_nil] at this ⊢
      omega
    have hpl : p.rules.length ≤ 2 ^ 40 := hx.2.1
    have hk1 : ∀ k, k < B.length → B2[k]? = B[k]? := fun k hk => by obtain ⟨X, rfl⟩ := hap; exact List.getElem?_append_left hk
    have hlen : 1 < B.length := (List.getElem?_eq_some_iff.1 (look_some h1).1).1
    have hjl : j < B.length := (List.getElem?_eq_some_iff.1 (look_some hC.out).1).1
    have h12 := hB h1
    have hj := hB hC.out
    clear hB2 h3 hS3
    rcases hC.rl with ⟨rfl, rfl, rfl⟩ | ⟨id, g', rfl, hid, rfl⟩
    · have hj5 : ∀ X, look (B2 ++ X) j g = some ⟨g, 3, [.f (.int .i64 p.size), c, .f .nil]⟩ := fun X => look_appL hj
      have hj6 : ∀ X Y, look (B2 ++ X ++ Y) j g = some ⟨g, 3, [.f (.int .i64 p.size), c, .f .nil]⟩ := fun X Y => look_appL (look_appL hj)
      simp(maxSteps:=999999)(disch:=omega)only[go_sem,reduceAdd,reduceMul,reduceSub,reduceEqDiff,reduceLeDiff, hR, hj, hj5, hj6, look_last, set_last]
      intro g4 g5
      refine ⟨i + 1, (_, .own (B2.length + 1) g5 0 1 none, [] ++ [⟨nth p.rules i, c3, S3⟩], _), ⟨⟨h, by simp at hl ⊢; omega, by rw [List.map_append, hm, take_succ_nth h]; rfl, ?_, CpI.next (id := B2.length + 1) (g' := g5) hC ⟨nth p.rules i, c3, S3⟩ (.inl ⟨rfl, rfl, by omega⟩) (fun k hk hki => ?_) ?_ ?_ ?_ (h4.same fun k hk => ?_) (fun k hk => ?_) ?_ hlen⟩, by omega⟩, by omega, HLe.refl _⟩
      · rw [look_set_ne (by omega)]; exact look_appL (look_appL h12)
      · have := hC.lt k hk
        rw [List.getElem?_set_ne (by omega), List.getElem?_append_left (by simp; omega), List.getElem?_append_left (by omega), hk1 k (by omega)]
      · simp; omega
      · exact look_set_eq (by simp; omega)
      · rw [look_set_ne (by omega)]
        exact look_of (b := ⟨g5, 3, [.f (.int .i64 (nth p.rules i).kind), c3, .f (.int .i64 (nth p.rules i).val)]⟩) (by simp)
      · have := hS4 k hk
        rw [List.getElem?_set_ne (by omega), List.getElem?_append_left (by simp; omega), List.getElem?_append_left (by omega)]
      · have := hS4 k hk
        simp only [List.length_set, List.length_append, List.length_cons, List.length_nil]
        omega
      · simp only [List.length_set, List.length_append, List.length_cons, List.length_nil]
        omega
    · have hid := hB hid
      have hne := hC.lt id (by simp)
      have hj5 : ∀ X, look (B2 ++ X) j g = some ⟨g, 3, [.f (.int .i64 p.size), c, .own id g' 0 l.length none]⟩ := fun X => look_appL hj
      have hid5 : ∀ X, look (B2 ++ X) id g' = some ⟨g', 3, kl kR l⟩ := fun X => look_appL hid
      have hnj : id ≠ j := hne.2.2
      have hll : l.length ≤ 2 ^ 40 := by have := hx.2.1; omega
      simp(maxSteps:=999999)(disch:=omega)only[go_sem,reduceAdd,reduceMul,reduceSub,reduceEqDiff,reduceLeDiff, hR, hj, hj5, hid5, look_last, set_last, kl_length, look_set_ne hnj]
      intro g4 g5
      refine ⟨i + 1, (_, .own id g5 0 (l.length + 1) none, l ++ [⟨nth p.rules i, c3, S3⟩], _), ⟨⟨h, by simp [hl], by rw [List.map_append, hm, take_succ_nth h]; rfl, ?_, CpI.next (id := id) (g' := g5) hC ⟨nth p.rules i, c3, S3⟩ (.inr rfl) (fun k hk hki => ?_) ?_ ?_ ?_ (h4.same fun k hk => ?_) (fun k hk => ?_) ?_ hlen⟩, by omega⟩, by omega, HLe.refl _⟩
      · rw [look_set_ne (by omega), look_set_ne (by omega)]; exact look_appL h12
      · have := hC.lt k hk
        rw [List.getElem?_set_ne (by omega), List.getElem?_set_ne (by omega), List.getElem?_append_left (by omega), hk1 k (by omega)]
      · simp; omega
      · exact look_set_eq (by simp; omega)
      · rw [look_set_ne (by omega), look_set_eq (by simp; omega), kl_append]
        rfl
      · have := hS4 k hk
        rw [List.getElem?_set_ne (by omega), List.getElem?_set_ne (by omega), List.getElem?_append_left (by omega)]
      · have := hS4 k hk
        simp only [List.length_set, List.length_append, List.length_cons, List.length_nil]
        omega
      · simp only [List.length_set, List.length_append, List.length_cons, List.length_nil]
        omega
  · have hout := hC.out
    have hlen : 1 < B.length := by
      obtain ⟨hh, _⟩ := look_some h1
      exact (List.getElem?_eq_some_iff.1 hh).1
    simp(maxSteps:=999999)(disch:=omega)only[go_sem,reduceAdd,reduceMul,reduceSub,reduceEqDiff,reduceLeDiff, hout, h1, look_set_eq hlen]
    have hi' : i = p.rules.length := by omega
    subst hi'
    rw [List.take_length] at hm
    refine ⟨_, HLe.refl _, hC.done hm fun k hk => ?_⟩
    have := hC.lt k hk
    exact List.getElem?_set_ne (by omega)
theorem copyPuzzle_own (p : Puz) (hx : smP p) : RunCall Try.prog 16 [aP p] [] (puzQ0 p) :=
  (copyPuzzle_own1 p hx).weaker fun v H' ⟨c, r, S1, S2, h1, h2, h3, h4, _⟩ => ⟨H', HLe.refl _, c, r, S1, S2, h1, h2, h3, h4⟩
end Go.Lg

namespace Go.Lg
open Go.Proofs
theorem grd_facts {p : Puz} {xs : List Int} (h1 : puzzleValid p = true) (h2 : gridValid xs p.size = true) : PuzN p p.size.toNat ∧ GrdN xs p.size.toNat ∧ GrdN p.given p.size.toNat ∧ p.given.length = xs.length ∧ 4 ≤ xs.length ∧ xs.length ≤ 16 := by
  obtain ⟨hp, hz⟩ := PuzN.of h1
  have hg := GrdN.of hp.hn (xs := xs) (by rw [hz]; exact h2)
  have ha := GrdN.of hp.hn (xs := p.given) (by rw [hz]; exact puzzleValid_grid' h1)
  have hsq : 4 ≤ p.size.toNat * p.size.toNat ∧ p.size.toNat * p.size.toNat ≤ 16 := by
    have := hp.hn
    rcases this with h | h | h <;> rw [h] <;> omega
  have := hg.len
  have := ha.len
  exact ⟨hp, hg, ha, by omega, by omega, by omega⟩
end Go.Lg

namespace Go.Lg
open Go.Proofs
theorem binA_ne' {P : Program} {H : Heap} {t e : TypeId} {ti : TI} {n : Nat} {cs : List FV} (ht : tinf P t = some ti) (hk : ti.k = .slice e) (hn : 0 < n) : binA P H .eql t (.c (.f (.sl n cs))) (.c (.f .nil)) = some (.c (.f (.bool false))) := by
  unfold binA
  simp only [ht, hk, isNilV, if_neg (show ¬ n = 0 by omega)]
  rfl
theorem shiftH_one {k g n : Nat} {xs : List Int} : shiftH k [some ⟨g, n, cl (eI .i64) xs⟩] = [some ⟨g, n, cl (eI .i64) xs⟩] := by
  simp only [shiftH, List.map_cons, List.map_nil, Option.map_some, shiftB, shift_cl]
section
variable {P : Program} {o : Oper} {st : St} {K : KV} {fo : Operand} {xs : Array Operand} {ts : Array TypeId} {f : FuncId} {args args' : List AV} {zs : List Int} {ops : Array Oper} {s : List AV} {H : Heap}
theorem OpS.mkDQ (hc : RunCall P f args' [] (ownQ (eI .i64) 1 zs)) (he : Enters P f) (ho : o.op = .call ⟨.value fo, xs, ts⟩) (ha : callArgs st fo xs = some (f, args)) (hs : args.mapM (snapD st.h) = some args')
    (hk : ∀ g, K (.c (.own st.h.length g 0 zs.length none)) (st.h ++ [some ⟨g, 1, cl (eI .i64) zs⟩])) : OpS P o st K :=
  OpS.mkD hc he ho ha hs fun r H' ⟨g, h1, h2⟩ => by
    subst h1 h2
    refine ⟨⟨rfl, rfl, scalH_ints fun id b hb => by simp at hb⟩, ?_⟩
    rw [shiftH_one]
    have := hk g
    rwa [← Nat.zero_add st.h.length] at this
theorem Loud.mkDQ (hc : RunCall P f args' [] (ownQ (eI .i64) 1 zs)) (he : Enters P f) (ho : o.op = .call ⟨.value fo, xs, ts⟩) (ha : callArgs ⟨s, H⟩ fo xs = some (f, args)) (hs : args.mapM (snapD H) = some args')
    (hk : ∀ g, K (.c (.own H.length g 0 zs.length none)) (H ++ [some ⟨g, 1, cl (eI .i64) zs⟩])) : Loud P ops o s H K := Loud.call ho ha fun s' ha' => OpS.mkDQ hc he ho ha' hs hk
end
theorem Clone_q0 (xs : List Int) (hx : xs.length ≤ 2 ^ 40) (h0 : xs ≠ []) : RunCall Try.prog 38 [ints xs] [] (ownQ (eI .i64) 1 xs) := by
  have hp : 0 < xs.length := List.length_pos_iff.2 h0
  refine RunCall.cw (c := _) Try.func38 rfl (n := 8) Try.ntmps38 (rs := [.tmp 2]) rfl ?_
  simp only[List.length_cons,List.length_nil,reduceAdd,reduceSub,List.replicate,List.cons_append,List.nil_append]
  simp(maxSteps:=999999)(disch:=omega)only[go_sem,reduceAdd,reduceMul,reduceSub,reduceEqDiff,reduceLeDiff, binA_ne' ti23 rfl hp]
  intro g g'
  rw [Nat.zero_add]
  exact lessQ_own (HLe.refl _)
attribute [-go_sem] appendM lwF_cons
theorem tell_run (most : Nat) (hmo : most ≤ 600) (H : Heap) (gid gg : Nat) (xs : List Int) (pid pg mid mg : Nat) (ls : List (List Int)) (S : List Nat) (hxl : 0 < xs.length ∧ xs.length ≤ 16) (hgl : look H gid gg = some ⟨gg, 1, cl (eI .i64) xs⟩) (hml : look H mid mg = some ⟨mg, 1, [.f (.int .i64 most)]⟩) (hmp : mid ≠ pid) (hmS : mid ∉ S) (hls : ls.length < most) (hout : OutL H pid pg ls S) (hSl : ∀ k ∈ S, k < H.length) :
    RunCall Try.prog 72 [.c (.own gid gg 0 xs.length none), .c (.ptr pid pg 0), .c (.ptr mid mg 0)] H (fun v H' => v = bool (decide (ls.length + 1 < most)) ∧ ∃ S', OutL H' pid pg (ls ++ [xs]) S' ∧ (∀ k ∈ S', k ∈ S ∨ H.length ≤ k) ∧ (∀ k ∈ S', k < H'.length) ∧ H.length ≤ H'.length ∧ ∀ k, k < H.length → k ≠ pid → k ∉ S → H'[k]? = H[k]?) := by
  obtain ⟨⟨oid, og, cs, o1, o2, o3, o4, o5⟩, opn⟩ := hout
  have hplt : pid < H.length := (List.getElem?_eq_some_iff.1 (look_some o1).1).1
  have hpo : pid ≠ oid := fun h => opn (by rw [h]; exact o3)
  have holt : oid < H.length := hSl oid o3
  refine RunCall.cw (c := _) Try.func72 rfl (n := 14) Try.ntmps72 (rs := [.tmp 4]) rfl ?_
  simp only[List.length_cons,List.length_nil,reduceAdd,reduceSub,List.replicate,List.cons_append,List.nil_append]
  simp(maxSteps:=999999)(disch:=omega)only[go_sem,reduceAdd,reduceMul,reduceSub,reduceEqDiff,reduceLeDiff]
  have hM1 : look (mask (hideM oid H.length (H.length + 3)) H) pid pg = some ⟨pg, 1, [.own oid og 0 ls.length none]⟩ := by rw [look_mask (hideM_no hpo (by omega))]; exact o1
  have hM2 : nilV (mask (hideM oid H.length (H.length + 3)) H) (.c (.ptr pid pg 0)) = some (.c (.ptr pid pg 0)) := nilV_ptr hM1
  refine drawP_lM [0, 1, 2, 3] [] none [4, 5] (hideM oid H.length (H.length + 3)) [0, 0, 2, 6, 15, 31] foll (by kernel_rfl) ?_
  iterate 3 (rw [lwF_cons]; simp(maxSteps:=999999)(disch:=omega)only[go_sem,reduceAdd,reduceMul,reduceSub,reduceEqDiff,reduceLeDiff, hM1, hM2])
  have hown : OwnI H (.own gid gg 0 xs.length none) xs [gid] := OwnI.o (H := H) gid gg none xs [] (by rw [List.append_nil]; exact hgl)
  refine Loud.mkDQ (Clone_q0 xs (by omega) (fun h => by rw [h] at hxl; simp at hxl)) (⟨_, Try.func38, rfl, rfl⟩ : Enters Try.prog 38) rfl rfl (snap_one hown.snap) ?_
  intro g4
  refine ⟨okM_gen fun j b hj hb => by rw [List.getElem?_append_left (List.getElem?_eq_some_iff.1 hb).1]; exact hb, ?_⟩
  rw [lwF_cons]
  simp(maxSteps:=999999)(disch:=omega)only[go_sem,reduceAdd,reduceMul,reduceSub,reduceEqDiff,reduceLeDiff]
  intro g5
  refine ⟨okM_gen fun j b hj hb => by rw [List.getElem?_append_left (List.getElem?_eq_some_iff.1 hb).1]; exact hb, ?_⟩
  have l4 : look (H ++ [some ⟨g4, 1, cl (eI .i64) xs⟩]) H.length g4 = some ⟨g4, 1, cl (eI .i64) xs⟩ := look_last
  have hbl : look (H ++ [some ⟨g4, 1, cl (eI .i64) xs⟩] ++ [some ⟨g5, 1, [CV.own H.length g4 0 xs.length none]⟩]) (H.length + 1) g5 = some ⟨g5, 1, [CV.own H.length g4 0 xs.length none]⟩ := by
    have := look_last (H := H ++ [some ⟨g4, 1, cl (eI .i64) xs⟩]) (g := g5) (sz := 1) (cs := [CV.own H.length g4 0 xs.length none])
    rwa [List.length_append, List.length_singleton] at this
  have hol : look (H ++ [some ⟨g4, 1, cl (eI .i64) xs⟩] ++ [some ⟨g5, 1, [CV.own H.length g4 0 xs.length none]⟩]) oid og = some ⟨og, 1, cs⟩ := look_appL (look_appL o2)
  refine appendM_cells (sliceOf_of' ti81 rfl ti23) ⟨rfl, rfl, by decide⟩ (by omega) hol o4 hbl ?_
  intro g6
  obtain ⟨HL, hHL⟩ : ∃ HL : Heap, HL = (H ++ [some ⟨g4, 1, cl (eI .i64) xs⟩] ++ [some ⟨g5, 1, [CV.own H.length g4 0 xs.length none]⟩] : Heap).set oid (some ⟨g6, 1, cs ++ [CV.own H.length g4 0 xs.length none]⟩) := ⟨_, rfl⟩
  have hLl : HL.length = H.length + 2 := by rw [hHL, List.length_set]; simp
  have hL3 : ∀ j, j < H.length → j ≠ oid → HL[j]? = H[j]? := fun j hj hn => by rw [hHL, List.getElem?_set_ne (Ne.symm hn), List.append_assoc, List.getElem?_append_left hj]
  have hL1 : look HL pid pg = some ⟨pg, 1, [.own oid og 0 ls.length none]⟩ := by unfold look; rw [hL3 pid (by omega) hpo]; exact o1
  have hL2 : look HL oid g6 = some ⟨g6, 1, cs ++ [CV.own H.length g4 0 xs.length none]⟩ := by rw [hHL]; exact look_set_eq' (by simp; omega)
  have hL4 : look HL H.length g4 = some ⟨g4, 1, cl (eI .i64) xs⟩ := by rw [hHL, look_set_ne' (by omega)]; exact look_appL l4
  rw [← hHL]
  clear hHL
  have hL5 : nilV HL (.c (.ptr pid pg 0)) = some (.c (.ptr pid pg 0)) := nilV_ptr hL1
  simp(maxSteps:=999999)(disch:=omega)only[go_sem,reduceAdd,reduceMul,reduceSub,reduceEqDiff,reduceLeDiff, hL1, hL5]
  obtain ⟨HF, hHF⟩ : ∃ HF : Heap, HF = HL.set pid (some ⟨pg, 1, [CV.own oid g6 0 (ls.length + 1) none]⟩) := ⟨_, rfl⟩
  have hlen1 : (ls ++ [xs]).length = ls.length + 1 := by simp
  have hmlt : mid < H.length := (List.getElem?_eq_some_iff.1 (look_some hml).1).1
  have hF1 : look HF pid pg = some ⟨pg, 1, [CV.own oid g6 0 (ls.length + 1) none]⟩ := by rw [hHF]; exact look_set_eq' (by omega)
  have hF2 : look HF mid mg = some ⟨mg, 1, [.f (.int .i64 most)]⟩ := by
    rw [hHF, look_set_ne' (Ne.symm hmp)]
    unfold look
    rw [hL3 mid hmlt (fun h => hmS (by rw [h]; exact o3))]
    exact hml
  have hF3 : look HF oid g6 = some ⟨g6, 1, cs ++ [CV.own H.length g4 0 xs.length none]⟩ := by rw [hHF, look_set_ne' hpo]; exact hL2
  have hfin : OutL HF pid pg (ls ++ [xs]) (H.length :: S) := by
    rw [hHF]
    refine ⟨⟨oid, g6, cs ++ [CV.own H.length g4 0 xs.length none], by rw [hlen1]; exact look_set_eq' (by omega), by rw [look_set_ne' hpo]; exact hL2, by simp [o3], by simp [o4], fun i hi => ?_⟩, by simp; exact ⟨by omega, opn⟩⟩
    rw [hlen1] at hi
    by_cases hil : i < ls.length
    · obtain ⟨id, g, k1, k2, k3, hio⟩ := o5 i hil
      have hidl := hSl id k3
      refine ⟨id, g, by rw [List.getElem?_append_left (by omega)]; rw [List.getElem_append_left hil]; exact k1, ?_, by simp [k3], hio⟩
      rw [List.getElem_append_left hil, look_set_ne' (fun h => opn (by rw [h]; exact k3))]
      unfold look
      rw [hL3 id (by omega) hio]
      exact k2
    · have hie : i = ls.length := by omega
      subst hie
      refine ⟨H.length, g4, ?_, ?_, by simp, by omega⟩
      · rw [List.getElem?_append_right (by omega), o4]
        simp
      · rw [look_set_ne' (by omega)]
        simp only [List.getElem_append_right (Nat.le_refl _), Nat.sub_self, List.getElem_singleton]
        exact hL4
  have hFl : HF.length = H.length + 2 := by rw [hHF, List.length_set]; omega
  have hFf : ∀ k, k < H.length → k ≠ pid → k ∉ S → HF[k]? = H[k]? := fun k hk hkp hkS => by rw [hHF, List.getElem?_set_ne (Ne.symm hkp), hL3 k (by omega) (fun h => hkS (by rw [h]; exact o3))]
  rw [← hHF]
  clear hHF
  simp(maxSteps:=999999)(disch:=omega)only[go_sem,reduceAdd,reduceMul,reduceSub,reduceEqDiff,reduceLeDiff, hF1, hF2, hF3]
  refine ⟨HF, HLe.refl _, ?_, H.length :: S, hfin, ?_, ?_, by omega, hFf⟩
  · rw [show decide (((ls.length + 1 : Nat) : Int) < most) = decide (ls.length + 1 < most) from decide_eq_decide.2 (by omega)]
  · intro k hk
    rcases List.mem_cons.1 hk with rfl | hk
    · exact .inr (by omega)
    · exact .inl hk
  · intro k hk
    rcases List.mem_cons.1 hk with rfl | hk
    · omega
    · have := hSl k hk; omega
end Go.Lg
