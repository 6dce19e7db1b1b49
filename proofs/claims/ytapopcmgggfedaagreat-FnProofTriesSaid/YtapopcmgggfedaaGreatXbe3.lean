/- GpM, GpFF, GpJC, GpHA, GpKA, GpNA, cut to what is needed. -/
import Derived.Test.YtapopcmgggfedaaGreatXbc6
import Derived.Test.YtapopcmgggfedaaGreatXbb4
import Derived.Test.YtapopcmgggfedaaGreatXbb3
import Derived.Test.YtapopcmgggfedaaGreatXbd7
import Derived.Test.YtapopcmgggfedaaGreatXbe2
import Derived.Test.YtapopcmgggfedaaGreatXbd5
import Derived.Test.YtapopcmgggfedaaGreatXbc5
import Derived.Test.YtapopcmgggfedaaGreatXbe0
open Nat renaming reduceAdd → zA, reduceMul → zM, reduceSub → zS, reduceEqDiff → zE, reduceLeDiff → zL
set_option linter.unusedSimpArgs false
set_option linter.unusedVariables false
set_option maxRecDepth 100000
namespace Go.Lg
open Go.Proofs
def RO.setV (o : RO) (k : Int) : RO := { o with r := { o.r with val := k } }
end Go.Lg

namespace Go.Lg
open Go.Proofs
def countV (p : Puz) (most : Int) : Int := if puzzleValid p = true ∧ 1 ≤ most ∧ most ≤ 600 then (allS p most.toNat).length else -1
theorem CountSolutions_run (p : Puz) (most : Int) (hx : smP p) : Reads Tryz.prog 29 [aP p, int most] (int (countV p most)) := by
  refine RunCall.cw (c := _) Tryz.func29 rfl (n := 22) Tryz.ntmps29 (rs := [.tmp 4]) rfl ?_
  simp only[List.length_cons,List.length_nil,zA,zS,List.replicate,List.cons_append,List.nil_append]
  simp(maxSteps:=999999)(disch:=omega)only[go_sem,zA,zM,zS,zE,zL]
  intro g
  first | refine OpS.rd (PuzzleValid_run p hx) (⟨_, Tryz.func15, rfl, rfl⟩ : Enters Tryz.prog 15) rfl rfl rfl rfl ?_ | refine Loud.rd (PuzzleValid_run p hx) (⟨_, Tryz.func15, rfl, rfl⟩ : Enters Tryz.prog 15) rfl rfl rfl rfl ?_
  simp(maxSteps:=999999)(disch:=omega)only[go_sem,zA,zM,zS,zE,zL]
  ((with_reducible first|refine guardK_dec ?_ ?_|refine guardK_ndec ?_ ?_|refine guardK_nb ?_ ?_|refine guardK_split ?_ ?_|refine guardQ_dec ?_ ?_|refine guardL_dec ?_ ?_|refine guardQ_ndec ?_ ?_|refine guardL_ndec ?_ ?_|refine guardQ_nb ?_ ?_|refine guardL_nb ?_ ?_|refine guardQ_split ?_ ?_|refine guardL_split ?_ ?_) <;> intro h1 <;> simp(maxSteps:=999999)(disch:=omega)only[go_sem,zA,zM,zS,zE,zL, h1])
  rotate_left
  · unfold countV
    rw [if_neg (fun h => by rw [h.1] at h1; cases h1)]
  ((with_reducible first|refine guardK_dec ?_ ?_|refine guardK_ndec ?_ ?_|refine guardK_nb ?_ ?_|refine guardK_split ?_ ?_|refine guardQ_dec ?_ ?_|refine guardL_dec ?_ ?_|refine guardQ_ndec ?_ ?_|refine guardL_ndec ?_ ?_|refine guardQ_nb ?_ ?_|refine guardL_nb ?_ ?_|refine guardQ_split ?_ ?_|refine guardL_split ?_ ?_) <;> intro h2 <;> simp(maxSteps:=999999)(disch:=omega)only[go_sem,zA,zM,zS,zE,zL, h2])
  · unfold countV
    rw [if_neg (by omega)]
  ((first|(with_reducible first|refine condK_dec ?_ ?_|refine condK_ndec ?_ ?_|refine condK_nb ?_ ?_)|refine condK_b ?_ ?_) <;> intro h3)
  · simp(maxSteps:=999999)(disch:=omega)only[go_sem,zA,zM,zS,zE,zL]
    unfold countV
    rw [if_neg (by omega)]
  obtain ⟨k, rfl⟩ : ∃ k : Nat, most = k := ⟨most.toNat, by omega⟩
  simp(maxSteps:=999999)(disch:=omega)only[go_sem,zA,zM,zS,zE,zL]
  first | refine OpS.mk (first_all h1 k (by omega)) (⟨_, Tryz.func53, rfl, rfl⟩ : Enters Tryz.prog 53) rfl rfl rfl rfl rfl ?_ | refine Loud.mk (first_all h1 k (by omega)) (⟨_, Tryz.func53, rfl, rfl⟩ : Enters Tryz.prog 53) rfl rfl rfl rfl rfl ?_
  simp(maxSteps:=999999)(disch:=omega)only[go_sem,zA,zM,zS,zE,zL]
  unfold countV
  rw [if_pos ⟨h1, by omega, by omega⟩, Int.toNat_natCast]
theorem onlyOne_run (p : Puz) (hx : smP p) : Reads Tryz.prog 16 [aP p] (bool (decide (countV p 2 = 1))) := by
  refine RunCall.cw (c := _) Tryz.func16 rfl (n := 6) Tryz.ntmps16 (rs := [.tmp 2]) rfl ?_
  simp only[List.length_cons,List.length_nil,zA,zS,List.replicate,List.cons_append,List.nil_append]
  simp(maxSteps:=999999)(disch:=omega)only[go_sem,zA,zM,zS,zE,zL]
  intro g
  first | refine OpS.rd (CountSolutions_run p 2 hx) (⟨_, Tryz.func29, rfl, rfl⟩ : Enters Tryz.prog 29) rfl rfl rfl rfl ?_ | refine Loud.rd (CountSolutions_run p 2 hx) (⟨_, Tryz.func29, rfl, rfl⟩ : Enters Tryz.prog 29) rfl rfl rfl rfl ?_
  simp(maxSteps:=999999)(disch:=omega)only[go_sem,zA,zM,zS,zE,zL]
end Go.Lg

namespace Go.Lg
open Go.Proofs
attribute [-go_sem] appendM lwF_cons
structure OwnP0 (H : Heap) (c r : CV) (p : Puz) (S1 S2 : List Nat) : Prop where
  g : OwnI H c p.given S1
  rr : (r = .f .nil ∧ p.rules = [] ∧ S2 = []) ∨ OwnR H r p.rules S2
  nd : (S1 ++ S2).Nodup
  l : limN r
theorem limN_shift {r : CV} {k : Nat} (h : limN r) : limN (shiftC k r) := by
  cases r with
  | f v => cases v <;> exact h
  | _ => exact h
section
variable {H H' : Heap} {c r : CV} {p : Puz} {S1 S2 : List Nat}
theorem OwnP0.same (h : OwnP0 H c r p S1 S2) (hs : ∀ i ∈ S1 ++ S2, H'[i]? = H[i]?) : OwnP0 H' c r p S1 S2 :=
  ⟨h.g.same fun i hi => hs i (by simp [hi]), h.rr.imp id fun k => k.same fun i hi => hs i (by simp [hi]), h.nd, h.l⟩
theorem OwnP0.lt (h : OwnP0 H c r p S1 S2) : ∀ i ∈ S1 ++ S2, i < H.length := fun i hi => by
  rcases List.mem_append.1 hi with hi | hi
  · exact h.g.lt i hi
  · rcases h.rr with ⟨_, _, rfl⟩ | k
    · simp at hi
    · exact k.lt i hi
theorem OwnP0.blk (h : OwnP0 H c r p S1 S2) : (∀ i ∈ S1 ++ S2, ∀ b, H[i]? = some (some b) → ∀ x ∈ b.cs, scalC x = true) ∧ scalC c = true ∧ scalC r = true := by
  refine ⟨fun i hi => ?_, h.g.scal1, ?_⟩
  · rcases List.mem_append.1 hi with hi | hi
    · exact h.g.blk i hi
    · rcases h.rr with ⟨_, _, rfl⟩ | k
      · simp at hi
      · exact k.blk i hi
  · rcases h.rr with ⟨rfl, _, _⟩ | k
    · rfl
    · exact k.scal1
theorem OwnP0.shift {H0 : Heap} (h : OwnP0 H c r p S1 S2) : OwnP0 (H0 ++ shiftH H0.length H) (shiftC H0.length c) (shiftC H0.length r) p (S1.map (· + H0.length)) (S2.map (· + H0.length)) := by
  refine ⟨h.g.shift, ?_, ?_, limN_shift h.l⟩
  · rcases h.rr with ⟨rfl, h1, rfl⟩ | k
    · exact .inl ⟨rfl, h1, rfl⟩
    · exact .inr k.shift
  · rw [← List.map_append]
    exact List.pairwise_map.2 (h.nd.imp fun h h' => h (by omega))
theorem OwnP0.snap (h : OwnP0 H c r p S1 S2) : [AV.agg [.f (.int .i64 p.size), c, r]].mapM (snapD H) = some [aP p] := by
  have e1 : ∀ x : Int, frzC H (.f (.int .i64 x)) = some (.f (.int .i64 x)) := fun _ => rfl
  have e2 := h.g.frzC
  have e3 : frzC H r = some (.f (fsl eR p.rules)) := by
    rcases h.rr with ⟨rfl, h1, _⟩ | k
    · rw [h1]; exact (OwnL.n (E := eR) (n := 3)).frzC
    · exact k.frzC
  simp only [snapD, List.mapM_cons, List.mapM_nil, e1, e2, e3, Option.bind_eq_bind, Option.pure_def, Option.bind_some, Option.map_some]
end
section
variable {P : Program} {o : Oper} {st : St} {K : KV} {fo : Operand} {xs : Array Operand} {ts : Array TypeId} {f : FuncId} {args args' : List AV} {p : Puz}
end
end Go.Lg

namespace Go.Lg
open Go.Proofs
def Full (n : Nat) (s : List Int) : Prop := GrdN s n ∧ ∀ k : Nat, k < n * n → 0 < nth s k
def ExtG (xs s : List Int) : Prop := ∀ k : Nat, 0 < nth xs k → nth s k = nth xs k
instance (xs s : List Int) : Decidable (ExtG xs s) := decidable_of_iff (∀ k, k < xs.length → 0 < nth xs (k : Int) → nth s (k : Int) = nth xs (k : Int)) ⟨fun h k hk => by
  by_cases hl : k < xs.length
  · exact h k hl hk
  · rw [nth_over (by omega)] at hk; omega, fun h k _ => h k⟩
theorem ExtG.refl (xs : List Int) : ExtG xs xs := fun _ _ => rfl
theorem ExtG.trans {a b c : List Int} (h : ExtG a b) (k : ExtG b c) : ExtG a c := fun i hi => by
  have := h i hi
  rw [k i (by omega), this]
theorem ExtG.set {xs : List Int} {i : Nat} {v : Int} (hi : i < xs.length) (h0 : ¬ 0 < nth xs i) : ExtG xs (xs.set i v) := fun k hk => by
  rw [nth_setN _ _ _ _ hi, if_neg (fun h => by subst h; exact h0 hk)]
theorem ExtG.of_set {xs s : List Int} {i : Nat} {v : Int} (hi : i < xs.length) (h : ExtG xs s) (hv : nth s i = v) : ExtG (xs.set i v) s := fun k hk => by
  rw [nth_setN _ _ _ _ hi] at hk ⊢
  split
  · rename_i hki; subst hki; exact hv
  · rename_i hki; rw [if_neg hki] at hk; exact h k hk
theorem sols_fit (p : Puz) (n : Nat) : ∀ (m : Nat) (xs : List Int), fitsL p xs n = true → ∀ s ∈ sols p n m xs, fitsL p s n = true
  | 0, xs, hf, s, hs => by rw [sols, List.mem_singleton] at hs; subst hs; exact hf
  | m + 1, xs, hf, s, hs => by
    rw [sols_succ p n m xs rfl] at hs
    split at hs
    · exact sols_fit p n m xs hf s hs
    · obtain ⟨v, hv, hs⟩ := List.mem_flatMap.1 hs
      split at hs
      · rename_i h; exact sols_fit p n m _ h s hs
      · simp at hs
theorem mem_vals {n v : Nat} (h : 1 ≤ v ∧ v ≤ n) : v ∈ vals n 1 := by
  unfold vals
  rw [Nat.sub_self, List.drop_zero, List.mem_map]
  exact ⟨v - 1, List.mem_range.2 (by omega), by omega⟩
theorem vals_nodup (n : Nat) : (vals n 1).Nodup := by
  unfold vals
  rw [Nat.sub_self, List.drop_zero]
  exact List.pairwise_map.2 ((List.nodup_range (n := n)).imp fun h => by omega)
theorem sols_complete {p : Puz} {n : Nat} (hp : PuzN p n) {s : List Int} (hs : Full n s) (hf : fitsL p s n = true) : ∀ (m : Nat) (xs : List Int), m ≤ n * n → GrdN xs n → (∀ k : Nat, k < n * n - m → 0 < nth xs k) → ExtG xs s → s ∈ sols p n m xs
  | 0, xs, hm, hg, hk, he => by
    rw [sols, List.mem_singleton]
    refine ext_nth (by rw [hs.1.len, hg.len]) fun j hj => he j (hk j (by rw [hs.1.len] at hj; omega))
  | m + 1, xs, hm, hg, hk, he => by
    have hxl := hg.len
    obtain ⟨i, hi⟩ : ∃ i, i = xs.length - (m + 1) := ⟨_, rfl⟩
    have hil : i < xs.length := by omega
    rw [sols_succ p n m xs hi.symm]
    split
    · rename_i h0
      refine sols_complete hp hs hf m xs (by omega) hg (fun k hk' => ?_) he
      by_cases hki : k = i
      · rw [hki]; exact h0
      · exact hk k (by omega)
    · rename_i h0
      have hv := hs.1.val i (by rw [hs.1.len]; omega)
      have hv0 := hs.2 i (by omega)
      obtain ⟨v, hvv⟩ : ∃ v : Nat, nth s i = v := ⟨(nth s i).toNat, by omega⟩
      refine List.mem_flatMap.2 ⟨v, mem_vals (by omega), ?_⟩
      have hes := ExtG.of_set (v := (v : Int)) hil he hvv
      have hgs := hg.set (v := v) hil (by omega)
      rw [if_pos (fits_mono hp hgs hs.1 hes hf)]
      refine sols_complete hp hs hf m _ (by omega) hgs (fun k hk' => ?_) hes
      rw [nth_setN _ _ _ _ hil]
      split
      · omega
      · exact hk k (by omega)
theorem sols_nodup (p : Puz) {n : Nat} : ∀ (m : Nat) (xs : List Int), m ≤ n * n → GrdN xs n → (∀ k : Nat, k < n * n - m → 0 < nth xs k) → (sols p n m xs).Nodup
  | 0, xs, _, _, _ => by rw [sols]; simp
  | m + 1, xs, hm, hg, hk => by
    have hxl := hg.len
    obtain ⟨i, hi⟩ : ∃ i, i = xs.length - (m + 1) := ⟨_, rfl⟩
    have hil : i < xs.length := by omega
    rw [sols_succ p n m xs hi.symm]
    split
    · rename_i h0
      refine sols_nodup p m xs (by omega) hg fun k hk' => ?_
      by_cases hki : k = i
      · rw [hki]; exact h0
      · exact hk k (by omega)
    · have hkv : ∀ v : Nat, 1 ≤ v → ∀ k : Nat, k < n * n - m → 0 < nth (xs.set i (v : Int)) k := fun v hv k hk' => by
        rw [nth_setN _ _ _ _ hil]
        split
        · omega
        · exact hk k (by omega)
      rw [List.Nodup, List.pairwise_flatMap]
      refine ⟨fun v hv => ?_, (vals_nodup n).imp_of_mem fun {a b} ha hb hab x hx y hy hxy => ?_⟩
      · have hvb := vals_mem hv
        split
        · exact sols_nodup p m _ (by omega) (hg.set hil hvb.2) (hkv v hvb.1)
        · simp
      · subst hxy
        have hav := vals_mem ha
        have hbv := vals_mem hb
        split at hx
        · split at hy
          · have h1 := (sols_full p m _ (by omega) (hg.set hil hav.2) (hkv a hav.1) x hx).2.2 i (by rw [nth_setN _ _ _ _ hil, if_pos rfl]; omega)
            have h2 := (sols_full p m _ (by omega) (hg.set hil hbv.2) (hkv b hbv.1) x hy).2.2 i (by rw [nth_setN _ _ _ _ hil, if_pos rfl]; omega)
            rw [nth_setN _ _ _ _ hil, if_pos rfl] at h1 h2
            omega
          · simp at hy
        · simp at hx
def allL (p : Puz) : List (List Int) := if puzzleValid p = true ∧ fitsL p p.given p.size.toNat = true then sols p p.size.toNat (p.size.toNat * p.size.toNat) p.given else []
theorem allS_take (p : Puz) (most : Nat) : allS p most = (allL p).take most := by
  unfold allS allL
  split
  · rfl
  · simp
def IsSol (p : Puz) (s : List Int) : Prop := Full p.size.toNat s ∧ ExtG p.given s ∧ fitsL p s p.size.toNat = true
theorem puz_facts {p : Puz} (hv : puzzleValid p = true) : PuzN p p.size.toNat ∧ GrdN p.given p.size.toNat := by
  obtain ⟨hp, hz⟩ := PuzN.of hv
  exact ⟨hp, GrdN.of hp.hn (xs := p.given) (by rw [hz]; exact puzzleValid_grid' hv)⟩
theorem allL_mem {p : Puz} (hv : puzzleValid p = true) (s : List Int) : s ∈ allL p ↔ IsSol p s := by
  obtain ⟨hp, hg⟩ := puz_facts hv
  unfold allL
  constructor
  · intro h
    split at h
    · rename_i hf
      obtain ⟨q1, q2, q3⟩ := sols_full p _ _ (Nat.le_refl _) hg (fun k hk => absurd hk (by omega)) s h
      exact ⟨⟨q1, q2⟩, q3, sols_fit p _ _ _ hf.2 s h⟩
    · simp at h
  · rintro ⟨h1, h2, h3⟩
    rw [if_pos ⟨hv, fits_mono hp hg h1.1 h2 h3⟩]
    exact sols_complete hp h1 h3 _ _ (Nat.le_refl _) hg (fun k hk => absurd hk (by omega)) h2
theorem allL_nodup (p : Puz) : (allL p).Nodup := by
  unfold allL
  split
  · rename_i h
    exact sols_nodup p _ _ (Nat.le_refl _) (puz_facts h.1).2 (fun k hk => absurd hk (by omega))
  · simp
theorem nodup_le {α : Type} [DecidableEq α] : ∀ {a b : List α}, a.Nodup → (∀ x ∈ a, x ∈ b) → a.length ≤ b.length
  | [], _, _, _ => by simp
  | x :: a, b, hn, hs => by
    rw [List.nodup_cons] at hn
    have hx := hs x (by simp)
    have := nodup_le (a := a) (b := b.erase x) hn.2 fun y hy => by
      have hyb := hs y (by simp [hy])
      exact (List.mem_erase_of_ne (fun h => hn.1 (by rw [← h]; exact hy))).2 hyb
    rw [List.length_erase_of_mem hx] at this
    have := List.length_pos_of_mem hx
    simp only [List.length_cons]
    omega
theorem nodup_eq {α : Type} [DecidableEq α] {a b : List α} (ha : a.Nodup) (hb : b.Nodup) (h : ∀ x, x ∈ a ↔ x ∈ b) : a.length = b.length :=
  Nat.le_antisymm (nodup_le ha fun x hx => (h x).1 hx) (nodup_le hb fun x hx => (h x).2 hx)
end Go.Lg

namespace Go.Lg
open Go.Proofs
theorem mvals_pow {v : Nat} (h : 1 ≤ v ∧ v ≤ 4) : mvals (2 ^ v) 4 = [(v : Int)] := by
  have : v = 1 ∨ v = 2 ∨ v = 3 ∨ v = 4 := by omega
  rcases this with rfl | rfl | rfl | rfl <;> decide
theorem ways_full (r : Rul) : ∀ (vs : List Int) (pre : List Int) (o : List Nat), (∀ v ∈ vs, 1 ≤ v ∧ v ≤ 4) → ways r (vs.map fun v => 2 ^ v.toNat) pre o = if holdsV r (pre ++ vs) = true then orV o (pre ++ vs) else o
  | [], pre, o, _ => by simp [ways]
  | v :: vs, pre, o, h => by
    have hv := h v (by simp)
    obtain ⟨m, rfl⟩ : ∃ m : Nat, v = m := ⟨v.toNat, by omega⟩
    rw [List.map_cons, ways_cons, Int.toNat_natCast, mvals_pow (by omega)]
    simp only [List.foldl_cons, List.foldl_nil]
    rw [ways_full r vs _ _ (fun x hx => h x (by simp [hx])), List.append_assoc]
    rfl
end Go.Lg

namespace Go.Lg
open Go.Proofs
def InM (s : List Int) (ms : List Nat) (N : Nat) : Prop := ∀ k : Nat, k < N → (mAt ms k).testBit (nth s k).toNat = true
structure Lat (s : List Int) (n : Nat) : Prop where
  hn : n = 2 ∨ n = 3 ∨ n = 4
  full : Full n s
  nc : NC s n
theorem Lat.val {s : List Int} {n : Nat} (h : Lat s n) {k : Nat} (hk : k < n * n) : 1 ≤ (nth s k).toNat ∧ (nth s k).toNat ≤ n ∧ nth s k = ((nth s k).toNat : Nat) := by
  have h1 := h.full.2 k hk
  have h2 := h.full.1.val k (by rw [h.full.1.len]; exact hk)
  omega
theorem Lat.ne {s : List Int} {n : Nat} (h : Lat s n) {a b : Nat} (ha : a < n * n) (hb : b < n * n) (hab : a ≠ b) (hl : a / n = b / n ∨ a % n = b % n) : (nth s a).toNat ≠ (nth s b).toNat := by
  have h1 := h.val ha
  have h2 := h.val hb
  rcases Nat.lt_or_ge a b with hlt | hge
  · have := h.nc a b hlt hb hl (by omega)
    omega
  · have := h.nc b a (by omega) ha (hl.imp Eq.symm Eq.symm) (by omega)
    omega
theorem clrL_in {s : List Int} {n : Nat} {R : List (Nat × Nat)} {ms : List Nat} (hn : n = 2 ∨ n = 3 ∨ n = 4) (hm : MsN ms n) (h : InM s ms (n * n)) (hR : ∀ q ∈ R, q.1 < n * n → q.2.testBit (nth s q.1).toNat = false) : InM s (clrL R ms) (n * n) := by
  intro k hk
  rw [clrL_bit (fun k => by have := hm.lt hn k; omega) (by rw [hm.len]; exact hk), h k hk, Bool.true_and, List.all_eq_true]
  intro q hq
  by_cases hqk : q.1 = k
  · have := hR q hq (by omega)
    rw [hqk] at this
    rw [this, Bool.and_false]; rfl
  · have : (q.1 == k) = false := by simpa using hqk
    rw [this]; rfl
theorem only_of {m v : Nat} (hm : m ≤ 30 ∧ m % 2 = 0) (h : onlyV m ≠ 0) (hb : m.testBit v = true) : v = onlyV m := by
  have e := ((mvals_only hm).2 h).2
  rw [e, Nat.testBit_two_pow, decide_eq_true_eq] at hb
  exact hb.symm
theorem sgl_in {s : List Int} {n : Nat} {ms : List Nat} (hs : Lat s n) (hm : MsN ms n) (h : InM s ms (n * n)) : InM s (sglM ms n) (n * n) := by
  rw [← sgl_same hs.hn hm]
  refine clrL_in hs.hn hm h fun q hq hq1 => ?_
  obtain ⟨i, hi, hq⟩ := List.mem_flatMap.1 hq
  have hi := List.mem_range.1 hi
  unfold sglB at hq
  split at hq
  · cases hq
  rename_i ho
  obtain ⟨j, hj, hq⟩ := List.mem_flatMap.1 hq
  have hj := List.mem_range.1 hj
  unfold sglJ at hq
  split at hq
  · rename_i hji
    have hq : q = (j, mAt ms i) := by simpa using hq
    subst hq
    simp only
    have hmi := hm.lt hs.hn i
    have e := only_of hmi ho (h i hi)
    have e2 := ((mvals_only hmi).2 ho).2
    rw [e2, Nat.testBit_two_pow, decide_eq_false_iff_not, ← e]
    exact fun hh => hs.ne hj hi hji.1 hji.2 hh.symm
  · cases hq
theorem ln_rel {n line i j : Nat} (hn : n = 2 ∨ n = 3 ∨ n = 4) (hl : line < 2 * n) (hi : i < n) (hj : j < n) : lnN n line i / n = lnN n line j / n ∨ lnN n line i % n = lnN n line j % n := by
  unfold lnN
  rw [lineC_nth hi, lineC_nth hj]
  split
  · left; rcases hn with rfl | rfl | rfl <;> omega
  · right; rcases hn with rfl | rfl | rfl <;> omega
theorem Lat.line {s : List Int} {n : Nat} (h : Lat s n) {line i j : Nat} (hl : line < 2 * n) (hi : i < n) (hj : j < n) (hij : i ≠ j) : (nth s (lnN n line i)).toNat ≠ (nth s (lnN n line j)).toNat :=
  h.ne (lnN_lt h.hn hl hi).1 (lnN_lt h.hn hl hj).1 (fun e => hij ((lnN_inj h.hn hl hi hj).1 e)) (ln_rel h.hn hl hi hj)
theorem Lat.onto {s : List Int} {n : Nat} (h : Lat s n) {line v : Nat} (hl : line < 2 * n) (hv : 1 ≤ v ∧ v ≤ n) : ∃ k : Nat, k < n ∧ (nth s (lnN n line k)).toNat = v := by
  refine Classical.byContradiction fun hno => ?_
  have hno : ∀ k : Nat, k < n → (nth s (lnN n line k)).toNat ≠ v := fun k hk he => hno ⟨k, hk, he⟩
  have hnd : ((List.range n).map fun k => (nth s (lnN n line k)).toNat).Nodup := by
    refine List.pairwise_map.2 ?_
    refine List.Pairwise.imp_of_mem ?_ (List.nodup_range (n := n))
    intro a b ha hb hab
    exact h.line hl (List.mem_range.1 ha) (List.mem_range.1 hb) hab
  have hsub : ∀ x ∈ (List.range n).map (fun k => (nth s (lnN n line k)).toNat), x ∈ ((List.range n).map (· + 1)).erase v := by
    intro x hx
    obtain ⟨k, hk, rfl⟩ := List.mem_map.1 hx
    have hk := List.mem_range.1 hk
    have hv2 := h.val (lnN_lt h.hn hl hk).1
    refine (List.mem_erase_of_ne (hno k hk)).2 (List.mem_map.2 ⟨(nth s (lnN n line k)).toNat - 1, List.mem_range.2 (by omega), by omega⟩)
  have := nodup_le hnd hsub
  rw [List.length_map, List.length_range, List.length_erase_of_mem (List.mem_map.2 ⟨v - 1, List.mem_range.2 (by omega), by omega⟩), List.length_map, List.length_range] at this
  omega
theorem hcnt_zero {ms : List Nat} {n line v : Nat} : ∀ {k : Nat}, (hcnt ms n line v k).1 = 0 → ∀ j, j < k → (mAt ms (lnN n line j)).testBit v = false
  | 0, _, j, hj => by omega
  | k + 1, h, j, hj => by
    unfold hcnt at h
    split at h
    · simp at h
    · rename_i hb
      by_cases hjk : j = k
      · rw [hjk]; simpa using hb
      · exact hcnt_zero h j (by omega)
theorem hcnt_one {ms : List Nat} {n line v : Nat} : ∀ {k : Nat}, (hcnt ms n line v k).1 = 1 → ∀ j, j < k → (mAt ms (lnN n line j)).testBit v = true → lnN n line j = (hcnt ms n line v k).2
  | 0, _, j, hj, _ => by omega
  | k + 1, h, j, hj, hb => by
    unfold hcnt at h ⊢
    split at h
    · rename_i hk
      rw [if_pos hk]
      have h0 : (hcnt ms n line v k).1 = 0 := by simp only at h; omega
      by_cases hjk : j = k
      · rw [hjk]
      · have := hcnt_zero h0 j (by omega)
        rw [this] at hb; cases hb
    · rename_i hk
      rw [if_neg hk]
      by_cases hjk : j = k
      · rw [hjk] at hb; exact absurd hb hk
      · exact hcnt_one h j (by omega) hb
theorem hid_in {s : List Int} {n : Nat} {ms : List Nat} (hs : Lat s n) (hm : MsN ms n) (h : InM s ms (n * n)) : InM s (hidM ms n) (n * n) := by
  refine clrL_in hs.hn hm h fun q hq hq1 => ?_
  obtain ⟨line, hl, hq⟩ := List.mem_flatMap.1 hq
  have hl := List.mem_range.1 hl
  obtain ⟨u, hu, hq⟩ := List.mem_flatMap.1 hq
  have hu := List.mem_range.1 hu
  unfold hidV at hq
  split at hq
  · rename_i h1
    have hq : q = ((hcnt ms n line (u + 1) n).2, 31 ^^^ 2 ^ (u + 1)) := by simpa using hq
    obtain ⟨k, hk, he⟩ := hs.onto hl (v := u + 1) ⟨by omega, by omega⟩
    have hb := h _ (lnN_lt hs.hn hl hk).1
    rw [he] at hb
    have hat := hcnt_one h1 k hk hb
    subst hq
    simp only
    rw [← hat, he, Nat.testBit_xor, Nat.testBit_two_pow_self]
    have : u + 1 = 1 ∨ u + 1 = 2 ∨ u + 1 = 3 ∨ u + 1 = 4 := by have := hs.hn; omega
    rcases this with e | e | e | e <;> rw [e] <;> rfl
  · cases hq
theorem mem_mvals {m v : Nat} (hv : 1 ≤ v ∧ v ≤ 4) (h : m.testBit v = true) : (v : Int) ∈ mvals m 4 := by
  unfold mvals
  refine List.mem_flatMap.2 ⟨v, ?_, by rw [if_pos h]; simp⟩
  have : v = 1 ∨ v = 2 ∨ v = 3 ∨ v = 4 := by omega
  rcases this with rfl | rfl | rfl | rfl <;> simp
theorem par_in {s : List Int} {n : Nat} {ms : List Nat} (hs : Lat s n) (hm : MsN ms n) (h : InM s ms (n * n)) : InM s (parM ms n) (n * n) := by
  have hn4 : n ≤ 4 := by have := hs.hn; omega
  refine clrL_in hs.hn hm h fun q hq hq1 => ?_
  obtain ⟨line, hl, hq⟩ := List.mem_flatMap.1 hq
  have hl := List.mem_range.1 hl
  obtain ⟨x, y, k, hxy, hy, hk, ⟨he, h2⟩, ⟨hkx, hky⟩, rfl⟩ := (par_mem hs.hn ms hl q).1 hq
  simp only at hq1 ⊢
  cases hb : (mAt ms (lnN n line x)).testBit (nth s (lnN n line k)).toNat with
  | false => rfl
  | true =>
    exfalso
    have hx : x < n := by omega
    have vx := hs.val (lnN_lt hs.hn hl hx).1
    have vy := hs.val (lnN_lt hs.hn hl hy).1
    have vk := hs.val (lnN_lt hs.hn hl hk).1
    have bx := h _ (lnN_lt hs.hn hl hx).1
    have bY := h _ (lnN_lt hs.hn hl hy).1
    rw [← he] at bY
    have nxy := hs.line hl hx hy (by omega)
    have nkx := hs.line hl hk hx hkx
    have nky := hs.line hl hk hy hky
    generalize (nth s (lnN n line x)).toNat = a at *
    generalize (nth s (lnN n line y)).toNat = b at *
    generalize (nth s (lnN n line k)).toNat = c at *
    have hnd : ([(a : Int), (b : Int), (c : Int)] : List Int).Nodup := by
      simp only [List.nodup_cons, List.mem_cons, List.not_mem_nil, or_false, not_or, List.nodup_nil, and_true, not_false_eq_true]
      omega
    have := nodup_le hnd (b := mvals (mAt ms (lnN n line x)) 4) fun z hz => by
      simp only [List.mem_cons, List.not_mem_nil, or_false] at hz
      rcases hz with rfl | rfl | rfl
      · exact mem_mvals (by omega) bx
      · exact mem_mvals (by omega) bY
      · exact mem_mvals (by omega) hb
    simp only [List.length_cons, List.length_nil] at this
    omega
theorem holds_of_can {r : Rul} {s : List Int} {n : Nat} (hs : Lat s n) (hv : ruleValid r n = true) (h : canHold r s n = true) : holdsV r (r.cells.map (nth s)) = true := by
  obtain ⟨f1, f2, f3, f4⟩ := ruleValid_facts hv
  have hn4 : n ≤ 4 := by have := hs.hn; omega
  have hcell : ∀ c ∈ r.cells, 1 ≤ nth s c ∧ nth s c ≤ 4 := fun c hc => by
    obtain ⟨h1, h2⟩ := f3 c hc
    obtain ⟨k, rfl⟩ : ∃ k : Nat, c = k := ⟨c.toNat, by omega⟩
    have := hs.val (k := k) (by omega)
    omega
  unfold canHold at h
  have e : r.cells.map (maskAt s n) = (r.cells.map (nth s)).map fun v => 2 ^ v.toNat := by
    rw [List.map_map]
    refine List.map_congr_left fun c hc => ?_
    unfold maskAt
    rw [if_pos (by have := hcell c hc; omega)]
    rfl
  rw [e, ways_full r _ _ _ (fun v hv => by obtain ⟨c, hc, rfl⟩ := List.mem_map.1 hv; exact hcell c hc), List.nil_append] at h
  split at h
  · assumption
  · exfalso
    have hz : (List.replicate r.cells.length 0).getD 0 0 = 0 := by
      cases r.cells.length <;> rfl
    rw [hz] at h
    cases h
theorem ruleM_has {r : Rul} {s : List Int} {n : Nat} {ms : List Nat} (hs : Lat s n) (hv : ruleValid r n = true) (h : holdsV r (r.cells.map (nth s)) = true) (hi : InM s ms (n * n)) {k : Nat} (hk : k < r.cells.length) : ((ruleM r (nats ms)).getD k 0).testBit (nth s (nth r.cells k)).toNat = true := by
  obtain ⟨f1, f2, f3, f4⟩ := ruleValid_facts hv
  have hn4 : n ≤ 4 := by have := hs.hn; omega
  have hcell : ∀ c ∈ r.cells, (1 ≤ nth s c ∧ nth s c ≤ 4) ∧ ∃ j : Nat, c = j ∧ j < n * n := fun c hc => by
    obtain ⟨h1, h2⟩ := f3 c hc
    obtain ⟨k, rfl⟩ : ∃ k : Nat, c = k := ⟨c.toNat, by omega⟩
    have := hs.val (k := k) (by omega)
    exact ⟨by omega, k, rfl, by omega⟩
  have hget : nth r.cells k = r.cells[k] := by rw [nth_eq (by omega)]; rfl
  have hfull := ways_full r (r.cells.map (nth s)) [] (List.replicate r.cells.length 0) (fun v hv => by obtain ⟨c, hc, rfl⟩ := List.mem_map.1 hv; exact (hcell c hc).1)
  rw [List.nil_append, if_pos h] at hfull
  have hmono := ways_mono r ((r.cells.map (nth s)).map fun v => 2 ^ v.toNat) (remM r (nats ms) 0) [] (List.replicate r.cells.length 0) (List.replicate r.cells.length 0) (by simp) (by unfold remM; simp) (fun j v h1 h2 hb => by
    by_cases hj : j < r.cells.length
    · have hc := hcell _ (List.getElem_mem hj)
      obtain ⟨_, i, hi1, hi2⟩ := hc
      unfold remM
      simp only [List.drop_zero, List.getD, List.getElem?_map, List.getElem?_eq_getElem hj, Option.map_some, Option.getD_some] at hb ⊢
      rw [Nat.testBit_two_pow, decide_eq_true_eq] at hb
      have := hi i hi2
      rw [hi1] at hb ⊢
      rw [nth_nats, Int.toNat_natCast, ← hb]
      exact this
    · simp [List.getD, List.getElem?_eq_none (show r.cells.length ≤ j by omega)] at hb) ⟨rfl, fun _ _ h => h⟩
  rw [hfull] at hmono
  refine hmono.2 k _ ?_
  unfold orV
  have hrl : k < (List.replicate r.cells.length 0).length := by simpa using hk
  simp only [List.getD, List.getElem?_zipWith, List.getElem?_map, List.getElem?_eq_getElem hk, List.getElem?_eq_getElem hrl, Option.map_some, Option.getD_some, Nat.testBit_or, hget, Nat.testBit_two_pow_self, Bool.or_true]
theorem putR_in {r : Rul} {s : List Int} {n : Nat} {ms : List Nat} {fd : List Nat} (hv : ruleValid r n = true) (hm : ms.length = n * n) (hf : ∀ k : Nat, k < r.cells.length → (fd.getD k 0).testBit (nth s (nth r.cells k)).toNat = true) (hi : InM s ms (n * n)) : ∀ j, j ≤ r.cells.length → InM s (putR r fd ms j) (n * n)
  | 0, _ => hi
  | j + 1, hj => by
    have ih := putR_in hv hm hf hi j (by omega)
    rw [putR_succ]
    have hc := (ruleValid_facts hv).2.2.1 _ (nth_mem (xs := r.cells) (i := j) (by omega))
    intro k hk
    rw [mAt_set (by rw [putR_len, hm]; omega)]
    split
    · rename_i hkc
      have := hf j (by omega)
      rw [hkc]
      have e : (((nth r.cells j).toNat : Nat) : Int) = nth r.cells j := by omega
      rw [e]
      exact this
    · exact ih k hk
theorem rul_in {p : Puz} {s : List Int} {n : Nat} {ms : List Nat} (hs : Lat s n) (hp : PuzN p n) (hf : ∀ r ∈ p.rules, canHold r s n = true) (hm : MsN ms n) (h : InM s ms (n * n)) : InM s (rulM p ms) (n * n) := by
  have gen : ∀ (rs : List Rul), (∀ r ∈ rs, ruleValid r n = true ∧ canHold r s n = true) → ∀ ms : List Nat, MsN ms n → InM s ms (n * n) → InM s (rs.foldl rulS ms) (n * n) := by
    intro rs
    induction rs with
    | nil => intro _ ms _ h; exact h
    | cons r rs ih =>
      intro hr ms hm h
      obtain ⟨hv, hc⟩ := hr r (by simp)
      have hh := holds_of_can hs hv hc
      exact ih (fun q hq => hr q (by simp [hq])) _ (putR_ok r hm _ (Nat.le_refl _)) (putR_in hv hm.len (fun k hk => ruleM_has hs hv hh h hk) h _ (Nat.le_refl _))
  exact gen p.rules (fun r hr => ⟨hp.rv r hr, hf r hr⟩) ms hm h
theorem nar_in {p : Puz} {s : List Int} {n t : Nat} {ms : List Nat} (hs : Lat s n) (hp : PuzN p n) (hf : ∀ r ∈ p.rules, canHold r s n = true) (hm : MsN ms n) (h : InM s ms (n * n)) : InM s (narM p t ms) (n * n) := by
  have hz : p.size.toNat = n := by rw [hp.size]; rfl
  unfold narM
  rw [hz]
  split
  · exact sgl_in hs hm h
  split
  · exact hid_in hs hm h
  split
  · exact par_in hs hm h
  · exact rul_in hs hp hf hm h
theorem fits_parts {p : Puz} {n : Nat} {s : List Int} (h : fitsL p s n = true) : clear p s = true ∧ (∀ r ∈ p.rules, canHold r s n = true) ∧ clash s n = false := by
  simp only [fitsL, Bool.and_eq_true, List.all_eq_true, Bool.not_eq_true'] at h
  exact ⟨h.1, h.2.1, h.2.2⟩
theorem sol_lat {p : Puz} {s : List Int} (hv : puzzleValid p = true) (h : IsSol p s) : Lat s p.size.toNat := by
  have hn := (PuzN.of hv).1.hn
  have h0 : ∀ c : Int, 0 ≤ nth s c := fun c => by
    by_cases hc : c.toNat < s.length
    · rw [nth_toNat]; exact (h.1.1.val _ hc).1
    · rw [nth_toNat, nth_over (by omega)]; exact Int.le_refl _
  exact ⟨hn, h.1, (clash_nc hn h0).1 (fits_parts h.2.2).2.2⟩
theorem startM_in {p : Puz} {s : List Int} {n : Nat} (hs : Lat s n) (hp : PuzN p n) (hg : GrdN p.given n) (he : ExtG p.given s) : InM s (startM p) (n * n) := by
  intro k hk
  have hz : p.size.toNat = n := by rw [hp.size]; rfl
  rw [startM_at (by rw [hg.len]; exact hk), hz]
  split
  · rename_i h
    rw [he k h, Nat.testBit_two_pow_self]
  · have hv := hs.val hk
    have hn := hs.hn
    generalize (nth s k).toNat = v at hv
    have : v = 1 ∨ v = 2 ∨ v = 3 ∨ v = 4 := by omega
    rcases hn with rfl | rfl | rfl <;> rcases this with rfl | rfl | rfl | rfl <;> first | rfl | omega
end Go.Lg
