/- GpIA, cut to what is needed. -/
import Derived.Test.YtabihehfemedcaaQad2
import Derived.Test.YtabihehfemedcaaQad9
set_option linter.unusedSimpArgs false
set_option linter.unusedVariables false
set_option maxRecDepth 100000
namespace Go.Lg
open Go.Proofs
theorem can_ext {p : Puz} (hv : puzzleValid p = true) {xs : List Int} (hx : GrdN xs p.size.toNat) : canV p xs = decide (0 < (extL p xs).length) := by
  have hz : ((p.size.toNat : Nat) : Int) = p.size := (PuzN.of hv).2
  unfold canV
  rw [if_pos ⟨hv, by have := hx.valid (PuzN.of hv).1.hn; rwa [hz] at this⟩, fin_len hv hx, decide_eq_decide]
  omega
theorem ext_zero (p : Puz) (k : Nat) : extL p (List.replicate k 0) = allL p := by
  unfold extL
  rw [List.filter_eq_self]
  intro s _
  rw [decide_eq_true_eq]
  intro i hi
  rw [nth_zeros] at hi
  omega
theorem mem_ext {p : Puz} {xs s : List Int} : s ∈ extL p xs ↔ s ∈ allL p ∧ ExtG xs s := by
  unfold extL
  rw [List.mem_filter, decide_eq_true_eq]
theorem grd_one {n k v : Nat} (hk : k < n * n) (hv : v ≤ n) : GrdN ((List.replicate (n * n) (0 : Int)).set k (v : Int)) n := grd_zeros.set (by simpa using hk) hv
theorem ext_one {n k v : Nat} {s : List Int} (hk : k < n * n) (hv : 1 ≤ v) : ExtG ((List.replicate (n * n) (0 : Int)).set k (v : Int)) s ↔ nth s k = v := by
  constructor
  · intro h
    have := h k (by rw [nth_setN _ _ _ _ (by simpa using hk), if_pos rfl]; omega)
    rwa [nth_setN _ _ _ _ (by simpa using hk), if_pos rfl] at this
  · intro h i hi
    rw [nth_setN _ _ _ _ (by simpa using hk)] at hi ⊢
    split
    · rename_i hik; rw [hik]; exact h
    · rename_i hik; rw [if_neg hik, nth_zeros] at hi; omega
def okAt (p : Puz) (k v : Nat) : Bool := decide (∃ s ∈ allL p, nth s k = v)
theorem can_one {p : Puz} (hv : puzzleValid p = true) {k v : Nat} (hk : k < p.given.length) (h1 : 1 ≤ v) (h2 : v ≤ p.size.toNat) : canV p ((List.replicate p.given.length (0 : Int)).set k (v : Int)) = okAt p k v := by
  obtain ⟨hp, hg⟩ := puz_facts hv
  rw [hg.len] at hk ⊢
  rw [can_ext hv (grd_one hk h2), okAt, decide_eq_decide]
  constructor
  · intro h
    obtain ⟨s, hs⟩ := List.exists_mem_of_length_pos h
    rw [mem_ext, ext_one hk h1] at hs
    exact ⟨s, hs⟩
  · rintro ⟨s, h1', h2'⟩
    exact List.length_pos_of_mem (mem_ext.2 ⟨h1', (ext_one hk h1).2 h2'⟩)
theorem sol_val {p : Puz} (hv : puzzleValid p = true) {s : List Int} (hs : s ∈ allL p) {k : Nat} (hk : k < p.given.length) : 1 ≤ nth s k ∧ nth s k ≤ (p.size.toNat : Nat) := by
  obtain ⟨hp, hg⟩ := puz_facts hv
  rw [allL_mem hv] at hs
  rw [hg.len] at hk
  have h1 := hs.1.1.val k (by rw [hs.1.1.len]; exact hk)
  have h2 := hs.1.2 k hk
  omega
def waysN (p : Puz) (k v : Nat) : Nat := ((List.range v).filter fun i => okAt p k (i + 1)).length
theorem waysN_succ (p : Puz) (k v : Nat) : waysN p k (v + 1) = waysN p k v + if okAt p k (v + 1) = true then 1 else 0 := by
  unfold waysN
  rw [List.range_succ, List.filter_append, List.length_append]
  congr 1
  split <;> simp_all
theorem waysN_le (p : Puz) (k v : Nat) : waysN p k v ≤ v := by
  unfold waysN
  have := List.length_filter_le (fun i => okAt p k (i + 1)) (List.range v)
  rwa [List.length_range] at this
theorem forced_facts {p : Puz} (hv : puzzleValid p = true) {k : Nat} (hk : k < p.given.length) : forcedV p k = forcedL (allL p) k := by
  unfold forcedV
  rw [if_pos ⟨hv, by omega, by omega⟩, allS_all]
theorem forcedL_pos {L : List (List Int)} {c n : Int} (h : forcedL L c = n) (hn : 0 < n) : (∃ s, s ∈ L) ∧ ∀ s ∈ L, nth s c = n := by
  cases L with
  | nil => simp only [forcedL] at h; omega
  | cons g L =>
    rw [forcedL_cons] at h
    split at h
    · rename_i hall
      refine ⟨⟨g, by simp⟩, fun s hs => ?_⟩
      rcases List.mem_cons.1 hs with rfl | hs
      · exact h
      · rw [hall s hs]; exact h
    · omega
theorem ok_forced {p : Puz} (hv : puzzleValid p = true) {k : Nat} (hk : k < p.given.length) {n : Int} (h : forcedV p k = n) (hn : 0 < n) (v : Nat) : okAt p k v = decide ((v : Int) = n) := by
  rw [forced_facts hv hk] at h
  obtain ⟨⟨s, hs⟩, hall⟩ := forcedL_pos h hn
  unfold okAt
  rw [decide_eq_decide]
  constructor
  · rintro ⟨t, ht, he⟩
    rw [← he, hall t ht]
  · intro he
    exact ⟨s, hs, by rw [hall s hs, he]⟩
theorem ways_count {p : Puz} {k : Nat} {n : Int} (h : ∀ v : Nat, okAt p k v = decide ((v : Int) = n)) (hn : 0 < n) : ∀ v : Nat, waysN p k v = if n ≤ v then 1 else 0
  | 0 => by rw [if_neg (by omega)]; rfl
  | v + 1 => by
    rw [waysN_succ, ways_count h hn v, h (v + 1)]
    simp only [decide_eq_true_eq]
    split <;> split <;> split <;> omega
theorem ways_two {p : Puz} {k m a b : Nat} (ha : 1 ≤ a ∧ a ≤ m) (hb : 1 ≤ b ∧ b ≤ m) (hab : a ≠ b) (h1 : okAt p k a = true) (h2 : okAt p k b = true) : 2 ≤ waysN p k m := by
  unfold waysN
  have := nodup_le (a := [a - 1, b - 1]) (b := (List.range m).filter fun i => okAt p k (i + 1)) (by simp; omega) fun x hx => by
    simp only [List.mem_cons, List.not_mem_nil, or_false] at hx
    rw [List.mem_filter, List.mem_range]
    rcases hx with rfl | rfl
    · exact ⟨by omega, by rw [show a - 1 + 1 = a by omega]; exact h1⟩
    · exact ⟨by omega, by rw [show b - 1 + 1 = b by omega]; exact h2⟩
  simpa using this
theorem ways_zero {p : Puz} (hv : puzzleValid p = true) {k : Nat} (hk : k < p.given.length) (h : forcedV p k = 0) : waysN p k p.size.toNat ≠ 1 := by
  rw [forced_facts hv hk] at h
  cases hL : allL p with
  | nil =>
    have : ∀ v, waysN p k v = 0 := fun v => by
      unfold waysN
      rw [List.filter_eq_nil_iff.2 fun i _ => by unfold okAt; rw [hL]; simp]
      rfl
    rw [this]
    omega
  | cons g L =>
    rw [hL, forcedL_cons] at h
    have hgm : g ∈ allL p := by rw [hL]; simp
    have hgv := sol_val hv hgm hk
    split at h
    · omega
    · rename_i hall
      simp only [Classical.not_forall] at hall
      obtain ⟨s, hs, hne⟩ := hall
      have hsm : s ∈ allL p := by rw [hL]; simp [hs]
      have hsv := sol_val hv hsm hk
      have := ways_two (p := p) (k := k) (m := p.size.toNat) (a := (nth g k).toNat) (b := (nth s k).toNat) (by omega) (by omega) (by omega) (by unfold okAt; rw [decide_eq_true_eq]; exact ⟨g, hgm, by omega⟩) (by unfold okAt; rw [decide_eq_true_eq]; exact ⟨s, hsm, by omega⟩)
      omega
theorem forced_neg {p : Puz} {c : Int} (h : forcedV p c < 0) : forcedV p c = -1 := by
  unfold forcedV at h ⊢
  split at h
  · rename_i hv
    exfalso
    cases hL : allS p 600 with
    | nil => rw [hL] at h; simp [forcedL] at h
    | cons g L =>
      rw [hL, forcedL_cons] at h
      split at h
      · have := allS_full (p := p) (most := 600) g (by rw [hL]; simp)
        obtain ⟨k, rfl⟩ : ∃ k : Nat, c = k := ⟨c.toNat, by omega⟩
        have := this.2 k (by omega)
        omega
      · omega
  · rename_i hv
    rw [if_neg hv]
theorem forced_nn {p : Puz} {c : Int} (h : ¬ forcedV p c < 0) : puzzleValid p = true ∧ 0 ≤ c ∧ c < p.given.length := by
  unfold forcedV at h
  split at h
  · rename_i hv; exact hv
  · omega
theorem law_FnForcedValue (code : List Int) (hl : code.length ≤ 9223372036854775807) (hw : ∀ x ∈ code, (Lit.int .u8 x).wf = true) : Reads Try.prog 12 [rsl (eI .u8) code] (bool true) := by
  refine RunCall.cw (c := _) Try.func12 rfl (n := 76) Try.ntmps12 (rs := [.tmp 2]) rfl ?_
  simp only [List.length_cons, List.length_nil, Nat.reduceAdd, Nat.reduceSub, List.replicate, List.cons_append, List.nil_append]
  simp (maxSteps := 1000000) (disch := omega) only [go_sem, Nat.reduceAdd, Nat.reduceMul, Nat.reduceSub, Nat.reduceEqDiff, Nat.reduceLeDiff]
  (first | with_reducible refine condK_dec (fun h1 => ?_) (fun h1 => ?_) | with_reducible refine condK_ndec (fun h1 => ?_) (fun h1 => ?_) | with_reducible refine condK_nb (fun h1 => ?_) (fun h1 => ?_) | refine condK_b (fun h1 => ?_) (fun h1 => ?_))
  · simp (maxSteps := 1000000) (disch := omega) only [go_sem, Nat.reduceAdd, Nat.reduceMul, Nat.reduceSub, Nat.reduceEqDiff, Nat.reduceLeDiff]
  simp (maxSteps := 1000000) (disch := omega) only [go_sem, Nat.reduceAdd, Nat.reduceMul, Nat.reduceSub, Nat.reduceEqDiff, Nat.reduceLeDiff]
  refine OpS.mkF (DrawForcedValue_run code (wf_u8' hw) (by omega)) (⟨_, Try.func50, rfl, rfl⟩ : Enters Try.prog 50) rfl rfl rfl ?_
  rintro _ ⟨p, c, rfl, hp, hc1, hc2⟩
  refine ⟨rfl, rfl, ?_⟩
  have hs := hp.sm
  simp (maxSteps := 1000000) (disch := omega) only [go_sem, Nat.reduceAdd, Nat.reduceMul, Nat.reduceSub, Nat.reduceEqDiff, Nat.reduceLeDiff]
  intro g
  first | refine OpS.rd (ForcedValue_run p c hs) (⟨_, Try.func32, rfl, rfl⟩ : Enters Try.prog 32) rfl rfl rfl rfl ?_ | refine Loud.rd (ForcedValue_run p c hs) (⟨_, Try.func32, rfl, rfl⟩ : Enters Try.prog 32) rfl rfl rfl rfl ?_
  simp (maxSteps := 1000000) (disch := omega) only [go_sem, Nat.reduceAdd, Nat.reduceMul, Nat.reduceSub, Nat.reduceEqDiff, Nat.reduceLeDiff]
  first | refine OpS.rd (sForcedValue_run p c hs) (⟨_, Try.func30, rfl, rfl⟩ : Enters Try.prog 30) rfl rfl rfl rfl ?_ | refine Loud.rd (sForcedValue_run p c hs) (⟨_, Try.func30, rfl, rfl⟩ : Enters Try.prog 30) rfl rfl rfl rfl ?_
  simp (maxSteps := 1000000) (disch := omega) only [go_sem, Nat.reduceAdd, Nat.reduceMul, Nat.reduceSub, Nat.reduceEqDiff, Nat.reduceLeDiff]
  (first | with_reducible refine condK_dec (fun h2 => ?_) (fun h2 => ?_) | with_reducible refine condK_ndec (fun h2 => ?_) (fun h2 => ?_) | with_reducible refine condK_nb (fun h2 => ?_) (fun h2 => ?_) | refine condK_b (fun h2 => ?_) (fun h2 => ?_))
  · have e := forced_neg h2
    rw [e]
    simp (maxSteps := 1000000) (disch := omega) only [go_sem, Nat.reduceAdd, Nat.reduceMul, Nat.reduceSub, Nat.reduceEqDiff, Nat.reduceLeDiff]
    first | refine OpS.rd (aliveF_run) (⟨_, Try.func20, rfl, rfl⟩ : Enters Try.prog 20) rfl rfl rfl rfl ?_ | refine Loud.rd (aliveF_run) (⟨_, Try.func20, rfl, rfl⟩ : Enters Try.prog 20) rfl rfl rfl rfl ?_
    simp (maxSteps := 1000000) (disch := omega) only [go_sem, Nat.reduceAdd, Nat.reduceMul, Nat.reduceSub, Nat.reduceEqDiff, Nat.reduceLeDiff]
  obtain ⟨hv, hk1, hk2⟩ := forced_nn h2
  obtain ⟨k, rfl⟩ : ∃ k : Nat, c = k := ⟨c.toNat, by omega⟩
  have hk : k < p.given.length := by omega
  have hz : ((p.size.toNat : Nat) : Int) = p.size := (PuzN.of hv).2
  have hn4 : p.size.toNat ≤ 4 := by have := (PuzN.of hv).1.hn; omega
  have hgl := hp.1
  have hwl := waysN_le p k
  obtain ⟨n, hn⟩ : ∃ n, n = forcedV p k := ⟨_, rfl⟩
  rw [← hn]
  rw [← hn] at h2
  simp (maxSteps := 1000000) (disch := omega) only [go_sem, Nat.reduceAdd, Nat.reduceMul, Nat.reduceSub, Nat.reduceEqDiff, Nat.reduceLeDiff]
  refine loop_rule (fun v : Nat => p.size.toNat - v) (fun v => v ≤ p.size.toNat) (fun v => [.a, .a, .a, .k, .k, .k, .p (int (waysN p k v)), .p (int (v + 1)), .a, .a, .a, .a, .a, .a, .a, .a, .a, .a, .a, .a, .a, .a, .a, .a, .a, .a, .a, .a, .a, .a, .a, .a, .a, .a, .a, .a, .a, .a, .a, .a, .a, .a, .a, .a, .a, .a, .a, .a, .a, .a, .a, .a, .a, .a, .a, .a, .a, .a, .a, .a, .a, .a, .a, .a, .a, .a, .a, .a, .a, .a, .a, .a, .a, .a, .a, .a]) (fun _ => [some ⟨g, 3, cP p⟩]) 0 (Nat.zero_le _) (by simp (maxSteps := 1000000) (disch := omega) only [go_sem, Nat.reduceAdd, Nat.reduceMul, Nat.reduceSub, Nat.reduceEqDiff, Nat.reduceLeDiff]; exact ⟨rfl, rfl⟩) (HLe.refl _) ?_
  intro v hv'
  have hwv := hwl v
  have hsc := waysN_succ p k v
  simp (maxSteps := 1000000) (disch := omega) only [go_sem, Nat.reduceAdd, Nat.reduceMul, Nat.reduceSub, Nat.reduceEqDiff, Nat.reduceLeDiff]
  (first | with_reducible refine condK_dec (fun h3 => ?_) (fun h3 => ?_) | with_reducible refine condK_ndec (fun h3 => ?_) (fun h3 => ?_) | with_reducible refine condK_nb (fun h3 => ?_) (fun h3 => ?_) | refine condK_b (fun h3 => ?_) (fun h3 => ?_))
  · have h3 : v < p.size.toNat := by omega
    have hcan := can_one hv hk (v := v + 1) (by omega) (by omega)
    simp (maxSteps := 1000000) (disch := omega) only [go_sem, Nat.reduceAdd, Nat.reduceMul, Nat.reduceSub, Nat.reduceEqDiff, Nat.reduceLeDiff]
    intro g2
    have hown : OwnI [some ⟨g, 3, cP p⟩, some ⟨g2, 1, cl (eI .i64) ((List.replicate p.given.length 0).set k ((v : Int) + 1))⟩] (.own 1 g2 0 p.given.length none) ((List.replicate p.given.length 0).set k ((v : Int) + 1)) [1] := by
      have := OwnI.o (H := [some ⟨g, 3, cP p⟩, some ⟨g2, 1, cl (eI .i64) ((List.replicate p.given.length 0).set k ((v : Int) + 1))⟩]) 1 g2 none ((List.replicate p.given.length 0).set k ((v : Int) + 1)) [] (by rw [List.append_nil]; simp only [go_sem])
      simpa using this
    have setR : setRange (cl (eI .i64) (List.replicate p.given.length (0 : Int))) (0 + ((k : Int)).toNat * 1) [.f (.int .i64 ((v : Int) + 1))] = cl (eI .i64) ((List.replicate p.given.length 0).set k ((v : Int) + 1)) := by
      rw [Int.toNat_natCast]
      exact setRange_cl (E := eI .i64) (n := 1) (by simpa using hk)
    rw [setR]
    refine OpS.rdD (CanFinish_run p _ hs (by simp; omega)) (⟨_, Try.func39, rfl, rfl⟩ : Enters Try.prog 39) rfl rfl (snap_two rfl hown.snap) rfl ?_
    push_cast at hcan
    rw [hcan]
    have hfo : 0 < n → okAt p k (v + 1) = decide ((v : Int) + 1 = n) := fun h0 => by
      have := ok_forced hv hk hn.symm h0 (v + 1)
      push_cast at this
      exact this
    generalize okAt p k (v + 1) = b at hsc hfo
    simp (maxSteps := 1000000) (disch := omega) only [go_sem, Nat.reduceAdd, Nat.reduceMul, Nat.reduceSub, Nat.reduceEqDiff, Nat.reduceLeDiff]
    (first | with_reducible refine condK_dec (fun h5 => ?_) (fun h5 => ?_) | with_reducible refine condK_ndec (fun h5 => ?_) (fun h5 => ?_) | with_reducible refine condK_nb (fun h5 => ?_) (fun h5 => ?_) | refine condK_b (fun h5 => ?_) (fun h5 => ?_))
    · subst h5
      rw [if_pos rfl] at hsc
      simp (maxSteps := 1000000) (disch := omega) only [go_sem, Nat.reduceAdd, Nat.reduceMul, Nat.reduceSub, Nat.reduceEqDiff, Nat.reduceLeDiff]
      (first | with_reducible refine guardK_dec (fun h6 => ?_) (fun h6 => ?_) <;> simp (maxSteps := 1000000) (disch := omega) only [go_sem, Nat.reduceAdd, Nat.reduceMul, Nat.reduceSub, Nat.reduceEqDiff, Nat.reduceLeDiff, h6] | with_reducible refine guardK_ndec (fun h6 => ?_) (fun h6 => ?_) <;> simp (maxSteps := 1000000) (disch := omega) only [go_sem, Nat.reduceAdd, Nat.reduceMul, Nat.reduceSub, Nat.reduceEqDiff, Nat.reduceLeDiff, h6] | with_reducible refine guardK_nb (fun h6 => ?_) (fun h6 => ?_) <;> simp (maxSteps := 1000000) (disch := omega) only [go_sem, Nat.reduceAdd, Nat.reduceMul, Nat.reduceSub, Nat.reduceEqDiff, Nat.reduceLeDiff, h6] | with_reducible refine guardK_split (fun h6 => ?_) (fun h6 => ?_) <;> simp (maxSteps := 1000000) (disch := omega) only [go_sem, Nat.reduceAdd, Nat.reduceMul, Nat.reduceSub, Nat.reduceEqDiff, Nat.reduceLeDiff, h6] | with_reducible refine guardQ_dec (fun h6 => ?_) (fun h6 => ?_) <;> simp (maxSteps := 1000000) (disch := omega) only [go_sem, Nat.reduceAdd, Nat.reduceMul, Nat.reduceSub, Nat.reduceEqDiff, Nat.reduceLeDiff, h6] | with_reducible refine guardL_dec (fun h6 => ?_) (fun h6 => ?_) <;> simp (maxSteps := 1000000) (disch := omega) only [go_sem, Nat.reduceAdd, Nat.reduceMul, Nat.reduceSub, Nat.reduceEqDiff, Nat.reduceLeDiff, h6] | with_reducible refine guardQ_ndec (fun h6 => ?_) (fun h6 => ?_) <;> simp (maxSteps := 1000000) (disch := omega) only [go_sem, Nat.reduceAdd, Nat.reduceMul, Nat.reduceSub, Nat.reduceEqDiff, Nat.reduceLeDiff, h6] | with_reducible refine guardL_ndec (fun h6 => ?_) (fun h6 => ?_) <;> simp (maxSteps := 1000000) (disch := omega) only [go_sem, Nat.reduceAdd, Nat.reduceMul, Nat.reduceSub, Nat.reduceEqDiff, Nat.reduceLeDiff, h6] | with_reducible refine guardQ_nb (fun h6 => ?_) (fun h6 => ?_) <;> simp (maxSteps := 1000000) (disch := omega) only [go_sem, Nat.reduceAdd, Nat.reduceMul, Nat.reduceSub, Nat.reduceEqDiff, Nat.reduceLeDiff, h6] | with_reducible refine guardL_nb (fun h6 => ?_) (fun h6 => ?_) <;> simp (maxSteps := 1000000) (disch := omega) only [go_sem, Nat.reduceAdd, Nat.reduceMul, Nat.reduceSub, Nat.reduceEqDiff, Nat.reduceLeDiff, h6] | with_reducible refine guardQ_split (fun h6 => ?_) (fun h6 => ?_) <;> simp (maxSteps := 1000000) (disch := omega) only [go_sem, Nat.reduceAdd, Nat.reduceMul, Nat.reduceSub, Nat.reduceEqDiff, Nat.reduceLeDiff, h6] | with_reducible refine guardL_split (fun h6 => ?_) (fun h6 => ?_) <;> simp (maxSteps := 1000000) (disch := omega) only [go_sem, Nat.reduceAdd, Nat.reduceMul, Nat.reduceSub, Nat.reduceEqDiff, Nat.reduceLeDiff, h6])
      · have h7 := hfo h6
        simp (maxSteps := 1000000) (disch := omega) only [go_sem, Nat.reduceAdd, Nat.reduceMul, Nat.reduceSub, Nat.reduceEqDiff, Nat.reduceLeDiff, ← h7]
        exact ⟨v + 1, by omega, ⟨by omega, by omega⟩, HLe.app _ _⟩
      · exact ⟨v + 1, by omega, ⟨by omega, by omega⟩, HLe.app _ _⟩
    · subst h5
      simp (maxSteps := 1000000) (disch := omega) only [go_sem, Nat.reduceAdd, Nat.reduceMul, Nat.reduceSub, Nat.reduceEqDiff, Nat.reduceLeDiff]
      (first | with_reducible refine guardK_dec (fun h6 => ?_) (fun h6 => ?_) <;> simp (maxSteps := 1000000) (disch := omega) only [go_sem, Nat.reduceAdd, Nat.reduceMul, Nat.reduceSub, Nat.reduceEqDiff, Nat.reduceLeDiff, h6] | with_reducible refine guardK_ndec (fun h6 => ?_) (fun h6 => ?_) <;> simp (maxSteps := 1000000) (disch := omega) only [go_sem, Nat.reduceAdd, Nat.reduceMul, Nat.reduceSub, Nat.reduceEqDiff, Nat.reduceLeDiff, h6] | with_reducible refine guardK_nb (fun h6 => ?_) (fun h6 => ?_) <;> simp (maxSteps := 1000000) (disch := omega) only [go_sem, Nat.reduceAdd, Nat.reduceMul, Nat.reduceSub, Nat.reduceEqDiff, Nat.reduceLeDiff, h6] | with_reducible refine guardK_split (fun h6 => ?_) (fun h6 => ?_) <;> simp (maxSteps := 1000000) (disch := omega) only [go_sem, Nat.reduceAdd, Nat.reduceMul, Nat.reduceSub, Nat.reduceEqDiff, Nat.reduceLeDiff, h6] | with_reducible refine guardQ_dec (fun h6 => ?_) (fun h6 => ?_) <;> simp (maxSteps := 1000000) (disch := omega) only [go_sem, Nat.reduceAdd, Nat.reduceMul, Nat.reduceSub, Nat.reduceEqDiff, Nat.reduceLeDiff, h6] | with_reducible refine guardL_dec (fun h6 => ?_) (fun h6 => ?_) <;> simp (maxSteps := 1000000) (disch := omega) only [go_sem, Nat.reduceAdd, Nat.reduceMul, Nat.reduceSub, Nat.reduceEqDiff, Nat.reduceLeDiff, h6] | with_reducible refine guardQ_ndec (fun h6 => ?_) (fun h6 => ?_) <;> simp (maxSteps := 1000000) (disch := omega) only [go_sem, Nat.reduceAdd, Nat.reduceMul, Nat.reduceSub, Nat.reduceEqDiff, Nat.reduceLeDiff, h6] | with_reducible refine guardL_ndec (fun h6 => ?_) (fun h6 => ?_) <;> simp (maxSteps := 1000000) (disch := omega) only [go_sem, Nat.reduceAdd, Nat.reduceMul, Nat.reduceSub, Nat.reduceEqDiff, Nat.reduceLeDiff, h6] | with_reducible refine guardQ_nb (fun h6 => ?_) (fun h6 => ?_) <;> simp (maxSteps := 1000000) (disch := omega) only [go_sem, Nat.reduceAdd, Nat.reduceMul, Nat.reduceSub, Nat.reduceEqDiff, Nat.reduceLeDiff, h6] | with_reducible refine guardL_nb (fun h6 => ?_) (fun h6 => ?_) <;> simp (maxSteps := 1000000) (disch := omega) only [go_sem, Nat.reduceAdd, Nat.reduceMul, Nat.reduceSub, Nat.reduceEqDiff, Nat.reduceLeDiff, h6] | with_reducible refine guardQ_split (fun h6 => ?_) (fun h6 => ?_) <;> simp (maxSteps := 1000000) (disch := omega) only [go_sem, Nat.reduceAdd, Nat.reduceMul, Nat.reduceSub, Nat.reduceEqDiff, Nat.reduceLeDiff, h6] | with_reducible refine guardL_split (fun h6 => ?_) (fun h6 => ?_) <;> simp (maxSteps := 1000000) (disch := omega) only [go_sem, Nat.reduceAdd, Nat.reduceMul, Nat.reduceSub, Nat.reduceEqDiff, Nat.reduceLeDiff, h6])
      · have h7 := hfo h6
        simp (maxSteps := 1000000) (disch := omega) only [go_sem, Nat.reduceAdd, Nat.reduceMul, Nat.reduceSub, Nat.reduceEqDiff, Nat.reduceLeDiff, ← h7]
        exact ⟨v + 1, by omega, ⟨by rw [hsc]; simp, by omega⟩, HLe.app _ _⟩
      · exact ⟨v + 1, by omega, ⟨by rw [hsc]; simp, by omega⟩, HLe.app _ _⟩
  · have hve : v = p.size.toNat := by omega
    simp (maxSteps := 1000000) (disch := omega) only [go_sem, Nat.reduceAdd, Nat.reduceMul, Nat.reduceSub, Nat.reduceEqDiff, Nat.reduceLeDiff]
    have hwc : 0 < n → waysN p k v = if n ≤ v then 1 else 0 := fun h0 => ways_count (ok_forced hv hk hn.symm h0) h0 v
    have hfn : 0 < n → n ≤ v := fun h0 => by
      rw [forced_facts hv hk] at hn
      obtain ⟨⟨s, hsm⟩, hall⟩ := forcedL_pos hn.symm h0
      have := sol_val hv hsm hk
      rw [hall s hsm] at this
      omega
    have hw0 : n = 0 → waysN p k v ≠ 1 := fun h0 => by rw [hve]; exact ways_zero hv hk (by rw [← hn, h0])
    generalize waysN p k v = W at hwc hw0 ⊢
    (first | with_reducible refine guardK_dec (fun h4 => ?_) (fun h4 => ?_) <;> simp (maxSteps := 1000000) (disch := omega) only [go_sem, Nat.reduceAdd, Nat.reduceMul, Nat.reduceSub, Nat.reduceEqDiff, Nat.reduceLeDiff, h4] | with_reducible refine guardK_ndec (fun h4 => ?_) (fun h4 => ?_) <;> simp (maxSteps := 1000000) (disch := omega) only [go_sem, Nat.reduceAdd, Nat.reduceMul, Nat.reduceSub, Nat.reduceEqDiff, Nat.reduceLeDiff, h4] | with_reducible refine guardK_nb (fun h4 => ?_) (fun h4 => ?_) <;> simp (maxSteps := 1000000) (disch := omega) only [go_sem, Nat.reduceAdd, Nat.reduceMul, Nat.reduceSub, Nat.reduceEqDiff, Nat.reduceLeDiff, h4] | with_reducible refine guardK_split (fun h4 => ?_) (fun h4 => ?_) <;> simp (maxSteps := 1000000) (disch := omega) only [go_sem, Nat.reduceAdd, Nat.reduceMul, Nat.reduceSub, Nat.reduceEqDiff, Nat.reduceLeDiff, h4] | with_reducible refine guardQ_dec (fun h4 => ?_) (fun h4 => ?_) <;> simp (maxSteps := 1000000) (disch := omega) only [go_sem, Nat.reduceAdd, Nat.reduceMul, Nat.reduceSub, Nat.reduceEqDiff, Nat.reduceLeDiff, h4] | with_reducible refine guardL_dec (fun h4 => ?_) (fun h4 => ?_) <;> simp (maxSteps := 1000000) (disch := omega) only [go_sem, Nat.reduceAdd, Nat.reduceMul, Nat.reduceSub, Nat.reduceEqDiff, Nat.reduceLeDiff, h4] | with_reducible refine guardQ_ndec (fun h4 => ?_) (fun h4 => ?_) <;> simp (maxSteps := 1000000) (disch := omega) only [go_sem, Nat.reduceAdd, Nat.reduceMul, Nat.reduceSub, Nat.reduceEqDiff, Nat.reduceLeDiff, h4] | with_reducible refine guardL_ndec (fun h4 => ?_) (fun h4 => ?_) <;> simp (maxSteps := 1000000) (disch := omega) only [go_sem, Nat.reduceAdd, Nat.reduceMul, Nat.reduceSub, Nat.reduceEqDiff, Nat.reduceLeDiff, h4] | with_reducible refine guardQ_nb (fun h4 => ?_) (fun h4 => ?_) <;> simp (maxSteps := 1000000) (disch := omega) only [go_sem, Nat.reduceAdd, Nat.reduceMul, Nat.reduceSub, Nat.reduceEqDiff, Nat.reduceLeDiff, h4] | with_reducible refine guardL_nb (fun h4 => ?_) (fun h4 => ?_) <;> simp (maxSteps := 1000000) (disch := omega) only [go_sem, Nat.reduceAdd, Nat.reduceMul, Nat.reduceSub, Nat.reduceEqDiff, Nat.reduceLeDiff, h4] | with_reducible refine guardQ_split (fun h4 => ?_) (fun h4 => ?_) <;> simp (maxSteps := 1000000) (disch := omega) only [go_sem, Nat.reduceAdd, Nat.reduceMul, Nat.reduceSub, Nat.reduceEqDiff, Nat.reduceLeDiff, h4] | with_reducible refine guardL_split (fun h4 => ?_) (fun h4 => ?_) <;> simp (maxSteps := 1000000) (disch := omega) only [go_sem, Nat.reduceAdd, Nat.reduceMul, Nat.reduceSub, Nat.reduceEqDiff, Nat.reduceLeDiff, h4])
    · have := hw0 h4
      have hd : decide ((W : Int) = 1) = false := decide_eq_false (by omega)
      simp (maxSteps := 1000000) (disch := omega) only [go_sem, Nat.reduceAdd, Nat.reduceMul, Nat.reduceSub, Nat.reduceEqDiff, Nat.reduceLeDiff, hd, h4]
    · have h5 := hwc (by omega)
      rw [if_pos (hfn (by omega))] at h5
      simp (maxSteps := 1000000) (disch := omega) only [go_sem, Nat.reduceAdd, Nat.reduceMul, Nat.reduceSub, Nat.reduceEqDiff, Nat.reduceLeDiff, h5, show 0 < n by omega]
      rfl
theorem can_fits {p : Puz} (hv : puzzleValid p = true) {xs : List Int} (hx : GrdN xs p.size.toNat) (h : canV p xs = true) : fitsL p xs p.size.toNat = true := by
  rw [can_ext hv hx, decide_eq_true_eq] at h
  obtain ⟨s, hs⟩ := List.exists_mem_of_length_pos h
  rw [mem_ext, allL_mem hv] at hs
  exact fits_mono (puz_facts hv).1 hx hs.1.1.1 hs.2 hs.1.2.2
theorem allS_one (p : Puz) : decide (0 < (allS p 1).length) = decide (0 < (allL p).length) := by
  rw [allS_take, List.length_take, decide_eq_decide]
  omega
theorem can_zeros {p : Puz} (hv : puzzleValid p = true) {k : Nat} (hk : k = p.given.length) : canV p (List.replicate k 0) = decide (0 < (allS p 1).length) := by
  obtain ⟨hp, hg⟩ := puz_facts hv
  rw [can_ext hv (by rw [hk, hg.len]; exact grd_zeros), ext_zero, allS_one]
theorem can_no {p : Puz} {xs : List Int} (h : ¬ (puzzleValid p = true ∧ gridValid xs p.size = true)) : canV p xs = false := by
  unfold canV
  rw [if_neg h]
theorem law_FnCanFinish (code : List Int) (hl : code.length ≤ 9223372036854775807) (hw : ∀ x ∈ code, (Lit.int .u8 x).wf = true) : Reads Try.prog 13 [rsl (eI .u8) code] (bool true) := by
  refine RunCall.cw (c := _) Try.func13 rfl (n := 68) Try.ntmps13 (rs := [.tmp 2]) rfl ?_
  simp only [List.length_cons, List.length_nil, Nat.reduceAdd, Nat.reduceSub, List.replicate, List.cons_append, List.nil_append]
  simp (maxSteps := 1000000) (disch := omega) only [go_sem, Nat.reduceAdd, Nat.reduceMul, Nat.reduceSub, Nat.reduceEqDiff, Nat.reduceLeDiff]
  (first | with_reducible refine condK_dec (fun h1 => ?_) (fun h1 => ?_) | with_reducible refine condK_ndec (fun h1 => ?_) (fun h1 => ?_) | with_reducible refine condK_nb (fun h1 => ?_) (fun h1 => ?_) | refine condK_b (fun h1 => ?_) (fun h1 => ?_))
  · simp (maxSteps := 1000000) (disch := omega) only [go_sem, Nat.reduceAdd, Nat.reduceMul, Nat.reduceSub, Nat.reduceEqDiff, Nat.reduceLeDiff]
  simp (maxSteps := 1000000) (disch := omega) only [go_sem, Nat.reduceAdd, Nat.reduceMul, Nat.reduceSub, Nat.reduceEqDiff, Nat.reduceLeDiff]
  refine OpS.mkF (DrawCanFinish_run code (wf_u8' hw) (by omega)) (⟨_, Try.func51, rfl, rfl⟩ : Enters Try.prog 51) rfl rfl rfl ?_
  rintro _ ⟨p, zs, rfl, hp, hz⟩
  refine ⟨rfl, rfl, ?_⟩
  have hs := hp.sm
  have hgl := hp.1
  simp (maxSteps := 1000000) (disch := omega) only [go_sem, Nat.reduceAdd, Nat.reduceMul, Nat.reduceSub, Nat.reduceEqDiff, Nat.reduceLeDiff]
  intro g
  first | refine OpS.rd (CanFinish_run p zs hs (by omega)) (⟨_, Try.func39, rfl, rfl⟩ : Enters Try.prog 39) rfl rfl rfl rfl ?_ | refine Loud.rd (CanFinish_run p zs hs (by omega)) (⟨_, Try.func39, rfl, rfl⟩ : Enters Try.prog 39) rfl rfl rfl rfl ?_
  simp (maxSteps := 1000000) (disch := omega) only [go_sem, Nat.reduceAdd, Nat.reduceMul, Nat.reduceSub, Nat.reduceEqDiff, Nat.reduceLeDiff]
  first | refine OpS.rd (sCanFinish_run p zs hs (by omega)) (⟨_, Try.func38, rfl, rfl⟩ : Enters Try.prog 38) rfl rfl rfl rfl ?_ | refine Loud.rd (sCanFinish_run p zs hs (by omega)) (⟨_, Try.func38, rfl, rfl⟩ : Enters Try.prog 38) rfl rfl rfl rfl ?_
  simp (maxSteps := 1000000) (disch := omega) only [go_sem, Nat.reduceAdd, Nat.reduceMul, Nat.reduceSub, Nat.reduceEqDiff, Nat.reduceLeDiff]
  first | refine OpS.rd (sPuzzleValid_run p hs) (⟨_, Try.func52, rfl, rfl⟩ : Enters Try.prog 52) rfl rfl rfl rfl ?_ | refine Loud.rd (sPuzzleValid_run p hs) (⟨_, Try.func52, rfl, rfl⟩ : Enters Try.prog 52) rfl rfl rfl rfl ?_
  simp (maxSteps := 1000000) (disch := omega) only [go_sem, Nat.reduceAdd, Nat.reduceMul, Nat.reduceSub, Nat.reduceEqDiff, Nat.reduceLeDiff]
  (first | with_reducible refine guardK_dec (fun h2 => ?_) (fun h2 => ?_) <;> simp (maxSteps := 1000000) (disch := omega) only [go_sem, Nat.reduceAdd, Nat.reduceMul, Nat.reduceSub, Nat.reduceEqDiff, Nat.reduceLeDiff, h2] | with_reducible refine guardK_ndec (fun h2 => ?_) (fun h2 => ?_) <;> simp (maxSteps := 1000000) (disch := omega) only [go_sem, Nat.reduceAdd, Nat.reduceMul, Nat.reduceSub, Nat.reduceEqDiff, Nat.reduceLeDiff, h2] | with_reducible refine guardK_nb (fun h2 => ?_) (fun h2 => ?_) <;> simp (maxSteps := 1000000) (disch := omega) only [go_sem, Nat.reduceAdd, Nat.reduceMul, Nat.reduceSub, Nat.reduceEqDiff, Nat.reduceLeDiff, h2] | with_reducible refine guardK_split (fun h2 => ?_) (fun h2 => ?_) <;> simp (maxSteps := 1000000) (disch := omega) only [go_sem, Nat.reduceAdd, Nat.reduceMul, Nat.reduceSub, Nat.reduceEqDiff, Nat.reduceLeDiff, h2] | with_reducible refine guardQ_dec (fun h2 => ?_) (fun h2 => ?_) <;> simp (maxSteps := 1000000) (disch := omega) only [go_sem, Nat.reduceAdd, Nat.reduceMul, Nat.reduceSub, Nat.reduceEqDiff, Nat.reduceLeDiff, h2] | with_reducible refine guardL_dec (fun h2 => ?_) (fun h2 => ?_) <;> simp (maxSteps := 1000000) (disch := omega) only [go_sem, Nat.reduceAdd, Nat.reduceMul, Nat.reduceSub, Nat.reduceEqDiff, Nat.reduceLeDiff, h2] | with_reducible refine guardQ_ndec (fun h2 => ?_) (fun h2 => ?_) <;> simp (maxSteps := 1000000) (disch := omega) only [go_sem, Nat.reduceAdd, Nat.reduceMul, Nat.reduceSub, Nat.reduceEqDiff, Nat.reduceLeDiff, h2] | with_reducible refine guardL_ndec (fun h2 => ?_) (fun h2 => ?_) <;> simp (maxSteps := 1000000) (disch := omega) only [go_sem, Nat.reduceAdd, Nat.reduceMul, Nat.reduceSub, Nat.reduceEqDiff, Nat.reduceLeDiff, h2] | with_reducible refine guardQ_nb (fun h2 => ?_) (fun h2 => ?_) <;> simp (maxSteps := 1000000) (disch := omega) only [go_sem, Nat.reduceAdd, Nat.reduceMul, Nat.reduceSub, Nat.reduceEqDiff, Nat.reduceLeDiff, h2] | with_reducible refine guardL_nb (fun h2 => ?_) (fun h2 => ?_) <;> simp (maxSteps := 1000000) (disch := omega) only [go_sem, Nat.reduceAdd, Nat.reduceMul, Nat.reduceSub, Nat.reduceEqDiff, Nat.reduceLeDiff, h2] | with_reducible refine guardQ_split (fun h2 => ?_) (fun h2 => ?_) <;> simp (maxSteps := 1000000) (disch := omega) only [go_sem, Nat.reduceAdd, Nat.reduceMul, Nat.reduceSub, Nat.reduceEqDiff, Nat.reduceLeDiff, h2] | with_reducible refine guardL_split (fun h2 => ?_) (fun h2 => ?_) <;> simp (maxSteps := 1000000) (disch := omega) only [go_sem, Nat.reduceAdd, Nat.reduceMul, Nat.reduceSub, Nat.reduceEqDiff, Nat.reduceLeDiff, h2])
  rotate_left
  · have e := can_no (p := p) (xs := zs) (by rw [h2]; simp)
    simp (maxSteps := 1000000) (disch := omega) only [go_sem, Nat.reduceAdd, Nat.reduceMul, Nat.reduceSub, Nat.reduceEqDiff, Nat.reduceLeDiff, e]
    first | refine OpS.rd (aliveF_run) (⟨_, Try.func20, rfl, rfl⟩ : Enters Try.prog 20) rfl rfl rfl rfl ?_ | refine Loud.rd (aliveF_run) (⟨_, Try.func20, rfl, rfl⟩ : Enters Try.prog 20) rfl rfl rfl rfl ?_
    simp (maxSteps := 1000000) (disch := omega) only [go_sem, Nat.reduceAdd, Nat.reduceMul, Nat.reduceSub, Nat.reduceEqDiff, Nat.reduceLeDiff]
  first | refine OpS.rd (sGridValid_run zs p.size (by omega)) (⟨_, Try.func53, rfl, rfl⟩ : Enters Try.prog 53) rfl rfl rfl rfl ?_ | refine Loud.rd (sGridValid_run zs p.size (by omega)) (⟨_, Try.func53, rfl, rfl⟩ : Enters Try.prog 53) rfl rfl rfl rfl ?_
  simp (maxSteps := 1000000) (disch := omega) only [go_sem, Nat.reduceAdd, Nat.reduceMul, Nat.reduceSub, Nat.reduceEqDiff, Nat.reduceLeDiff]
  (first | with_reducible refine condK_dec (fun h3 => ?_) (fun h3 => ?_) | with_reducible refine condK_ndec (fun h3 => ?_) (fun h3 => ?_) | with_reducible refine condK_nb (fun h3 => ?_) (fun h3 => ?_) | refine condK_b (fun h3 => ?_) (fun h3 => ?_))
  rotate_left
  · have e := can_no (p := p) (xs := zs) (by rw [h3]; simp)
    simp (maxSteps := 1000000) (disch := omega) only [go_sem, Nat.reduceAdd, Nat.reduceMul, Nat.reduceSub, Nat.reduceEqDiff, Nat.reduceLeDiff, e]
    first | refine OpS.rd (aliveF_run) (⟨_, Try.func20, rfl, rfl⟩ : Enters Try.prog 20) rfl rfl rfl rfl ?_ | refine Loud.rd (aliveF_run) (⟨_, Try.func20, rfl, rfl⟩ : Enters Try.prog 20) rfl rfl rfl rfl ?_
    simp (maxSteps := 1000000) (disch := omega) only [go_sem, Nat.reduceAdd, Nat.reduceMul, Nat.reduceSub, Nat.reduceEqDiff, Nat.reduceLeDiff]
  have hgf := grd_facts h2 h3
  simp (maxSteps := 1000000) (disch := omega) only [go_sem, Nat.reduceAdd, Nat.reduceMul, Nat.reduceSub, Nat.reduceEqDiff, Nat.reduceLeDiff]
  first | refine OpS.mk (SolveFirst_run p hs) (⟨_, Try.func54, rfl, rfl⟩ : Enters Try.prog 54) rfl rfl rfl rfl rfl ?_ | refine Loud.mk (SolveFirst_run p hs) (⟨_, Try.func54, rfl, rfl⟩ : Enters Try.prog 54) rfl rfl rfl rfl rfl ?_
  simp (maxSteps := 1000000) (disch := omega) only [go_sem, Nat.reduceAdd, Nat.reduceMul, Nat.reduceSub, Nat.reduceEqDiff, Nat.reduceLeDiff]
  have e1 := canV_finish p zs
  have e2 := can_fits h2 hgf.2.1
  have e3 := can_zeros h2 (k := zs.length) hgf.2.2.2.1.symm
  obtain ⟨b, hb⟩ : ∃ b, b = canV p zs := ⟨_, rfl⟩
  have hbb : decide (b = b) = true := decide_eq_true rfl
  refine drawP_lF [0, 1, 2, 3, 4, 5, 6, 7, 8, 9, 10, 11, 12, 13, 14, 15, 16, 17, 18, 21, 19, 20] [] none [22, 23, 24] [] foll (by kernel_rfl) ?_
  simp (maxSteps := 1000000) (disch := omega) only [go_sem, Nat.reduceBEq, Bool.true_or, Nat.reduceAdd, Nat.reduceMul, Nat.reduceSub, Nat.reduceEqDiff, Nat.reduceLeDiff]
  first | refine OpS.rd (FinishCount_run p zs 1 hs (by omega)) (⟨_, Try.func36, rfl, rfl⟩ : Enters Try.prog 36) rfl rfl rfl rfl ?_ | refine Loud.rd (FinishCount_run p zs 1 hs (by omega)) (⟨_, Try.func36, rfl, rfl⟩ : Enters Try.prog 36) rfl rfl rfl rfl ?_
  simp (maxSteps := 1000000) (disch := omega) only [go_sem, Nat.reduceAdd, Nat.reduceMul, Nat.reduceSub, Nat.reduceEqDiff, Nat.reduceLeDiff]
  rw [← e1, ← hb, hbb]
  rw [← hb] at e2
  cases b
  · simp (maxSteps := 1000000) (disch := omega) only [go_sem, Nat.reduceAdd, Nat.reduceMul, Nat.reduceSub, Nat.reduceEqDiff, Nat.reduceLeDiff]
    intro g2
    have hown := OwnI.o (H := [some ⟨g, 3, cP p⟩, some ⟨g2, 1, cl (eI .i64) (List.replicate zs.length 0)⟩]) 1 g2 none (List.replicate zs.length 0) [] (by rw [List.append_nil]; exact look_of (b := ⟨g2, 1, cl (eI .i64) (List.replicate zs.length 0)⟩) rfl)
    rw [List.length_replicate] at hown
    refine Loud.rdD (CanFinish_run p (List.replicate zs.length 0) hs (by simp; omega)) (⟨_, Try.func39, rfl, rfl⟩ : Enters Try.prog 39) rfl rfl (snap_two rfl hown.snap) rfl ?_
    rw [e3]
    generalize decide (0 < (allS p 1).length) = d
    have hd : decide (d = d) = true := decide_eq_true rfl
    simp (maxSteps := 1000000) (disch := omega) only [go_sem, Nat.reduceAdd, Nat.reduceMul, Nat.reduceSub, Nat.reduceEqDiff, Nat.reduceLeDiff, hd]
  · simp (maxSteps := 1000000) (disch := omega) only [go_sem, Nat.reduceAdd, Nat.reduceMul, Nat.reduceSub, Nat.reduceEqDiff, Nat.reduceLeDiff]
    first | refine OpS.rd (PuzzleFits_run hgf.1 h2 zs hgf.2.1) (⟨_, Try.func55, rfl, rfl⟩ : Enters Try.prog 55) rfl rfl rfl rfl ?_ | refine Loud.rd (PuzzleFits_run hgf.1 h2 zs hgf.2.1) (⟨_, Try.func55, rfl, rfl⟩ : Enters Try.prog 55) rfl rfl rfl rfl ?_
    simp (maxSteps := 1000000) (disch := omega) only [go_sem, Nat.reduceAdd, Nat.reduceMul, Nat.reduceSub, Nat.reduceEqDiff, Nat.reduceLeDiff]
    rw [e2 rfl]
    simp (maxSteps := 1000000) (disch := omega) only [go_sem, Nat.reduceAdd, Nat.reduceMul, Nat.reduceSub, Nat.reduceEqDiff, Nat.reduceLeDiff]
    intro g2
    have hown := OwnI.o (H := [some ⟨g, 3, cP p⟩, some ⟨g2, 1, cl (eI .i64) (List.replicate zs.length 0)⟩]) 1 g2 none (List.replicate zs.length 0) [] (by rw [List.append_nil]; exact look_of (b := ⟨g2, 1, cl (eI .i64) (List.replicate zs.length 0)⟩) rfl)
    rw [List.length_replicate] at hown
    refine Loud.rdD (CanFinish_run p (List.replicate zs.length 0) hs (by simp; omega)) (⟨_, Try.func39, rfl, rfl⟩ : Enters Try.prog 39) rfl rfl (snap_two rfl hown.snap) rfl ?_
    rw [e3]
    generalize decide (0 < (allS p 1).length) = d
    have hd : decide (d = d) = true := decide_eq_true rfl
    simp (maxSteps := 1000000) (disch := omega) only [go_sem, Nat.reduceAdd, Nat.reduceMul, Nat.reduceSub, Nat.reduceEqDiff, Nat.reduceLeDiff, hd]
end Go.Lg
