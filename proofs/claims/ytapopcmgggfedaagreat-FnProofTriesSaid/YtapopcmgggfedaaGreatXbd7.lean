/- GpEH, GpFD, LgZ3, GpCE, cut to what is needed. -/
import Derived.Test.YtapopcmgggfedaaGreatXbd6
import Derived.Test.YtapopcmgggfedaaGreatXbc4
import Derived.Test.YtapopcmgggfedaaGreatXbd5
import Derived.Test.YtapopcmgggfedaaGreatXbb3
import Derived.Test.YtapopcmgggfedaaGreatXbb7
open Nat renaming reduceAdd → zA, reduceMul → zM, reduceSub → zS, reduceEqDiff → zE, reduceLeDiff → zL
set_option linter.unusedSimpArgs false
set_option linter.unusedVariables false
set_option maxRecDepth 100000
namespace Go.Lg
open Go.Proofs
attribute [-go_sem] appendM lwF_cons
theorem solutions_run {p : Puz} {n : Nat} (hp : PuzN p n) (hv : puzzleValid p = true) (most : Nat) (hmo : 1 ≤ most ∧ most ≤ 600) (H : Heap) (xs : List Int) (hg : GrdN xs n) (hext : Ext p xs) (pid pg mid mg : Nat) (S : List Nat) (hml : look H mid mg = some ⟨mg, 1, [.f (.int .i64 most)]⟩) (hmp : mid ≠ pid) (hmS : mid ∉ S) (hout : OutL H pid pg [] S) (hSl : ∀ k ∈ S, k < H.length) :
    RunCall Tryz.prog 70 [aP p, ints xs, .c (.fn 71 [(pid, pg), (mid, mg)])] H (fun v H' => v = .tup [] ∧ ∃ S', OutL H' pid pg (if fitsL p xs n = true then (sols p n (n * n) xs).take most else []) S') := by
  have hn := hp.hn
  have hz := hp.size
  have hxl := hg.len
  have hsq : 4 ≤ n * n ∧ n * n ≤ 16 := by rcases hn with rfl | rfl | rfl <;> omega
  have hplt : pid < H.length := by
    obtain ⟨⟨oid, og, cs, o1, _⟩, _⟩ := hout
    exact (List.getElem?_eq_some_iff.1 (look_some o1).1).1
  refine RunCall.cw (c := _) Tryz.func70 rfl (n := 20) Tryz.ntmps70 (rs := []) rfl ?_
  simp only[List.length_cons,List.length_nil,zA,zS,List.replicate,List.cons_append,List.nil_append]
  simp(maxSteps:=999999)(disch:=omega)only[go_sem,zA,zM,zS,zE,zL]
  intro g0 g1
  refine OpS.mkDQ (Clone_q0 xs (by omega) (fun h => by rw [h] at hxl; simp at hxl; omega)) (⟨_, Tryz.func31, rfl, rfl⟩ : Enters Tryz.prog 31) rfl rfl rfl ?_
  intro g2
  obtain ⟨HA, hHA⟩ : ∃ HA : Heap, HA = H ++ [some ⟨g0, 1, cP p⟩] ++ [some ⟨g1, 1, [CV.fn 71 [(pid, pg), (mid, mg)]]⟩] ++ [some ⟨g2, 1, cl (eI .i64) xs⟩] := ⟨_, rfl⟩
  have hAl : HA.length = H.length + 3 := by rw [hHA]; simp
  have hAg : ∀ k, k < H.length → HA[k]? = H[k]? := fun k hk => by rw [hHA, List.append_assoc, List.append_assoc, List.getElem?_append_left hk]
  have a0 : look HA H.length g0 = some ⟨g0, 1, cP p⟩ := by rw [hHA]; exact look_appL (look_appL look_last)
  have a1 : look HA (H.length + 1) g1 = some ⟨g1, 1, [CV.fn 71 [(pid, pg), (mid, mg)]]⟩ := by
    rw [hHA]
    refine look_appL ?_
    have := look_last (H := H ++ [some ⟨g0, 1, cP p⟩]) (g := g1) (sz := 1) (cs := [CV.fn 71 [(pid, pg), (mid, mg)]])
    rwa [List.length_append, List.length_singleton] at this
  have a2 : look HA (H.length + 1 + 1) g2 = some ⟨g2, 1, cl (eI .i64) xs⟩ := by
    rw [hHA]
    have := look_last (H := H ++ [some ⟨g0, 1, cP p⟩] ++ [some ⟨g1, 1, [CV.fn 71 [(pid, pg), (mid, mg)]]⟩]) (g := g2) (sz := 1) (cs := cl (eI .i64) xs)
    rwa [List.length_append, List.length_append, List.length_singleton, List.length_singleton] at this
  show vwK _ _ _ _ _ _ (.c (.own (H ++ [some ⟨g0, 1, cP p⟩] ++ [some ⟨g1, 1, [CV.fn 71 [(pid, pg), (mid, mg)]]⟩] : Heap).length g2 0 xs.length none)) (H ++ [some ⟨g0, 1, cP p⟩] ++ [some ⟨g1, 1, [CV.fn 71 [(pid, pg), (mid, mg)]]⟩] ++ [some ⟨g2, 1, cl (eI .i64) xs⟩] : Heap)
  rw [← hHA]
  clear hHA
  simp(maxSteps:=999999)(disch:=omega)only[go_sem,zA,zM,zS,zE,zL, look_last, set_last]
  intro g3
  obtain ⟨HB, hHB⟩ : ∃ HB : Heap, HB = HA ++ [some ⟨g3, 1, [CV.own (H.length + 1 + 1) g2 0 xs.length none]⟩] := ⟨_, rfl⟩
  have hBl : HB.length = HA.length + 1 := by rw [hHB]; simp
  have b0 : look HB H.length g0 = some ⟨g0, 1, cP p⟩ := by rw [hHB]; exact look_appL a0
  have b1 : look HB (H.length + 1) g1 = some ⟨g1, 1, [CV.fn 71 [(pid, pg), (mid, mg)]]⟩ := by rw [hHB]; exact look_appL a1
  have b2 : look HB (H.length + 1 + 1) g2 = some ⟨g2, 1, cl (eI .i64) xs⟩ := by rw [hHB]; exact look_appL a2
  have b3 : look HB HA.length g3 = some ⟨g3, 1, [CV.own (H.length + 1 + 1) g2 0 xs.length none]⟩ := by rw [hHB]; exact look_last
  have hBg : ∀ k, k < H.length → HB[k]? = H[k]? := fun k hk => by rw [hHB, List.getElem?_append_left (by omega)]; exact hAg k hk
  rw [← hHB]
  clear hHB
  have hown : OwnI HB (.own (H.length + 1 + 1) g2 0 xs.length none) xs [H.length + 1 + 1] := OwnI.o (H := HB) (H.length + 1 + 1) g2 none xs [] (by rw [List.append_nil]; exact b2)
  simp(maxSteps:=999999)(disch:=omega)only[go_sem,zA,zM,zS,zE,zL, b0, b3]
  refine OpS.rdD (PuzzleFits_run hp hv xs hg) (⟨_, Tryz.func76, rfl, rfl⟩ : Enters Tryz.prog 76) rfl rfl (snap_two rfl hown.snap) rfl ?_
  simp(maxSteps:=999999)(disch:=omega)only[go_sem,zA,zM,zS,zE,zL]
  ((first|(with_reducible first|refine condK_dec ?_ ?_|refine condK_ndec ?_ ?_|refine condK_nb ?_ ?_)|refine condK_b ?_ ?_) <;> intro c1)
  rotate_left
  · simp(maxSteps:=999999)(disch:=omega)only[go_sem,zA,zM,zS,zE,zL]
    exact ⟨HB, HLe.refl _, rfl, S, by rw [if_neg (by rw [c1]; simp)]; exact hout.same fun k hk => hBg k (by rcases hk with rfl | hk; exact hplt; exact hSl k hk)⟩
  simp(maxSteps:=999999)(disch:=omega)only[go_sem,zA,zM,zS,zE,zL, b0, look_last, set_last]
  rw [hz]
  intro g4
  obtain ⟨HC, hHC⟩ : ∃ HC : Heap, HC = HB ++ [some ⟨g4, 1, [CV.f (FV.int .i64 n)]⟩] := ⟨_, rfl⟩
  have hCl : HC.length = HB.length + 1 := by rw [hHC]; simp
  have lC : ∀ g sz cs, look (HC ++ [some ⟨g, sz, cs⟩]) (HB.length + 1) g = some ⟨g, sz, cs⟩ := fun g sz cs => by rw [← hCl]; exact look_last
  have sC : ∀ x y, (HC ++ [x]).set (HB.length + 1) y = HC ++ [y] := fun x y => by rw [← hCl]; exact set_last
  have hC0 : ∀ {k g : Nat} {b : Blk}, look HB k g = some b → look HC k g = some b := fun h => by rw [hHC]; exact look_appL h
  have c4 : look HC HB.length g4 = some ⟨g4, 1, [CV.f (FV.int .i64 n)]⟩ := by rw [hHC]; exact look_last
  have hCg : ∀ k, k < H.length → HC[k]? = H[k]? := fun k hk => by rw [hHC, List.getElem?_append_left (by omega)]; exact hBg k hk
  rw [← hHC]
  clear hHC
  intro g5
  simp(maxSteps:=999999)(disch:=omega)only[go_sem,zA,zM,zS,zE,zL, lC, sC, List.mapM_cons, List.mapM_nil, capOf, Option.bind_eq_bind, Option.pure_def, Option.bind_some]
  refine ⟨rfl, ?_⟩
  obtain ⟨HD, hHD⟩ : ∃ HD : Heap, HD = HC ++ [some ⟨g5, 1, [CV.fn 86 [(HA.length, g3), (H.length + 1, g1), (HB.length + 1, g5), (HB.length, g4), (H.length, g0)]]⟩] := ⟨_, rfl⟩
  have d5 : look HD (HB.length + 1) g5 = some ⟨g5, 1, [CV.fn 86 [(HA.length, g3), (H.length + 1, g1), (HB.length + 1, g5), (HB.length, g4), (H.length, g0)]]⟩ := by rw [hHD]; exact lC _ _ _
  have hD0 : ∀ {k g : Nat} {b : Blk}, look HC k g = some b → look HD k g = some b := fun h => by rw [hHD]; exact look_appL h
  have hDg : ∀ k, k < H.length → HD[k]? = H[k]? := fun k hk => by rw [hHD, List.getElem?_append_left (by omega)]; exact hCg k hk
  have hDl : HD.length = HC.length + 1 := by rw [hHD]; simp
  rw [← hHD]
  clear hHD
  have hmlt := (List.getElem?_eq_some_iff.1 (look_some hml).1).1
  have hT : TryH 71 86 p n most ⟨HA.length, g3, H.length + 1, g1, HB.length + 1, g5, HB.length, g4, H.length, g0, mid, mg, pid, pg, H.length + 1 + 1, g2⟩ HD :=
    ⟨by have := hD0 (hC0 b3); rw [hxl] at this; exact this, hD0 (hC0 b1), d5, hD0 c4, hD0 (hC0 b0), by unfold look; rw [hDg mid hmlt]; exact hml⟩
  have hrun := try_run hp most hmo.2 _ (by
      intro k hk
      simp only [Cap.ids, List.mem_cons, List.not_mem_nil, or_false] at hk ⊢
      rcases hk with rfl | rfl | rfl | rfl | rfl | rfl <;> omega) (by show H.length + 1 + 1 ≠ pid; omega) (n * n) HD xs [] S (Nat.le_refl _) hg c1 hext hT (by
      intro k hk hS
      have := hSl k hS
      simp only [Cap.ids, List.mem_cons, List.not_mem_nil, or_false] at hk
      rcases hk with rfl | rfl | rfl | rfl | rfl | rfl
      · omega
      · omega
      · omega
      · omega
      · omega
      · exact hmS hS) (hD0 (hC0 b2)) (fun h => by have := hSl _ h; simp only at this; omega) (by simp; omega) (hout.same fun k hk => hDg k (by rcases hk with rfl | hk; exact hplt; exact hSl k hk)) (fun k hk => by have := hSl k hk; omega)
  rw [Nat.sub_self] at hrun
  refine OpS.runFn hrun (⟨_, Tryz.func86, rfl, rfl⟩ : Enters Tryz.prog 86) rfl (target_all (caps := [(HA.length, g3), (H.length + 1, g1), (HB.length + 1, g5), (HB.length, g4), (H.length, g0)]) (by simp [hT.g, hT.t, hT.y, hT.z, hT.b])) rfl ?_
  rintro _ H2 ⟨l, hl, rfl, S2, ys, o2, _⟩
  simp(maxSteps:=999999)(disch:=omega)only[go_sem,zA,zM,zS,zE,zL]
  rw [List.nil_append, List.length_nil, Nat.sub_zero] at hl
  exact ⟨H2, HLe.refl _, rfl, S2, by rw [if_pos c1, ← hl]; exact o2⟩
theorem firstSolutions_run {p : Puz} {n : Nat} (hp : PuzN p n) (hv : puzzleValid p = true) (most : Nat) (hmo : 1 ≤ most ∧ most ≤ 600) (xs : List Int) (hg : GrdN xs n) (hext : Ext p xs) :
    Reads Tryz.prog 53 [aP p, ints xs, int most] (rsl eL (if fitsL p xs n = true then (sols p n (n * n) xs).take most else [])) := by
  refine Reads.iced ?_
  refine RunCall.cw (c := _) Tryz.func53 rfl (n := 14) Tryz.ntmps53 (rs := [.tmp 6]) rfl ?_
  simp only[List.length_cons,List.length_nil,zA,zS,List.replicate,List.cons_append,List.nil_append]
  simp(maxSteps:=999999)(disch:=omega)only[go_sem,zA,zM,zS,zE,zL, List.mapM_cons, List.mapM_nil, capOf, Option.bind_eq_bind, Option.pure_def, Option.bind_some]
  intro g0 g1 g2 g3
  refine ⟨rfl, ?_⟩
  have hr := solutions_run hp hv most hmo [some ⟨g0, 1, cP p⟩, some ⟨g1, 1, [.f (.int .i64 most)]⟩, some ⟨g2, 1, []⟩, some ⟨g3, 1, [CV.own 2 g2 0 0 none]⟩] xs hg hext 3 g3 1 g1 [2] (by simp only [go_sem]) (by omega) (by simp)
    ⟨⟨2, g2, [], by simp only [go_sem], by simp only [go_sem], by simp, rfl, fun i hi => by simp at hi⟩, by simp⟩ (by simp)
  refine OpS.run hr (⟨_, Tryz.func70, rfl, rfl⟩ : Enters Tryz.prog 70) rfl rfl ?_
  rintro _ H2 ⟨rfl, S2, o2⟩
  generalize (if fitsL p xs n = true then (sols p n (n * n) xs).take most else []) = R at o2
  obtain ⟨oid, og, k1, k2⟩ := o2.frz
  simp(maxSteps:=999999)(disch:=omega)only[go_sem,zA,zM,zS,zE,zL, k1]
  exact lessQ_ice (by simp only [frzA, frz1, k2, Option.map_some])
end Go.Lg

namespace Go.Lg
open Go.Proofs
theorem ext_given (p : Puz) : Ext p p.given := fun k h => by omega
theorem allS_first {p : Puz} (hv : puzzleValid p = true) (most : Nat) : (if fitsL p p.given p.size.toNat = true then (sols p p.size.toNat (p.size.toNat * p.size.toNat) p.given).take most else []) = allS p most := by
  unfold allS
  by_cases h : fitsL p p.given p.size.toNat = true
  · rw [if_pos h, if_pos ⟨hv, h⟩]
  · rw [if_neg h, if_neg (fun h' => h h'.2)]
theorem first_all {p : Puz} (hv : puzzleValid p = true) (most : Nat) (hmo : 1 ≤ most ∧ most ≤ 600) : Reads Tryz.prog 53 [aP p, ints p.given, int most] (rsl eL (allS p most)) := by
  obtain ⟨hp, hz⟩ := PuzN.of hv
  have hg := GrdN.of hp.hn (xs := p.given) (by rw [hz]; exact puzzleValid_grid' hv)
  have := firstSolutions_run hp hv most hmo p.given hg (ext_given p)
  rwa [allS_first hv] at this
end Go.Lg

namespace Go.Lg
mutual
def nzF : FV → FV
  | .nil => .sl 0 []
  | .sl n cs => .sl n (nzL cs)
  | .int k n => .int k n
  | .bool b => .bool b
  | .str s => .str s
def nzL : List FV → List FV
  | [] => []
  | x :: l => nzF x :: nzL l
end
theorem nzL_map : ∀ l : List FV, nzL l = l.map nzF
  | [] => rfl
  | x :: l => by rw [nzL, nzL_map l]; rfl
theorem nzF_sl (n : Nat) (cs : List FV) : nzF (.sl n cs) = .sl n (cs.map nzF) := by rw [nzF, nzL_map]
theorem nzF_sound {w : World} {I : Nat → Prop} {x : FV} {v : Value} (h : VF w I x v) : VF w I (nzF x) v := by
  induction h with
  | int k n => exact .int k n
  | bool b => exact .bool b
  | str s => exact .str s
  | nil => exact .sl0 none 0
  | sl0 a cap => rw [nzF_sl]; exact .sl0 a cap
  | sl n cs b o cap u hc hI hu hv ih =>
    rw [nzF_sl]
    refine .sl n _ b o cap u hc hI (fun j hj => hu j (by simpa using hj)) fun j hj => ?_
    rw [List.getElem_map]
    exact ih j (by simpa using hj)
def frzS (S : Nat → Bool) (H : Heap) : Nat → CV → Option FV
  | _, .f x => some (nzF x)
  | _, .emp => some (.sl 0 [])
  | n + 1, .own id g off k _ => if S id then match look H id g with
    | some b => (((b.cs.drop off).take (k * b.sz)).mapM (frzS S H n)).map (.sl k)
    | none => none else none
  | _, _ => none
def Cx.iceS (X : Cx) (S : Nat → Bool) (H : Heap) : Cx := { X with I := fun b => X.I b ∨ ∃ (id : Nat) (blk : Blk), S id = true ∧ H[id]? = some (some blk) ∧ X.mu blk.g = b }
def IceC (S : Nat → Bool) (H : Heap) (c c' : CV) : Prop := c' = c ∨ ∃ y, frzS S H 6 c = some y ∧ c' = .f y
def IceH (S : Nat → Bool) (H H' : Heap) : Prop := ∀ (id : Nat) (b' : Blk), H'[id]? = some (some b') → S id = false ∧ ∃ b, H[id]? = some (some b) ∧ b'.g = b.g ∧ b'.sz = b.sz ∧ b'.cs.length = b.cs.length ∧ ∀ j (h : j < b.cs.length), ∃ c', b'.cs[j]? = some c' ∧ IceC S H b.cs[j] c'
inductive Ice1 (S : Nat → Bool) (H : Heap) : AV → AV → Prop where
  | c (x y : CV) (h : IceC S H x y) : Ice1 S H (.c x) (.c y)
  | agg (xs ys : List CV) (hl : ys.length = xs.length) (h : ∀ j (h : j < xs.length), ∃ y, ys[j]? = some y ∧ IceC S H xs[j] y) : Ice1 S H (.agg xs) (.agg ys)
  | s (x : AV) : Ice1 S H x x
inductive IceA (S : Nat → Bool) (H : Heap) : AV → AV → Prop where
  | o (x y : AV) (h : Ice1 S H x y) : IceA S H x y
  | tup (xs ys : List AV) (hl : ys.length = xs.length) (h : ∀ j (h : j < xs.length), ∃ y, ys[j]? = some y ∧ Ice1 S H xs[j] y) : IceA S H (.tup xs) (.tup ys)
section
variable {w : World} {X : Cx} {S : Nat → Bool} {H H' : Heap}
theorem iceS_ev (hh : IceH S H H') : Ev w X H w (X.iceS S H) H' :=
  ⟨fun b hb => ⟨.inl hb, rfl⟩, Nat.le_refl _, fun _ _ => ⟨rfl, rfl⟩, Nat.le_refl _, rfl, rfl, rfl,
   fun id g b' _ h => by
     obtain ⟨h1, h2⟩ := look_some h
     obtain ⟨_, b, k1, k2, k3, k4, _⟩ := hh id b' h1
     have hg : b.g = g := by rw [← k2]; exact h2
     refine ⟨b, ?_, k4.symm, k3.symm⟩
     subst hg
     exact look_of k1,
   fun _ _ _ => rfl,
   fun b ⟨id, blk, h1, h2⟩ => by
     obtain ⟨_, b0, k1, k2, _⟩ := hh id blk h1
     exact .inl ⟨id, b0, k1, by rw [← k2]; exact h2⟩,
   fun b hb => hb.elim .inl fun ⟨id, blk, _, h1, h2⟩ => .inr (.inl ⟨id, blk, h1, h2⟩)⟩
theorem frzS_sound (R : HRel w X H) : ∀ (n : Nat) (x : CV) (y : FV) (v : Value), frzS S H n x = some y → VC w X H x v → VF w (X.iceS S H).I y v := by
  intro n
  induction n with
  | zero =>
    intro x y v h hv
    cases x with
    | f x => simp only [frzS, Option.some.injEq] at h; subst h; exact nzF_sound (VF.wide (fun b hb => .inl hb) hv)
    | emp => simp only [frzS, Option.some.injEq] at h; subst h; obtain ⟨a, rfl⟩ := hv; exact .sl0 _ _
    | _ => simp [frzS] at h
  | succ n ih =>
    intro x y v h hv
    cases x with
    | f x => simp only [frzS, Option.some.injEq] at h; subst h; exact nzF_sound (VF.wide (fun b hb => .inl hb) hv)
    | emp => simp only [frzS, Option.some.injEq] at h; subst h; obtain ⟨a, rfl⟩ := hv; exact .sl0 _ _
    | own id g off k lim =>
      simp only [frzS] at h
      split at h
      rotate_left
      · cases h
      rename_i hS
      split at h
      · rename_i b hl
        cases hf : ((b.cs.drop off).take (k * b.sz)).mapM (frzS S H n) with
        | none => simp [hf] at h
        | some xs =>
          simp [hf] at h
          subst h
          obtain ⟨hl1, hl2⟩ := mapM_get hf
          obtain ⟨hgt, _, hall⟩ := hv
          obtain ⟨c1, a0, cap, rfl, c2, c3, c4, c5⟩ := hall b hl
          obtain ⟨hid, hgg⟩ := look_some hl
          subst hgg
          obtain ⟨_, _, cc, t, g3, g4, g5, g6⟩ := R.blk id b hid
          have hlen : xs.length = k * b.sz := by rw [hl1]; simp; omega
          have hI : (X.iceS S H).I (X.mu b.g) := .inr ⟨id, b, hS, hid, rfl⟩
          by_cases h0 : k * b.sz = 0
          · have hx0 : xs = [] := List.eq_nil_of_length_eq_zero (by omega)
            subst hx0
            by_cases hn : k = 0
            · subst hn; exact VF.sl0 _ _
            · by_cases hcap : cap = 0
              · omega
              · have := c3 hcap
                subst this
                exact VF.sl k [] (X.mu b.g) off cap (fun _ => undef) c2 hI (fun j hj => absurd hj (by simp)) (fun j hj => absurd hj (by simp))
          · have hn : k ≠ 0 := fun h => h0 (by rw [h]; simp)
            have := c3 (by omega)
            subst this
            have hget : ∀ j, j < xs.length → ∃ u, cc[off + j]? = some u ∧ ∀ h : j < xs.length, VF w (X.iceS S H).I xs[j] u := fun j hj => by
              obtain ⟨u, h7, h8⟩ := g6 (off + j) (by omega)
              refine ⟨u, h7, fun hj => ?_⟩
              obtain ⟨y, e1, e2⟩ := hl2 j (by rw [← hl1]; exact hj)
              have e3 : xs[j] = y := by simpa [List.getElem?_eq_getElem hj] using e1
              rw [e3]
              refine ih _ _ _ e2 ?_
              simp only [List.getElem_take, List.getElem_drop]
              exact h8
            refine VF.sl k xs (X.mu b.g) off cap (fun j => cc.getD (off + j) undef) c2 hI (fun j hj => ?_) (fun j hj => ?_)
            · obtain ⟨u, h7, h8⟩ := hget j hj
              simp [World.cell?, g3, Array.getD_eq_getD_getElem?, h7]
            · obtain ⟨u, h7, h8⟩ := hget j hj
              simp only [Array.getD_eq_getD_getElem?, h7, Option.getD_some]
              exact h8 hj
      · cases h
    | _ => simp [frzS] at h
theorem iceC_sound (R : HRel w X H) (hh : IceH S H H') {x y : CV} {v : Value} (h : IceC S H x y) (hv : VC w X H x v) : VC w (X.iceS S H) H' y v := by
  rcases h with rfl | ⟨z, h1, rfl⟩
  · exact hv.mono (iceS_ev hh)
  · exact frzS_sound R 6 x z v h1 hv
theorem iceS_rel (R : HRel w X H) (hh : IceH S H H') : HRel w (X.iceS S H) H' :=
  ⟨fun b hb => hb.elim (R.imm b) fun ⟨id, blk, _, h1, h2⟩ => by
    obtain ⟨_, _, cc, t, h3, _⟩ := R.blk id blk h1
    rw [← h2]
    exact (Array.getElem?_eq_some_iff.1 h3).1,
   fun id b' hb => by
    obtain ⟨k0, b, k1, k2, k3, k4, k5⟩ := hh id b' hb
    obtain ⟨h1, h2, cc, t, h3, h4, h5, h6⟩ := R.blk id b k1
    rw [k2]
    refine ⟨h1, fun hI => hI.elim h2 fun ⟨id2, b2, e1, e2, e3⟩ => ?_, cc, t, h3, h4, by rw [k4]; exact h5, fun j hj => ?_⟩
    · have := R.inj id2 id b2 b e2 k1 e3
      rw [this, k0] at e1
      cases e1
    · rw [k4] at hj
      obtain ⟨u, u1, u2⟩ := h6 j hj
      obtain ⟨c', e1, e2⟩ := k5 j hj
      refine ⟨u, u1, ?_⟩
      have e3 : b'.cs[j] = c' := by
        have := List.getElem?_eq_some_iff.1 e1
        exact this.2
      rw [e3]
      exact iceC_sound R hh e2 u2,
   fun id id' b b' h1 h2 he => by
    obtain ⟨_, a, k1, k2, _⟩ := hh id b h1
    obtain ⟨_, a', k1', k2', _⟩ := hh id' b' h2
    exact R.inj id id' a a' k1 k1' (by rw [← k2, ← k2']; exact he), R.tab.mono fun b hb => ⟨.inl hb, rfl⟩⟩
theorem ice1_sound (R : HRel w X H) (hh : IceH S H H') {x y : AV} {v : Value} (h : Ice1 S H x y) (hv : VA w X H x v) : VA w (X.iceS S H) H' y v := by
  cases h with
  | c x y h => exact .c _ _ (iceC_sound R hh h (va_c hv))
  | agg xs ys hl h =>
    cases hv with
    | agg cs vs hsz hc =>
      refine .agg _ _ (by omega) fun j hj => ?_
      obtain ⟨y, h3, h4⟩ := h j (by omega)
      obtain ⟨u, h5, h6⟩ := hc j (by omega)
      have : ys[j] = y := by simpa [List.getElem?_eq_getElem hj] using h3
      rw [this]
      exact ⟨u, h5, iceC_sound R hh h4 h6⟩
  | s x => exact hv.mono (iceS_ev hh)
theorem iceA_sound (R : HRel w X H) (hh : IceH S H H') {x y : AV} {v : Value} (h : IceA S H x y) (hv : VA w X H x v) : VA w (X.iceS S H) H' y v := by
  cases h with
  | o x y h => exact ice1_sound R hh h hv
  | tup xs ys hl h =>
    cases hv with
    | tup vs us hus =>
      rw [← hl]
      refine .tup ys us fun j hj => ?_
      obtain ⟨y, h3, h4⟩ := h j (by omega)
      have : ys[j] = y := by simpa [List.getElem?_eq_getElem hj] using h3
      rw [this]
      exact ice1_sound R hh h4 (hus j (by omega))
end
theorem RunCall.iceS {P : Program} {f : FuncId} {args : List AV} {H : Heap} {Q Q' : KV} (h : RunCall P f args H Q') (hq : ∀ v H', Q' v H' → ∃ S H'' v', IceH S H' H'' ∧ IceA S H' v v' ∧ Q v' H'') : RunCall P f args H Q :=
  fun w X vs hH hvs => (h w X vs hH hvs).mono fun _ w' ⟨v, u, X', H', h1, h2, h3, h4, h5⟩ => by
    obtain ⟨S, H'', v', k1, k2, k3⟩ := hq v H' h5
    exact ⟨v', u, X'.iceS S H', H'', h1, iceA_sound h3 k1 k2 h2, iceS_rel h3 k1, h4.trans (iceS_ev k1), k3⟩
theorem iceH_same {S : Nat → Bool} {H H' : Heap} (h : ∀ (id : Nat) (b : Blk), H'[id]? = some (some b) → S id = false ∧ H[id]? = some (some b)) : IceH S H H' := fun id b hb =>
  ⟨(h id b hb).1, b, (h id b hb).2, rfl, rfl, rfl, fun j hj => ⟨b.cs[j], by rw [List.getElem?_eq_getElem hj], .inl rfl⟩⟩
def tailS (n : Nat) : Nat → Bool := fun i => decide (n ≤ i)
theorem iceH_take (H : Heap) (n : Nat) : IceH (tailS n) H (H.take n) := iceH_same fun id b hb => by
  rw [List.getElem?_take] at hb
  split at hb
  · rename_i h
    exact ⟨by simp only [tailS, decide_eq_false_iff_not]; omega, hb⟩
  · cases hb
theorem iceC_f {S : Nat → Bool} {H : Heap} {c : CV} {y : FV} (h : frzS S H 6 c = some y) : IceC S H c (.f y) := .inr ⟨y, h, rfl⟩
theorem iceC_s {S : Nat → Bool} {H : Heap} {c : CV} : IceC S H c c := .inl rfl
theorem ice1_agg3 {S : Nat → Bool} {H : Heap} {a b c a' b' c' : CV} (h1 : IceC S H a a') (h2 : IceC S H b b') (h3 : IceC S H c c') : Ice1 S H (.agg [a, b, c]) (.agg [a', b', c']) :=
  .agg _ _ rfl fun j hj => by
    match j, hj with
    | 0, _ => exact ⟨_, rfl, h1⟩
    | 1, _ => exact ⟨_, rfl, h2⟩
    | 2, _ => exact ⟨_, rfl, h3⟩
theorem iceA_two {S : Nat → Bool} {H : Heap} {a b a' b' : AV} (h1 : Ice1 S H a a') (h2 : Ice1 S H b b') : IceA S H (.tup [a, b]) (.tup [a', b']) :=
  .tup _ _ rfl fun j hj => by
    match j, hj with
    | 0, _ => exact ⟨_, rfl, h1⟩
    | 1, _ => exact ⟨_, rfl, h2⟩
def Fz (S : Nat → Bool) (H : Heap) (n : Nat) (c : CV) (x : FV) : Prop := ∀ H' : Heap, (∀ i, S i = true → i < H.length → H'[i]? = H[i]?) → ∀ m, n ≤ m → frzS S H' m c = some x
theorem Fz.frz {S : Nat → Bool} {H : Heap} {n : Nat} {c : CV} {x : FV} (h : Fz S H n c x) {m : Nat} (hm : n ≤ m) : frzS S H m c = some x := h H (fun _ _ _ => rfl) m hm
theorem Fz.f {S : Nat → Bool} {H : Heap} {x : FV} (n : Nat) : Fz S H n (.f x) (nzF x) := fun H' _ m _ => by cases m <;> rfl
theorem Fz.emp {S : Nat → Bool} {H : Heap} (n : Nat) : Fz S H n .emp (.sl 0 []) := fun H' _ m _ => by cases m <;> rfl
theorem Fz.mono {S : Nat → Bool} {H H1 : Heap} {n : Nat} {c : CV} {x : FV} (h : Fz S H n c x) (hs : ∀ i, S i = true → i < H.length → H1[i]? = H[i]?) (hl : H.length ≤ H1.length) : Fz S H1 n c x :=
  fun H' k m hm => h H' (fun i hi hil => (k i hi (Nat.lt_of_lt_of_le hil hl)).trans (hs i hi hil)) m hm
theorem Fz.own {S : Nat → Bool} {H : Heap} {n : Nat} {id g k : Nat} {b : Blk} {xs : List FV} {lim : Option Nat} (hS : S id = true) (hl : look H id g = some b) (hlen : xs.length = k * b.sz) (hle : k * b.sz ≤ b.cs.length)
    (hc : ∀ j (h : j < xs.length), ∃ c, b.cs[j]? = some c ∧ Fz S H n c xs[j]) : Fz S H (n + 1) (.own id g 0 k lim) (.sl k xs) := fun H' hh m hm => by
  obtain ⟨m, rfl⟩ : ∃ m', m = m' + 1 := ⟨m - 1, by omega⟩
  have hlt : id < H.length := (List.getElem?_eq_some_iff.1 (look_some hl).1).1
  have hl' : look H' id g = some b := by unfold look at *; rw [hh id hS hlt]; exact hl
  simp only [frzS, hS, if_true, hl', List.drop_zero]
  have : ∀ (cs : List CV) (ys : List FV), cs.length = ys.length → (∀ j (h : j < ys.length), ∃ c, cs[j]? = some c ∧ frzS S H' m c = some ys[j]) → cs.mapM (frzS S H' m) = some ys := by
    intro cs
    induction cs with
    | nil => intro ys h _; have : ys = [] := List.eq_nil_of_length_eq_zero h.symm; subst this; rfl
    | cons c cs ih =>
      intro ys h hall
      cases ys with
      | nil => simp at h
      | cons y ys =>
        obtain ⟨c0, h0, h1⟩ := hall 0 (by simp)
        have : c = c0 := by simpa using h0
        subst this
        rw [List.mapM_cons, h1, ih ys (by simpa using h) fun j hj => by
          obtain ⟨c', q1, q2⟩ := hall (j + 1) (by simpa using hj)
          exact ⟨c', by simpa using q1, by simpa using q2⟩]
        rfl
  rw [this _ xs (by rw [List.length_take]; omega) fun j hj => ?_]
  · rfl
  · obtain ⟨c, h1, h2⟩ := hc j hj
    exact ⟨c, by rw [List.getElem?_take_of_lt (by omega)]; exact h1, h2 H' hh m (by omega)⟩
def headN : Nat → Code → Code
  | n + 1, .seq x y => .seq x (headN n y)
  | _, _ => .skip
def tailN : Nat → Code → Code
  | n + 1, .seq _ y => tailN n y
  | _, c => c
theorem headN_zero (c : Code) : headN 0 c = .skip := by cases c <;> rfl
theorem headN_seq (n : Nat) (x y : Code) : headN (n + 1) (.seq x y) = .seq x (headN n y) := rfl
theorem tailN_zero (c : Code) : tailN 0 c = c := by cases c <;> rfl
theorem tailN_seq (n : Nat) (x y : Code) : tailN (n + 1) (.seq x y) = tailN n y := rfl
def midK (R : KS) (K : KT) : KT := fun e s H => match e with
  | .normal => R s H
  | e => K e s H
theorem midK_normal (R : KS) (K : KT) (s : List AV) (H : Heap) : midK R K .normal s H = R s H := propext Iff.rfl
theorem midK_ret (R : KS) (K : KT) (s : List AV) (H : Heap) : midK R K .ret s H = K .ret s H := propext Iff.rfl
theorem midK_exit (R : KS) (K : KT) (i : Nat) (s : List AV) (H : Heap) : midK R K (.exit i) s H = K (.exit i) s H := propext Iff.rfl
theorem RunC.split {P : Program} {R : KS} {K : KT} : ∀ (n : Nat) (c : Code) (s : List AV) (H : Heap), cw P (headN n c) s H (midK R K) → (∀ s H, R s H → RunC P (tailN n c) ⟨s, H⟩ (stK K)) → RunC P c ⟨s, H⟩ (stK K)
  | 0, c, s, H, h, k => by
    rw [headN_zero] at h
    rw [← tailN_zero c]
    exact k s H h
  | n + 1, c, s, H, h, k => by
    cases c with
    | seq x y =>
      refine RunC.seq ((cw_sound x s H _ h).mono fun e st hq => ?_)
      cases e with
      | normal => exact RunC.split n y st.s st.h hq k
      | _ => exact hq
    | _ => exact k s H h
theorem RunC.cutN {P : Program} {c : Code} {s : List AV} {H : Heap} {K : KT} (n : Nat) {α : Type} (ok : α → Prop) (M : α → List Sl) (G : α → Heap) (h : cw P (headN n c) s H (midK (fun s' H' => ∃ a, ok a ∧ Sle s' (mergeS (M a) s) ∧ HLe H' (G a)) K))
    (k : ∀ a, ok a → RunC P (tailN n c) ⟨mergeS (M a) s, G a⟩ (stK K)) : RunC P c ⟨s, H⟩ (stK K) :=
  RunC.split n c s H h fun s' H' ⟨a, ha, hs, hh⟩ => RunC.weaken (st' := ⟨mergeS (M a) s, G a⟩) hs.sle hh (k a ha)
theorem RunCall.ofR {P : Program} {f : FuncId} {fn : Func} {c : Code} {args : List AV} {H : Heap} {Q : KV} (hf : P.funcs[f]? = some fn) (hb : fn.body = some c) {n : Nat} (hn : fn.ntmps = n) {rs : List ResultVar} (hr : fn.results.toList = rs)
    (h : RunC P c ⟨args ++ List.replicate (n - args.length) .void, H⟩ (stK (doneK P rs Q))) : RunCall P f args H Q := by
  subst hn hr
  exact RunCall.of_body hf hb (h.mono fun e st ⟨h1, v, h2, H', h3, h4⟩ => ⟨h1, v, H', h2, h3, h4⟩)
attribute [go_sem] headN_zero headN_seq tailN_zero tailN_seq midK_normal midK_ret midK_exit
theorem OpS.clear {P : Program} {o : Oper} {st : St} {K : AV → Heap → Prop} {t e : TypeId} {ti ei : TI} {x : Operand} {id g off n : Nat} {lim : Option Nat} {b : Blk}
    (ho : o.op = .call ⟨.builtin .clear, #[x], #[t]⟩) (ht : tinf P t = some ti) (hk : ti.k = .slice e) (he : tinf P e = some ei) (hz : ei.zero.length = ei.size)
    (hs : evO st.s x = .c (.own id g off n lim)) (hl : look st.h id g = some b) (hbs : b.sz = ei.size) (hn0 : 0 < n) (hfit : off + n * ei.size ≤ b.cs.length)
    (hK : K (.tup []) (st.h.set id (some ⟨b.g, b.sz, setRange b.cs off (zerosL (n * ei.size) ei.zero)⟩))) : OpS P o st K := by
  intro w X a R next Q hn
  obtain ⟨inf, d, z', i1, i2, i3, i4, i5, i6, i7⟩ := tinf_some ht
  rw [i5] at hk; cases tk_slice hk
  obtain ⟨z, hz1, hz2, hz3⟩ := zero_sound he
  have hsv := evO_sound R x
  rw [hs] at hsv
  obtain ⟨hgt, _, hall⟩ := va_c hsv
  obtain ⟨c1, a0, cap, hse, c2, c3, c4, c5⟩ := hall b hl
  have ha0 := c3 (by omega)
  subst ha0
  have hz0 : n * ei.size ≠ 0 → ei.zero.length ≠ 0 := fun h => by rw [hz]; intro h0; rw [h0] at h; exact h (Nat.mul_zero _)
  obtain ⟨q1, q2⟩ := zerosL_sound (w := w) (X := X) (H := st.h) hz2 (hz3 w X st.h) (n * ei.size) hz0
  have hone : ∀ y ∈ z.cells.toList, y.oneCell' = true := fun y hy => by
    obtain ⟨j, hj, rfl⟩ := List.mem_iff_getElem.1 hy
    obtain ⟨u, h1, h2⟩ := hz3 w X st.h j (by rw [← hz2]; simpa using hj)
    have : z.cells.toList[j] = u := by
      have := Array.getElem?_eq_some_iff.1 h1
      simpa using this.2
    rw [this]
    exact h2.one
  have hvs : (Builtin.zeroCells z.cells n).toList = ((Array.range (n * ei.size)).map (z.cells[· % z.cells.size]!)).toList := by
    unfold Builtin.zeroCells
    rw [show n * z.cells.size = n * ei.size by rw [hz2, hz]]
  have hlen : ((Array.range (n * ei.size)).map (z.cells[· % z.cells.size]!)).toList.length = (zerosL (n * ei.size) ei.zero).length := by simpa using q1
  have hzl : (zerosL (n * ei.size) ei.zero).length = n * ei.size := by simp [zerosL]
  obtain ⟨w', h4, h5, h6⟩ := put_cells R.heap hl (o := off) (cs := zerosL (n * ei.size) ei.zero) (vs := ((Array.range (n * ei.size)).map (z.cells[· % z.cells.size]!)).toList) hlen (by omega)
    (fun j hj => by obtain ⟨u, u1, u2⟩ := q2 j hj; exact ⟨u, by rw [Array.getElem?_toList]; exact u1, u2⟩) (fun y hy => by
      obtain ⟨j, hj, rfl⟩ := List.mem_iff_getElem.1 hy
      have hj' : j < (zerosL (n * ei.size) ei.zero).length := by rw [← hlen]; exact hj
      obtain ⟨u, u1, u2⟩ := q2 j hj'
      have : ((Array.range (n * ei.size)).map (z.cells[· % z.cells.size]!)).toList[j] = u := by
        have := Array.getElem?_eq_some_iff.1 u1
        simpa using this.2
      rw [this]
      exact u2.one)
  have hrun : (execOp a.eval o).run P w = .ok (.value (.tuple #[])) w' := by
    have hm : ∀ k : Nat, n = k + 1 → (Builtin.clear_ #[t] o.type #[.slice (some ⟨X.mu g, off, none⟩) n cap]).run P w = .ok (.tuple #[]) w' := fun k hk => by
      subst hk
      have h4' := h4 P
      simp only [Array.toList_map, Array.toList_range] at h4'
      simp [Builtin.clear_, run_underlying i2, hz1, hvs, h4']
    simp only [execOp, ho, resolve, Sem.run_bind, Sem.run_pure, Result.andThen_ok, invoke, builtin, List.map_toArray, List.map_cons, List.map_nil, hse]
    rw [hm (n - 1) (by omega)]
    rfl
  have hv : VA w' X (st.h.set id (some ⟨b.g, b.sz, setRange b.cs off (zerosL (n * ei.size) ei.zero)⟩)) (.tup []) (.tuple #[]) := .tup [] (fun _ => undef) fun j hj => absurd hj (Nat.not_lt_zero _)
  exact wp_value hrun (hn _ _ _ _ _ hv h5 h6 hK)
end Go.Lg

namespace Go.Lg
open Go.Proofs
section
variable {P : Program} {o : Oper} {st : St} {K : KV} {fo : Operand} {xs : Array Operand} {ts : Array TypeId} {f : FuncId} {args args' : List AV} {zs : List Int}
theorem OpS.mkL {k : Nat} (hc : RunCall P f args [] (lenQ k)) (he : Enters P f) (ho : o.op = .call ⟨.value fo, xs, ts⟩) (ha : callArgs st fo xs = some (f, args)) (hf : args.all frozenA = true)
    (hk : ∀ (xs : List Int) id g H', look (st.h ++ H') id g = some ⟨g, 1, cl (eI .i64) xs⟩ → xs.length = k → st.h.length ≤ id → K (.c (.own id g 0 k none)) (st.h ++ H')) : OpS P o st K :=
  OpS.mkQ hc he ho ha hf fun r H' ⟨xs, id, g, h1, h2, h3⟩ => by
    subst h1
    refine ⟨rfl, hk xs (id + st.h.length) g _ ?_ h3 (by omega)⟩
    rw [look_shiftH h2]
    simp only [shiftB, shift_cl]
theorem OpS.mkF {Q : AV → Prop} (hc : RunCall P f args [] fun v _ => Q v) (he : Enters P f) (ho : o.op = .call ⟨.value fo, xs, ts⟩) (ha : callArgs st fo xs = some (f, args)) (hf : args.all frozenA = true)
    (hk : ∀ v, Q v → tupOk v = true ∧ shiftA st.h.length v = v ∧ K v st.h) : OpS P o st K := by
  obtain ⟨h1, h2⟩ := target_of ha
  refine OpS.call ho h1 he ?_
  rw [h2]
  refine (RunCall.frame hf hc fun r H' h => (hk r h).1).weaker ?_
  rintro r H2 ⟨r', H', h3, rfl, rfl⟩
  exact ⟨st.h, HLe.app _ _, by rw [(hk _ h3).2.1]; exact (hk _ h3).2.2⟩
end
def GrdAt (H HI : Heap) (id g : Nat) (B : Int) (cid cg n2 : Nat) : Prop := (∃ zs : List Int, look HI cid cg = some ⟨cg, 1, cl (eI .i64) zs⟩ ∧ n2 ≤ zs.length) ∧ RdAt HI id g B ∧ id < H.length ∧ H.length ≤ cid ∧ H.length ≤ HI.length ∧ ∀ k, k < H.length → k ≠ id → HI[k]? = H[k]?
theorem GrdAt.mono {H HI : Heap} {id g cid cg n2 : Nat} {B B' : Int} (h : GrdAt H HI id g B cid cg n2) (hb : B ≤ B') : GrdAt H HI id g B' cid cg n2 := by
  obtain ⟨h1, h2, h3⟩ := h
  exact ⟨h1, h2.mono hb, h3⟩
theorem GrdAt.pick {H HI H2 : Heap} {id g cid cg n2 : Nat} {B B' : Int} (h : GrdAt H HI id g B cid cg n2) (hr : RdAt H2 id g B') (hf : Frm HI H2 [id]) : GrdAt H H2 id g B' cid cg n2 := by
  obtain ⟨⟨zs, h1, h2⟩, _, h3, h4, h5, h6⟩ := h
  refine ⟨⟨zs, by rw [hf.look (by simp; omega)]; exact h1, h2⟩, hr, h3, h4, by rw [hf.1]; exact h5, fun k hk hne => ?_⟩
  rw [hf.2 k (by simp; exact hne), h6 k hk hne]
theorem GrdAt.store {H HI : Heap} {id g cid cg n2 : Nat} {B : Int} (h : GrdAt H HI id g B cid cg n2) {zs : List Int} (hz : n2 ≤ zs.length) : GrdAt H (HI.set cid (some ⟨cg, 1, cl (eI .i64) zs⟩)) id g B cid cg n2 := by
  obtain ⟨⟨_, h1, _⟩, h2, h3, h4, h5, h6⟩ := h
  have hlt : cid < HI.length := (List.getElem?_eq_some_iff.1 (look_some h1).1).1
  refine ⟨⟨zs, look_set_eq' hlt, hz⟩, h2.same (by rw [List.getElem?_set_ne (by omega)]), h3, h4, by simpa using h5, fun k hk hne => ?_⟩
  rw [List.getElem?_set_ne (by omega), h6 k hk hne]
theorem GrdAt.app {H HI X : Heap} {id g cid cg n2 : Nat} {B : Int} (h : GrdAt H HI id g B cid cg n2) : GrdAt H (HI ++ X) id g B cid cg n2 := by
  obtain ⟨⟨zs, h1, h2⟩, h3, h4, h5, h6, h7⟩ := h
  refine ⟨⟨zs, look_appL h1, h2⟩, h3.app, h4, h5, by rw [List.length_append]; omega, fun k hk hne => ?_⟩
  rw [List.getElem?_append_left (by omega), h7 k hk hne]
def solvedQ (n : Nat) (H : Heap) (id g : Nat) (B : Int) : KV := fun v H' => ∃ cid cg, v = .c (.own cid cg 0 (n * n) none) ∧ GrdAt H H' id g (B + 2) cid cg (n * n)
theorem l20Solved_run {n : Nat} (hn : n = 2 ∨ n = 3 ∨ n = 4) (H : Heap) (id g : Nat) (B : Int) (hr : RdAt H id g B) (hB : B ≤ 2 ^ 39) : RunCall Tryz.prog 41 [.c (.ptr id g 0), int n] H (solvedQ n H id g B) := by
  have hlt := hr.lt
  have hsq : 4 ≤ n * n ∧ n * n ≤ 16 := by rcases hn with rfl | rfl | rfl <;> omega
  refine RunCall.cw (c := _) Tryz.func41 rfl (n := 21) Tryz.ntmps41 (rs := [.tmp 4]) rfl ?_
  simp only[List.length_cons,List.length_nil,zA,zS,List.replicate,List.cons_append,List.nil_append]
  simp(maxSteps:=999999)(disch:=omega)only[go_sem,zA,zM,zS,zE,zL]
  intro g1
  have hix : ldP (some ⟨g1, 1, [.f (.int .i64 2), .f (.int .i64 12), .f (.int .i64 576)]⟩) (0 + ((n : Int) - 2).toNat * 1) = some (int (manyS n)) := by
    rcases hn with rfl | rfl | rfl <;> rfl
  simp(maxSteps:=999999)(disch:=omega)only[go_sem,zA,zM,zS,zE,zL, look_last, hix]
  have hm := show manyS n = 2 ∨ manyS n = 12 ∨ manyS n = 576 by rcases hn with rfl | rfl | rfl <;> simp [manyS]
  refine OpS.run (pick_run _ id g B 256 hr.app (by omega)) (⟨_, Tryz.func24, rfl, rfl⟩ : Enters Tryz.prog 24) rfl rfl ?_
  rintro _ H2 ⟨⟨y1, rfl, y10, y11⟩, r2, f2⟩
  simp(maxSteps:=999999)(disch:=omega)only[go_sem,zA,zM,zS,zE,zL]
  refine OpS.run (pick_run _ id g (B + 1) 3 r2 (by omega)) (⟨_, Tryz.func24, rfl, rfl⟩ : Enters Tryz.prog 24) rfl rfl ?_
  rintro _ H3 ⟨⟨y2, rfl, y20, y21⟩, r3, f3⟩
  have y11 := y11 (by omega)
  have y21 := y21 (by omega)
  simp(maxSteps:=999999)(disch:=omega)only[go_sem,zA,zM,zS,zE,zL]
  obtain ⟨number, hnum, hnl⟩ : ∃ number : Nat, (y1 * 3 + y2).tmod (manyS n : Int) = number ∧ number < manyS n := by
    rw [tmod_nn (by omega)]
    have h1 := Int.emod_nonneg (y1 * 3 + y2) (show (manyS n : Int) ≠ 0 by omega)
    have h2 := Int.emod_lt_of_pos (y1 * 3 + y2) (show (0 : Int) < (manyS n : Int) by omega)
    exact ⟨((y1 * 3 + y2) % (manyS n : Int)).toNat, by omega, by omega⟩
  rw [hnum]
  refine OpS.mkL (SquareNumber_run hn number hnl) (⟨_, Tryz.func57, rfl, rfl⟩ : Enters Tryz.prog 57) rfl rfl rfl ?_
  intro xs cid cg H4 hlk hl4 hc
  have l3 : H3.length = H.length + 1 := by rw [f3.1, f2.1, List.length_append]; rfl
  simp(maxSteps:=999999)(disch:=omega)only[go_sem,zA,zM,zS,zE,zL]
  refine ⟨_, HLe.refl _, cid, cg, rfl, ⟨xs, hlk, by omega⟩, (r3.app (X := H4)).mono (by omega), hlt, by simp at hc; omega, by simp; omega, fun k hk hne => ?_⟩
  rw [List.getElem?_append_left (by omega), f3.2 k (by simp; exact hne), f2.2 k (by simp; exact hne), List.getElem?_append_left hk]
theorem frz_view {H : Heap} {id g off n : Nat} {lim : Option Nat} {zs : List Int} (h : look H id g = some ⟨g, 1, cl (eI .i64) zs⟩) (hn : off + n ≤ zs.length) : frzC H (.own id g off n lim) = some (.f (fints ((zs.drop off).take n))) := by
  have e : ((cl (eI .i64) zs).drop off).take (n * 1) = cl (eI .i64) ((zs.drop off).take n) := by
    have e1 : (cl (eI .i64) zs).drop off = cl (eI .i64) (zs.drop off) := by
      have := List.take_append_drop off zs
      conv => lhs; rw [← this, cl_append]
      rw [List.drop_append_of_le_length (by rw [cl_length]; simp; omega), List.drop_of_length_le (by rw [cl_length]; simp; omega), List.nil_append]
    rw [e1, Nat.mul_one]
    have := List.take_append_drop n (zs.drop off)
    conv => lhs; rw [← this, cl_append]
    rw [List.take_append_of_le_length (by rw [cl_length]; simp; omega), List.take_of_length_le (by rw [cl_length]; simp; omega)]
  have hl : ((zs.drop off).take n).length = n := by simp; omega
  simp only [frzC, frz, h, e, frz_cl, Option.map_some]
  rw [show fints ((zs.drop off).take n) = .sl ((zs.drop off).take n).length (fl (eI .i64) ((zs.drop off).take n)) from rfl, hl]
end Go.Lg
