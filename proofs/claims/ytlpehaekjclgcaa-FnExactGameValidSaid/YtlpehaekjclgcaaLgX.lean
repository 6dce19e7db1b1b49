/- More of what the reckoning goes by: ways by what is known, structs, rules and puzzles as cells. -/
import Derived.Test.YtlpehaekjclgcaaLgQ
set_option linter.unusedSimpArgs false
set_option linter.unusedVariables false
namespace Go.Lg

section
variable {P : Program} {ops r : Array Oper} {rl : List Oper} {s : List AV} {H : Heap} {K : KS} {Q : KT} {d : Option Tmp} {op : Op} {t : TypeId} {p : String} {e : Array Edge} {gd : Option (Nat × Bool)} {c x y : Code} {w : Bool} {q : Prop} [Decidable q]
theorem guardK_dec (h1 : q → guardK P ops ⟨d, op, t, p, e, gd⟩ rl s H K w (some true)) (h2 : ¬ q → guardK P ops ⟨d, op, t, p, e, gd⟩ rl s H K w (some false)) : guardK P ops ⟨d, op, t, p, e, gd⟩ rl s H K w (some (decide q)) := by
  by_cases h : q
  · rw [decide_eq_true h]; exact h1 h
  · rw [decide_eq_false h]; exact h2 h
theorem guardK_ndec (h1 : q → guardK P ops ⟨d, op, t, p, e, gd⟩ rl s H K w (some false)) (h2 : ¬ q → guardK P ops ⟨d, op, t, p, e, gd⟩ rl s H K w (some true)) : guardK P ops ⟨d, op, t, p, e, gd⟩ rl s H K w (some (!decide q)) := by
  by_cases h : q
  · rw [decide_eq_true h]; exact h1 h
  · rw [decide_eq_false h]; exact h2 h
theorem guardK_nb {b : Bool} (h1 : b = true → guardK P ops ⟨d, op, t, p, e, gd⟩ rl s H K w (some false)) (h2 : b = false → guardK P ops ⟨d, op, t, p, e, gd⟩ rl s H K w (some true)) : guardK P ops ⟨d, op, t, p, e, gd⟩ rl s H K w (some (!b)) := by
  cases b
  · exact h2 rfl
  · exact h1 rfl
theorem guardQ_dec {G : KS} (h1 : q → guardQ P ops ⟨d, op, t, p, e, gd⟩ rl s H G w (some true)) (h2 : ¬ q → guardQ P ops ⟨d, op, t, p, e, gd⟩ rl s H G w (some false)) : guardQ P ops ⟨d, op, t, p, e, gd⟩ rl s H G w (some (decide q)) := by
  by_cases h : q
  · rw [decide_eq_true h]; exact h1 h
  · rw [decide_eq_false h]; exact h2 h
theorem guardQ_ndec {G : KS} (h1 : q → guardQ P ops ⟨d, op, t, p, e, gd⟩ rl s H G w (some false)) (h2 : ¬ q → guardQ P ops ⟨d, op, t, p, e, gd⟩ rl s H G w (some true)) : guardQ P ops ⟨d, op, t, p, e, gd⟩ rl s H G w (some (!decide q)) := by
  by_cases h : q
  · rw [decide_eq_true h]; exact h1 h
  · rw [decide_eq_false h]; exact h2 h
theorem guardQ_nb {b : Bool} {G : KS} (h1 : b = true → guardQ P ops ⟨d, op, t, p, e, gd⟩ rl s H G w (some false)) (h2 : b = false → guardQ P ops ⟨d, op, t, p, e, gd⟩ rl s H G w (some true)) : guardQ P ops ⟨d, op, t, p, e, gd⟩ rl s H G w (some (!b)) := by
  cases b
  · exact h2 rfl
  · exact h1 rfl
theorem condK_dec (h1 : q → cw P x s H Q) (h2 : ¬ q → cw P y s H Q) : condK P x y s H Q (decide q) := by
  by_cases h : q
  · rw [decide_eq_true h, condK_t]; exact h1 h
  · rw [decide_eq_false h, condK_f]; exact h2 h
theorem condK_ndec (h1 : q → cw P y s H Q) (h2 : ¬ q → cw P x s H Q) : condK P x y s H Q (!decide q) := by
  by_cases h : q
  · rw [decide_eq_true h]; exact condK_f ▸ h1 h
  · rw [decide_eq_false h]; exact condK_t ▸ h2 h
theorem condK_b {b : Bool} (h1 : b = true → cw P x s H Q) (h2 : b = false → cw P y s H Q) : condK P x y s H Q b := by
  cases b
  · rw [condK_f]; exact h2 rfl
  · rw [condK_t]; exact h1 rfl
theorem condK_nb {b : Bool} (h1 : b = true → cw P y s H Q) (h2 : b = false → cw P x s H Q) : condK P x y s H Q (!b) := by
  cases b
  · exact condK_t ▸ h2 rfl
  · exact condK_f ▸ h1 rfl
end

/-! memory whose cells are told one by one -/
theorem resV_cell (P : Program) (s : List AV) (H : Heap) (t : Nat) (ty : TypeId) : resV P s H [.cell t ty] = loadV P H ty (s.getD t .void) := by
  simp only [resV, resAll, resOne]
  cases loadV P H ty (s.getD t .void) <;> rfl
theorem ldP_zero {g sz : Nat} {c : CV} {l : List CV} : ldP (some ⟨g, sz, c :: l⟩) 0 = some (.c c) := rfl
theorem ldP_succ {g sz n : Nat} {c : CV} {l : List CV} : ldP (some ⟨g, sz, c :: l⟩) (n + 1) = ldP (some ⟨g, sz, l⟩) n := rfl
def ldN (b : Option Blk) (off n : Nat) : Option (List CV) := match b with
  | some b => if off + n ≤ b.cs.length then some ((b.cs.drop off).take n) else none
  | none => none
theorem cellsAt_ptr {H : Heap} {id g off n : Nat} : cellsAt H (.ptr id g off) n = ldN (look H id g) off n := rfl
theorem ldN_succ {g sz n off : Nat} {c : CV} {l : List CV} : ldN (some ⟨g, sz, c :: l⟩) (off + 1) n = ldN (some ⟨g, sz, l⟩) off n := by
  simp only [ldN, List.length_cons, List.drop_succ_cons]
  by_cases h : off + n ≤ l.length
  · rw [if_pos h, if_pos (by omega)]
  · rw [if_neg h, if_neg (by omega)]
theorem ldN_z {g sz : Nat} {l : List CV} : ldN (some ⟨g, sz, l⟩) 0 0 = some [] := by simp [ldN]
theorem ldN_zs {g sz n : Nat} {c : CV} {l : List CV} : ldN (some ⟨g, sz, c :: l⟩) 0 (n + 1) = (ldN (some ⟨g, sz, l⟩) 0 n).map (c :: ·) := by
  simp only [ldN, List.length_cons, List.drop_zero, List.take_succ_cons]
  by_cases h : 0 + n ≤ l.length
  · rw [if_pos h, if_pos (by omega)]; rfl
  · rw [if_neg h, if_neg (by omega)]; rfl
theorem setRange_z {l : List CV} : setRange l 0 [] = l := by simp [setRange]
theorem setRange_zs {c d : CV} {l m : List CV} : setRange (c :: l) 0 (d :: m) = d :: setRange l 0 m := by simp [setRange]
theorem setRange_s {c : CV} {l m : List CV} {n : Nat} : setRange (c :: l) (n + 1) m = c :: setRange l n m := by
  simp only [setRange, List.take_succ_cons, List.cons_append, List.cons.injEq, true_and]
  rw [show n + 1 + m.length = n + m.length + 1 by omega, List.drop_succ_cons]
theorem ldP_clj {α : Type} {E : α → List FV} {n : Nat} [Inhabited α] [hs : HSz E n] {g sz : Nat} {xs : List α} {e : Int} {j : Nat} (h : 0 ≤ e ∧ e < (xs.length : Int)) (hj : j < n) :
    ldP (some ⟨g, sz, cl E xs⟩) (0 + e.toNat * n + j) = some (.c (.f ((E (nth xs e)).getD j .nil))) := by
  have hi : e.toNat < xs.length := by omega
  have := fl_getAt (E := E) (xs := xs) hi hj
  rw [ldP_some, Nat.zero_add, nth_eq h]
  simp only [cl, List.getElem?_map, this, Option.map_some]
theorem ldN_cl {α : Type} {E : α → List FV} {n : Nat} [Inhabited α] [hs : HSz E n] {g sz : Nat} {xs : List α} {e : Int} (h : 0 ≤ e ∧ e < (xs.length : Int)) :
    ldN (some ⟨g, sz, cl E xs⟩) (0 + e.toNat * n) n = some ((E (nth xs e)).map .f) := by
  have hi : e.toNat < xs.length := by omega
  have h2 := fl_at (E := E) xs hi
  simp only [ldN, cl_length, Nat.zero_add]
  rw [if_pos (by rw [← Nat.succ_mul]; exact Nat.mul_le_mul_right _ hi), nth_eq h]
  simp only [cl, ← List.map_drop, ← List.map_take, h2]
theorem setRange_clI {α : Type} {E : α → List FV} {n : Nat} [hs : HSz E n] {xs : List α} {e : Int} {v : α} {l : List CV} (hl : (E v).map .f = l) (h : 0 ≤ e ∧ e < (xs.length : Int)) :
    setRange (cl E xs) (0 + e.toNat * n) l = cl E (xs.set e.toNat v) := by
  subst hl
  exact setRange_cl (E := E) (by omega)

theorem cutS_fl0 {α : Type} {E : α → List FV} {sz : Nat} [h : HSz E sz] {xs : List α} {b : Int} (hb : 0 ≤ b ∧ b ≤ xs.length) : cutS sz xs.length (fl E xs) 0 b.toNat = some (rsl E (sub xs 0 b)) := cutS_fl (a := 0) (by omega)
theorem cutS_flN {α : Type} {E : α → List FV} {sz : Nat} [h : HSz E sz] {xs : List α} {a : Int} (hb : 0 ≤ a ∧ a ≤ xs.length) : cutS sz xs.length (fl E xs) a.toNat xs.length = some (rsl E (sub xs a xs.length)) := cutS_fl (b := xs.length) (by omega)
theorem cutT_sub0 {l : List UInt8} {b : Int} (hb : 0 ≤ b ∧ b ≤ l.length) : cutT l 0 b.toNat = some (txt (sub l 0 b)) := cutT_sub (a := 0) (by omega)
theorem cutT_subN {l : List UInt8} {a : Int} (hb : 0 ≤ a ∧ a ≤ l.length) : cutT l a.toNat l.length = some (txt (sub l a l.length)) := cutT_sub (b := l.length) (by omega)
theorem bool_ff {q : Prop} [Decidable q] (h : ¬ q) : false = decide q := (decide_eq_false h).symm
theorem bool_tt {q : Prop} [Decidable q] (h : q) : true = decide q := (decide_eq_true h).symm
theorem bool_pq {p q : Prop} [Decidable p] [Decidable q] (h : p ↔ q) : decide p = decide q := decide_eq_decide.2 h
/-! rules, puzzles, games, lines of proofs -/
structure Rul where
  kind : Int
  cells : List Int
  val : Int
  deriving DecidableEq, Inhabited
structure Puz where
  size : Int
  given : List Int
  rules : List Rul
  deriving DecidableEq, Inhabited
structure Gam where
  task : Puz
  put : List Int
  moves : List Int
  deriving DecidableEq, Inhabited
structure Brn where
  tech : Int
  cell : Int
  deriving DecidableEq, Inhabited
structure Hnt where
  tech : Int
  cell : Int
  val : Int
  deriving DecidableEq, Inhabited
def eR (r : Rul) : List FV := [.int .i64 r.kind, fints r.cells, .int .i64 r.val]
instance : HSz eR 3 := ⟨fun _ => rfl⟩
def eB (b : Brn) : List FV := [.int .i64 b.tech, .int .i64 b.cell]
instance : HSz eB 2 := ⟨fun _ => rfl⟩
/-- A list of lists of numbers. -/
def eL (l : List Int) : List FV := [fints l]
instance : HSz eL 1 := ⟨fun _ => rfl⟩
theorem eR_0 (r : Rul) : (eR r).getD 0 .nil = .int .i64 r.kind := rfl
theorem eR_1 (r : Rul) : (eR r).getD 1 .nil = fints r.cells := rfl
theorem eR_2 (r : Rul) : (eR r).getD 2 .nil = .int .i64 r.val := rfl
theorem eB_0 (r : Brn) : (eB r).getD 0 .nil = .int .i64 r.tech := rfl
theorem eB_1 (r : Brn) : (eB r).getD 1 .nil = .int .i64 r.cell := rfl
theorem eL_0 (l : List Int) : (eL l).getD 0 .nil = fints l := rfl
abbrev cR (r : Rul) : List CV := [.f (.int .i64 r.kind), .f (fints r.cells), .f (.int .i64 r.val)]
abbrev cB (b : Brn) : List CV := [.f (.int .i64 b.tech), .f (.int .i64 b.cell)]
abbrev cP (p : Puz) : List CV := [.f (.int .i64 p.size), .f (fints p.given), .f (fsl eR p.rules)]
abbrev cG (g : Gam) : List CV := [.f (.int .i64 g.task.size), .f (fints g.task.given), .f (fsl eR g.task.rules), .f (fints g.put), .f (fints g.moves)]
abbrev cH (h : Hnt) : List CV := [.f (.int .i64 h.tech), .f (.int .i64 h.cell), .f (.int .i64 h.val)]
abbrev aR (r : Rul) : AV := .agg (cR r)
abbrev aB (b : Brn) : AV := .agg (cB b)
abbrev aP (p : Puz) : AV := .agg (cP p)
abbrev aG (g : Gam) : AV := .agg (cG g)
abbrev aH (h : Hnt) : AV := .agg (cH h)
theorem eR_map (r : Rul) : (eR r).map CV.f = cR r := rfl
theorem eB_map (r : Brn) : (eB r).map CV.f = cB r := rfl
theorem eL_map (r : List Int) : (eL r).map CV.f = [.f (fints r)] := rfl
theorem rul_eta (r : Rul) : (⟨r.kind, r.cells, r.val⟩ : Rul) = r := rfl

attribute [go_sem] cutS_fl0 cutS_flN cutT_sub0 cutT_subN resV_cell ldP_zero ldP_succ cellsAt_ptr ldN_succ ldN_z ldN_zs setRange_z setRange_zs setRange_s ldP_clj ldN_cl eR_0 eR_1 eR_2 eB_0 eB_1 eL_0 eR_map eB_map eL_map moved fieldV fieldA boxM
end Go.Lg
