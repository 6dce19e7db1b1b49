/- LgN2, LgO, cut to what is needed. -/
import Derived.Test.YtfkhojmllokgoaaDoorYaa8
import Derived.IntWalk
open Nat renaming reduceAdd → zA, reduceMul → zM, reduceSub → zS, reduceEqDiff → zE, reduceLeDiff → zL
set_option linter.unusedSimpArgs false
set_option linter.unusedVariables false
namespace Go.Lg
def boolV : AV → Option Bool
  | .c (.f (.bool b)) => some b
  | _ => none
theorem boolV_some {v : AV} {b : Bool} (h : boolV v = some b) : v = .c (.f (.bool b)) := by
  unfold boolV at h
  split at h
  · cases h; rfl
  · cases h
def condP (b : Bool) (A B : Prop) : Prop := (b = true → A) ∧ (b = false → B)
abbrev KT := Exit → List AV → Heap → Prop
def drawP (P : Program) (ops : Array Oper) (s : List AV) (H : Heap) (K : KS) : Prop :=
  P.follows .mixedOrders = true ∧ ((softB ops = true ∧ qw P ops ops.toList s H K) ∨ ∃ π F D σ m, planB ops π F D σ = true ∧ lw P ops m F D π none s H fun s H => sw P ops σ s H K)
theorem drawP_q {P : Program} {ops : Array Oper} {s : List AV} {H : Heap} {K : KS} (hm : P.follows .mixedOrders = true) (hB : softB ops = true) (h : qw P ops ops.toList s H K) : drawP P ops s H K := ⟨hm, .inl ⟨hB, h⟩⟩
theorem drawP_sound {P : Program} {id : Nat} {ops : Array Oper} {s : List AV} {H : Heap} {Q : Exit → St → Prop} (h : drawP P ops s H fun s H => Q .normal ⟨s, H⟩) : RunC P (.region id ops true) ⟨s, H⟩ Q := by
  obtain ⟨hm, ⟨hB, h⟩ | ⟨π, F, D, σ, m, hB, h⟩⟩ := h
  · exact RunC.regionF hm hB (qw_sound _ _ _ _ h)
  · exact RunC.regionL π F D σ m hm hB h
def cw (P : Program) : Code → List AV → Heap → KT → Prop
  | .skip, s, H, K => K .normal s H
  | .exit id, s, H, K => K (.exit id) s H
  | .ret, s, H, K => K .ret s H
  | .region _ ops false, s, H, K => vw P ops ops.toList s H (K .normal)
  | .region _ ops true, s, H, K => drawP P ops s H (K .normal)
  | .seq x y, s, H, K => cw P x s H fun e s' H' => match e with
    | .normal => cw P y s' H' K
    | e => K e s' H'
  | .cond c x y, s, H, K => bindP (boolV (evO s c)) fun b => condP b (cw P x s H K) (cw P y s H K)
  | .block id c, s, H, K => cw P c s H fun e s' H' => match e with
    | .exit id' => if id' = id then K .normal s' H' else K (.exit id') s' H'
    | e => K e s' H'
  | c, s, H, K => RunC P c ⟨s, H⟩ fun e st => K e st.s st.h
def seqK (P : Program) (y : Code) (K : KT) : KT := fun e s' H' => match e with
    | .normal => cw P y s' H' K
    | e => K e s' H'
def condK (P : Program) (x y : Code) (s : List AV) (H : Heap) (K : KT) : Bool → Prop := fun b => condP b (cw P x s H K) (cw P y s H K)
def blockK (id : Nat) (K : KT) : KT := fun e s' H' => match e with
    | .exit id' => if id' = id then K .normal s' H' else K (.exit id') s' H'
    | e => K e s' H'
def stK (K : KT) : Exit → St → Prop := fun e st => K e st.s st.h
theorem cw_sound {P : Program} : ∀ (c : Code) (s : List AV) (H : Heap) (K : KT), cw P c s H K → RunC P c ⟨s, H⟩ (stK K)
  | .skip, s, H, K, h => RunC.skip h
  | .exit id, s, H, K, h => RunC.exit h
  | .ret, s, H, K, h => RunC.ret h
  | .region _ ops false, s, H, K, h => RunC.region (vw_sound _ _ _ _ h)
  | .region _ ops true, s, H, K, h => drawP_sound h
  | .seq x y, s, H, K, h => RunC.seq ((cw_sound x s H _ h).mono fun e st hq => by
      cases e with
      | normal => exact cw_sound y _ _ K hq
      | exit id => exact hq
      | goto l => exact hq
      | ret => exact hq
      | panic c => exact hq
      | outgrown => exact hq)
  | .cond c x y, s, H, K, h => by
    obtain ⟨b, h1, h2, h3⟩ := h
    exact RunC.cond (boolV_some h1) (fun hb => cw_sound x s H K (h2 hb)) (fun hb => cw_sound y s H K (h3 hb))
  | .block id c, s, H, K, h => RunC.block ((cw_sound c s H _ h).mono fun e st hq => by
      cases e with
      | exit id' => exact hq
      | normal => exact hq
      | goto l => exact hq
      | ret => exact hq
      | panic c => exact hq
      | outgrown => exact hq)
  | .loop _, s, H, K, h => h
  | .rangeFunc _ _ _ _, s, H, K, h => h
  | .scope _, s, H, K, h => h
  | .label _, s, H, K, h => h
  | .goto _, s, H, K, h => h
  | .refuse _, s, H, K, h => h
def doneK (P : Program) (rs : List ResultVar) (Q : KV) : KT := fun e s H => (e = .normal ∨ e = .ret) ∧ bindP (resV P s H rs) fun v => ∃ H', HLe H H' ∧ Q v H'
def lessQ (H : Heap) (Q : KV) : AV → Prop := fun v => ∃ H', HLe H H' ∧ Q v H'
theorem RunCall.cw {P : Program} {f : FuncId} {fn : Func} {c : Code} {args : List AV} {H : Heap} {Q : KV} (hf : P.funcs[f]? = some fn) (hb : fn.body = some c) {n : Nat} (hn : fn.ntmps = n) {rs : List ResultVar} (hr : fn.results.toList = rs)
    (h : Lg.cw P c (args ++ List.replicate (n - args.length) .void) H (doneK P rs Q)) : RunCall P f args H Q := by
  subst hn hr
  exact RunCall.of_body hf hb ((cw_sound _ _ _ _ h).mono fun e st ⟨h1, v, h2, H', h3, h4⟩ => ⟨h1, v, H', h2, h3, h4⟩)
section
variable {P : Program} {ops : Array Oper} {s : List AV} {H : Heap} {K : KS} {Q : KT} {F : KV}
theorem cw_skip : cw P .skip s H Q = Q .normal s H := propext Iff.rfl
theorem cw_exit (i : Nat) : cw P (.exit i) s H Q = Q (.exit i) s H := propext Iff.rfl
theorem cw_ret : cw P .ret s H Q = Q .ret s H := propext Iff.rfl
theorem cw_region (i : Nat) (l : List Oper) : cw P (.region i l.toArray false) s H Q = vw P l.toArray l s H (Q .normal) := propext Iff.rfl
theorem cw_regionQ (i : Nat) (l : List Oper) : cw P (.region i l.toArray true) s H Q = drawP P l.toArray s H (Q .normal) := propext Iff.rfl
theorem cw_seq (x y : Code) : cw P (.seq x y) s H Q = cw P x s H (seqK P y Q) := propext Iff.rfl
theorem cw_cond (c : Operand) (x y : Code) : cw P (.cond c x y) s H Q = bindP (boolV (evO s c)) (condK P x y s H Q) := propext Iff.rfl
theorem cw_block (i : Nat) (c : Code) : cw P (.block i c) s H Q = cw P c s H (blockK i Q) := propext Iff.rfl
theorem cw_loop (c : Code) : cw P (.loop c) s H Q = RunC P (.loop c) ⟨s, H⟩ (stK Q) := propext Iff.rfl
theorem condK_ap (x y : Code) (b : Bool) : condK P x y s H Q b = condP b (cw P x s H Q) (cw P y s H Q) := propext Iff.rfl
theorem seqK_normal (y : Code) : seqK P y Q .normal s H = cw P y s H Q := propext Iff.rfl
theorem seqK_exit (y : Code) (i : Nat) : seqK P y Q (.exit i) s H = Q (.exit i) s H := propext Iff.rfl
theorem seqK_ret (y : Code) : seqK P y Q .ret s H = Q .ret s H := propext Iff.rfl
theorem blockK_normal (i : Nat) : blockK i Q .normal s H = Q .normal s H := propext Iff.rfl
theorem blockK_ret (i : Nat) : blockK i Q .ret s H = Q .ret s H := propext Iff.rfl
theorem blockK_hit (i : Nat) : blockK i Q (.exit i) s H = Q .normal s H := by simp [blockK]
theorem doneK_ret (rs : List ResultVar) : doneK P rs F .ret s H = bindP (resV P s H rs) (lessQ H F) := by simp only [doneK, reduceCtorEq, true_or, or_true, true_and]; rfl
theorem doneK_normal (rs : List ResultVar) : doneK P rs F .normal s H = bindP (resV P s H rs) (lessQ H F) := by simp only [doneK, reduceCtorEq, true_or, or_true, true_and]; rfl
theorem vw_nil : vw P ops [] s H K = K s H := by rw [vw]
theorem vw_cons (d : Option Tmp) (op : Op) (t : TypeId) (p : String) (e : Array Edge) (r : List Oper) :
    vw P ops (⟨d, op, t, p, e, none⟩ :: r) s H K = opW P ⟨d, op, t, p, e, none⟩ s H (vwK P ops r s d K) := by rw [vw]; rfl
theorem vw_guard (d : Option Tmp) (op : Op) (t : TypeId) (p : String) (e : Array Edge) (j : Nat) (want : Bool) (r : List Oper) :
    vw P ops (⟨d, op, t, p, e, some (j, want)⟩ :: r) s H K = bindP (guardV ops s j) (guardK P ops ⟨d, op, t, p, e, some (j, want)⟩ r s H K want) := by rw [vw]; rfl
theorem vwK_ap (r : List Oper) (d : Option Tmp) (v : AV) (H' : Heap) : vwK P ops r s d K v H' = vw P ops r (putS s d v) H' K := propext Iff.rfl
theorem guardK_ap (d : Option Tmp) (op : Op) (t : TypeId) (p : String) (e : Array Edge) (gd : Option (Nat × Bool)) (r : List Oper) (want : Bool) (g : Option Bool) :
    guardK P ops ⟨d, op, t, p, e, gd⟩ r s H K want g = guardP g want (opW P ⟨d, op, t, p, e, gd⟩ s H (vwK P ops r s d K)) (vw P ops r (putS s d .void) H K) := propext Iff.rfl
theorem qw_nil : qw P ops [] s H K = K s H := by rw [qw]
theorem qw_cons (d : Option Tmp) (op : Op) (t : TypeId) (p : String) (e : Array Edge) (r : List Oper) :
    qw P ops (⟨d, op, t, p, e, none⟩ :: r) s H K = quietW P ops ⟨d, op, t, p, e, none⟩ s H (qwK P ops r s d H K) := by rw [qw]; rfl
theorem qw_guard (d : Option Tmp) (op : Op) (t : TypeId) (p : String) (e : Array Edge) (j : Nat) (want : Bool) (r : List Oper) :
    qw P ops (⟨d, op, t, p, e, some (j, want)⟩ :: r) s H K = bindP (guardV ops s j) (guardQ P ops ⟨d, op, t, p, e, some (j, want)⟩ r s H K want) := by rw [qw]; rfl
theorem qwK_ap (r : List Oper) (d : Option Tmp) (v : AV) : qwK P ops r s d H K v = qw P ops r (putS s d v) H K := propext Iff.rfl
theorem guardQ_ap (d : Option Tmp) (op : Op) (t : TypeId) (p : String) (e : Array Edge) (gd : Option (Nat × Bool)) (r : List Oper) (want : Bool) (g : Option Bool) :
    guardQ P ops ⟨d, op, t, p, e, gd⟩ r s H K want g = guardP g want (quietW P ops ⟨d, op, t, p, e, gd⟩ s H (qwK P ops r s d H K)) (qw P ops r (putS s d .void) H K) := propext Iff.rfl
theorem guardP_tt (A B : Prop) : guardP (some true) true A B = A := by simp [guardP]
theorem guardP_ff (A B : Prop) : guardP (some false) false A B = A := by simp [guardP]
theorem guardP_tf (A B : Prop) : guardP (some true) false A B = B := by simp [guardP]
theorem guardP_ft (A B : Prop) : guardP (some false) true A B = B := by simp [guardP]
theorem guardP_none (w : Bool) (A B : Prop) : guardP none w A B = B := by simp [guardP]
theorem condP_t (A B : Prop) : condP true A B = A := by simp [condP]
theorem condP_f (A B : Prop) : condP false A B = B := by simp [condP]
theorem boolV_b (b : Bool) : boolV (.c (.f (.bool b))) = some b := rfl
variable {d : Option Tmp} {t : TypeId} {p : String} {e : Array Edge} {g : Option (Nat × Bool)}
def pickK (s : List AV) (H : Heap) (x y : Operand) (F : KV) : Bool → Prop := fun b => F (if b then evO s x else evO s y) H
theorem pickK_t (x y : Operand) : pickK s H x y F true = F (evO s x) H := propext Iff.rfl
theorem pickK_f (x y : Operand) : pickK s H x y F false = F (evO s y) H := propext Iff.rfl
theorem pickK_ap (x y : Operand) (b : Bool) : pickK s H x y F b = F (if b then evO s x else evO s y) H := propext Iff.rfl
theorem opW_move (x : Operand) : opW P ⟨d, .move x, t, p, e, g⟩ s H F = F (evO s x) H := by simp [opW, isVal, opV, bindP, atH]
theorem opW_assign (x : Operand) : opW P ⟨d, .assign x, t, p, e, g⟩ s H F = F (evO s x) H := by simp [opW, isVal, opV, bindP, atH]
theorem opV_pick (c x y : Operand) : opV P s H (.pick c x y) = (boolV (evO s c)).map fun b => if b then evO s x else evO s y := by
  simp only [opV, boolV]
  cases evO s c with
  | c x => cases x with
    | f y => cases y <;> rfl
    | _ => rfl
  | _ => rfl
theorem opW_pick (c x y : Operand) : opW P ⟨d, .pick c x y, t, p, e, g⟩ s H F = bindP (boolV (evO s c)) (pickK s H x y F) := by
  simp only [opW, isVal, if_true, opV_pick, bindP_map]; rfl
theorem opW_bin (op : BinOp) (xt : TypeId) (x y : Operand) (yt : TypeId) : opW P ⟨d, .binOp op xt x y yt, t, p, e, g⟩ s H F = bindP (binV P s H op xt x y) (atH F H) := propext Iff.rfl
theorem opW_un (op : UnOp) (xt : TypeId) (x : Operand) : opW P ⟨d, .unOp op xt x, t, p, e, g⟩ s H F = bindP (unV op (evO s x)) (atH F H) := propext Iff.rfl
theorem opW_conv (st dt : TypeId) (x : Operand) : opW P ⟨d, .convert st dt x, t, p, e, g⟩ s H F = bindP (convV P H st dt (evO s x)) (atH F H) := propext Iff.rfl
theorem opW_fieldAddr (st : TypeId) (x : Operand) (f : Nat) : opW P ⟨d, .fieldAddr st x f, t, p, e, g⟩ s H F = bindP (fieldV P H st (evO s x) f) (atH F H) := propext Iff.rfl
theorem opW_field (st : TypeId) (x : Operand) (f : Nat) : opW P ⟨d, .field st x f, t, p, e, g⟩ s H F = bindP (fieldA P st (evO s x) f) (atH F H) := propext Iff.rfl
theorem opW_indexAddr (st : TypeId) (x i : Operand) : opW P ⟨d, .indexAddr st x i, t, p, e, g⟩ s H F = bindP (elemV P H st (evO s x) (evO s i)) (atH F H) := propext Iff.rfl
theorem opW_index (st : TypeId) (x i : Operand) : opW P ⟨d, .index st x i, t, p, e, g⟩ s H F = bindP (indexV P st (evO s x) (evO s i)) (atH F H) := propext Iff.rfl
theorem opW_load (st : TypeId) (x : Operand) : opW P ⟨d, .load st x, t, p, e, g⟩ s H F = bindP (loadV P H st (evO s x)) (atH F H) := propext Iff.rfl
theorem opW_nilCheck (x : Operand) : opW P ⟨d, .nilCheck x, t, p, e, g⟩ s H F = bindP (nilV H (evO s x)) (atH F H) := propext Iff.rfl
def sliceO (P : Program) (s : List AV) (H : Heap) (st : TypeId) (x : Operand) (lo hi mx : Option Operand) : Option AV := match bound s lo, bound s hi, bound s mx with
    | some l, some h, some m => sliceV P H st (evO s x) l h m
    | _, _, _ => none
theorem opW_slice (st : TypeId) (x : Operand) (lo hi mx : Option Operand) : opW P ⟨d, .slice st x lo hi mx, t, p, e, g⟩ s H F = bindP (sliceO P s H st x lo hi mx) (atH F H) := propext Iff.rfl
theorem opW_len (x : Operand) (xt : TypeId) : opW P ⟨d, .call ⟨.builtin .len, #[x], #[xt]⟩, t, p, e, g⟩ s H F = bindP (lenO P H xt (evO s x)) (atH F H) := propext Iff.rfl
theorem opW_min (x y : Operand) (ts : Array TypeId) : opW P ⟨d, .call ⟨.builtin .min, #[x, y], ts⟩, t, p, e, g⟩ s H F = bindP (minV false (evO s x) (evO s y)) (atH F H) := propext Iff.rfl
theorem opW_max (x y : Operand) (ts : Array TypeId) : opW P ⟨d, .call ⟨.builtin .max, #[x, y], ts⟩, t, p, e, g⟩ s H F = bindP (minV true (evO s x) (evO s y)) (atH F H) := propext Iff.rfl
def extractO (i : Nat) : AV → Option AV
  | .tup vs => vs[i]?
  | _ => none
theorem opW_extract (x : Operand) (i : Nat) : opW P ⟨d, .extract x i, t, p, e, g⟩ s H F = bindP (extractO i (evO s x)) (atH F H) := propext Iff.rfl
theorem opW_makeFunc (f : FuncId) (fi ca : Array Operand) : opW P ⟨d, .makeFunc (.func f) fi ca, t, p, e, g⟩ s H F = bindP (if fi.size = 0 then (ca.toList.mapM (capOf s)).map fun l => .c (.fn f l) else none) (atH F H) := propext Iff.rfl
theorem opW_call (f : Operand) (xs : Array Operand) (ts : Array TypeId) : opW P ⟨d, .call ⟨.value f, xs, ts⟩, t, p, e, g⟩ s H F = OpS P ⟨d, .call ⟨.value f, xs, ts⟩, t, p, e, g⟩ ⟨s, H⟩ F := by simp [opW, isVal, opM]
theorem opW_append (x y : Operand) (u : TypeId) : opW P ⟨d, .call ⟨.builtin .append, #[x, y], #[u, u]⟩, t, p, e, g⟩ s H F = appendM P H u (evO s x) (evO s y) F := by simp [opW, isVal, opM]
theorem opW_box (bt : TypeId) (x : Operand) : opW P ⟨d, .box bt x, t, p, e, g⟩ s H F = boxM H (evO s x) F := propext Iff.rfl
theorem opW_alloc (bt : TypeId) : opW P ⟨d, .alloc bt, t, p, e, g⟩ s H F = allocM P H bt F := propext Iff.rfl
theorem opW_store (bt : TypeId) (x y : Operand) : opW P ⟨d, .store bt x y, t, p, e, g⟩ s H F = storeM P H bt (evO s x) (evO s y) F := propext Iff.rfl
theorem opW_buildSlice (bt : TypeId) (n : Nat) (ps : List (Nat × Operand)) : opW P ⟨d, .buildSlice bt n ps.toArray, t, p, e, g⟩ s H F = buildM P s H bt n ps F := propext Iff.rfl
theorem opW_makeSlice (bt : TypeId) (x y : Operand) : opW P ⟨d, .makeSlice bt x y, t, p, e, g⟩ s H F = makeM P H bt (evO s x) (evO s y) F := propext Iff.rfl
theorem evO_tmp (n : Nat) : evO s (.tmp n) = s.getD n .void := rfl
theorem evO_int (k : IntKind) (n : Int) : evO s (.const (.int k n)) = .c (.f (.int k n)) := rfl
theorem evO_bool (b : Bool) : evO s (.const (.bool b)) = .c (.f (.bool b)) := rfl
theorem evO_nil : evO s (.const (.slice none 0 0)) = .c (.f .nil) := rfl
theorem evO_fn (f : FuncId) : evO s (.func f) = .c (.fn f []) := rfl
theorem putS_some (n : Nat) (v : AV) : putS s (some n) v = s.set n v := rfl
theorem putS_none (v : AV) : putS s none v = s := rfl
def binA (P : Program) (H : Heap) (op : BinOp) (t : TypeId) (x y : AV) : Option AV :=
  match x, y with
  | .c (.f (.int k a)), .c (.f (.int k' b)) => (binI op k a k' b).map fun r => .c (.f r)
  | .c (.f (.str a)), .c (.f (.str b)) => match op with
    | .add => if a.size + b.size ≤ 9223372036854775807 then some (.c (.f (.str (a ++ b)))) else none
    | .eql => some (.c (.f (.bool (a.toList == b.toList))))
    | .neq => some (.c (.f (.bool (!(a.toList == b.toList)))))
    | _ => none
  | .c (.f (.bool a)), .c (.f (.bool b)) => match tinf P t with
    | some ti => match ti.k, op with
      | .bool, .eql => some (.c (.f (.bool (a == b))))
      | .bool, .neq => some (.c (.f (.bool (!(a == b)))))
      | _, _ => none
    | none => none
  | .agg cs, .agg ds => aggV P op t cs ds
  | vx, vy => match tinf P t, isNilV H vx, isNilV H vy with
    | some ti, some nx, some ny => match ti.k, op with
      | .slice _, .eql => if ny = true then some (.c (.f (.bool nx))) else if nx = true then some (.c (.f (.bool ny))) else none
      | .slice _, .neq => if ny = true then some (.c (.f (.bool (!nx)))) else if nx = true then some (.c (.f (.bool (!ny)))) else none
      | _, _ => none
    | _, _, _ => none
theorem binV_eq (op : BinOp) (xt : TypeId) (x y : Operand) : binV P s H op xt x y = binA P H op xt (evO s x) (evO s y) := rfl
theorem binA_int (op : BinOp) (xt : TypeId) (k k' : IntKind) (a b : Int) : binA P H op xt (.c (.f (.int k a))) (.c (.f (.int k' b))) = (binI op k a k' b).map fun r => .c (.f r) := rfl
end
end Go.Lg

namespace Go.Lg
abbrev int (n : Int) : AV := .c (.f (.int .i64 n))
abbrev bool (b : Bool) : AV := .c (.f (.bool b))
abbrev str (b : ByteArray) : AV := .c (.f (.str b))
theorem lessQ_is (H : Heap) (v r : AV) : lessQ H (isQ v) r = (r = v) := propext ⟨fun ⟨_, _, h⟩ => h, fun h => ⟨[], fun _ _ h => by simp at h, h⟩⟩
theorem OpS.rd {P : Program} {o : Oper} {st : St} {K : AV → Heap → Prop} {fo : Operand} {xs : Array Operand} {ts : Array TypeId} {f : FuncId} {args args' : List AV} {v : AV} {u : Value}
    (hc : Reads P f args' v) (he : Enters P f) (ho : o.op = .call ⟨.value fo, xs, ts⟩) (ha : callArgs st fo xs = some (f, args)) (hs : args.mapM (snapA st.h) = some args')
    (hf : flatV v = some u) (hk : K v st.h) : OpS P o st K := OpS.callStill ho ha he hs hc hf hk
section
variable {P : Program} {ops r : Array Oper} {rl : List Oper} {s : List AV} {H : Heap} {K : KS} {Q : KT} {d : Option Tmp} {op : Op} {t : TypeId} {p : String} {e : Array Edge} {gd : Option (Nat × Bool)} {c x y : Code} {b w : Bool}
theorem guardK_tt : guardK P ops ⟨d, op, t, p, e, gd⟩ rl s H K true (some true) = opW P ⟨d, op, t, p, e, gd⟩ s H (vwK P ops rl s d K) := by rw [guardK_ap, guardP_tt]
theorem guardK_ff : guardK P ops ⟨d, op, t, p, e, gd⟩ rl s H K false (some false) = opW P ⟨d, op, t, p, e, gd⟩ s H (vwK P ops rl s d K) := by rw [guardK_ap, guardP_ff]
theorem guardK_tf : guardK P ops ⟨d, op, t, p, e, gd⟩ rl s H K true (some false) = vw P ops rl (putS s d .void) H K := by rw [guardK_ap, guardP_ft]
theorem guardK_ft : guardK P ops ⟨d, op, t, p, e, gd⟩ rl s H K false (some true) = vw P ops rl (putS s d .void) H K := by rw [guardK_ap, guardP_tf]
theorem guardK_no : guardK P ops ⟨d, op, t, p, e, gd⟩ rl s H K w none = vw P ops rl (putS s d .void) H K := by rw [guardK_ap, guardP_none]
theorem guardK_split (h1 : b = true → guardK P ops ⟨d, op, t, p, e, gd⟩ rl s H K w (some true)) (h2 : b = false → guardK P ops ⟨d, op, t, p, e, gd⟩ rl s H K w (some false)) : guardK P ops ⟨d, op, t, p, e, gd⟩ rl s H K w (some b) := by
  cases b
  · exact h2 rfl
  · exact h1 rfl
theorem guardQ_tt {G : KS} : guardQ P ops ⟨d, op, t, p, e, gd⟩ rl s H G true (some true) = quietW P ops ⟨d, op, t, p, e, gd⟩ s H (qwK P ops rl s d H G) := by rw [guardQ_ap, guardP_tt]
theorem guardQ_ff {G : KS} : guardQ P ops ⟨d, op, t, p, e, gd⟩ rl s H G false (some false) = quietW P ops ⟨d, op, t, p, e, gd⟩ s H (qwK P ops rl s d H G) := by rw [guardQ_ap, guardP_ff]
theorem guardQ_tf {G : KS} : guardQ P ops ⟨d, op, t, p, e, gd⟩ rl s H G true (some false) = qw P ops rl (putS s d .void) H G := by rw [guardQ_ap, guardP_ft]
theorem guardQ_ft {G : KS} : guardQ P ops ⟨d, op, t, p, e, gd⟩ rl s H G false (some true) = qw P ops rl (putS s d .void) H G := by rw [guardQ_ap, guardP_tf]
theorem guardQ_no {G : KS} : guardQ P ops ⟨d, op, t, p, e, gd⟩ rl s H G w none = qw P ops rl (putS s d .void) H G := by rw [guardQ_ap, guardP_none]
theorem guardQ_split {G : KS} (h1 : b = true → guardQ P ops ⟨d, op, t, p, e, gd⟩ rl s H G w (some true)) (h2 : b = false → guardQ P ops ⟨d, op, t, p, e, gd⟩ rl s H G w (some false)) : guardQ P ops ⟨d, op, t, p, e, gd⟩ rl s H G w (some b) := by
  cases b
  · exact h2 rfl
  · exact h1 rfl
theorem condK_t : condK P x y s H Q true = cw P x s H Q := by rw [condK_ap, condP_t]
theorem condK_f : condK P x y s H Q false = cw P y s H Q := by rw [condK_ap, condP_f]
theorem condK_split (h1 : b = true → condK P x y s H Q true) (h2 : b = false → condK P x y s H Q false) : condK P x y s H Q b := by
  cases b
  · exact h2 rfl
  · exact h1 rfl
end
section
theorem binI_geq (k : IntKind) (a b : Int) : binI .geq k a k b = some (.bool (decide (b ≤ a))) := by simp [binI]
theorem binI_leq (k : IntKind) (a b : Int) : binI .leq k a k b = some (.bool (decide (a ≤ b))) := by simp [binI]
theorem binI_lss (k : IntKind) (a b : Int) : binI .lss k a k b = some (.bool (decide (a < b))) := by simp [binI]
theorem binI_gtr (k : IntKind) (a b : Int) : binI .gtr k a k b = some (.bool (decide (b < a))) := by simp [binI]
theorem binI_eql (k : IntKind) (a b : Int) : binI .eql k a k b = some (.bool (decide (a = b))) := by
  have : (a == b) = decide (a = b) := by rw [Bool.eq_iff_iff]; simp
  simp only [binI, if_true, this]
theorem binI_neq (k : IntKind) (a b : Int) : binI .neq k a k b = some (.bool (!decide (a = b))) := by
  have : (a == b) = decide (a = b) := by rw [Bool.eq_iff_iff]; simp
  simp only [binI, if_true, bne, this]
theorem binI_add (k : IntKind) (a b : Int) : binI .add k a k b = some (.int k (k.wrap (a + b))) := by simp [binI]
theorem binI_sub (k : IntKind) (a b : Int) : binI .sub k a k b = some (.int k (k.wrap (a - b))) := by simp [binI]
theorem binI_mul (k : IntKind) (a b : Int) : binI .mul k a k b = some (.int k (k.wrap (a * b))) := by simp [binI]
theorem binI_quo (k : IntKind) (a b : Int) : binI .quo k a k b = if b ≠ 0 then some (.int k (k.wrap (a.tdiv b))) else none := by simp [binI]
theorem binI_rem (k : IntKind) (a b : Int) : binI .rem k a k b = if b ≠ 0 then some (.int k (a.tmod b)) else none := by simp [binI]
theorem binI_and (k : IntKind) (a b : Int) : binI .and k a k b = some (.int k (bitsI .and k a b)) := by simp [binI]
theorem binI_or (k : IntKind) (a b : Int) : binI .or k a k b = some (.int k (bitsI .or k a b)) := by simp [binI]
theorem binI_xor (k : IntKind) (a b : Int) : binI .xor k a k b = some (.int k (bitsI .xor k a b)) := by simp [binI]
theorem binI_andNot (k : IntKind) (a b : Int) : binI .andNot k a k b = some (.int k (bitsI .andNot k a b)) := by simp [binI]
theorem unV_not (b : Bool) : unV .not (bool b) = some (bool (!b)) := rfl
theorem unV_neg (k : IntKind) (n : Int) : unV .neg (.c (.f (.int k n))) = some (.c (.f (.int k (k.wrap (0 - n))))) := rfl
theorem resV_one (P : Program) (s : List AV) (H : Heap) (t : Nat) : resV P s H [.tmp t] = some (s.getD t .void) := rfl
theorem resV_two (P : Program) (s : List AV) (H : Heap) (t u : Nat) : resV P s H [.tmp t, .tmp u] = some (.tup [s.getD t .void, s.getD u .void]) := rfl
theorem resV_three (P : Program) (s : List AV) (H : Heap) (t u v : Nat) : resV P s H [.tmp t, .tmp u, .tmp v] = some (.tup [s.getD t .void, s.getD u .void, s.getD v .void]) := rfl
theorem guardV_lit {ops : Array Oper} {s : List AV} {j : Nat} : guardV ops s j = match (ops[j]?).bind (·.dst) with
  | none => some none
  | some d => match s[d]? with
    | none => some none
    | some (.c (.f (.bool b))) => some (some b)
    | some .void => some none
    | _ => none := rfl
end
def Sle : List AV → List AV → Prop
  | [], [] => True
  | a :: s, b :: s' => (b = .any ∨ a = b) ∧ Sle s s'
  | _, _ => False
theorem Sle.sle : ∀ {s s' : List AV}, Sle s s' → SLe s s'
  | [], [], _ => ⟨rfl, fun i hi => absurd hi (Nat.not_lt_zero _)⟩
  | a :: s, b :: s', h => by
    obtain ⟨h1, h2⟩ := h
    obtain ⟨h3, h4⟩ := Sle.sle h2
    refine ⟨by simp [h3], fun i hi => ?_⟩
    cases i with
    | zero => rcases h1 with h | h
              · exact .inl h
              · exact .inr (by simp [h])
    | succ i => simpa using h4 i (by simpa using hi)
  | [], _ :: _, h => h.elim
  | _ :: _, [], h => h.elim
theorem Sle.refl : ∀ (s : List AV), Sle s s
  | [] => trivial
  | _ :: s => ⟨.inr rfl, Sle.refl s⟩
theorem sle_nil : Sle [] [] = True := rfl
theorem sle_any (a : AV) (s s' : List AV) : Sle (a :: s) (.any :: s') = Sle s s' := by simp [Sle]
theorem sle_self (a : AV) (s s' : List AV) : Sle (a :: s) (a :: s') = Sle s s' := by simp [Sle]
theorem sle_c (a : AV) (x : CV) (s s' : List AV) : Sle (a :: s) (.c x :: s') = (a = .c x ∧ Sle s s') := by simp [Sle]
inductive Sl where
  | a
  | k
  | p (v : AV)
def mergeS : List Sl → List AV → List AV
  | .a :: m, _ :: s => .any :: mergeS m s
  | .k :: m, x :: s => x :: mergeS m s
  | .p v :: m, _ :: s => v :: mergeS m s
  | _, _ => []
theorem merge_a (m : List Sl) (x : AV) (s : List AV) : mergeS (.a :: m) (x :: s) = .any :: mergeS m s := rfl
theorem merge_k (m : List Sl) (x : AV) (s : List AV) : mergeS (.k :: m) (x :: s) = x :: mergeS m s := rfl
theorem merge_p (v : AV) (m : List Sl) (x : AV) (s : List AV) : mergeS (.p v :: m) (x :: s) = v :: mergeS m s := rfl
theorem merge_nil (s : List AV) : mergeS [] s = [] := rfl
def loopK {α : Type} (ok : α → Prop) (S : α → List AV) (G : α → Heap) (Q : KT) : KT := fun e s H => match e with
  | .normal => ∃ a, ok a ∧ Sle s (S a) ∧ HLe H (G a)
  | e => Q e s H
section
variable {α : Type} {ok : α → Prop} {S : α → List AV} {G : α → Heap} {Q : KT} {s : List AV} {H : Heap}
theorem loopK_normal : loopK ok S G Q .normal s H = ∃ a, ok a ∧ Sle s (S a) ∧ HLe H (G a) := propext Iff.rfl
theorem loopK_exit (i : Nat) : loopK ok S G Q (.exit i) s H = Q (.exit i) s H := propext Iff.rfl
theorem loopK_ret : loopK ok S G Q .ret s H = Q .ret s H := propext Iff.rfl
end
theorem loop_rule {P : Program} {c : Code} {s : List AV} {H : Heap} {Q : KT} {α : Type} (μ : α → Nat) (ok : α → Prop) (M : α → List Sl) (G : α → Heap) (a0 : α) (h0 : ok a0) (hs : Sle s (mergeS (M a0) s)) (hh : HLe H (G a0))
    (step : ∀ a, ok a → cw P c (mergeS (M a) s) (G a) (loopK (fun b => ok b ∧ μ b < μ a) (fun b => mergeS (M b) s) G Q)) : RunC P (.loop c) ⟨s, H⟩ (stK Q) := by
  refine RunC.weaken (st' := ⟨mergeS (M a0) s, G a0⟩) hs.sle hh ?_
  refine RunC.loop (fun n st => ∃ a, ok a ∧ μ a = n ∧ st = ⟨mergeS (M a) s, G a⟩) ?_ ⟨a0, h0, rfl, rfl⟩
  rintro n st ⟨a, ha, rfl, rfl⟩
  refine (cw_sound _ _ _ _ (step a ha)).mono fun e st hq => ?_
  cases e with
  | normal =>
    obtain ⟨b, ⟨hb, hlt⟩, hs', hh'⟩ := hq
    exact ⟨μ b, ⟨mergeS (M b) s, G b⟩, hlt, hs'.sle, hh', b, hb, rfl, rfl⟩
  | exit id => exact hq
  | goto l => exact hq
  | ret => exact hq
  | panic c => exact hq
  | outgrown => exact hq
def loopK2 {α β : Type} (ok : α → β → Prop) (S : α → β → List AV) (G : α → β → Heap) (Q : KT) : KT := fun e s H => match e with
  | .normal => ∃ a b, ok a b ∧ Sle s (S a b) ∧ HLe H (G a b)
  | e => Q e s H
def loopK3 {α β γ : Type} (ok : α → β → γ → Prop) (S : α → β → γ → List AV) (G : α → β → γ → Heap) (Q : KT) : KT := fun e s H => match e with
  | .normal => ∃ a b c, ok a b c ∧ Sle s (S a b c) ∧ HLe H (G a b c)
  | e => Q e s H
section
variable {α β γ : Type} {Q : KT} {s : List AV} {H : Heap}
theorem loopK2_normal {ok : α → β → Prop} {S : α → β → List AV} {G : α → β → Heap} : loopK2 ok S G Q .normal s H = ∃ a b, ok a b ∧ Sle s (S a b) ∧ HLe H (G a b) := propext Iff.rfl
theorem loopK2_exit {ok : α → β → Prop} {S : α → β → List AV} {G : α → β → Heap} (i : Nat) : loopK2 ok S G Q (.exit i) s H = Q (.exit i) s H := propext Iff.rfl
theorem loopK2_ret {ok : α → β → Prop} {S : α → β → List AV} {G : α → β → Heap} : loopK2 ok S G Q .ret s H = Q .ret s H := propext Iff.rfl
theorem loopK3_normal {ok : α → β → γ → Prop} {S : α → β → γ → List AV} {G : α → β → γ → Heap} : loopK3 ok S G Q .normal s H = ∃ a b c, ok a b c ∧ Sle s (S a b c) ∧ HLe H (G a b c) := propext Iff.rfl
theorem loopK3_exit {ok : α → β → γ → Prop} {S : α → β → γ → List AV} {G : α → β → γ → Heap} (i : Nat) : loopK3 ok S G Q (.exit i) s H = Q (.exit i) s H := propext Iff.rfl
theorem loopK3_ret {ok : α → β → γ → Prop} {S : α → β → γ → List AV} {G : α → β → γ → Heap} : loopK3 ok S G Q .ret s H = Q .ret s H := propext Iff.rfl
end
theorem loop_rule2 {P : Program} {c : Code} {s : List AV} {H : Heap} {Q : KT} {α β : Type} (μ : α → β → Nat) (ok : α → β → Prop) (M : α → β → List Sl) (G : α → β → Heap) (a0 : α) (b0 : β) (h0 : ok a0 b0) (hs : Sle s (mergeS (M a0 b0) s)) (hh : HLe H (G a0 b0))
    (step : ∀ a b, ok a b → cw P c (mergeS (M a b) s) (G a b) (loopK2 (fun a' b' => ok a' b' ∧ μ a' b' < μ a b) (fun a' b' => mergeS (M a' b') s) G Q)) : RunC P (.loop c) ⟨s, H⟩ (stK Q) := by
  refine RunC.weaken (st' := ⟨mergeS (M a0 b0) s, G a0 b0⟩) hs.sle hh ?_
  refine RunC.loop (fun n st => ∃ a b, ok a b ∧ μ a b = n ∧ st = ⟨mergeS (M a b) s, G a b⟩) ?_ ⟨a0, b0, h0, rfl, rfl⟩
  rintro n st ⟨a, b, ha, rfl, rfl⟩
  refine (cw_sound _ _ _ _ (step a b ha)).mono fun e st hq => ?_
  cases e with
  | normal =>
    obtain ⟨a', b', ⟨hb, hlt⟩, hs', hh'⟩ := hq
    exact ⟨μ a' b', ⟨mergeS (M a' b') s, G a' b'⟩, hlt, hs'.sle, hh', a', b', hb, rfl, rfl⟩
  | exit id => exact hq
  | goto l => exact hq
  | ret => exact hq
  | panic c => exact hq
  | outgrown => exact hq
theorem hle_eq {g sz : Nat} {cs cs' : List CV} {H H' : Heap} (h : cs = cs') (hh : HLe H H') : HLe (some ⟨g, sz, cs⟩ :: H) (some ⟨g, sz, cs'⟩ :: H') := fun id b hb => by
  subst h
  cases id with
  | zero => exact hb
  | succ id => exact hh id b hb
theorem hle_self (x : Option Blk) (H H' : Heap) (h : HLe H H') : HLe (x :: H) (x :: H') := fun id b hb => by
  cases id with
  | zero => exact hb
  | succ id => exact h id b hb
theorem hle_nil (H : Heap) : HLe H [] := fun id b hb => by simp at hb
theorem hle_none (x : Option Blk) (H H' : Heap) (h : HLe H H') : HLe (x :: H) (none :: H') := fun id b hb => by
  cases id with
  | zero => simp at hb
  | succ id => exact h id b hb
theorem bound_i64 {n : Int} (h1 : -9223372036854775808 ≤ n) (h2 : n ≤ 9223372036854775807) : IntKind.i64.wrap n = n := IntWalk.i64_in _ (by omega)
def load1 (H : Heap) (p : CV) : Option AV := match cellsAt H p 1 with
  | some [c] => some (.c c)
  | _ => none
theorem loadV_eq (P : Program) (H : Heap) (t : TypeId) (p : CV) : loadV P H t (.c p) = match tinf P t with
    | some i => (match isAggK i.k with
      | true => (cellsAt H p i.size).map .agg
      | false => load1 H p)
    | none => none := by
  unfold loadV
  cases tinf P t <;> rfl
theorem load1_fp {H : Heap} {l : List FV} {off : Nat} : load1 H (.fp l off) = (l[off]?).map fun x => .c (.f x) := by
  simp only [load1, cellsAt]
  by_cases h : off < l.length
  · rw [if_pos (by omega), List.getElem?_eq_getElem h]
    have : (l.drop off).take 1 = [l[off]] := by
      rw [List.drop_eq_getElem_cons h]; rfl
    simp [this]
  · rw [if_neg (by omega), List.getElem?_eq_none (by omega)]
    rfl
section
variable {P : Program} {ops : Array Oper} {s : List AV} {H : Heap} {F : AV → Prop} {d : Option Tmp} {t : TypeId} {p : String} {e : Array Edge} {g : Option (Nat × Bool)}
theorem qW_move (x : Operand) : quietW P ops ⟨d, .move x, t, p, e, g⟩ s H F = F (evO s x) := by simp [quietW, isVal, opV, bindP]
theorem qW_assign (x : Operand) : quietW P ops ⟨d, .assign x, t, p, e, g⟩ s H F = F (evO s x) := by simp [quietW, isVal, opV, bindP]
theorem qW_pick (c x y : Operand) : quietW P ops ⟨d, .pick c x y, t, p, e, g⟩ s H F = bindP (boolV (evO s c)) (pickK s H x y fun v _ => F v) := by simp only [quietW, isVal, if_true, opV_pick, bindP_map]; rfl
theorem qW_bin (op : BinOp) (xt : TypeId) (x y : Operand) (yt : TypeId) : quietW P ops ⟨d, .binOp op xt x y yt, t, p, e, g⟩ s H F = bindP (binV P s H op xt x y) F := propext Iff.rfl
theorem qW_un (op : UnOp) (xt : TypeId) (x : Operand) : quietW P ops ⟨d, .unOp op xt x, t, p, e, g⟩ s H F = bindP (unV op (evO s x)) F := propext Iff.rfl
theorem qW_conv (st dt : TypeId) (x : Operand) : quietW P ops ⟨d, .convert st dt x, t, p, e, g⟩ s H F = bindP (convV P H st dt (evO s x)) F := propext Iff.rfl
theorem qW_fieldAddr (st : TypeId) (x : Operand) (f : Nat) : quietW P ops ⟨d, .fieldAddr st x f, t, p, e, g⟩ s H F = bindP (fieldV P H st (evO s x) f) F := propext Iff.rfl
theorem qW_field (st : TypeId) (x : Operand) (f : Nat) : quietW P ops ⟨d, .field st x f, t, p, e, g⟩ s H F = bindP (fieldA P st (evO s x) f) F := propext Iff.rfl
theorem qW_indexAddr (st : TypeId) (x i : Operand) : quietW P ops ⟨d, .indexAddr st x i, t, p, e, g⟩ s H F = bindP (elemV P H st (evO s x) (evO s i)) F := propext Iff.rfl
theorem qW_index (st : TypeId) (x i : Operand) : quietW P ops ⟨d, .index st x i, t, p, e, g⟩ s H F = bindP (indexV P st (evO s x) (evO s i)) F := propext Iff.rfl
theorem qW_load (st : TypeId) (x : Operand) : quietW P ops ⟨d, .load st x, t, p, e, g⟩ s H F = bindP (loadV P H st (evO s x)) F := propext Iff.rfl
theorem qW_nilCheck (x : Operand) : quietW P ops ⟨d, .nilCheck x, t, p, e, g⟩ s H F = bindP (nilV H (evO s x)) F := propext Iff.rfl
theorem qW_slice (st : TypeId) (x : Operand) (lo hi mx : Option Operand) : quietW P ops ⟨d, .slice st x lo hi mx, t, p, e, g⟩ s H F = bindP (sliceO P s H st x lo hi mx) F := propext Iff.rfl
theorem qW_len (x : Operand) (xt : TypeId) : quietW P ops ⟨d, .call ⟨.builtin .len, #[x], #[xt]⟩, t, p, e, g⟩ s H F = bindP (lenO P H xt (evO s x)) F := propext Iff.rfl
theorem qW_min (x y : Operand) (ts : Array TypeId) : quietW P ops ⟨d, .call ⟨.builtin .min, #[x, y], ts⟩, t, p, e, g⟩ s H F = bindP (minV false (evO s x) (evO s y)) F := propext Iff.rfl
theorem qW_max (x y : Operand) (ts : Array TypeId) : quietW P ops ⟨d, .call ⟨.builtin .max, #[x, y], ts⟩, t, p, e, g⟩ s H F = bindP (minV true (evO s x) (evO s y)) F := propext Iff.rfl
theorem qW_extract (x : Operand) (i : Nat) : quietW P ops ⟨d, .extract x i, t, p, e, g⟩ s H F = bindP (extractO i (evO s x)) F := propext Iff.rfl
end
theorem qW_build {P : Program} {ops : Array Oper} {s : List AV} {H : Heap} {F : AV → Prop} {d : Option Tmp} {t : TypeId} {p : String} {e : Array Edge} {g : Option (Nat × Bool)} (bt : TypeId) (n : Nat) (ps : List (Nat × Operand)) :
    quietW P ops ⟨d, .buildSlice bt n ps.toArray, t, p, e, g⟩ s H F = softBuild P s bt n ps F := propext Iff.rfl
theorem quietW.rd {P : Program} {ops : Array Oper} {o : Oper} {s : List AV} {H : Heap} {F : AV → Prop} {fo : Operand} {xs : Array Operand} {ts : Array TypeId} {f : FuncId} {args args' : List AV} {v : AV} {u : Value}
    (hc : Reads P f args' v) (he : Enters P f) (ho : o.op = .call ⟨.value fo, xs, ts⟩) (ha : callArgs ⟨s, H⟩ fo xs = some (f, args)) (hs : args.mapM (snapA H) = some args')
    (hf : flatV v = some u) (hk : F v) : quietW P ops o s H F := by
  unfold quietW
  rw [ho]
  exact ⟨v, Soft.flat hc he ho ha hs hf, hk⟩
theorem quietW.mk {P : Program} {ops : Array Oper} {o : Oper} {s : List AV} {H : Heap} {F : AV → Prop} {fo : Operand} {xs : Array Operand} {ts : Array TypeId} {f : FuncId} {args : List AV} {v : AV}
    (hc : Reads P f args v) (he : Enters P f) (ho : o.op = .call ⟨.value fo, xs, ts⟩) (ha : callArgs ⟨s, H⟩ fo xs = some (f, args)) (hz : args.all frozenA = true)
    (hf : frozen1 v = true) (hv : frzA [] v = some v) (hk : F v) : quietW P ops o s H F := by
  unfold quietW
  rw [ho]
  have hca : ∃ f', evO s fo = .c (.fn f' []) ∧ f' = f ∧ args = xs.toList.map (evO s) := by
    unfold callArgs at ha
    split at ha
    · rename_i f' e; cases ha; exact ⟨_, e, rfl, rfl⟩
    · cases ha
  obtain ⟨f', e1, hff, e2⟩ := hca
  subst hff
  refine ⟨v, Soft.ops (fun x hx => ?_) hf (fun s' hs' => ?_), hk⟩
  · rw [ho] at hx
    simp only [Op.operands, Call.operands, Array.mem_append] at hx
    rcases hx with hx | hx
    · have : x = fo := by simpa using hx
      subst this
      rw [e1]; rfl
    · exact List.all_eq_true.1 hz _ (by rw [e2]; exact List.mem_map.2 ⟨x, by simpa using hx, rfl⟩)
  · have ha' : callArgs ⟨s', []⟩ fo xs = some (f', args) := by
      rw [callArgs_congr (s := s) (H := H) ts fun x hx => hs' x (by rw [ho]; exact hx)]; exact ha
    obtain ⟨h1, h2⟩ := target_of ha'
    refine OpS.call ho h1 he ?_
    rw [h2]
    refine RunCall.weaker (Q' := fun r H' => frzA H' r = some v) hc fun r H' hr => ⟨[], fun _ _ h => by simp at h, ?_⟩
    rw [show r = v from hr]; exact hv
theorem ok_i64 {n : Int} (h : -9223372036854775808 ≤ n ∧ n ≤ 9223372036854775807) : IntKind.i64.wrap n = n := bound_i64 h.1 h.2
theorem ok_u8 {n : Int} (h : 0 ≤ n ∧ n ≤ 255) : IntKind.u8.wrap n = n := by simp only [IntKind.wrap]; simp [IntKind.bits, IntKind.signed]; omega
attribute [go_sem] cw_seq cw_region cw_regionQ cw_ret cw_cond cw_block cw_exit cw_skip cw_loop seqK_normal seqK_exit seqK_ret blockK_normal blockK_ret blockK_hit condK_t condK_f
  vw_cons vw_guard vw_nil vwK_ap guardK_tt guardK_ff guardK_tf guardK_ft guardK_no opW_move opW_assign opW_bin opW_pick opW_call opW_indexAddr opW_index opW_load opW_len opW_un opW_conv opW_fieldAddr opW_field opW_nilCheck opW_slice opW_min opW_max opW_extract opW_makeFunc
  qw_cons qw_guard qw_nil qwK_ap guardQ_tt guardQ_ff guardQ_tf guardQ_ft guardQ_no
  qW_move qW_assign qW_pick qW_bin qW_un qW_conv qW_fieldAddr qW_field qW_indexAddr qW_index qW_load qW_nilCheck qW_slice qW_len qW_min qW_max qW_extract qW_build softBuild icedL
  opW_append opW_box opW_alloc opW_store opW_buildSlice opW_makeSlice putS_some putS_none List.set_cons_zero List.set_cons_succ evO_tmp evO_int evO_bool evO_fn evO_nil List.getD_cons_zero List.getD_cons_succ
  boolV_b bindP_some bindP_ite bindP_map compF_ap binV_eq binA_int binI_geq binI_leq binI_lss binI_gtr binI_eql binI_neq binI_add binI_sub binI_mul binI_quo binI_rem binI_and binI_or binI_xor binI_andNot
  Option.map_some atH_ap guardV_lit pickK_ap List.getElem?_toArray List.getElem?_cons_zero List.getElem?_cons_succ Option.bind_some doneK_ret doneK_normal resV_one resV_two resV_three unV_not unV_neg loopK_normal loopK_exit loopK_ret loopK2_normal loopK2_exit loopK2_ret loopK3_normal loopK3_exit loopK3_ret sle_nil sle_any sle_self sle_c
  merge_a merge_k merge_p merge_nil lessQ_is ok_i64 ok_u8 okP_true okP_ok loadV_eq elemV lenO isAggK AV.c.injEq CV.f.injEq FV.int.injEq FV.bool.injEq true_and and_true if_true Bool.false_eq_true if_false
theorem nif_t {α : Sort _} {a b : Nat} {x y : α} (h : a = b) : (if a = b then x else y) = x := if_pos h
theorem nif_f {α : Sort _} {a b : Nat} {x y : α} (h : a ≠ b) : (if a = b then x else y) = y := if_neg h
theorem lif_t {α : Sort _} {a b : Nat} {x y : α} (h : a < b) : (if a < b then x else y) = x := if_pos h
theorem lif_f {α : Sort _} {a b : Nat} {x y : α} (h : ¬ a < b) : (if a < b then x else y) = y := if_neg h
attribute [go_sem] nif_t nif_f lif_t lif_f CV.own.injEq CV.ptr.injEq
attribute [go_sem ↓] pickK_t pickK_f
end Go.Lg
