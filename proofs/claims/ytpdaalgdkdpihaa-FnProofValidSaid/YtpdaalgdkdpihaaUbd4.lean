/- GpTK, cut to what is needed. -/
import Derived.Test.YtpdaalgdkdpihaaUbd3
import Derived.Test.YtpdaalgdkdpihaaUbc5
import Derived.Test.YtpdaalgdkdpihaaUbb4
import Derived.Test.YtpdaalgdkdpihaaUbb3
import Derived.Test.YtpdaalgdkdpihaaUbc4
import Derived.Test.YtpdaalgdkdpihaaUbc8
import Derived.Test.YtpdaalgdkdpihaaUbb9
open Nat(reduceAdd reduceMul reduceSub reduceEqDiff reduceLeDiff)
set_option linter.unusedSimpArgs false
set_option linter.unusedVariables false
set_option maxRecDepth 100000
namespace Go.Lg
open Go.Proofs
theorem OpS.mkMpr {P : Program} {o : Oper} {st : St} {K : KV} {fo : Operand} {ws : Array Operand} {ts : Array TypeId} {f : FuncId} {args args' : List AV} {p : Puz} (hc : RunCall P f args' [] (mprQ p)) (he : Enters P f) (ho : o.op = .call ⟨.value fo, ws, ts⟩) (ha : callArgs st fo ws = some (f, args)) (hs : args.mapM (snapD st.h) = some args')
    (hk : ∀ c H', OwnL eB 2 (st.h ++ H') c (makeL p) → (∀ i, idsC c i → st.h.length ≤ i ∧ i < st.h.length + H'.length) → c ≠ .emp → K (.tup [.c c, bool (makeB p)]) (st.h ++ H')) : OpS P o st K :=
  OpS.mkD hc he ho ha hs fun r H' ⟨c, h1, h2, h3, h4⟩ => by
    subst h1
    have hlt := h2.lt
    generalize hL : makeL p = L at h2 hk
    cases h2 with
    | n => exact ⟨⟨rfl, rfl, h3⟩, hk (.f .nil) _ .n (fun i h => h.elim) h4⟩
    | m => exact absurd rfl h4
    | o id g xs h =>
      refine ⟨⟨rfl, rfl, h3⟩, hk (.own (id + st.h.length) g 0 _ none) _ (OwnL.ofLook ?_ rfl) (fun i hi => ?_) (by intro h; cases h)⟩
      · rw [look_shiftH h]
        simp only [shiftB, shift_cl]
      · have hi : i = id + st.h.length := hi
        have := hlt id rfl
        rw [shiftH_length]
        omega
end Go.Lg
