/- LgTy, LgT, GpG, cut to what is needed. -/
import Derived.Test.YtapopcmgggfedaaGreatXbb1
import Derived.Test.YtapopcmgggfedaaGreatProg
import Derived.KernelRfl
import Derived.Test.YtapopcmgggfedaaGreatXbb2
open Nat renaming reduceAdd → zA, reduceMul → zM, reduceSub → zS, reduceEqDiff → zE, reduceLeDiff → zL
namespace Go.Lg
open Go.Proofs
theorem ti1 : tinf Tryz.prog 1 = some ⟨.func, 1, 8, [.nilf]⟩ := by kernel_rfl
theorem ti2 : tinf Tryz.prog 2 = some ⟨.int .i64, 1, 8, [.f (.int .i64 0)]⟩ := by kernel_rfl
theorem ti3 : tinf Tryz.prog 3 = some ⟨.int .i64, 1, 8, [.f (.int .i64 0)]⟩ := by kernel_rfl
theorem ti4 : tinf Tryz.prog 4 = some ⟨.bool, 1, 1, [.f (.bool false)]⟩ := by kernel_rfl
theorem ti5 : tinf Tryz.prog 5 = some ⟨.int .u8, 1, 1, [.f (.int .u8 0)]⟩ := by kernel_rfl
theorem ti6 : tinf Tryz.prog 6 = some ⟨.int .u8, 1, 1, [.f (.int .u8 0)]⟩ := by kernel_rfl
theorem ti7 : tinf Tryz.prog 7 = some ⟨.struct [(2, 0), (3, 1), (4, 2), (6, 3)], 4, 24, [.f (.int .i64 0), .f (.int .i64 0), .f (.bool false), .f (.int .u8 0)]⟩ := by kernel_rfl
theorem ti8 : tinf Tryz.prog 8 = some ⟨.struct [(2, 0), (3, 1), (4, 2), (6, 3)], 4, 24, [.f (.int .i64 0), .f (.int .i64 0), .f (.bool false), .f (.int .u8 0)]⟩ := by kernel_rfl
theorem ti9 : tinf Tryz.prog 9 = some ⟨.str, 1, 16, [.f (.str (ByteArray.mk #[]))]⟩ := by kernel_rfl
theorem ti10 : tinf Tryz.prog 10 = some ⟨.str, 1, 16, [.f (.str (ByteArray.mk #[]))]⟩ := by kernel_rfl
theorem ti11 : tinf Tryz.prog 11 = some ⟨.str, 1, 16, [.f (.str (ByteArray.mk #[]))]⟩ := by kernel_rfl
theorem ti12 : tinf Tryz.prog 12 = some ⟨.int .u64, 1, 8, [.f (.int .u64 0)]⟩ := by kernel_rfl
theorem ti13 : tinf Tryz.prog 13 = some ⟨.struct [(9, 0), (12, 1)], 2, 24, [.f (.str (ByteArray.mk #[])), .f (.int .u64 0)]⟩ := by kernel_rfl
theorem ti14 : tinf Tryz.prog 14 = some ⟨.struct [(9, 0), (12, 1)], 2, 24, [.f (.str (ByteArray.mk #[])), .f (.int .u64 0)]⟩ := by kernel_rfl
theorem ti15 : tinf Tryz.prog 15 = some ⟨.ptr 111, 1, 8, [.nilp]⟩ := by kernel_rfl
theorem ti16 : tinf Tryz.prog 16 = some ⟨.ptr 114, 1, 8, [.nilp]⟩ := by kernel_rfl
theorem ti17 : tinf Tryz.prog 17 = some ⟨.ptr 123, 1, 8, [.nilp]⟩ := by kernel_rfl
theorem ti18 : tinf Tryz.prog 18 = some ⟨.struct [(17, 0)], 1, 8, [.nilp]⟩ := by kernel_rfl
theorem ti19 : tinf Tryz.prog 19 = some ⟨.struct [(17, 0)], 1, 8, [.nilp]⟩ := by kernel_rfl
theorem ti21 : tinf Tryz.prog 21 = some ⟨.int .i32, 1, 4, [.f (.int .i32 0)]⟩ := by kernel_rfl
theorem ti22 : tinf Tryz.prog 22 = some ⟨.slice 5, 1, 24, [.f .nil]⟩ := by kernel_rfl
theorem ti23 : tinf Tryz.prog 23 = some ⟨.slice 3, 1, 24, [.f .nil]⟩ := by kernel_rfl
theorem ti24 : tinf Tryz.prog 24 = some ⟨.slice 57, 1, 24, [.f .nil]⟩ := by kernel_rfl
theorem ti25 : tinf Tryz.prog 25 = some ⟨.struct [(3, 0), (23, 1), (24, 2)], 3, 56, [.f (.int .i64 0), .f .nil, .f .nil]⟩ := by kernel_rfl
theorem ti26 : tinf Tryz.prog 26 = some ⟨.struct [(3, 0), (23, 1), (24, 2)], 3, 56, [.f (.int .i64 0), .f .nil, .f .nil]⟩ := by kernel_rfl
theorem ti27 : tinf Tryz.prog 27 = some ⟨.slice 41, 1, 24, [.f .nil]⟩ := by kernel_rfl
theorem ti29 : tinf Tryz.prog 29 = some ⟨.func, 1, 8, [.nilf]⟩ := by kernel_rfl
theorem ti30 : tinf Tryz.prog 30 = some ⟨.func, 1, 8, [.nilf]⟩ := by kernel_rfl
theorem ti31 : tinf Tryz.prog 31 = some ⟨.func, 1, 8, [.nilf]⟩ := by kernel_rfl
theorem ti32 : tinf Tryz.prog 32 = some ⟨.func, 1, 8, [.nilf]⟩ := by kernel_rfl
theorem ti34 : tinf Tryz.prog 34 = some ⟨.func, 1, 8, [.nilf]⟩ := by kernel_rfl
theorem ti35 : tinf Tryz.prog 35 = some ⟨.func, 1, 8, [.nilf]⟩ := by kernel_rfl
theorem ti36 : tinf Tryz.prog 36 = some ⟨.func, 1, 8, [.nilf]⟩ := by kernel_rfl
theorem ti37 : tinf Tryz.prog 37 = some ⟨.ptr 53, 1, 8, [.nilp]⟩ := by kernel_rfl
theorem ti38 : tinf Tryz.prog 38 = some ⟨.func, 1, 8, [.nilf]⟩ := by kernel_rfl
theorem ti39 : tinf Tryz.prog 39 = some ⟨.func, 1, 8, [.nilf]⟩ := by kernel_rfl
theorem ti40 : tinf Tryz.prog 40 = some ⟨.struct [(3, 0), (3, 1)], 2, 16, [.f (.int .i64 0), .f (.int .i64 0)]⟩ := by kernel_rfl
theorem ti41 : tinf Tryz.prog 41 = some ⟨.struct [(3, 0), (3, 1)], 2, 16, [.f (.int .i64 0), .f (.int .i64 0)]⟩ := by kernel_rfl
theorem ti42 : tinf Tryz.prog 42 = some ⟨.func, 1, 8, [.nilf]⟩ := by kernel_rfl
theorem ti43 : tinf Tryz.prog 43 = some ⟨.func, 1, 8, [.nilf]⟩ := by kernel_rfl
theorem ti45 : tinf Tryz.prog 45 = some ⟨.func, 1, 8, [.nilf]⟩ := by kernel_rfl
theorem ti46 : tinf Tryz.prog 46 = some ⟨.func, 1, 8, [.nilf]⟩ := by kernel_rfl
theorem ti47 : tinf Tryz.prog 47 = some ⟨.func, 1, 8, [.nilf]⟩ := by kernel_rfl
theorem ti48 : tinf Tryz.prog 48 = some ⟨.func, 1, 8, [.nilf]⟩ := by kernel_rfl
theorem ti49 : tinf Tryz.prog 49 = some ⟨.func, 1, 8, [.nilf]⟩ := by kernel_rfl
theorem ti50 : tinf Tryz.prog 50 = some ⟨.func, 1, 8, [.nilf]⟩ := by kernel_rfl
theorem ti51 : tinf Tryz.prog 51 = some ⟨.func, 1, 8, [.nilf]⟩ := by kernel_rfl
theorem ti52 : tinf Tryz.prog 52 = some ⟨.struct [(22, 0), (3, 1)], 2, 32, [.f .nil, .f (.int .i64 0)]⟩ := by kernel_rfl
theorem ti53 : tinf Tryz.prog 53 = some ⟨.struct [(22, 0), (3, 1)], 2, 32, [.f .nil, .f (.int .i64 0)]⟩ := by kernel_rfl
theorem ti54 : tinf Tryz.prog 54 = some ⟨.func, 1, 8, [.nilf]⟩ := by kernel_rfl
theorem ti55 : tinf Tryz.prog 55 = some ⟨.func, 1, 8, [.nilf]⟩ := by kernel_rfl
theorem ti56 : tinf Tryz.prog 56 = some ⟨.struct [(3, 0), (23, 1), (3, 2)], 3, 40, [.f (.int .i64 0), .f .nil, .f (.int .i64 0)]⟩ := by kernel_rfl
theorem ti57 : tinf Tryz.prog 57 = some ⟨.struct [(3, 0), (23, 1), (3, 2)], 3, 40, [.f (.int .i64 0), .f .nil, .f (.int .i64 0)]⟩ := by kernel_rfl
theorem ti58 : tinf Tryz.prog 58 = some ⟨.func, 1, 8, [.nilf]⟩ := by kernel_rfl
theorem ti59 : tinf Tryz.prog 59 = some ⟨.func, 1, 8, [.nilf]⟩ := by kernel_rfl
theorem ti60 : tinf Tryz.prog 60 = some ⟨.func, 1, 8, [.nilf]⟩ := by kernel_rfl
theorem ti62 : tinf Tryz.prog 62 = some ⟨.func, 1, 8, [.nilf]⟩ := by kernel_rfl
theorem ti63 : tinf Tryz.prog 63 = some ⟨.func, 1, 8, [.nilf]⟩ := by kernel_rfl
theorem ti64 : tinf Tryz.prog 64 = some ⟨.func, 1, 8, [.nilf]⟩ := by kernel_rfl
theorem ti65 : tinf Tryz.prog 65 = some ⟨.func, 1, 8, [.nilf]⟩ := by kernel_rfl
theorem ti66 : tinf Tryz.prog 66 = some ⟨.func, 1, 8, [.nilf]⟩ := by kernel_rfl
theorem ti67 : tinf Tryz.prog 67 = some ⟨.func, 1, 8, [.nilf]⟩ := by kernel_rfl
theorem ti68 : tinf Tryz.prog 68 = some ⟨.func, 1, 8, [.nilf]⟩ := by kernel_rfl
theorem ti70 : tinf Tryz.prog 70 = some ⟨.func, 1, 8, [.nilf]⟩ := by kernel_rfl
theorem ti71 : tinf Tryz.prog 71 = some ⟨.func, 1, 8, [.nilf]⟩ := by kernel_rfl
theorem ti72 : tinf Tryz.prog 72 = some ⟨.func, 1, 8, [.nilf]⟩ := by kernel_rfl
theorem ti74 : tinf Tryz.prog 74 = some ⟨.func, 1, 8, [.nilf]⟩ := by kernel_rfl
theorem ti75 : tinf Tryz.prog 75 = some ⟨.func, 1, 8, [.nilf]⟩ := by kernel_rfl
theorem ti76 : tinf Tryz.prog 76 = some ⟨.ptr 27, 1, 8, [.nilp]⟩ := by kernel_rfl
theorem ti77 : tinf Tryz.prog 77 = some ⟨.slice 23, 1, 24, [.f .nil]⟩ := by kernel_rfl
theorem ti78 : tinf Tryz.prog 78 = some ⟨.func, 1, 8, [.nilf]⟩ := by kernel_rfl
theorem ti79 : tinf Tryz.prog 79 = some ⟨.func, 1, 8, [.nilf]⟩ := by kernel_rfl
theorem ti80 : tinf Tryz.prog 80 = some ⟨.func, 1, 8, [.nilf]⟩ := by kernel_rfl
theorem ti81 : tinf Tryz.prog 81 = some ⟨.func, 1, 8, [.nilf]⟩ := by kernel_rfl
theorem ti82 : tinf Tryz.prog 82 = some ⟨.func, 1, 8, [.nilf]⟩ := by kernel_rfl
theorem ti83 : tinf Tryz.prog 83 = some ⟨.func, 1, 8, [.nilf]⟩ := by kernel_rfl
theorem ti84 : tinf Tryz.prog 84 = some ⟨.func, 1, 8, [.nilf]⟩ := by kernel_rfl
theorem ti85 : tinf Tryz.prog 85 = some ⟨.func, 1, 8, [.nilf]⟩ := by kernel_rfl
theorem ti86 : tinf Tryz.prog 86 = some ⟨.func, 1, 8, [.nilf]⟩ := by kernel_rfl
theorem ti87 : tinf Tryz.prog 87 = some ⟨.func, 1, 8, [.nilf]⟩ := by kernel_rfl
theorem ti88 : tinf Tryz.prog 88 = some ⟨.func, 1, 8, [.nilf]⟩ := by kernel_rfl
theorem ti89 : tinf Tryz.prog 89 = some ⟨.ptr 3, 1, 8, [.nilp]⟩ := by kernel_rfl
theorem ti90 : tinf Tryz.prog 90 = some ⟨.func, 1, 8, [.nilf]⟩ := by kernel_rfl
theorem ti91 : tinf Tryz.prog 91 = some ⟨.func, 1, 8, [.nilf]⟩ := by kernel_rfl
theorem ti92 : tinf Tryz.prog 92 = some ⟨.func, 1, 8, [.nilf]⟩ := by kernel_rfl
theorem ti93 : tinf Tryz.prog 93 = some ⟨.func, 1, 8, [.nilf]⟩ := by kernel_rfl
theorem ti94 : tinf Tryz.prog 94 = some ⟨.int .u64, 1, 8, [.f (.int .u64 0)]⟩ := by kernel_rfl
theorem ti95 : tinf Tryz.prog 95 = some ⟨.func, 1, 8, [.nilf]⟩ := by kernel_rfl
theorem ti96 : tinf Tryz.prog 96 = some ⟨.func, 1, 8, [.nilf]⟩ := by kernel_rfl
theorem ti97 : tinf Tryz.prog 97 = some ⟨.func, 1, 8, [.nilf]⟩ := by kernel_rfl
theorem ti98 : tinf Tryz.prog 98 = some ⟨.func, 1, 8, [.nilf]⟩ := by kernel_rfl
theorem ti99 : tinf Tryz.prog 99 = some ⟨.ptr 77, 1, 8, [.nilp]⟩ := by kernel_rfl
theorem ti100 : tinf Tryz.prog 100 = some ⟨.func, 1, 8, [.nilf]⟩ := by kernel_rfl
theorem ti101 : tinf Tryz.prog 101 = some ⟨.int .u32, 1, 4, [.f (.int .u32 0)]⟩ := by kernel_rfl
theorem ti102 : tinf Tryz.prog 102 = some ⟨.func, 1, 8, [.nilf]⟩ := by kernel_rfl
theorem ti103 : tinf Tryz.prog 103 = some ⟨.int .u64, 1, 8, [.f (.int .u64 0)]⟩ := by kernel_rfl
theorem ti104 : tinf Tryz.prog 104 = some ⟨.func, 1, 8, [.nilf]⟩ := by kernel_rfl
theorem ti105 : tinf Tryz.prog 105 = some ⟨.array 5 4, 5, 5, [.f (.bool false), .f (.bool false), .f (.bool false), .f (.bool false), .f (.bool false)]⟩ := by kernel_rfl
theorem ti106 : tinf Tryz.prog 106 = some ⟨.func, 1, 8, [.nilf]⟩ := by kernel_rfl
theorem ti107 : tinf Tryz.prog 107 = some ⟨.func, 1, 8, [.nilf]⟩ := by kernel_rfl
theorem ti108 : tinf Tryz.prog 108 = some ⟨.func, 1, 8, [.nilf]⟩ := by kernel_rfl
theorem ti109 : tinf Tryz.prog 109 = some ⟨.func, 1, 8, [.nilf]⟩ := by kernel_rfl
theorem ti110 : tinf Tryz.prog 110 = some ⟨.struct [(17, 0), (17, 1), (17, 2), (9, 3)], 4, 40, [.nilp, .nilp, .nilp, .f (.str (ByteArray.mk #[]))]⟩ := by kernel_rfl
theorem ti111 : tinf Tryz.prog 111 = some ⟨.struct [(17, 0), (17, 1), (17, 2), (9, 3)], 4, 40, [.nilp, .nilp, .nilp, .f (.str (ByteArray.mk #[]))]⟩ := by kernel_rfl
theorem ti112 : tinf Tryz.prog 112 = some ⟨.array 0 16, 0, 0, []⟩ := by kernel_rfl
theorem ti113 : tinf Tryz.prog 113 = some ⟨.struct [(112, 0)], 0, 0, []⟩ := by kernel_rfl
theorem ti114 : tinf Tryz.prog 114 = some ⟨.struct [(112, 0)], 0, 0, []⟩ := by kernel_rfl
theorem ti115 : tinf Tryz.prog 115 = some ⟨.func, 1, 8, [.nilf]⟩ := by kernel_rfl
theorem ti116 : tinf Tryz.prog 116 = some ⟨.int .u8, 1, 1, [.f (.int .u8 0)]⟩ := by kernel_rfl
theorem ti117 : tinf Tryz.prog 117 = some ⟨.int .u8, 1, 1, [.f (.int .u8 0)]⟩ := by kernel_rfl
theorem ti118 : tinf Tryz.prog 118 = some ⟨.func, 1, 8, [.nilf]⟩ := by kernel_rfl
theorem ti119 : tinf Tryz.prog 119 = some ⟨.ptr 5, 1, 8, [.nilp]⟩ := by kernel_rfl
theorem ti120 : tinf Tryz.prog 120 = some ⟨.int .i32, 1, 4, [.f (.int .i32 0)]⟩ := by kernel_rfl
theorem ti121 : tinf Tryz.prog 121 = some ⟨.int .i32, 1, 4, [.f (.int .i32 0)]⟩ := by kernel_rfl
theorem ti122 : tinf Tryz.prog 122 = some ⟨.struct [(12, 0), (12, 1), (101, 2), (116, 3), (5, 4), (5, 5), (117, 6), (118, 7), (119, 8), (120, 9), (121, 10)], 11, 48, [.f (.int .u64 0), .f (.int .u64 0), .f (.int .u32 0), .f (.int .u8 0), .f (.int .u8 0), .f (.int .u8 0), .f (.int .u8 0), .nilf, .nilp, .f (.int .i32 0), .f (.int .i32 0)]⟩ := by kernel_rfl
theorem ti123 : tinf Tryz.prog 123 = some ⟨.struct [(12, 0), (12, 1), (101, 2), (116, 3), (5, 4), (5, 5), (117, 6), (118, 7), (119, 8), (120, 9), (121, 10)], 11, 48, [.f (.int .u64 0), .f (.int .u64 0), .f (.int .u32 0), .f (.int .u8 0), .f (.int .u8 0), .f (.int .u8 0), .f (.int .u8 0), .nilf, .nilp, .f (.int .i32 0), .f (.int .i32 0)]⟩ := by kernel_rfl
theorem foll : Tryz.prog.follows .mixedOrders = true := by kernel_rfl
attribute [go_sem] ti1 ti2 ti3 ti4 ti5 ti6 ti7 ti8 ti9 ti10 ti11 ti12 ti13 ti14 ti15 ti16 ti17 ti18 ti19 ti21 ti22 ti23 ti24 ti25 ti26 ti27 ti29 ti30 ti31 ti32 ti34 ti35 ti36 ti37 ti38 ti39 ti40 ti41 ti42 ti43 ti45 ti46 ti47 ti48 ti49 ti50 ti51 ti52 ti53 ti54 ti55 ti56 ti57 ti58 ti59 ti60 ti62 ti63 ti64 ti65 ti66 ti67 ti68 ti70 ti71 ti72 ti74 ti75 ti76 ti77 ti78 ti79 ti80 ti81 ti82 ti83 ti84 ti85 ti86 ti87 ti88 ti89 ti90 ti91 ti92 ti93 ti94 ti95 ti96 ti97 ti98 ti99 ti100 ti101 ti102 ti103 ti104 ti105 ti106 ti107 ti108 ti109 ti110 ti111 ti112 ti113 ti114 ti115 ti116 ti117 ti118 ti119 ti120 ti121 ti122 ti123
end Go.Lg

set_option linter.unusedSimpArgs false
set_option linter.unusedVariables false
set_option maxRecDepth 100000
namespace Go.Lg
open Go.Proofs
theorem sizeOk_run (n : Int) : Reads Tryz.prog 51 [int n] (bool (decide (2 ≤ n ∧ n ≤ 4))) := by
  refine RunCall.cw (c := _) Tryz.func51 rfl (n := 9) Tryz.ntmps51 (rs := [.tmp 2]) rfl ?_
  simp only[List.length_cons,List.length_nil,zA,zS,List.replicate,List.cons_append,List.nil_append]
  simp(maxSteps:=999999)(disch:=omega)only[go_sem,zA,zM,zS,zE,zL]
  refine guardK_split (fun h => ?_) (fun h => ?_) <;> simp(maxSteps:=999999)(disch:=omega)only[go_sem,zA,zM,zS,zE,zL, h] <;> simp at h <;> simp [h]
  omega
def gridValid (xs : List Int) (n : Int) : Bool := decide (2 ≤ n ∧ n ≤ 4 ∧ (xs.length : Int) = n * n ∧ ∀ j, j < xs.length → 0 ≤ nth xs j ∧ nth xs j ≤ n)
theorem GridValid_run (xs : List Int) (n : Int) (hx : xs.length ≤ 2 ^ 44) : Reads Tryz.prog 27 [ints xs, int n] (bool (gridValid xs n)) := by
  refine RunCall.cw (c := _) Tryz.func27 rfl (n := 32) Tryz.ntmps27 (rs := [.tmp 4]) rfl ?_
  simp only[List.length_cons,List.length_nil,zA,zS,List.replicate,List.cons_append,List.nil_append]
  simp(maxSteps:=999999)(disch:=omega)only[go_sem,zA,zM,zS,zE,zL]
  refine OpS.rd (sizeOk_run n) (⟨_, Tryz.func51, rfl, rfl⟩ : Enters Tryz.prog 51) rfl rfl rfl rfl ?_
  simp(maxSteps:=999999)(disch:=omega)only[go_sem,zA,zM,zS,zE,zL]
  refine guardK_split (fun h => ?_) (fun h => ?_) <;> simp(maxSteps:=999999)(disch:=omega)only[go_sem,zA,zM,zS,zE,zL, h]
  · simp at h
    simp [gridValid]; omega
  have hn : 2 ≤ n ∧ n ≤ 4 := by simpa using h
  have hw : 4 ≤ n * n ∧ n * n ≤ 16 := by
    have : n = 2 ∨ n = 3 ∨ n = 4 := by omega
    rcases this with rfl | rfl | rfl <;> decide
  simp(maxSteps:=999999)(disch:=omega)only[go_sem,zA,zM,zS,zE,zL]
  refine condK_split (fun h2 => ?_) (fun h2 => ?_) <;> simp(maxSteps:=999999)(disch:=omega)only[go_sem,zA,zM,zS,zE,zL]
  · simp at h2
    simp [gridValid, h2]
  have hl : (xs.length : Int) = n * n := by simpa using h2
  refine loop_rule (fun i : Nat => xs.length - i) (fun i => i ≤ xs.length ∧ ∀ j, j < i → 0 ≤ nth xs j ∧ nth xs j ≤ n)
    (fun i => [.a, .k, .a, .a, .a, .a, .a, .a, .a, .a, .a, .a, .a, .a, .a, .a, .a, .a, .k, .k, .p (int i), .a, .a, .a, .a, .a, .a, .a, .a, .a, .a, .a]) (fun _ => []) 0 ⟨Nat.zero_le _, fun j hj => absurd hj (Nat.not_lt_zero _)⟩ (by simp(maxSteps:=999999)(disch:=omega)only[go_sem,zA,zM,zS,zE,zL]; rfl) (hle_nil _) ?_
  rintro i ⟨hi, hall⟩
  simp(maxSteps:=999999)(disch:=omega)only[go_sem,zA,zM,zS,zE,zL]
  refine condK_split (fun h3 => ?_) (fun h3 => ?_)
  · have h3 : i < xs.length := by simpa using h3
    simp(maxSteps:=999999)(disch:=omega)only[go_sem,zA,zM,zS,zE,zL]
    refine guardK_split (fun h4 => ?_) (fun h4 => ?_) <;> simp(maxSteps:=999999)(disch:=omega)only[go_sem,zA,zM,zS,zE,zL, h4]
    · simp at h4
      symm; simp [gridValid]; intro _ _ _; exact ⟨i, h3, fun h => by omega⟩
    refine condK_split (fun h5 => ?_) (fun h5 => ?_) <;> simp(maxSteps:=999999)(disch:=omega)only[go_sem,zA,zM,zS,zE,zL]
    · simp at h5
      symm; simp [gridValid]; intro _ _ _; exact ⟨i, h3, fun h => by omega⟩
    simp at h4 h5
    refine ⟨i + 1, ⟨⟨h3, fun j hj => ?_⟩, by omega⟩, by omega, hle_nil _⟩
    rcases Nat.lt_succ_iff_lt_or_eq.1 hj with h | rfl
    · exact hall j h
    · exact ⟨h4, h5⟩
  simp(maxSteps:=999999)(disch:=omega)only[go_sem,zA,zM,zS,zE,zL]
  simp at h3
  symm; simp [gridValid]
  exact ⟨hn.1, hn.2, hl, fun j hj => hall j (by omega)⟩
end Go.Lg

namespace Go.Lg
open Go.Proofs
theorem countP_take {α : Type} [Inhabited α] {xs : List α} {f : α → Bool} {i : Nat} (h : i < xs.length) : (xs.take (i + 1)).countP f = (xs.take i).countP f + if f (nth xs i) then 1 else 0 := by
  rw [take_succ_nth h, List.countP_append]; simp [List.countP_cons]
theorem countP_le {α : Type} (xs : List α) (f : α → Bool) (i : Nat) : (xs.take i).countP f ≤ xs.length := by
  have := List.countP_le_length (p := f) (l := xs.take i)
  simp at this; omega
def gridFilled (xs : List Int) (n : Int) : Int := if gridValid xs n then (xs.countP fun v => decide (0 < v) : Nat) else -1
theorem GridFilled_run (xs : List Int) (n : Int) (hx : xs.length ≤ 2 ^ 40) : Reads Tryz.prog 14 [ints xs, int n] (int (gridFilled xs n)) := by
  refine RunCall.cw (c := _) Tryz.func14 rfl (n := 24) Tryz.ntmps14 (rs := [.tmp 4]) rfl ?_
  simp only[List.length_cons,List.length_nil,zA,zS,List.replicate,List.cons_append,List.nil_append]
  simp(maxSteps:=999999)(disch:=omega)only[go_sem,zA,zM,zS,zE,zL]
  first | refine OpS.rd (GridValid_run xs n (by omega)) (⟨_, Tryz.func27, rfl, rfl⟩ : Enters Tryz.prog 27) rfl rfl rfl rfl ?_ | refine Loud.rd (GridValid_run xs n (by omega)) (⟨_, Tryz.func27, rfl, rfl⟩ : Enters Tryz.prog 27) rfl rfl rfl rfl ?_
  simp(maxSteps:=999999)(disch:=omega)only[go_sem,zA,zM,zS,zE,zL]
  ((first|(with_reducible first|refine condK_dec ?_ ?_|refine condK_ndec ?_ ?_|refine condK_nb ?_ ?_)|refine condK_b ?_ ?_) <;> intro hv)
  rotate_left
  · simp(maxSteps:=999999)(disch:=omega)only[go_sem,zA,zM,zS,zE,zL]
    simp [gridFilled, hv]
  simp(maxSteps:=999999)(disch:=omega)only[go_sem,zA,zM,zS,zE,zL]
  refine loop_rule (fun i : Nat => xs.length - i) (fun i => i ≤ xs.length) (fun i => [.a, .a, .a, .a, .a, .p (int ((xs.take i).countP fun v => decide (0 < v) : Nat)), .a, .a, .a, .a, .a, .a, .k, .k, .p (int i), .a, .a, .a, .a, .a, .a, .a, .a, .a]) (fun _ => []) 0
    (Nat.zero_le _) (by simp(maxSteps:=999999)(disch:=omega)only[go_sem,zA,zM,zS,zE,zL]; simp) (hle_nil _) ?_
  intro i hi
  have hb := countP_le xs (fun v => decide (0 < v)) i
  simp(maxSteps:=999999)(disch:=omega)only[go_sem,zA,zM,zS,zE,zL]
  ((first|(with_reducible first|refine condK_dec ?_ ?_|refine condK_ndec ?_ ?_|refine condK_nb ?_ ?_)|refine condK_b ?_ ?_) <;> intro h)
  · have h : i < xs.length := by omega
    have hc := countP_take (f := fun v => decide (0 < v)) h
    simp(maxSteps:=999999)(disch:=omega)only[go_sem,zA,zM,zS,zE,zL]
    ((first|(with_reducible first|refine condK_dec ?_ ?_|refine condK_ndec ?_ ?_|refine condK_nb ?_ ?_)|refine condK_b ?_ ?_) <;> intro h2)
    · simp(maxSteps:=999999)(disch:=omega)only[go_sem,zA,zM,zS,zE,zL]
      refine ⟨i + 1, ⟨h, by omega⟩, ⟨?_, by omega⟩, hle_nil _⟩
      rw [hc]; simp [h2]
    · simp(maxSteps:=999999)(disch:=omega)only[go_sem,zA,zM,zS,zE,zL]
      refine ⟨i + 1, ⟨h, by omega⟩, ⟨?_, by omega⟩, hle_nil _⟩
      rw [hc]; simp [h2]
  · simp(maxSteps:=999999)(disch:=omega)only[go_sem,zA,zM,zS,zE,zL]
    rw [List.take_of_length_le (by omega)]
    simp only [gridFilled, hv, if_true]
end Go.Lg
