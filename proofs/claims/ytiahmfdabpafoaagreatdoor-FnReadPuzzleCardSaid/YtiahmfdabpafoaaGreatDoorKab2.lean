/- LgTy, LgT, LgT2, LgR, cut to what is needed. -/
import Derived.Test.YtiahmfdabpafoaaGreatDoorKab1
import Derived.Test.YtiahmfdabpafoaaGreatDoorProg
import Derived.KernelRfl
import Derived.ProofKit
import Derived.OpenShut
import Derived.ShutString
import Derived.ChangeOld
import Derived.SizedLaws
import Derived.ChangeSlices
import Derived.Carry
open List renaming cons_append → Jc, nil_append → Jd, length_cons → Jf, replicate → Jg, getElem?_eq_getElem → Jh, length_nil → Jl, take_of_length_le → Jn, map_append → J1, map_cons → Qf
open Nat renaming reduceAdd→zA,reduceMul→zM,reduceSub→zS,reduceEqDiff→zE,reduceLeDiff→zL
namespace Go.Lg
open Go.Proofs
theorem ti1:Jy Tryz.prog 1=some ⟨.func,1,8,[.nilf]⟩:=by kernel_rfl
theorem ti2:Jy Tryz.prog 2=some ⟨.int .i64,1,8,[.f (.int .i64 0)]⟩:=by kernel_rfl
theorem Ru:Jy Tryz.prog 3=some ⟨.int .i64,1,8,[.f (.int .i64 0)]⟩:=by kernel_rfl
theorem ti4:Jy Tryz.prog 4=some ⟨.bool,1,1,[.f (.bool false)]⟩:=by kernel_rfl
theorem ti5:Jy Tryz.prog 5=some ⟨.int .u8,1,1,[.f (.int .u8 0)]⟩:=by kernel_rfl
theorem ti6:Jy Tryz.prog 6=some ⟨.int .u8,1,1,[.f (.int .u8 0)]⟩:=by kernel_rfl
theorem ti7:Jy Tryz.prog 7=some ⟨.struct [(2,0),(3,1),(4,2),(6,3)],4,24,[.f (.int .i64 0), .f (.int .i64 0), .f (.bool false), .f (.int .u8 0)]⟩:=by kernel_rfl
theorem ti8:Jy Tryz.prog 8=some ⟨.struct [(2,0),(3,1),(4,2),(6,3)],4,24,[.f (.int .i64 0), .f (.int .i64 0), .f (.bool false), .f (.int .u8 0)]⟩:=by kernel_rfl
theorem ti9:Jy Tryz.prog 9=some ⟨.str,1,16,[.f (.str (ByteArray.mk #[]))]⟩:=by kernel_rfl
theorem ti10:Jy Tryz.prog 10=some ⟨.str,1,16,[.f (.str (ByteArray.mk #[]))]⟩:=by kernel_rfl
theorem ti11:Jy Tryz.prog 11=some ⟨.str,1,16,[.f (.str (ByteArray.mk #[]))]⟩:=by kernel_rfl
theorem ti12:Jy Tryz.prog 12=some ⟨.int .u64,1,8,[.f (.int .u64 0)]⟩:=by kernel_rfl
theorem ti13:Jy Tryz.prog 13=some ⟨.struct [(9,0),(12,1)],2,24,[.f (.str (ByteArray.mk #[])), .f (.int .u64 0)]⟩:=by kernel_rfl
theorem ti14:Jy Tryz.prog 14=some ⟨.struct [(9,0),(12,1)],2,24,[.f (.str (ByteArray.mk #[])), .f (.int .u64 0)]⟩:=by kernel_rfl
theorem ti15:Jy Tryz.prog 15=some ⟨.ptr 143,1,8,[.nilp]⟩:=by kernel_rfl
theorem ti16:Jy Tryz.prog 16=some ⟨.ptr 146,1,8,[.nilp]⟩:=by kernel_rfl
theorem ti17:Jy Tryz.prog 17=some ⟨.ptr 154,1,8,[.nilp]⟩:=by kernel_rfl
theorem ti18:Jy Tryz.prog 18=some ⟨.struct [(17,0)],1,8,[.nilp]⟩:=by kernel_rfl
theorem ti19:Jy Tryz.prog 19=some ⟨.struct [(17,0)],1,8,[.nilp]⟩:=by kernel_rfl
theorem ti21:Jy Tryz.prog 21=some ⟨.int .i32,1,4,[.f (.int .i32 0)]⟩:=by kernel_rfl
theorem ti22:Jy Tryz.prog 22=some ⟨.slice 5,1,24,[.f .nil]⟩:=by kernel_rfl
theorem UW:Jy Tryz.prog 23=some ⟨.slice 3,1,24,[.f .nil]⟩:=by kernel_rfl
theorem Rv:Jy Tryz.prog 24=some ⟨.slice 41,1,24,[.f .nil]⟩:=by kernel_rfl
theorem ti25:Jy Tryz.prog 25=some ⟨.struct [(3,0),(23,1),(24,2)],3,56,[.f (.int .i64 0), .f .nil, .f .nil]⟩:=by kernel_rfl
theorem ti26:Jy Tryz.prog 26=some ⟨.struct [(3,0),(23,1),(24,2)],3,56,[.f (.int .i64 0), .f .nil, .f .nil]⟩:=by kernel_rfl
theorem ti27:Jy Tryz.prog 27=some ⟨.func,1,8,[.nilf]⟩:=by kernel_rfl
theorem ti28:Jy Tryz.prog 28=some ⟨.func,1,8,[.nilf]⟩:=by kernel_rfl
theorem ti29:Jy Tryz.prog 29=some ⟨.func,1,8,[.nilf]⟩:=by kernel_rfl
theorem ti30:Jy Tryz.prog 30=some ⟨.func,1,8,[.nilf]⟩:=by kernel_rfl
theorem ti32:Jy Tryz.prog 32=some ⟨.func,1,8,[.nilf]⟩:=by kernel_rfl
theorem ti33:Jy Tryz.prog 33=some ⟨.func,1,8,[.nilf]⟩:=by kernel_rfl
theorem ti34:Jy Tryz.prog 34=some ⟨.func,1,8,[.nilf]⟩:=by kernel_rfl
theorem ti35:Jy Tryz.prog 35=some ⟨.func,1,8,[.nilf]⟩:=by kernel_rfl
theorem ti36:Jy Tryz.prog 36=some ⟨.func,1,8,[.nilf]⟩:=by kernel_rfl
theorem ti37:Jy Tryz.prog 37=some ⟨.ptr 65,1,8,[.nilp]⟩:=by kernel_rfl
theorem ti38:Jy Tryz.prog 38=some ⟨.func,1,8,[.nilf]⟩:=by kernel_rfl
theorem ti39:Jy Tryz.prog 39=some ⟨.func,1,8,[.nilf]⟩:=by kernel_rfl
theorem ti40:Jy Tryz.prog 40=some ⟨.struct [(3,0),(23,1),(3,2)],3,40,[.f (.int .i64 0), .f .nil, .f (.int .i64 0)]⟩:=by kernel_rfl
theorem Rt:Jy Tryz.prog 41=some ⟨.struct [(3,0),(23,1),(3,2)],3,40,[.f (.int .i64 0), .f .nil, .f (.int .i64 0)]⟩:=by kernel_rfl
theorem ti42:Jy Tryz.prog 42=some ⟨.func,1,8,[.nilf]⟩:=by kernel_rfl
theorem ti43:Jy Tryz.prog 43=some ⟨.func,1,8,[.nilf]⟩:=by kernel_rfl
theorem ti44:Jy Tryz.prog 44=some ⟨.func,1,8,[.nilf]⟩:=by kernel_rfl
theorem ti45:Jy Tryz.prog 45=some ⟨.func,1,8,[.nilf]⟩:=by kernel_rfl
theorem ti46:Jy Tryz.prog 46=some ⟨.slice 9,1,24,[.f .nil]⟩:=by kernel_rfl
theorem ti47:Jy Tryz.prog 47=some ⟨.func,1,8,[.nilf]⟩:=by kernel_rfl
theorem ti49:Jy Tryz.prog 49=some ⟨.func,1,8,[.nilf]⟩:=by kernel_rfl
theorem ti51:Jy Tryz.prog 51=some ⟨.func,1,8,[.nilf]⟩:=by kernel_rfl
theorem ti52:Jy Tryz.prog 52=some ⟨.func,1,8,[.nilf]⟩:=by kernel_rfl
theorem ti53:Jy Tryz.prog 53=some ⟨.func,1,8,[.nilf]⟩:=by kernel_rfl
theorem ti54:Jy Tryz.prog 54=some ⟨.func,1,8,[.nilf]⟩:=by kernel_rfl
theorem ti55:Jy Tryz.prog 55=some ⟨.func,1,8,[.nilf]⟩:=by kernel_rfl
theorem ti56:Jy Tryz.prog 56=some ⟨.func,1,8,[.nilf]⟩:=by kernel_rfl
theorem ti57:Jy Tryz.prog 57=some ⟨.func,1,8,[.nilf]⟩:=by kernel_rfl
theorem ti59:Jy Tryz.prog 59=some ⟨.func,1,8,[.nilf]⟩:=by kernel_rfl
theorem ti60:Jy Tryz.prog 60=some ⟨.func,1,8,[.nilf]⟩:=by kernel_rfl
theorem ti61:Jy Tryz.prog 61=some ⟨.func,1,8,[.nilf]⟩:=by kernel_rfl
theorem ti62:Jy Tryz.prog 62=some ⟨.func,1,8,[.nilf]⟩:=by kernel_rfl
theorem ti63:Jy Tryz.prog 63=some ⟨.func,1,8,[.nilf]⟩:=by kernel_rfl
theorem ti64:Jy Tryz.prog 64=some ⟨.struct [(22,0),(3,1)],2,32,[.f .nil, .f (.int .i64 0)]⟩:=by kernel_rfl
theorem ti65:Jy Tryz.prog 65=some ⟨.struct [(22,0),(3,1)],2,32,[.f .nil, .f (.int .i64 0)]⟩:=by kernel_rfl
theorem ti66:Jy Tryz.prog 66=some ⟨.func,1,8,[.nilf]⟩:=by kernel_rfl
theorem ti67:Jy Tryz.prog 67=some ⟨.func,1,8,[.nilf]⟩:=by kernel_rfl
theorem ti68:Jy Tryz.prog 68=some ⟨.func,1,8,[.nilf]⟩:=by kernel_rfl
theorem ti69:Jy Tryz.prog 69=some ⟨.func,1,8,[.nilf]⟩:=by kernel_rfl
theorem ti71:Jy Tryz.prog 71=some ⟨.func,1,8,[.nilf]⟩:=by kernel_rfl
theorem ti72:Jy Tryz.prog 72=some ⟨.func,1,8,[.nilf]⟩:=by kernel_rfl
theorem ti76:Jy Tryz.prog 76=some ⟨.func,1,8,[.nilf]⟩:=by kernel_rfl
theorem ti77:Jy Tryz.prog 77=some ⟨.func,1,8,[.nilf]⟩:=by kernel_rfl
theorem ti78:Jy Tryz.prog 78=some ⟨.func,1,8,[.nilf]⟩:=by kernel_rfl
theorem ti79:Jy Tryz.prog 79=some ⟨.func,1,8,[.nilf]⟩:=by kernel_rfl
theorem ti80:Jy Tryz.prog 80=some ⟨.func,1,8,[.nilf]⟩:=by kernel_rfl
theorem ti81:Jy Tryz.prog 81=some ⟨.func,1,8,[.nilf]⟩:=by kernel_rfl
theorem ti82:Jy Tryz.prog 82=some ⟨.func,1,8,[.nilf]⟩:=by kernel_rfl
theorem ti83:Jy Tryz.prog 83=some ⟨.func,1,8,[.nilf]⟩:=by kernel_rfl
theorem ti84:Jy Tryz.prog 84=some ⟨.func,1,8,[.nilf]⟩:=by kernel_rfl
theorem ti85:Jy Tryz.prog 85=some ⟨.func,1,8,[.nilf]⟩:=by kernel_rfl
theorem ti86:Jy Tryz.prog 86=some ⟨.ptr 3,1,8,[.nilp]⟩:=by kernel_rfl
theorem ti87:Jy Tryz.prog 87=some ⟨.func,1,8,[.nilf]⟩:=by kernel_rfl
theorem Jhq:Jy Tryz.prog 88=some ⟨.slice 23,1,24,[.f .nil]⟩:=by kernel_rfl
theorem ti89:Jy Tryz.prog 89=some ⟨.func,1,8,[.nilf]⟩:=by kernel_rfl
theorem ti90:Jy Tryz.prog 90=some ⟨.func,1,8,[.nilf]⟩:=by kernel_rfl
theorem ti91:Jy Tryz.prog 91=some ⟨.func,1,8,[.nilf]⟩:=by kernel_rfl
theorem ti93:Jy Tryz.prog 93=some ⟨.func,1,8,[.nilf]⟩:=by kernel_rfl
theorem ti94:Jy Tryz.prog 94=some ⟨.int .i64,1,8,[.f (.int .i64 0)]⟩:=by kernel_rfl
theorem ti96:Jy Tryz.prog 96=some ⟨.func,1,8,[.nilf]⟩:=by kernel_rfl
theorem ti97:Jy Tryz.prog 97=some ⟨.ptr 115,1,8,[.nilp]⟩:=by kernel_rfl
theorem ti98:Jy Tryz.prog 98=some ⟨.func,1,8,[.nilf]⟩:=by kernel_rfl
theorem ti99:Jy Tryz.prog 99=some ⟨.func,1,8,[.nilf]⟩:=by kernel_rfl
theorem ti100:Jy Tryz.prog 100=some ⟨.func,1,8,[.nilf]⟩:=by kernel_rfl
theorem ti101:Jy Tryz.prog 101=some ⟨.func,1,8,[.nilf]⟩:=by kernel_rfl
theorem ti102:Jy Tryz.prog 102=some ⟨.func,1,8,[.nilf]⟩:=by kernel_rfl
theorem ti103:Jy Tryz.prog 103=some ⟨.ptr 88,1,8,[.nilp]⟩:=by kernel_rfl
theorem ti104:Jy Tryz.prog 104=some ⟨.array 24 5,24,24,[.f (.int .u8 0), .f (.int .u8 0), .f (.int .u8 0), .f (.int .u8 0), .f (.int .u8 0), .f (.int .u8 0), .f (.int .u8 0), .f (.int .u8 0), .f (.int .u8 0), .f (.int .u8 0), .f (.int .u8 0), .f (.int .u8 0), .f (.int .u8 0), .f (.int .u8 0), .f (.int .u8 0), .f (.int .u8 0), .f (.int .u8 0), .f (.int .u8 0), .f (.int .u8 0), .f (.int .u8 0), .f (.int .u8 0), .f (.int .u8 0), .f (.int .u8 0), .f (.int .u8 0)]⟩:=by kernel_rfl
theorem ti105:Jy Tryz.prog 105=some ⟨.int .u64,1,8,[.f (.int .u64 0)]⟩:=by kernel_rfl
theorem ti106:Jy Tryz.prog 106=some ⟨.func,1,8,[.nilf]⟩:=by kernel_rfl
theorem ti107:Jy Tryz.prog 107=some ⟨.func,1,8,[.nilf]⟩:=by kernel_rfl
theorem ti109:Jy Tryz.prog 109=some ⟨.func,1,8,[.nilf]⟩:=by kernel_rfl
theorem ti110:Jy Tryz.prog 110=some ⟨.int .u64,1,8,[.f (.int .u64 0)]⟩:=by kernel_rfl
theorem ti112:Jy Tryz.prog 112=some ⟨.func,1,8,[.nilf]⟩:=by kernel_rfl
theorem ti113:Jy Tryz.prog 113=some ⟨.func,1,8,[.nilf]⟩:=by kernel_rfl
theorem ti116:Jy Tryz.prog 116=some ⟨.func,1,8,[.nilf]⟩:=by kernel_rfl
theorem ti117:Jy Tryz.prog 117=some ⟨.func,1,8,[.nilf]⟩:=by kernel_rfl
theorem ti118:Jy Tryz.prog 118=some ⟨.func,1,8,[.nilf]⟩:=by kernel_rfl
theorem ti119:Jy Tryz.prog 119=some ⟨.array 20 105,20,160,[.f (.int .u64 0), .f (.int .u64 0), .f (.int .u64 0), .f (.int .u64 0), .f (.int .u64 0), .f (.int .u64 0), .f (.int .u64 0), .f (.int .u64 0), .f (.int .u64 0), .f (.int .u64 0), .f (.int .u64 0), .f (.int .u64 0), .f (.int .u64 0), .f (.int .u64 0), .f (.int .u64 0), .f (.int .u64 0), .f (.int .u64 0), .f (.int .u64 0), .f (.int .u64 0), .f (.int .u64 0)]⟩:=by kernel_rfl
theorem ti120:Jy Tryz.prog 120=some ⟨.int .u32,1,4,[.f (.int .u32 0)]⟩:=by kernel_rfl
theorem ti121:Jy Tryz.prog 121=some ⟨.array 65 5,65,65,[.f (.int .u8 0), .f (.int .u8 0), .f (.int .u8 0), .f (.int .u8 0), .f (.int .u8 0), .f (.int .u8 0), .f (.int .u8 0), .f (.int .u8 0), .f (.int .u8 0), .f (.int .u8 0), .f (.int .u8 0), .f (.int .u8 0), .f (.int .u8 0), .f (.int .u8 0), .f (.int .u8 0), .f (.int .u8 0), .f (.int .u8 0), .f (.int .u8 0), .f (.int .u8 0), .f (.int .u8 0), .f (.int .u8 0), .f (.int .u8 0), .f (.int .u8 0), .f (.int .u8 0), .f (.int .u8 0), .f (.int .u8 0), .f (.int .u8 0), .f (.int .u8 0), .f (.int .u8 0), .f (.int .u8 0), .f (.int .u8 0), .f (.int .u8 0), .f (.int .u8 0), .f (.int .u8 0), .f (.int .u8 0), .f (.int .u8 0), .f (.int .u8 0), .f (.int .u8 0), .f (.int .u8 0), .f (.int .u8 0), .f (.int .u8 0), .f (.int .u8 0), .f (.int .u8 0), .f (.int .u8 0), .f (.int .u8 0), .f (.int .u8 0), .f (.int .u8 0), .f (.int .u8 0), .f (.int .u8 0), .f (.int .u8 0), .f (.int .u8 0), .f (.int .u8 0), .f (.int .u8 0), .f (.int .u8 0), .f (.int .u8 0), .f (.int .u8 0), .f (.int .u8 0), .f (.int .u8 0), .f (.int .u8 0), .f (.int .u8 0), .f (.int .u8 0), .f (.int .u8 0), .f (.int .u8 0), .f (.int .u8 0), .f (.int .u8 0)]⟩:=by kernel_rfl
theorem ti122:Jy Tryz.prog 122=some ⟨.func,1,8,[.nilf]⟩:=by kernel_rfl
theorem ti123:Jy Tryz.prog 123=some ⟨.array 256 5,256,256,[.f (.int .u8 0), .f (.int .u8 0), .f (.int .u8 0), .f (.int .u8 0), .f (.int .u8 0), .f (.int .u8 0), .f (.int .u8 0), .f (.int .u8 0), .f (.int .u8 0), .f (.int .u8 0), .f (.int .u8 0), .f (.int .u8 0), .f (.int .u8 0), .f (.int .u8 0), .f (.int .u8 0), .f (.int .u8 0), .f (.int .u8 0), .f (.int .u8 0), .f (.int .u8 0), .f (.int .u8 0), .f (.int .u8 0), .f (.int .u8 0), .f (.int .u8 0), .f (.int .u8 0), .f (.int .u8 0), .f (.int .u8 0), .f (.int .u8 0), .f (.int .u8 0), .f (.int .u8 0), .f (.int .u8 0), .f (.int .u8 0), .f (.int .u8 0), .f (.int .u8 0), .f (.int .u8 0), .f (.int .u8 0), .f (.int .u8 0), .f (.int .u8 0), .f (.int .u8 0), .f (.int .u8 0), .f (.int .u8 0), .f (.int .u8 0), .f (.int .u8 0), .f (.int .u8 0), .f (.int .u8 0), .f (.int .u8 0), .f (.int .u8 0), .f (.int .u8 0), .f (.int .u8 0), .f (.int .u8 0), .f (.int .u8 0), .f (.int .u8 0), .f (.int .u8 0), .f (.int .u8 0), .f (.int .u8 0), .f (.int .u8 0), .f (.int .u8 0), .f (.int .u8 0), .f (.int .u8 0), .f (.int .u8 0), .f (.int .u8 0), .f (.int .u8 0), .f (.int .u8 0), .f (.int .u8 0), .f (.int .u8 0), .f (.int .u8 0), .f (.int .u8 0), .f (.int .u8 0), .f (.int .u8 0), .f (.int .u8 0), .f (.int .u8 0), .f (.int .u8 0), .f (.int .u8 0), .f (.int .u8 0), .f (.int .u8 0), .f (.int .u8 0), .f (.int .u8 0), .f (.int .u8 0), .f (.int .u8 0), .f (.int .u8 0), .f (.int .u8 0), .f (.int .u8 0), .f (.int .u8 0), .f (.int .u8 0), .f (.int .u8 0), .f (.int .u8 0), .f (.int .u8 0), .f (.int .u8 0), .f (.int .u8 0), .f (.int .u8 0), .f (.int .u8 0), .f (.int .u8 0), .f (.int .u8 0), .f (.int .u8 0), .f (.int .u8 0), .f (.int .u8 0), .f (.int .u8 0), .f (.int .u8 0), .f (.int .u8 0), .f (.int .u8 0), .f (.int .u8 0), .f (.int .u8 0), .f (.int .u8 0), .f (.int .u8 0), .f (.int .u8 0), .f (.int .u8 0), .f (.int .u8 0), .f (.int .u8 0), .f (.int .u8 0), .f (.int .u8 0), .f (.int .u8 0), .f (.int .u8 0), .f (.int .u8 0), .f (.int .u8 0), .f (.int .u8 0), .f (.int .u8 0), .f (.int .u8 0), .f (.int .u8 0), .f (.int .u8 0), .f (.int .u8 0), .f (.int .u8 0), .f (.int .u8 0), .f (.int .u8 0), .f (.int .u8 0), .f (.int .u8 0), .f (.int .u8 0), .f (.int .u8 0), .f (.int .u8 0), .f (.int .u8 0), .f (.int .u8 0), .f (.int .u8 0), .f (.int .u8 0), .f (.int .u8 0), .f (.int .u8 0), .f (.int .u8 0), .f (.int .u8 0), .f (.int .u8 0), .f (.int .u8 0), .f (.int .u8 0), .f (.int .u8 0), .f (.int .u8 0), .f (.int .u8 0), .f (.int .u8 0), .f (.int .u8 0), .f (.int .u8 0), .f (.int .u8 0), .f (.int .u8 0), .f (.int .u8 0), .f (.int .u8 0), .f (.int .u8 0), .f (.int .u8 0), .f (.int .u8 0), .f (.int .u8 0), .f (.int .u8 0), .f (.int .u8 0), .f (.int .u8 0), .f (.int .u8 0), .f (.int .u8 0), .f (.int .u8 0), .f (.int .u8 0), .f (.int .u8 0), .f (.int .u8 0), .f (.int .u8 0), .f (.int .u8 0), .f (.int .u8 0), .f (.int .u8 0), .f (.int .u8 0), .f (.int .u8 0), .f (.int .u8 0), .f (.int .u8 0), .f (.int .u8 0), .f (.int .u8 0), .f (.int .u8 0), .f (.int .u8 0), .f (.int .u8 0), .f (.int .u8 0), .f (.int .u8 0), .f (.int .u8 0), .f (.int .u8 0), .f (.int .u8 0), .f (.int .u8 0), .f (.int .u8 0), .f (.int .u8 0), .f (.int .u8 0), .f (.int .u8 0), .f (.int .u8 0), .f (.int .u8 0), .f (.int .u8 0), .f (.int .u8 0), .f (.int .u8 0), .f (.int .u8 0), .f (.int .u8 0), .f (.int .u8 0), .f (.int .u8 0), .f (.int .u8 0), .f (.int .u8 0), .f (.int .u8 0), .f (.int .u8 0), .f (.int .u8 0), .f (.int .u8 0), .f (.int .u8 0), .f (.int .u8 0), .f (.int .u8 0), .f (.int .u8 0), .f (.int .u8 0), .f (.int .u8 0), .f (.int .u8 0), .f (.int .u8 0), .f (.int .u8 0), .f (.int .u8 0), .f (.int .u8 0), .f (.int .u8 0), .f (.int .u8 0), .f (.int .u8 0), .f (.int .u8 0), .f (.int .u8 0), .f (.int .u8 0), .f (.int .u8 0), .f (.int .u8 0), .f (.int .u8 0), .f (.int .u8 0), .f (.int .u8 0), .f (.int .u8 0), .f (.int .u8 0), .f (.int .u8 0), .f (.int .u8 0), .f (.int .u8 0), .f (.int .u8 0), .f (.int .u8 0), .f (.int .u8 0), .f (.int .u8 0), .f (.int .u8 0), .f (.int .u8 0), .f (.int .u8 0), .f (.int .u8 0), .f (.int .u8 0), .f (.int .u8 0), .f (.int .u8 0), .f (.int .u8 0), .f (.int .u8 0), .f (.int .u8 0), .f (.int .u8 0), .f (.int .u8 0), .f (.int .u8 0), .f (.int .u8 0), .f (.int .u8 0), .f (.int .u8 0), .f (.int .u8 0), .f (.int .u8 0), .f (.int .u8 0), .f (.int .u8 0), .f (.int .u8 0), .f (.int .u8 0), .f (.int .u8 0), .f (.int .u8 0), .f (.int .u8 0), .f (.int .u8 0)]⟩:=by kernel_rfl
theorem ti124:Jy Tryz.prog 124=some ⟨.struct [(5,0),(5,1)],2,2,[.f (.int .u8 0), .f (.int .u8 0)]⟩:=by kernel_rfl
theorem ti125:Jy Tryz.prog 125=some ⟨.struct [(5,0),(5,1)],2,2,[.f (.int .u8 0), .f (.int .u8 0)]⟩:=by kernel_rfl
theorem ti126:Jy Tryz.prog 126=some ⟨.array 16 125,32,32,[.f (.int .u8 0), .f (.int .u8 0), .f (.int .u8 0), .f (.int .u8 0), .f (.int .u8 0), .f (.int .u8 0), .f (.int .u8 0), .f (.int .u8 0), .f (.int .u8 0), .f (.int .u8 0), .f (.int .u8 0), .f (.int .u8 0), .f (.int .u8 0), .f (.int .u8 0), .f (.int .u8 0), .f (.int .u8 0), .f (.int .u8 0), .f (.int .u8 0), .f (.int .u8 0), .f (.int .u8 0), .f (.int .u8 0), .f (.int .u8 0), .f (.int .u8 0), .f (.int .u8 0), .f (.int .u8 0), .f (.int .u8 0), .f (.int .u8 0), .f (.int .u8 0), .f (.int .u8 0), .f (.int .u8 0), .f (.int .u8 0), .f (.int .u8 0)]⟩:=by kernel_rfl
theorem ti128:Jy Tryz.prog 128=some ⟨.func,1,8,[.nilf]⟩:=by kernel_rfl
theorem ti129:Jy Tryz.prog 129=some ⟨.func,1,8,[.nilf]⟩:=by kernel_rfl
theorem ti130:Jy Tryz.prog 130=some ⟨.func,1,8,[.nilf]⟩:=by kernel_rfl
theorem ti131:Jy Tryz.prog 131=some ⟨.ptr 5,1,8,[.nilp]⟩:=by kernel_rfl
theorem ti132:Jy Tryz.prog 132=some ⟨.ptr 134,1,8,[.nilp]⟩:=by kernel_rfl
theorem ti133:Jy Tryz.prog 133=some ⟨.struct [(9,0)],1,16,[.f (.str (ByteArray.mk #[]))]⟩:=by kernel_rfl
theorem ti134:Jy Tryz.prog 134=some ⟨.struct [(9,0)],1,16,[.f (.str (ByteArray.mk #[]))]⟩:=by kernel_rfl
theorem ti135:Jy Tryz.prog 135=some ⟨.func,1,8,[.nilf]⟩:=by kernel_rfl
theorem ti136:Jy Tryz.prog 136=some ⟨.func,1,8,[.nilf]⟩:=by kernel_rfl
theorem ti137:Jy Tryz.prog 137=some ⟨.func,1,8,[.nilf]⟩:=by kernel_rfl
theorem ti138:Jy Tryz.prog 138=some ⟨.func,1,8,[.nilf]⟩:=by kernel_rfl
theorem ti139:Jy Tryz.prog 139=some ⟨.array 32 5,32,32,[.f (.int .u8 0), .f (.int .u8 0), .f (.int .u8 0), .f (.int .u8 0), .f (.int .u8 0), .f (.int .u8 0), .f (.int .u8 0), .f (.int .u8 0), .f (.int .u8 0), .f (.int .u8 0), .f (.int .u8 0), .f (.int .u8 0), .f (.int .u8 0), .f (.int .u8 0), .f (.int .u8 0), .f (.int .u8 0), .f (.int .u8 0), .f (.int .u8 0), .f (.int .u8 0), .f (.int .u8 0), .f (.int .u8 0), .f (.int .u8 0), .f (.int .u8 0), .f (.int .u8 0), .f (.int .u8 0), .f (.int .u8 0), .f (.int .u8 0), .f (.int .u8 0), .f (.int .u8 0), .f (.int .u8 0), .f (.int .u8 0), .f (.int .u8 0)]⟩:=by kernel_rfl
theorem ti140:Jy Tryz.prog 140=some ⟨.array 64 5,64,64,[.f (.int .u8 0), .f (.int .u8 0), .f (.int .u8 0), .f (.int .u8 0), .f (.int .u8 0), .f (.int .u8 0), .f (.int .u8 0), .f (.int .u8 0), .f (.int .u8 0), .f (.int .u8 0), .f (.int .u8 0), .f (.int .u8 0), .f (.int .u8 0), .f (.int .u8 0), .f (.int .u8 0), .f (.int .u8 0), .f (.int .u8 0), .f (.int .u8 0), .f (.int .u8 0), .f (.int .u8 0), .f (.int .u8 0), .f (.int .u8 0), .f (.int .u8 0), .f (.int .u8 0), .f (.int .u8 0), .f (.int .u8 0), .f (.int .u8 0), .f (.int .u8 0), .f (.int .u8 0), .f (.int .u8 0), .f (.int .u8 0), .f (.int .u8 0), .f (.int .u8 0), .f (.int .u8 0), .f (.int .u8 0), .f (.int .u8 0), .f (.int .u8 0), .f (.int .u8 0), .f (.int .u8 0), .f (.int .u8 0), .f (.int .u8 0), .f (.int .u8 0), .f (.int .u8 0), .f (.int .u8 0), .f (.int .u8 0), .f (.int .u8 0), .f (.int .u8 0), .f (.int .u8 0), .f (.int .u8 0), .f (.int .u8 0), .f (.int .u8 0), .f (.int .u8 0), .f (.int .u8 0), .f (.int .u8 0), .f (.int .u8 0), .f (.int .u8 0), .f (.int .u8 0), .f (.int .u8 0), .f (.int .u8 0), .f (.int .u8 0), .f (.int .u8 0), .f (.int .u8 0), .f (.int .u8 0), .f (.int .u8 0)]⟩:=by kernel_rfl
theorem ti141:Jy Tryz.prog 141=some ⟨.func,1,8,[.nilf]⟩:=by kernel_rfl
theorem ti142:Jy Tryz.prog 142=some ⟨.struct [(17,0),(17,1),(17,2),(9,3)],4,40,[.nilp, .nilp, .nilp, .f (.str (ByteArray.mk #[]))]⟩:=by kernel_rfl
theorem ti143:Jy Tryz.prog 143=some ⟨.struct [(17,0),(17,1),(17,2),(9,3)],4,40,[.nilp, .nilp, .nilp, .f (.str (ByteArray.mk #[]))]⟩:=by kernel_rfl
theorem ti144:Jy Tryz.prog 144=some ⟨.array 0 16,0,0,[]⟩:=by kernel_rfl
theorem ti145:Jy Tryz.prog 145=some ⟨.struct [(144,0)],0,0,[]⟩:=by kernel_rfl
theorem ti146:Jy Tryz.prog 146=some ⟨.struct [(144,0)],0,0,[]⟩:=by kernel_rfl
theorem ti147:Jy Tryz.prog 147=some ⟨.func,1,8,[.nilf]⟩:=by kernel_rfl
theorem ti148:Jy Tryz.prog 148=some ⟨.int .u8,1,1,[.f (.int .u8 0)]⟩:=by kernel_rfl
theorem ti149:Jy Tryz.prog 149=some ⟨.int .u8,1,1,[.f (.int .u8 0)]⟩:=by kernel_rfl
theorem ti150:Jy Tryz.prog 150=some ⟨.func,1,8,[.nilf]⟩:=by kernel_rfl
theorem ti151:Jy Tryz.prog 151=some ⟨.int .i32,1,4,[.f (.int .i32 0)]⟩:=by kernel_rfl
theorem ti152:Jy Tryz.prog 152=some ⟨.int .i32,1,4,[.f (.int .i32 0)]⟩:=by kernel_rfl
theorem ti153:Jy Tryz.prog 153=some ⟨.struct [(12,0),(12,1),(120,2),(148,3),(5,4),(5,5),(149,6),(150,7),(131,8),(151,9),(152,10)],11,48,[.f (.int .u64 0), .f (.int .u64 0), .f (.int .u32 0), .f (.int .u8 0), .f (.int .u8 0), .f (.int .u8 0), .f (.int .u8 0), .nilf, .nilp, .f (.int .i32 0), .f (.int .i32 0)]⟩:=by kernel_rfl
theorem ti154:Jy Tryz.prog 154=some ⟨.struct [(12,0),(12,1),(120,2),(148,3),(5,4),(5,5),(149,6),(150,7),(131,8),(151,9),(152,10)],11,48,[.f (.int .u64 0), .f (.int .u64 0), .f (.int .u32 0), .f (.int .u8 0), .f (.int .u8 0), .f (.int .u8 0), .f (.int .u8 0), .nilf, .nilp, .f (.int .i32 0), .f (.int .i32 0)]⟩:=by kernel_rfl
theorem Zr:Tryz.prog.follows .mixedOrders=true:=by kernel_rfl
attribute [go_sem] ti1 ti2 Ru ti4 ti5 ti6 ti7 ti8 ti9 ti10 ti11 ti12 ti13 ti14 ti15 ti16 ti17 ti18 ti19 ti21 ti22 UW Rv ti25 ti26 ti27 ti28 ti29 ti30 ti32 ti33 ti34 ti35 ti36 ti37 ti38 ti39 ti40 Rt ti42 ti43 ti44 ti45 ti46 ti47 ti49 ti51 ti52 ti53 ti54 ti55 ti56 ti57 ti59 ti60 ti61 ti62 ti63 ti64 ti65 ti66 ti67 ti68 ti69 ti71 ti72 ti76 ti77 ti78 ti79 ti80 ti81 ti82 ti83 ti84 ti85 ti86 ti87 Jhq ti89 ti90 ti91 ti93 ti94 ti96 ti97 ti98 ti99 ti100 ti101 ti102 ti103 ti104 ti105 ti106 ti107 ti109 ti110 ti112 ti113 ti116 ti117 ti118 ti119 ti120 ti121 ti122 ti123 ti124 ti125 ti126 ti128 ti129 ti130 ti131 ti132 ti133 ti134 ti135 ti136 ti137 ti138 ti139 ti140 ti141 ti142 ti143 ti144 ti145 ti146 ti147 ti148 ti149 ti150 ti151 ti152 ti153 ti154
end Go.Lg

set_option linter.unusedSimpArgs false
set_option linter.unusedVariables false
set_option maxRecDepth 100000
namespace Go.Lg
open Go.Proofs
theorem Wm(n:Int):Qd Tryz.prog 47 [int n] (bool (decide (2≤n∧n≤4))):=by
 refine Jq.cw (c:=_) Tryz.func47 rfl (n:=9) Tryz.ntmps47 (rs:=[.tmp 2]) rfl ?_
 simp only[Jf,Jl,zA,zS,Jg,Jc,Jd]
 simp(maxSteps:=999999)(disch:=omega)only[go_sem,zA,zM,zS,zE,zL]
 refine Jx (fun h=> ?_) (fun h=> ?_)<;>simp(maxSteps:=999999)(disch:=omega)only[go_sem,zA,zM,zS,zE,zL,h]<;>simp at h<;>simp[h]
 omega
def J9(xs:List Int)(n:Int):Bool:=decide (2≤n∧n≤4∧(xs.length:Int)=n*n∧∀j,j<xs.length→0≤JM xs j∧JM xs j≤n)
theorem Ub(xs:List Int)(n:Int)(hx:xs.length≤2^44):Qd Tryz.prog 31 [ZY xs,int n] (bool (J9 xs n)):=by
 refine Jq.cw (c:=_) Tryz.func31 rfl (n:=32) Tryz.ntmps31 (rs:=[.tmp 4]) rfl ?_
 simp only[Jf,Jl,zA,zS,Jg,Jc,Jd]
 simp(maxSteps:=999999)(disch:=omega)only[go_sem,zA,zM,zS,zE,zL]
 refine Qh.rd (Wm n) (⟨_,Tryz.func47,rfl,rfl⟩:Jm Tryz.prog 47) rfl rfl rfl rfl ?_
 simp(maxSteps:=999999)(disch:=omega)only[go_sem,zA,zM,zS,zE,zL]
 refine Jx (fun h=> ?_) (fun h=> ?_)<;>simp(maxSteps:=999999)(disch:=omega)only[go_sem,zA,zM,zS,zE,zL,h]
 · simp at h
   simp[J9];omega
 have hn:2≤n∧n≤4:=by simpa using h
 have hw:4≤n*n∧n*n≤16:=by
  have:n=2∨n=3∨n=4:=by omega
  rcases this with rfl|rfl|rfl<;>decide
 simp(maxSteps:=999999)(disch:=omega)only[go_sem,zA,zM,zS,zE,zL]
 refine QB (fun h2=> ?_) (fun h2=> ?_)<;>simp(maxSteps:=999999)(disch:=omega)only[go_sem,zA,zM,zS,zE,zL]
 · simp at h2
   simp[J9,h2]
 have hl:(xs.length:Int)=n*n:=by simpa using h2
 refine Qw (fun i:Nat=>xs.length -i) (fun i=>i≤xs.length∧∀j,j<i→0≤JM xs j∧JM xs j≤n)
  (fun i=>[.a, .k, .a, .a, .a, .a, .a, .a, .a, .a, .a, .a, .a, .a, .a, .a, .a, .a, .k, .k, .p (int i), .a, .a, .a, .a, .a, .a, .a, .a, .a, .a, .a]) (fun _=>[]) 0 ⟨Nat.zero_le _,fun j hj=>absurd hj (Nat.not_lt_zero _)⟩ (by simp(maxSteps:=999999)(disch:=omega)only[go_sem,zA,zM,zS,zE,zL];rfl) (J8 _) ?_
 rintro i ⟨hi,hall⟩
 simp(maxSteps:=999999)(disch:=omega)only[go_sem,zA,zM,zS,zE,zL]
 refine QB (fun h3=> ?_) (fun h3=> ?_)
 · have h3:i<xs.length:=by simpa using h3
   simp(maxSteps:=999999)(disch:=omega)only[go_sem,zA,zM,zS,zE,zL]
   refine Jx (fun h4=> ?_) (fun h4=> ?_)<;>simp(maxSteps:=999999)(disch:=omega)only[go_sem,zA,zM,zS,zE,zL,h4]
   · simp at h4
     symm;simp[J9];intro _ _ _;exact⟨i,h3,fun h=>by omega⟩
   refine QB (fun h5=> ?_) (fun h5=> ?_)<;>simp(maxSteps:=999999)(disch:=omega)only[go_sem,zA,zM,zS,zE,zL]
   · simp at h5
     symm;simp[J9];intro _ _ _;exact⟨i,h3,fun h=>by omega⟩
   simp at h4 h5
   refine⟨i+1,⟨⟨h3,fun j hj=> ?_⟩,by omega⟩,by omega,J8 _⟩
   rcases Nat.lt_succ_iff_lt_or_eq.1 hj with h|rfl
   · exact hall j h
   · exact⟨h4,h5⟩
 simp(maxSteps:=999999)(disch:=omega)only[go_sem,zA,zM,zS,zE,zL]
 simp at h3
 symm;simp[J9]
 exact⟨hn.1,hn.2,hl,fun j hj=>hall j (by omega)⟩
end Go.Lg

namespace Go.Lg
open Go.Proofs
def chI(v:Int):Int:=if v=0 then 46 else 48+v
def GF(v:Int):UInt8:=u8 (chI v)
theorem BW(xs:List Int)(hx:xs.length≤2^40)(hv:∀j:Nat,j<xs.length→0≤JM xs j∧JM xs j≤9):Qd Tryz.prog 42 [ZY xs] (Um (xs.map GF)):=by
 refine Jq.cw (c:=_) Tryz.func42 rfl (n:=29) Tryz.ntmps42 (rs:=[.tmp 2]) rfl ?_
 simp only[Jf,Jl,zA,zS,Jg,Jc,Jd]
 simp(maxSteps:=999999)(disch:=omega)only[go_sem,zA,zM,zS,zE,zL]
 intro g
 refine Qj (fun(i g:Nat)=>xs.length -i) (fun i g=>i≤xs.length) (fun i g=>[.a, .a, .a, .p (.c (.own 0 g 0 i none)), .a, .a, .a, .a, .a, .k, .k, .p (int i), .a, .a, .a, .a, .a, .a, .a, .a, .a, .a, .a, .a, .a, .a, .a, .a, .a]) (fun i g=>[some ⟨g,1,cl (eI .u8) ((xs.take i).map chI)⟩]) 0 g
  (Nat.zero_le _) (by simp(maxSteps:=999999)(disch:=omega)only[go_sem,zA,zM,zS,zE,zL];rfl) (Qc.refl _) ?_
 intro i g hi
 simp(maxSteps:=999999)(disch:=omega)only[go_sem,zA,zM,zS,zE,zL]
 refine QB (fun h=> ?_) (fun h=> ?_)
 · have h:i<xs.length:=by simpa using h
   have hv:=hv i h
   simp(maxSteps:=999999)(disch:=omega)only[go_sem,zA,zM,zS,zE,zL]
   refine QB (fun h2=> ?_) (fun h2=> ?_)<;>simp(maxSteps:=999999)(disch:=omega)only[go_sem,zA,zM,zS,zE,zL]
   · simp at h2
     intro g1 g2
     exact⟨i+1,g2,⟨h,by omega⟩,⟨⟨rfl,rfl⟩,rfl⟩,Zd (by rw[JX h,J1];simp[chI,h2]) (J8 _)⟩
   simp at h2
   intro g1 g2
   exact⟨i+1,g2,⟨h,by omega⟩,⟨⟨rfl,rfl⟩,rfl⟩,Zd (by rw[JX h,J1];simp[chI,h2]) (J8 _)⟩
 have h:¬i<xs.length:=by simpa using h
 have:i=xs.length:=by omega
 subst this
 simp(maxSteps:=999999)(disch:=omega)only[go_sem,zA,zM,zS,zE,zL]
 congr 1
 rw[Jn (by simp),List.take_length,List.map_map]
 rfl
end Go.Lg

namespace Go.Lg
open Go.ChangeShapes Go.WideShapes Go.ChangeAt Go.RowKit
open Go.ChangeMaps (open_string)
def Cx.base(W:World):Cx:=⟨fun _=>0,fun _=>0,fun b=>b<W.heap.size,0⟩
theorem JfK(W:World)(ht:Bx W (Cx.base W).I):QZ W (Cx.base W) []:=⟨fun b hb=>hb,fun id b hb=>by simp at hb,fun id id' b b' hb=>by simp at hb,ht⟩
theorem Qd.below{P:Program}{f:FuncId}{args:List AV}{b:Bool}(h:Qd P f args (bool b)){W:World}{vs:Array Value}(hv:VAs W (Cx.base W) [] args vs)(ht:Bx W (Cx.base W).I:=by exact⟨by intro G cs h;simp[Jco]at h,by intro G h;simp[Jf9]at h⟩):
 Calls P f vs W fun e W'=>e= .returned (.bool b)∧Below W.heap.size W W':=
 (h W (Cx.base W) vs (JfK W ht) hv).mono fun e W' ⟨v,u,X',H',h1,h2,h3,h4,h5⟩=>by
   have h5:v=bool b:=h5
   subst h5
   refine⟨by rw[h1,Wl h2],h4.os,h4.tape,h4.output,h4.size,fun k hk=>(h4.imm k hk).2⟩
theorem JbD{W:World}{X:Cx}{H:Ji}{x:AV}{v:Value}(h:VA W X H x v):VAs W X H [x] #[v]:=
 ⟨rfl,fun i hi=>by
   have:i=0:=by simpa using hi
   subst this;exact⟨v,rfl,h⟩⟩
section
variable{H:Type}{enc:TypeId×Value→H}{P:Program}{W:World}
theorem JgQ(k:IntKind)(xs:List Int):fl (eI k) xs=xs.map (.int k):=by
 induction xs with
 |nil=>rfl
 |cons x xs ih=>simp only[fl,List.flatMap_cons,Qf]at ih⊢;rw[ih];rfl
theorem Fj{b0:Nat}{r:Reach}{t e:TypeId}{k:IntKind}{v:Value}{d:DataW H}{ps:List MemPlace}(ht:P.underlying t=some (.slice e))(he:P.underlying e=some (.int k))(hc:P.cellsOf e=1)
 (hval:Value.okWide P W r b0 t v) (h:DataW.Trod enc P W 0 (fun _=>true) true t v d ps):∃xs:List Int,VA W (Cx.base W) [] (Rj (eI k) xs) v∧xs.length≤9223372036854775807∧∀x∈xs,(Lit.int k x).wf=true:=by
 obtain⟨a,len,cap,rfl⟩:=okWide_slice ht hval
 obtain⟨fuel,hf⟩:=h
 rcases open_ints ht he hc hf with⟨hcs,_⟩|⟨x,l,c,zs,hcs,_,hl,hm,hz,_,hcell,hwz⟩
 · simp[Value.cells]at hcs
   obtain⟨rfl,rfl,rfl⟩:=hcs
   exact⟨[], .c _ _ (VF.sl0 none 0),by simp,by simp⟩
 · simp[Value.cells]at hcs
   obtain⟨rfl,rfl,rfl⟩:=hcs
   have hz:zs.length=cap:=by simpa using hz
   have hlen:(zs.take len).length=len:=by simp;omega
   refine⟨zs.take len, ?_,by rw[hlen];have:maxLen≤9223372036854775807:=by decide
                             omega,fun y hy=>hwz y (List.mem_of_mem_take hy)⟩
   by_cases h0:len=0
   · subst h0
     exact .c _ _ (VF.sl0 _ _)
   · have hlt:0<zs.length:=by omega
     have hsp:x.spot=none:=by
      have hx:=hcell 0 hlt
      simp only[World.cell?]at hx
      split at hx
      · split at hx
        · cases hx
        · rename_i hsp;simpa[Addr.add]using hsp
      · cases hx
     obtain⟨b,o,sp⟩:=x
     simp only at hsp
     subst hsp
     have hb:b<W.heap.size:=World.block_lt_of_cell? W _ (hcell 0 hlt)
     have:=VF.sl (w:=W) (I:=(Cx.base W).I) len (fl (eI k) (zs.take len)) b o cap (fun j=> .int k (zs.getD j 0)) hl hb (fun j hj=>by
      rw[Z5,hlen]at hj
      have:=hcell j (by omega)
      simpa[Zm]using this) (fun j hj=>by
      rw[Z5,hlen]at hj
      have e:(fl (eI k) (zs.take len))[j]'(by rw[Z5,hlen];exact hj)= .int k (zs.getD j 0):=by
       simp only[JgQ,List.getElem_map,List.getElem_take]
       simp[List.getD,Jh (show j<zs.length by omega)]
      rw[e]
      exact VF.int _ _)
     exact .c _ _ (by rw[WR,hlen];exact this)
end
end Go.Lg
