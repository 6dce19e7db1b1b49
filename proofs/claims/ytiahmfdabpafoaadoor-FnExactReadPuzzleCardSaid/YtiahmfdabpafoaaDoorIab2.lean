/- LgTy, LgT, LgT2, LgR, cut to what is needed. -/
import Derived.Test.YtiahmfdabpafoaaDoorIab1
import Derived.Test.YtiahmfdabpafoaaDoorProg
import Derived.KernelRfl
import Derived.ProofKit
import Derived.OpenShut
import Derived.ShutString
import Derived.ChangeOld
import Derived.SizedLaws
import Derived.ChangeSlices
import Derived.Carry
open Nat renaming reduceAdd→zA,reduceMul→zM,reduceSub→zS,reduceEqDiff→zE,reduceLeDiff→zL
namespace Go.Lg
open Go.Proofs
theorem ti1:tinf Tryd.prog 1=some ⟨.func,1,8,[.nilf]⟩:=by kernel_rfl
theorem ti2:tinf Tryd.prog 2=some ⟨.int .i64,1,8,[.f (.int .i64 0)]⟩:=by kernel_rfl
theorem ti3:tinf Tryd.prog 3=some ⟨.int .i64,1,8,[.f (.int .i64 0)]⟩:=by kernel_rfl
theorem ti4:tinf Tryd.prog 4=some ⟨.bool,1,1,[.f (.bool false)]⟩:=by kernel_rfl
theorem ti5:tinf Tryd.prog 5=some ⟨.int .u8,1,1,[.f (.int .u8 0)]⟩:=by kernel_rfl
theorem ti6:tinf Tryd.prog 6=some ⟨.int .u8,1,1,[.f (.int .u8 0)]⟩:=by kernel_rfl
theorem ti7:tinf Tryd.prog 7=some ⟨.struct [(2,0),(3,1),(4,2),(6,3)],4,24,[.f (.int .i64 0), .f (.int .i64 0), .f (.bool false), .f (.int .u8 0)]⟩:=by kernel_rfl
theorem ti8:tinf Tryd.prog 8=some ⟨.struct [(2,0),(3,1),(4,2),(6,3)],4,24,[.f (.int .i64 0), .f (.int .i64 0), .f (.bool false), .f (.int .u8 0)]⟩:=by kernel_rfl
theorem ti9:tinf Tryd.prog 9=some ⟨.str,1,16,[.f (.str (ByteArray.mk #[]))]⟩:=by kernel_rfl
theorem ti10:tinf Tryd.prog 10=some ⟨.str,1,16,[.f (.str (ByteArray.mk #[]))]⟩:=by kernel_rfl
theorem ti11:tinf Tryd.prog 11=some ⟨.str,1,16,[.f (.str (ByteArray.mk #[]))]⟩:=by kernel_rfl
theorem ti12:tinf Tryd.prog 12=some ⟨.int .u64,1,8,[.f (.int .u64 0)]⟩:=by kernel_rfl
theorem ti13:tinf Tryd.prog 13=some ⟨.struct [(9,0),(12,1)],2,24,[.f (.str (ByteArray.mk #[])), .f (.int .u64 0)]⟩:=by kernel_rfl
theorem ti14:tinf Tryd.prog 14=some ⟨.struct [(9,0),(12,1)],2,24,[.f (.str (ByteArray.mk #[])), .f (.int .u64 0)]⟩:=by kernel_rfl
theorem ti15:tinf Tryd.prog 15=some ⟨.ptr 157,1,8,[.nilp]⟩:=by kernel_rfl
theorem ti16:tinf Tryd.prog 16=some ⟨.ptr 160,1,8,[.nilp]⟩:=by kernel_rfl
theorem ti17:tinf Tryd.prog 17=some ⟨.ptr 168,1,8,[.nilp]⟩:=by kernel_rfl
theorem ti18:tinf Tryd.prog 18=some ⟨.struct [(17,0)],1,8,[.nilp]⟩:=by kernel_rfl
theorem ti19:tinf Tryd.prog 19=some ⟨.struct [(17,0)],1,8,[.nilp]⟩:=by kernel_rfl
theorem ti21:tinf Tryd.prog 21=some ⟨.int .i32,1,4,[.f (.int .i32 0)]⟩:=by kernel_rfl
theorem ti22:tinf Tryd.prog 22=some ⟨.slice 3,1,24,[.f .nil]⟩:=by kernel_rfl
theorem ti23:tinf Tryd.prog 23=some ⟨.struct [(3,0),(22,1),(3,2)],3,40,[.f (.int .i64 0), .f .nil, .f (.int .i64 0)]⟩:=by kernel_rfl
theorem ti24:tinf Tryd.prog 24=some ⟨.struct [(3,0),(22,1),(3,2)],3,40,[.f (.int .i64 0), .f .nil, .f (.int .i64 0)]⟩:=by kernel_rfl
theorem ti26:tinf Tryd.prog 26=some ⟨.func,1,8,[.nilf]⟩:=by kernel_rfl
theorem ti27:tinf Tryd.prog 27=some ⟨.func,1,8,[.nilf]⟩:=by kernel_rfl
theorem ti28:tinf Tryd.prog 28=some ⟨.func,1,8,[.nilf]⟩:=by kernel_rfl
theorem ti29:tinf Tryd.prog 29=some ⟨.func,1,8,[.nilf]⟩:=by kernel_rfl
theorem ti30:tinf Tryd.prog 30=some ⟨.slice 24,1,24,[.f .nil]⟩:=by kernel_rfl
theorem ti31:tinf Tryd.prog 31=some ⟨.struct [(3,0),(22,1),(30,2)],3,56,[.f (.int .i64 0), .f .nil, .f .nil]⟩:=by kernel_rfl
theorem ti32:tinf Tryd.prog 32=some ⟨.struct [(3,0),(22,1),(30,2)],3,56,[.f (.int .i64 0), .f .nil, .f .nil]⟩:=by kernel_rfl
theorem ti34:tinf Tryd.prog 34=some ⟨.func,1,8,[.nilf]⟩:=by kernel_rfl
theorem ti35:tinf Tryd.prog 35=some ⟨.func,1,8,[.nilf]⟩:=by kernel_rfl
theorem ti36:tinf Tryd.prog 36=some ⟨.func,1,8,[.nilf]⟩:=by kernel_rfl
theorem ti37:tinf Tryd.prog 37=some ⟨.slice 5,1,24,[.f .nil]⟩:=by kernel_rfl
theorem ti38:tinf Tryd.prog 38=some ⟨.func,1,8,[.nilf]⟩:=by kernel_rfl
theorem ti39:tinf Tryd.prog 39=some ⟨.func,1,8,[.nilf]⟩:=by kernel_rfl
theorem ti40:tinf Tryd.prog 40=some ⟨.func,1,8,[.nilf]⟩:=by kernel_rfl
theorem ti41:tinf Tryd.prog 41=some ⟨.func,1,8,[.nilf]⟩:=by kernel_rfl
theorem ti42:tinf Tryd.prog 42=some ⟨.func,1,8,[.nilf]⟩:=by kernel_rfl
theorem ti43:tinf Tryd.prog 43=some ⟨.func,1,8,[.nilf]⟩:=by kernel_rfl
theorem ti44:tinf Tryd.prog 44=some ⟨.func,1,8,[.nilf]⟩:=by kernel_rfl
theorem ti45:tinf Tryd.prog 45=some ⟨.func,1,8,[.nilf]⟩:=by kernel_rfl
theorem ti46:tinf Tryd.prog 46=some ⟨.func,1,8,[.nilf]⟩:=by kernel_rfl
theorem ti47:tinf Tryd.prog 47=some ⟨.func,1,8,[.nilf]⟩:=by kernel_rfl
theorem ti48:tinf Tryd.prog 48=some ⟨.func,1,8,[.nilf]⟩:=by kernel_rfl
theorem ti50:tinf Tryd.prog 50=some ⟨.func,1,8,[.nilf]⟩:=by kernel_rfl
theorem ti51:tinf Tryd.prog 51=some ⟨.func,1,8,[.nilf]⟩:=by kernel_rfl
theorem ti55:tinf Tryd.prog 55=some ⟨.func,1,8,[.nilf]⟩:=by kernel_rfl
theorem ti56:tinf Tryd.prog 56=some ⟨.func,1,8,[.nilf]⟩:=by kernel_rfl
theorem ti57:tinf Tryd.prog 57=some ⟨.slice 9,1,24,[.f .nil]⟩:=by kernel_rfl
theorem ti59:tinf Tryd.prog 59=some ⟨.func,1,8,[.nilf]⟩:=by kernel_rfl
theorem ti60:tinf Tryd.prog 60=some ⟨.func,1,8,[.nilf]⟩:=by kernel_rfl
theorem ti61:tinf Tryd.prog 61=some ⟨.func,1,8,[.nilf]⟩:=by kernel_rfl
theorem ti62:tinf Tryd.prog 62=some ⟨.func,1,8,[.nilf]⟩:=by kernel_rfl
theorem ti63:tinf Tryd.prog 63=some ⟨.ptr 82,1,8,[.nilp]⟩:=by kernel_rfl
theorem ti64:tinf Tryd.prog 64=some ⟨.func,1,8,[.nilf]⟩:=by kernel_rfl
theorem ti65:tinf Tryd.prog 65=some ⟨.func,1,8,[.nilf]⟩:=by kernel_rfl
theorem ti66:tinf Tryd.prog 66=some ⟨.func,1,8,[.nilf]⟩:=by kernel_rfl
theorem ti67:tinf Tryd.prog 67=some ⟨.func,1,8,[.nilf]⟩:=by kernel_rfl
theorem ti68:tinf Tryd.prog 68=some ⟨.func,1,8,[.nilf]⟩:=by kernel_rfl
theorem ti69:tinf Tryd.prog 69=some ⟨.func,1,8,[.nilf]⟩:=by kernel_rfl
theorem ti70:tinf Tryd.prog 70=some ⟨.func,1,8,[.nilf]⟩:=by kernel_rfl
theorem ti71:tinf Tryd.prog 71=some ⟨.func,1,8,[.nilf]⟩:=by kernel_rfl
theorem ti72:tinf Tryd.prog 72=some ⟨.func,1,8,[.nilf]⟩:=by kernel_rfl
theorem ti73:tinf Tryd.prog 73=some ⟨.func,1,8,[.nilf]⟩:=by kernel_rfl
theorem ti74:tinf Tryd.prog 74=some ⟨.slice 22,1,24,[.f .nil]⟩:=by kernel_rfl
theorem ti75:tinf Tryd.prog 75=some ⟨.func,1,8,[.nilf]⟩:=by kernel_rfl
theorem ti76:tinf Tryd.prog 76=some ⟨.func,1,8,[.nilf]⟩:=by kernel_rfl
theorem ti77:tinf Tryd.prog 77=some ⟨.func,1,8,[.nilf]⟩:=by kernel_rfl
theorem ti78:tinf Tryd.prog 78=some ⟨.func,1,8,[.nilf]⟩:=by kernel_rfl
theorem ti79:tinf Tryd.prog 79=some ⟨.func,1,8,[.nilf]⟩:=by kernel_rfl
theorem ti80:tinf Tryd.prog 80=some ⟨.func,1,8,[.nilf]⟩:=by kernel_rfl
theorem ti81:tinf Tryd.prog 81=some ⟨.struct [(37,0),(3,1)],2,32,[.f .nil, .f (.int .i64 0)]⟩:=by kernel_rfl
theorem ti82:tinf Tryd.prog 82=some ⟨.struct [(37,0),(3,1)],2,32,[.f .nil, .f (.int .i64 0)]⟩:=by kernel_rfl
theorem ti83:tinf Tryd.prog 83=some ⟨.func,1,8,[.nilf]⟩:=by kernel_rfl
theorem ti84:tinf Tryd.prog 84=some ⟨.func,1,8,[.nilf]⟩:=by kernel_rfl
theorem ti86:tinf Tryd.prog 86=some ⟨.func,1,8,[.nilf]⟩:=by kernel_rfl
theorem ti87:tinf Tryd.prog 87=some ⟨.func,1,8,[.nilf]⟩:=by kernel_rfl
theorem ti88:tinf Tryd.prog 88=some ⟨.func,1,8,[.nilf]⟩:=by kernel_rfl
theorem ti89:tinf Tryd.prog 89=some ⟨.func,1,8,[.nilf]⟩:=by kernel_rfl
theorem ti90:tinf Tryd.prog 90=some ⟨.func,1,8,[.nilf]⟩:=by kernel_rfl
theorem ti91:tinf Tryd.prog 91=some ⟨.func,1,8,[.nilf]⟩:=by kernel_rfl
theorem ti92:tinf Tryd.prog 92=some ⟨.func,1,8,[.nilf]⟩:=by kernel_rfl
theorem ti93:tinf Tryd.prog 93=some ⟨.int .i64,1,8,[.f (.int .i64 0)]⟩:=by kernel_rfl
theorem ti95:tinf Tryd.prog 95=some ⟨.func,1,8,[.nilf]⟩:=by kernel_rfl
theorem ti96:tinf Tryd.prog 96=some ⟨.ptr 114,1,8,[.nilp]⟩:=by kernel_rfl
theorem ti97:tinf Tryd.prog 97=some ⟨.func,1,8,[.nilf]⟩:=by kernel_rfl
theorem ti98:tinf Tryd.prog 98=some ⟨.func,1,8,[.nilf]⟩:=by kernel_rfl
theorem ti99:tinf Tryd.prog 99=some ⟨.func,1,8,[.nilf]⟩:=by kernel_rfl
theorem ti100:tinf Tryd.prog 100=some ⟨.func,1,8,[.nilf]⟩:=by kernel_rfl
theorem ti101:tinf Tryd.prog 101=some ⟨.ptr 3,1,8,[.nilp]⟩:=by kernel_rfl
theorem ti102:tinf Tryd.prog 102=some ⟨.func,1,8,[.nilf]⟩:=by kernel_rfl
theorem ti103:tinf Tryd.prog 103=some ⟨.func,1,8,[.nilf]⟩:=by kernel_rfl
theorem ti104:tinf Tryd.prog 104=some ⟨.func,1,8,[.nilf]⟩:=by kernel_rfl
theorem ti105:tinf Tryd.prog 105=some ⟨.func,1,8,[.nilf]⟩:=by kernel_rfl
theorem ti106:tinf Tryd.prog 106=some ⟨.func,1,8,[.nilf]⟩:=by kernel_rfl
theorem ti107:tinf Tryd.prog 107=some ⟨.func,1,8,[.nilf]⟩:=by kernel_rfl
theorem ti108:tinf Tryd.prog 108=some ⟨.int .u64,1,8,[.f (.int .u64 0)]⟩:=by kernel_rfl
theorem ti109:tinf Tryd.prog 109=some ⟨.int .u64,1,8,[.f (.int .u64 0)]⟩:=by kernel_rfl
theorem ti111:tinf Tryd.prog 111=some ⟨.func,1,8,[.nilf]⟩:=by kernel_rfl
theorem ti112:tinf Tryd.prog 112=some ⟨.func,1,8,[.nilf]⟩:=by kernel_rfl
theorem ti115:tinf Tryd.prog 115=some ⟨.func,1,8,[.nilf]⟩:=by kernel_rfl
theorem ti116:tinf Tryd.prog 116=some ⟨.func,1,8,[.nilf]⟩:=by kernel_rfl
theorem ti118:tinf Tryd.prog 118=some ⟨.func,1,8,[.nilf]⟩:=by kernel_rfl
theorem ti119:tinf Tryd.prog 119=some ⟨.array 24 5,24,24,[.f (.int .u8 0), .f (.int .u8 0), .f (.int .u8 0), .f (.int .u8 0), .f (.int .u8 0), .f (.int .u8 0), .f (.int .u8 0), .f (.int .u8 0), .f (.int .u8 0), .f (.int .u8 0), .f (.int .u8 0), .f (.int .u8 0), .f (.int .u8 0), .f (.int .u8 0), .f (.int .u8 0), .f (.int .u8 0), .f (.int .u8 0), .f (.int .u8 0), .f (.int .u8 0), .f (.int .u8 0), .f (.int .u8 0), .f (.int .u8 0), .f (.int .u8 0), .f (.int .u8 0)]⟩:=by kernel_rfl
theorem ti120:tinf Tryd.prog 120=some ⟨.func,1,8,[.nilf]⟩:=by kernel_rfl
theorem ti121:tinf Tryd.prog 121=some ⟨.func,1,8,[.nilf]⟩:=by kernel_rfl
theorem ti123:tinf Tryd.prog 123=some ⟨.func,1,8,[.nilf]⟩:=by kernel_rfl
theorem ti124:tinf Tryd.prog 124=some ⟨.func,1,8,[.nilf]⟩:=by kernel_rfl
theorem ti125:tinf Tryd.prog 125=some ⟨.func,1,8,[.nilf]⟩:=by kernel_rfl
theorem ti126:tinf Tryd.prog 126=some ⟨.array 5 4,5,5,[.f (.bool false), .f (.bool false), .f (.bool false), .f (.bool false), .f (.bool false)]⟩:=by kernel_rfl
theorem ti127:tinf Tryd.prog 127=some ⟨.func,1,8,[.nilf]⟩:=by kernel_rfl
theorem ti128:tinf Tryd.prog 128=some ⟨.int .u32,1,4,[.f (.int .u32 0)]⟩:=by kernel_rfl
theorem ti130:tinf Tryd.prog 130=some ⟨.func,1,8,[.nilf]⟩:=by kernel_rfl
theorem ti131:tinf Tryd.prog 131=some ⟨.func,1,8,[.nilf]⟩:=by kernel_rfl
theorem ti132:tinf Tryd.prog 132=some ⟨.ptr 5,1,8,[.nilp]⟩:=by kernel_rfl
theorem ti133:tinf Tryd.prog 133=some ⟨.ptr 135,1,8,[.nilp]⟩:=by kernel_rfl
theorem ti134:tinf Tryd.prog 134=some ⟨.struct [(9,0)],1,16,[.f (.str (ByteArray.mk #[]))]⟩:=by kernel_rfl
theorem ti135:tinf Tryd.prog 135=some ⟨.struct [(9,0)],1,16,[.f (.str (ByteArray.mk #[]))]⟩:=by kernel_rfl
theorem ti136:tinf Tryd.prog 136=some ⟨.func,1,8,[.nilf]⟩:=by kernel_rfl
theorem ti137:tinf Tryd.prog 137=some ⟨.array 20 109,20,160,[.f (.int .u64 0), .f (.int .u64 0), .f (.int .u64 0), .f (.int .u64 0), .f (.int .u64 0), .f (.int .u64 0), .f (.int .u64 0), .f (.int .u64 0), .f (.int .u64 0), .f (.int .u64 0), .f (.int .u64 0), .f (.int .u64 0), .f (.int .u64 0), .f (.int .u64 0), .f (.int .u64 0), .f (.int .u64 0), .f (.int .u64 0), .f (.int .u64 0), .f (.int .u64 0), .f (.int .u64 0)]⟩:=by kernel_rfl
theorem ti138:tinf Tryd.prog 138=some ⟨.array 65 5,65,65,[.f (.int .u8 0), .f (.int .u8 0), .f (.int .u8 0), .f (.int .u8 0), .f (.int .u8 0), .f (.int .u8 0), .f (.int .u8 0), .f (.int .u8 0), .f (.int .u8 0), .f (.int .u8 0), .f (.int .u8 0), .f (.int .u8 0), .f (.int .u8 0), .f (.int .u8 0), .f (.int .u8 0), .f (.int .u8 0), .f (.int .u8 0), .f (.int .u8 0), .f (.int .u8 0), .f (.int .u8 0), .f (.int .u8 0), .f (.int .u8 0), .f (.int .u8 0), .f (.int .u8 0), .f (.int .u8 0), .f (.int .u8 0), .f (.int .u8 0), .f (.int .u8 0), .f (.int .u8 0), .f (.int .u8 0), .f (.int .u8 0), .f (.int .u8 0), .f (.int .u8 0), .f (.int .u8 0), .f (.int .u8 0), .f (.int .u8 0), .f (.int .u8 0), .f (.int .u8 0), .f (.int .u8 0), .f (.int .u8 0), .f (.int .u8 0), .f (.int .u8 0), .f (.int .u8 0), .f (.int .u8 0), .f (.int .u8 0), .f (.int .u8 0), .f (.int .u8 0), .f (.int .u8 0), .f (.int .u8 0), .f (.int .u8 0), .f (.int .u8 0), .f (.int .u8 0), .f (.int .u8 0), .f (.int .u8 0), .f (.int .u8 0), .f (.int .u8 0), .f (.int .u8 0), .f (.int .u8 0), .f (.int .u8 0), .f (.int .u8 0), .f (.int .u8 0), .f (.int .u8 0), .f (.int .u8 0), .f (.int .u8 0), .f (.int .u8 0)]⟩:=by kernel_rfl
theorem ti139:tinf Tryd.prog 139=some ⟨.func,1,8,[.nilf]⟩:=by kernel_rfl
theorem ti140:tinf Tryd.prog 140=some ⟨.func,1,8,[.nilf]⟩:=by kernel_rfl
theorem ti141:tinf Tryd.prog 141=some ⟨.func,1,8,[.nilf]⟩:=by kernel_rfl
theorem ti142:tinf Tryd.prog 142=some ⟨.ptr 74,1,8,[.nilp]⟩:=by kernel_rfl
theorem ti143:tinf Tryd.prog 143=some ⟨.func,1,8,[.nilf]⟩:=by kernel_rfl
theorem ti144:tinf Tryd.prog 144=some ⟨.func,1,8,[.nilf]⟩:=by kernel_rfl
theorem ti145:tinf Tryd.prog 145=some ⟨.array 256 5,256,256,[.f (.int .u8 0), .f (.int .u8 0), .f (.int .u8 0), .f (.int .u8 0), .f (.int .u8 0), .f (.int .u8 0), .f (.int .u8 0), .f (.int .u8 0), .f (.int .u8 0), .f (.int .u8 0), .f (.int .u8 0), .f (.int .u8 0), .f (.int .u8 0), .f (.int .u8 0), .f (.int .u8 0), .f (.int .u8 0), .f (.int .u8 0), .f (.int .u8 0), .f (.int .u8 0), .f (.int .u8 0), .f (.int .u8 0), .f (.int .u8 0), .f (.int .u8 0), .f (.int .u8 0), .f (.int .u8 0), .f (.int .u8 0), .f (.int .u8 0), .f (.int .u8 0), .f (.int .u8 0), .f (.int .u8 0), .f (.int .u8 0), .f (.int .u8 0), .f (.int .u8 0), .f (.int .u8 0), .f (.int .u8 0), .f (.int .u8 0), .f (.int .u8 0), .f (.int .u8 0), .f (.int .u8 0), .f (.int .u8 0), .f (.int .u8 0), .f (.int .u8 0), .f (.int .u8 0), .f (.int .u8 0), .f (.int .u8 0), .f (.int .u8 0), .f (.int .u8 0), .f (.int .u8 0), .f (.int .u8 0), .f (.int .u8 0), .f (.int .u8 0), .f (.int .u8 0), .f (.int .u8 0), .f (.int .u8 0), .f (.int .u8 0), .f (.int .u8 0), .f (.int .u8 0), .f (.int .u8 0), .f (.int .u8 0), .f (.int .u8 0), .f (.int .u8 0), .f (.int .u8 0), .f (.int .u8 0), .f (.int .u8 0), .f (.int .u8 0), .f (.int .u8 0), .f (.int .u8 0), .f (.int .u8 0), .f (.int .u8 0), .f (.int .u8 0), .f (.int .u8 0), .f (.int .u8 0), .f (.int .u8 0), .f (.int .u8 0), .f (.int .u8 0), .f (.int .u8 0), .f (.int .u8 0), .f (.int .u8 0), .f (.int .u8 0), .f (.int .u8 0), .f (.int .u8 0), .f (.int .u8 0), .f (.int .u8 0), .f (.int .u8 0), .f (.int .u8 0), .f (.int .u8 0), .f (.int .u8 0), .f (.int .u8 0), .f (.int .u8 0), .f (.int .u8 0), .f (.int .u8 0), .f (.int .u8 0), .f (.int .u8 0), .f (.int .u8 0), .f (.int .u8 0), .f (.int .u8 0), .f (.int .u8 0), .f (.int .u8 0), .f (.int .u8 0), .f (.int .u8 0), .f (.int .u8 0), .f (.int .u8 0), .f (.int .u8 0), .f (.int .u8 0), .f (.int .u8 0), .f (.int .u8 0), .f (.int .u8 0), .f (.int .u8 0), .f (.int .u8 0), .f (.int .u8 0), .f (.int .u8 0), .f (.int .u8 0), .f (.int .u8 0), .f (.int .u8 0), .f (.int .u8 0), .f (.int .u8 0), .f (.int .u8 0), .f (.int .u8 0), .f (.int .u8 0), .f (.int .u8 0), .f (.int .u8 0), .f (.int .u8 0), .f (.int .u8 0), .f (.int .u8 0), .f (.int .u8 0), .f (.int .u8 0), .f (.int .u8 0), .f (.int .u8 0), .f (.int .u8 0), .f (.int .u8 0), .f (.int .u8 0), .f (.int .u8 0), .f (.int .u8 0), .f (.int .u8 0), .f (.int .u8 0), .f (.int .u8 0), .f (.int .u8 0), .f (.int .u8 0), .f (.int .u8 0), .f (.int .u8 0), .f (.int .u8 0), .f (.int .u8 0), .f (.int .u8 0), .f (.int .u8 0), .f (.int .u8 0), .f (.int .u8 0), .f (.int .u8 0), .f (.int .u8 0), .f (.int .u8 0), .f (.int .u8 0), .f (.int .u8 0), .f (.int .u8 0), .f (.int .u8 0), .f (.int .u8 0), .f (.int .u8 0), .f (.int .u8 0), .f (.int .u8 0), .f (.int .u8 0), .f (.int .u8 0), .f (.int .u8 0), .f (.int .u8 0), .f (.int .u8 0), .f (.int .u8 0), .f (.int .u8 0), .f (.int .u8 0), .f (.int .u8 0), .f (.int .u8 0), .f (.int .u8 0), .f (.int .u8 0), .f (.int .u8 0), .f (.int .u8 0), .f (.int .u8 0), .f (.int .u8 0), .f (.int .u8 0), .f (.int .u8 0), .f (.int .u8 0), .f (.int .u8 0), .f (.int .u8 0), .f (.int .u8 0), .f (.int .u8 0), .f (.int .u8 0), .f (.int .u8 0), .f (.int .u8 0), .f (.int .u8 0), .f (.int .u8 0), .f (.int .u8 0), .f (.int .u8 0), .f (.int .u8 0), .f (.int .u8 0), .f (.int .u8 0), .f (.int .u8 0), .f (.int .u8 0), .f (.int .u8 0), .f (.int .u8 0), .f (.int .u8 0), .f (.int .u8 0), .f (.int .u8 0), .f (.int .u8 0), .f (.int .u8 0), .f (.int .u8 0), .f (.int .u8 0), .f (.int .u8 0), .f (.int .u8 0), .f (.int .u8 0), .f (.int .u8 0), .f (.int .u8 0), .f (.int .u8 0), .f (.int .u8 0), .f (.int .u8 0), .f (.int .u8 0), .f (.int .u8 0), .f (.int .u8 0), .f (.int .u8 0), .f (.int .u8 0), .f (.int .u8 0), .f (.int .u8 0), .f (.int .u8 0), .f (.int .u8 0), .f (.int .u8 0), .f (.int .u8 0), .f (.int .u8 0), .f (.int .u8 0), .f (.int .u8 0), .f (.int .u8 0), .f (.int .u8 0), .f (.int .u8 0), .f (.int .u8 0), .f (.int .u8 0), .f (.int .u8 0), .f (.int .u8 0), .f (.int .u8 0), .f (.int .u8 0), .f (.int .u8 0), .f (.int .u8 0), .f (.int .u8 0), .f (.int .u8 0), .f (.int .u8 0), .f (.int .u8 0), .f (.int .u8 0), .f (.int .u8 0), .f (.int .u8 0), .f (.int .u8 0), .f (.int .u8 0), .f (.int .u8 0), .f (.int .u8 0), .f (.int .u8 0), .f (.int .u8 0), .f (.int .u8 0), .f (.int .u8 0), .f (.int .u8 0), .f (.int .u8 0), .f (.int .u8 0), .f (.int .u8 0), .f (.int .u8 0), .f (.int .u8 0), .f (.int .u8 0)]⟩:=by kernel_rfl
theorem ti146:tinf Tryd.prog 146=some ⟨.struct [(5,0),(5,1)],2,2,[.f (.int .u8 0), .f (.int .u8 0)]⟩:=by kernel_rfl
theorem ti147:tinf Tryd.prog 147=some ⟨.struct [(5,0),(5,1)],2,2,[.f (.int .u8 0), .f (.int .u8 0)]⟩:=by kernel_rfl
theorem ti148:tinf Tryd.prog 148=some ⟨.array 16 147,32,32,[.f (.int .u8 0), .f (.int .u8 0), .f (.int .u8 0), .f (.int .u8 0), .f (.int .u8 0), .f (.int .u8 0), .f (.int .u8 0), .f (.int .u8 0), .f (.int .u8 0), .f (.int .u8 0), .f (.int .u8 0), .f (.int .u8 0), .f (.int .u8 0), .f (.int .u8 0), .f (.int .u8 0), .f (.int .u8 0), .f (.int .u8 0), .f (.int .u8 0), .f (.int .u8 0), .f (.int .u8 0), .f (.int .u8 0), .f (.int .u8 0), .f (.int .u8 0), .f (.int .u8 0), .f (.int .u8 0), .f (.int .u8 0), .f (.int .u8 0), .f (.int .u8 0), .f (.int .u8 0), .f (.int .u8 0), .f (.int .u8 0), .f (.int .u8 0)]⟩:=by kernel_rfl
theorem ti149:tinf Tryd.prog 149=some ⟨.func,1,8,[.nilf]⟩:=by kernel_rfl
theorem ti150:tinf Tryd.prog 150=some ⟨.func,1,8,[.nilf]⟩:=by kernel_rfl
theorem ti151:tinf Tryd.prog 151=some ⟨.array 32 5,32,32,[.f (.int .u8 0), .f (.int .u8 0), .f (.int .u8 0), .f (.int .u8 0), .f (.int .u8 0), .f (.int .u8 0), .f (.int .u8 0), .f (.int .u8 0), .f (.int .u8 0), .f (.int .u8 0), .f (.int .u8 0), .f (.int .u8 0), .f (.int .u8 0), .f (.int .u8 0), .f (.int .u8 0), .f (.int .u8 0), .f (.int .u8 0), .f (.int .u8 0), .f (.int .u8 0), .f (.int .u8 0), .f (.int .u8 0), .f (.int .u8 0), .f (.int .u8 0), .f (.int .u8 0), .f (.int .u8 0), .f (.int .u8 0), .f (.int .u8 0), .f (.int .u8 0), .f (.int .u8 0), .f (.int .u8 0), .f (.int .u8 0), .f (.int .u8 0)]⟩:=by kernel_rfl
theorem ti152:tinf Tryd.prog 152=some ⟨.array 64 5,64,64,[.f (.int .u8 0), .f (.int .u8 0), .f (.int .u8 0), .f (.int .u8 0), .f (.int .u8 0), .f (.int .u8 0), .f (.int .u8 0), .f (.int .u8 0), .f (.int .u8 0), .f (.int .u8 0), .f (.int .u8 0), .f (.int .u8 0), .f (.int .u8 0), .f (.int .u8 0), .f (.int .u8 0), .f (.int .u8 0), .f (.int .u8 0), .f (.int .u8 0), .f (.int .u8 0), .f (.int .u8 0), .f (.int .u8 0), .f (.int .u8 0), .f (.int .u8 0), .f (.int .u8 0), .f (.int .u8 0), .f (.int .u8 0), .f (.int .u8 0), .f (.int .u8 0), .f (.int .u8 0), .f (.int .u8 0), .f (.int .u8 0), .f (.int .u8 0), .f (.int .u8 0), .f (.int .u8 0), .f (.int .u8 0), .f (.int .u8 0), .f (.int .u8 0), .f (.int .u8 0), .f (.int .u8 0), .f (.int .u8 0), .f (.int .u8 0), .f (.int .u8 0), .f (.int .u8 0), .f (.int .u8 0), .f (.int .u8 0), .f (.int .u8 0), .f (.int .u8 0), .f (.int .u8 0), .f (.int .u8 0), .f (.int .u8 0), .f (.int .u8 0), .f (.int .u8 0), .f (.int .u8 0), .f (.int .u8 0), .f (.int .u8 0), .f (.int .u8 0), .f (.int .u8 0), .f (.int .u8 0), .f (.int .u8 0), .f (.int .u8 0), .f (.int .u8 0), .f (.int .u8 0), .f (.int .u8 0), .f (.int .u8 0)]⟩:=by kernel_rfl
theorem ti153:tinf Tryd.prog 153=some ⟨.func,1,8,[.nilf]⟩:=by kernel_rfl
theorem ti154:tinf Tryd.prog 154=some ⟨.func,1,8,[.nilf]⟩:=by kernel_rfl
theorem ti155:tinf Tryd.prog 155=some ⟨.func,1,8,[.nilf]⟩:=by kernel_rfl
theorem ti156:tinf Tryd.prog 156=some ⟨.struct [(17,0),(17,1),(17,2),(9,3)],4,40,[.nilp, .nilp, .nilp, .f (.str (ByteArray.mk #[]))]⟩:=by kernel_rfl
theorem ti157:tinf Tryd.prog 157=some ⟨.struct [(17,0),(17,1),(17,2),(9,3)],4,40,[.nilp, .nilp, .nilp, .f (.str (ByteArray.mk #[]))]⟩:=by kernel_rfl
theorem ti158:tinf Tryd.prog 158=some ⟨.array 0 16,0,0,[]⟩:=by kernel_rfl
theorem ti159:tinf Tryd.prog 159=some ⟨.struct [(158,0)],0,0,[]⟩:=by kernel_rfl
theorem ti160:tinf Tryd.prog 160=some ⟨.struct [(158,0)],0,0,[]⟩:=by kernel_rfl
theorem ti161:tinf Tryd.prog 161=some ⟨.func,1,8,[.nilf]⟩:=by kernel_rfl
theorem ti162:tinf Tryd.prog 162=some ⟨.int .u8,1,1,[.f (.int .u8 0)]⟩:=by kernel_rfl
theorem ti163:tinf Tryd.prog 163=some ⟨.int .u8,1,1,[.f (.int .u8 0)]⟩:=by kernel_rfl
theorem ti164:tinf Tryd.prog 164=some ⟨.func,1,8,[.nilf]⟩:=by kernel_rfl
theorem ti165:tinf Tryd.prog 165=some ⟨.int .i32,1,4,[.f (.int .i32 0)]⟩:=by kernel_rfl
theorem ti166:tinf Tryd.prog 166=some ⟨.int .i32,1,4,[.f (.int .i32 0)]⟩:=by kernel_rfl
theorem ti167:tinf Tryd.prog 167=some ⟨.struct [(12,0),(12,1),(128,2),(162,3),(5,4),(5,5),(163,6),(164,7),(132,8),(165,9),(166,10)],11,48,[.f (.int .u64 0), .f (.int .u64 0), .f (.int .u32 0), .f (.int .u8 0), .f (.int .u8 0), .f (.int .u8 0), .f (.int .u8 0), .nilf, .nilp, .f (.int .i32 0), .f (.int .i32 0)]⟩:=by kernel_rfl
theorem ti168:tinf Tryd.prog 168=some ⟨.struct [(12,0),(12,1),(128,2),(162,3),(5,4),(5,5),(163,6),(164,7),(132,8),(165,9),(166,10)],11,48,[.f (.int .u64 0), .f (.int .u64 0), .f (.int .u32 0), .f (.int .u8 0), .f (.int .u8 0), .f (.int .u8 0), .f (.int .u8 0), .nilf, .nilp, .f (.int .i32 0), .f (.int .i32 0)]⟩:=by kernel_rfl
theorem foll:Tryd.prog.follows .mixedOrders=true:=by kernel_rfl
attribute [go_sem] ti1 ti2 ti3 ti4 ti5 ti6 ti7 ti8 ti9 ti10 ti11 ti12 ti13 ti14 ti15 ti16 ti17 ti18 ti19 ti21 ti22 ti23 ti24 ti26 ti27 ti28 ti29 ti30 ti31 ti32 ti34 ti35 ti36 ti37 ti38 ti39 ti40 ti41 ti42 ti43 ti44 ti45 ti46 ti47 ti48 ti50 ti51 ti55 ti56 ti57 ti59 ti60 ti61 ti62 ti63 ti64 ti65 ti66 ti67 ti68 ti69 ti70 ti71 ti72 ti73 ti74 ti75 ti76 ti77 ti78 ti79 ti80 ti81 ti82 ti83 ti84 ti86 ti87 ti88 ti89 ti90 ti91 ti92 ti93 ti95 ti96 ti97 ti98 ti99 ti100 ti101 ti102 ti103 ti104 ti105 ti106 ti107 ti108 ti109 ti111 ti112 ti115 ti116 ti118 ti119 ti120 ti121 ti123 ti124 ti125 ti126 ti127 ti128 ti130 ti131 ti132 ti133 ti134 ti135 ti136 ti137 ti138 ti139 ti140 ti141 ti142 ti143 ti144 ti145 ti146 ti147 ti148 ti149 ti150 ti151 ti152 ti153 ti154 ti155 ti156 ti157 ti158 ti159 ti160 ti161 ti162 ti163 ti164 ti165 ti166 ti167 ti168
end Go.Lg

set_option linter.unusedSimpArgs false
set_option linter.unusedVariables false
set_option maxRecDepth 100000
namespace Go.Lg
open Go.Proofs
theorem sizeOk_run(n:Int):Reads Tryd.prog 50 [int n] (bool (decide (2≤n∧n≤4))):=by
 refine RunCall.cw (c:=_) Tryd.func50 rfl (n:=9) Tryd.ntmps50 (rs:=[.tmp 2]) rfl ?_
 simp only[List.length_cons,List.length_nil,zA,zS,List.replicate,List.cons_append,List.nil_append]
 simp(maxSteps:=999999)(disch:=omega)only[go_sem,zA,zM,zS,zE,zL]
 refine guardK_split (fun h=> ?_) (fun h=> ?_)<;>simp(maxSteps:=999999)(disch:=omega)only[go_sem,zA,zM,zS,zE,zL,h]<;>simp at h<;>simp[h]
 omega
def gridValid(xs:List Int)(n:Int):Bool:=decide (2≤n∧n≤4∧(xs.length:Int)=n*n∧∀j,j<xs.length→0≤nth xs j∧nth xs j≤n)
theorem GridValid_run(xs:List Int)(n:Int)(hx:xs.length≤2^44):Reads Tryd.prog 69 [ints xs,int n] (bool (gridValid xs n)):=by
 refine RunCall.cw (c:=_) Tryd.func69 rfl (n:=32) Tryd.ntmps69 (rs:=[.tmp 4]) rfl ?_
 simp only[List.length_cons,List.length_nil,zA,zS,List.replicate,List.cons_append,List.nil_append]
 simp(maxSteps:=999999)(disch:=omega)only[go_sem,zA,zM,zS,zE,zL]
 refine OpS.rd (sizeOk_run n) (⟨_,Tryd.func50,rfl,rfl⟩:Enters Tryd.prog 50) rfl rfl rfl rfl ?_
 simp(maxSteps:=999999)(disch:=omega)only[go_sem,zA,zM,zS,zE,zL]
 refine guardK_split (fun h=> ?_) (fun h=> ?_)<;>simp(maxSteps:=999999)(disch:=omega)only[go_sem,zA,zM,zS,zE,zL,h]
 · simp at h
   simp[gridValid];omega
 have hn:2≤n∧n≤4:=by simpa using h
 have hw:4≤n*n∧n*n≤16:=by
  have:n=2∨n=3∨n=4:=by omega
  rcases this with rfl|rfl|rfl<;>decide
 simp(maxSteps:=999999)(disch:=omega)only[go_sem,zA,zM,zS,zE,zL]
 refine condK_split (fun h2=> ?_) (fun h2=> ?_)<;>simp(maxSteps:=999999)(disch:=omega)only[go_sem,zA,zM,zS,zE,zL]
 · simp at h2
   simp[gridValid,h2]
 have hl:(xs.length:Int)=n*n:=by simpa using h2
 refine loop_rule (fun i:Nat=>xs.length -i) (fun i=>i≤xs.length∧∀j,j<i→0≤nth xs j∧nth xs j≤n)
  (fun i=>[.a, .k, .a, .a, .a, .a, .a, .a, .a, .a, .a, .a, .a, .a, .a, .a, .a, .a, .k, .k, .p (int i), .a, .a, .a, .a, .a, .a, .a, .a, .a, .a, .a]) (fun _=>[]) 0 ⟨Nat.zero_le _,fun j hj=>absurd hj (Nat.not_lt_zero _)⟩ (by simp(maxSteps:=999999)(disch:=omega)only[go_sem,zA,zM,zS,zE,zL];rfl) (hle_nil _) ?_
 rintro i ⟨hi,hall⟩
 simp(maxSteps:=999999)(disch:=omega)only[go_sem,zA,zM,zS,zE,zL]
 refine condK_split (fun h3=> ?_) (fun h3=> ?_)
 · have h3:i<xs.length:=by simpa using h3
   simp(maxSteps:=999999)(disch:=omega)only[go_sem,zA,zM,zS,zE,zL]
   refine guardK_split (fun h4=> ?_) (fun h4=> ?_)<;>simp(maxSteps:=999999)(disch:=omega)only[go_sem,zA,zM,zS,zE,zL,h4]
   · simp at h4
     symm;simp[gridValid];intro _ _ _;exact⟨i,h3,fun h=>by omega⟩
   refine condK_split (fun h5=> ?_) (fun h5=> ?_)<;>simp(maxSteps:=999999)(disch:=omega)only[go_sem,zA,zM,zS,zE,zL]
   · simp at h5
     symm;simp[gridValid];intro _ _ _;exact⟨i,h3,fun h=>by omega⟩
   simp at h4 h5
   refine⟨i+1,⟨⟨h3,fun j hj=> ?_⟩,by omega⟩,by omega,hle_nil _⟩
   rcases Nat.lt_succ_iff_lt_or_eq.1 hj with h|rfl
   · exact hall j h
   · exact⟨h4,h5⟩
 simp(maxSteps:=999999)(disch:=omega)only[go_sem,zA,zM,zS,zE,zL]
 simp at h3
 symm;simp[gridValid]
 exact⟨hn.1,hn.2,hl,fun j hj=>hall j (by omega)⟩
end Go.Lg

namespace Go.Lg
open Go.Proofs
theorem eqIntS_run(xs ys:List Int)(hx:xs.length≤2^40):Reads Tryd.prog 34 [ints xs,ints ys] (bool (decide (xs=ys))):=by
 refine RunCall.cw (c:=_) Tryd.func34 rfl (n:=26) Tryd.ntmps34 (rs:=[.tmp 4]) rfl ?_
 simp only[List.length_cons,List.length_nil,zA,zS,List.replicate,List.cons_append,List.nil_append]
 simp(maxSteps:=999999)(disch:=omega)only[go_sem,zA,zM,zS,zE,zL]
 refine condK_split (fun h=> ?_) (fun h=> ?_)<;>simp(maxSteps:=999999)(disch:=omega)only[go_sem,zA,zM,zS,zE,zL]
 · simp at h
   symm;simp;intro h2;exact h (by rw[h2])
 have hl:xs.length=ys.length:=by simp at h;omega
 refine loop_rule (fun i:Nat=>xs.length -i) (fun i=>i≤xs.length∧∀j:Nat,j<i→nth xs j=nth ys j) (fun i=>[.k, .k, .a, .a, .a, .p (int i), .a, .a, .a, .a, .a, .a, .a, .a, .a, .a, .a, .a, .a, .a, .a, .a, .a, .a, .a, .a]) (fun i=>[]) 0
  ⟨Nat.zero_le _,fun j hj=>absurd hj (Nat.not_lt_zero _)⟩ (by simp(maxSteps:=999999)(disch:=omega)only[go_sem,zA,zM,zS,zE,zL];rfl) (hle_nil _) ?_
 rintro i ⟨hi,hall⟩
 simp(maxSteps:=999999)(disch:=omega)only[go_sem,zA,zM,zS,zE,zL]
 refine condK_split (fun h=> ?_) (fun h=> ?_)
 · have h:i<xs.length:=by simpa using h
   simp(maxSteps:=999999)(disch:=omega)only[go_sem,zA,zM,zS,zE,zL]
   refine drawP_q foll (by kernel_rfl) ?_
   simp(maxSteps:=999999)(disch:=omega)only[go_sem,Nat.reduceBEq,Bool.true_or,zA,zM,zS,zE,zL]
   refine condK_split (fun h=> ?_) (fun h=> ?_)<;>simp(maxSteps:=999999)(disch:=omega)only[go_sem,zA,zM,zS,zE,zL]
   · simp at h
     symm;simp;intro h2;exact h (by rw[h2])
   simp at h
   refine⟨i+1,⟨⟨by omega,fun j hj=> ?_⟩,by omega⟩,by omega,hle_nil _⟩
   rcases Nat.lt_succ_iff_lt_or_eq.1 hj with hj|rfl
   · exact hall j hj
   · exact h
 have h:¬i<xs.length:=by simpa using h
 simp(maxSteps:=999999)(disch:=omega)only[go_sem,zA,zM,zS,zE,zL]
 have:=ext_nth hl fun j hj=>hall j (by omega)
 simp[this]
def chI(v:Int):Int:=if v=0 then 46 else 48+v
def chOf(v:Int):UInt8:=u8 (chI v)
theorem cellsText_run(xs:List Int)(hx:xs.length≤2^40)(hv:∀j:Nat,j<xs.length→0≤nth xs j∧nth xs j≤9):Reads Tryd.prog 79 [ints xs] (txt (xs.map chOf)):=by
 refine RunCall.cw (c:=_) Tryd.func79 rfl (n:=29) Tryd.ntmps79 (rs:=[.tmp 2]) rfl ?_
 simp only[List.length_cons,List.length_nil,zA,zS,List.replicate,List.cons_append,List.nil_append]
 simp(maxSteps:=999999)(disch:=omega)only[go_sem,zA,zM,zS,zE,zL]
 intro g
 refine loop_rule2 (fun(i g:Nat)=>xs.length -i) (fun i g=>i≤xs.length) (fun i g=>[.a, .a, .a, .p (.c (.own 0 g 0 i none)), .a, .a, .a, .a, .a, .k, .k, .p (int i), .a, .a, .a, .a, .a, .a, .a, .a, .a, .a, .a, .a, .a, .a, .a, .a, .a]) (fun i g=>[some ⟨g,1,cl (eI .u8) ((xs.take i).map chI)⟩]) 0 g
  (Nat.zero_le _) (by simp(maxSteps:=999999)(disch:=omega)only[go_sem,zA,zM,zS,zE,zL];rfl) (HLe.refl _) ?_
 intro i g hi
 simp(maxSteps:=999999)(disch:=omega)only[go_sem,zA,zM,zS,zE,zL]
 refine condK_split (fun h=> ?_) (fun h=> ?_)
 · have h:i<xs.length:=by simpa using h
   have hv:=hv i h
   simp(maxSteps:=999999)(disch:=omega)only[go_sem,zA,zM,zS,zE,zL]
   refine condK_split (fun h2=> ?_) (fun h2=> ?_)<;>simp(maxSteps:=999999)(disch:=omega)only[go_sem,zA,zM,zS,zE,zL]
   · simp at h2
     intro g1 g2
     exact⟨i+1,g2,⟨h,by omega⟩,⟨⟨rfl,rfl⟩,rfl⟩,hle_eq (by rw[take_succ_nth h,List.map_append];simp[chI,h2]) (hle_nil _)⟩
   simp at h2
   intro g1 g2
   exact⟨i+1,g2,⟨h,by omega⟩,⟨⟨rfl,rfl⟩,rfl⟩,hle_eq (by rw[take_succ_nth h,List.map_append];simp[chI,h2]) (hle_nil _)⟩
 have h:¬i<xs.length:=by simpa using h
 have:i=xs.length:=by omega
 subst this
 simp(maxSteps:=999999)(disch:=omega)only[go_sem,zA,zM,zS,zE,zL]
 congr 1
 rw[List.take_of_length_le (by simp),List.take_length,List.map_map]
 rfl
end Go.Lg

namespace Go.Lg
open Go.ChangeShapes Go.WideShapes Go.ChangeAt Go.RowKit
open Go.ChangeMaps (open_string)
def Cx.base(W:World):Cx:=⟨fun _=>0,fun _=>0,fun b=>b<W.heap.size,0⟩
theorem base_rel(W:World)(ht:TabR W (Cx.base W).I):HRel W (Cx.base W) []:=⟨fun b hb=>hb,fun id b hb=>by simp at hb,fun id id' b b' hb=>by simp at hb,ht⟩
theorem Reads.below{P:Program}{f:FuncId}{args:List AV}{b:Bool}(h:Reads P f args (bool b)){W:World}{vs:Array Value}(hv:VAs W (Cx.base W) [] args vs)(ht:TabR W (Cx.base W).I:=by exact⟨by intro G cs h;simp[tabC]at h,by intro G h;simp[tabE]at h⟩):
 Calls P f vs W fun e W'=>e= .returned (.bool b)∧Below W.heap.size W W':=
 (h W (Cx.base W) vs (base_rel W ht) hv).mono fun e W' ⟨v,u,X',H',h1,h2,h3,h4,h5⟩=>by
   have h5:v=bool b:=h5
   subst h5
   refine⟨by rw[h1,va_bool h2],h4.os,h4.tape,h4.output,h4.size,fun k hk=>(h4.imm k hk).2⟩
theorem vas_one{W:World}{X:Cx}{H:Heap}{x:AV}{v:Value}(h:VA W X H x v):VAs W X H [x] #[v]:=
 ⟨rfl,fun i hi=>by
   have:i=0:=by simpa using hi
   subst this;exact⟨v,rfl,h⟩⟩
theorem va_txt{W:World}{X:Cx}{H:Heap}(s:ByteArray):VA W X H (txt s.data.toList) (.string s):=by
 have:bs s.data.toList=s:=by simp[bs]
 unfold txt
 rw[this]
 exact .c _ _ (VF.str _)
theorem str_len{s:ByteArray}(h:s.size≤maxLen):s.data.toList.length≤9223372036854775807:=by
 have:maxLen≤9223372036854775807:=by decide
 simp only[Array.length_toList]
 exact Nat.le_trans h this
section
variable{H:Type}{enc:TypeId×Value→H}{P:Program}{W:World}
end
end Go.Lg
