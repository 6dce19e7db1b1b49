/- GpXT, GpWC, cut to what is needed. -/
import Derived.Test.YtiahmfdabpafoaaGreatDoorKab3
import Derived.Shelf.Small.Strs
import Derived.Shelf.Strconv.Atoi
import Derived.Shelf.Strconv.AtoiErr
import Derived.Shelf.LaysC
import Derived.Shelf.Strings.Search2
import Derived.Lib.AtoiErrMem
import Derived.Test.YtiahmfdabpafoaaGreatDoorKad4
import Derived.Test.YtiahmfdabpafoaaGreatDoorKad0
open List renaming cons_append → Jc, nil_append → Jd, length_cons → Jf, replicate → Jg, getElem?_eq_getElem → Jh, getElem?_set_ne → Jj, length_nil → Jl, take_of_length_le → Jn, append_nil → Jv, mapM_cons → Jz, mem_cons → JV, mapM_nil → Qa
open Nat renaming reduceAdd→zA,reduceMul→zM,reduceSub→zS,reduceEqDiff→zE,reduceLeDiff→zL
set_option linter.unusedSimpArgs false
set_option linter.unusedVariables false
set_option maxRecDepth 100000
namespace Go.Lg
open Go.Proofs Go.Shelf
def Jbb:Go.Shelf.Ren:=⟨fun|137=>49|217=>66|266=>79|n=>n,fun|9=>9|5=>5|3=>3|n=>n,fun|n=>n⟩
theorem JhX:Go.Proofs.Lays.n137 Tryz.prog Jbb:={
 mixed:=by kernel_rfl
 f137:=Tryz.func49.trans (congrArg some (by kernel_rfl))
 f217:=Tryz.func66.trans (congrArg some (by kernel_rfl))
 f266:=Tryz.func79.trans (congrArg some (by kernel_rfl))
 t3:=Tryz.underlying3
 a3:=Tryz.isAgg3
 z3:=Tryz.sizeOf3
 v3:=Tryz.zeroValue3
 t5:=Tryz.underlying5
 a5:=Tryz.isAgg5
 z5:=Tryz.sizeOf5
 v5:=Tryz.zeroValue5
 t9:=Tryz.underlying9
 a9:=Tryz.isAgg9
 z9:=Tryz.sizeOf9
 v9:=Tryz.zeroValue9}
def NT:Go.Shelf.Ren:=⟨fun|219=>78|217=>66|225=>94|224=>95|267=>96|266=>79|314=>107|n=>n,fun|9=>9|3=>3|4=>4|5=>5|46=>110|146=>127|51=>120|n=>n,fun|1=>0|n=>n⟩
theorem JgL:Go.Proofs.Lays.n219 Tryz.prog NT:={
 mixed:=by kernel_rfl
 f217:=Tryz.func66.trans (congrArg some (by kernel_rfl))
 f219:=Tryz.func78.trans (congrArg some (by kernel_rfl))
 f224:=Tryz.func95.trans (congrArg some (by kernel_rfl))
 f225:=Tryz.func94.trans (congrArg some (by kernel_rfl))
 f266:=Tryz.func79.trans (congrArg some (by kernel_rfl))
 f267:=Tryz.func96.trans (congrArg some (by kernel_rfl))
 f314:=Tryz.func107.trans (congrArg some (by kernel_rfl))
 t3:=Tryz.underlying3
 a3:=Tryz.isAgg3
 z3:=Tryz.sizeOf3
 v3:=Tryz.zeroValue3
 t4:=Tryz.underlying4
 a4:=Tryz.isAgg4
 z4:=Tryz.sizeOf4
 v4:=Tryz.zeroValue4
 t5:=Tryz.underlying5
 a5:=Tryz.isAgg5
 z5:=Tryz.sizeOf5
 v5:=Tryz.zeroValue5
 t9:=Tryz.underlying9
 a9:=Tryz.isAgg9
 z9:=Tryz.sizeOf9
 v9:=Tryz.zeroValue9
 t46:=Tryz.underlying110
 a46:=Tryz.isAgg110
 z46:=Tryz.sizeOf110
 v46:=Tryz.zeroValue110
 t51:=Tryz.underlying120
 a51:=Tryz.isAgg120
 z51:=Tryz.sizeOf120
 v51:=Tryz.zeroValue120
 t146:=Tryz.underlying127
 a146:=Tryz.isAgg127
 z146:=Tryz.sizeOf127
 v146:=Tryz.zeroValue127
 g1:=by kernel_rfl}
def YU:Go.Shelf.Ren:=⟨fun|172=>50|244=>67|245=>68|247=>80|279=>81|280=>82|281=>83|282=>84|287=>97|316=>98|171=>43|205=>99|321=>108|322=>109|243=>61|246=>74|283=>89|284=>90|285=>91|286=>92|129=>103|317=>102|318=>104|319=>105|320=>106|337=>112|338=>113|n=>n,fun|9=>9|3=>3|75=>74|76=>75|4=>4|5=>5|167=>94|37=>22|0=>0|85=>95|2=>2|168=>97|53=>105|175=>111|46=>110|210=>115|127=>131|145=>134|143=>132|21=>21|171=>104|173=>108|212=>119|51=>120|20=>20|213=>121|232=>139|233=>140|80=>141|n=>n,fun|15=>1|16=>2|17=>3|18=>6|19=>7|n=>n⟩
theorem JfL:Go.Proofs.Lays.n172 Tryz.prog YU:={
 mixed:=by kernel_rfl
 f129:=Tryz.func103.trans (congrArg some (by kernel_rfl))
 f171:=Tryz.func43.trans (congrArg some (by kernel_rfl))
 f172:=Tryz.func50.trans (congrArg some (by kernel_rfl))
 f205:=Tryz.func99.trans (congrArg some (by kernel_rfl))
 f243:=Tryz.func61.trans (congrArg some (by kernel_rfl))
 f244:=Tryz.func67.trans (congrArg some (by kernel_rfl))
 f245:=Tryz.func68.trans (congrArg some (by kernel_rfl))
 f246:=Tryz.func74.trans (congrArg some (by kernel_rfl))
 f247:=Tryz.func80.trans (congrArg some (by kernel_rfl))
 f279:=Tryz.func81.trans (congrArg some (by kernel_rfl))
 f280:=Tryz.func82.trans (congrArg some (by kernel_rfl))
 f281:=Tryz.func83.trans (congrArg some (by kernel_rfl))
 f282:=Tryz.func84.trans (congrArg some (by kernel_rfl))
 f283:=Tryz.func89.trans (congrArg some (by kernel_rfl))
 f284:=Tryz.func90.trans (congrArg some (by kernel_rfl))
 f285:=Tryz.func91.trans (congrArg some (by kernel_rfl))
 f286:=Tryz.func92.trans (congrArg some (by kernel_rfl))
 f287:=Tryz.func97.trans (congrArg some (by kernel_rfl))
 f316:=Tryz.func98.trans (congrArg some (by kernel_rfl))
 f317:=Tryz.func102.trans (congrArg some (by kernel_rfl))
 f318:=Tryz.func104.trans (congrArg some (by kernel_rfl))
 f319:=Tryz.func105.trans (congrArg some (by kernel_rfl))
 f320:=Tryz.func106.trans (congrArg some (by kernel_rfl))
 f321:=Tryz.func108.trans (congrArg some (by kernel_rfl))
 f322:=Tryz.func109.trans (congrArg some (by kernel_rfl))
 f337:=Tryz.func112.trans (congrArg some (by kernel_rfl))
 f338:=Tryz.func113.trans (congrArg some (by kernel_rfl))
 t0:=Tryz.underlying0
 a0:=Tryz.isAgg0
 z0:=Tryz.sizeOf0
 v0:=Tryz.zeroValue0
 t2:=Tryz.underlying2
 a2:=Tryz.isAgg2
 z2:=Tryz.sizeOf2
 v2:=Tryz.zeroValue2
 t3:=Tryz.underlying3
 a3:=Tryz.isAgg3
 z3:=Tryz.sizeOf3
 v3:=Tryz.zeroValue3
 t4:=Tryz.underlying4
 a4:=Tryz.isAgg4
 z4:=Tryz.sizeOf4
 v4:=Tryz.zeroValue4
 t5:=Tryz.underlying5
 a5:=Tryz.isAgg5
 z5:=Tryz.sizeOf5
 v5:=Tryz.zeroValue5
 t9:=Tryz.underlying9
 a9:=Tryz.isAgg9
 z9:=Tryz.sizeOf9
 v9:=Tryz.zeroValue9
 t20:=Tryz.underlying20
 a20:=Tryz.isAgg20
 z20:=Tryz.sizeOf20
 v20:=Tryz.zeroValue20
 t21:=Tryz.underlying21
 a21:=Tryz.isAgg21
 z21:=Tryz.sizeOf21
 v21:=Tryz.zeroValue21
 t37:=Tryz.underlying22
 a37:=Tryz.isAgg22
 z37:=Tryz.sizeOf22
 v37:=Tryz.zeroValue22
 t46:=Tryz.underlying110
 a46:=Tryz.isAgg110
 z46:=Tryz.sizeOf110
 v46:=Tryz.zeroValue110
 t51:=Tryz.underlying120
 a51:=Tryz.isAgg120
 z51:=Tryz.sizeOf120
 v51:=Tryz.zeroValue120
 t53:=Tryz.underlying105
 a53:=Tryz.isAgg105
 z53:=Tryz.sizeOf105
 v53:=Tryz.zeroValue105
 t75:=Tryz.underlying74
 a75:=Tryz.isAgg74
 z75:=Tryz.sizeOf74
 v75:=Tryz.zeroValue74
 t76:=Tryz.underlying75
 a76:=Tryz.isAgg75
 z76:=Tryz.sizeOf75
 v76:=Tryz.zeroValue75
 t85:=Tryz.underlying95
 a85:=Tryz.isAgg95
 z85:=Tryz.sizeOf95
 v85:=Tryz.zeroValue95
 t127:=Tryz.underlying131
 a127:=Tryz.isAgg131
 z127:=Tryz.sizeOf131
 v127:=Tryz.zeroValue131
 t143:=Tryz.underlying132
 a143:=Tryz.isAgg132
 z143:=Tryz.sizeOf132
 v143:=Tryz.zeroValue132
 t145:=Tryz.underlying134
 a145:=Tryz.isAgg134
 z145:=Tryz.sizeOf134
 v145:=Tryz.zeroValue134
 t167:=Tryz.underlying94
 a167:=Tryz.isAgg94
 z167:=Tryz.sizeOf94
 v167:=Tryz.zeroValue94
 t168:=Tryz.underlying97
 a168:=Tryz.isAgg97
 z168:=Tryz.sizeOf97
 v168:=Tryz.zeroValue97
 t171:=Tryz.underlying104
 a171:=Tryz.isAgg104
 z171:=Tryz.sizeOf104
 v171:=Tryz.zeroValue104
 t173:=Tryz.underlying108
 a173:=Tryz.isAgg108
 z173:=Tryz.sizeOf108
 v173:=Tryz.zeroValue108
 t175:=Tryz.underlying111
 a175:=Tryz.isAgg111
 z175:=Tryz.sizeOf111
 v175:=Tryz.zeroValue111
 t210:=Tryz.underlying115
 a210:=Tryz.isAgg115
 z210:=Tryz.sizeOf115
 v210:=Tryz.zeroValue115
 t212:=Tryz.underlying119
 a212:=Tryz.isAgg119
 z212:=Tryz.sizeOf119
 v212:=Tryz.zeroValue119
 t213:=Tryz.underlying121
 a213:=Tryz.isAgg121
 z213:=Tryz.sizeOf121
 t232:=Tryz.underlying139
 a232:=Tryz.isAgg139
 z232:=Tryz.sizeOf139
 v232:=Tryz.zeroValue139
 t233:=Tryz.underlying140
 a233:=Tryz.isAgg140
 z233:=Tryz.sizeOf140
 v233:=Tryz.zeroValue140
 g15:=by kernel_rfl
 g16:=by kernel_rfl
 g17:=by kernel_rfl
 g18:=by kernel_rfl
 g19:=by kernel_rfl}
def WL:Go.Shelf.Ren:=⟨fun|172=>50|244=>67|245=>68|247=>80|279=>81|280=>82|281=>83|282=>84|287=>97|316=>98|171=>43|205=>99|321=>108|322=>109|243=>61|246=>74|283=>89|284=>90|285=>91|286=>92|129=>103|317=>102|318=>104|319=>105|320=>106|337=>112|338=>113|n=>n,fun|9=>9|3=>3|75=>74|76=>75|4=>4|5=>5|167=>94|37=>22|0=>0|85=>95|2=>2|168=>97|53=>105|175=>111|46=>110|210=>115|127=>131|145=>134|143=>132|21=>21|171=>104|173=>108|212=>119|51=>120|20=>20|213=>121|232=>139|233=>140|80=>141|n=>n,fun|15=>1|16=>2|17=>3|18=>6|19=>7|n=>n⟩
theorem Jan:Go.Proofs.LaysC.n172 Tryz.prog WL:={
 mixed:=by kernel_rfl
 f129:=Tryz.func103.trans (congrArg some (by kernel_rfl))
 f171:=Tryz.func43.trans (congrArg some (by kernel_rfl))
 f172:=Tryz.func50.trans (congrArg some (by kernel_rfl))
 f205:=Tryz.func99.trans (congrArg some (by kernel_rfl))
 f243:=Tryz.func61.trans (congrArg some (by kernel_rfl))
 f244:=Tryz.func67.trans (congrArg some (by kernel_rfl))
 f245:=Tryz.func68.trans (congrArg some (by kernel_rfl))
 f246:=Tryz.func74.trans (congrArg some (by kernel_rfl))
 f247:=Tryz.func80.trans (congrArg some (by kernel_rfl))
 f279:=Tryz.func81.trans (congrArg some (by kernel_rfl))
 f280:=Tryz.func82.trans (congrArg some (by kernel_rfl))
 f281:=Tryz.func83.trans (congrArg some (by kernel_rfl))
 f282:=Tryz.func84.trans (congrArg some (by kernel_rfl))
 f283:=Tryz.func89.trans (congrArg some (by kernel_rfl))
 f284:=Tryz.func90.trans (congrArg some (by kernel_rfl))
 f285:=Tryz.func91.trans (congrArg some (by kernel_rfl))
 f286:=Tryz.func92.trans (congrArg some (by kernel_rfl))
 f287:=Tryz.func97.trans (congrArg some (by kernel_rfl))
 f316:=Tryz.func98.trans (congrArg some (by kernel_rfl))
 f317:=Tryz.func102.trans (congrArg some (by kernel_rfl))
 f318:=Tryz.func104.trans (congrArg some (by kernel_rfl))
 f319:=Tryz.func105.trans (congrArg some (by kernel_rfl))
 f320:=Tryz.func106.trans (congrArg some (by kernel_rfl))
 f321:=Tryz.func108.trans (congrArg some (by kernel_rfl))
 f322:=Tryz.func109.trans (congrArg some (by kernel_rfl))
 f337:=Tryz.func112.trans (congrArg some (by kernel_rfl))
 f338:=Tryz.func113.trans (congrArg some (by kernel_rfl))
 t0:=Tryz.underlying0
 a0:=Tryz.isAgg0
 z0:=Tryz.sizeOf0
 v0:=Tryz.zeroValue0
 t2:=Tryz.underlying2
 a2:=Tryz.isAgg2
 z2:=Tryz.sizeOf2
 v2:=Tryz.zeroValue2
 t3:=Tryz.underlying3
 a3:=Tryz.isAgg3
 z3:=Tryz.sizeOf3
 v3:=Tryz.zeroValue3
 t4:=Tryz.underlying4
 a4:=Tryz.isAgg4
 z4:=Tryz.sizeOf4
 v4:=Tryz.zeroValue4
 t5:=Tryz.underlying5
 a5:=Tryz.isAgg5
 z5:=Tryz.sizeOf5
 v5:=Tryz.zeroValue5
 t9:=Tryz.underlying9
 a9:=Tryz.isAgg9
 z9:=Tryz.sizeOf9
 v9:=Tryz.zeroValue9
 t20:=Tryz.underlying20
 a20:=Tryz.isAgg20
 z20:=Tryz.sizeOf20
 v20:=Tryz.zeroValue20
 t21:=Tryz.underlying21
 a21:=Tryz.isAgg21
 z21:=Tryz.sizeOf21
 v21:=Tryz.zeroValue21
 t37:=Tryz.underlying22
 a37:=Tryz.isAgg22
 z37:=Tryz.sizeOf22
 v37:=Tryz.zeroValue22
 t46:=Tryz.underlying110
 a46:=Tryz.isAgg110
 z46:=Tryz.sizeOf110
 v46:=Tryz.zeroValue110
 t51:=Tryz.underlying120
 a51:=Tryz.isAgg120
 z51:=Tryz.sizeOf120
 v51:=Tryz.zeroValue120
 t53:=Tryz.underlying105
 a53:=Tryz.isAgg105
 z53:=Tryz.sizeOf105
 v53:=Tryz.zeroValue105
 t75:=Tryz.underlying74
 a75:=Tryz.isAgg74
 z75:=Tryz.sizeOf74
 v75:=Tryz.zeroValue74
 t76:=Tryz.underlying75
 a76:=Tryz.isAgg75
 z76:=Tryz.sizeOf75
 v76:=Tryz.zeroValue75
 t85:=Tryz.underlying95
 a85:=Tryz.isAgg95
 z85:=Tryz.sizeOf95
 v85:=Tryz.zeroValue95
 t127:=Tryz.underlying131
 a127:=Tryz.isAgg131
 z127:=Tryz.sizeOf131
 v127:=Tryz.zeroValue131
 t143:=Tryz.underlying132
 a143:=Tryz.isAgg132
 z143:=Tryz.sizeOf132
 v143:=Tryz.zeroValue132
 t145:=Tryz.underlying134
 a145:=Tryz.isAgg134
 z145:=Tryz.sizeOf134
 v145:=Tryz.zeroValue134
 t167:=Tryz.underlying94
 a167:=Tryz.isAgg94
 z167:=Tryz.sizeOf94
 v167:=Tryz.zeroValue94
 t168:=Tryz.underlying97
 a168:=Tryz.isAgg97
 z168:=Tryz.sizeOf97
 v168:=Tryz.zeroValue97
 t171:=Tryz.underlying104
 a171:=Tryz.isAgg104
 z171:=Tryz.sizeOf104
 v171:=Tryz.zeroValue104
 t173:=Tryz.underlying108
 a173:=Tryz.isAgg108
 z173:=Tryz.sizeOf108
 v173:=Tryz.zeroValue108
 t175:=Tryz.underlying111
 a175:=Tryz.isAgg111
 z175:=Tryz.sizeOf111
 v175:=Tryz.zeroValue111
 t210:=Tryz.underlying115
 a210:=Tryz.isAgg115
 z210:=Tryz.sizeOf115
 v210:=Tryz.zeroValue115
 t212:=Tryz.underlying119
 a212:=Tryz.isAgg119
 z212:=Tryz.sizeOf119
 v212:=Tryz.zeroValue119
 t213:=Tryz.underlying121
 a213:=Tryz.isAgg121
 z213:=Tryz.sizeOf121
 t232:=Tryz.underlying139
 a232:=Tryz.isAgg139
 z232:=Tryz.sizeOf139
 v232:=Tryz.zeroValue139
 t233:=Tryz.underlying140
 a233:=Tryz.isAgg140
 z233:=Tryz.sizeOf140
 v233:=Tryz.zeroValue140
 g15:=by kernel_rfl
 g16:=by kernel_rfl
 g17:=by kernel_rfl
 g18:=by kernel_rfl
 g19:=by kernel_rfl
 t80:=Tryz.underlying141
 a80:=Tryz.isAgg141
 z80:=Tryz.sizeOf141
 v80:=Tryz.zeroValue141
 i0:=by kernel_rfl
 i2:=by kernel_rfl
 i3:=by kernel_rfl
 i4:=by kernel_rfl
 i5:=by kernel_rfl
 i9:=by kernel_rfl
 i20:=by kernel_rfl
 i21:=by kernel_rfl
 i37:=by kernel_rfl
 i46:=by kernel_rfl
 i51:=by kernel_rfl
 i53:=by kernel_rfl
 i75:=by kernel_rfl
 i76:=by kernel_rfl
 i80:=by kernel_rfl
 i85:=by kernel_rfl
 i127:=by kernel_rfl
 i143:=by kernel_rfl
 i145:=by kernel_rfl
 i167:=by kernel_rfl
 i168:=by kernel_rfl
 i171:=by kernel_rfl
 i173:=by kernel_rfl
 i175:=by kernel_rfl
 i210:=by kernel_rfl
 i212:=by kernel_rfl
 i232:=by kernel_rfl
 i233:=by kernel_rfl
 m15:=by kernel_rfl
 m16:=by kernel_rfl
 m17:=by kernel_rfl
 m18:=by kernel_rfl
 m19:=by kernel_rfl
 c0:=by kernel_rfl
 c2:=by kernel_rfl
 c3:=by kernel_rfl
 c4:=by kernel_rfl
 c5:=by kernel_rfl
 c9:=by kernel_rfl
 c20:=by kernel_rfl
 c21:=by kernel_rfl
 c37:=by kernel_rfl
 c46:=by kernel_rfl
 c51:=by kernel_rfl
 c53:=by kernel_rfl
 c75:=by kernel_rfl
 c76:=by kernel_rfl
 c80:=by kernel_rfl
 c85:=by kernel_rfl
 c127:=by kernel_rfl
 c143:=by kernel_rfl
 c145:=by kernel_rfl
 c167:=by kernel_rfl
 c168:=by kernel_rfl
 c171:=by kernel_rfl
 c173:=by kernel_rfl
 c175:=by kernel_rfl
 c210:=by kernel_rfl
 c212:=by kernel_rfl
 c213:=by kernel_rfl
 c232:=by kernel_rfl
 c233:=by kernel_rfl}
theorem Jf5{w:World}{X:Cx}{H:Ji}{l:List UInt8}{vs:Array Value}(h:VAs w X H [Um l] vs):vs= #[.string ⟨l.toArray⟩]:=by
 obtain⟨hs,hv⟩:=h
 obtain⟨u,hu1,hu2⟩:=hv 0 (by simp)
 have hu:u= .string ⟨l.toArray⟩:=Vo hu2
 subst hu
 apply Array.ext'
 have hl:vs.toList.length=1:=by simpa using hs
 obtain⟨x,hx⟩:=List.length_eq_one_iff.1 hl
 have:vs.toList[0]? =some (.string ⟨l.toArray⟩):=by rw[Array.getElem?_toList];exact hu1
 rw[hx]at this⊢
 simpa using this
theorem GW{w:World}{X:Cx}{H:Ji}{a b:AV}{x y:Value}{vs:Array Value}(h:VAs w X H [a,b] vs)(ha:∀u,VA w X H a u→u=x)(hb:∀u,VA w X H b u→u=y):vs= #[x,y]:=by
 obtain⟨hs,hv⟩:=h
 obtain⟨u,hu1,hu2⟩:=hv 0 (by simp)
 obtain⟨v,hv1,hv2⟩:=hv 1 (by simp)
 have e1:=ha u hu2
 have e2:=hb v hv2
 subst e1 e2
 obtain⟨l⟩:=vs
 match l,hs,hu1,hv1 with
 |[p,q],_,t1,t2=>
  simp at t1 t2
  rw[t1,t2]
theorem Yf{w w':World}(h:Go.RowKit.Below w.heap.size w w'):Za w w':=⟨h.block,h.size,h.os,h.tape,h.output⟩
theorem YY(l:List UInt8)(c:UInt8):Qd Tryz.prog 78 [Um l,Um [c]] (int (Go.Lib.indexByte l c)):=by
 intro w X vs hH hvs
 have e:=GW hvs (fun u h=>Vo h) (fun u h=>Vo h)
 subst e
 refine(Any.stringslite_Index_one JgL ⟨l.toArray⟩ c w).mono fun e w' ⟨he,hw⟩=> ?_
 subst hw
 exact⟨int (Go.Lib.indexByte l c),_,X,[],he, .c _ _ (VF.int _ _),hH,Ev.refl _ _ _,rfl⟩
theorem XN(l:List UInt8)(n:Int):Qd Tryz.prog 49 [Um l,byte n] (int (Go.Lib.indexByte l n.toNat.toUInt8)):=by
 intro w X vs hH hvs
 have e:=GW hvs (fun u h=>Vo h) (fun u h=>ZL h)
 subst e
 refine(Any.strings_IndexByte JhX ⟨l.toArray⟩ n w).mono fun e w' ⟨he,hw⟩=> ?_
 subst hw
 exact⟨int (Go.Lib.indexByte l n.toNat.toUInt8),_,X,[],he, .c _ _ (VF.int _ _),hH,Ev.refl _ _ _,rfl⟩
theorem JbE{w:World}{X:Cx}{H:Ji}{a b:AV}{x y:Value}(ha:VA w X H a x)(hb:VA w X H b y):VA w X H (.tup [a,b]) (.tuple #[x,y]):=by
 have:=VA.tup (w:=w) (X:=X) (H:=H) [a,b] (fun i=>if i=0 then x else y) fun j hj=>by
  match j,hj with
  |0,_=>exact ha
  |1,_=>exact hb
 exact this
theorem Jap(l:List UInt8)(hl:l.length≤18):Qd Tryz.prog 50 [Um l] (.tup [int ((Go.Lib.atoi l).getD 0), .any]):=by
 intro w X vs hH hvs
 have e:=Jf5 hvs
 subst e
 cases ha:Go.Lib.atoi l with
 |some n=>
  refine(Any.strconv_Atoi JfL ⟨l.toArray⟩ n hl (by simpa using ha) w).mono fun e w' ⟨he,t,hw⟩=> ?_
  subst hw
  have hg:=Yf (Go.Lib.bytesWorld_below w (YU.t 5) t)
  exact⟨.tup [int n, .any],_,X,[],he,JbE (.c _ _ (VF.int _ _)) (.any _),hg.rel hH,hg.ev hH,rfl⟩
 |none=>
  obtain⟨_,t,o,v,h1,h2⟩:=hH.tab.2 1 rfl
  refine(Any.strconv_Atoi_err Jan ⟨l.toArray⟩ hl (by simpa using ha) v w (by simp[World.cell?,WL,h1]) h2).mono fun e w' ⟨N,he,_,_,hb⟩=> ?_
  have hg:=Yf hb
  exact⟨.tup [int 0, .any],_,X,[],he,JbE (.c _ _ (VF.int _ _)) (.any _),hg.rel hH,hg.ev hH,rfl⟩
end Go.Lg

namespace Go.Lg
open Go.Proofs
theorem W5(c:UInt8):∀l:List UInt8,(∀b∈l,b≠c)∨∃a r,l=a++c::r∧∀b∈a,b≠c
 |[]=> .inl (by simp)
 |b::l=>by
  by_cases hb:b=c
  · exact .inr ⟨[],l,by rw[hb];rfl,by simp⟩
  · rcases W5 c l with h|⟨a,r,rfl,h⟩
    · exact .inl fun x hx=>by rcases JV.1 hx with rfl|hx;exact hb;exact h x hx
    · exact .inr ⟨b::a,r,rfl,fun x hx=>by rcases JV.1 hx with rfl|hx;exact hb;exact h x hx⟩
theorem NV(c:UInt8)(l:List UInt8): -1≤Go.Lib.indexByte l c∧Go.Lib.indexByte l c<l.length:=by
 rcases W5 c l with h|⟨a,r,rfl,h⟩
 · rw[FJ h];omega
 · rw[Kp h];simp;omega
theorem Nj(l:List UInt8)(c:UInt8)(hl:l.length≤2^40):Qd Tryz.prog 65 [Um l,Um [c]] (.tup [Um (Go.Lib.cut l [c]).1,Um (Go.Lib.cut l [c]).2.1,bool (Go.Lib.cut l [c]).2.2]):=by
 refine Jq.cw (c:=_) Tryz.func65 rfl (n:=23) Tryz.ntmps65 (rs:=[.tmp 4, .tmp 5, .tmp 6]) rfl ?_
 simp only[Jf,Jl,zA,zS,Jg,Jc,Jd]
 simp(maxSteps:=999999)(disch:=omega)only[go_sem,zA,zM,zS,zE,zL]
 first|refine Qh.rd (YY l c) (⟨_,Tryz.func78,rfl,rfl⟩:Jm Tryz.prog 78) rfl rfl rfl rfl ?_|refine Qe.rd (YY l c) (⟨_,Tryz.func78,rfl,rfl⟩:Jm Tryz.prog 78) rfl rfl rfl rfl ?_
 simp(maxSteps:=999999)(disch:=omega)only[go_sem,zA,zM,zS,zE,zL]
 rcases W5 c l with h|⟨a,r,rfl,h⟩
 · rw[Jff h]
   have e:=FJ h
   simp(maxSteps:=999999)(disch:=omega)only[go_sem,zA,zM,zS,zE,zL,e]
   ((first|(with_reducible first|refine Jo ?_ ?_|refine Jk ?_ ?_|refine Jp ?_ ?_)|refine Jr ?_ ?_)<;>intro c0)
   · exfalso;omega
   simp(maxSteps:=999999)(disch:=omega)only[go_sem,zA,zM,zS,zE,zL]
 · rw[Jcb h]
   have e:=Kp (r:=r) h
   simp(maxSteps:=999999)(disch:=omega)only[go_sem,zA,zM,zS,zE,zL,e]
   ((first|(with_reducible first|refine Jo ?_ ?_|refine Jk ?_ ?_|refine Jp ?_ ?_)|refine Jr ?_ ?_)<;>intro c0)
   rotate_left
   · exfalso;omega
   have hla:(a++c::r).length=a.length+r.length+1:=by simp;omega
   have e1:sub (a++c::r) 0 (a.length:Int)=a:=by rw[G1,List.take_left' rfl]
   have e4:GD (a++c::r) ((a.length:Int)+((1:Nat):Int)).toNat (a.length+(r.length+1))=some (Um r):=by
    have h1:((a.length:Int)+((1:Nat):Int)).toNat=a.length+1:=by omega
    have h2:(a++c::r).drop (a.length+1)=r:=by rw[List.drop_append];simp
    unfold GD
    rw[h1,if_pos ⟨by omega,by simp⟩,h2,Jn (by omega)]
   refine Q7 Zr (by kernel_rfl) ?_
   simp(maxSteps:=999999)(disch:=omega)only[go_sem,Nat.reduceBEq,Bool.true_or,zA,zM,zS,zE,zL]
   simp(maxSteps:=999999)(disch:=omega)only[go_sem,zA,zM,zS,zE,zL,e1,e4]
theorem Jcg(l:List UInt8)(c:UInt8)(hl:l.length≤2^40):Qd Tryz.prog 48 [Um l,Um [c]] (.tup [Um (Go.Lib.cut l [c]).1,Um (Go.Lib.cut l [c]).2.1,bool (Go.Lib.cut l [c]).2.2]):=by
 refine Jq.cw (c:=_) Tryz.func48 rfl (n:=13) Tryz.ntmps48 (rs:=[.tmp 4, .tmp 5, .tmp 6]) rfl ?_
 simp only[Jf,Jl,zA,zS,Jg,Jc,Jd]
 simp(maxSteps:=999999)(disch:=omega)only[go_sem,zA,zM,zS,zE,zL]
 first|refine Qh.rd (Nj l c hl) (⟨_,Tryz.func65,rfl,rfl⟩:Jm Tryz.prog 65) rfl rfl rfl rfl ?_|refine Qe.rd (Nj l c hl) (⟨_,Tryz.func65,rfl,rfl⟩:Jm Tryz.prog 65) rfl rfl rfl rfl ?_
 simp(maxSteps:=999999)(disch:=omega)only[go_sem,zA,zM,zS,zE,zL]
def Np(r:Q2)(b:Bool):KV:=fun v H=>∃c S,v= .tup [.agg [.f (.int .i64 r.kind),c, .f (.int .i64 r.val)],bool b]∧Qv H c r.cells S
theorem ZT(H:Ji):Wa H (Np JbB false) (.tup [.agg [.f (.int .i64 0), .f (.sl 0 []), .f (.int .i64 0)],bool false]):=⟨H,Qc.refl _,_,[],rfl, .e⟩
theorem Jh8(l:List UInt8)(i:Nat):(Ue l i).toNat.toUInt8=l.getD i 0:=by simp[Ue]
def Zs(cs:List UInt8):List Int:=cs.tail.map fun b=>(b.toNat:Int) -97
def rdH(K:Int)(g0 g1:Nat)(L:List Int)(k g:Nat):Ji:=match k with
 |0=>[some ⟨g0,3,[.f (.int .i64 0), .f .nil, .f (.int .i64 0)]⟩,some ⟨g1,3,[.f (.int .i64 (K+1)), .f .nil, .f (.int .i64 0)]⟩]
 |k+1=>[some ⟨g0,3,[.f (.int .i64 0), .f .nil, .f (.int .i64 0)]⟩,some ⟨g1,3,[.f (.int .i64 (K+1)), .own 3 g 0 (k+1) none, .f (.int .i64 0)]⟩,none,some ⟨g,1,cl (eI .i64) (L.take (k+1))⟩]
set_option maxHeartbeats 2000000 in
theorem GM(s:List UInt8)(hs:s.length≤2^40):Jq Tryz.prog 26 [Um s] [] (Np (QA s) (Q6 s)):=by
 obtain⟨⟨cs,vs,fb⟩,hcut⟩:∃x,Go.Lib.cut s [61]=x:=⟨_,rfl⟩
 have hL:B4 s↔2≤cs.length∧cs.length≤5∧vs.length≤3:=by unfold B4;rw[hcut]
 have hrd:rdR s=⟨Go.Lib.indexByte [100,115,112,108,97] (cs.getD 0 0)+1,Zs cs,(Go.Lib.atoi vs).getD 0⟩:=by unfold rdR Zs;rw[hcut]
 have hno:¬B4 s→QA s=JbB∧Q6 s=false:=fun h=>Uu fun h'=>h h'.1
 refine Jq.nz ?_
 refine Jq.cw (c:=_) Tryz.func26 rfl (n:=62) Tryz.ntmps26 (rs:=[.cell 2 41, .tmp 3]) rfl ?_
 simp only[Jf,Jl,zA,zS,Jg,Jc,Jd]
 simp(maxSteps:=999999)(disch:=omega)only[go_sem,zA,zM,zS,zE,zL]
 intro g0
 first|refine Qh.rd (Jcg s 61 hs) (⟨_,Tryz.func48,rfl,rfl⟩:Jm Tryz.prog 48) rfl rfl rfl rfl ?_|refine Qe.rd (Jcg s 61 hs) (⟨_,Tryz.func48,rfl,rfl⟩:Jm Tryz.prog 48) rfl rfl rfl rfl ?_
 simp(maxSteps:=999999)(disch:=omega)only[go_sem,zA,zM,zS,zE,zL]
 simp(maxSteps:=999999)(disch:=omega)only[go_sem,zA,zM,zS,zE,zL,hcut]
 ((with_reducible first|refine JU ?_ ?_|refine JJ ?_ ?_|refine J6 ?_ ?_|refine Jx ?_ ?_|refine JS ?_ ?_|refine JT ?_ ?_|refine JH ?_ ?_|refine JI ?_ ?_|refine J4 ?_ ?_|refine J5 ?_ ?_|refine JC ?_ ?_|refine JD ?_ ?_)<;>intro h1<;>simp(maxSteps:=999999)(disch:=omega)only[go_sem,zA,zM,zS,zE,zL,h1])
 · obtain⟨e1,e2⟩:=hno (by rw[hL];omega)
   rw[e1,e2]
   exact ZT _
 ((with_reducible first|refine JU ?_ ?_|refine JJ ?_ ?_|refine J6 ?_ ?_|refine Jx ?_ ?_|refine JS ?_ ?_|refine JT ?_ ?_|refine JH ?_ ?_|refine JI ?_ ?_|refine J4 ?_ ?_|refine J5 ?_ ?_|refine JC ?_ ?_|refine JD ?_ ?_)<;>intro h2<;>simp(maxSteps:=999999)(disch:=omega)only[go_sem,zA,zM,zS,zE,zL,h2])
 · obtain⟨e1,e2⟩:=hno (by rw[hL];omega)
   rw[e1,e2]
   exact ZT _
 ((first|(with_reducible first|refine Jo ?_ ?_|refine Jk ?_ ?_|refine Jp ?_ ?_)|refine Jr ?_ ?_)<;>intro h3)
 · simp(maxSteps:=999999)(disch:=omega)only[go_sem,zA,zM,zS,zE,zL]
   obtain⟨e1,e2⟩:=hno (by rw[hL];omega)
   rw[e1,e2]
   exact ZT _
 have hac:B4 s:=hL.2 (by omega)
 simp(maxSteps:=999999)(disch:=omega)only[go_sem,zA,zM,zS,zE,zL]
 first|refine Qh.rd (XN [100,115,112,108,97] (Ue cs 0)) (⟨_,Tryz.func49,rfl,rfl⟩:Jm Tryz.prog 49) rfl rfl rfl rfl ?_|refine Qe.rd (XN [100,115,112,108,97] (Ue cs 0)) (⟨_,Tryz.func49,rfl,rfl⟩:Jm Tryz.prog 49) rfl rfl rfl rfl ?_
 simp(maxSteps:=999999)(disch:=omega)only[go_sem,zA,zM,zS,zE,zL]
 have hib:=NV ((Ue cs 0).toNat.toUInt8) [100,115,112,108,97]
 rw[show(Ue cs 0).toNat.toUInt8=cs.getD 0 0 from Jh8 cs 0]at hib⊢
 simp only[Jf,Jl]at hib
 generalize hK:Go.Lib.indexByte [100,115,112,108,97] (cs.getD 0 0)=K at hib hrd⊢
 simp(maxSteps:=999999)(disch:=omega)only[go_sem,zA,zM,zS,zE,zL]
 intro g1
 have hCl:(Zs cs).length=cs.length -1:=by simp[Zs]
 have hCn:∀k:Nat,k+1<cs.length→JM (Zs cs) k=Ue cs ((k:Int)+1) -97:=fun k hk=>by
  rw[Qu (by omega)]
  simp[Zs,Ue]
  rw[Jh hk]
  rfl
 have hCb:∀e:Int,0≤Ue cs e∧Ue cs e≤255:=UP cs
 refine Qj (fun(k g:Nat)=>cs.length -k) (fun k g=>k+1≤cs.length) (fun k g=>[.k, .a, .k, .a, .k, .k, .a, .k, .p (int (k+1)), .a, .a, .a, .a, .a, .a, .a, .a, .a, .a, .a, .a, .a, .a, .a, .a, .a, .a, .a, .a, .a, .a, .a, .a, .a, .a, .a, .a, .a, .a, .a, .a, .a, .a, .a, .a, .a, .a, .a, .a, .a, .a, .a, .a, .a, .a, .a, .a, .a, .a, .a, .a, .a]) (rdH K g0 g1 (Zs cs)) 0 0
  (by omega) (by simp(maxSteps:=999999)(disch:=omega)only[go_sem,zA,zM,zS,zE,zL];rfl) (Qc.refl _) ?_
 rintro k g hk
 simp(maxSteps:=999999)(disch:=omega)only[go_sem,zA,zM,zS,zE,zL]
 ((first|(with_reducible first|refine Jo ?_ ?_|refine Jk ?_ ?_|refine Jp ?_ ?_)|refine Jr ?_ ?_)<;>intro c1)
 · have hcb:=hCb ((k:Int)+1)
   have hcn:=hCn k (by omega)
   have htk:=JX (xs:=Zs cs) (i:=k) (by omega)
   rw[hcn]at htk
   rcases k with _|k
   · simp only[rdH]
     simp(maxSteps:=999999)(disch:=omega)only[go_sem,zA,zM,zS,zE,zL]
     refine Ua [0,1,2,3,4,5,6,7] [] none [8,9,10] [] Zr (by kernel_rfl) ?_
     simp(maxSteps:=999999)(disch:=omega)only[go_sem,Nat.reduceBEq,Bool.true_or,zA,zM,zS,zE,zL]
     intro g3 g4
     exact⟨1,g4,⟨by omega,by omega⟩,by omega,Zq _ _ _ (Zq _ _ _ (Bb _ _ _ (Zd (by rw[htk];rfl) (J8 _))))⟩
   · simp only[rdH]
     simp(maxSteps:=999999)(disch:=omega)only[go_sem,zA,zM,zS,zE,zL]
     refine Ua [0,1,2,3,4,5,6,7] [] none [8,9,10] [] Zr (by kernel_rfl) ?_
     simp(maxSteps:=999999)(disch:=omega)only[go_sem,Nat.reduceBEq,Bool.true_or,zA,zM,zS,zE,zL]
     intro g3 g4
     exact⟨k+1+1,g4,⟨by omega,by omega⟩,by omega,Zq _ _ _ (Zq _ _ _ (Zq _ _ _ (Zd (by rw[htk]) (J8 _))))⟩
 obtain⟨k,rfl⟩:∃j,k=j+1:=⟨k -1,by omega⟩
 simp only[rdH]
 simp(maxSteps:=999999)(disch:=omega)only[go_sem,zA,zM,zS,zE,zL]
 have hkl:(Zs cs).take (k+1)=Zs cs:=Jn (by omega)
 have hkc:(Zs cs).length=k+1:=by omega
 rw[hkl]
 first|refine Qh.mk (Jap vs (by omega)) (⟨_,Tryz.func50,rfl,rfl⟩:Jm Tryz.prog 50) rfl rfl rfl rfl rfl ?_|refine Qe.mk (Jap vs (by omega)) (⟨_,Tryz.func50,rfl,rfl⟩:Jm Tryz.prog 50) rfl rfl rfl rfl rfl ?_
 simp(maxSteps:=999999)(disch:=omega)only[go_sem,zA,zM,zS,zE,zL]
 rw[show k+1=(Zs cs).length from hkc.symm]
 obtain⟨HF,hHF⟩:∃HF:Ji,HF=[some ⟨g0,3,[.f (.int .i64 0), .f .nil, .f (.int .i64 0)]⟩,some ⟨g1,3,[.f (.int .i64 (K+1)), .own 3 g 0 (Zs cs).length none, .f (.int .i64 ((Go.Lib.atoi vs).getD 0))]⟩,none,some ⟨g,1,cl (eI .i64) (Zs cs)⟩]:=⟨_,rfl⟩
 have l0:look HF 0 g0=some ⟨g0,3,[.f (.int .i64 0), .f .nil, .f (.int .i64 0)]⟩:=by rw[hHF];simp[look]
 have l1:look HF 1 g1=some ⟨g1,3,[.f (.int .i64 (K+1)), .own 3 g 0 (Zs cs).length none, .f (.int .i64 ((Go.Lib.atoi vs).getD 0))]⟩:=by rw[hHF];simp[look]
 have l3:look HF 3 g=some ⟨g,1,cl (eI .i64) (Zs cs)⟩:=by rw[hHF];simp[look]
 have hlt:0<HF.length:=by rw[hHF];simp
 rw[←hHF]
 clear hHF
 have hown:Qv HF (.own 3 g 0 (Zs cs).length none) (Zs cs) [3]:=Qv.o (H:=HF) 3 g none (Zs cs) [] (by rw[Jv];exact l3)
 have hfr:=hown.frzC
 have hsn:QS HF (.agg [.f (.int .i64 (K+1)), .own 3 g 0 (Zs cs).length none, .f (.int .i64 ((Go.Lib.atoi vs).getD 0))])=some (aR (rdR s)):=by
  have e1:frzC HF (.f (.int .i64 (K+1)))=some (.f (.int .i64 (K+1))):=rfl
  have e2:frzC HF (.f (.int .i64 ((Go.Lib.atoi vs).getD 0)))=some (.f (.int .i64 ((Go.Lib.atoi vs).getD 0))):=rfl
  simp only[QS,Jz,Qa,hfr,e1,e2,Option.pure_def,Option.bind_eq_bind,Option.bind_some,Option.map_some,hrd]
 have hcl:(rdR s).cells.length≤2^40:=by rw[hrd];show(Zs cs).length≤_;omega
 refine Qh.rdD (WD (rdR s) hcl) (⟨_,Tryz.func18,rfl,rfl⟩:Jm Tryz.prog 18) rfl rfl (V3 hsn) rfl ?_
 have hs0:∀cs,look (HF.set 0 (some ⟨g0,3,cs⟩)) 0 g0=some ⟨g0,3,cs⟩:=fun cs=>JK hlt
 by_cases hacc:Ze (rdR s)=s
 · have d:=decide_eq_true hacc
   have ha:B2 s:=⟨hac,hacc⟩
   simp(maxSteps:=999999)(disch:=omega)only[go_sem,zA,zM,zS,zE,zL,d,l1,l0,hs0]
   rw[show QA s=rdR s by unfold QA;rw[if_pos ha],show Q6 s=true from decide_eq_true ha]
   refine⟨_,Qc.refl _, .own 3 g 0 (Zs cs).length none,[3],by rw[hrd], ?_⟩
   rw[show(rdR s).cells=Zs cs by rw[hrd]]
   exact hown.same fun i hi=>by
    have:i=3:=by simpa using hi
    subst this
    rw[Jj (by omega)]
 · have d:=decide_eq_false hacc
   obtain⟨e1,e2⟩:=Uu (s:=s) fun h=>hacc h.2
   rw[e1,e2]
   simp(maxSteps:=999999)(disch:=omega)only[go_sem,zA,zM,zS,zE,zL,d,l0,hs0]
   exact ZT _
end Go.Lg
