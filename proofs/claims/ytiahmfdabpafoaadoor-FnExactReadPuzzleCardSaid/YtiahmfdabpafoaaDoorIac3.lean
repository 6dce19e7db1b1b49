/- GpXT, GpWC, cut to what is needed. -/
import Derived.Test.YtiahmfdabpafoaaDoorIab3
import Derived.Shelf.Small.Strs
import Derived.Shelf.Strconv.Atoi
import Derived.Shelf.Strconv.AtoiErr
import Derived.Shelf.LaysC
import Derived.Shelf.Strings.Search2
import Derived.Lib.AtoiErrMem
import Derived.Test.YtiahmfdabpafoaaDoorIac2
import Derived.Test.YtiahmfdabpafoaaDoorIab9
open Nat renaming reduceAdd→zA,reduceMul→zM,reduceSub→zS,reduceEqDiff→zE,reduceLeDiff→zL
set_option linter.unusedSimpArgs false
set_option linter.unusedVariables false
set_option maxRecDepth 100000
namespace Go.Lg
open Go.Proofs Go.Shelf
def ibLays_ren:Go.Shelf.Ren:=⟨fun|137=>32|217=>65|266=>85|n=>n,fun|9=>9|5=>5|3=>3|n=>n,fun|n=>n⟩
theorem ibLays:Go.Proofs.Lays.n137 Tryd.prog ibLays_ren:={
 mixed:=by kernel_rfl
 f137:=Tryd.func32.trans (congrArg some (by kernel_rfl))
 f217:=Tryd.func65.trans (congrArg some (by kernel_rfl))
 f266:=Tryd.func85.trans (congrArg some (by kernel_rfl))
 t3:=Tryd.underlying3
 a3:=Tryd.isAgg3
 z3:=Tryd.sizeOf3
 v3:=Tryd.zeroValue3
 t5:=Tryd.underlying5
 a5:=Tryd.isAgg5
 z5:=Tryd.sizeOf5
 v5:=Tryd.zeroValue5
 t9:=Tryd.underlying9
 a9:=Tryd.isAgg9
 z9:=Tryd.sizeOf9
 v9:=Tryd.zeroValue9}
def idxLays_ren:Go.Shelf.Ren:=⟨fun|219=>84|217=>65|225=>106|224=>107|267=>108|266=>85|314=>126|n=>n,fun|9=>9|3=>3|4=>4|5=>5|46=>108|146=>129|51=>128|n=>n,fun|1=>0|n=>n⟩
theorem idxLays:Go.Proofs.Lays.n219 Tryd.prog idxLays_ren:={
 mixed:=by kernel_rfl
 f217:=Tryd.func65.trans (congrArg some (by kernel_rfl))
 f219:=Tryd.func84.trans (congrArg some (by kernel_rfl))
 f224:=Tryd.func107.trans (congrArg some (by kernel_rfl))
 f225:=Tryd.func106.trans (congrArg some (by kernel_rfl))
 f266:=Tryd.func85.trans (congrArg some (by kernel_rfl))
 f267:=Tryd.func108.trans (congrArg some (by kernel_rfl))
 f314:=Tryd.func126.trans (congrArg some (by kernel_rfl))
 t3:=Tryd.underlying3
 a3:=Tryd.isAgg3
 z3:=Tryd.sizeOf3
 v3:=Tryd.zeroValue3
 t4:=Tryd.underlying4
 a4:=Tryd.isAgg4
 z4:=Tryd.sizeOf4
 v4:=Tryd.zeroValue4
 t5:=Tryd.underlying5
 a5:=Tryd.isAgg5
 z5:=Tryd.sizeOf5
 v5:=Tryd.zeroValue5
 t9:=Tryd.underlying9
 a9:=Tryd.isAgg9
 z9:=Tryd.sizeOf9
 v9:=Tryd.zeroValue9
 t46:=Tryd.underlying108
 a46:=Tryd.isAgg108
 z46:=Tryd.sizeOf108
 v46:=Tryd.zeroValue108
 t51:=Tryd.underlying128
 a51:=Tryd.isAgg128
 z51:=Tryd.sizeOf128
 v51:=Tryd.zeroValue128
 t146:=Tryd.underlying129
 a146:=Tryd.isAgg129
 z146:=Tryd.sizeOf129
 v146:=Tryd.zeroValue129
 g1:=by kernel_rfl}
def atoiLays_ren:Go.Shelf.Ren:=⟨fun|172=>33|244=>66|245=>67|247=>86|279=>87|280=>88|281=>89|282=>90|287=>109|316=>110|171=>47|205=>111|321=>127|322=>128|243=>71|246=>95|283=>116|284=>117|285=>118|286=>119|129=>132|317=>131|318=>133|319=>134|320=>135|337=>141|338=>142|n=>n,fun|9=>9|3=>3|75=>53|76=>54|4=>4|5=>5|167=>93|37=>37|0=>0|85=>94|2=>2|168=>96|53=>109|175=>110|46=>108|210=>114|127=>132|145=>135|143=>133|21=>21|171=>119|173=>122|212=>137|51=>128|20=>20|213=>138|232=>151|233=>152|80=>155|n=>n,fun|15=>1|16=>2|17=>3|18=>6|19=>7|n=>n⟩
theorem atoiLays:Go.Proofs.Lays.n172 Tryd.prog atoiLays_ren:={
 mixed:=by kernel_rfl
 f129:=Tryd.func132.trans (congrArg some (by kernel_rfl))
 f171:=Tryd.func47.trans (congrArg some (by kernel_rfl))
 f172:=Tryd.func33.trans (congrArg some (by kernel_rfl))
 f205:=Tryd.func111.trans (congrArg some (by kernel_rfl))
 f243:=Tryd.func71.trans (congrArg some (by kernel_rfl))
 f244:=Tryd.func66.trans (congrArg some (by kernel_rfl))
 f245:=Tryd.func67.trans (congrArg some (by kernel_rfl))
 f246:=Tryd.func95.trans (congrArg some (by kernel_rfl))
 f247:=Tryd.func86.trans (congrArg some (by kernel_rfl))
 f279:=Tryd.func87.trans (congrArg some (by kernel_rfl))
 f280:=Tryd.func88.trans (congrArg some (by kernel_rfl))
 f281:=Tryd.func89.trans (congrArg some (by kernel_rfl))
 f282:=Tryd.func90.trans (congrArg some (by kernel_rfl))
 f283:=Tryd.func116.trans (congrArg some (by kernel_rfl))
 f284:=Tryd.func117.trans (congrArg some (by kernel_rfl))
 f285:=Tryd.func118.trans (congrArg some (by kernel_rfl))
 f286:=Tryd.func119.trans (congrArg some (by kernel_rfl))
 f287:=Tryd.func109.trans (congrArg some (by kernel_rfl))
 f316:=Tryd.func110.trans (congrArg some (by kernel_rfl))
 f317:=Tryd.func131.trans (congrArg some (by kernel_rfl))
 f318:=Tryd.func133.trans (congrArg some (by kernel_rfl))
 f319:=Tryd.func134.trans (congrArg some (by kernel_rfl))
 f320:=Tryd.func135.trans (congrArg some (by kernel_rfl))
 f321:=Tryd.func127.trans (congrArg some (by kernel_rfl))
 f322:=Tryd.func128.trans (congrArg some (by kernel_rfl))
 f337:=Tryd.func141.trans (congrArg some (by kernel_rfl))
 f338:=Tryd.func142.trans (congrArg some (by kernel_rfl))
 t0:=Tryd.underlying0
 a0:=Tryd.isAgg0
 z0:=Tryd.sizeOf0
 v0:=Tryd.zeroValue0
 t2:=Tryd.underlying2
 a2:=Tryd.isAgg2
 z2:=Tryd.sizeOf2
 v2:=Tryd.zeroValue2
 t3:=Tryd.underlying3
 a3:=Tryd.isAgg3
 z3:=Tryd.sizeOf3
 v3:=Tryd.zeroValue3
 t4:=Tryd.underlying4
 a4:=Tryd.isAgg4
 z4:=Tryd.sizeOf4
 v4:=Tryd.zeroValue4
 t5:=Tryd.underlying5
 a5:=Tryd.isAgg5
 z5:=Tryd.sizeOf5
 v5:=Tryd.zeroValue5
 t9:=Tryd.underlying9
 a9:=Tryd.isAgg9
 z9:=Tryd.sizeOf9
 v9:=Tryd.zeroValue9
 t20:=Tryd.underlying20
 a20:=Tryd.isAgg20
 z20:=Tryd.sizeOf20
 v20:=Tryd.zeroValue20
 t21:=Tryd.underlying21
 a21:=Tryd.isAgg21
 z21:=Tryd.sizeOf21
 v21:=Tryd.zeroValue21
 t37:=Tryd.underlying37
 a37:=Tryd.isAgg37
 z37:=Tryd.sizeOf37
 v37:=Tryd.zeroValue37
 t46:=Tryd.underlying108
 a46:=Tryd.isAgg108
 z46:=Tryd.sizeOf108
 v46:=Tryd.zeroValue108
 t51:=Tryd.underlying128
 a51:=Tryd.isAgg128
 z51:=Tryd.sizeOf128
 v51:=Tryd.zeroValue128
 t53:=Tryd.underlying109
 a53:=Tryd.isAgg109
 z53:=Tryd.sizeOf109
 v53:=Tryd.zeroValue109
 t75:=Tryd.underlying53
 a75:=Tryd.isAgg53
 z75:=Tryd.sizeOf53
 v75:=Tryd.zeroValue53
 t76:=Tryd.underlying54
 a76:=Tryd.isAgg54
 z76:=Tryd.sizeOf54
 v76:=Tryd.zeroValue54
 t85:=Tryd.underlying94
 a85:=Tryd.isAgg94
 z85:=Tryd.sizeOf94
 v85:=Tryd.zeroValue94
 t127:=Tryd.underlying132
 a127:=Tryd.isAgg132
 z127:=Tryd.sizeOf132
 v127:=Tryd.zeroValue132
 t143:=Tryd.underlying133
 a143:=Tryd.isAgg133
 z143:=Tryd.sizeOf133
 v143:=Tryd.zeroValue133
 t145:=Tryd.underlying135
 a145:=Tryd.isAgg135
 z145:=Tryd.sizeOf135
 v145:=Tryd.zeroValue135
 t167:=Tryd.underlying93
 a167:=Tryd.isAgg93
 z167:=Tryd.sizeOf93
 v167:=Tryd.zeroValue93
 t168:=Tryd.underlying96
 a168:=Tryd.isAgg96
 z168:=Tryd.sizeOf96
 v168:=Tryd.zeroValue96
 t171:=Tryd.underlying119
 a171:=Tryd.isAgg119
 z171:=Tryd.sizeOf119
 v171:=Tryd.zeroValue119
 t173:=Tryd.underlying122
 a173:=Tryd.isAgg122
 z173:=Tryd.sizeOf122
 v173:=Tryd.zeroValue122
 t175:=Tryd.underlying110
 a175:=Tryd.isAgg110
 z175:=Tryd.sizeOf110
 v175:=Tryd.zeroValue110
 t210:=Tryd.underlying114
 a210:=Tryd.isAgg114
 z210:=Tryd.sizeOf114
 v210:=Tryd.zeroValue114
 t212:=Tryd.underlying137
 a212:=Tryd.isAgg137
 z212:=Tryd.sizeOf137
 v212:=Tryd.zeroValue137
 t213:=Tryd.underlying138
 a213:=Tryd.isAgg138
 z213:=Tryd.sizeOf138
 t232:=Tryd.underlying151
 a232:=Tryd.isAgg151
 z232:=Tryd.sizeOf151
 v232:=Tryd.zeroValue151
 t233:=Tryd.underlying152
 a233:=Tryd.isAgg152
 z233:=Tryd.sizeOf152
 v233:=Tryd.zeroValue152
 g15:=by kernel_rfl
 g16:=by kernel_rfl
 g17:=by kernel_rfl
 g18:=by kernel_rfl
 g19:=by kernel_rfl}
def atoiErrLays_ren:Go.Shelf.Ren:=⟨fun|172=>33|244=>66|245=>67|247=>86|279=>87|280=>88|281=>89|282=>90|287=>109|316=>110|171=>47|205=>111|321=>127|322=>128|243=>71|246=>95|283=>116|284=>117|285=>118|286=>119|129=>132|317=>131|318=>133|319=>134|320=>135|337=>141|338=>142|n=>n,fun|9=>9|3=>3|75=>53|76=>54|4=>4|5=>5|167=>93|37=>37|0=>0|85=>94|2=>2|168=>96|53=>109|175=>110|46=>108|210=>114|127=>132|145=>135|143=>133|21=>21|171=>119|173=>122|212=>137|51=>128|20=>20|213=>138|232=>151|233=>152|80=>155|n=>n,fun|15=>1|16=>2|17=>3|18=>6|19=>7|n=>n⟩
theorem atoiErrLays:Go.Proofs.LaysC.n172 Tryd.prog atoiErrLays_ren:={
 mixed:=by kernel_rfl
 f129:=Tryd.func132.trans (congrArg some (by kernel_rfl))
 f171:=Tryd.func47.trans (congrArg some (by kernel_rfl))
 f172:=Tryd.func33.trans (congrArg some (by kernel_rfl))
 f205:=Tryd.func111.trans (congrArg some (by kernel_rfl))
 f243:=Tryd.func71.trans (congrArg some (by kernel_rfl))
 f244:=Tryd.func66.trans (congrArg some (by kernel_rfl))
 f245:=Tryd.func67.trans (congrArg some (by kernel_rfl))
 f246:=Tryd.func95.trans (congrArg some (by kernel_rfl))
 f247:=Tryd.func86.trans (congrArg some (by kernel_rfl))
 f279:=Tryd.func87.trans (congrArg some (by kernel_rfl))
 f280:=Tryd.func88.trans (congrArg some (by kernel_rfl))
 f281:=Tryd.func89.trans (congrArg some (by kernel_rfl))
 f282:=Tryd.func90.trans (congrArg some (by kernel_rfl))
 f283:=Tryd.func116.trans (congrArg some (by kernel_rfl))
 f284:=Tryd.func117.trans (congrArg some (by kernel_rfl))
 f285:=Tryd.func118.trans (congrArg some (by kernel_rfl))
 f286:=Tryd.func119.trans (congrArg some (by kernel_rfl))
 f287:=Tryd.func109.trans (congrArg some (by kernel_rfl))
 f316:=Tryd.func110.trans (congrArg some (by kernel_rfl))
 f317:=Tryd.func131.trans (congrArg some (by kernel_rfl))
 f318:=Tryd.func133.trans (congrArg some (by kernel_rfl))
 f319:=Tryd.func134.trans (congrArg some (by kernel_rfl))
 f320:=Tryd.func135.trans (congrArg some (by kernel_rfl))
 f321:=Tryd.func127.trans (congrArg some (by kernel_rfl))
 f322:=Tryd.func128.trans (congrArg some (by kernel_rfl))
 f337:=Tryd.func141.trans (congrArg some (by kernel_rfl))
 f338:=Tryd.func142.trans (congrArg some (by kernel_rfl))
 t0:=Tryd.underlying0
 a0:=Tryd.isAgg0
 z0:=Tryd.sizeOf0
 v0:=Tryd.zeroValue0
 t2:=Tryd.underlying2
 a2:=Tryd.isAgg2
 z2:=Tryd.sizeOf2
 v2:=Tryd.zeroValue2
 t3:=Tryd.underlying3
 a3:=Tryd.isAgg3
 z3:=Tryd.sizeOf3
 v3:=Tryd.zeroValue3
 t4:=Tryd.underlying4
 a4:=Tryd.isAgg4
 z4:=Tryd.sizeOf4
 v4:=Tryd.zeroValue4
 t5:=Tryd.underlying5
 a5:=Tryd.isAgg5
 z5:=Tryd.sizeOf5
 v5:=Tryd.zeroValue5
 t9:=Tryd.underlying9
 a9:=Tryd.isAgg9
 z9:=Tryd.sizeOf9
 v9:=Tryd.zeroValue9
 t20:=Tryd.underlying20
 a20:=Tryd.isAgg20
 z20:=Tryd.sizeOf20
 v20:=Tryd.zeroValue20
 t21:=Tryd.underlying21
 a21:=Tryd.isAgg21
 z21:=Tryd.sizeOf21
 v21:=Tryd.zeroValue21
 t37:=Tryd.underlying37
 a37:=Tryd.isAgg37
 z37:=Tryd.sizeOf37
 v37:=Tryd.zeroValue37
 t46:=Tryd.underlying108
 a46:=Tryd.isAgg108
 z46:=Tryd.sizeOf108
 v46:=Tryd.zeroValue108
 t51:=Tryd.underlying128
 a51:=Tryd.isAgg128
 z51:=Tryd.sizeOf128
 v51:=Tryd.zeroValue128
 t53:=Tryd.underlying109
 a53:=Tryd.isAgg109
 z53:=Tryd.sizeOf109
 v53:=Tryd.zeroValue109
 t75:=Tryd.underlying53
 a75:=Tryd.isAgg53
 z75:=Tryd.sizeOf53
 v75:=Tryd.zeroValue53
 t76:=Tryd.underlying54
 a76:=Tryd.isAgg54
 z76:=Tryd.sizeOf54
 v76:=Tryd.zeroValue54
 t85:=Tryd.underlying94
 a85:=Tryd.isAgg94
 z85:=Tryd.sizeOf94
 v85:=Tryd.zeroValue94
 t127:=Tryd.underlying132
 a127:=Tryd.isAgg132
 z127:=Tryd.sizeOf132
 v127:=Tryd.zeroValue132
 t143:=Tryd.underlying133
 a143:=Tryd.isAgg133
 z143:=Tryd.sizeOf133
 v143:=Tryd.zeroValue133
 t145:=Tryd.underlying135
 a145:=Tryd.isAgg135
 z145:=Tryd.sizeOf135
 v145:=Tryd.zeroValue135
 t167:=Tryd.underlying93
 a167:=Tryd.isAgg93
 z167:=Tryd.sizeOf93
 v167:=Tryd.zeroValue93
 t168:=Tryd.underlying96
 a168:=Tryd.isAgg96
 z168:=Tryd.sizeOf96
 v168:=Tryd.zeroValue96
 t171:=Tryd.underlying119
 a171:=Tryd.isAgg119
 z171:=Tryd.sizeOf119
 v171:=Tryd.zeroValue119
 t173:=Tryd.underlying122
 a173:=Tryd.isAgg122
 z173:=Tryd.sizeOf122
 v173:=Tryd.zeroValue122
 t175:=Tryd.underlying110
 a175:=Tryd.isAgg110
 z175:=Tryd.sizeOf110
 v175:=Tryd.zeroValue110
 t210:=Tryd.underlying114
 a210:=Tryd.isAgg114
 z210:=Tryd.sizeOf114
 v210:=Tryd.zeroValue114
 t212:=Tryd.underlying137
 a212:=Tryd.isAgg137
 z212:=Tryd.sizeOf137
 v212:=Tryd.zeroValue137
 t213:=Tryd.underlying138
 a213:=Tryd.isAgg138
 z213:=Tryd.sizeOf138
 t232:=Tryd.underlying151
 a232:=Tryd.isAgg151
 z232:=Tryd.sizeOf151
 v232:=Tryd.zeroValue151
 t233:=Tryd.underlying152
 a233:=Tryd.isAgg152
 z233:=Tryd.sizeOf152
 v233:=Tryd.zeroValue152
 g15:=by kernel_rfl
 g16:=by kernel_rfl
 g17:=by kernel_rfl
 g18:=by kernel_rfl
 g19:=by kernel_rfl
 t80:=Tryd.underlying155
 a80:=Tryd.isAgg155
 z80:=Tryd.sizeOf155
 v80:=Tryd.zeroValue155
 i0:=by kernel_rfl
 i2:=by kernel_rfl
 i3:=by kernel_rfl
 i4:=by kernel_rfl
 i5:=by kernel_rfl
 i9:=by kernel_rfl
 i20:=by kernel_rfl
 i21:=by kernel_rfl
 i37:=by kernel_rfl
 i46:=by kernel_rfl
 i51:=by kernel_rfl
 i53:=by kernel_rfl
 i75:=by kernel_rfl
 i76:=by kernel_rfl
 i80:=by kernel_rfl
 i85:=by kernel_rfl
 i127:=by kernel_rfl
 i143:=by kernel_rfl
 i145:=by kernel_rfl
 i167:=by kernel_rfl
 i168:=by kernel_rfl
 i171:=by kernel_rfl
 i173:=by kernel_rfl
 i175:=by kernel_rfl
 i210:=by kernel_rfl
 i212:=by kernel_rfl
 i232:=by kernel_rfl
 i233:=by kernel_rfl
 m15:=by kernel_rfl
 m16:=by kernel_rfl
 m17:=by kernel_rfl
 m18:=by kernel_rfl
 m19:=by kernel_rfl
 c0:=by kernel_rfl
 c2:=by kernel_rfl
 c3:=by kernel_rfl
 c4:=by kernel_rfl
 c5:=by kernel_rfl
 c9:=by kernel_rfl
 c20:=by kernel_rfl
 c21:=by kernel_rfl
 c37:=by kernel_rfl
 c46:=by kernel_rfl
 c51:=by kernel_rfl
 c53:=by kernel_rfl
 c75:=by kernel_rfl
 c76:=by kernel_rfl
 c80:=by kernel_rfl
 c85:=by kernel_rfl
 c127:=by kernel_rfl
 c143:=by kernel_rfl
 c145:=by kernel_rfl
 c167:=by kernel_rfl
 c168:=by kernel_rfl
 c171:=by kernel_rfl
 c173:=by kernel_rfl
 c175:=by kernel_rfl
 c210:=by kernel_rfl
 c212:=by kernel_rfl
 c213:=by kernel_rfl
 c232:=by kernel_rfl
 c233:=by kernel_rfl}
theorem vas_str{w:World}{X:Cx}{H:Heap}{l:List UInt8}{vs:Array Value}(h:VAs w X H [txt l] vs):vs= #[.string ⟨l.toArray⟩]:=by
 obtain⟨hs,hv⟩:=h
 obtain⟨u,hu1,hu2⟩:=hv 0 (by simp)
 have hu:u= .string ⟨l.toArray⟩:=va_str hu2
 subst hu
 apply Array.ext'
 have hl:vs.toList.length=1:=by simpa using hs
 obtain⟨x,hx⟩:=List.length_eq_one_iff.1 hl
 have:vs.toList[0]? =some (.string ⟨l.toArray⟩):=by rw[Array.getElem?_toList];exact hu1
 rw[hx]at this⊢
 simpa using this
theorem vas_pair{w:World}{X:Cx}{H:Heap}{a b:AV}{x y:Value}{vs:Array Value}(h:VAs w X H [a,b] vs)(ha:∀u,VA w X H a u→u=x)(hb:∀u,VA w X H b u→u=y):vs= #[x,y]:=by
 obtain⟨hs,hv⟩:=h
 obtain⟨u,hu1,hu2⟩:=hv 0 (by simp)
 obtain⟨v,hv1,hv2⟩:=hv 1 (by simp)
 have e1:=ha u hu2
 have e2:=hb v hv2
 subst e1 e2
 obtain⟨l⟩:=vs
 match l,hs,hu1,hv1 with
 |[p,q],_,t1,t2=>
  simp at t1 t2
  rw[t1,t2]
theorem below_grow{w w':World}(h:Go.RowKit.Below w.heap.size w w'):Grow w w':=⟨h.block,h.size,h.os,h.tape,h.output⟩
theorem IndexOne_run(l:List UInt8)(c:UInt8):Reads Tryd.prog 84 [txt l,txt [c]] (int (Go.Lib.indexByte l c)):=by
 intro w X vs hH hvs
 have e:=vas_pair hvs (fun u h=>va_str h) (fun u h=>va_str h)
 subst e
 refine(Any.stringslite_Index_one idxLays ⟨l.toArray⟩ c w).mono fun e w' ⟨he,hw⟩=> ?_
 subst hw
 exact⟨int (Go.Lib.indexByte l c),_,X,[],he, .c _ _ (VF.int _ _),hH,Ev.refl _ _ _,rfl⟩
theorem IndexByte_run(l:List UInt8)(n:Int):Reads Tryd.prog 32 [txt l,byte n] (int (Go.Lib.indexByte l n.toNat.toUInt8)):=by
 intro w X vs hH hvs
 have e:=vas_pair hvs (fun u h=>va_str h) (fun u h=>va_int h)
 subst e
 refine(Any.strings_IndexByte ibLays ⟨l.toArray⟩ n w).mono fun e w' ⟨he,hw⟩=> ?_
 subst hw
 exact⟨int (Go.Lib.indexByte l n.toNat.toUInt8),_,X,[],he, .c _ _ (VF.int _ _),hH,Ev.refl _ _ _,rfl⟩
theorem va_pair{w:World}{X:Cx}{H:Heap}{a b:AV}{x y:Value}(ha:VA w X H a x)(hb:VA w X H b y):VA w X H (.tup [a,b]) (.tuple #[x,y]):=by
 have:=VA.tup (w:=w) (X:=X) (H:=H) [a,b] (fun i=>if i=0 then x else y) fun j hj=>by
  match j,hj with
  |0,_=>exact ha
  |1,_=>exact hb
 exact this
theorem Atoi_run(l:List UInt8)(hl:l.length≤18):Reads Tryd.prog 33 [txt l] (.tup [int ((Go.Lib.atoi l).getD 0), .any]):=by
 intro w X vs hH hvs
 have e:=vas_str hvs
 subst e
 cases ha:Go.Lib.atoi l with
 |some n=>
  refine(Any.strconv_Atoi atoiLays ⟨l.toArray⟩ n hl (by simpa using ha) w).mono fun e w' ⟨he,t,hw⟩=> ?_
  subst hw
  have hg:=below_grow (Go.Lib.bytesWorld_below w (atoiLays_ren.t 5) t)
  exact⟨.tup [int n, .any],_,X,[],he,va_pair (.c _ _ (VF.int _ _)) (.any _),hg.rel hH,hg.ev hH,rfl⟩
 |none=>
  obtain⟨_,t,o,v,h1,h2⟩:=hH.tab.2 1 rfl
  refine(Any.strconv_Atoi_err atoiErrLays ⟨l.toArray⟩ hl (by simpa using ha) v w (by simp[World.cell?,atoiErrLays_ren,h1]) h2).mono fun e w' ⟨N,he,_,_,hb⟩=> ?_
  have hg:=below_grow hb
  exact⟨.tup [int 0, .any],_,X,[],he,va_pair (.c _ _ (VF.int _ _)) (.any _),hg.rel hH,hg.ev hH,rfl⟩
end Go.Lg

namespace Go.Lg
open Go.Proofs
theorem ib_cases(c:UInt8):∀l:List UInt8,(∀b∈l,b≠c)∨∃a r,l=a++c::r∧∀b∈a,b≠c
 |[]=> .inl (by simp)
 |b::l=>by
  by_cases hb:b=c
  · exact .inr ⟨[],l,by rw[hb];rfl,by simp⟩
  · rcases ib_cases c l with h|⟨a,r,rfl,h⟩
    · exact .inl fun x hx=>by rcases List.mem_cons.1 hx with rfl|hx;exact hb;exact h x hx
    · exact .inr ⟨b::a,r,rfl,fun x hx=>by rcases List.mem_cons.1 hx with rfl|hx;exact hb;exact h x hx⟩
theorem ib_bound(c:UInt8)(l:List UInt8): -1≤Go.Lib.indexByte l c∧Go.Lib.indexByte l c<l.length:=by
 rcases ib_cases c l with h|⟨a,r,rfl,h⟩
 · rw[ib_no h];omega
 · rw[ib_hit h];simp;omega
theorem sCut_run(l:List UInt8)(c:UInt8)(hl:l.length≤2^40):Reads Tryd.prog 64 [txt l,txt [c]] (.tup [txt (Go.Lib.cut l [c]).1,txt (Go.Lib.cut l [c]).2.1,bool (Go.Lib.cut l [c]).2.2]):=by
 refine RunCall.cw (c:=_) Tryd.func64 rfl (n:=23) Tryd.ntmps64 (rs:=[.tmp 4, .tmp 5, .tmp 6]) rfl ?_
 simp only[List.length_cons,List.length_nil,zA,zS,List.replicate,List.cons_append,List.nil_append]
 simp(maxSteps:=999999)(disch:=omega)only[go_sem,zA,zM,zS,zE,zL]
 first|refine OpS.rd (IndexOne_run l c) (⟨_,Tryd.func84,rfl,rfl⟩:Enters Tryd.prog 84) rfl rfl rfl rfl ?_|refine Loud.rd (IndexOne_run l c) (⟨_,Tryd.func84,rfl,rfl⟩:Enters Tryd.prog 84) rfl rfl rfl rfl ?_
 simp(maxSteps:=999999)(disch:=omega)only[go_sem,zA,zM,zS,zE,zL]
 rcases ib_cases c l with h|⟨a,r,rfl,h⟩
 · rw[cut_no h]
   have e:=ib_no h
   simp(maxSteps:=999999)(disch:=omega)only[go_sem,zA,zM,zS,zE,zL,e]
   ((first|(with_reducible first|refine condK_dec ?_ ?_|refine condK_ndec ?_ ?_|refine condK_nb ?_ ?_)|refine condK_b ?_ ?_)<;>intro c0)
   · exfalso;omega
   simp(maxSteps:=999999)(disch:=omega)only[go_sem,zA,zM,zS,zE,zL]
 · rw[cut_hit h]
   have e:=ib_hit (r:=r) h
   simp(maxSteps:=999999)(disch:=omega)only[go_sem,zA,zM,zS,zE,zL,e]
   ((first|(with_reducible first|refine condK_dec ?_ ?_|refine condK_ndec ?_ ?_|refine condK_nb ?_ ?_)|refine condK_b ?_ ?_)<;>intro c0)
   rotate_left
   · exfalso;omega
   have hla:(a++c::r).length=a.length+r.length+1:=by simp;omega
   have e1:sub (a++c::r) 0 (a.length:Int)=a:=by rw[sub_take,List.take_left' rfl]
   have e4:cutT (a++c::r) ((a.length:Int)+((1:Nat):Int)).toNat (a.length+(r.length+1))=some (txt r):=by
    have h1:((a.length:Int)+((1:Nat):Int)).toNat=a.length+1:=by omega
    have h2:(a++c::r).drop (a.length+1)=r:=by rw[List.drop_append];simp
    unfold cutT
    rw[h1,if_pos ⟨by omega,by simp⟩,h2,List.take_of_length_le (by omega)]
   refine drawP_q foll (by kernel_rfl) ?_
   simp(maxSteps:=999999)(disch:=omega)only[go_sem,Nat.reduceBEq,Bool.true_or,zA,zM,zS,zE,zL]
   simp(maxSteps:=999999)(disch:=omega)only[go_sem,zA,zM,zS,zE,zL,e1,e4]
theorem Cut_run(l:List UInt8)(c:UInt8)(hl:l.length≤2^40):Reads Tryd.prog 31 [txt l,txt [c]] (.tup [txt (Go.Lib.cut l [c]).1,txt (Go.Lib.cut l [c]).2.1,bool (Go.Lib.cut l [c]).2.2]):=by
 refine RunCall.cw (c:=_) Tryd.func31 rfl (n:=13) Tryd.ntmps31 (rs:=[.tmp 4, .tmp 5, .tmp 6]) rfl ?_
 simp only[List.length_cons,List.length_nil,zA,zS,List.replicate,List.cons_append,List.nil_append]
 simp(maxSteps:=999999)(disch:=omega)only[go_sem,zA,zM,zS,zE,zL]
 first|refine OpS.rd (sCut_run l c hl) (⟨_,Tryd.func64,rfl,rfl⟩:Enters Tryd.prog 64) rfl rfl rfl rfl ?_|refine Loud.rd (sCut_run l c hl) (⟨_,Tryd.func64,rfl,rfl⟩:Enters Tryd.prog 64) rfl rfl rfl rfl ?_
 simp(maxSteps:=999999)(disch:=omega)only[go_sem,zA,zM,zS,zE,zL]
def readQ(r:Rul)(b:Bool):KV:=fun v H=>∃c S,v= .tup [.agg [.f (.int .i64 r.kind),c, .f (.int .i64 r.val)],bool b]∧OwnI H c r.cells S
theorem readQ_no(H:Heap):lessQ H (readQ zeroR false) (.tup [.agg [.f (.int .i64 0), .f (.sl 0 []), .f (.int .i64 0)],bool false]):=⟨H,HLe.refl _,_,[],rfl, .e⟩
theorem chr_u8(l:List UInt8)(i:Nat):(chr l i).toNat.toUInt8=l.getD i 0:=by simp[chr]
def cellsR(cs:List UInt8):List Int:=cs.tail.map fun b=>(b.toNat:Int) -97
def rdH(K:Int)(g0 g1:Nat)(L:List Int)(k g:Nat):Heap:=match k with
 |0=>[some ⟨g0,3,[.f (.int .i64 0), .f .nil, .f (.int .i64 0)]⟩,some ⟨g1,3,[.f (.int .i64 (K+1)), .f .nil, .f (.int .i64 0)]⟩]
 |k+1=>[some ⟨g0,3,[.f (.int .i64 0), .f .nil, .f (.int .i64 0)]⟩,some ⟨g1,3,[.f (.int .i64 (K+1)), .own 3 g 0 (k+1) none, .f (.int .i64 0)]⟩,none,some ⟨g,1,cl (eI .i64) (L.take (k+1))⟩]
set_option maxHeartbeats 2000000 in
theorem ReadRule_run(s:List UInt8)(hs:s.length≤2^40):RunCall Tryd.prog 9 [txt s] [] (readQ (readR s) (readRB s)):=by
 obtain⟨⟨cs,vs,fb⟩,hcut⟩:∃x,Go.Lib.cut s [61]=x:=⟨_,rfl⟩
 have hL:accL s↔2≤cs.length∧cs.length≤5∧vs.length≤3:=by unfold accL;rw[hcut]
 have hrd:rdR s=⟨Go.Lib.indexByte [100,115,112,108,97] (cs.getD 0 0)+1,cellsR cs,(Go.Lib.atoi vs).getD 0⟩:=by unfold rdR cellsR;rw[hcut]
 have hno:¬accL s→readR s=zeroR∧readRB s=false:=fun h=>read_no fun h'=>h h'.1
 refine RunCall.nz ?_
 refine RunCall.cw (c:=_) Tryd.func9 rfl (n:=62) Tryd.ntmps9 (rs:=[.cell 2 24, .tmp 3]) rfl ?_
 simp only[List.length_cons,List.length_nil,zA,zS,List.replicate,List.cons_append,List.nil_append]
 simp(maxSteps:=999999)(disch:=omega)only[go_sem,zA,zM,zS,zE,zL]
 intro g0
 first|refine OpS.rd (Cut_run s 61 hs) (⟨_,Tryd.func31,rfl,rfl⟩:Enters Tryd.prog 31) rfl rfl rfl rfl ?_|refine Loud.rd (Cut_run s 61 hs) (⟨_,Tryd.func31,rfl,rfl⟩:Enters Tryd.prog 31) rfl rfl rfl rfl ?_
 simp(maxSteps:=999999)(disch:=omega)only[go_sem,zA,zM,zS,zE,zL]
 simp(maxSteps:=999999)(disch:=omega)only[go_sem,zA,zM,zS,zE,zL,hcut]
 ((with_reducible first|refine guardK_dec ?_ ?_|refine guardK_ndec ?_ ?_|refine guardK_nb ?_ ?_|refine guardK_split ?_ ?_|refine guardQ_dec ?_ ?_|refine guardL_dec ?_ ?_|refine guardQ_ndec ?_ ?_|refine guardL_ndec ?_ ?_|refine guardQ_nb ?_ ?_|refine guardL_nb ?_ ?_|refine guardQ_split ?_ ?_|refine guardL_split ?_ ?_)<;>intro h1<;>simp(maxSteps:=999999)(disch:=omega)only[go_sem,zA,zM,zS,zE,zL,h1])
 · obtain⟨e1,e2⟩:=hno (by rw[hL];omega)
   rw[e1,e2]
   exact readQ_no _
 ((with_reducible first|refine guardK_dec ?_ ?_|refine guardK_ndec ?_ ?_|refine guardK_nb ?_ ?_|refine guardK_split ?_ ?_|refine guardQ_dec ?_ ?_|refine guardL_dec ?_ ?_|refine guardQ_ndec ?_ ?_|refine guardL_ndec ?_ ?_|refine guardQ_nb ?_ ?_|refine guardL_nb ?_ ?_|refine guardQ_split ?_ ?_|refine guardL_split ?_ ?_)<;>intro h2<;>simp(maxSteps:=999999)(disch:=omega)only[go_sem,zA,zM,zS,zE,zL,h2])
 · obtain⟨e1,e2⟩:=hno (by rw[hL];omega)
   rw[e1,e2]
   exact readQ_no _
 ((first|(with_reducible first|refine condK_dec ?_ ?_|refine condK_ndec ?_ ?_|refine condK_nb ?_ ?_)|refine condK_b ?_ ?_)<;>intro h3)
 · simp(maxSteps:=999999)(disch:=omega)only[go_sem,zA,zM,zS,zE,zL]
   obtain⟨e1,e2⟩:=hno (by rw[hL];omega)
   rw[e1,e2]
   exact readQ_no _
 have hac:accL s:=hL.2 (by omega)
 simp(maxSteps:=999999)(disch:=omega)only[go_sem,zA,zM,zS,zE,zL]
 first|refine OpS.rd (IndexByte_run [100,115,112,108,97] (chr cs 0)) (⟨_,Tryd.func32,rfl,rfl⟩:Enters Tryd.prog 32) rfl rfl rfl rfl ?_|refine Loud.rd (IndexByte_run [100,115,112,108,97] (chr cs 0)) (⟨_,Tryd.func32,rfl,rfl⟩:Enters Tryd.prog 32) rfl rfl rfl rfl ?_
 simp(maxSteps:=999999)(disch:=omega)only[go_sem,zA,zM,zS,zE,zL]
 have hib:=ib_bound ((chr cs 0).toNat.toUInt8) [100,115,112,108,97]
 rw[show(chr cs 0).toNat.toUInt8=cs.getD 0 0 from chr_u8 cs 0]at hib⊢
 simp only[List.length_cons,List.length_nil]at hib
 generalize hK:Go.Lib.indexByte [100,115,112,108,97] (cs.getD 0 0)=K at hib hrd⊢
 simp(maxSteps:=999999)(disch:=omega)only[go_sem,zA,zM,zS,zE,zL]
 intro g1
 have hCl:(cellsR cs).length=cs.length -1:=by simp[cellsR]
 have hCn:∀k:Nat,k+1<cs.length→nth (cellsR cs) k=chr cs ((k:Int)+1) -97:=fun k hk=>by
  rw[nth_eq (by omega)]
  simp[cellsR,chr]
  rw[List.getElem?_eq_getElem hk]
  rfl
 have hCb:∀e:Int,0≤chr cs e∧chr cs e≤255:=chr_bound cs
 refine loop_rule2 (fun(k g:Nat)=>cs.length -k) (fun k g=>k+1≤cs.length) (fun k g=>[.k, .a, .k, .a, .k, .k, .a, .k, .p (int (k+1)), .a, .a, .a, .a, .a, .a, .a, .a, .a, .a, .a, .a, .a, .a, .a, .a, .a, .a, .a, .a, .a, .a, .a, .a, .a, .a, .a, .a, .a, .a, .a, .a, .a, .a, .a, .a, .a, .a, .a, .a, .a, .a, .a, .a, .a, .a, .a, .a, .a, .a, .a, .a, .a]) (rdH K g0 g1 (cellsR cs)) 0 0
  (by omega) (by simp(maxSteps:=999999)(disch:=omega)only[go_sem,zA,zM,zS,zE,zL];rfl) (HLe.refl _) ?_
 rintro k g hk
 simp(maxSteps:=999999)(disch:=omega)only[go_sem,zA,zM,zS,zE,zL]
 ((first|(with_reducible first|refine condK_dec ?_ ?_|refine condK_ndec ?_ ?_|refine condK_nb ?_ ?_)|refine condK_b ?_ ?_)<;>intro c1)
 · have hcb:=hCb ((k:Int)+1)
   have hcn:=hCn k (by omega)
   have htk:=take_succ_nth (xs:=cellsR cs) (i:=k) (by omega)
   rw[hcn]at htk
   rcases k with _|k
   · simp only[rdH]
     simp(maxSteps:=999999)(disch:=omega)only[go_sem,zA,zM,zS,zE,zL]
     refine drawP_lF [0,1,2,3,4,5,6,7] [] none [8,9,10] [] foll (by kernel_rfl) ?_
     simp(maxSteps:=999999)(disch:=omega)only[go_sem,Nat.reduceBEq,Bool.true_or,zA,zM,zS,zE,zL]
     intro g3 g4
     exact⟨1,g4,⟨by omega,by omega⟩,by omega,hle_self _ _ _ (hle_self _ _ _ (hle_none _ _ _ (hle_eq (by rw[htk];rfl) (hle_nil _))))⟩
   · simp only[rdH]
     simp(maxSteps:=999999)(disch:=omega)only[go_sem,zA,zM,zS,zE,zL]
     refine drawP_lF [0,1,2,3,4,5,6,7] [] none [8,9,10] [] foll (by kernel_rfl) ?_
     simp(maxSteps:=999999)(disch:=omega)only[go_sem,Nat.reduceBEq,Bool.true_or,zA,zM,zS,zE,zL]
     intro g3 g4
     exact⟨k+1+1,g4,⟨by omega,by omega⟩,by omega,hle_self _ _ _ (hle_self _ _ _ (hle_self _ _ _ (hle_eq (by rw[htk]) (hle_nil _))))⟩
 obtain⟨k,rfl⟩:∃j,k=j+1:=⟨k -1,by omega⟩
 simp only[rdH]
 simp(maxSteps:=999999)(disch:=omega)only[go_sem,zA,zM,zS,zE,zL]
 have hkl:(cellsR cs).take (k+1)=cellsR cs:=List.take_of_length_le (by omega)
 have hkc:(cellsR cs).length=k+1:=by omega
 rw[hkl]
 first|refine OpS.mk (Atoi_run vs (by omega)) (⟨_,Tryd.func33,rfl,rfl⟩:Enters Tryd.prog 33) rfl rfl rfl rfl rfl ?_|refine Loud.mk (Atoi_run vs (by omega)) (⟨_,Tryd.func33,rfl,rfl⟩:Enters Tryd.prog 33) rfl rfl rfl rfl rfl ?_
 simp(maxSteps:=999999)(disch:=omega)only[go_sem,zA,zM,zS,zE,zL]
 rw[show k+1=(cellsR cs).length from hkc.symm]
 obtain⟨HF,hHF⟩:∃HF:Heap,HF=[some ⟨g0,3,[.f (.int .i64 0), .f .nil, .f (.int .i64 0)]⟩,some ⟨g1,3,[.f (.int .i64 (K+1)), .own 3 g 0 (cellsR cs).length none, .f (.int .i64 ((Go.Lib.atoi vs).getD 0))]⟩,none,some ⟨g,1,cl (eI .i64) (cellsR cs)⟩]:=⟨_,rfl⟩
 have l0:look HF 0 g0=some ⟨g0,3,[.f (.int .i64 0), .f .nil, .f (.int .i64 0)]⟩:=by rw[hHF];simp[look]
 have l1:look HF 1 g1=some ⟨g1,3,[.f (.int .i64 (K+1)), .own 3 g 0 (cellsR cs).length none, .f (.int .i64 ((Go.Lib.atoi vs).getD 0))]⟩:=by rw[hHF];simp[look]
 have l3:look HF 3 g=some ⟨g,1,cl (eI .i64) (cellsR cs)⟩:=by rw[hHF];simp[look]
 have hlt:0<HF.length:=by rw[hHF];simp
 rw[←hHF]
 clear hHF
 have hown:OwnI HF (.own 3 g 0 (cellsR cs).length none) (cellsR cs) [3]:=OwnI.o (H:=HF) 3 g none (cellsR cs) [] (by rw[List.append_nil];exact l3)
 have hfr:=hown.frzC
 have hsn:snapD HF (.agg [.f (.int .i64 (K+1)), .own 3 g 0 (cellsR cs).length none, .f (.int .i64 ((Go.Lib.atoi vs).getD 0))])=some (aR (rdR s)):=by
  have e1:frzC HF (.f (.int .i64 (K+1)))=some (.f (.int .i64 (K+1))):=rfl
  have e2:frzC HF (.f (.int .i64 ((Go.Lib.atoi vs).getD 0)))=some (.f (.int .i64 ((Go.Lib.atoi vs).getD 0))):=rfl
  simp only[snapD,List.mapM_cons,List.mapM_nil,hfr,e1,e2,Option.pure_def,Option.bind_eq_bind,Option.bind_some,Option.map_some,hrd]
 have hcl:(rdR s).cells.length≤2^40:=by rw[hrd];show(cellsR cs).length≤_;omega
 refine OpS.rdD (RuleText_run (rdR s) hcl) (⟨_,Tryd.func19,rfl,rfl⟩:Enters Tryd.prog 19) rfl rfl (snap_one hsn) rfl ?_
 have hs0:∀cs,look (HF.set 0 (some ⟨g0,3,cs⟩)) 0 g0=some ⟨g0,3,cs⟩:=fun cs=>look_set_eq' hlt
 by_cases hacc:ruleT (rdR s)=s
 · have d:=decide_eq_true hacc
   have ha:accR s:=⟨hac,hacc⟩
   simp(maxSteps:=999999)(disch:=omega)only[go_sem,zA,zM,zS,zE,zL,d,l1,l0,hs0]
   rw[show readR s=rdR s by unfold readR;rw[if_pos ha],show readRB s=true from decide_eq_true ha]
   refine⟨_,HLe.refl _, .own 3 g 0 (cellsR cs).length none,[3],by rw[hrd], ?_⟩
   rw[show(rdR s).cells=cellsR cs by rw[hrd]]
   exact hown.same fun i hi=>by
    have:i=3:=by simpa using hi
    subst this
    rw[List.getElem?_set_ne (by omega)]
 · have d:=decide_eq_false hacc
   obtain⟨e1,e2⟩:=read_no (s:=s) fun h=>hacc h.2
   rw[e1,e2]
   simp(maxSteps:=999999)(disch:=omega)only[go_sem,zA,zM,zS,zE,zL,d,l0,hs0]
   exact readQ_no _
end Go.Lg
