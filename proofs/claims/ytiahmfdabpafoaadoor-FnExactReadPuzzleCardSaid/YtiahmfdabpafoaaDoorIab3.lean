/- LgT3, GpXS, LgV, cut to what is needed. -/
import Derived.Test.YtiahmfdabpafoaaDoorIab2
import Derived.Shelf.Strconv.Itoa0
import Derived.Shelf.Strconv.Itoa1
import Derived.Shelf.LaysM
import Derived.Shelf.Strconv.Itoa2
import Derived.Shelf.Strconv.Itoa3
open Nat renaming reduceAdd→zA,reduceMul→zM,reduceSub→zS,reduceEqDiff→zE,reduceLeDiff→zL
set_option linter.unusedSimpArgs false
set_option linter.unusedVariables false
set_option maxRecDepth 100000
namespace Go.Lg
open Go.Proofs
def gridText(xs:List Int)(n:Int):List UInt8:=if gridValid xs n then u8 (48+n)::58::xs.map chOf else[]
theorem gridValid_bound{xs:List Int}{n:Int}(h:gridValid xs n=true):2≤n∧n≤4∧(xs.length:Int)=n*n∧xs.length≤16∧∀j:Nat,j<xs.length→0≤nth xs j∧nth xs j≤n:=by
 simp only[gridValid,decide_eq_true_eq]at h
 refine⟨h.1,h.2.1,h.2.2.1, ?_,h.2.2.2⟩
 have:n=2∨n=3∨n=4:=by omega
 rcases this with rfl|rfl|rfl<;>omega
theorem GridText_run(xs:List Int)(n:Int)(hx:xs.length≤2^40):Reads Tryd.prog 57 [ints xs,int n] (txt (gridText xs n)):=by
 refine RunCall.cw (c:=_) Tryd.func57 rfl (n:=17) Tryd.ntmps57 (rs:=[.tmp 4]) rfl ?_
 simp only[List.length_cons,List.length_nil,zA,zS,List.replicate,List.cons_append,List.nil_append]
 simp(maxSteps:=999999)(disch:=omega)only[go_sem,zA,zM,zS,zE,zL]
 refine OpS.rd (GridValid_run xs n (by omega)) (⟨_,Tryd.func69,rfl,rfl⟩:Enters Tryd.prog 69) rfl rfl rfl rfl ?_
 simp(maxSteps:=999999)(disch:=omega)only[go_sem,zA,zM,zS,zE,zL]
 refine condK_split (fun h=> ?_) (fun h=> ?_)
 · simp(maxSteps:=999999)(disch:=omega)only[go_sem,zA,zM,zS,zE,zL]
   simp at h
   simp[gridText,h]
 have h:gridValid xs n=true:=by simpa using h
 obtain⟨h1,h2,h3,h4,h5⟩:=gridValid_bound h
 simp(maxSteps:=999999)(disch:=omega)only[go_sem,zA,zM,zS,zE,zL]
 refine drawP_q foll (by kernel_rfl) ?_
 simp(maxSteps:=999999)(disch:=omega)only[go_sem,Nat.reduceBEq,Bool.true_or,zA,zM,zS,zE,zL]
 refine quietW.rd (cellsText_run xs (by omega) fun j hj=>by have:=h5 j hj;omega) (⟨_,Tryd.func79,rfl,rfl⟩:Enters Tryd.prog 79) rfl rfl rfl rfl ?_
 simp(maxSteps:=999999)(disch:=omega)only[go_sem,zA,zM,zS,zE,zL]
 simp[gridText,h,show u8 58=58 from rfl]
theorem l1In_run(v a b:Int):Reads Tryd.prog 72 [int v,int a,int b] (bool (decide (a≤v∧v≤b))):=by
 refine RunCall.cw (c:=_) Tryd.func72 rfl (n:=15) Tryd.ntmps72 (rs:=[.tmp 6]) rfl ?_
 simp only[List.length_cons,List.length_nil,zA,zS,List.replicate,List.cons_append,List.nil_append]
 simp(maxSteps:=999999)(disch:=omega)only[go_sem,zA,zM,zS,zE,zL]
 refine guardK_split (fun h=> ?_) (fun h=> ?_)<;>simp(maxSteps:=999999)(disch:=omega)only[go_sem,zA,zM,zS,zE,zL,h]<;>simp at h<;>simp[h]
 omega
theorem sGridValid_run(xs:List Int)(n:Int)(hx:xs.length≤2^40):Reads Tryd.prog 59 [ints xs,int n] (bool (gridValid xs n)):=by
 refine RunCall.cw (c:=_) Tryd.func59 rfl (n:=29) Tryd.ntmps59 (rs:=[.tmp 4]) rfl ?_
 simp only[List.length_cons,List.length_nil,zA,zS,List.replicate,List.cons_append,List.nil_append]
 simp(maxSteps:=999999)(disch:=omega)only[go_sem,zA,zM,zS,zE,zL]
 refine loop_rule (fun i:Nat=>xs.length -i) (fun i=>i≤xs.length∧∀j:Nat,j<i→0≤nth xs j∧nth xs j≤n) (fun i=>[.k, .k, .a, .a, .a, .p (int i), .a, .a, .a, .a, .a, .a, .a, .a, .a, .a, .a, .a, .a, .a, .a, .a, .a, .a, .a, .a, .a, .a, .a]) (fun i=>[]) 0
  ⟨Nat.zero_le _,fun j hj=>absurd hj (Nat.not_lt_zero _)⟩ (by simp(maxSteps:=999999)(disch:=omega)only[go_sem,zA,zM,zS,zE,zL];rfl) (hle_nil _) ?_
 rintro i ⟨hi,hall⟩
 simp(maxSteps:=999999)(disch:=omega)only[go_sem,zA,zM,zS,zE,zL]
 refine condK_split (fun h=> ?_) (fun h=> ?_)
 · have h:i<xs.length:=by simpa using h
   simp(maxSteps:=999999)(disch:=omega)only[go_sem,zA,zM,zS,zE,zL]
   refine OpS.rd (l1In_run _ _ _) (⟨_,Tryd.func72,rfl,rfl⟩:Enters Tryd.prog 72) rfl rfl rfl rfl ?_
   simp(maxSteps:=999999)(disch:=omega)only[go_sem,zA,zM,zS,zE,zL]
   refine condK_split (fun h2=> ?_) (fun h2=> ?_)<;>simp(maxSteps:=999999)(disch:=omega)only[go_sem,zA,zM,zS,zE,zL]
   · simp at h2
     symm;simp[gridValid];intro _ _ _;exact⟨i,h,fun h=>by omega⟩
   simp at h2
   refine⟨i+1,⟨⟨h,fun j hj=> ?_⟩,by omega⟩,by omega,hle_nil _⟩
   rcases Nat.lt_succ_iff_lt_or_eq.1 hj with h|rfl
   · exact hall j h
   · exact h2
 have h:¬i<xs.length:=by simpa using h
 simp(maxSteps:=999999)(disch:=omega)only[go_sem,zA,zM,zS,zE,zL]
 refine OpS.rd (l1In_run _ _ _) (⟨_,Tryd.func72,rfl,rfl⟩:Enters Tryd.prog 72) rfl rfl rfl rfl ?_
 simp(maxSteps:=999999)(disch:=omega)only[go_sem,zA,zM,zS,zE,zL]
 refine guardK_split (fun h2=> ?_) (fun h2=> ?_)<;>simp(maxSteps:=999999)(disch:=omega)only[go_sem,zA,zM,zS,zE,zL,h2]
 · have h2:2≤n∧n≤4:=by simpa using h2
   have hw:4≤n*n∧n*n≤16:=by
    have:n=2∨n=3∨n=4:=by omega
    rcases this with rfl|rfl|rfl<;>decide
   simp(maxSteps:=999999)(disch:=omega)only[go_sem,zA,zM,zS,zE,zL]
   simp only[gridValid,h2,true_and,decide_eq_decide]
   exact⟨fun h3=>⟨h3,fun j hj=>hall j (by omega)⟩,fun h3=>h3.1⟩
 · simp at h2
   symm;simp[gridValid];omega
theorem sGridText_run(xs:List Int)(n:Int)(hx:xs.length≤2^40):Reads Tryd.prog 58 [ints xs,int n] (txt (gridText xs n)):=by
 refine RunCall.cw (c:=_) Tryd.func58 rfl (n:=41) Tryd.ntmps58 (rs:=[.tmp 4]) rfl ?_
 simp only[List.length_cons,List.length_nil,zA,zS,List.replicate,List.cons_append,List.nil_append]
 simp(maxSteps:=999999)(disch:=omega)only[go_sem,zA,zM,zS,zE,zL]
 refine OpS.rd (sGridValid_run xs n (by omega)) (⟨_,Tryd.func59,rfl,rfl⟩:Enters Tryd.prog 59) rfl rfl rfl rfl ?_
 simp(maxSteps:=999999)(disch:=omega)only[go_sem,zA,zM,zS,zE,zL]
 refine condK_split (fun h=> ?_) (fun h=> ?_)
 · simp(maxSteps:=999999)(disch:=omega)only[go_sem,zA,zM,zS,zE,zL]
   simp at h
   simp[gridText,h]
 have h:gridValid xs n=true:=by simpa using h
 obtain⟨h1,h2,h3,h4,h5⟩:=gridValid_bound h
 simp(maxSteps:=999999)(disch:=omega)only[go_sem,zA,zM,zS,zE,zL]
 intro g1
 refine loop_rule (fun i:Nat=>xs.length -i) (fun i=>i≤xs.length) (fun i=>[.k, .a, .a, .a, .a, .p (txt (u8 (48+n)::58::(xs.take i).map chOf)), .p (int i), .a, .a, .a, .a, .a, .a, .a, .a, .a, .a, .a, .a, .a, .a, .a, .a, .a, .a, .a, .a, .a, .a, .a, .a, .a, .a, .a, .a, .a, .a, .a, .a, .a, .a]) (fun _=>[]) 0
  (Nat.zero_le _) (by simp(maxSteps:=999999)(disch:=omega)only[go_sem,zA,zM,zS,zE,zL];rfl) (hle_nil _) ?_
 intro i hi
 simp(maxSteps:=999999)(disch:=omega)only[go_sem,zA,zM,zS,zE,zL]
 refine condK_split (fun h=> ?_) (fun h=> ?_)
 · have h:i<xs.length:=by simpa using h
   have h5:=h5 i h
   simp(maxSteps:=999999)(disch:=omega)only[go_sem,zA,zM,zS,zE,zL]
   refine condK_split (fun h6=> ?_) (fun h6=> ?_)<;>simp at h6<;>simp(maxSteps:=999999)(disch:=omega)only[go_sem,zA,zM,zS,zE,zL]
   · exact⟨i+1,⟨h,by omega⟩,⟨by rw[take_succ_nth h];simp[chOf,chI,h6];rfl,by omega⟩,hle_nil _⟩
   · intro g2
     exact⟨i+1,⟨h,by omega⟩,⟨by rw[take_succ_nth h];simp[chOf,chI,h6],by omega⟩,hle_nil _⟩
 have h:i=xs.length:=by have:¬i<xs.length:=by simpa using h
                        omega
 subst h
 simp(maxSteps:=999999)(disch:=omega)only[go_sem,zA,zM,zS,zE,zL]
 simp[gridText, *]
end Go.Lg

namespace Go.Lg
open Go.Proofs Go.Shelf
def itoaLays_ren:Go.Shelf.Ren:=⟨fun|171=>47|243=>71|246=>95|283=>116|284=>117|285=>118|286=>119|129=>132|317=>131|318=>133|319=>134|320=>135|337=>141|338=>142|n=>n,fun|3=>3|9=>9|2=>2|4=>4|171=>119|0=>0|53=>109|37=>37|5=>5|173=>122|212=>137|51=>128|20=>20|213=>138|46=>108|232=>151|233=>152|n=>n,fun|17=>3|18=>6|19=>7|n=>n⟩
theorem itoaLays:Go.Proofs.LaysM.n171 Tryd.prog itoaLays_ren:={
 mixed:=by kernel_rfl
 f129:=Tryd.func132.trans (congrArg some (by kernel_rfl))
 f171:=Tryd.func47.trans (congrArg some (by kernel_rfl))
 f243:=Tryd.func71.trans (congrArg some (by kernel_rfl))
 f246:=Tryd.func95.trans (congrArg some (by kernel_rfl))
 f283:=Tryd.func116.trans (congrArg some (by kernel_rfl))
 f284:=Tryd.func117.trans (congrArg some (by kernel_rfl))
 f285:=Tryd.func118.trans (congrArg some (by kernel_rfl))
 f286:=Tryd.func119.trans (congrArg some (by kernel_rfl))
 f317:=Tryd.func131.trans (congrArg some (by kernel_rfl))
 f318:=Tryd.func133.trans (congrArg some (by kernel_rfl))
 f319:=Tryd.func134.trans (congrArg some (by kernel_rfl))
 f320:=Tryd.func135.trans (congrArg some (by kernel_rfl))
 f337:=Tryd.func141.trans (congrArg some (by kernel_rfl))
 f338:=Tryd.func142.trans (congrArg some (by kernel_rfl))
 t0:=Tryd.underlying0
 a0:=Tryd.isAgg0
 z0:=Tryd.sizeOf0
 v0:=Tryd.zeroValue0
 t2:=Tryd.underlying2
 a2:=Tryd.isAgg2
 z2:=Tryd.sizeOf2
 v2:=Tryd.zeroValue2
 t3:=Tryd.underlying3
 a3:=Tryd.isAgg3
 z3:=Tryd.sizeOf3
 v3:=Tryd.zeroValue3
 t4:=Tryd.underlying4
 a4:=Tryd.isAgg4
 z4:=Tryd.sizeOf4
 v4:=Tryd.zeroValue4
 t5:=Tryd.underlying5
 a5:=Tryd.isAgg5
 z5:=Tryd.sizeOf5
 v5:=Tryd.zeroValue5
 t9:=Tryd.underlying9
 a9:=Tryd.isAgg9
 z9:=Tryd.sizeOf9
 v9:=Tryd.zeroValue9
 t20:=Tryd.underlying20
 a20:=Tryd.isAgg20
 z20:=Tryd.sizeOf20
 v20:=Tryd.zeroValue20
 t37:=Tryd.underlying37
 a37:=Tryd.isAgg37
 z37:=Tryd.sizeOf37
 v37:=Tryd.zeroValue37
 t46:=Tryd.underlying108
 a46:=Tryd.isAgg108
 z46:=Tryd.sizeOf108
 v46:=Tryd.zeroValue108
 t51:=Tryd.underlying128
 a51:=Tryd.isAgg128
 z51:=Tryd.sizeOf128
 v51:=Tryd.zeroValue128
 t53:=Tryd.underlying109
 a53:=Tryd.isAgg109
 z53:=Tryd.sizeOf109
 v53:=Tryd.zeroValue109
 t171:=Tryd.underlying119
 a171:=Tryd.isAgg119
 z171:=Tryd.sizeOf119
 v171:=Tryd.zeroValue119
 t173:=Tryd.underlying122
 a173:=Tryd.isAgg122
 z173:=Tryd.sizeOf122
 v173:=Tryd.zeroValue122
 t212:=Tryd.underlying137
 a212:=Tryd.isAgg137
 z212:=Tryd.sizeOf137
 v212:=Tryd.zeroValue137
 t213:=Tryd.underlying138
 a213:=Tryd.isAgg138
 z213:=Tryd.sizeOf138
 t232:=Tryd.underlying151
 a232:=Tryd.isAgg151
 z232:=Tryd.sizeOf151
 v232:=Tryd.zeroValue151
 t233:=Tryd.underlying152
 a233:=Tryd.isAgg152
 z233:=Tryd.sizeOf152
 v233:=Tryd.zeroValue152
 g17:=by kernel_rfl
 g18:=by kernel_rfl
 g19:=by kernel_rfl
 i0:=by kernel_rfl
 i2:=by kernel_rfl
 i3:=by kernel_rfl
 i4:=by kernel_rfl
 i5:=by kernel_rfl
 i9:=by kernel_rfl
 i20:=by kernel_rfl
 i37:=by kernel_rfl
 i46:=by kernel_rfl
 i51:=by kernel_rfl
 i53:=by kernel_rfl
 i171:=by kernel_rfl
 i173:=by kernel_rfl
 i212:=by kernel_rfl
 i232:=by kernel_rfl
 i233:=by kernel_rfl
 m17:=by kernel_rfl
 m18:=by kernel_rfl
 m19:=by kernel_rfl}
theorem itoa_calls(n:Int)(h0: -9223372036854775808≤n)(h1:n≤9223372036854775807)(w:World)(htab:Go.Lib.TabIs Tryd.prog w "internal/strconv.uint64pow10" .u64 Go.Lib.pow10Tab):
 Calls Tryd.prog 47 #[.int .i64 n] w fun e w'=>e= .returned (.string ⟨(Go.Lib.itoa n).toArray⟩)∧∃k os,w'=Go.Sort.grow (w.drewN k) os:=Any.strconv_Itoa itoaLays n h0 h1 w htab
theorem itoa_glob:Program.globalNamed Tryd.prog "internal/strconv.uint64pow10" =some 3:=by kernel_rfl
theorem itoa_tab{w:World}{I:Nat→Prop}(h:TabR w I):Go.Lib.TabIs Tryd.prog w "internal/strconv.uint64pow10" .u64 Go.Lib.pow10Tab:=by
 obtain⟨_,_,cc,t,o,h1,h2⟩:=h.1 3 _ rfl
 unfold Go.Lib.TabIs World.var?
 rw[itoa_glob]
 simp only[Option.bind_some,h1]
 have e:cc=(Go.Lib.pow10Tab.map fun z=>Value.int .u64 z).toArray:=by
  apply Array.ext'
  rw[h2]
  rfl
 rw[e]
theorem grow_grow(w:World)(k:Nat)(os:Array Obj):Grow w (Go.Sort.grow (w.drewN k) os):=by
 refine⟨fun b hb=> ?_, ?_,rfl,rfl,rfl⟩
 · show(w.heap++os)[b]? =w.heap[b]?
   rw[Array.getElem?_append_left hb]
 · show w.heap.size≤(w.heap++os).size
   simp
theorem Itoa_run(i:Int)(h0: -9223372036854775808≤i)(h1:i≤9223372036854775807):Reads Tryd.prog 47 [int i] (txt (Go.Lib.itoa i)):=by
 intro w X vs hH hvs
 obtain⟨hs,hv⟩:=hvs
 obtain⟨u,hu1,hu2⟩:=hv 0 (by simp)
 have e:vs= #[.int .i64 i]:=by
  have hu:u= .int .i64 i:=va_int hu2
  subst hu
  apply Array.ext'
  have hl:vs.toList.length=1:=by simpa using hs
  obtain⟨x,hx⟩:=List.length_eq_one_iff.1 hl
  have:vs.toList[0]? =some (.int .i64 i):=by rw[Array.getElem?_toList];exact hu1
  rw[hx]at this⊢
  simpa using this
 subst e
 refine(itoa_calls i h0 h1 w (itoa_tab hH.tab)).mono fun e w' ⟨he,k,os,hw⟩=> ?_
 subst hw
 have hg:=grow_grow w k os
 exact⟨txt (Go.Lib.itoa i),_,X,[],he, .c _ _ (VF.str _),hg.rel hH,hg.ev hH,rfl⟩
end Go.Lg

namespace Go.Lg
open Go.ChangeShapes Go.WideShapes Go.ChangeAt Go.RowKit
def CsF(w:World)(I:Nat→Prop)(ys:List FV)(cs:List Value):Prop:=
 ys.length=cs.length∧∀j (h:j<ys.length),∃u,cs[j]? =some u∧VF w I ys[j] u
section
variable{w:World}{I:Nat→Prop}
theorem CsF.nil:CsF w I [] []:=⟨rfl,fun j h=>absurd h (Nat.not_lt_zero _)⟩
theorem CsF.one{y:FV}{v:Value}(h:VF w I y v):CsF w I [y] [v]:=⟨rfl,fun j hj=>by
 have:j=0:=by simpa using hj
 subst this;exact⟨v,rfl,h⟩⟩
theorem CsF.app{ys ys':List FV}{cs cs':List Value}(h:CsF w I ys cs)(h':CsF w I ys' cs'):CsF w I (ys++ys') (cs++cs'):=by
 refine⟨by simp[h.1,h'.1],fun j hj=> ?_⟩
 by_cases hl:j<ys.length
 · obtain⟨u,h1,h2⟩:=h.2 j hl
   refine⟨u,by rw[List.getElem?_append_left (by rw[←h.1];exact hl)];exact h1, ?_⟩
   rw[List.getElem_append_left hl];exact h2
 · have hj':j -ys.length<ys'.length:=by simp at hj;omega
   obtain⟨u,h1,h2⟩:=h'.2 _ hj'
   refine⟨u,by rw[List.getElem?_append_right (by rw[←h.1];omega),←h.1];exact h1, ?_⟩
   rw[List.getElem_append_right (by omega)];exact h2
end
section
variable{H:Type}{enc:TypeId×Value→H}{P:Program}{W:World}
theorem CsF.agg{ys:List FV}{cs:Array Value}(h:CsF W (Cx.base W).I ys cs.toList):VA W (Cx.base W) [] (.agg (ys.map .f)) (.agg cs):=by
 refine .agg _ _ (by simpa using h.1.symm) fun j hj=> ?_
 have hj':j<ys.length:=by simpa using hj
 obtain⟨u,h1,h2⟩:=h.2 j hj'
 refine⟨u,by simpa using h1, ?_⟩
 rw[List.getElem_map];exact h2
theorem CsF.val{y:FV}{v:Value}(h:CsF W (Cx.base W).I [y] [v]):VA W (Cx.base W) [] (.c (.f y)) v:=by
 obtain⟨u,h1,h2⟩:=h.2 0 (by simp)
 have:v=u:=by simpa using h1
 subst this
 exact .c _ _ h2
end
end Go.Lg
