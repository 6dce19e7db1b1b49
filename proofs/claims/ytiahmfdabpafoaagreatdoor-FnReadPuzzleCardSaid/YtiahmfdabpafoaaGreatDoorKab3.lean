/- LgT3, GpXS, LgV, cut to what is needed. -/
import Derived.Test.YtiahmfdabpafoaaGreatDoorKab2
import Derived.Shelf.Strconv.Itoa0
import Derived.Shelf.Strconv.Itoa1
import Derived.Shelf.LaysM
import Derived.Shelf.Strconv.Itoa2
import Derived.Shelf.Strconv.Itoa3
open List renaming getElem?_append_left → Jb, cons_append → Jc, nil_append → Jd, length_cons → Jf, replicate → Jg, length_nil → Jl, getElem?_append_right → JN
open Nat renaming reduceAdd→zA,reduceMul→zM,reduceSub→zS,reduceEqDiff→zE,reduceLeDiff→zL
set_option linter.unusedSimpArgs false
set_option linter.unusedVariables false
set_option maxRecDepth 100000
namespace Go.Lg
open Go.Proofs
def Qk(xs:List Int)(n:Int):List UInt8:=if J9 xs n then u8 (48+n)::58::xs.map GF else[]
theorem Qz{xs:List Int}{n:Int}(h:J9 xs n=true):2≤n∧n≤4∧(xs.length:Int)=n*n∧xs.length≤16∧∀j:Nat,j<xs.length→0≤JM xs j∧JM xs j≤n:=by
 simp only[J9,decide_eq_true_eq]at h
 refine⟨h.1,h.2.1,h.2.2.1, ?_,h.2.2.2⟩
 have:n=2∨n=3∨n=4:=by omega
 rcases this with rfl|rfl|rfl<;>omega
theorem Vg(xs:List Int)(n:Int)(hx:xs.length≤2^40):Qd Tryz.prog 17 [ZY xs,int n] (Um (Qk xs n)):=by
 refine Jq.cw (c:=_) Tryz.func17 rfl (n:=17) Tryz.ntmps17 (rs:=[.tmp 4]) rfl ?_
 simp only[Jf,Jl,zA,zS,Jg,Jc,Jd]
 simp(maxSteps:=999999)(disch:=omega)only[go_sem,zA,zM,zS,zE,zL]
 refine Qh.rd (Ub xs n (by omega)) (⟨_,Tryz.func31,rfl,rfl⟩:Jm Tryz.prog 31) rfl rfl rfl rfl ?_
 simp(maxSteps:=999999)(disch:=omega)only[go_sem,zA,zM,zS,zE,zL]
 refine QB (fun h=> ?_) (fun h=> ?_)
 · simp(maxSteps:=999999)(disch:=omega)only[go_sem,zA,zM,zS,zE,zL]
   simp at h
   simp[Qk,h]
 have h:J9 xs n=true:=by simpa using h
 obtain⟨h1,h2,h3,h4,h5⟩:=Qz h
 simp(maxSteps:=999999)(disch:=omega)only[go_sem,zA,zM,zS,zE,zL]
 refine Q7 Zr (by kernel_rfl) ?_
 simp(maxSteps:=999999)(disch:=omega)only[go_sem,Nat.reduceBEq,Bool.true_or,zA,zM,zS,zE,zL]
 refine QI.rd (BW xs (by omega) fun j hj=>by have:=h5 j hj;omega) (⟨_,Tryz.func42,rfl,rfl⟩:Jm Tryz.prog 42) rfl rfl rfl rfl ?_
 simp(maxSteps:=999999)(disch:=omega)only[go_sem,zA,zM,zS,zE,zL]
 simp[Qk,h,show u8 58=58 from rfl]
theorem QF(v a b:Int):Qd Tryz.prog 45 [int v,int a,int b] (bool (decide (a≤v∧v≤b))):=by
 refine Jq.cw (c:=_) Tryz.func45 rfl (n:=15) Tryz.ntmps45 (rs:=[.tmp 6]) rfl ?_
 simp only[Jf,Jl,zA,zS,Jg,Jc,Jd]
 simp(maxSteps:=999999)(disch:=omega)only[go_sem,zA,zM,zS,zE,zL]
 refine Jx (fun h=> ?_) (fun h=> ?_)<;>simp(maxSteps:=999999)(disch:=omega)only[go_sem,zA,zM,zS,zE,zL,h]<;>simp at h<;>simp[h]
 omega
theorem Q4(xs:List Int)(n:Int)(hx:xs.length≤2^40):Qd Tryz.prog 22 [ZY xs,int n] (bool (J9 xs n)):=by
 refine Jq.cw (c:=_) Tryz.func22 rfl (n:=29) Tryz.ntmps22 (rs:=[.tmp 4]) rfl ?_
 simp only[Jf,Jl,zA,zS,Jg,Jc,Jd]
 simp(maxSteps:=999999)(disch:=omega)only[go_sem,zA,zM,zS,zE,zL]
 refine Qw (fun i:Nat=>xs.length -i) (fun i=>i≤xs.length∧∀j:Nat,j<i→0≤JM xs j∧JM xs j≤n) (fun i=>[.k, .k, .a, .a, .a, .p (int i), .a, .a, .a, .a, .a, .a, .a, .a, .a, .a, .a, .a, .a, .a, .a, .a, .a, .a, .a, .a, .a, .a, .a]) (fun i=>[]) 0
  ⟨Nat.zero_le _,fun j hj=>absurd hj (Nat.not_lt_zero _)⟩ (by simp(maxSteps:=999999)(disch:=omega)only[go_sem,zA,zM,zS,zE,zL];rfl) (J8 _) ?_
 rintro i ⟨hi,hall⟩
 simp(maxSteps:=999999)(disch:=omega)only[go_sem,zA,zM,zS,zE,zL]
 refine QB (fun h=> ?_) (fun h=> ?_)
 · have h:i<xs.length:=by simpa using h
   simp(maxSteps:=999999)(disch:=omega)only[go_sem,zA,zM,zS,zE,zL]
   refine Qh.rd (QF _ _ _) (⟨_,Tryz.func45,rfl,rfl⟩:Jm Tryz.prog 45) rfl rfl rfl rfl ?_
   simp(maxSteps:=999999)(disch:=omega)only[go_sem,zA,zM,zS,zE,zL]
   refine QB (fun h2=> ?_) (fun h2=> ?_)<;>simp(maxSteps:=999999)(disch:=omega)only[go_sem,zA,zM,zS,zE,zL]
   · simp at h2
     symm;simp[J9];intro _ _ _;exact⟨i,h,fun h=>by omega⟩
   simp at h2
   refine⟨i+1,⟨⟨h,fun j hj=> ?_⟩,by omega⟩,by omega,J8 _⟩
   rcases Nat.lt_succ_iff_lt_or_eq.1 hj with h|rfl
   · exact hall j h
   · exact h2
 have h:¬i<xs.length:=by simpa using h
 simp(maxSteps:=999999)(disch:=omega)only[go_sem,zA,zM,zS,zE,zL]
 refine Qh.rd (QF _ _ _) (⟨_,Tryz.func45,rfl,rfl⟩:Jm Tryz.prog 45) rfl rfl rfl rfl ?_
 simp(maxSteps:=999999)(disch:=omega)only[go_sem,zA,zM,zS,zE,zL]
 refine Jx (fun h2=> ?_) (fun h2=> ?_)<;>simp(maxSteps:=999999)(disch:=omega)only[go_sem,zA,zM,zS,zE,zL,h2]
 · have h2:2≤n∧n≤4:=by simpa using h2
   have hw:4≤n*n∧n*n≤16:=by
    have:n=2∨n=3∨n=4:=by omega
    rcases this with rfl|rfl|rfl<;>decide
   simp(maxSteps:=999999)(disch:=omega)only[go_sem,zA,zM,zS,zE,zL]
   simp only[J9,h2,true_and,decide_eq_decide]
   exact⟨fun h3=>⟨h3,fun j hj=>hall j (by omega)⟩,fun h3=>h3.1⟩
 · simp at h2
   symm;simp[J9];omega
theorem VX(xs:List Int)(n:Int)(hx:xs.length≤2^40):Qd Tryz.prog 19 [ZY xs,int n] (Um (Qk xs n)):=by
 refine Jq.cw (c:=_) Tryz.func19 rfl (n:=41) Tryz.ntmps19 (rs:=[.tmp 4]) rfl ?_
 simp only[Jf,Jl,zA,zS,Jg,Jc,Jd]
 simp(maxSteps:=999999)(disch:=omega)only[go_sem,zA,zM,zS,zE,zL]
 refine Qh.rd (Q4 xs n (by omega)) (⟨_,Tryz.func22,rfl,rfl⟩:Jm Tryz.prog 22) rfl rfl rfl rfl ?_
 simp(maxSteps:=999999)(disch:=omega)only[go_sem,zA,zM,zS,zE,zL]
 refine QB (fun h=> ?_) (fun h=> ?_)
 · simp(maxSteps:=999999)(disch:=omega)only[go_sem,zA,zM,zS,zE,zL]
   simp at h
   simp[Qk,h]
 have h:J9 xs n=true:=by simpa using h
 obtain⟨h1,h2,h3,h4,h5⟩:=Qz h
 simp(maxSteps:=999999)(disch:=omega)only[go_sem,zA,zM,zS,zE,zL]
 intro g1
 refine Qw (fun i:Nat=>xs.length -i) (fun i=>i≤xs.length) (fun i=>[.k, .a, .a, .a, .a, .p (Um (u8 (48+n)::58::(xs.take i).map GF)), .p (int i), .a, .a, .a, .a, .a, .a, .a, .a, .a, .a, .a, .a, .a, .a, .a, .a, .a, .a, .a, .a, .a, .a, .a, .a, .a, .a, .a, .a, .a, .a, .a, .a, .a, .a]) (fun _=>[]) 0
  (Nat.zero_le _) (by simp(maxSteps:=999999)(disch:=omega)only[go_sem,zA,zM,zS,zE,zL];rfl) (J8 _) ?_
 intro i hi
 simp(maxSteps:=999999)(disch:=omega)only[go_sem,zA,zM,zS,zE,zL]
 refine QB (fun h=> ?_) (fun h=> ?_)
 · have h:i<xs.length:=by simpa using h
   have h5:=h5 i h
   simp(maxSteps:=999999)(disch:=omega)only[go_sem,zA,zM,zS,zE,zL]
   refine QB (fun h6=> ?_) (fun h6=> ?_)<;>simp at h6<;>simp(maxSteps:=999999)(disch:=omega)only[go_sem,zA,zM,zS,zE,zL]
   · exact⟨i+1,⟨h,by omega⟩,⟨by rw[JX h];simp[GF,chI,h6];rfl,by omega⟩,J8 _⟩
   · intro g2
     exact⟨i+1,⟨h,by omega⟩,⟨by rw[JX h];simp[GF,chI,h6],by omega⟩,J8 _⟩
 have h:i=xs.length:=by have:¬i<xs.length:=by simpa using h
                        omega
 subst h
 simp(maxSteps:=999999)(disch:=omega)only[go_sem,zA,zM,zS,zE,zL]
 simp[Qk, *]
end Go.Lg

namespace Go.Lg
open Go.Proofs Go.Shelf
def Gq:Go.Shelf.Ren:=⟨fun|171=>43|243=>61|246=>74|283=>89|284=>90|285=>91|286=>92|129=>103|317=>102|318=>104|319=>105|320=>106|337=>112|338=>113|n=>n,fun|3=>3|9=>9|2=>2|4=>4|171=>104|0=>0|53=>105|37=>22|5=>5|173=>108|212=>119|51=>120|20=>20|213=>121|46=>110|232=>139|233=>140|n=>n,fun|17=>3|18=>6|19=>7|n=>n⟩
theorem Je4:Go.Proofs.LaysM.n171 Tryz.prog Gq:={
 mixed:=by kernel_rfl
 f129:=Tryz.func103.trans (congrArg some (by kernel_rfl))
 f171:=Tryz.func43.trans (congrArg some (by kernel_rfl))
 f243:=Tryz.func61.trans (congrArg some (by kernel_rfl))
 f246:=Tryz.func74.trans (congrArg some (by kernel_rfl))
 f283:=Tryz.func89.trans (congrArg some (by kernel_rfl))
 f284:=Tryz.func90.trans (congrArg some (by kernel_rfl))
 f285:=Tryz.func91.trans (congrArg some (by kernel_rfl))
 f286:=Tryz.func92.trans (congrArg some (by kernel_rfl))
 f317:=Tryz.func102.trans (congrArg some (by kernel_rfl))
 f318:=Tryz.func104.trans (congrArg some (by kernel_rfl))
 f319:=Tryz.func105.trans (congrArg some (by kernel_rfl))
 f320:=Tryz.func106.trans (congrArg some (by kernel_rfl))
 f337:=Tryz.func112.trans (congrArg some (by kernel_rfl))
 f338:=Tryz.func113.trans (congrArg some (by kernel_rfl))
 t0:=Tryz.underlying0
 a0:=Tryz.isAgg0
 z0:=Tryz.sizeOf0
 v0:=Tryz.zeroValue0
 t2:=Tryz.underlying2
 a2:=Tryz.isAgg2
 z2:=Tryz.sizeOf2
 v2:=Tryz.zeroValue2
 t3:=Tryz.underlying3
 a3:=Tryz.isAgg3
 z3:=Tryz.sizeOf3
 v3:=Tryz.zeroValue3
 t4:=Tryz.underlying4
 a4:=Tryz.isAgg4
 z4:=Tryz.sizeOf4
 v4:=Tryz.zeroValue4
 t5:=Tryz.underlying5
 a5:=Tryz.isAgg5
 z5:=Tryz.sizeOf5
 v5:=Tryz.zeroValue5
 t9:=Tryz.underlying9
 a9:=Tryz.isAgg9
 z9:=Tryz.sizeOf9
 v9:=Tryz.zeroValue9
 t20:=Tryz.underlying20
 a20:=Tryz.isAgg20
 z20:=Tryz.sizeOf20
 v20:=Tryz.zeroValue20
 t37:=Tryz.underlying22
 a37:=Tryz.isAgg22
 z37:=Tryz.sizeOf22
 v37:=Tryz.zeroValue22
 t46:=Tryz.underlying110
 a46:=Tryz.isAgg110
 z46:=Tryz.sizeOf110
 v46:=Tryz.zeroValue110
 t51:=Tryz.underlying120
 a51:=Tryz.isAgg120
 z51:=Tryz.sizeOf120
 v51:=Tryz.zeroValue120
 t53:=Tryz.underlying105
 a53:=Tryz.isAgg105
 z53:=Tryz.sizeOf105
 v53:=Tryz.zeroValue105
 t171:=Tryz.underlying104
 a171:=Tryz.isAgg104
 z171:=Tryz.sizeOf104
 v171:=Tryz.zeroValue104
 t173:=Tryz.underlying108
 a173:=Tryz.isAgg108
 z173:=Tryz.sizeOf108
 v173:=Tryz.zeroValue108
 t212:=Tryz.underlying119
 a212:=Tryz.isAgg119
 z212:=Tryz.sizeOf119
 v212:=Tryz.zeroValue119
 t213:=Tryz.underlying121
 a213:=Tryz.isAgg121
 z213:=Tryz.sizeOf121
 t232:=Tryz.underlying139
 a232:=Tryz.isAgg139
 z232:=Tryz.sizeOf139
 v232:=Tryz.zeroValue139
 t233:=Tryz.underlying140
 a233:=Tryz.isAgg140
 z233:=Tryz.sizeOf140
 v233:=Tryz.zeroValue140
 g17:=by kernel_rfl
 g18:=by kernel_rfl
 g19:=by kernel_rfl
 i0:=by kernel_rfl
 i2:=by kernel_rfl
 i3:=by kernel_rfl
 i4:=by kernel_rfl
 i5:=by kernel_rfl
 i9:=by kernel_rfl
 i20:=by kernel_rfl
 i37:=by kernel_rfl
 i46:=by kernel_rfl
 i51:=by kernel_rfl
 i53:=by kernel_rfl
 i171:=by kernel_rfl
 i173:=by kernel_rfl
 i212:=by kernel_rfl
 i232:=by kernel_rfl
 i233:=by kernel_rfl
 m17:=by kernel_rfl
 m18:=by kernel_rfl
 m19:=by kernel_rfl}
theorem Ja8(n:Int)(h0: -9223372036854775808≤n)(h1:n≤9223372036854775807)(w:World)(htab:Go.Lib.TabIs Tryz.prog w "internal/strconv.uint64pow10" .u64 Go.Lib.pow10Tab):
 Calls Tryz.prog 43 #[.int .i64 n] w fun e w'=>e= .returned (.string ⟨(Go.Lib.itoa n).toArray⟩)∧∃k os,w'=Go.Sort.grow (w.drewN k) os:=Any.strconv_Itoa Je4 n h0 h1 w htab
theorem Jc1:Program.globalNamed Tryz.prog "internal/strconv.uint64pow10" =some 3:=by kernel_rfl
theorem Je2{w:World}{I:Nat→Prop}(h:Bx w I):Go.Lib.TabIs Tryz.prog w "internal/strconv.uint64pow10" .u64 Go.Lib.pow10Tab:=by
 obtain⟨_,_,cc,t,o,h1,h2⟩:=h.1 3 _ rfl
 unfold Go.Lib.TabIs World.var?
 rw[Jc1]
 simp only[Option.bind_some,h1]
 have e:cc=(Go.Lib.pow10Tab.map fun z=>Value.int .u64 z).toArray:=by
  apply Array.ext'
  rw[h2]
  rfl
 rw[e]
theorem Jde(w:World)(k:Nat)(os:Array Obj):Za w (Go.Sort.grow (w.drewN k) os):=by
 refine⟨fun b hb=> ?_, ?_,rfl,rfl,rfl⟩
 · show(w.heap++os)[b]? =w.heap[b]?
   rw[Array.getElem?_append_left hb]
 · show w.heap.size≤(w.heap++os).size
   simp
theorem JfW(i:Int)(h0: -9223372036854775808≤i)(h1:i≤9223372036854775807):Qd Tryz.prog 43 [int i] (Um (Go.Lib.itoa i)):=by
 intro w X vs hH hvs
 obtain⟨hs,hv⟩:=hvs
 obtain⟨u,hu1,hu2⟩:=hv 0 (by simp)
 have e:vs= #[.int .i64 i]:=by
  have hu:u= .int .i64 i:=ZL hu2
  subst hu
  apply Array.ext'
  have hl:vs.toList.length=1:=by simpa using hs
  obtain⟨x,hx⟩:=List.length_eq_one_iff.1 hl
  have:vs.toList[0]? =some (.int .i64 i):=by rw[Array.getElem?_toList];exact hu1
  rw[hx]at this⊢
  simpa using this
 subst e
 refine(Ja8 i h0 h1 w (Je2 hH.tab)).mono fun e w' ⟨he,k,os,hw⟩=> ?_
 subst hw
 have hg:=Jde w k os
 exact⟨Um (Go.Lib.itoa i),_,X,[],he, .c _ _ (VF.str _),hg.rel hH,hg.ev hH,rfl⟩
end Go.Lg

namespace Go.Lg
open Go.ChangeShapes Go.WideShapes Go.ChangeAt Go.RowKit
def CsF(w:World)(I:Nat→Prop)(ys:List FV)(cs:List Value):Prop:=
 ys.length=cs.length∧∀j (h:j<ys.length),∃u,cs[j]? =some u∧VF w I ys[j] u
section
variable{w:World}{I:Nat→Prop}
theorem CsF.nil:CsF w I [] []:=⟨rfl,fun j h=>absurd h (Nat.not_lt_zero _)⟩
theorem CsF.one{y:FV}{v:Value}(h:VF w I y v):CsF w I [y] [v]:=⟨rfl,fun j hj=>by
 have:j=0:=by simpa using hj
 subst this;exact⟨v,rfl,h⟩⟩
theorem CsF.app{ys ys':List FV}{cs cs':List Value}(h:CsF w I ys cs)(h':CsF w I ys' cs'):CsF w I (ys++ys') (cs++cs'):=by
 refine⟨by simp[h.1,h'.1],fun j hj=> ?_⟩
 by_cases hl:j<ys.length
 · obtain⟨u,h1,h2⟩:=h.2 j hl
   refine⟨u,by rw[Jb (by rw[←h.1];exact hl)];exact h1, ?_⟩
   rw[List.getElem_append_left hl];exact h2
 · have hj':j -ys.length<ys'.length:=by simp at hj;omega
   obtain⟨u,h1,h2⟩:=h'.2 _ hj'
   refine⟨u,by rw[JN (by rw[←h.1];omega),←h.1];exact h1, ?_⟩
   rw[List.getElem_append_right (by omega)];exact h2
end
section
variable{H:Type}{enc:TypeId×Value→H}{P:Program}{W:World}
theorem CsF.agg{ys:List FV}{cs:Array Value}(h:CsF W (Cx.base W).I ys cs.toList):VA W (Cx.base W) [] (.agg (ys.map .f)) (.agg cs):=by
 refine .agg _ _ (by simpa using h.1.symm) fun j hj=> ?_
 have hj':j<ys.length:=by simpa using hj
 obtain⟨u,h1,h2⟩:=h.2 j hj'
 refine⟨u,by simpa using h1, ?_⟩
 rw[List.getElem_map];exact h2
theorem CsF.val{y:FV}{v:Value}(h:CsF W (Cx.base W).I [y] [v]):VA W (Cx.base W) [] (.c (.f y)) v:=by
 obtain⟨u,h1,h2⟩:=h.2 0 (by simp)
 have:v=u:=by simpa using h1
 subst this
 exact .c _ _ h2
end
end Go.Lg
