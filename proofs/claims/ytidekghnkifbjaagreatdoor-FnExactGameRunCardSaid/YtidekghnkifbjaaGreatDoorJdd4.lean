/- GpXS, GpVH, GpUA, GpYA, GpYB, GpYC, GpYE, GpSD, cut to what is needed. -/
import Derived.Test.YtidekghnkifbjaaGreatDoorJda9
import Derived.Shelf.Strconv.Itoa0
import Derived.Shelf.Strconv.Itoa1
import Derived.Shelf.LaysM
import Derived.Shelf.Strconv.Itoa2
import Derived.Shelf.Strconv.Itoa3
import Derived.Test.YtidekghnkifbjaaGreatDoorJdd1
import Derived.Test.YtidekghnkifbjaaGreatDoorJdd3
import Derived.Test.YtidekghnkifbjaaGreatDoorJdb7
import Derived.Test.YtidekghnkifbjaaGreatDoorJdd0
import Derived.Test.YtidekghnkifbjaaGreatDoorJdb8
import Derived.Test.YtidekghnkifbjaaGreatDoorJdc2
import Derived.Test.YtidekghnkifbjaaGreatDoorJdb2
import Derived.Test.YtidekghnkifbjaaGreatDoorJdb3
import Derived.Test.YtidekghnkifbjaaGreatDoorJdb5
import Derived.Test.YtidekghnkifbjaaGreatDoorJdd2
open List renaming length_cons → Ja, cons_append → Jb, getElem?_append_left → Jc, nil_append → Jd, length_nil → Je, replicate → Jf, getElem?_eq_some_iff → Jh, getElem?_set_ne → Ji, length_set → Jp, getElem?_eq_none → Ju, getElem?_take_of_lt → Jz, drop_zero → J1, mapM_cons → J3, mapM_nil → QB, all_cons → UZ, all_nil → V6
open Nat renaming reduceAdd→zA,reduceMul→zM,reduceSub→zS,reduceEqDiff→zE,reduceLeDiff→zL
set_option linter.unusedSimpArgs false
set_option linter.unusedVariables false
set_option maxRecDepth 100000
namespace Go.Lg
open Go.Proofs Go.Shelf
def Jbq:Go.Shelf.Ren:=⟨fun|171=>92|243=>123|246=>147|283=>160|284=>161|285=>162|286=>163|129=>168|317=>167|318=>169|319=>170|320=>171|337=>173|338=>174|n=>n,fun|3=>3|9=>9|2=>2|4=>4|171=>146|0=>0|53=>147|37=>22|5=>5|173=>150|212=>156|51=>154|20=>20|213=>157|46=>143|232=>158|233=>159|n=>n,fun|17=>0|18=>1|19=>2|n=>n⟩
theorem Jiu:Go.Proofs.LaysM.n171 Tryz.prog Jbq:={
 mixed:=by kernel_rfl
 f129:=Tryz.func168.trans (congrArg some (by kernel_rfl))
 f171:=Tryz.func92.trans (congrArg some (by kernel_rfl))
 f243:=Tryz.func123.trans (congrArg some (by kernel_rfl))
 f246:=Tryz.func147.trans (congrArg some (by kernel_rfl))
 f283:=Tryz.func160.trans (congrArg some (by kernel_rfl))
 f284:=Tryz.func161.trans (congrArg some (by kernel_rfl))
 f285:=Tryz.func162.trans (congrArg some (by kernel_rfl))
 f286:=Tryz.func163.trans (congrArg some (by kernel_rfl))
 f317:=Tryz.func167.trans (congrArg some (by kernel_rfl))
 f318:=Tryz.func169.trans (congrArg some (by kernel_rfl))
 f319:=Tryz.func170.trans (congrArg some (by kernel_rfl))
 f320:=Tryz.func171.trans (congrArg some (by kernel_rfl))
 f337:=Tryz.func173.trans (congrArg some (by kernel_rfl))
 f338:=Tryz.func174.trans (congrArg some (by kernel_rfl))
 t0:=Tryz.underlying0
 a0:=Tryz.isAgg0
 z0:=Tryz.sizeOf0
 v0:=Tryz.zeroValue0
 t2:=Tryz.underlying2
 a2:=Tryz.isAgg2
 z2:=Tryz.sizeOf2
 v2:=Tryz.zeroValue2
 t3:=Tryz.underlying3
 a3:=Tryz.isAgg3
 z3:=Tryz.sizeOf3
 v3:=Tryz.zeroValue3
 t4:=Tryz.underlying4
 a4:=Tryz.isAgg4
 z4:=Tryz.sizeOf4
 v4:=Tryz.zeroValue4
 t5:=Tryz.underlying5
 a5:=Tryz.isAgg5
 z5:=Tryz.sizeOf5
 v5:=Tryz.zeroValue5
 t9:=Tryz.underlying9
 a9:=Tryz.isAgg9
 z9:=Tryz.sizeOf9
 v9:=Tryz.zeroValue9
 t20:=Tryz.underlying20
 a20:=Tryz.isAgg20
 z20:=Tryz.sizeOf20
 v20:=Tryz.zeroValue20
 t37:=Tryz.underlying22
 a37:=Tryz.isAgg22
 z37:=Tryz.sizeOf22
 v37:=Tryz.zeroValue22
 t46:=Tryz.underlying143
 a46:=Tryz.isAgg143
 z46:=Tryz.sizeOf143
 v46:=Tryz.zeroValue143
 t51:=Tryz.underlying154
 a51:=Tryz.isAgg154
 z51:=Tryz.sizeOf154
 v51:=Tryz.zeroValue154
 t53:=Tryz.underlying147
 a53:=Tryz.isAgg147
 z53:=Tryz.sizeOf147
 v53:=Tryz.zeroValue147
 t171:=Tryz.underlying146
 a171:=Tryz.isAgg146
 z171:=Tryz.sizeOf146
 v171:=Tryz.zeroValue146
 t173:=Tryz.underlying150
 a173:=Tryz.isAgg150
 z173:=Tryz.sizeOf150
 v173:=Tryz.zeroValue150
 t212:=Tryz.underlying156
 a212:=Tryz.isAgg156
 z212:=Tryz.sizeOf156
 v212:=Tryz.zeroValue156
 t213:=Tryz.underlying157
 a213:=Tryz.isAgg157
 z213:=Tryz.sizeOf157
 t232:=Tryz.underlying158
 a232:=Tryz.isAgg158
 z232:=Tryz.sizeOf158
 v232:=Tryz.zeroValue158
 t233:=Tryz.underlying159
 a233:=Tryz.isAgg159
 z233:=Tryz.sizeOf159
 v233:=Tryz.zeroValue159
 g17:=by kernel_rfl
 g18:=by kernel_rfl
 g19:=by kernel_rfl
 i0:=by kernel_rfl
 i2:=by kernel_rfl
 i3:=by kernel_rfl
 i4:=by kernel_rfl
 i5:=by kernel_rfl
 i9:=by kernel_rfl
 i20:=by kernel_rfl
 i37:=by kernel_rfl
 i46:=by kernel_rfl
 i51:=by kernel_rfl
 i53:=by kernel_rfl
 i171:=by kernel_rfl
 i173:=by kernel_rfl
 i212:=by kernel_rfl
 i232:=by kernel_rfl
 i233:=by kernel_rfl
 m17:=by kernel_rfl
 m18:=by kernel_rfl
 m19:=by kernel_rfl}
theorem Jd9(n:Int)(h0: -9223372036854775808≤n)(h1:n≤9223372036854775807)(w:World)(htab:Go.Lib.TabIs Tryz.prog w "internal/strconv.uint64pow10" .u64 Go.Lib.pow10Tab):
 Calls Tryz.prog 92 #[.int .i64 n] w fun e w'=>e= .returned (.string ⟨(Go.Lib.itoa n).toArray⟩)∧∃k os,w'=Go.Sort.grow (w.drewN k) os:=Any.strconv_Itoa Jiu n h0 h1 w htab
theorem Jgi:Program.globalNamed Tryz.prog "internal/strconv.uint64pow10" =some 0:=by kernel_rfl
theorem Jis{w:World}{I:Nat→Prop}(h:Nw w I):Go.Lib.TabIs Tryz.prog w "internal/strconv.uint64pow10" .u64 Go.Lib.pow10Tab:=by
 obtain⟨_,_,cc,t,o,h1,h2⟩:=h.1 0 _ rfl
 unfold Go.Lib.TabIs World.var?
 rw[Jgi]
 simp only[Option.bind_some,h1]
 have e:cc=(Go.Lib.pow10Tab.map fun z=>Value.int .u64 z).toArray:=by
  apply Array.ext'
  rw[h2]
  rfl
 rw[e]
theorem Jgu(w:World)(k:Nat)(os:Array Obj):ZV w (Go.Sort.grow (w.drewN k) os):=by
 refine⟨fun b hb=> ?_, ?_,rfl,rfl,rfl⟩
 · show(w.heap++os)[b]? =w.heap[b]?
   rw[Array.getElem?_append_left hb]
 · show w.heap.size≤(w.heap++os).size
   simp
theorem Jjm(i:Int)(h0: -9223372036854775808≤i)(h1:i≤9223372036854775807):JM Tryz.prog 92 [int i] (W0 (Go.Lib.itoa i)):=by
 intro w X vs hH hvs
 obtain⟨hs,hv⟩:=hvs
 obtain⟨u,hu1,hu2⟩:=hv 0 (by simp)
 have e:vs= #[.int .i64 i]:=by
  have hu:u= .int .i64 i:=Vn hu2
  subst hu
  apply Array.ext'
  have hl:vs.toList.length=1:=by simpa using hs
  obtain⟨x,hx⟩:=List.length_eq_one_iff.1 hl
  have:vs.toList[0]? =some (.int .i64 i):=by rw[Array.getElem?_toList];exact hu1
  rw[hx]at this⊢
  simpa using this
 subst e
 refine(Jd9 i h0 h1 w (Jis hH.tab)).mono fun e w' ⟨he,k,os,hw⟩=> ?_
 subst hw
 have hg:=Jgu w k os
 exact⟨W0 (Go.Lib.itoa i),_,X,[],he, .c _ _ (VF.str _),hg.rel hH,hg.ev hH,rfl⟩
end Go.Lg

namespace Go.Lg
open Go.Proofs
theorem Jit{v:Int}(h0:0≤v)(h9:v≤9):Go.Lib.itoa v=[u8 (48+v)]:=by
 unfold Go.Lib.itoa
 rw[if_neg (by omega),Go.Lib.decDigits,dif_pos (by omega)]
 unfold u8
 rw[show 48+v.toNat=(48+v).toNat by omega]
theorem JaS(i:Int)(h0:0≤i)(h9:i≤9):JM Tryz.prog 92 [int i] (W0 [u8 (48+i)]):=by
 rw[←Jit h0 h9]
 exact Jjm i (by omega) (by omega)
theorem JbR(h:Hnt):JM Tryz.prog 49 [aH h] (W0 (V8 h)):=by
 refine Jk.cw (c:=_) Tryz.func49 rfl (n:=48) Tryz.ntmps49 (rs:=[.tmp 2]) rfl ?_
 simp only[Ja,Je,zA,zS,Jf,Jb,Jd]
 simp(maxSteps:=999999)(disch:=omega)only[go_sem,zA,zM,zS,zE,zL]
 intro g
 have no:¬Jbt h→V8 h=[]:=fun hk=>by unfold V8;rw[if_neg hk]
 by_cases k1:h.tech<0
 · have d:decide (h.tech<0)=true:=decide_eq_true k1
   rw[no fun hk=>by have:=hk.1;omega]
   simp(maxSteps:=999999)(disch:=omega)only[go_sem,zA,zM,zS,zE,zL,d]
 have d1:decide (h.tech<0)=false:=decide_eq_false k1
 by_cases k2:4<h.tech
 · have d:decide (4<h.tech)=true:=decide_eq_true k2
   rw[no fun hk=>by have:=hk.1;omega]
   simp(maxSteps:=999999)(disch:=omega)only[go_sem,zA,zM,zS,zE,zL,d1,d]
 have d2:decide (4<h.tech)=false:=decide_eq_false k2
 by_cases k3:h.cell<0
 · have d:decide (h.cell<0)=true:=decide_eq_true k3
   rw[no fun hk=>by have:=hk.2.1;omega]
   simp(maxSteps:=999999)(disch:=omega)only[go_sem,zA,zM,zS,zE,zL,d1,d2,d]
 have d3:decide (h.cell<0)=false:=decide_eq_false k3
 by_cases k4:15<h.cell
 · have d:decide (15<h.cell)=true:=decide_eq_true k4
   rw[no fun hk=>by have:=hk.2.1;omega]
   simp(maxSteps:=999999)(disch:=omega)only[go_sem,zA,zM,zS,zE,zL,d1,d2,d3,d]
 have d4:decide (15<h.cell)=false:=decide_eq_false k4
 by_cases k5:h.val<1
 · have d:decide (h.val<1)=true:=decide_eq_true k5
   rw[no fun hk=>by have:=hk.2.2;omega]
   simp(maxSteps:=999999)(disch:=omega)only[go_sem,zA,zM,zS,zE,zL,d1,d2,d3,d4,d]
 have d5:decide (h.val<1)=false:=decide_eq_false k5
 by_cases k6:4<h.val
 · have d:decide (4<h.val)=true:=decide_eq_true k6
   rw[no fun hk=>by have:=hk.2.2;omega]
   simp(maxSteps:=999999)(disch:=omega)only[go_sem,zA,zM,zS,zE,zL,d1,d2,d3,d4,d5,d]
 have d6:decide (4<h.val)=false:=decide_eq_false k6
 have e:V8 h=JcU h:=by unfold V8;rw[if_pos ⟨by omega,by omega,by omega⟩]
 rw[e]
 unfold JcU
 simp(maxSteps:=999999)(disch:=omega)only[go_sem,zA,zM,zS,zE,zL,d1,d2,d3,d4,d5,d6]
 refine Zi ZE (by kernel_rfl) ?_
 simp(maxSteps:=999999)(disch:=omega)only[go_sem,Nat.reduceBEq,Bool.true_or,zA,zM,zS,zE,zL]
 refine QM.rd (JaS h.val (by omega) (by omega)) (⟨_,Tryz.func92,rfl,rfl⟩:Jg Tryz.prog 92) rfl rfl rfl rfl ?_
 simp(maxSteps:=999999)(disch:=omega)only[go_sem,zA,zM,zS,zE,zL]
 refine QM.rd (JaS h.tech (by omega) (by omega)) (⟨_,Tryz.func92,rfl,rfl⟩:Jg Tryz.prog 92) rfl rfl rfl rfl ?_
 simp(maxSteps:=999999)(disch:=omega)only[go_sem,zA,zM,zS,zE,zL]
end Go.Lg

namespace Go.Lg
open Go.Proofs
attribute [-go_sem] Qf J0
def X9(t:List UInt8):AV→AV:=fun v=> .tup [v,W0 t]
theorem Nd{H:Jn}{q q':QU}{t t':List UInt8}{cs:List CV}{S:List Nat}(hq:q'=q)(ht:t'=t)(h:UF H cs q S):Uo H (Wv (X9 t') q') (.tup [.agg cs,W0 t]):=by
 subst hq ht
 exact⟨H,J5.refl _,cs,S,rfl,h⟩
theorem JgA{H:Jn}{q':QU}{t':List UInt8}(hq:q'=ZQ)(ht:t'=[]):Uo H (nzQ (Wv (X9 t') q')) (.tup [.agg [.f (.int .i64 0), .f .nil, .f .nil, .f .nil, .f .nil],W0 []]):=by
 subst hq ht
 exact⟨H,J5.refl _,_,[],rfl,⟨⟨_,_,_,_,[],[],[],[],rfl,rfl, .e, .e, .e, .e⟩,by simp⟩⟩
section
variable{P:Program}{o:Oper}{st:St}{K:KV}{fo:Operand}{xs:Array Operand}{ts:Array TypeId}{f:FuncId}{args args':List AV}
theorem JU.mkDGT{q:QU}{t:List UInt8}(hc:Jk P f args' [] (Wv (X9 t) q))(he:Jg P f)(ho:o.op= .call ⟨.value fo,xs,ts⟩)(ha:Qb st fo xs=some (f,args))(hs:args.mapM (Zs st.h)=some args')
 (hk:∀cs H' S,UF (st.h++H') cs q S→(∀i∈S,st.h.length≤i∧i<st.h.length+H'.length)→K (.tup [.agg cs,W0 t]) (st.h++H')):JU P o st K:=
 JU.mkD (Jk.gamS hc) he ho ha hs fun r H' ⟨cs,S,h1,h2,h3,h4⟩=>by
  subst h1
  exact⟨⟨rfl,by simp only[X9,Lg.scal1,UZ,V6,Jal,h4,Bool.true_and,Bool.and_true];rfl,h3⟩,hk _ _ _ h2.shift (by rw[QI];exact ZX h2.lt)⟩
theorem JG.mkW{ops:Array Oper}{s:List AV}{H:Jn}{q:QU}{b:Bool}(hc:Jk P f args' [] (Wv (Yu b) q))(he:Jg P f)(ho:o.op= .call ⟨.value fo,xs,ts⟩)(ha:Qb ⟨s,H⟩ fo xs=some (f,args))(hs:args.mapM (Zs H)=some args')
 (hk:∀cs H' S,UF (H++H') cs q S→(∀i∈S,H.length≤i∧i<H.length+H'.length)→K (.tup [.agg cs,bool b]) (H++H')):JG P ops o s H K:=
 JG.call ho ha fun s' ha'=>JU.mkDGB (st:=⟨s',H⟩) hc he ho ha' hs hk
theorem JM.ownGT{q:QU}{t:List UInt8}(h:Jk P f args [] (Wv (X9 t) q)):JM P f args (.tup [aG q,W0 t]):=
 JM.ice h fun r H' ⟨c,S,h1,h2⟩=>by
  subst h1
  have:=h2.snap
  simp only[Zs]at this
  simp only[X9,Vu,J3,QB,XA,this,Option.pure_def,Option.bind_eq_bind,Option.bind_some,Option.map_some,frzC,frz]
end
theorem NZ{q:QU}{n:Nat}(h:UM q n)(hf:WE q.task (JY q)=false):XZ q.task (JY q)=false:=by
 cases hc:XZ q.task (JY q)with
 |false=>rfl
 |true=>
  have h1:=JiR h.pv (Na h) hc
  have hgv:Qc (JY q) q.task.size=true:=by
   have hz:q.task.size.toNat=n:=by have:=h.sz;omega
   have h2:=Na h
   rw[hz]at h2
   rw[h.sz]
   exact h2.valid h.pz.hn
  unfold WE at hf
  rw[h.pv,hgv,h1]at hf
  cases hf
theorem Jc8(b:Bool):JM Tryz.prog 47 [bool b] (W0 (if b=true then okT else noT)):=by
 refine Jk.cw (c:=_) Tryz.func47 rfl (n:=4) Tryz.ntmps47 (rs:=[.tmp 2]) rfl ?_
 simp only[Ja,Je,zA,zS,Jf,Jb,Jd]
 cases b with
 |true=>
  simp(maxSteps:=999999)(disch:=omega)only[go_sem,zA,zM,zS,zE,zL]
  rfl
 |false=>
  simp(maxSteps:=999999)(disch:=omega)only[go_sem,zA,zM,zS,zE,zL]
  rfl
theorem YT(s:List UInt8)(hs:s.length≤2^40)(h6:s.length=6):JM Tryz.prog 90 [W0 s,W0 [112,117,116,32]] (bool (decide (s.take 4=[112,117,116,32]))):=by
 have d:decide (((4:Nat):Int)≤(s.length:Int))=true:=decide_eq_true (by omega)
 have e:sub s 0 ((4:Nat):Int)=s.take 4:=rfl
 refine Jk.cw (c:=_) Tryz.func90 rfl (n:=18) Tryz.ntmps90 (rs:=[.tmp 4]) rfl ?_
 simp only[Ja,Je,zA,zS,Jf,Jb,Jd]
 simp(maxSteps:=999999)(disch:=omega)only[go_sem,zA,zM,zS,zE,zL,d,e]
theorem Wq(s:List UInt8)(hs:s.length≤2^40)(h6:s.length=6):JM Tryz.prog 45 [W0 s,W0 [112,117,116,32]] (bool (decide (s.take 4=[112,117,116,32]))):=by
 refine Jk.cw (c:=_) Tryz.func45 rfl (n:=8) Tryz.ntmps45 (rs:=[.tmp 4]) rfl ?_
 simp only[Ja,Je,zA,zS,Jf,Jb,Jd]
 simp(maxSteps:=999999)(disch:=omega)only[go_sem,zA,zM,zS,zE,zL]
 first|refine JU.rd (YT s hs h6) (⟨_,Tryz.func90,rfl,rfl⟩:Jg Tryz.prog 90) rfl rfl rfl rfl ?_|refine JG.rd (YT s hs h6) (⟨_,Tryz.func90,rfl,rfl⟩:Jg Tryz.prog 90) rfl rfl rfl rfl ?_
 simp(maxSteps:=999999)(disch:=omega)only[go_sem,zA,zM,zS,zE,zL]
set_option maxHeartbeats 4000000 in
theorem Bu(q:QU)(l:List UInt8)(hx:smG q)(hl:l.length≤2^40):Jk Tryz.prog 15 [aG q,W0 l] [] (Wv (X9 (UB q l)) (Zk q l)):=by
 cases hv:Qp q with
 |false=>
  have e1:Zk q l=ZQ:=by unfold Zk;rw[hv];rfl
  have e2:UB q l=[]:=by unfold UB;rw[hv];rfl
  rw[e1,e2]
  refine Jk.nz ?_
  refine Jk.cw (c:=_) Tryz.func15 rfl (n:=118) Tryz.ntmps15 (rs:=[.cell 4 28, .tmp 5]) rfl ?_
  simp only[Ja,Je,zA,zS,Jf,Jb,Jd]
  simp(maxSteps:=999999)(disch:=omega)only[go_sem,zA,zM,zS,zE,zL]
  intro g1 g2
  first|refine JU.rd (Zg q hx) (⟨_,Tryz.func34,rfl,rfl⟩:Jg Tryz.prog 34) rfl rfl rfl rfl ?_|refine JG.rd (Zg q hx) (⟨_,Tryz.func34,rfl,rfl⟩:Jg Tryz.prog 34) rfl rfl rfl rfl ?_
  simp(maxSteps:=999999)(disch:=omega)only[go_sem,zA,zM,zS,zE,zL]
  rw[hv]
  simp(maxSteps:=999999)(disch:=omega)only[go_sem,zA,zM,zS,zE,zL]
  exact JgA rfl rfl
 |true=>
 refine Jk.cw (c:=_) Tryz.func15 rfl (n:=118) Tryz.ntmps15 (rs:=[.cell 4 28, .tmp 5]) rfl ?_
 simp only[Ja,Je,zA,zS,Jf,Jb,Jd]
 simp(maxSteps:=999999)(disch:=omega)only[go_sem,zA,zM,zS,zE,zL]
 intro g1 g2
 first|refine JU.rd (Zg q hx) (⟨_,Tryz.func34,rfl,rfl⟩:Jg Tryz.prog 34) rfl rfl rfl rfl ?_|refine JG.rd (Zg q hx) (⟨_,Tryz.func34,rfl,rfl⟩:Jg Tryz.prog 34) rfl rfl rfl rfl ?_
 simp(maxSteps:=999999)(disch:=omega)only[go_sem,zA,zM,zS,zE,zL]
 rw[hv]
 have hgl:=KR hv
 have eG:Zk q l=if Y5 l then Zn q (XY l 4 -97) (XY l 5 -48)else if l=YE then Qz q else q:=by unfold Zk;rw[if_pos hv]
 have eT:UB q l=if Y5 l then(if Zc q (XY l 4 -97) (XY l 5 -48)=true then okT else noT)else if l=YE then(if QX q=true then okT else noT)else if l=Y6 then(if VZ q.task (JY q)=true then V8 (Vt q.task (JY q))else Je0)else if l=UL then Rq q else Rv:=by unfold UB;rw[if_pos hv]
 simp(maxSteps:=999999)(disch:=omega)only[go_sem,zA,zM,zS,zE,zL]
 refine JU.mkG (Bi q hx) (⟨_,Tryz.func44,rfl,rfl⟩:Jg Tryz.prog 44) rfl rfl rfl ?_
 intro cs H1 S1 hG1 hS1
 obtain⟨c1,c2,c3,c4,T1,T2,T3,T4,rfl,eS,k1,k2,k3,k4⟩:=hG1.ex
 simp only[Ja,Je,Jb,Jd]at hS1 hG1
 clear k1 k2 k3 k4 eS
 simp(maxSteps:=999999)(disch:=omega)only[go_sem,zA,zM,zS,zE,zL]
 intro g3
 simp(maxSteps:=999999)(disch:=omega)only[go_sem,zA,zM,zS,zE,zL,JF,Qy]
 obtain⟨HA,hHA⟩:∃HA:Jn,HA=some ⟨g1,1,cG q⟩::some ⟨g2,5,[.f (.int .i64 0), .f .nil, .f .nil, .f .nil, .f .nil]⟩::(H1++[some ⟨g3,5,[.f (.int .i64 q.task.size),c1,c2,c3,c4]⟩]):=⟨_,rfl⟩
 have b0:look HA 0 g1=some ⟨g1,1,cG q⟩:=by rw[hHA];simp only[go_sem]
 have b1:look HA 1 g2=some ⟨g2,5,[.f (.int .i64 0), .f .nil, .f .nil, .f .nil, .f .nil]⟩:=by rw[hHA];simp only[go_sem]
 have bs:look HA (H1.length+1+1) g3=some ⟨g3,5,[.f (.int .i64 q.task.size),c1,c2,c3,c4]⟩:=by rw[hHA];simp only[go_sem];exact JF
 have hlA:HA.length=H1.length+3:=by rw[hHA];simp
 have hG:UF HA [.f (.int .i64 q.task.size),c1,c2,c3,c4] q S1:=by
  rw[hHA]
  exact hG1.app (H':=[some ⟨g3,5,[.f (.int .i64 q.task.size),c1,c2,c3,c4]⟩])
 have hm:∀k∈S1,2≤k:=fun k hk=>by have:=hS1 k hk;omega
 first|refine JU.mk (JM.ownI (WR q hx)) (⟨_,Tryz.func9,rfl,rfl⟩:Jg Tryz.prog 9) rfl rfl rfl rfl rfl ?_|refine JG.mk (JM.ownI (WR q hx)) (⟨_,Tryz.func9,rfl,rfl⟩:Jg Tryz.prog 9) rfl rfl rfl rfl rfl ?_
 simp(maxSteps:=999999)(disch:=omega)only[go_sem,zA,zM,zS,zE,zL]
 rw[←hHA]
 clear hHA hG1
 have hSk:∀(b:Option Zo),∀k∈S1,(HA.set 1 b)[k]? =HA[k]? :=fun b k hk=>Ji (by have:=hm k hk;omega)
 have hSet:∀b,look (HA.set 1 (some ⟨g2,5,b⟩)) 1 g2=some ⟨g2,5,b⟩:=fun b=>J7 (by omega)
 have finS:∀(H2:Jn) (t:List UInt8),(∀k∈S1,H2[k]? =HA[k]?)→Zk q l=q→UB q l=t→Uo H2 (Wv (X9 (UB q l)) (Zk q l)) (.tup [.agg [.f (.int .i64 q.task.size),c1,c2,c3,c4],W0 t]):=fun H2 t hk e1 e2=>Nd e1 e2 (hG.same hk)
 by_cases hp:Y5 l
 · obtain⟨h1,h2,⟨h3,h4⟩,h5,h6⟩:=id hp
   have d1:decide ((l.length:Int)=6)=true:=decide_eq_true (by omega)
   have d2:decide (l.take 4=[112,117,116,32])=true:=decide_eq_true h2
   have d3:decide (97≤XY l 4)=true:=decide_eq_true h3
   have d4:decide (XY l 4≤122)=true:=decide_eq_true h4
   have d5:decide (48≤XY l 5)=true:=decide_eq_true h5
   have d6:decide (XY l 5≤57)=true:=decide_eq_true h6
   rw[eG,eT,if_pos hp,if_pos hp]
   simp(maxSteps:=999999)(disch:=omega)only[go_sem,zA,zM,zS,zE,zL,d1]
   first|refine JU.rd (Wq l hl h1) (⟨_,Tryz.func45,rfl,rfl⟩:Jg Tryz.prog 45) rfl rfl rfl rfl ?_|refine JG.rd (Wq l hl h1) (⟨_,Tryz.func45,rfl,rfl⟩:Jg Tryz.prog 45) rfl rfl rfl rfl ?_
   simp(maxSteps:=999999)(disch:=omega)only[go_sem,zA,zM,zS,zE,zL]
   simp(maxSteps:=999999)(disch:=omega)only[go_sem,zA,zM,zS,zE,zL,d2,d3,d4,d5,d6]
   refine JbD [0,1,2,3,4,5,6,7,8,13,9,10,11,12] [] (some 13) [14,15] 12 [] ZE (by kernel_rfl) ?_
   iterate 11 (rw[J0];simp(maxSteps:=999999)(disch:=omega)only[go_sem,zA,zM,zS,zE,zL,b0])
   refine JG.mkW (Jdm q (XY l 4 -97) (XY l 5 -48) hx) (⟨_,Tryz.func46,rfl,rfl⟩:Jg Tryz.prog 46) rfl rfl (W2 Wr rfl rfl) ?_
   intro cs2 H2 S2 hG2 hS2
   obtain⟨e1,e2,e3,e4,U1,U2,U3,U4,rfl,eU,m1,m2,m3,m4⟩:=hG2.ex
   clear m1 m2 m3 m4 eU
   obtain⟨HB,hHB⟩:∃HB:Jn,HB=HA++H2:=⟨_,rfl⟩
   have hlB:HB.length=HA.length+H2.length:=by rw[hHB];simp
   have c1':look HB 1 g2=some ⟨g2,5,[.f (.int .i64 0), .f .nil, .f .nil, .f .nil, .f .nil]⟩:=by rw[hHB];exact J2 b1
   rw[←hHB]at hG2
   simp(maxSteps:=999999)(disch:=omega)only[go_sem,zA,zM,zS,zE,zL]
   rw[←hHB]
   clear hHB
   iterate 3 (rw[J0];simp(maxSteps:=999999)(disch:=omega)only[go_sem,zA,zM,zS,zE,zL])
   intro g4
   refine Kq rfl (.inr rfl) ?_
   simp(maxSteps:=999999)(disch:=omega)only[go_sem,zA,zM,zS,zE,zL,JF,Qy]
   refine Kq rfl (.inl rfl) ?_
   simp(maxSteps:=999999)(disch:=omega)only[go_sem,zA,zM,zS,zE,zL]
   refine Z5 [0,1,2] [] none [3,4] [] [0,0,2,7,15] ZE (by kernel_rfl) ?_
   iterate 2 (rw[J0];simp(maxSteps:=999999)(disch:=omega)only[go_sem,zA,zM,zS,zE,zL,JF])
   rw[J0]
   simp(maxSteps:=999999)(disch:=omega)only[go_sem,zA,zM,zS,zE,zL]
   refine JG.rd (Jc8 (Zc q (XY l 4 -97) (XY l 5 -48))) (⟨_,Tryz.func47,rfl,rfl⟩:Jg Tryz.prog 47) rfl rfl rfl rfl ?_
   have hSet3:∀x b,look ((HB++[x]).set 1 (some ⟨g2,5,b⟩)) 1 g2=some ⟨g2,5,b⟩:=fun x b=>J7 (by simp;omega)
   have c2':∀b,look (HB++[b]) 1 g2=some ⟨g2,5,[.f (.int .i64 0), .f .nil, .f .nil, .f .nil, .f .nil]⟩:=fun b=>J2 c1'
   simp(maxSteps:=999999)(disch:=omega)only[go_sem,zA,zM,zS,zE,zL,c2',hSet3]
   exact Nd rfl rfl ((hG2.app (H':=[_])).same fun i hi=>Ji (by have:=hS2 i hi;omega))
 · by_cases hb:l=YE
   · subst hb
     have d1:decide ((YE.length:Int)=6)=false:=rfl
     have d2:decide (YE=[98,97,99,107])=true:=rfl
     rw[eG,eT,if_neg hp,if_neg hp,if_pos rfl,if_pos rfl]
     simp(maxSteps:=999999)(disch:=omega)only[go_sem,zA,zM,zS,zE,zL,d1,d2,b0]
     refine JU.mkDGB (JbS q hx) (⟨_,Tryz.func48,rfl,rfl⟩:Jg Tryz.prog 48) rfl rfl (Jb6 Wr) ?_
     intro cs2 H2 S2 hG2 hS2
     obtain⟨e1,e2,e3,e4,U1,U2,U3,U4,rfl,eU,m1,m2,m3,m4⟩:=hG2.ex
     clear m1 m2 m3 m4 eU
     obtain⟨HB,hHB⟩:∃HB:Jn,HB=HA++H2:=⟨_,rfl⟩
     have hlB:HB.length=HA.length+H2.length:=by rw[hHB];simp
     have c1':look HB 1 g2=some ⟨g2,5,[.f (.int .i64 0), .f .nil, .f .nil, .f .nil, .f .nil]⟩:=by rw[hHB];exact J2 b1
     simp only at hG2 hS2⊢
     rw[←hHB]at hG2⊢
     clear hHB
     simp(maxSteps:=999999)(disch:=omega)only[go_sem,zA,zM,zS,zE,zL]
     intro g4
     simp(maxSteps:=999999)(disch:=omega)only[go_sem,zA,zM,zS,zE,zL,JF,Qy]
     refine Z5 [0,1,2] [] none [3,4] [] [0,0,2,7,15] ZE (by kernel_rfl) ?_
     iterate 2 (rw[J0];simp(maxSteps:=999999)(disch:=omega)only[go_sem,zA,zM,zS,zE,zL,JF])
     rw[J0]
     simp(maxSteps:=999999)(disch:=omega)only[go_sem,zA,zM,zS,zE,zL]
     refine JG.rd (Jc8 (QX q)) (⟨_,Tryz.func47,rfl,rfl⟩:Jg Tryz.prog 47) rfl rfl rfl rfl ?_
     have hSet3:∀x b,look ((HB++[x]).set 1 (some ⟨g2,5,b⟩)) 1 g2=some ⟨g2,5,b⟩:=fun x b=>J7 (by simp;omega)
     have c2':∀b,look (HB++[b]) 1 g2=some ⟨g2,5,[.f (.int .i64 0), .f .nil, .f .nil, .f .nil, .f .nil]⟩:=fun b=>J2 c1'
     simp(maxSteps:=999999)(disch:=omega)only[go_sem,zA,zM,zS,zE,zL,c2',hSet3]
     exact Nd rfl rfl ((hG2.app (H':=[_])).same fun i hi=>Ji (by have:=hS2 i hi;omega))
   by_cases hh:l=Y6
   · subst hh
     have d1:decide ((Y6.length:Int)=6)=false:=rfl
     have d2:decide (Y6=[98,97,99,107])=false:=rfl
     have d3:decide (Y6=[104,105,110,116])=true:=rfl
     simp(maxSteps:=999999)(disch:=omega)only[go_sem,zA,zM,zS,zE,zL,d1,d2,d3,b0]
     first|refine JU.mk (Br q.task (JY q) hx.1 (by omega)) (⟨_,Tryz.func33,rfl,rfl⟩:Jg Tryz.prog 33) rfl rfl rfl rfl rfl ?_|refine JG.mk (Br q.task (JY q) hx.1 (by omega)) (⟨_,Tryz.func33,rfl,rfl⟩:Jg Tryz.prog 33) rfl rfl rfl rfl rfl ?_
     simp(maxSteps:=999999)(disch:=omega)only[go_sem,zA,zM,zS,zE,zL]
     intro g4
     simp(maxSteps:=999999)(disch:=omega)only[go_sem,zA,zM,zS,zE,zL,JF,Qy]
     have c1':∀b,look (HA++[b]) 1 g2=some ⟨g2,5,[.f (.int .i64 0), .f .nil, .f .nil, .f .nil, .f .nil]⟩:=fun b=>J2 b1
     have cs':∀b,look (HA++[b]) (H1.length+1+1) g3=some ⟨g3,5,[.f (.int .i64 q.task.size),c1,c2,c3,c4]⟩:=fun b=>J2 bs
     have hSet2:∀x b,look ((HA++[x]).set 1 (some ⟨g2,5,b⟩)) 1 g2=some ⟨g2,5,b⟩:=fun x b=>J7 (by simp;omega)
     have hSk2:∀(x b:Option Zo),∀k∈S1,((HA++[x]).set 1 b)[k]? =HA[k]? :=fun x b k hk=>by
      rw[Ji (by have:=hm k hk;omega),Jc (hG.lt k hk)]
     cases hhb:VZ q.task (JY q)with
     |false=>
      simp(maxSteps:=999999)(disch:=omega)only[go_sem,zA,zM,zS,zE,zL,c1',cs',hSet2]
      exact finS _ Je0 (hSk2 _ _) (by rw[eG,if_neg hp,if_neg hb]) (by rw[eT,if_neg hp,if_neg hb,if_pos rfl,hhb];rfl)
     |true=>
      simp(maxSteps:=999999)(disch:=omega)only[go_sem,zA,zM,zS,zE,zL,c1',cs',hSet2]
      refine Z5 [0,1,2] [] none [3,4] [] [0,0,2,7,15] ZE (by kernel_rfl) ?_
      iterate 2 (rw[J0];simp(maxSteps:=999999)(disch:=omega)only[go_sem,zA,zM,zS,zE,zL,cs',JF])
      rw[J0]
      simp(maxSteps:=999999)(disch:=omega)only[go_sem,zA,zM,zS,zE,zL]
      refine JG.rd (JbR (Vt q.task (JY q))) (⟨_,Tryz.func49,rfl,rfl⟩:Jg Tryz.prog 49) rfl rfl rfl rfl ?_
      simp(maxSteps:=999999)(disch:=omega)only[go_sem,zA,zM,zS,zE,zL,c1',hSet2]
      exact finS _ (V8 (Vt q.task (JY q))) (hSk2 _ _) (by rw[eG,if_neg hp,if_neg hb]) (by rw[eT,if_neg hp,if_neg hb,if_pos rfl,hhb];rfl)
   by_cases hc:l=UL
   · subst hc
     have d1:decide ((UL.length:Int)=6)=false:=rfl
     have d2:decide (UL=[98,97,99,107])=false:=rfl
     have d3:decide (UL=[104,105,110,116])=false:=rfl
     have d4:decide (UL=[99,104,101,99,107])=true:=rfl
     simp(maxSteps:=999999)(disch:=omega)only[go_sem,zA,zM,zS,zE,zL,d1,d2,d3,d4,b0]
     first|refine JU.rd (UD q.task (JY q) hx.1 (by omega)) (⟨_,Tryz.func50,rfl,rfl⟩:Jg Tryz.prog 50) rfl rfl rfl rfl ?_|refine JG.rd (UD q.task (JY q) hx.1 (by omega)) (⟨_,Tryz.func50,rfl,rfl⟩:Jg Tryz.prog 50) rfl rfl rfl rfl ?_
     simp(maxSteps:=999999)(disch:=omega)only[go_sem,zA,zM,zS,zE,zL]
     obtain⟨n,hN⟩:=UM.of hv
     have eC:UB q UL=if XZ q.task (JY q)=false then F3 else if Ux q.task (JY q)=true then FT else Jfh:=by
      rw[Jd5 hN,JiP hN]
     have eg:Zk q UL=q:=by rw[eG,if_neg hp,if_neg hb]
     have wr:∀(H2:Jn),(∀k∈S1,H2[k]? =HA[k]?)→XZ q.task (JY q)=false→Uo H2 (Wv (X9 (UB q UL)) (Zk q UL)) (.tup [.agg [.f (.int .i64 q.task.size),c1,c2,c3,c4],W0 F3]):=fun H2 hk h=>finS H2 F3 hk eg (by rw[eC,h];rfl)
     cases hf:WE q.task (JY q)with
     |false=>
      simp(maxSteps:=999999)(disch:=omega)only[go_sem,zA,zM,zS,zE,zL,b1,bs,hSet]
      exact wr _ (hSk _) (NZ hN hf)
     |true=>
      simp(maxSteps:=999999)(disch:=omega)only[go_sem,zA,zM,zS,zE,zL,b0]
      first|refine JU.rd (K6 q.task (JY q) hx.1 (by omega)) (⟨_,Tryz.func51,rfl,rfl⟩:Jg Tryz.prog 51) rfl rfl rfl rfl ?_|refine JG.rd (K6 q.task (JY q) hx.1 (by omega)) (⟨_,Tryz.func51,rfl,rfl⟩:Jg Tryz.prog 51) rfl rfl rfl rfl ?_
      simp(maxSteps:=999999)(disch:=omega)only[go_sem,zA,zM,zS,zE,zL]
      cases hcf:XZ q.task (JY q)with
      |false=>
       simp(maxSteps:=999999)(disch:=omega)only[go_sem,zA,zM,zS,zE,zL,b1,bs,hSet]
       exact wr _ (hSk _) hcf
      |true=>
       simp(maxSteps:=999999)(disch:=omega)only[go_sem,zA,zM,zS,zE,zL,b0]
       first|refine JU.rd (X5 q.task (JY q) hx.1 (by omega)) (⟨_,Tryz.func52,rfl,rfl⟩:Jg Tryz.prog 52) rfl rfl rfl rfl ?_|refine JG.rd (X5 q.task (JY q) hx.1 (by omega)) (⟨_,Tryz.func52,rfl,rfl⟩:Jg Tryz.prog 52) rfl rfl rfl rfl ?_
       simp(maxSteps:=999999)(disch:=omega)only[go_sem,zA,zM,zS,zE,zL]
       cases hso:Ux q.task (JY q)with
       |true=>
        simp(maxSteps:=999999)(disch:=omega)only[go_sem,zA,zM,zS,zE,zL,b1,bs,hSet]
        exact finS _ FT (hSk _) eg (by rw[eC,hcf,hso];rfl)
       |false=>
        simp(maxSteps:=999999)(disch:=omega)only[go_sem,zA,zM,zS,zE,zL,b1,bs,hSet]
        exact finS _ Jfh (hSk _) eg (by rw[eC,hcf,hso];rfl)
   have d2:decide (l=[98,97,99,107])=false:=decide_eq_false hb
   have d3:decide (l=[104,105,110,116])=false:=decide_eq_false hh
   have d4:decide (l=[99,104,101,99,107])=false:=decide_eq_false hc
   by_cases p1:l.length=6
   rotate_left
   · have p2:decide ((l.length:Int)=6)=false:=decide_eq_false (by omega)
     simp(maxSteps:=999999)(disch:=omega)only[go_sem,zA,zM,zS,zE,zL,p2,d2,d3,d4,b1,bs,hSet]
     exact finS _ Rv (hSk _) (by rw[eG,if_neg hp,if_neg hb]) (by rw[eT,if_neg hp,if_neg hb,if_neg hh,if_neg hc])
   have d1:decide ((l.length:Int)=6)=true:=decide_eq_true (by omega)
   simp(maxSteps:=999999)(disch:=omega)only[go_sem,zA,zM,zS,zE,zL,d1]
   first|refine JU.rd (Wq l hl p1) (⟨_,Tryz.func45,rfl,rfl⟩:Jg Tryz.prog 45) rfl rfl rfl rfl ?_|refine JG.rd (Wq l hl p1) (⟨_,Tryz.func45,rfl,rfl⟩:Jg Tryz.prog 45) rfl rfl rfl rfl ?_
   simp(maxSteps:=999999)(disch:=omega)only[go_sem,zA,zM,zS,zE,zL]
   by_cases q2:l.take 4=[112,117,116,32]
   rotate_left
   · have p2:=decide_eq_false q2
     simp(maxSteps:=999999)(disch:=omega)only[go_sem,zA,zM,zS,zE,zL,p2,d2,d3,d4,b1,bs,hSet]
     exact finS _ Rv (hSk _) (by rw[eG,if_neg hp,if_neg hb]) (by rw[eT,if_neg hp,if_neg hb,if_neg hh,if_neg hc])
   have e2:=decide_eq_true q2
   by_cases p3:97≤XY l 4
   rotate_left
   · have p2:=decide_eq_false p3
     simp(maxSteps:=999999)(disch:=omega)only[go_sem,zA,zM,zS,zE,zL,e2]
     simp(maxSteps:=999999)(disch:=omega)only[go_sem,zA,zM,zS,zE,zL,p2,d2,d3,d4,b1,bs,hSet]
     exact finS _ Rv (hSk _) (by rw[eG,if_neg hp,if_neg hb]) (by rw[eT,if_neg hp,if_neg hb,if_neg hh,if_neg hc])
   have e3:=decide_eq_true p3
   by_cases p4:XY l 4≤122
   rotate_left
   · have p2:=decide_eq_false p4
     simp(maxSteps:=999999)(disch:=omega)only[go_sem,zA,zM,zS,zE,zL,e2,e3]
     simp(maxSteps:=999999)(disch:=omega)only[go_sem,zA,zM,zS,zE,zL,p2,d2,d3,d4,b1,bs,hSet]
     exact finS _ Rv (hSk _) (by rw[eG,if_neg hp,if_neg hb]) (by rw[eT,if_neg hp,if_neg hb,if_neg hh,if_neg hc])
   have e4:=decide_eq_true p4
   by_cases p5:48≤XY l 5
   rotate_left
   · have p2:=decide_eq_false p5
     simp(maxSteps:=999999)(disch:=omega)only[go_sem,zA,zM,zS,zE,zL,e2,e3,e4]
     simp(maxSteps:=999999)(disch:=omega)only[go_sem,zA,zM,zS,zE,zL,p2,d2,d3,d4,b1,bs,hSet]
     exact finS _ Rv (hSk _) (by rw[eG,if_neg hp,if_neg hb]) (by rw[eT,if_neg hp,if_neg hb,if_neg hh,if_neg hc])
   have e5:=decide_eq_true p5
   have p6:¬XY l 5≤57:=fun p6=>hp ⟨p1,q2,⟨p3,p4⟩,p5,p6⟩
   have p2:=decide_eq_false p6
   simp(maxSteps:=999999)(disch:=omega)only[go_sem,zA,zM,zS,zE,zL,e2,e3,e4,e5]
   simp(maxSteps:=999999)(disch:=omega)only[go_sem,zA,zM,zS,zE,zL,p2,d2,d3,d4,b1,bs,hSet]
   exact finS _ Rv (hSk _) (by rw[eG,if_neg hp,if_neg hb]) (by rw[eT,if_neg hp,if_neg hb,if_neg hh,if_neg hc])
end Go.Lg

namespace Go.Lg
open Go.Proofs
attribute [-go_sem] Qf GT J0
def ValsN(n:Nat)(xs:List Int):Prop:=∀k:Nat,k<xs.length→1≤Jy xs k∧Jy xs k≤n
section
variable{P:Program}{o:Oper}{st:St}{K:KV}{fo:Operand}{xs:Array Operand}{ts:Array TypeId}{f:FuncId}{args:List AV}
end
end Go.Lg

namespace Go.Lg
open Go.Proofs
attribute [-go_sem] Qf J0
structure RlV(H HI:Jn)(id g:Nat)(B:Int)(m g8 g2:Nat)(ys:List Int):Prop extends base:RlI H HI id g B m g8 g2 ys where
 nd:∀j:Nat,j<ys.length→∀l:Nat,l<j→Jy ys l≠Jy ys j
section
variable{H HI H2:Jn}{id g m g8 g2:Nat}{B B':Int}{ys:List Int}
theorem RlV.mono(h:RlV H HI id g B m g8 g2 ys)(hb:B≤B'):RlV H HI id g B' m g8 g2 ys:=⟨h.base.mono hb,h.nd⟩
theorem RlV.pick(h:RlV H HI id g B m g8 g2 ys)(hr:Uh H2 id g B')(hf:WA HI H2 [id]):RlV H H2 id g B' m g8 g2 ys:=⟨h.base.pick hr hf,h.nd⟩
theorem RlV.app{X:Jn}(h:RlV H HI id g B m g8 g2 ys):RlV H (HI++X) id g B m g8 g2 ys:=⟨h.base.app,h.nd⟩
theorem RlV.set(h:RlV H HI id g B m g8 g2 ys){g':Nat}{zs:List Int}(h1:1≤zs.length)(h4:zs.length≤4)(hv:∀k:Nat,k<zs.length→0≤Jy zs k∧Jy zs k<(m:Int)*m)(hn:∀j:Nat,j<zs.length→∀l:Nat,l<j→Jy zs l≠Jy zs j):RlV H (HI.set (H.length+1) (some ⟨g',1,cl (eI .i64) zs⟩)) id g B m g8 g' zs:=⟨h.base.set h1 h4 hv,hn⟩
end
structure RuV(V:Prop)(m:Nat)(H HE:Jn)(id g:Nat)(B:Int)(N g8 J g18:Nat)(xs:List Int):Prop extends base:RuO H HE id g B N g8 J g18 xs where
 va:V→∃a b c,look HE J g18=some ⟨g18,3,[.f (.int .i64 a),c, .f (.int .i64 b)]⟩∧Qw ⟨a,xs,b⟩ m=true
section
variable{V W:Prop}{H HE H2:Jn}{id g m N N' g8 J g18:Nat}{B B':Int}{xs:List Int}
theorem RuV.mono(h:RuV V m H HE id g B N g8 J g18 xs)(hb:B≤B'):RuV V m H HE id g B' N g8 J g18 xs:=⟨h.base.mono hb,h.va⟩
theorem RuV.pick(h:RuV V m H HE id g B N g8 J g18 xs)(hr:Uh H2 id g B')(hf:WA HE H2 [id]):RuV V m H H2 id g B' N g8 J g18 xs:=⟨h.base.pick hr hf,fun v=>by
 obtain⟨a,b,c,h1,h2⟩:=h.va v
 have hl:=h.lt
 have hn:=h.ln
 exact⟨a,b,c,by rw[hf.look (by simp;omega)];exact h1,h2⟩⟩
theorem RuV.app{X:Jn}(h:RuV V m H HE id g B N g8 J g18 xs):RuV V m H (HE++X) id g B N g8 J g18 xs:=⟨h.base.app,fun v=>by
 obtain⟨a,b,c,h1,h2⟩:=h.va v
 exact⟨a,b,c,J2 h1,h2⟩⟩
theorem RuV.set(h:RuV V m H HE id g B N g8 J g18 xs){a b:Int}{c:CV}{zs:List Int}(hc:K5 H HE J c zs)(h1:1≤zs.length)(h5:zs.length≤N)(hv:V→Qw ⟨a,zs,b⟩ m=true):RuV V m H (HE.set J (some ⟨g18,3,[.f (.int .i64 a),c, .f (.int .i64 b)]⟩)) id g B N g8 J g18 zs:=
 ⟨h.base.set hc h1 h5,fun v=>⟨a,b,c,J7 h.ln.2,hv v⟩⟩
end
end Go.Lg

namespace Go.Lg
open Go.Proofs
attribute [-go_sem] Qf J0
def JkN(zs0 zs:List Int):Prop:=∀k:Nat,Jy zs k=Jy zs0 k∨Jy zs k=0
theorem JkN.set{zs0 zs:List Int}{k:Nat}(h:JkN zs0 zs)(hk:k<zs.length):JkN zs0 (zs.set k 0):=fun j=>by
 rw[Za _ _ _ _ hk]
 split
 · exact .inr rfl
 · exact h j
end Go.Lg

namespace Go.Lg
open Go.Proofs
attribute [-go_sem] Qf J0
def NB(n:Nat)(z:Int)(zs:List Int):Prop:=zs.length=n*n∧z=n∧∀k:Nat,k<zs.length→0≤Jy zs k∧Jy zs k≤n
def RsV(V:Prop)(n:Nat)(rs:List Zq)(R:Nat):Prop:=rs.length≤R∧∀r∈rs,r.cells.length≤5∧(V→Qw r n=true)
theorem NB.set{n k:Nat}{z v:Int}{zs:List Int}(h:NB n z zs)(hv:0≤v∧v≤n):NB n z (zs.set k v):=by
 obtain⟨h1,h2,h3⟩:=h
 refine⟨by rw[Jp];exact h1,h2,fun j hj=> ?_⟩
 rw[Jp]at hj
 by_cases hk:k<zs.length
 · rw[Za _ _ _ _ hk]
   split
   · exact hv
   · exact h3 j hj
 · rw[List.set_eq_of_length_le (by omega)]
   exact h3 j hj
theorem NB.sub{n:Nat}{z:Int}{zs0 zs:List Int}(h:NB n z zs0)(hs:zs.length=zs0.length∧JkN zs0 zs):NB n z zs:=by
 obtain⟨h1,h2,h3⟩:=h
 refine⟨by rw[hs.1];exact h1,h2,fun j hj=> ?_⟩
 have:=h3 j (by omega)
 rcases hs.2 j with h|h<;>omega
theorem Jgw{n:Nat}{z:Int}{zs:List Int}{rs:List Zq}(hn:n=2∨n=3∨n=4)(h:NB n z zs)(hr:rs.length≤20)(hv:∀r∈rs,Qw r n=true):JA ⟨z,zs,rs⟩=true:=by
 obtain⟨h1,rfl,h3⟩:=h
 simp only[JA,Bool.and_eq_true,decide_eq_true_eq,List.all_eq_true]
 exact⟨Zd.valid hn ⟨h1,h3⟩,hr,hv⟩
structure Nx(V:Prop)(H HI:Jn)(id g:Nat)(B:Int)(R n g4 cid cg J g7:Nat):Prop where
 out:look HI H.length g4=some ⟨g4,3,[.f (.int .i64 0), .f .nil, .f .nil]⟩
 grid:∃zs:List Int,look HI cid cg=some ⟨cg,1,cl (eI .i64) zs⟩∧n*n≤zs.length∧ValsN n zs
 ex:∃z gc rc zs rs,look HI J g7=some ⟨g7,3,[.f (.int .i64 z),gc,rc]⟩∧PzO HI (H.length+1) z gc rc zs rs∧¬Q6 gc J∧¬Q6 rc J∧¬Q6 gc cid∧¬Q6 rc cid∧NB n z zs∧RsV V n rs R
 rd:Uh HI id g B
 lt:id<H.length
 ln:H.length<cid∧cid<HI.length∧H.length<J∧J<HI.length∧cid≠J
 frm:∀k,k<H.length→k≠id→HI[k]? =H[k]?
section
variable{V:Prop}{H HI H2:Jn}{id g R R' n g4 cid cg J g7:Nat}{B B':Int}
theorem Nx.mono(h:Nx V H HI id g B R n g4 cid cg J g7)(hb:B≤B'):Nx V H HI id g B' R n g4 cid cg J g7:={h with rd:=h.rd.mono hb}
theorem Nx.step(h:Nx V H HI id g B R n g4 cid cg J g7)(hs:∀i,H.length≤i→i<HI.length→H2[i]? =HI[i]?)(hl:HI.length≤H2.length)(hr:Uh H2 id g B')(hf:∀k,k<H.length→k≠id→H2[k]? =HI[k]?):Nx V H H2 id g B' R n g4 cid cg J g7:=by
 have hn:=h.ln
 have hL:∀i g,H.length≤i→i<HI.length→look H2 i g=look HI i g:=fun i g h1 h2=>by unfold look;rw[hs i h1 h2]
 obtain⟨ys,g1,g2⟩:=h.grid
 obtain⟨z,gc,rc,zs,rs,h1,h2,h3⟩:=h.ex
 exact{out:=by rw[hL _ _ (Nat.le_refl _) (by omega)];exact h.out
       grid:=⟨ys,by rw[hL _ _ (by omega) (by omega)];exact g1,g2⟩
       ex:=⟨z,gc,rc,zs,rs,by rw[hL _ _ (by omega) (by omega)];exact h1,h2.same fun i hi _ hl=>hs i (by omega) hl,h3⟩
       rd:=hr,lt:=h.lt,ln:=by omega
       frm:=fun k hk hne=>by rw[hf k hk hne];exact h.frm k hk hne}
theorem Nx.pick(h:Nx V H HI id g B R n g4 cid cg J g7)(hr:Uh H2 id g B')(hf:WA HI H2 [id]):Nx V H H2 id g B' R n g4 cid cg J g7:=by
 have hl:=h.lt
 exact h.step (fun i hi _=>hf.2 i (by simp;omega)) (by rw[hf.1];exact Nat.le_refl _) hr fun k hk hne=>hf.2 k (by simpa using hne)
theorem Nx.app{X:Jn}(h:Nx V H HI id g B R n g4 cid cg J g7):Nx V H (HI++X) id g B R n g4 cid cg J g7:=by
 have hn:=h.ln
 exact h.step (fun i _ hi=>Jc hi) (by simp) h.rd.app fun k hk _=>Jc (by omega)
end
theorem Nx.rule{V:Prop}{H HI H6:Jn}{id g R n g4 cid cg J g7 R':Nat}{B B' z:Int}{gc rc c':CV}{zs:List Int}{rs rs':List Zq}(h:Nx V H HI id g B R n g4 cid cg J g7)
 (w1:look HI J g7=some ⟨g7,3,[.f (.int .i64 z),gc,rc]⟩) (w2:PzO HI (H.length+1) z gc rc zs rs) (w3:¬Q6 gc J) (w4:¬Q6 rc J) (w5:¬Q6 gc cid) (w6:¬Q6 rc cid) (w7:NB n z zs)
 (hs:∀i,H.length≤i→i<HI.length→¬Q6 rc i→H6[i]? =HI[i]?) (hlow:∀k,k<H.length→k≠id→H6[k]? =HI[k]?) (hrd:Uh H6 id g B') (hl:HI.length≤H6.length) (hL:UE eR 3 H6 c' rs') (hids:∀k,Q6 c' k→Q6 rc k∨HI.length≤k) (hsm:RsV V n rs' R'):
 Nx V H (H6.set J (some ⟨g7,3,[.f (.int .i64 z),gc,c']⟩)) id g B' R' n g4 cid cg J g7:=by
 have hln:=h.ln
 have hlt:=h.lt
 obtain⟨gid,gg,rfl,p1,p2,p3,p4⟩:=w2
 have hgl:gid<HI.length:=(Jh.1 (JH p1).1).1
 have hS:∀i g,H.length≤i→i<HI.length→¬Q6 rc i→i≠J→look (H6.set J (some ⟨g7,3,[.f (.int .i64 z), .own gid gg 0 zs.length none,c']⟩)) i g=look HI i g:=fun i g a b c d=>by
  unfold look
  rw[Ji (Ne.symm d),hs i a b c]
 have hrcl:∀k,Q6 rc k→k<HI.length:=p3.lt
 obtain⟨gz,gz1,gz2⟩:=h.grid
 exact{out:=by rw[hS _ _ (Nat.le_refl _) (by omega) (fun hh=>by have:=(p4 _ hh).1;omega) (by omega)];exact h.out
       grid:=⟨gz,by rw[hS _ _ (by omega) (by omega) w6 (by omega)];exact gz1,gz2⟩
       ex:=⟨z, .own gid gg 0 zs.length none,c',zs,rs',J7 (by omega),⟨gid,gg,rfl,by rw[hS _ _ (by omega) hgl (fun hh=>(p4 _ hh).2 rfl) (fun hh=>w3 (by rw[←hh];rfl))];exact p1,p2,
        hL.same (fun i hi _=>by
         rw[Ji (fun hh=>by
          subst hh
          rcases hids _ hi with hh|hh
          · exact w4 hh
          · omega)]),fun i hi=>by
         rcases hids i hi with hh|hh
         · exact p4 i hh
         · omega⟩,w3,fun hh=>by
        rcases hids _ hh with hh|hh
        · exact w4 hh
        · omega,w5,fun hh=>by
        rcases hids _ hh with hh|hh
        · exact w6 hh
        · omega,w7,hsm⟩
       rd:=hrd.same (by rw[Ji (by omega)])
       lt:=hlt
       ln:=by rw[Jp];omega
       frm:=fun k hk hne=>by rw[Ji (by omega),hlow k hk hne];exact h.frm k hk hne}
theorem Nx.put{V:Prop}{H HI H6:Jn}{id g R n g4 cid cg J g7 R':Nat}{B B' z:Int}{gc rc:CV}{zs:List Int}{rs:List Zq}(h:Nx V H HI id g B R n g4 cid cg J g7)
 (w2:PzO H6 HI.length z gc rc zs rs) (w7:NB n z zs)
 (hs:∀i,H.length≤i→i<HI.length→H6[i]? =HI[i]?) (hlow:∀k,k<H.length→k≠id→H6[k]? =HI[k]?) (hrd:Uh H6 id g B') (hl:HI.length≤H6.length) (hsm:RsV V n rs R'):
 Nx V H (H6.set J (some ⟨g7,3,[.f (.int .i64 z),gc,rc]⟩)) id g B' R' n g4 cid cg J g7:=by
 have hln:=h.ln
 have hlt:=h.lt
 have hS:∀i g,H.length≤i→i<HI.length→i≠J→look (H6.set J (some ⟨g7,3,[.f (.int .i64 z),gc,rc]⟩)) i g=look HI i g:=fun i g a b d=>by
  unfold look
  rw[Ji (Ne.symm d),hs i a b]
 obtain⟨gz,gz1,gz2⟩:=h.grid
 have hno:∀i,i<HI.length→¬Q6 gc i∧¬Q6 rc i:=fun i hi=>by
  obtain⟨gid,gg,rfl,p1,p2,p3,p4⟩:=w2
  exact⟨fun hh=>by simp only[Q6]at hh;omega,fun hh=>by have:=(p4 i hh).1;omega⟩
 exact{out:=by rw[hS _ _ (Nat.le_refl _) (by omega) (by omega)];exact h.out
       grid:=⟨gz,by rw[hS _ _ (by omega) (by omega) (by omega)];exact gz1,gz2⟩
       ex:=⟨z,gc,rc,zs,rs,J7 (by omega),(w2.same fun i hi _ _=>by rw[Ji (by omega)]).n0 (by omega),(hno _ (by omega)).1,(hno _ (by omega)).2,(hno _ (by omega)).1,(hno _ (by omega)).2,w7,hsm⟩
       rd:=hrd.same (by rw[Ji (by omega)])
       lt:=hlt
       ln:=by rw[Jp];omega
       frm:=fun k hk hne=>by rw[Ji (by omega),hlow k hk hne];exact h.frm k hk hne}
theorem Nx.giv{V:Prop}{H HI:Jn}{id g R n g4 cid cg J g7 gid gg:Nat}{B z:Int}{rc:CV}{zs:List Int}{rs:List Zq}(h:Nx V H HI id g B R n g4 cid cg J g7)
 (w1:look HI J g7=some ⟨g7,3,[.f (.int .i64 z), .own gid gg 0 zs.length none,rc]⟩) (w2:PzO HI (H.length+1) z (.own gid gg 0 zs.length none) rc zs rs) (w3:¬Q6 (.own gid gg 0 zs.length none) J) (w4:¬Q6 rc J) (w5:¬Q6 (.own gid gg 0 zs.length none) cid) (w6:¬Q6 rc cid) (w7:NB n z zs) (w8:RsV V n rs R) (k:Nat) (v:Int) (hkv:0≤v∧v≤n):
 Nx V H (HI.set gid (some ⟨gg,1,cl (eI .i64) (zs.set k v)⟩)) id g B R n g4 cid cg J g7:=by
 have hln:=h.ln
 have hlt:=h.lt
 obtain⟨gid',gg',he,p1,p2,p3,p4⟩:=w2
 cases he
 have hgl:gid<HI.length:=(Jh.1 (JH p1).1).1
 simp only[Q6]at w3 w5
 have hS:∀i g,i≠gid→look (HI.set gid (some ⟨gg,1,cl (eI .i64) (zs.set k v)⟩)) i g=look HI i g:=fun i g d=>QA (Ne.symm d)
 obtain⟨gz,gz1,gz2⟩:=h.grid
 exact{out:=by rw[hS _ _ (by omega)];exact h.out
       grid:=⟨gz,by rw[hS _ _ (by omega)];exact gz1,gz2⟩
       ex:=⟨z,_,rc,zs.set k v,rs,by rw[hS _ _ (by omega)];exact w1,⟨gid,gg,by rw[Jp],J7 hgl,p2,p3.same fun i hi _=>by rw[Ji (Ne.symm (p4 i hi).2)],p4⟩,fun hh=>by simp only[Q6]at hh;omega,w4,fun hh=>by simp only[Q6]at hh;omega,w6,w7.set hkv,w8⟩
       rd:=h.rd.same (by rw[Ji (by omega)])
       lt:=hlt
       ln:=by rw[Jp];omega
       frm:=fun k hk hne=>by rw[Ji (by omega)];exact h.frm k hk hne}
structure PzG(W:Prop)(H HI:Jn)(id g:Nat)(B:Int)(g4 J g7:Nat):Prop where
 out:look HI H.length g4=some ⟨g4,3,[.f (.int .i64 0), .f .nil, .f .nil]⟩
 ex:∃z gc rc zs rs,look HI J g7=some ⟨g7,3,[.f (.int .i64 z),gc,rc]⟩∧(∀H':Jn,(∀i,H.length<i→i<HI.length→H'[i]? =HI[i]?)→frzS (YP H.length) H' 6 gc=some (Ql zs)∧frzS (YP H.length) H' 6 rc=some (VN eR rs))∧zs.length≤16∧Re rs 30 5∧(W→JA ⟨z,zs,rs⟩=true)
 rd:Uh HI id g B
 lt:id<H.length
 ln:H.length<J∧J<HI.length
 frm:∀k,k<H.length→k≠id→HI[k]? =H[k]?
theorem Nx.fin{V W:Prop}{H HI:Jn}{id g R n g4 cid cg J g7:Nat}{B B':Int}(h:Nx V H HI id g B R n g4 cid cg J g7)(hn:n=2∨n=3∨n=4)(hR:R≤20)(hw:W→V)(hb:B≤B'):PzG W H HI id g B' g4 J g7:=by
 obtain⟨z,gc,rc,zs,rs,w1,⟨gid,gg,rfl,p1,p2,p3,p4⟩,w3,w4,w5,w6,w7,w8,w9⟩:=h.ex
 have hln:=h.ln
 have hsq:n*n≤16:=by rcases hn with rfl|rfl|rfl<;>omega
 have hz7:=w7.1
 exact{out:=h.out
       ex:=⟨z,_,rc,zs,rs,w1,fun H' hs=>⟨by have:=Jfl p1 (by omega) hs (off:=0) (k:=zs.length) (by omega);rwa [J1,List.take_length]at this,JcY p3 (fun i hi=>by have:=(p4 i hi).1;omega) hs⟩,by omega,⟨by omega,fun r hr=>(w9 r hr).1⟩,fun h=>Jgw hn w7 (by omega) fun r hr=>(w9 r hr).2 (hw h)⟩
       rd:=h.rd.mono hb,lt:=h.lt,ln:=by omega,frm:=h.frm}
end Go.Lg

namespace Go.Lg
open Go.Proofs
attribute [-go_sem] Qf J0
def putDQ(H:Jn)(id g:Nat)(B:Int):KV:=fun v H'=>(∃l:List UInt8,v=W0 l∧l.length≤6)∧Uh H' id g (B+10)∧WA H H' [id]
structure PtI(H HI:Jn)(id g:Nat)(B:Int)(g4:Nat)(q:QU):Prop where
 box:look HI H.length g4=some ⟨g4,1,cG q⟩
 rd:Uh HI id g B
 lt:id<H.length
 ln:H.length<HI.length
 frm:∀k,k<H.length→k≠id→HI[k]? =H[k]?
section
variable{H HI H2:Jn}{id g g4:Nat}{B B':Int}{q:QU}
theorem PtI.mono(h:PtI H HI id g B g4 q)(hb:B≤B'):PtI H HI id g B' g4 q:={h with rd:=h.rd.mono hb}
theorem PtI.pick(h:PtI H HI id g B g4 q)(hr:Uh H2 id g B')(hf:WA HI H2 [id]):PtI H H2 id g B' g4 q:=by
 have hl:=h.lt
 exact{box:=by rw[hf.look (by simp;omega)];exact h.box
       rd:=hr,lt:=hl,ln:=by rw[hf.1];exact h.ln
       frm:=fun k hk hn=>by rw[hf.2 k (by simpa using hn)];exact h.frm k hk hn}
theorem PtI.app{X:Jn}(h:PtI H HI id g B g4 q):PtI H (HI++X) id g B g4 q:=by
 have hn:=h.ln
 exact{box:=J2 h.box,rd:=h.rd.app,lt:=h.lt,ln:=by simp;omega
       frm:=fun k hk hne=>by rw[Jc (by omega)];exact h.frm k hk hne}
theorem PtI.step(h:PtI H HI id g B g4 q)(hs:∀i,i<H.length+1→H2[i]? =HI[i]?)(hl:HI.length≤H2.length):PtI H H2 id g B g4 q:=by
 have hn:=h.ln
 have ht:=h.lt
 exact{box:=by have:=h.box;unfold look at*;rw[hs _ (by omega)];exact this
       rd:=h.rd.same (hs _ (by omega)),lt:=ht,ln:=by omega
       frm:=fun k hk hne=>by rw[hs _ (by omega)];exact h.frm k hk hne}
theorem PtI.done(h:PtI H HI id g B g4 q)(hb:B≤B'+10){l:List UInt8}(hl:l.length≤6):Uo HI (putDQ H id g B') (W0 l):=by
 have hn:=h.ln
 refine⟨HI.take H.length,fun i b hb=> ?_,⟨l,rfl,hl⟩,(h.rd.mono hb).take h.lt,by simp;omega,fun i hi=> ?_⟩
 · by_cases hi:i<H.length
   · rwa [Jz hi]at hb
   · rw[List.getElem?_take_eq_none (by omega)]at hb;cases hb
 · by_cases hi':i<H.length
   · rw[Jz hi',h.frm i hi' (by simpa using hi)]
   · rw[List.getElem?_take_eq_none (by omega),Ju (by omega)]
end
end Go.Lg
