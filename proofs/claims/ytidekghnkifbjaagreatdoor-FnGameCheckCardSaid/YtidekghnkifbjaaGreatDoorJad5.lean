/- GpIC, GpJC, GpNA, GpNE, GpSC, GpXS, GpVH, GpUA, cut to what is needed. -/
import Derived.Test.YtidekghnkifbjaaGreatDoorJad4
import Derived.Test.YtidekghnkifbjaaGreatDoorJac2
import Derived.Test.YtidekghnkifbjaaGreatDoorJab3
import Derived.Test.YtidekghnkifbjaaGreatDoorJad2
import Derived.Test.YtidekghnkifbjaaGreatDoorJad3
import Derived.Test.YtidekghnkifbjaaGreatDoorJab7
import Derived.Test.YtidekghnkifbjaaGreatDoorJaa9
import Derived.Shelf.Strconv.Itoa0
import Derived.Shelf.Strconv.Itoa1
import Derived.Shelf.LaysM
import Derived.Shelf.Strconv.Itoa2
import Derived.Shelf.Strconv.Itoa3
import Derived.Test.YtidekghnkifbjaaGreatDoorJab5
import Derived.Test.YtidekghnkifbjaaGreatDoorJad1
open List renaming cons_append → Ja, getElem?_append_left → Jb, nil_append → Jc, replicate → Jd, length_cons → Je, length_nil → Jf, getElem?_set_ne → Ji, take_of_length_le → Js, length_take → JL, mem_append → JZ, mapM_cons → J3, mem_map → Qh, map_append → QB, mapM_nil → QC
open Nat renaming reduceAdd→zA,reduceMul→zM,reduceSub→zS,reduceEqDiff→zE,reduceLeDiff→zL
set_option linter.unusedSimpArgs false
set_option linter.unusedVariables false
set_option maxRecDepth 100000
namespace Go.Lg
open Go.Proofs
theorem Fy{β:Type}(P:Nat→Prop)[DecidablePred P](f:Nat→β):∀l:List Nat,(l.flatMap fun i=>if P i then[f i]else[])=(l.filter fun i=>decide (P i)).map f
 |[]=>rfl
 |x::l=>by
  rw[List.flatMap_cons,Fy P f l,List.filter_cons]
  by_cases h:P x
  · simp[h]
  · simp[h]
theorem JbS(s xs:List Int):UL s xs xs.length=((List.range xs.length).filter fun(i:Nat)=>decide (0<JA xs i∧JA xs i≠JA s i)).map fun(i:Nat)=>(i:Int):=by
 unfold UL
 rw[Js (by simp)]
 exact Fy (fun(i:Nat)=>0<JA xs i∧JA xs i≠JA s i) (fun(i:Nat)=>(i:Int)) _
theorem Jad{s xs:List Int}{i:Nat}:(i:Int)∈UL s xs xs.length↔i<xs.length∧0<JA xs i∧JA xs i≠JA s i:=by
 rw[JbS,Qh]
 constructor
 · rintro⟨j,hj,he⟩
   have:j=i:=by omega
   subst this
   rw[List.mem_filter,List.mem_range,decide_eq_true_eq]at hj
   exact hj
 · intro h
   exact⟨i,by rw[List.mem_filter,List.mem_range,decide_eq_true_eq];exact h,rfl⟩
theorem Jfu{s xs:List Int}{x:Int}(h:x∈UL s xs xs.length):∃i:Nat,x=i:=by
 rw[JbS,Qh]at h
 obtain⟨j,_,rfl⟩:=h
 exact⟨j,rfl⟩
theorem JkL{p:QV}(h:WH p 2=1):Jy p=true∧∃s,FU p=[s]∧UV p 2=[s]∧Rz p=s∧s.length=p.given.length:=by
 obtain⟨hv,s,h1,h2,h3⟩:=Jaw h
 refine⟨hv,s, ?_,h1,h2,h3⟩
 have h4:=h1
 rw[Jg9]at h4
 have hl:((FU p).take 2).length=1:=by rw[h4];rfl
 rw[JL]at hl
 rwa [Js (by omega)]at h4
theorem JgI{s xs:List Int}:Xj xs s↔UL s xs xs.length=[]:=by
 rw[List.eq_nil_iff_forall_not_mem]
 constructor
 · intro h x hx
   obtain⟨i,rfl⟩:=Jfu hx
   have:=Jad.1 hx
   exact this.2.2 (h i this.2.1).symm
 · intro h i hi
   by_cases hl:i<xs.length
   · by_cases he:JA s i=JA xs i
     · exact he
     · exact absurd (Jad.2 ⟨hl,hi,Ne.symm he⟩) (h _)
   · rw[Ww (by omega)]at hi;omega
theorem JiU{p:QV}{s:List Int}(hv:Jy p=true)(ha:FU p=[s]){xs:List Int}(hx:Q9 xs p.size.toNat):XD p xs=decide ((UL s xs xs.length).length=0):=by
 rw[JbC hv hx,decide_eq_decide]
 unfold Jeg
 rw[ha,List.length_eq_zero_iff,←JgI]
 by_cases h:Xj xs s
 · simp[h]
 · simp[h]
end Go.Lg

namespace Go.Lg
open Go.Proofs
attribute [-go_sem] J9 JE
structure YM(H:Jm)(c r:CV)(p:QV)(S1 S2:List Nat):Prop where
 g:Qw H c p.given S1
 rr:(r= .f .nil∧p.rules=[]∧S2=[])∨UW H r p.rules S2
 nd:(S1++S2).Nodup
 l:Jkl r
theorem Jd6{r:CV}{k:Nat}(h:Jkl r):Jkl (Uc k r):=by
 cases r with
 |f v=>cases v<;>exact h
 |_=>exact h
section
variable{H H':Jm}{c r:CV}{p:QV}{S1 S2:List Nat}
theorem YM.same(h:YM H c r p S1 S2)(hs:∀i∈S1++S2,H'[i]? =H[i]?):YM H' c r p S1 S2:=
 ⟨h.g.same fun i hi=>hs i (by simp[hi]),h.rr.imp id fun k=>k.same fun i hi=>hs i (by simp[hi]),h.nd,h.l⟩
theorem YM.lt(h:YM H c r p S1 S2):∀i∈S1++S2,i<H.length:=fun i hi=>by
 rcases JZ.1 hi with hi|hi
 · exact h.g.lt i hi
 · rcases h.rr with⟨_,_,rfl⟩|k
   · simp at hi
   · exact k.lt i hi
theorem YM.blk(h:YM H c r p S1 S2):(∀i∈S1++S2,∀b,H[i]? =some (some b)→∀x∈b.cs,Vr x=true)∧Vr c=true∧Vr r=true:=by
 refine⟨fun i hi=> ?_,h.g.scal1, ?_⟩
 · rcases JZ.1 hi with hi|hi
   · exact h.g.blk i hi
   · rcases h.rr with⟨_,_,rfl⟩|k
     · simp at hi
     · exact k.blk i hi
 · rcases h.rr with⟨rfl,_,_⟩|k
   · rfl
   · exact k.scal1
theorem YM.shift{H0:Jm}(h:YM H c r p S1 S2):YM (H0++Q2 H0.length H) (Uc H0.length c) (Uc H0.length r) p (S1.map (· +H0.length)) (S2.map (· +H0.length)):=by
 refine⟨h.g.shift, ?_, ?_,Jd6 h.l⟩
 · rcases h.rr with⟨rfl,h1,rfl⟩|k
   · exact .inl ⟨rfl,h1,rfl⟩
   · exact .inr k.shift
 · rw[←QB]
   exact List.pairwise_map.2 (h.nd.imp fun h h'=>h (by omega))
theorem YM.snap(h:YM H c r p S1 S2):[AV.agg [.f (.int .i64 p.size),c,r]].mapM (Zx H)=some [aP p]:=by
 have e1:∀x:Int,frzC H (.f (.int .i64 x))=some (.f (.int .i64 x)):=fun _=>rfl
 have e2:=h.g.frzC
 have e3:frzC H r=some (.f (Va eR p.rules)):=by
  rcases h.rr with⟨rfl,h1,_⟩|k
  · rw[h1];exact(ZV.n (E:=eR) (n:=3)).frzC
  · exact k.frzC
 simp only[Zx,J3,QC,e1,e2,e3,Option.bind_eq_bind,Option.pure_def,Option.bind_some,Option.map_some]
end
section
variable{P:Program}{o:Oper}{st:St}{K:KV}{fo:Operand}{xs:Array Operand}{ts:Array TypeId}{f:FuncId}{args args':List AV}{p:QV}
end
end Go.Lg

namespace Go.Lg
open Go.Proofs
structure Lat(s:List Int)(n:Nat):Prop where
 hn:n=2∨n=3∨n=4
 full:JkP n s
 nc:NC s n
theorem Lat.val{s:List Int}{n:Nat}(h:Lat s n){k:Nat}(hk:k<n*n):1≤(JA s k).toNat∧(JA s k).toNat≤n∧JA s k=((JA s k).toNat:Nat):=by
 have h1:=h.full.2 k hk
 have h2:=h.full.1.val k (by rw[h.full.1.len];exact hk)
 omega
theorem Lat.ne{s:List Int}{n:Nat}(h:Lat s n){a b:Nat}(ha:a<n*n)(hb:b<n*n)(hab:a≠b)(hl:a/n=b/n∨a%n=b%n):(JA s a).toNat≠(JA s b).toNat:=by
 have h1:=h.val ha
 have h2:=h.val hb
 rcases Nat.lt_or_ge a b with hlt|hge
 · have:=h.nc a b hlt hb hl (by omega)
   omega
 · have:=h.nc b a (by omega) ha (hl.imp Eq.symm Eq.symm) (by omega)
   omega
theorem JlP{n line i j:Nat}(hn:n=2∨n=3∨n=4)(hl:line<2*n)(hi:i<n)(hj:j<n):Vw n line i/n=Vw n line j/n∨Vw n line i%n=Vw n line j%n:=by
 unfold Vw
 rw[Wi hi,Wi hj]
 split
 · left;rcases hn with rfl|rfl|rfl<;>omega
 · right;rcases hn with rfl|rfl|rfl<;>omega
theorem Lat.line{s:List Int}{n:Nat}(h:Lat s n){line i j:Nat}(hl:line<2*n)(hi:i<n)(hj:j<n)(hij:i≠j):(JA s (Vw n line i)).toNat≠(JA s (Vw n line j)).toNat:=
 h.ne (Xc h.hn hl hi).1 (Xc h.hn hl hj).1 (fun e=>hij ((Jbg h.hn hl hi hj).1 e)) (JlP h.hn hl hi hj)
theorem Jef{p:QV}{n:Nat}{s:List Int}(h:QK p s n=true):clear p s=true∧(∀r∈p.rules,Ze r s n=true)∧UB s n=false:=by
 simp only[QK,Bool.and_eq_true,List.all_eq_true,Bool.not_eq_true']at h
 exact⟨h.1,h.2.1,h.2.2⟩
end Go.Lg

namespace Go.Lg
open Go.Proofs
def Jhe(a b:List Nat):Prop:=∀k i:Nat,(QH a k).testBit i=true→(QH b k).testBit i=true
theorem Jhe.refl(a:List Nat):Jhe a a:=fun _ _ h=>h
theorem Jhe.trans{a b c:List Nat}(h:Jhe a b)(g:Jhe b c):Jhe a c:=fun k i x=>g k i (h k i x)
theorem JgU{α:Type}{q:α→Bool}{L:List α}:L.countP q=L.length↔∀x∈L,q x=true:=by
 rw[List.countP_eq_length]
theorem JdF{p:QV}(hv:Jy p=true){xs:List Int}(hg:Q9 xs p.size.toNat):Uo p xs=true↔xs∈FU p:=by
 obtain⟨hp,ha⟩:=W0 hv
 have hz:((p.size.toNat:Nat):Int)=p.size:=(Ub.of hv).2
 have hgv:J8 xs p.size=true:=by have:=hg.valid hp.hn;rwa [hz]at this
 have hlen:p.given.length=xs.length:=by rw[ha.len,hg.len]
 have hpos:ZL xs p.size=xs.length↔∀k:Nat,k<xs.length→0<JA xs k:=by
  unfold ZL
  rw[if_pos hgv]
  have e:(((xs.countP fun v=>decide (0<v):Nat):Int)=xs.length)↔(xs.countP fun v=>decide (0<v))=xs.length:=by omega
  rw[e,JgU]
  constructor
  · intro h k hk
    have:=h xs[k] (List.getElem_mem _)
    rw[Qs (by omega)]
    exact of_decide_eq_true this
  · intro h x hx
    obtain⟨i,hi,rfl⟩:=List.getElem_of_mem hx
    have:=h i hi
    rw[Qs (by omega)]at this
    exact decide_eq_true this
 rw[Nz hv]
 unfold Uo Jjq JkP
 rw[hv,hgv,Bool.true_and,Bool.true_and,Bool.and_eq_true,decide_eq_true_eq,hpos]
 constructor
 · rintro⟨h1,h2⟩
   refine⟨⟨hg,fun k hk=>h2 k (by rw[hg.len];exact hk)⟩,fun k hk=> ?_,h1⟩
   have hc:=(Jef h1).1
   simp only[clear,decide_eq_true_eq]at hc
   by_cases hkl:k<xs.length
   · have:=hc k hkl
     have:=h2 k hkl
     omega
   · rw[Ww (by omega)]at hk;omega
 · rintro⟨⟨_,h1⟩,_,h2⟩
   exact⟨h2,fun k hk=>h1 k (by rw[←hg.len];exact hk)⟩
end Go.Lg

namespace Go.Lg
open Go.Proofs
theorem N2:¬Kd Un:=by decide
theorem GY{q:ZF}{n:Nat}(h:UJ q n):WI q Un=Ys q:=by
 unfold WI
 rw[if_pos h.valid,if_neg N2,if_neg (by decide),if_neg (by decide),if_pos rfl]
theorem Ki{q:ZF}{n:Nat}(h:UJ q n):Q9 (JK q) q.task.size.toNat:=by
 have hl:=h.ln
 have hz:q.task.size.toNat=n:=by have:=h.sz;omega
 rw[hz,h.grid]
 refine⟨by rw[Uz];exact h.gv.len,fun k hk=> ?_⟩
 rw[Uz]at hk
 rw[X6 hk]
 have a1:=h.gv.val k hk
 have a2:=h.pt.val k (by omega)
 omega
theorem JdG{p:QV}(hv:Jy p=true){xs:List Int}(hx:Q9 xs p.size.toNat)(h:Uo p xs=true):XD p xs=true:=by
 rw[JbC hv hx]
 refine decide_eq_true (List.length_pos_iff.2 fun h0=> ?_)
 have:=Je6.2 ⟨(JdF hv hx).1 h,Xj.refl xs⟩
 rw[h0]at this
 cases this
theorem Jdk{q:ZF}{n:Nat}(h:UJ q n):Ys q=if XD q.task (JK q)=false then BE else if Uo q.task (JK q)=true then FZ else Jfj:=by
 unfold Ys
 cases hs:Uo q.task (JK q)with
 |true=>
  rw[JdG h.pv (Ki h) hs]
  simp
 |false=>
  cases hc:XD q.task (JK q)<;>simp
theorem Jdj{q:ZF}{n:Nat}(h:UJ q n)(h1:WH q.task 2=1):decide (Ys q=BE)=decide (0<((Xw q.task (JK q)).length:Int)):=by
 obtain⟨hv,s,ha,ha2,_,hs⟩:=JkL h1
 have hg:=Ki h
 have hgv:J8 (JK q) q.task.size=true:=by
  have hz:q.task.size.toNat=n:=by have:=h.sz;omega
  have h2:=Ki h
  rw[hz]at h2
  rw[h.sz]
  exact h2.valid h.pz.hn
 have hw:Xw q.task (JK q)=UL s (JK q) (JK q).length:=by
  unfold Xw
  rw[if_pos ⟨hv,hgv⟩,ha2]
  rfl
 rw[Jdk h,JiU hv ha hg,hw]
 by_cases h0:(UL s (JK q) (JK q).length).length=0
 · rw[h0,if_neg (by simp)]
   have d:decide (0<((0:Nat):Int))=false:=rfl
   rw[d]
   refine decide_eq_false ?_
   split<;>decide
 · rw[decide_eq_false h0,if_pos rfl,decide_eq_true rfl]
   exact(decide_eq_true (by omega)).symm
end Go.Lg

namespace Go.Lg
open Go.Proofs Go.Shelf
def Jbj:Go.Shelf.Ren:=⟨fun|171=>92|243=>123|246=>147|283=>160|284=>161|285=>162|286=>163|129=>168|317=>167|318=>169|319=>170|320=>171|337=>173|338=>174|n=>n,fun|3=>3|9=>9|2=>2|4=>4|171=>146|0=>0|53=>147|37=>22|5=>5|173=>150|212=>156|51=>154|20=>20|213=>157|46=>143|232=>158|233=>159|n=>n,fun|17=>0|18=>1|19=>2|n=>n⟩
theorem Jiz:Go.Proofs.LaysM.n171 Tryz.prog Jbj:={
 mixed:=by kernel_rfl
 f129:=Tryz.func168.trans (congrArg some (by kernel_rfl))
 f171:=Tryz.func92.trans (congrArg some (by kernel_rfl))
 f243:=Tryz.func123.trans (congrArg some (by kernel_rfl))
 f246:=Tryz.func147.trans (congrArg some (by kernel_rfl))
 f283:=Tryz.func160.trans (congrArg some (by kernel_rfl))
 f284:=Tryz.func161.trans (congrArg some (by kernel_rfl))
 f285:=Tryz.func162.trans (congrArg some (by kernel_rfl))
 f286:=Tryz.func163.trans (congrArg some (by kernel_rfl))
 f317:=Tryz.func167.trans (congrArg some (by kernel_rfl))
 f318:=Tryz.func169.trans (congrArg some (by kernel_rfl))
 f319:=Tryz.func170.trans (congrArg some (by kernel_rfl))
 f320:=Tryz.func171.trans (congrArg some (by kernel_rfl))
 f337:=Tryz.func173.trans (congrArg some (by kernel_rfl))
 f338:=Tryz.func174.trans (congrArg some (by kernel_rfl))
 t0:=Tryz.underlying0
 a0:=Tryz.isAgg0
 z0:=Tryz.sizeOf0
 v0:=Tryz.zeroValue0
 t2:=Tryz.underlying2
 a2:=Tryz.isAgg2
 z2:=Tryz.sizeOf2
 v2:=Tryz.zeroValue2
 t3:=Tryz.underlying3
 a3:=Tryz.isAgg3
 z3:=Tryz.sizeOf3
 v3:=Tryz.zeroValue3
 t4:=Tryz.underlying4
 a4:=Tryz.isAgg4
 z4:=Tryz.sizeOf4
 v4:=Tryz.zeroValue4
 t5:=Tryz.underlying5
 a5:=Tryz.isAgg5
 z5:=Tryz.sizeOf5
 v5:=Tryz.zeroValue5
 t9:=Tryz.underlying9
 a9:=Tryz.isAgg9
 z9:=Tryz.sizeOf9
 v9:=Tryz.zeroValue9
 t20:=Tryz.underlying20
 a20:=Tryz.isAgg20
 z20:=Tryz.sizeOf20
 v20:=Tryz.zeroValue20
 t37:=Tryz.underlying22
 a37:=Tryz.isAgg22
 z37:=Tryz.sizeOf22
 v37:=Tryz.zeroValue22
 t46:=Tryz.underlying143
 a46:=Tryz.isAgg143
 z46:=Tryz.sizeOf143
 v46:=Tryz.zeroValue143
 t51:=Tryz.underlying154
 a51:=Tryz.isAgg154
 z51:=Tryz.sizeOf154
 v51:=Tryz.zeroValue154
 t53:=Tryz.underlying147
 a53:=Tryz.isAgg147
 z53:=Tryz.sizeOf147
 v53:=Tryz.zeroValue147
 t171:=Tryz.underlying146
 a171:=Tryz.isAgg146
 z171:=Tryz.sizeOf146
 v171:=Tryz.zeroValue146
 t173:=Tryz.underlying150
 a173:=Tryz.isAgg150
 z173:=Tryz.sizeOf150
 v173:=Tryz.zeroValue150
 t212:=Tryz.underlying156
 a212:=Tryz.isAgg156
 z212:=Tryz.sizeOf156
 v212:=Tryz.zeroValue156
 t213:=Tryz.underlying157
 a213:=Tryz.isAgg157
 z213:=Tryz.sizeOf157
 t232:=Tryz.underlying158
 a232:=Tryz.isAgg158
 z232:=Tryz.sizeOf158
 v232:=Tryz.zeroValue158
 t233:=Tryz.underlying159
 a233:=Tryz.isAgg159
 z233:=Tryz.sizeOf159
 v233:=Tryz.zeroValue159
 g17:=by kernel_rfl
 g18:=by kernel_rfl
 g19:=by kernel_rfl
 i0:=by kernel_rfl
 i2:=by kernel_rfl
 i3:=by kernel_rfl
 i4:=by kernel_rfl
 i5:=by kernel_rfl
 i9:=by kernel_rfl
 i20:=by kernel_rfl
 i37:=by kernel_rfl
 i46:=by kernel_rfl
 i51:=by kernel_rfl
 i53:=by kernel_rfl
 i171:=by kernel_rfl
 i173:=by kernel_rfl
 i212:=by kernel_rfl
 i232:=by kernel_rfl
 i233:=by kernel_rfl
 m17:=by kernel_rfl
 m18:=by kernel_rfl
 m19:=by kernel_rfl}
theorem Jea(n:Int)(h0: -9223372036854775808≤n)(h1:n≤9223372036854775807)(w:World)(htab:Go.Lib.TabIs Tryz.prog w "internal/strconv.uint64pow10" .u64 Go.Lib.pow10Tab):
 Calls Tryz.prog 92 #[.int .i64 n] w fun e w'=>e= .returned (.string ⟨(Go.Lib.itoa n).toArray⟩)∧∃k os,w'=Go.Sort.grow (w.drewN k) os:=Any.strconv_Itoa Jiz n h0 h1 w htab
theorem Jgk:Program.globalNamed Tryz.prog "internal/strconv.uint64pow10" =some 0:=by kernel_rfl
theorem Jix{w:World}{I:Nat→Prop}(h:N9 w I):Go.Lib.TabIs Tryz.prog w "internal/strconv.uint64pow10" .u64 Go.Lib.pow10Tab:=by
 obtain⟨_,_,cc,t,o,h1,h2⟩:=h.1 0 _ rfl
 unfold Go.Lib.TabIs World.var?
 rw[Jgk]
 simp only[Option.bind_some,h1]
 have e:cc=(Go.Lib.pow10Tab.map fun z=>Value.int .u64 z).toArray:=by
  apply Array.ext'
  rw[h2]
  rfl
 rw[e]
theorem Jgx(w:World)(k:Nat)(os:Array Obj):ZY w (Go.Sort.grow (w.drewN k) os):=by
 refine⟨fun b hb=> ?_, ?_,rfl,rfl,rfl⟩
 · show(w.heap++os)[b]? =w.heap[b]?
   rw[Array.getElem?_append_left hb]
 · show w.heap.size≤(w.heap++os).size
   simp
theorem Jjp(i:Int)(h0: -9223372036854775808≤i)(h1:i≤9223372036854775807):JW Tryz.prog 92 [int i] (Ye (Go.Lib.itoa i)):=by
 intro w X vs hH hvs
 obtain⟨hs,hv⟩:=hvs
 obtain⟨u,hu1,hu2⟩:=hv 0 (by simp)
 have e:vs= #[.int .i64 i]:=by
  have hu:u= .int .i64 i:=Vp hu2
  subst hu
  apply Array.ext'
  have hl:vs.toList.length=1:=by simpa using hs
  obtain⟨x,hx⟩:=List.length_eq_one_iff.1 hl
  have:vs.toList[0]? =some (.int .i64 i):=by rw[Array.getElem?_toList];exact hu1
  rw[hx]at this⊢
  simpa using this
 subst e
 refine(Jea i h0 h1 w (Jix hH.tab)).mono fun e w' ⟨he,k,os,hw⟩=> ?_
 subst hw
 have hg:=Jgx w k os
 exact⟨Ye (Go.Lib.itoa i),_,X,[],he, .c _ _ (VF.str _),hg.rel hH,hg.ev hH,rfl⟩
end Go.Lg

namespace Go.Lg
open Go.Proofs
theorem Jiy{v:Int}(h0:0≤v)(h9:v≤9):Go.Lib.itoa v=[u8 (48+v)]:=by
 unfold Go.Lib.itoa
 rw[if_neg (by omega),Go.Lib.decDigits,dif_pos (by omega)]
 unfold u8
 rw[show 48+v.toNat=(48+v).toNat by omega]
theorem JaP(i:Int)(h0:0≤i)(h9:i≤9):JW Tryz.prog 92 [int i] (Ye [u8 (48+i)]):=by
 rw[←Jiy h0 h9]
 exact Jjp i (by omega) (by omega)
theorem JbL(h:Hnt):JW Tryz.prog 49 [aH h] (Ye (Wb h)):=by
 refine Jn.cw (c:=_) Tryz.func49 rfl (n:=48) Tryz.ntmps49 (rs:=[.tmp 2]) rfl ?_
 simp only[Je,Jf,zA,zS,Jd,Ja,Jc]
 simp(maxSteps:=999999)(disch:=omega)only[go_sem,zA,zM,zS,zE,zL]
 intro g
 have no:¬Jbn h→Wb h=[]:=fun hk=>by unfold Wb;rw[if_neg hk]
 by_cases k1:h.tech<0
 · have d:decide (h.tech<0)=true:=decide_eq_true k1
   rw[no fun hk=>by have:=hk.1;omega]
   simp(maxSteps:=999999)(disch:=omega)only[go_sem,zA,zM,zS,zE,zL,d]
 have d1:decide (h.tech<0)=false:=decide_eq_false k1
 by_cases k2:4<h.tech
 · have d:decide (4<h.tech)=true:=decide_eq_true k2
   rw[no fun hk=>by have:=hk.1;omega]
   simp(maxSteps:=999999)(disch:=omega)only[go_sem,zA,zM,zS,zE,zL,d1,d]
 have d2:decide (4<h.tech)=false:=decide_eq_false k2
 by_cases k3:h.cell<0
 · have d:decide (h.cell<0)=true:=decide_eq_true k3
   rw[no fun hk=>by have:=hk.2.1;omega]
   simp(maxSteps:=999999)(disch:=omega)only[go_sem,zA,zM,zS,zE,zL,d1,d2,d]
 have d3:decide (h.cell<0)=false:=decide_eq_false k3
 by_cases k4:15<h.cell
 · have d:decide (15<h.cell)=true:=decide_eq_true k4
   rw[no fun hk=>by have:=hk.2.1;omega]
   simp(maxSteps:=999999)(disch:=omega)only[go_sem,zA,zM,zS,zE,zL,d1,d2,d3,d]
 have d4:decide (15<h.cell)=false:=decide_eq_false k4
 by_cases k5:h.val<1
 · have d:decide (h.val<1)=true:=decide_eq_true k5
   rw[no fun hk=>by have:=hk.2.2;omega]
   simp(maxSteps:=999999)(disch:=omega)only[go_sem,zA,zM,zS,zE,zL,d1,d2,d3,d4,d]
 have d5:decide (h.val<1)=false:=decide_eq_false k5
 by_cases k6:4<h.val
 · have d:decide (4<h.val)=true:=decide_eq_true k6
   rw[no fun hk=>by have:=hk.2.2;omega]
   simp(maxSteps:=999999)(disch:=omega)only[go_sem,zA,zM,zS,zE,zL,d1,d2,d3,d4,d5,d]
 have d6:decide (4<h.val)=false:=decide_eq_false k6
 have e:Wb h=JcW h:=by unfold Wb;rw[if_pos ⟨by omega,by omega,by omega⟩]
 rw[e]
 unfold JcW
 simp(maxSteps:=999999)(disch:=omega)only[go_sem,zA,zM,zS,zE,zL,d1,d2,d3,d4,d5,d6]
 refine Zj Zd (by kernel_rfl) ?_
 simp(maxSteps:=999999)(disch:=omega)only[go_sem,Nat.reduceBEq,Bool.true_or,zA,zM,zS,zE,zL]
 refine QY.rd (JaP h.val (by omega) (by omega)) (⟨_,Tryz.func92,rfl,rfl⟩:Jh Tryz.prog 92) rfl rfl rfl rfl ?_
 simp(maxSteps:=999999)(disch:=omega)only[go_sem,zA,zM,zS,zE,zL]
 refine QY.rd (JaP h.tech (by omega) (by omega)) (⟨_,Tryz.func92,rfl,rfl⟩:Jh Tryz.prog 92) rfl rfl rfl rfl ?_
 simp(maxSteps:=999999)(disch:=omega)only[go_sem,zA,zM,zS,zE,zL]
end Go.Lg

namespace Go.Lg
open Go.Proofs
attribute [-go_sem] J9 JE
def Rg(t:List UInt8):AV→AV:=fun v=> .tup [v,Ye t]
theorem Nh{H:Jm}{q q':ZF}{t t':List UInt8}{cs:List CV}{S:List Nat}(hq:q'=q)(ht:t'=t)(h:V6 H cs q S):Uy H (WL (Rg t') q') (.tup [.agg cs,Ye t]):=by
 subst hq ht
 exact⟨H,J0.refl _,cs,S,rfl,h⟩
theorem JgE{H:Jm}{q':ZF}{t':List UInt8}(hq:q'=F9)(ht:t'=[]):Uy H (nzQ (WL (Rg t') q')) (.tup [.agg [.f (.int .i64 0), .f .nil, .f .nil, .f .nil, .f .nil],Ye []]):=by
 subst hq ht
 exact⟨H,J0.refl _,_,[],rfl,⟨⟨_,_,_,_,[],[],[],[],rfl,rfl, .e, .e, .e, .e⟩,by simp⟩⟩
section
variable{P:Program}{o:Oper}{st:St}{K:KV}{fo:Operand}{xs:Array Operand}{ts:Array TypeId}{f:FuncId}{args args':List AV}
theorem JM.mkW{ops:Array Oper}{s:List AV}{H:Jm}{q:ZF}{b:Bool}(hc:Jn P f args' [] (WL (Yx b) q))(he:Jh P f)(ho:o.op= .call ⟨.value fo,xs,ts⟩)(ha:Qa ⟨s,H⟩ fo xs=some (f,args))(hs:args.mapM (Zx H)=some args')
 (hk:∀cs H' S,V6 (H++H') cs q S→(∀i∈S,H.length≤i∧i<H.length+H'.length)→K (.tup [.agg cs,bool b]) (H++H')):JM P ops o s H K:=
 JM.call ho ha fun s' ha'=>JY.mkDGB (st:=⟨s',H⟩) hc he ho ha' hs hk
theorem JW.ownGT{q:ZF}{t:List UInt8}(h:Jn P f args [] (WL (Rg t) q)):JW P f args (.tup [aG q,Ye t]):=
 JW.ice h fun r H' ⟨c,S,h1,h2⟩=>by
  subst h1
  have:=h2.snap
  simp only[Zx]at this
  simp only[Rg,VZ,J3,QC,XV,this,Option.pure_def,Option.bind_eq_bind,Option.bind_some,Option.map_some,frzC,frz]
end
theorem N0{q:ZF}{n:Nat}(h:UJ q n)(hf:Wx q.task (JK q)=false):XD q.task (JK q)=false:=by
 cases hc:XD q.task (JK q)with
 |false=>rfl
 |true=>
  have h1:=JiV h.pv (Ki h) hc
  have hgv:J8 (JK q) q.task.size=true:=by
   have hz:q.task.size.toNat=n:=by have:=h.sz;omega
   have h2:=Ki h
   rw[hz]at h2
   rw[h.sz]
   exact h2.valid h.pz.hn
  unfold Wx at hf
  rw[h.pv,hgv,h1]at hf
  cases hf
theorem Jda(b:Bool):JW Tryz.prog 47 [bool b] (Ye (if b=true then okT else noT)):=by
 refine Jn.cw (c:=_) Tryz.func47 rfl (n:=4) Tryz.ntmps47 (rs:=[.tmp 2]) rfl ?_
 simp only[Je,Jf,zA,zS,Jd,Ja,Jc]
 cases b with
 |true=>
  simp(maxSteps:=999999)(disch:=omega)only[go_sem,zA,zM,zS,zE,zL]
  rfl
 |false=>
  simp(maxSteps:=999999)(disch:=omega)only[go_sem,zA,zM,zS,zE,zL]
  rfl
theorem YY(s:List UInt8)(hs:s.length≤2^40)(h6:s.length=6):JW Tryz.prog 90 [Ye s,Ye [112,117,116,32]] (bool (decide (s.take 4=[112,117,116,32]))):=by
 have d:decide (((4:Nat):Int)≤(s.length:Int))=true:=decide_eq_true (by omega)
 have e:sub s 0 ((4:Nat):Int)=s.take 4:=rfl
 refine Jn.cw (c:=_) Tryz.func90 rfl (n:=18) Tryz.ntmps90 (rs:=[.tmp 4]) rfl ?_
 simp only[Je,Jf,zA,zS,Jd,Ja,Jc]
 simp(maxSteps:=999999)(disch:=omega)only[go_sem,zA,zM,zS,zE,zL,d,e]
theorem Wq(s:List UInt8)(hs:s.length≤2^40)(h6:s.length=6):JW Tryz.prog 45 [Ye s,Ye [112,117,116,32]] (bool (decide (s.take 4=[112,117,116,32]))):=by
 refine Jn.cw (c:=_) Tryz.func45 rfl (n:=8) Tryz.ntmps45 (rs:=[.tmp 4]) rfl ?_
 simp only[Je,Jf,zA,zS,Jd,Ja,Jc]
 simp(maxSteps:=999999)(disch:=omega)only[go_sem,zA,zM,zS,zE,zL]
 first|refine JY.rd (YY s hs h6) (⟨_,Tryz.func90,rfl,rfl⟩:Jh Tryz.prog 90) rfl rfl rfl rfl ?_|refine JM.rd (YY s hs h6) (⟨_,Tryz.func90,rfl,rfl⟩:Jh Tryz.prog 90) rfl rfl rfl rfl ?_
 simp(maxSteps:=999999)(disch:=omega)only[go_sem,zA,zM,zS,zE,zL]
set_option maxHeartbeats 4000000 in
theorem BB(q:ZF)(l:List UInt8)(hx:smG q)(hl:l.length≤2^40):Jn Tryz.prog 15 [aG q,Ye l] [] (WL (Rg (WI q l)) (VJ q l)):=by
 cases hv:Qo q with
 |false=>
  have e1:VJ q l=F9:=by unfold VJ;rw[hv];rfl
  have e2:WI q l=[]:=by unfold WI;rw[hv];rfl
  rw[e1,e2]
  refine Jn.nz ?_
  refine Jn.cw (c:=_) Tryz.func15 rfl (n:=118) Tryz.ntmps15 (rs:=[.cell 4 28, .tmp 5]) rfl ?_
  simp only[Je,Jf,zA,zS,Jd,Ja,Jc]
  simp(maxSteps:=999999)(disch:=omega)only[go_sem,zA,zM,zS,zE,zL]
  intro g1 g2
  first|refine JY.rd (ZH q hx) (⟨_,Tryz.func34,rfl,rfl⟩:Jh Tryz.prog 34) rfl rfl rfl rfl ?_|refine JM.rd (ZH q hx) (⟨_,Tryz.func34,rfl,rfl⟩:Jh Tryz.prog 34) rfl rfl rfl rfl ?_
  simp(maxSteps:=999999)(disch:=omega)only[go_sem,zA,zM,zS,zE,zL]
  rw[hv]
  simp(maxSteps:=999999)(disch:=omega)only[go_sem,zA,zM,zS,zE,zL]
  exact JgE rfl rfl
 |true=>
 refine Jn.cw (c:=_) Tryz.func15 rfl (n:=118) Tryz.ntmps15 (rs:=[.cell 4 28, .tmp 5]) rfl ?_
 simp only[Je,Jf,zA,zS,Jd,Ja,Jc]
 simp(maxSteps:=999999)(disch:=omega)only[go_sem,zA,zM,zS,zE,zL]
 intro g1 g2
 first|refine JY.rd (ZH q hx) (⟨_,Tryz.func34,rfl,rfl⟩:Jh Tryz.prog 34) rfl rfl rfl rfl ?_|refine JM.rd (ZH q hx) (⟨_,Tryz.func34,rfl,rfl⟩:Jh Tryz.prog 34) rfl rfl rfl rfl ?_
 simp(maxSteps:=999999)(disch:=omega)only[go_sem,zA,zM,zS,zE,zL]
 rw[hv]
 have hgl:=Wo hv
 have eG:VJ q l=if Kd l then ZM q (X4 l 4 -97) (X4 l 5 -48)else if l=YJ then QI q else q:=by unfold VJ;rw[if_pos hv]
 have eT:WI q l=if Kd l then(if Zg q (X4 l 4 -97) (X4 l 5 -48)=true then okT else noT)else if l=YJ then(if QT q=true then okT else noT)else if l=Kf then(if Vo q.task (JK q)=true then Wb (UK q.task (JK q))else Je4)else if l=Un then Ys q else RF:=by unfold WI;rw[if_pos hv]
 simp(maxSteps:=999999)(disch:=omega)only[go_sem,zA,zM,zS,zE,zL]
 refine JY.mkG (Jbz q hx) (⟨_,Tryz.func44,rfl,rfl⟩:Jh Tryz.prog 44) rfl rfl rfl ?_
 intro cs H1 S1 hG1 hS1
 obtain⟨c1,c2,c3,c4,T1,T2,T3,T4,rfl,eS,k1,k2,k3,k4⟩:=hG1.ex
 simp only[Je,Jf,Ja,Jc]at hS1 hG1
 clear k1 k2 k3 k4 eS
 simp(maxSteps:=999999)(disch:=omega)only[go_sem,zA,zM,zS,zE,zL]
 intro g3
 simp(maxSteps:=999999)(disch:=omega)only[go_sem,zA,zM,zS,zE,zL,JI,QP]
 obtain⟨HA,hHA⟩:∃HA:Jm,HA=some ⟨g1,1,cG q⟩::some ⟨g2,5,[.f (.int .i64 0), .f .nil, .f .nil, .f .nil, .f .nil]⟩::(H1++[some ⟨g3,5,[.f (.int .i64 q.task.size),c1,c2,c3,c4]⟩]):=⟨_,rfl⟩
 have b0:look HA 0 g1=some ⟨g1,1,cG q⟩:=by rw[hHA];simp only[go_sem]
 have b1:look HA 1 g2=some ⟨g2,5,[.f (.int .i64 0), .f .nil, .f .nil, .f .nil, .f .nil]⟩:=by rw[hHA];simp only[go_sem]
 have bs:look HA (H1.length+1+1) g3=some ⟨g3,5,[.f (.int .i64 q.task.size),c1,c2,c3,c4]⟩:=by rw[hHA];simp only[go_sem];exact JI
 have hlA:HA.length=H1.length+3:=by rw[hHA];simp
 have hG:V6 HA [.f (.int .i64 q.task.size),c1,c2,c3,c4] q S1:=by
  rw[hHA]
  exact hG1.app (H':=[some ⟨g3,5,[.f (.int .i64 q.task.size),c1,c2,c3,c4]⟩])
 have hm:∀k∈S1,2≤k:=fun k hk=>by have:=hS1 k hk;omega
 first|refine JY.mk (JW.ownI (Vm q hx)) (⟨_,Tryz.func9,rfl,rfl⟩:Jh Tryz.prog 9) rfl rfl rfl rfl rfl ?_|refine JM.mk (JW.ownI (Vm q hx)) (⟨_,Tryz.func9,rfl,rfl⟩:Jh Tryz.prog 9) rfl rfl rfl rfl rfl ?_
 simp(maxSteps:=999999)(disch:=omega)only[go_sem,zA,zM,zS,zE,zL]
 rw[←hHA]
 clear hHA hG1
 have hSk:∀(b:Option Zv),∀k∈S1,(HA.set 1 b)[k]? =HA[k]? :=fun b k hk=>Ji (by have:=hm k hk;omega)
 have hSet:∀b,look (HA.set 1 (some ⟨g2,5,b⟩)) 1 g2=some ⟨g2,5,b⟩:=fun b=>JU (by omega)
 have finS:∀(H2:Jm) (t:List UInt8),(∀k∈S1,H2[k]? =HA[k]?)→VJ q l=q→WI q l=t→Uy H2 (WL (Rg (WI q l)) (VJ q l)) (.tup [.agg [.f (.int .i64 q.task.size),c1,c2,c3,c4],Ye t]):=fun H2 t hk e1 e2=>Nh e1 e2 (hG.same hk)
 by_cases hp:Kd l
 · obtain⟨h1,h2,⟨h3,h4⟩,h5,h6⟩:=id hp
   have d1:decide ((l.length:Int)=6)=true:=decide_eq_true (by omega)
   have d2:decide (l.take 4=[112,117,116,32])=true:=decide_eq_true h2
   have d3:decide (97≤X4 l 4)=true:=decide_eq_true h3
   have d4:decide (X4 l 4≤122)=true:=decide_eq_true h4
   have d5:decide (48≤X4 l 5)=true:=decide_eq_true h5
   have d6:decide (X4 l 5≤57)=true:=decide_eq_true h6
   rw[eG,eT,if_pos hp,if_pos hp]
   simp(maxSteps:=999999)(disch:=omega)only[go_sem,zA,zM,zS,zE,zL,d1]
   first|refine JY.rd (Wq l hl h1) (⟨_,Tryz.func45,rfl,rfl⟩:Jh Tryz.prog 45) rfl rfl rfl rfl ?_|refine JM.rd (Wq l hl h1) (⟨_,Tryz.func45,rfl,rfl⟩:Jh Tryz.prog 45) rfl rfl rfl rfl ?_
   simp(maxSteps:=999999)(disch:=omega)only[go_sem,zA,zM,zS,zE,zL]
   simp(maxSteps:=999999)(disch:=omega)only[go_sem,zA,zM,zS,zE,zL,d2,d3,d4,d5,d6]
   refine Jbw [0,1,2,3,4,5,6,7,8,13,9,10,11,12] [] (some 13) [14,15] 12 [] Zd (by kernel_rfl) ?_
   iterate 11 (rw[JE];simp(maxSteps:=999999)(disch:=omega)only[go_sem,zA,zM,zS,zE,zL,b0])
   refine JM.mkW (Jds q (X4 l 4 -97) (X4 l 5 -48) hx) (⟨_,Tryz.func46,rfl,rfl⟩:Jh Tryz.prog 46) rfl rfl (W5 Jb3 rfl rfl) ?_
   intro cs2 H2 S2 hG2 hS2
   obtain⟨e1,e2,e3,e4,U1,U2,U3,U4,rfl,eU,m1,m2,m3,m4⟩:=hG2.ex
   clear m1 m2 m3 m4 eU
   obtain⟨HB,hHB⟩:∃HB:Jm,HB=HA++H2:=⟨_,rfl⟩
   have hlB:HB.length=HA.length+H2.length:=by rw[hHB];simp
   have c1':look HB 1 g2=some ⟨g2,5,[.f (.int .i64 0), .f .nil, .f .nil, .f .nil, .f .nil]⟩:=by rw[hHB];exact JX b1
   rw[←hHB]at hG2
   simp(maxSteps:=999999)(disch:=omega)only[go_sem,zA,zM,zS,zE,zL]
   rw[←hHB]
   clear hHB
   iterate 3 (rw[JE];simp(maxSteps:=999999)(disch:=omega)only[go_sem,zA,zM,zS,zE,zL])
   intro g4
   refine RI rfl (.inr rfl) ?_
   simp(maxSteps:=999999)(disch:=omega)only[go_sem,zA,zM,zS,zE,zL,JI,QP]
   refine RI rfl (.inl rfl) ?_
   simp(maxSteps:=999999)(disch:=omega)only[go_sem,zA,zM,zS,zE,zL]
   refine Q4 [0,1,2] [] none [3,4] [] [0,0,2,7,15] Zd (by kernel_rfl) ?_
   iterate 2 (rw[JE];simp(maxSteps:=999999)(disch:=omega)only[go_sem,zA,zM,zS,zE,zL,JI])
   rw[JE]
   simp(maxSteps:=999999)(disch:=omega)only[go_sem,zA,zM,zS,zE,zL]
   refine JM.rd (Jda (Zg q (X4 l 4 -97) (X4 l 5 -48))) (⟨_,Tryz.func47,rfl,rfl⟩:Jh Tryz.prog 47) rfl rfl rfl rfl ?_
   have hSet3:∀x b,look ((HB++[x]).set 1 (some ⟨g2,5,b⟩)) 1 g2=some ⟨g2,5,b⟩:=fun x b=>JU (by simp;omega)
   have c2':∀b,look (HB++[b]) 1 g2=some ⟨g2,5,[.f (.int .i64 0), .f .nil, .f .nil, .f .nil, .f .nil]⟩:=fun b=>JX c1'
   simp(maxSteps:=999999)(disch:=omega)only[go_sem,zA,zM,zS,zE,zL,c2',hSet3]
   exact Nh rfl rfl ((hG2.app (H':=[_])).same fun i hi=>Ji (by have:=hS2 i hi;omega))
 · by_cases hb:l=YJ
   · subst hb
     have d1:decide ((YJ.length:Int)=6)=false:=rfl
     have d2:decide (YJ=[98,97,99,107])=true:=rfl
     rw[eG,eT,if_neg hp,if_neg hp,if_pos rfl,if_pos rfl]
     simp(maxSteps:=999999)(disch:=omega)only[go_sem,zA,zM,zS,zE,zL,d1,d2,b0]
     refine JY.mkDGB (JbN q hx) (⟨_,Tryz.func48,rfl,rfl⟩:Jh Tryz.prog 48) rfl rfl (Jb2 Jb3) ?_
     intro cs2 H2 S2 hG2 hS2
     obtain⟨e1,e2,e3,e4,U1,U2,U3,U4,rfl,eU,m1,m2,m3,m4⟩:=hG2.ex
     clear m1 m2 m3 m4 eU
     obtain⟨HB,hHB⟩:∃HB:Jm,HB=HA++H2:=⟨_,rfl⟩
     have hlB:HB.length=HA.length+H2.length:=by rw[hHB];simp
     have c1':look HB 1 g2=some ⟨g2,5,[.f (.int .i64 0), .f .nil, .f .nil, .f .nil, .f .nil]⟩:=by rw[hHB];exact JX b1
     simp only at hG2 hS2⊢
     rw[←hHB]at hG2⊢
     clear hHB
     simp(maxSteps:=999999)(disch:=omega)only[go_sem,zA,zM,zS,zE,zL]
     intro g4
     simp(maxSteps:=999999)(disch:=omega)only[go_sem,zA,zM,zS,zE,zL,JI,QP]
     refine Q4 [0,1,2] [] none [3,4] [] [0,0,2,7,15] Zd (by kernel_rfl) ?_
     iterate 2 (rw[JE];simp(maxSteps:=999999)(disch:=omega)only[go_sem,zA,zM,zS,zE,zL,JI])
     rw[JE]
     simp(maxSteps:=999999)(disch:=omega)only[go_sem,zA,zM,zS,zE,zL]
     refine JM.rd (Jda (QT q)) (⟨_,Tryz.func47,rfl,rfl⟩:Jh Tryz.prog 47) rfl rfl rfl rfl ?_
     have hSet3:∀x b,look ((HB++[x]).set 1 (some ⟨g2,5,b⟩)) 1 g2=some ⟨g2,5,b⟩:=fun x b=>JU (by simp;omega)
     have c2':∀b,look (HB++[b]) 1 g2=some ⟨g2,5,[.f (.int .i64 0), .f .nil, .f .nil, .f .nil, .f .nil]⟩:=fun b=>JX c1'
     simp(maxSteps:=999999)(disch:=omega)only[go_sem,zA,zM,zS,zE,zL,c2',hSet3]
     exact Nh rfl rfl ((hG2.app (H':=[_])).same fun i hi=>Ji (by have:=hS2 i hi;omega))
   by_cases hh:l=Kf
   · subst hh
     have d1:decide ((Kf.length:Int)=6)=false:=rfl
     have d2:decide (Kf=[98,97,99,107])=false:=rfl
     have d3:decide (Kf=[104,105,110,116])=true:=rfl
     simp(maxSteps:=999999)(disch:=omega)only[go_sem,zA,zM,zS,zE,zL,d1,d2,d3,b0]
     first|refine JY.mk (By q.task (JK q) hx.1 (by omega)) (⟨_,Tryz.func33,rfl,rfl⟩:Jh Tryz.prog 33) rfl rfl rfl rfl rfl ?_|refine JM.mk (By q.task (JK q) hx.1 (by omega)) (⟨_,Tryz.func33,rfl,rfl⟩:Jh Tryz.prog 33) rfl rfl rfl rfl rfl ?_
     simp(maxSteps:=999999)(disch:=omega)only[go_sem,zA,zM,zS,zE,zL]
     intro g4
     simp(maxSteps:=999999)(disch:=omega)only[go_sem,zA,zM,zS,zE,zL,JI,QP]
     have c1':∀b,look (HA++[b]) 1 g2=some ⟨g2,5,[.f (.int .i64 0), .f .nil, .f .nil, .f .nil, .f .nil]⟩:=fun b=>JX b1
     have cs':∀b,look (HA++[b]) (H1.length+1+1) g3=some ⟨g3,5,[.f (.int .i64 q.task.size),c1,c2,c3,c4]⟩:=fun b=>JX bs
     have hSet2:∀x b,look ((HA++[x]).set 1 (some ⟨g2,5,b⟩)) 1 g2=some ⟨g2,5,b⟩:=fun x b=>JU (by simp;omega)
     have hSk2:∀(x b:Option Zv),∀k∈S1,((HA++[x]).set 1 b)[k]? =HA[k]? :=fun x b k hk=>by
      rw[Ji (by have:=hm k hk;omega),Jb (hG.lt k hk)]
     cases hhb:Vo q.task (JK q)with
     |false=>
      simp(maxSteps:=999999)(disch:=omega)only[go_sem,zA,zM,zS,zE,zL,c1',cs',hSet2]
      exact finS _ Je4 (hSk2 _ _) (by rw[eG,if_neg hp,if_neg hb]) (by rw[eT,if_neg hp,if_neg hb,if_pos rfl,hhb];rfl)
     |true=>
      simp(maxSteps:=999999)(disch:=omega)only[go_sem,zA,zM,zS,zE,zL,c1',cs',hSet2]
      refine Q4 [0,1,2] [] none [3,4] [] [0,0,2,7,15] Zd (by kernel_rfl) ?_
      iterate 2 (rw[JE];simp(maxSteps:=999999)(disch:=omega)only[go_sem,zA,zM,zS,zE,zL,cs',JI])
      rw[JE]
      simp(maxSteps:=999999)(disch:=omega)only[go_sem,zA,zM,zS,zE,zL]
      refine JM.rd (JbL (UK q.task (JK q))) (⟨_,Tryz.func49,rfl,rfl⟩:Jh Tryz.prog 49) rfl rfl rfl rfl ?_
      simp(maxSteps:=999999)(disch:=omega)only[go_sem,zA,zM,zS,zE,zL,c1',hSet2]
      exact finS _ (Wb (UK q.task (JK q))) (hSk2 _ _) (by rw[eG,if_neg hp,if_neg hb]) (by rw[eT,if_neg hp,if_neg hb,if_pos rfl,hhb];rfl)
   by_cases hc:l=Un
   · subst hc
     have d1:decide ((Un.length:Int)=6)=false:=rfl
     have d2:decide (Un=[98,97,99,107])=false:=rfl
     have d3:decide (Un=[104,105,110,116])=false:=rfl
     have d4:decide (Un=[99,104,101,99,107])=true:=rfl
     simp(maxSteps:=999999)(disch:=omega)only[go_sem,zA,zM,zS,zE,zL,d1,d2,d3,d4,b0]
     first|refine JY.rd (UI q.task (JK q) hx.1 (by omega)) (⟨_,Tryz.func50,rfl,rfl⟩:Jh Tryz.prog 50) rfl rfl rfl rfl ?_|refine JM.rd (UI q.task (JK q) hx.1 (by omega)) (⟨_,Tryz.func50,rfl,rfl⟩:Jh Tryz.prog 50) rfl rfl rfl rfl ?_
     simp(maxSteps:=999999)(disch:=omega)only[go_sem,zA,zM,zS,zE,zL]
     obtain⟨n,hN⟩:=UJ.of hv
     have eC:WI q Un=if XD q.task (JK q)=false then BE else if Uo q.task (JK q)=true then FZ else Jfj:=by
      rw[GY hN,Jdk hN]
     have eg:VJ q Un=q:=by rw[eG,if_neg hp,if_neg hb]
     have wr:∀(H2:Jm),(∀k∈S1,H2[k]? =HA[k]?)→XD q.task (JK q)=false→Uy H2 (WL (Rg (WI q Un)) (VJ q Un)) (.tup [.agg [.f (.int .i64 q.task.size),c1,c2,c3,c4],Ye BE]):=fun H2 hk h=>finS H2 BE hk eg (by rw[eC,h];rfl)
     cases hf:Wx q.task (JK q)with
     |false=>
      simp(maxSteps:=999999)(disch:=omega)only[go_sem,zA,zM,zS,zE,zL,b1,bs,hSet]
      exact wr _ (hSk _) (N0 hN hf)
     |true=>
      simp(maxSteps:=999999)(disch:=omega)only[go_sem,zA,zM,zS,zE,zL,b0]
      first|refine JY.rd (Rf q.task (JK q) hx.1 (by omega)) (⟨_,Tryz.func51,rfl,rfl⟩:Jh Tryz.prog 51) rfl rfl rfl rfl ?_|refine JM.rd (Rf q.task (JK q) hx.1 (by omega)) (⟨_,Tryz.func51,rfl,rfl⟩:Jh Tryz.prog 51) rfl rfl rfl rfl ?_
      simp(maxSteps:=999999)(disch:=omega)only[go_sem,zA,zM,zS,zE,zL]
      cases hcf:XD q.task (JK q)with
      |false=>
       simp(maxSteps:=999999)(disch:=omega)only[go_sem,zA,zM,zS,zE,zL,b1,bs,hSet]
       exact wr _ (hSk _) hcf
      |true=>
       simp(maxSteps:=999999)(disch:=omega)only[go_sem,zA,zM,zS,zE,zL,b0]
       first|refine JY.rd (X9 q.task (JK q) hx.1 (by omega)) (⟨_,Tryz.func52,rfl,rfl⟩:Jh Tryz.prog 52) rfl rfl rfl rfl ?_|refine JM.rd (X9 q.task (JK q) hx.1 (by omega)) (⟨_,Tryz.func52,rfl,rfl⟩:Jh Tryz.prog 52) rfl rfl rfl rfl ?_
       simp(maxSteps:=999999)(disch:=omega)only[go_sem,zA,zM,zS,zE,zL]
       cases hso:Uo q.task (JK q)with
       |true=>
        simp(maxSteps:=999999)(disch:=omega)only[go_sem,zA,zM,zS,zE,zL,b1,bs,hSet]
        exact finS _ FZ (hSk _) eg (by rw[eC,hcf,hso];rfl)
       |false=>
        simp(maxSteps:=999999)(disch:=omega)only[go_sem,zA,zM,zS,zE,zL,b1,bs,hSet]
        exact finS _ Jfj (hSk _) eg (by rw[eC,hcf,hso];rfl)
   have d2:decide (l=[98,97,99,107])=false:=decide_eq_false hb
   have d3:decide (l=[104,105,110,116])=false:=decide_eq_false hh
   have d4:decide (l=[99,104,101,99,107])=false:=decide_eq_false hc
   by_cases p1:l.length=6
   rotate_left
   · have p2:decide ((l.length:Int)=6)=false:=decide_eq_false (by omega)
     simp(maxSteps:=999999)(disch:=omega)only[go_sem,zA,zM,zS,zE,zL,p2,d2,d3,d4,b1,bs,hSet]
     exact finS _ RF (hSk _) (by rw[eG,if_neg hp,if_neg hb]) (by rw[eT,if_neg hp,if_neg hb,if_neg hh,if_neg hc])
   have d1:decide ((l.length:Int)=6)=true:=decide_eq_true (by omega)
   simp(maxSteps:=999999)(disch:=omega)only[go_sem,zA,zM,zS,zE,zL,d1]
   first|refine JY.rd (Wq l hl p1) (⟨_,Tryz.func45,rfl,rfl⟩:Jh Tryz.prog 45) rfl rfl rfl rfl ?_|refine JM.rd (Wq l hl p1) (⟨_,Tryz.func45,rfl,rfl⟩:Jh Tryz.prog 45) rfl rfl rfl rfl ?_
   simp(maxSteps:=999999)(disch:=omega)only[go_sem,zA,zM,zS,zE,zL]
   by_cases q2:l.take 4=[112,117,116,32]
   rotate_left
   · have p2:=decide_eq_false q2
     simp(maxSteps:=999999)(disch:=omega)only[go_sem,zA,zM,zS,zE,zL,p2,d2,d3,d4,b1,bs,hSet]
     exact finS _ RF (hSk _) (by rw[eG,if_neg hp,if_neg hb]) (by rw[eT,if_neg hp,if_neg hb,if_neg hh,if_neg hc])
   have e2:=decide_eq_true q2
   by_cases p3:97≤X4 l 4
   rotate_left
   · have p2:=decide_eq_false p3
     simp(maxSteps:=999999)(disch:=omega)only[go_sem,zA,zM,zS,zE,zL,e2]
     simp(maxSteps:=999999)(disch:=omega)only[go_sem,zA,zM,zS,zE,zL,p2,d2,d3,d4,b1,bs,hSet]
     exact finS _ RF (hSk _) (by rw[eG,if_neg hp,if_neg hb]) (by rw[eT,if_neg hp,if_neg hb,if_neg hh,if_neg hc])
   have e3:=decide_eq_true p3
   by_cases p4:X4 l 4≤122
   rotate_left
   · have p2:=decide_eq_false p4
     simp(maxSteps:=999999)(disch:=omega)only[go_sem,zA,zM,zS,zE,zL,e2,e3]
     simp(maxSteps:=999999)(disch:=omega)only[go_sem,zA,zM,zS,zE,zL,p2,d2,d3,d4,b1,bs,hSet]
     exact finS _ RF (hSk _) (by rw[eG,if_neg hp,if_neg hb]) (by rw[eT,if_neg hp,if_neg hb,if_neg hh,if_neg hc])
   have e4:=decide_eq_true p4
   by_cases p5:48≤X4 l 5
   rotate_left
   · have p2:=decide_eq_false p5
     simp(maxSteps:=999999)(disch:=omega)only[go_sem,zA,zM,zS,zE,zL,e2,e3,e4]
     simp(maxSteps:=999999)(disch:=omega)only[go_sem,zA,zM,zS,zE,zL,p2,d2,d3,d4,b1,bs,hSet]
     exact finS _ RF (hSk _) (by rw[eG,if_neg hp,if_neg hb]) (by rw[eT,if_neg hp,if_neg hb,if_neg hh,if_neg hc])
   have e5:=decide_eq_true p5
   have p6:¬X4 l 5≤57:=fun p6=>hp ⟨p1,q2,⟨p3,p4⟩,p5,p6⟩
   have p2:=decide_eq_false p6
   simp(maxSteps:=999999)(disch:=omega)only[go_sem,zA,zM,zS,zE,zL,e2,e3,e4,e5]
   simp(maxSteps:=999999)(disch:=omega)only[go_sem,zA,zM,zS,zE,zL,p2,d2,d3,d4,b1,bs,hSet]
   exact finS _ RF (hSk _) (by rw[eG,if_neg hp,if_neg hb]) (by rw[eT,if_neg hp,if_neg hb,if_neg hh,if_neg hc])
end Go.Lg
