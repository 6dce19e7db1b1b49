/- GpXU, GpEE, GpEF, GpEG, GpEI, GpHA, GpMA, GpMD, GpME, GpMG, GpQ, GpMK, GpTA, GpTG, cut to what is needed. -/
import Derived.Test.YtiahmfdabpafoaaGreatDoorKad5
import Derived.Test.YtiahmfdabpafoaaGreatDoorKad4
import Derived.Shelf.Strings.Split
import Derived.Shelf.Strings.Count
import Derived.Lib.CountLaws
import Derived.Lib.SplitLaws
import Derived.Shelf.Strings.Search3
import Derived.Test.YtiahmfdabpafoaaGreatDoorKac4
import Derived.Test.YtiahmfdabpafoaaGreatDoorKac5
import Derived.Test.YtiahmfdabpafoaaGreatDoorKac7
import Derived.Test.YtiahmfdabpafoaaGreatDoorKad2
import Derived.Test.YtiahmfdabpafoaaGreatDoorKab2
import Derived.Test.YtiahmfdabpafoaaGreatDoorKab7
import Derived.Test.YtiahmfdabpafoaaGreatDoorKad0
import Derived.Test.YtiahmfdabpafoaaGreatDoorKac3
import Derived.Test.YtiahmfdabpafoaaGreatDoorKab4
open List renaming getElem?_eq_some_iff → Ja, getElem?_append_left → Jb, cons_append → Jc, nil_append → Jd, length_cons → Jf, replicate → Jg, getElem?_eq_getElem → Jh, getElem?_set_ne → Jj, length_nil → Jl, take_of_length_le → Jn, length_set → Jt, getElem?_eq_none → Ju, append_nil → Jv, drop_zero → JB, mem_append → JF, getElem?_take_of_lt → JG, length_map → JL, mem_cons → JV, getElem?_set_self → J0, map_cons → Qf, nodup_cons → Qn, getElem?_map → Qo, nodup_append → QR, not_mem_nil → Q9, map_nil → ZC, sum_cons → UV
open Nat renaming reduceAdd→zA,reduceMul→zM,reduceSub→zS,reduceEqDiff→zE,reduceLeDiff→zL
set_option linter.unusedSimpArgs false
set_option linter.unusedVariables false
set_option maxRecDepth 100000
namespace Go.Lg
open Go.Proofs Go.Shelf
def BT:Go.Shelf.Ren:=⟨fun|143=>64|219=>78|217=>66|225=>94|224=>95|267=>96|266=>79|314=>107|n=>n,fun|9=>9|3=>3|4=>4|5=>5|46=>110|146=>127|51=>120|n=>n,fun|1=>0|n=>n⟩
theorem Jc2:Go.Proofs.Lays.n143 Tryz.prog BT:={
 mixed:=by kernel_rfl
 f143:=Tryz.func64.trans (congrArg some (by kernel_rfl))
 f217:=Tryz.func66.trans (congrArg some (by kernel_rfl))
 f219:=Tryz.func78.trans (congrArg some (by kernel_rfl))
 f224:=Tryz.func95.trans (congrArg some (by kernel_rfl))
 f225:=Tryz.func94.trans (congrArg some (by kernel_rfl))
 f266:=Tryz.func79.trans (congrArg some (by kernel_rfl))
 f267:=Tryz.func96.trans (congrArg some (by kernel_rfl))
 f314:=Tryz.func107.trans (congrArg some (by kernel_rfl))
 t3:=Tryz.underlying3
 a3:=Tryz.isAgg3
 z3:=Tryz.sizeOf3
 v3:=Tryz.zeroValue3
 t4:=Tryz.underlying4
 a4:=Tryz.isAgg4
 z4:=Tryz.sizeOf4
 v4:=Tryz.zeroValue4
 t5:=Tryz.underlying5
 a5:=Tryz.isAgg5
 z5:=Tryz.sizeOf5
 v5:=Tryz.zeroValue5
 t9:=Tryz.underlying9
 a9:=Tryz.isAgg9
 z9:=Tryz.sizeOf9
 v9:=Tryz.zeroValue9
 t46:=Tryz.underlying110
 a46:=Tryz.isAgg110
 z46:=Tryz.sizeOf110
 v46:=Tryz.zeroValue110
 t51:=Tryz.underlying120
 a51:=Tryz.isAgg120
 z51:=Tryz.sizeOf120
 v51:=Tryz.zeroValue120
 t146:=Tryz.underlying127
 a146:=Tryz.isAgg127
 z146:=Tryz.sizeOf127
 v146:=Tryz.zeroValue127
 g1:=by kernel_rfl}
def BV:Go.Shelf.Ren:=⟨fun|138=>63|195=>75|218=>77|143=>64|219=>78|217=>66|225=>94|224=>95|267=>96|266=>79|314=>107|n=>n,fun|9=>9|3=>3|4=>4|5=>5|0=>0|46=>110|146=>127|51=>120|n=>n,fun|1=>0|n=>n⟩
theorem Jdw:Go.Proofs.Lays.n138 Tryz.prog BV:={
 mixed:=by kernel_rfl
 f138:=Tryz.func63.trans (congrArg some (by kernel_rfl))
 f143:=Tryz.func64.trans (congrArg some (by kernel_rfl))
 f195:=Tryz.func75.trans (congrArg some (by kernel_rfl))
 f217:=Tryz.func66.trans (congrArg some (by kernel_rfl))
 f218:=Tryz.func77.trans (congrArg some (by kernel_rfl))
 f219:=Tryz.func78.trans (congrArg some (by kernel_rfl))
 f224:=Tryz.func95.trans (congrArg some (by kernel_rfl))
 f225:=Tryz.func94.trans (congrArg some (by kernel_rfl))
 f266:=Tryz.func79.trans (congrArg some (by kernel_rfl))
 f267:=Tryz.func96.trans (congrArg some (by kernel_rfl))
 f314:=Tryz.func107.trans (congrArg some (by kernel_rfl))
 t0:=Tryz.underlying0
 a0:=Tryz.isAgg0
 z0:=Tryz.sizeOf0
 v0:=Tryz.zeroValue0
 t3:=Tryz.underlying3
 a3:=Tryz.isAgg3
 z3:=Tryz.sizeOf3
 v3:=Tryz.zeroValue3
 t4:=Tryz.underlying4
 a4:=Tryz.isAgg4
 z4:=Tryz.sizeOf4
 v4:=Tryz.zeroValue4
 t5:=Tryz.underlying5
 a5:=Tryz.isAgg5
 z5:=Tryz.sizeOf5
 v5:=Tryz.zeroValue5
 t9:=Tryz.underlying9
 a9:=Tryz.isAgg9
 z9:=Tryz.sizeOf9
 v9:=Tryz.zeroValue9
 t46:=Tryz.underlying110
 a46:=Tryz.isAgg110
 z46:=Tryz.sizeOf110
 v46:=Tryz.zeroValue110
 t51:=Tryz.underlying120
 a51:=Tryz.isAgg120
 z51:=Tryz.sizeOf120
 v51:=Tryz.zeroValue120
 t146:=Tryz.underlying127
 a146:=Tryz.isAgg127
 z146:=Tryz.sizeOf127
 v146:=Tryz.zeroValue127
 g1:=by kernel_rfl}
def BI:Go.Shelf.Ren:=⟨fun|221=>46|268=>62|138=>63|143=>64|195=>75|197=>76|218=>77|219=>78|260=>93|217=>66|225=>94|224=>95|267=>96|266=>79|314=>107|n=>n,fun|9=>9|3=>3|31=>46|4=>4|0=>0|105=>92|21=>21|5=>5|46=>110|119=>123|139=>126|138=>125|146=>127|51=>120|n=>n,fun|1=>0|3=>4|4=>5|n=>n⟩
theorem Jcp:Go.Proofs.Lays.n221 Tryz.prog BI:={
 mixed:=by kernel_rfl
 f138:=Tryz.func63.trans (congrArg some (by kernel_rfl))
 f143:=Tryz.func64.trans (congrArg some (by kernel_rfl))
 f195:=Tryz.func75.trans (congrArg some (by kernel_rfl))
 f197:=Tryz.func76.trans (congrArg some (by kernel_rfl))
 f217:=Tryz.func66.trans (congrArg some (by kernel_rfl))
 f218:=Tryz.func77.trans (congrArg some (by kernel_rfl))
 f219:=Tryz.func78.trans (congrArg some (by kernel_rfl))
 f221:=Tryz.func46.trans (congrArg some (by kernel_rfl))
 f224:=Tryz.func95.trans (congrArg some (by kernel_rfl))
 f225:=Tryz.func94.trans (congrArg some (by kernel_rfl))
 f260:=Tryz.func93.trans (congrArg some (by kernel_rfl))
 f266:=Tryz.func79.trans (congrArg some (by kernel_rfl))
 f267:=Tryz.func96.trans (congrArg some (by kernel_rfl))
 f268:=Tryz.func62.trans (congrArg some (by kernel_rfl))
 f314:=Tryz.func107.trans (congrArg some (by kernel_rfl))
 t0:=Tryz.underlying0
 a0:=Tryz.isAgg0
 z0:=Tryz.sizeOf0
 v0:=Tryz.zeroValue0
 t3:=Tryz.underlying3
 a3:=Tryz.isAgg3
 z3:=Tryz.sizeOf3
 v3:=Tryz.zeroValue3
 t4:=Tryz.underlying4
 a4:=Tryz.isAgg4
 z4:=Tryz.sizeOf4
 v4:=Tryz.zeroValue4
 t5:=Tryz.underlying5
 a5:=Tryz.isAgg5
 z5:=Tryz.sizeOf5
 v5:=Tryz.zeroValue5
 t9:=Tryz.underlying9
 a9:=Tryz.isAgg9
 z9:=Tryz.sizeOf9
 v9:=Tryz.zeroValue9
 t21:=Tryz.underlying21
 a21:=Tryz.isAgg21
 z21:=Tryz.sizeOf21
 v21:=Tryz.zeroValue21
 t31:=Tryz.underlying46
 a31:=Tryz.isAgg46
 z31:=Tryz.sizeOf46
 v31:=Tryz.zeroValue46
 t46:=Tryz.underlying110
 a46:=Tryz.isAgg110
 z46:=Tryz.sizeOf110
 v46:=Tryz.zeroValue110
 t51:=Tryz.underlying120
 a51:=Tryz.isAgg120
 z51:=Tryz.sizeOf120
 v51:=Tryz.zeroValue120
 t105:=Tryz.underlying92
 a105:=Tryz.isAgg92
 z105:=Tryz.sizeOf92
 v105:=Tryz.zeroValue92
 t119:=Tryz.underlying123
 a119:=Tryz.isAgg123
 z119:=Tryz.sizeOf123
 t138:=Tryz.underlying125
 a138:=Tryz.isAgg125
 z138:=Tryz.sizeOf125
 v138:=Tryz.zeroValue125
 t139:=Tryz.underlying126
 a139:=Tryz.isAgg126
 z139:=Tryz.sizeOf126
 v139:=Tryz.zeroValue126
 t146:=Tryz.underlying127
 a146:=Tryz.isAgg127
 z146:=Tryz.sizeOf127
 v146:=Tryz.zeroValue127
 g1:=by kernel_rfl
 g3:=by kernel_rfl
 g4:=by kernel_rfl}
theorem YI(l:List UInt8)(c:UInt8):Go.Lib.indexB (bs l) ⟨#[c]⟩=Go.Lib.indexByte l c:=Go.Lib.index_one l c
theorem Bj(a r:List UInt8)(c:UInt8):(bs (a++c::r)).extract (a.length+(⟨#[c]⟩:ByteArray).size) (bs (a++c::r)).size=bs r:=by
 rw[Ye,Xv,show(⟨#[c]⟩:ByteArray).size=1 from rfl]
 have h2:(a++c::r).drop (a.length+1)=r:=by rw[List.drop_append];simp
 rw[h2,Jn (by simp;omega)]
theorem Jfb(a r:List UInt8)(c:UInt8):(bs (a++c::r)).extract 0 (a.length+0)=bs a:=by
 rw[Ye,JB,Nat.add_zero,Nat.sub_zero,List.take_left' rfl]
theorem FM(c:UInt8):∀(n:Nat) (l:List UInt8),l.length≤n→Go.Lib.countB (bs l) ⟨#[c]⟩=l.count c
 |n,l,hn=>by
  rcases W5 c l with h|⟨a,r,rfl,h⟩
  · rw[Go.Lib.countB_miss _ _ ((YI l c).trans (FJ h))]
    exact(List.count_eq_zero.2 fun hm=>h c hm rfl).symm
  · have h11:1≤(⟨#[c]⟩:ByteArray).size:=Nat.le_refl 1
    rw[Go.Lib.countB_hit _ _ a.length h11 ((YI _ c).trans (Kp h)),Bj]
    have hlt:r.length<n:=by simp at hn;omega
    obtain⟨n,rfl⟩:∃m,n=m+1:=⟨n -1,by omega⟩
    rw[FM c n r (by omega),List.count_append,List.count_cons_self,List.count_eq_zero.2 fun hm=>h c hm rfl]
    omega
theorem Fc:∀(n:Nat) (l:List UInt8),l.length≤n→Go.Lib.splitB ⟨#[32]⟩ 0 (Go.Lib.countB (bs l) ⟨#[32]⟩) (bs l)=(Ql l).map bs
 |n,l,hn=>by
  rcases W5 32 l with h|⟨a,r,rfl,h⟩
  · rw[Go.Lib.countB_miss _ _ ((YI l 32).trans (FJ h)),Go.Lib.splitB_zero,XQ h]
    rfl
  · have hi:=(YI (a++32::r) 32).trans (Kp h)
    rw[Go.Lib.countB_hit _ _ a.length (by decide) hi,Bj,Nat.add_comm,Go.Lib.splitB_hit _ _ _ _ _ hi,Jfb,Bj,Y5 h]
    have hlt:r.length<n:=by simp at hn;omega
    obtain⟨n,rfl⟩:∃m,n=m+1:=⟨n -1,by omega⟩
    rw[Fc n r (by omega)]
    rfl
def Y2(l:List UInt8):Array Value:=((Ql l).map fun x=>Value.string (bs x)).toArray
theorem Be(l:List UInt8)(hl:l.length<4294967281)(w:World):
 Calls Tryz.prog 46 #[.string (bs l), .string ⟨#[32]⟩, .int .i64 0, .int .i64 (-1)] w fun e w'=>e= .returned (.slice (some ⟨w.heap.size,0,none⟩) (Ql l).length (Ql l).length)∧∃t,w'=w.alloc (.cells (Y2 l) t):=by
 have h1:1≤(⟨#[32]⟩:ByteArray).size:=by decide
 have hle:=Go.Lib.countB_le ⟨#[32]⟩ h1 (bs l).size (bs l) (Nat.le_refl _)
 have hlen:=Go.Lib.splitB_all ⟨#[32]⟩ h1 0 _ (bs l) rfl
 have hsp:=Fc l.length l (Nat.le_refl _)
 have c:=Any.strings_genSplit_core Jcp (by kernel_rfl) (bs l) ⟨#[32]⟩ 0 (-1) (Go.Lib.countB (bs l) ⟨#[32]⟩+1) w (by rw[Xv];exact hl) h1 (Nat.zero_le _)
  (fun x cs _=>(Any.strings_Index_one Jc2 x 32 _).mono fun e w' ⟨h1,h2⟩=>⟨by rw[h1];show _=Ending.returned (.int .i64 (Go.Lib.index x.data.toList [32]));rw[Go.Lib.index_one],h2⟩)
  ((Any.strings_Count_one Jdw (bs l) 32 w).mono fun e w' ⟨h1,h2⟩=>⟨by rw[h1,FM 32 l.length l (Nat.le_refl _)];rfl,h2⟩)
  (by decide) (by decide) (by rw[if_pos (by decide)];omega)
 rw[Nat.add_sub_cancel,hlen]at c
 have e2:Go.Lib.cellsOf (Go.Lib.splitB ⟨#[32]⟩ 0 (Go.Lib.countB (bs l) ⟨#[32]⟩) (bs l)) (Go.Lib.countB (bs l) ⟨#[32]⟩+1)=Y2 l:=by
  rw[←hlen,Go.Lib.cellsOf_full,hsp,List.map_map]
  rfl
 have e3:Go.Lib.countB (bs l) ⟨#[32]⟩+1=(Ql l).length:=by rw[←hlen,hsp,JL]
 rw[e2,e3]at c
 exact c.mono fun e w' ⟨h1,h2⟩=>⟨h1,_,h2⟩
theorem YL(l:List UInt8)(hl:l.length<4294967281):Qd Tryz.prog 46 [Um l,Um [32],int 0,int (-1)] (Rj eS (Ql l)):=by
 intro w X vs hH hvs
 obtain⟨hs,hv⟩:=hvs
 have e:vs= #[.string (bs l), .string ⟨#[32]⟩, .int .i64 0, .int .i64 (-1)]:=by
  obtain⟨u0,a0,b0⟩:=hv 0 (by simp)
  obtain⟨u1,a1,b1⟩:=hv 1 (by simp)
  obtain⟨u2,a2,b2⟩:=hv 2 (by simp)
  obtain⟨u3,a3,b3⟩:=hv 3 (by simp)
  have e0:u0= .string (bs l):=Vo b0
  have e1:u1= .string ⟨#[32]⟩:=Vo b1
  have e2:u2= .int .i64 0:=ZL b2
  have e3:u3= .int .i64 (-1):=ZL b3
  subst e0 e1 e2 e3
  obtain⟨ls⟩:=vs
  match ls,hs,a0,a1,a2,a3 with
  |[p,q,r,t],_,t0,t1,t2,t3=>
   simp at t0 t1 t2 t3
   rw[t0,t1,t2,t3]
 subst e
 refine(Be l hl w).mono fun e w' ⟨he,t,hw⟩=> ?_
 subst hw
 have hg:Za w (w.alloc (.cells (Y2 l) t)):=Yf ((Go.RowKit.Below.refl _ w).alloc (Nat.le_refl _) _)
 have hb:(w.alloc (.cells (Y2 l) t)).heap[w.heap.size]? =some (.cells (Y2 l) t (0,0)):=by
  show(w.heap.push _)[w.heap.size]? =_
  simp
 have hfl:∀xs:List (List UInt8),fl eS xs=xs.map fun x=>FV.str (bs x):=fun xs=>by
  induction xs with
  |nil=>rfl
  |cons x xs ih=>rw[Qf,←ih];rfl
 refine⟨Rj eS (Ql l),_,{X with I:=fun b=>X.I b∨b=w.heap.size},[],he, .c _ _ (VF.sl _ _ w.heap.size 0 _ (fun j=>Value.string (bs (JM (Ql l) j))) (Nat.le_refl _) (.inr rfl) (fun j hj=> ?_) fun j hj=> ?_), ?_, ?_,rfl⟩
 · have hj':j<(Ql l).length:=by rw[hfl,JL]at hj;exact hj
   have e1:JM (Ql l) (j:Int)=(Ql l)[j]:=by rw[Qu (by omega)];rfl
   rw[e1]
   simp only[World.cell?,hb]
   rw[Nat.zero_add]
   unfold Y2
   rw[List.getElem?_toArray,Qo,Jh hj']
   rfl
 · have hj':j<(Ql l).length:=by rw[hfl,JL]at hj;exact hj
   have e1:JM (Ql l) (j:Int)=(Ql l)[j]:=by rw[Qu (by omega)];rfl
   have e2:(fl eS (Ql l))[j]=FV.str (bs (JM (Ql l) j)):=by
    rw[e1]
    simp only[hfl,List.getElem_map]
   rw[e2]
   exact VF.str _
 · exact⟨fun b h=>h.elim (fun h=>Nat.lt_of_lt_of_le (hH.imm b h) hg.size) fun h=>by
    subst h
    exact(Array.getElem?_eq_some_iff.1 hb).1,fun id b h=>by simp at h,fun id id' b b' h=>by simp at h,hH.tab.mono fun b h=>⟨.inl h,hg.blk b (hH.imm b h)⟩⟩
 · exact⟨fun b h=>⟨.inl h,hg.blk b (hH.imm b h)⟩,Nat.le_refl _,fun _ _=>⟨rfl,rfl⟩,hg.size,hg.os,hg.tape,hg.output,Sub.refl _ _,fun b h _=>hg.blk b h,fun b h=> .inl h,fun b h=>h.elim .inl fun h=> .inr (.inr (by rw[h];exact Nat.le_refl _))⟩
theorem FP(l:List UInt8)(hl:l.length<4294967281):Qd Tryz.prog 24 [Um l,Um [32]] (Rj eS (Ql l)):=by
 refine Qd.iced ?_
 refine Jq.cw (c:=_) Tryz.func24 rfl (n:=8) Tryz.ntmps24 (rs:=[.tmp 4]) rfl ?_
 simp only[Jf,Jl,zA,zS,Jg,Jc,Jd]
 simp(maxSteps:=999999)(disch:=omega)only[go_sem,zA,zM,zS,zE,zL]
 first|refine Qh.mk (YL l hl) (⟨_,Tryz.func46,rfl,rfl⟩:Jm Tryz.prog 46) rfl rfl rfl rfl rfl ?_|refine Qe.mk (YL l hl) (⟨_,Tryz.func46,rfl,rfl⟩:Jm Tryz.prog 46) rfl rfl rfl rfl rfl ?_
 simp(maxSteps:=999999)(disch:=omega)only[go_sem,zA,zM,zS,zE,zL]
 exact Q5 rfl
end Go.Lg

namespace Go.Lg
open Go.Proofs
theorem B5.sm{p:Zk}{n:Nat}(hp:B5 p n):BD p:=by
 have hsq:n*n≤16:=by rcases hp.hn with rfl|rfl|rfl<;>omega
 have:=hp.len
 have:=hp.rl
 refine⟨by omega,by omega,fun r hr=> ?_⟩
 have:=(Ud (hp.rv r hr)).1
 omega
end Go.Lg

namespace Go.Lg
open Go.Proofs
theorem JaF{k g n:Nat}{xs:List Int}:QN k [some ⟨g,n,cl (eI .i64) xs⟩]=[some ⟨g,n,cl (eI .i64) xs⟩]:=by
 simp only[QN,Qf,ZC,Option.map_some,Q3,Vp]
section
variable{P:Program}{o:Oper}{st:St}{K:KV}{fo:Operand}{xs:Array Operand}{ts:Array TypeId}{f:FuncId}{args args':List AV}{zs:List Int}{ops:Array Oper}{s:List AV}{H:Ji}
end
attribute [-go_sem] Qg JP
end Go.Lg

namespace Go.Lg
open Go.Proofs
attribute [-go_sem] Qg JP
structure BB where
 gp:Nat
 gpg:Nat
 tb:Nat
 tbg:Nat
 ty:Nat
 tyg:Nat
 sz:Nat
 szg:Nat
 pb:Nat
 pbg:Nat
 mid:Nat
 mg:Nat
 pid:Nat
 pg:Nat
 gid:Nat
 gg:Nat
def BB.ids(c:BB):List Nat:=[c.gp,c.tb,c.ty,c.sz,c.pb,c.mid]
structure JfQ(ft fy:FuncId)(p:Zk)(n most:Nat)(c:BB)(H:Ji):Prop where
 g:look H c.gp c.gpg=some ⟨c.gpg,1,[.own c.gid c.gg 0 (n*n) none]⟩
 t:look H c.tb c.tbg=some ⟨c.tbg,1,[.fn ft [(c.pid,c.pg),(c.mid,c.mg)]]⟩
 y:look H c.ty c.tyg=some ⟨c.tyg,1,[.fn fy [(c.gp,c.gpg),(c.tb,c.tbg),(c.ty,c.tyg),(c.sz,c.szg),(c.pb,c.pbg)]]⟩
 z:look H c.sz c.szg=some ⟨c.szg,1,[.f (.int .i64 n)]⟩
 b:look H c.pb c.pbg=some ⟨c.pbg,1,cP p⟩
 m:look H c.mid c.mg=some ⟨c.mg,1,[.f (.int .i64 most)]⟩
theorem JfQ.same{ft fy:FuncId}{p:Zk}{n most:Nat}{c:BB}{H H':Ji}(h:JfQ ft fy p n most c H)(hs:∀k∈c.ids,H'[k]? =H[k]?):JfQ ft fy p n most c H':=by
 have k:∀i g b,i∈c.ids→look H i g=b→look H' i g=b:=fun i g b hi he=>by unfold look at*;rw[hs i hi];exact he
 exact⟨k _ _ _ (by simp[BB.ids]) h.g,k _ _ _ (by simp[BB.ids]) h.t,k _ _ _ (by simp[BB.ids]) h.y,k _ _ _ (by simp[BB.ids]) h.z,k _ _ _ (by simp[BB.ids]) h.b,k _ _ _ (by simp[BB.ids]) h.m⟩
theorem JfQ.lt{ft fy:FuncId}{p:Zk}{n most:Nat}{c:BB}{H:Ji}(h:JfQ ft fy p n most c H):∀k∈c.ids,k<H.length:=by
 intro k hk
 have hl:∀{i g:Nat} {b:ZG},look H i g=some b→i<H.length:=fun h=>(Ja.1 (Jw h).1).1
 simp only[BB.ids,JV,Q9,or_false]at hk
 rcases hk with rfl|rfl|rfl|rfl|rfl|rfl
 · exact hl h.g
 · exact hl h.t
 · exact hl h.y
 · exact hl h.z
 · exact hl h.b
 · exact hl h.m
end Go.Lg

namespace Go.Lg
open Go.Proofs
def BB.idt(c:BB):List Nat:=[c.gp,c.tb,c.ty,c.sz,c.pb]
structure JfP(ft fy:FuncId)(p:Zk)(n:Nat)(c:BB)(H:Ji):Prop where
 g:look H c.gp c.gpg=some ⟨c.gpg,1,[.own c.gid c.gg 0 (n*n) none]⟩
 t:look H c.tb c.tbg=some ⟨c.tbg,1,[.fn ft [(c.pid,c.pg),(c.mid,c.mg)]]⟩
 y:look H c.ty c.tyg=some ⟨c.tyg,1,[.fn fy [(c.gp,c.gpg),(c.tb,c.tbg),(c.ty,c.tyg),(c.sz,c.szg),(c.pb,c.pbg)]]⟩
 z:look H c.sz c.szg=some ⟨c.szg,1,[.f (.int .i64 n)]⟩
 b:look H c.pb c.pbg=some ⟨c.pbg,1,cP p⟩
theorem JfP.same{ft fy:FuncId}{p:Zk}{n:Nat}{c:BB}{H H':Ji}(h:JfP ft fy p n c H)(hs:∀k∈c.idt,H'[k]? =H[k]?):JfP ft fy p n c H':=by
 have k:∀i g b,i∈c.idt→look H i g=b→look H' i g=b:=fun i g b hi he=>by unfold look at*;rw[hs i hi];exact he
 exact⟨k _ _ _ (by simp[BB.idt]) h.g,k _ _ _ (by simp[BB.idt]) h.t,k _ _ _ (by simp[BB.idt]) h.y,k _ _ _ (by simp[BB.idt]) h.z,k _ _ _ (by simp[BB.idt]) h.b⟩
theorem JfP.lt{ft fy:FuncId}{p:Zk}{n:Nat}{c:BB}{H:Ji}(h:JfP ft fy p n c H):∀k∈c.idt,k<H.length:=by
 intro k hk
 have hl:∀{i g:Nat} {b:ZG},look H i g=some b→i<H.length:=fun h=>(Ja.1 (Jw h).1).1
 simp only[BB.idt,JV,Q9,or_false]at hk
 rcases hk with rfl|rfl|rfl|rfl|rfl
 · exact hl h.g
 · exact hl h.t
 · exact hl h.y
 · exact hl h.z
 · exact hl h.b
end Go.Lg

namespace Go.Lg
open Go.Proofs
def GP(xs s:List Int):Prop:=∀k:Nat,0<JM xs k→JM s k=JM xs k
instance(xs s:List Int):Decidable (GP xs s):=decidable_of_iff (∀k,k<xs.length→0<JM xs (k:Int)→JM s (k:Int)=JM xs (k:Int)) ⟨fun h k hk=>by
 by_cases hl:k<xs.length
 · exact h k hl hk
 · rw[Jex (by omega)]at hk;omega,fun h k _=>h k⟩
theorem GP.refl(xs:List Int):GP xs xs:=fun _ _=>rfl
theorem GP.trans{a b c:List Int}(h:GP a b)(k:GP b c):GP a c:=fun i hi=>by
 have:=h i hi
 rw[k i (by omega),this]
theorem GP.set{xs:List Int}{i:Nat}{v:Int}(hi:i<xs.length)(h0:¬0<JM xs i):GP xs (xs.set i v):=fun k hk=>by
 rw[UZ _ _ _ _ hi,if_neg (fun h=>by subst h;exact h0 hk)]
end Go.Lg

namespace Go.Lg
open Go.Proofs
def Fy(ms:List Nat)(k:Nat):Nat:=ms.getD k 0
theorem Jey(ms:List Nat)(k:Nat):JM (Z9 ms) k=((Fy ms k:Nat):Int):=by
 unfold JM Z9 Fy
 rw[Int.toNat_natCast]
 simp only[List.getD,Qo]
 by_cases h:k<ms.length
 · rw[Jh h];rfl
 · rw[Ju (by omega)];rfl
theorem JeB(ms:List Nat):(Z9 ms).length=ms.length:=by simp[Z9]
theorem JeL{ms:List Nat}{k:Nat}(h:ms.length≤k):Fy ms k=0:=by
 unfold Fy
 simp[List.getD,Ju h]
theorem JgH{ms:List Nat}{k:Nat}(h:k<ms.length):Fy ms k∈ms:=by
 unfold Fy
 simp[List.getD,Jh h]
structure MsN(ms:List Nat)(n:Nat):Prop where
 len:ms.length=n*n
 val:∀m∈ms,m≤2^(n+1) -2∧m%2=0
theorem MsN.at{ms:List Nat}{n:Nat}(h:MsN ms n)(k:Nat):Fy ms k≤2^(n+1) -2∧Fy ms k%2=0:=by
 by_cases hk:k<ms.length
 · exact h.val _ (JgH hk)
 · rw[JeL (by omega)];exact⟨Nat.zero_le _,rfl⟩
theorem Jhb{n:Nat}(hn:n=2∨n=3∨n=4):8≤2^(n+1)∧2^(n+1)≤32:=by rcases hn with rfl|rfl|rfl<;>decide
theorem MsN.lt{ms:List Nat}{n:Nat}(hn:n=2∨n=3∨n=4)(h:MsN ms n)(k:Nat):Fy ms k≤30∧Fy ms k%2=0:=by
 have:=h.at k
 have:=Jhb hn
 omega
theorem MsN.ok{ms:List Nat}{n:Nat}(h:MsN ms n):Rn (Z9 ms) n:=by
 refine⟨by rw[JeB];exact h.len,fun k hk=> ?_⟩
 have:=h.at k
 rw[Jey]
 omega
theorem MsN.set{ms:List Nat}{n k v:Nat}(h:MsN ms n)(hv:v≤2^(n+1) -2∧v%2=0):MsN (ms.set k v) n:=
 ⟨by rw[Jt];exact h.len,fun m hm=>by
   rcases List.mem_or_eq_of_mem_set hm with hm|rfl
   · exact h.val m hm
   · exact hv⟩
def JbR(m:Nat):Nat:=if m=2 then 1 else if m=4 then 2 else if m=8 then 3 else if m=16 then 4 else 0
def clr(o m:Nat):Nat:=o&&&(31^^^m)
def Jh7(R:List (Nat×Nat))(ms:List Nat):List Nat:=R.foldl (fun o q=>o.set q.1 (clr (Fy o q.1) q.2)) ms
def sglI(ms:List Nat)(n i:Nat)(c:Nat):List (Nat×Nat):=if c=i then[]else[(c,Fy ms i)]
def sglK(ms:List Nat)(n i k:Nat):List (Nat×Nat):=sglI ms n i (i/n*n+k)++sglI ms n i (k*n+i%n)
def sglA(ms:List Nat)(n i:Nat):List (Nat×Nat):=if JbR (Fy ms i)=0 then[]else(List.range n).flatMap (sglK ms n i)
def sglM(ms:List Nat)(n:Nat):List Nat:=Jh7 ((List.range (n*n)).flatMap (sglA ms n)) ms
end Go.Lg

namespace Go.Lg
open Go.Proofs
def lnN(n line k:Nat):Nat:=(JM (Z2 n line) k).toNat
def JgM(ms:List Nat)(n line v:Nat):Nat→Nat×Nat
 |0=>(0,0)
 |k+1=>if(Fy ms (lnN n line k)).testBit v=true then((JgM ms n line v k).1+1,lnN n line k)else JgM ms n line v k
def hidV(ms:List Nat)(n line u:Nat):List (Nat×Nat):=if(JgM ms n line (u+1) n).1=1 then[((JgM ms n line (u+1) n).2,31^^^2^(u+1))]else[]
def hidA(ms:List Nat)(n line:Nat):List (Nat×Nat):=(List.range n).flatMap (hidV ms n line)
def hidM(ms:List Nat)(n:Nat):List Nat:=Jh7 ((List.range (2*n)).flatMap (hidA ms n)) ms
end Go.Lg

namespace Go.Lg
open Go.Proofs
def parK(ms:List Nat)(n line i j k:Nat):List (Nat×Nat):=if lnN n line k≠lnN n line i∧lnN n line k≠lnN n line j then[(lnN n line k,Fy ms (lnN n line i))]else[]
def parP(ms:List Nat)(n line i j:Nat):List (Nat×Nat):=if Fy ms (lnN n line i)=Fy ms (lnN n line j)∧(UI (Fy ms (lnN n line i)) 4).length=2 then(List.range n).flatMap (parK ms n line i j)else[]
def parI(ms:List Nat)(n line i:Nat):List (Nat×Nat):=(List.range (n -(i+1))).flatMap fun t=>parP ms n line i (i+1+t)
def parA(ms:List Nat)(n line:Nat):List (Nat×Nat):=(List.range n).flatMap (parI ms n line)
def parM(ms:List Nat)(n:Nat):List Nat:=Jh7 ((List.range (2*n)).flatMap (parA ms n)) ms
end Go.Lg

namespace Go.Lg
open Go.Proofs
def putR(r:Q2)(fd:List Nat)(ms:List Nat)(j:Nat):List Nat:=(List.range j).foldl (fun(o:List Nat) (i:Nat)=>o.set (JM r.cells (i:Int)).toNat (fd.getD i 0)) ms
def rulS(ms:List Nat)(r:Q2):List Nat:=putR r (Vs r (Z9 ms)) ms r.cells.length
def rulM(p:Zk)(ms:List Nat):List Nat:=p.rules.foldl rulS ms
def JeC(p:Zk)(t:Nat)(ms:List Nat):List Nat:=
 if t=1 then sglM ms p.size.toNat else if t=2 then hidM ms p.size.toNat else if t=3 then parM ms p.size.toNat else rulM p ms
def Jez(p:Zk)(ms:List Nat):Nat:=if JeC p 1 ms≠ms then 1 else if JeC p 2 ms≠ms then 2 else if JeC p 3 ms≠ms then 3 else if JeC p 4 ms≠ms then 4 else 0
end Go.Lg

namespace Go.Lg
open Go.Proofs
section
variable{P:Program}{ops:Array Oper}{o:Oper}{s:List AV}{H:Ji}{K:KV}{fo:Operand}{xs:Array Operand}{ts:Array TypeId}{f:FuncId}{args args':List AV}{zs:List Int}
end
structure CpI(B:Ji)(j g:Nat)(size:Int)(given:List Int)(c r:CV)(l:List RO)(S I:List Nat):Prop where
 out:look B j g=some ⟨g,3,[.f (.int .i64 size),c,r]⟩
 rl:(l=[]∧r= .f .nil∧I=S)∨∃id g',r= .own id g' 0 l.length none∧look B id g'=some ⟨g',3,kl kR l⟩∧I=S++id::l.flatMap (·.i)
 cells:∀o∈l,Qv B o.c o.r.cells o.i
 giv:Qv B c given S
 nd:I.Nodup
 lt:∀x∈I,2≤x∧x<B.length∧x≠j
theorem CpI.next{B B3:Ji}{j g:Nat}{size:Int}{given:List Int}{c r:CV}{l:List RO}{S I:List Nat}(hC:CpI B j g size given c r l S I)(o:RO){id g':Nat}
 (hI:(l=[]∧I=S∧B.length≤id)∨I=S++id::l.flatMap (·.i)) (hs:∀k∈I,k≠id→B3[k]? =B[k]?) (hlen:B.length≤B3.length)
 (hout:look B3 j g=some ⟨g,3,[.f (.int .i64 size),c, .own id g' 0 (l.length+1) none]⟩) (hid:look B3 id g'=some ⟨g',3,kl kR (l++[o])⟩)
 (ho:Qv B3 o.c o.r.cells o.i) (hoi:∀k∈o.i,B.length≤k∧k<B3.length∧k≠id∧k≠j) (hi:2≤id∧id<B3.length∧id≠j) (h2:2≤B.length):
 CpI B3 j g size given c (.own id g' 0 (l.length+1) none) (l++[o]) S (S++id::(l++[o]).flatMap (·.i)):=by
 have hJ:(S++id::l.flatMap (·.i)).Nodup∧(∀x∈S++l.flatMap (·.i),x∈I)∧(∀x∈S++l.flatMap (·.i),x≠id):=by
  rcases hI with⟨rfl,rfl,hb⟩|rfl
  · have hne:∀x∈I,x≠id:=fun x hx=>by have:=hC.lt x hx;omega
    refine⟨?_,by simp,by simpa using hne⟩
    simp only[List.flatMap_nil]
    rw[QR]
    exact⟨hC.nd,by simp,fun a ha b hb=>by simp at hb;subst hb;exact hne a ha⟩
  · have hn:=hC.nd
    refine⟨hn,fun x hx=> ?_,fun x hx he=> ?_⟩
    · simp only[JF,JV]at hx⊢
      rcases hx with hx|hx
      · exact .inl hx
      · exact .inr (.inr hx)
    · subst he
      rw[QR]at hn
      obtain⟨n1,n2,n3⟩:=hn
      rcases JF.1 hx with hx|hx
      · exact n3 x hx x (by simp) rfl
      · exact(Qn.1 n2).1 hx
 obtain⟨hn,hin,hne⟩:=hJ
 have hmem:∀x∈S++id::(l++[o]).flatMap (·.i),x∈S++l.flatMap (·.i)∨x=id∨x∈o.i:=fun x hx=>by
  simp only[List.flatMap_append,List.flatMap_cons,List.flatMap_nil,Jv,JF,JV]at hx⊢
  rcases hx with hx|rfl|hx|hx
  · exact .inl (.inl hx)
  · exact .inr (.inl rfl)
  · exact .inl (.inr hx)
  · exact .inr (.inr hx)
 refine⟨hout, .inr ⟨id,g',by simp,hid,rfl⟩,fun o' ho'=> ?_, ?_, ?_,fun x hx=> ?_⟩
 · rcases JF.1 ho' with ho'|ho'
   · refine(hC.cells o' ho').same fun k hk=> ?_
     have:k∈S++l.flatMap (·.i):=JF.2 (.inr (List.mem_flatMap.2 ⟨o',ho',hk⟩))
     exact hs k (hin k this) (hne k this)
   · simp at ho';subst ho';exact ho
 · refine hC.giv.same fun k hk=> ?_
   have:k∈S++l.flatMap (·.i):=JF.2 (.inl hk)
   exact hs k (hin k this) (hne k this)
 · have e:S++id::(l++[o]).flatMap (·.i)=(S++id::l.flatMap (·.i))++o.i:=by simp
   rw[e,QR]
   refine⟨hn,ho.nd,fun a ha b hb he=> ?_⟩
   subst he
   have h4:=hoi a hb
   have:a∈S++l.flatMap (·.i):=by
    simp only[JF,JV]at ha⊢
    rcases ha with ha|ha|ha
    · exact .inl ha
    · exact absurd ha h4.2.2.1
    · exact .inr ha
   have:=hC.lt a (hin a this)
   omega
 · rcases hmem x hx with hx|rfl|hx
   · have:=hC.lt x (hin x hx);omega
   · exact hi
   · have:=hoi x hx;omega
def JgI:CV→Prop
 | .own _ _ _ _ lim=>lim=none
 | .f .nil=>True
 |_=>False
def puzQ1(p:Zk):KV:=fun v H=>∃c r S1 S2,v= .agg [.f (.int .i64 p.size),c,r]∧Qv H c p.given S1∧((r= .f .nil∧p.rules=[]∧S2=[])∨ZZ H r p.rules S2)∧(S1++S2).Nodup∧JgI r
theorem CpI.done{B B':Ji}{j g:Nat}{p:Zk}{c r:CV}{l:List RO}{S I:List Nat}(hC:CpI B j g p.size p.given c r l S I)(hm:l.map (·.r)=p.rules)(hs:∀k∈I,B'[k]? =B[k]?):
 puzQ1 p (.agg [.f (.int .i64 p.size),c,r]) B':=by
 rcases hC.rl with⟨rfl,rfl,rfl⟩|⟨id,g',rfl,hid,rfl⟩
 · exact⟨_,_,_,[],rfl,hC.giv.same hs, .inl ⟨rfl,hm.symm,rfl⟩,by rw[Jv];exact hC.nd,trivial⟩
 · refine⟨_,_,_,_,rfl,hC.giv.same fun k hk=>hs k (JF.2 (.inl hk)), .inr ?_,hC.nd,rfl⟩
   rw[←hm]
   refine ZZ.same (.o id g' none l [] (by rw[Jv];exact hid) hC.cells ?_ (by simp)) fun k hk=>hs k (JF.2 (.inr hk))
   have:=hC.nd
   rw[QR]at this
   exact this.2.1
end Go.Lg

namespace Go.Lg
open Go.Proofs
theorem Ry:∀(l:List Nat) (b:Nat),(∀x∈l,x≤b)→l.sum≤b*l.length
 |[],b,_=>by simp
 |x::l,b,h=>by
  have h1:=Ry l b fun y hy=>h y (by simp[hy])
  have h2:=h x (by simp)
  simp only[UV,Jf,Nat.mul_add,Nat.mul_one]
  omega
theorem MsN.sum{ms:List Nat}{n:Nat}(hn:n=2∨n=3∨n=4)(h:MsN ms n):ms.sum≤480:=by
 have h1:=Ry ms 30 fun x hx=>by have:=(h.val x hx).1;have:=Jhb hn;omega
 have h2:ms.length≤16:=by rw[h.len];rcases hn with rfl|rfl|rfl<;>omega
 omega
end Go.Lg

namespace Go.Lg
open Go.Proofs
def onlyL(ms:List Nat):List Nat:=ms.map JbR
def endM(p:Zk)(ms:List Nat):Option Nat:=
 if(∃m∈ms,m=0)then some 0 else if(∀m∈ms,JbR m≠0)then some (if FX p (Z9 (onlyL ms))=true then 1 else 0)else none
end Go.Lg

namespace Go.Lg
open Go.Proofs
attribute [-go_sem] Qg JP
def Jeo(ms:List Nat):Nat:=((List.range ms.length).find? fun k=>decide (JbR (Fy ms k)=0)).getD 0
def mkF(p:Zk):Nat→List Nat→List BC→List BC
 |0,_,out=>out
 |f+1,ms,out=>if 200<out.length then out else match endM p ms with
  |some _=>out
  |none=>if Jez p ms≠0 then mkF p f (JeC p (Jez p ms) ms) (out++[⟨Jez p ms,0⟩])else(UI (Fy ms (Jeo ms)) 4).foldl (fun o v=>mkF p f (ms.set (Jeo ms) (2^v.toNat)) o) (out++[⟨0,Jeo ms⟩])
abbrev Jfp (g:Nat) (b:BC):Ji:=[some ⟨g,2,cB b⟩]
def mkQ(H:Ji)(id:Nat)(R:List BC):KV:=fun v H'=>∃g',v= .c (.own id g' 0 R.length none)∧look H' id g'=some ⟨g',2,cl eB R⟩∧UH H H' [id]
structure MkI(H HI:Ji)(id g gb:Nat)(p:Zk)(out:List BC):Prop where
 cells:look HI id g=some ⟨g,2,cl eB out⟩
 box:look HI H.length gb=some ⟨gb,1,cP p⟩
 lt:id<H.length
 ln:H.length+1≤HI.length
 frm:∀i,i<H.length→i≠id→HI[i]? =H[i]?
theorem MkI.done{H HI:Ji}{id g gb:Nat}{p:Zk}{out:List BC}(h:MkI H HI id g gb p out):Wa HI (mkQ H id out) (.c (.own id g 0 out.length none)):=by
 have hl:=h.lt
 have hn:=h.ln
 refine⟨HI.take H.length,fun i b hb=> ?_,g,rfl, ?_,by simp;omega,fun i hi=> ?_⟩
 · by_cases hi:i<H.length
   · rwa [JG hi]at hb
   · rw[List.getElem?_take_eq_none (by omega)]at hb;cases hb
 · have hc:=h.cells
   unfold look at hc⊢
   rw[JG hl]
   exact hc
 · by_cases h2:i<H.length
   · rw[JG h2,h.frm i h2 (by simpa using hi)]
   · rw[List.getElem?_take_eq_none (by omega),Ju (by omega)]
theorem MkI.app{H HI H':Ji}{id g gb:Nat}{p:Zk}{out:List BC}(h:MkI H HI id g gb p out):MkI H (HI++H') id g gb p out:=
 ⟨JR h.cells,JR h.box,h.lt,by have:=h.ln;simp;omega,fun i h1 h2=>by rw[Jb (by have:=h.ln;omega)];exact h.frm i h1 h2⟩
theorem MkI.put{H HI:Ji}{id g gb:Nat}{p:Zk}{out R:List BC}(h:MkI H HI id g gb p out)(g':Nat):MkI H (HI.set id (some ⟨g',2,cl eB R⟩)) id g' gb p R:=by
 have hl:=h.lt
 have hn:=h.ln
 refine⟨?_, ?_,hl,by simp;omega,fun i h1 h2=>by rw[Jj (Ne.symm h2)];exact h.frm i h1 h2⟩
 · unfold look
   rw[J0 (by omega)]
   simp
 · have hb:=h.box
   unfold look at hb⊢
   rw[Jj (by omega)]
   exact hb
theorem MkI.step{H HI H':Ji}{id g g' gb:Nat}{p:Zk}{out R:List BC}(h:MkI H HI id g gb p out)(hf:UH HI H' [id])(hc:look H' id g'=some ⟨g',2,cl eB R⟩):MkI H H' id g' gb p R:=by
 have hl:=h.lt
 have hn:=h.ln
 refine⟨hc, ?_,hl,by rw[hf.1];exact hn,fun i h1 h2=>by rw[hf.2 i (by simpa using h2)];exact h.frm i h1 h2⟩
 have hb:=h.box
 unfold look at hb⊢
 rw[hf.2 _ (by simp;omega)]
 exact hb
end Go.Lg
