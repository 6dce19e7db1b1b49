/- GpXU, GpEF, GpEG, GpEI, GpHA, GpMA, GpQ, GpMK, GpTG, GpTH, GpEK, cut to what is needed. -/
import Derived.Test.YtiahmfdabpafoaaDoorIac3
import Derived.Test.YtiahmfdabpafoaaDoorIac2
import Derived.Shelf.Strings.Split
import Derived.Shelf.Strings.Count
import Derived.Lib.CountLaws
import Derived.Lib.SplitLaws
import Derived.Shelf.Strings.Search3
import Derived.Test.YtiahmfdabpafoaaDoorIab8
import Derived.Test.YtiahmfdabpafoaaDoorIab9
import Derived.Test.YtiahmfdabpafoaaDoorIac0
import Derived.Test.YtiahmfdabpafoaaDoorIab5
open Nat renaming reduceAdd→zA,reduceMul→zM,reduceSub→zS,reduceEqDiff→zE,reduceLeDiff→zL
set_option linter.unusedSimpArgs false
set_option linter.unusedVariables false
set_option maxRecDepth 100000
namespace Go.Lg
open Go.Proofs Go.Shelf
def indexLays_ren:Go.Shelf.Ren:=⟨fun|143=>93|219=>84|217=>65|225=>106|224=>107|267=>108|266=>85|314=>126|n=>n,fun|9=>9|3=>3|4=>4|5=>5|46=>108|146=>129|51=>128|n=>n,fun|1=>0|n=>n⟩
theorem indexLays:Go.Proofs.Lays.n143 Tryd.prog indexLays_ren:={
 mixed:=by kernel_rfl
 f143:=Tryd.func93.trans (congrArg some (by kernel_rfl))
 f217:=Tryd.func65.trans (congrArg some (by kernel_rfl))
 f219:=Tryd.func84.trans (congrArg some (by kernel_rfl))
 f224:=Tryd.func107.trans (congrArg some (by kernel_rfl))
 f225:=Tryd.func106.trans (congrArg some (by kernel_rfl))
 f266:=Tryd.func85.trans (congrArg some (by kernel_rfl))
 f267:=Tryd.func108.trans (congrArg some (by kernel_rfl))
 f314:=Tryd.func126.trans (congrArg some (by kernel_rfl))
 t3:=Tryd.underlying3
 a3:=Tryd.isAgg3
 z3:=Tryd.sizeOf3
 v3:=Tryd.zeroValue3
 t4:=Tryd.underlying4
 a4:=Tryd.isAgg4
 z4:=Tryd.sizeOf4
 v4:=Tryd.zeroValue4
 t5:=Tryd.underlying5
 a5:=Tryd.isAgg5
 z5:=Tryd.sizeOf5
 v5:=Tryd.zeroValue5
 t9:=Tryd.underlying9
 a9:=Tryd.isAgg9
 z9:=Tryd.sizeOf9
 v9:=Tryd.zeroValue9
 t46:=Tryd.underlying108
 a46:=Tryd.isAgg108
 z46:=Tryd.sizeOf108
 v46:=Tryd.zeroValue108
 t51:=Tryd.underlying128
 a51:=Tryd.isAgg128
 z51:=Tryd.sizeOf128
 v51:=Tryd.zeroValue128
 t146:=Tryd.underlying129
 a146:=Tryd.isAgg129
 z146:=Tryd.sizeOf129
 v146:=Tryd.zeroValue129
 g1:=by kernel_rfl}
def countLays_ren:Go.Shelf.Ren:=⟨fun|138=>92|195=>112|218=>114|143=>93|219=>84|217=>65|225=>106|224=>107|267=>108|266=>85|314=>126|n=>n,fun|9=>9|3=>3|4=>4|5=>5|0=>0|46=>108|146=>129|51=>128|n=>n,fun|1=>0|n=>n⟩
theorem countLays:Go.Proofs.Lays.n138 Tryd.prog countLays_ren:={
 mixed:=by kernel_rfl
 f138:=Tryd.func92.trans (congrArg some (by kernel_rfl))
 f143:=Tryd.func93.trans (congrArg some (by kernel_rfl))
 f195:=Tryd.func112.trans (congrArg some (by kernel_rfl))
 f217:=Tryd.func65.trans (congrArg some (by kernel_rfl))
 f218:=Tryd.func114.trans (congrArg some (by kernel_rfl))
 f219:=Tryd.func84.trans (congrArg some (by kernel_rfl))
 f224:=Tryd.func107.trans (congrArg some (by kernel_rfl))
 f225:=Tryd.func106.trans (congrArg some (by kernel_rfl))
 f266:=Tryd.func85.trans (congrArg some (by kernel_rfl))
 f267:=Tryd.func108.trans (congrArg some (by kernel_rfl))
 f314:=Tryd.func126.trans (congrArg some (by kernel_rfl))
 t0:=Tryd.underlying0
 a0:=Tryd.isAgg0
 z0:=Tryd.sizeOf0
 v0:=Tryd.zeroValue0
 t3:=Tryd.underlying3
 a3:=Tryd.isAgg3
 z3:=Tryd.sizeOf3
 v3:=Tryd.zeroValue3
 t4:=Tryd.underlying4
 a4:=Tryd.isAgg4
 z4:=Tryd.sizeOf4
 v4:=Tryd.zeroValue4
 t5:=Tryd.underlying5
 a5:=Tryd.isAgg5
 z5:=Tryd.sizeOf5
 v5:=Tryd.zeroValue5
 t9:=Tryd.underlying9
 a9:=Tryd.isAgg9
 z9:=Tryd.sizeOf9
 v9:=Tryd.zeroValue9
 t46:=Tryd.underlying108
 a46:=Tryd.isAgg108
 z46:=Tryd.sizeOf108
 v46:=Tryd.zeroValue108
 t51:=Tryd.underlying128
 a51:=Tryd.isAgg128
 z51:=Tryd.sizeOf128
 v51:=Tryd.zeroValue128
 t146:=Tryd.underlying129
 a146:=Tryd.isAgg129
 z146:=Tryd.sizeOf129
 v146:=Tryd.zeroValue129
 g1:=by kernel_rfl}
def splitLays_ren:Go.Shelf.Ren:=⟨fun|221=>68|268=>91|138=>92|143=>93|195=>112|197=>113|218=>114|219=>84|260=>129|217=>65|225=>106|224=>107|267=>108|266=>85|314=>126|n=>n,fun|9=>9|3=>3|31=>57|4=>4|0=>0|105=>117|21=>21|5=>5|46=>108|119=>145|139=>148|138=>147|146=>129|51=>128|n=>n,fun|1=>0|3=>4|4=>5|n=>n⟩
theorem splitLays:Go.Proofs.Lays.n221 Tryd.prog splitLays_ren:={
 mixed:=by kernel_rfl
 f138:=Tryd.func92.trans (congrArg some (by kernel_rfl))
 f143:=Tryd.func93.trans (congrArg some (by kernel_rfl))
 f195:=Tryd.func112.trans (congrArg some (by kernel_rfl))
 f197:=Tryd.func113.trans (congrArg some (by kernel_rfl))
 f217:=Tryd.func65.trans (congrArg some (by kernel_rfl))
 f218:=Tryd.func114.trans (congrArg some (by kernel_rfl))
 f219:=Tryd.func84.trans (congrArg some (by kernel_rfl))
 f221:=Tryd.func68.trans (congrArg some (by kernel_rfl))
 f224:=Tryd.func107.trans (congrArg some (by kernel_rfl))
 f225:=Tryd.func106.trans (congrArg some (by kernel_rfl))
 f260:=Tryd.func129.trans (congrArg some (by kernel_rfl))
 f266:=Tryd.func85.trans (congrArg some (by kernel_rfl))
 f267:=Tryd.func108.trans (congrArg some (by kernel_rfl))
 f268:=Tryd.func91.trans (congrArg some (by kernel_rfl))
 f314:=Tryd.func126.trans (congrArg some (by kernel_rfl))
 t0:=Tryd.underlying0
 a0:=Tryd.isAgg0
 z0:=Tryd.sizeOf0
 v0:=Tryd.zeroValue0
 t3:=Tryd.underlying3
 a3:=Tryd.isAgg3
 z3:=Tryd.sizeOf3
 v3:=Tryd.zeroValue3
 t4:=Tryd.underlying4
 a4:=Tryd.isAgg4
 z4:=Tryd.sizeOf4
 v4:=Tryd.zeroValue4
 t5:=Tryd.underlying5
 a5:=Tryd.isAgg5
 z5:=Tryd.sizeOf5
 v5:=Tryd.zeroValue5
 t9:=Tryd.underlying9
 a9:=Tryd.isAgg9
 z9:=Tryd.sizeOf9
 v9:=Tryd.zeroValue9
 t21:=Tryd.underlying21
 a21:=Tryd.isAgg21
 z21:=Tryd.sizeOf21
 v21:=Tryd.zeroValue21
 t31:=Tryd.underlying57
 a31:=Tryd.isAgg57
 z31:=Tryd.sizeOf57
 v31:=Tryd.zeroValue57
 t46:=Tryd.underlying108
 a46:=Tryd.isAgg108
 z46:=Tryd.sizeOf108
 v46:=Tryd.zeroValue108
 t51:=Tryd.underlying128
 a51:=Tryd.isAgg128
 z51:=Tryd.sizeOf128
 v51:=Tryd.zeroValue128
 t105:=Tryd.underlying117
 a105:=Tryd.isAgg117
 z105:=Tryd.sizeOf117
 v105:=Tryd.zeroValue117
 t119:=Tryd.underlying145
 a119:=Tryd.isAgg145
 z119:=Tryd.sizeOf145
 t138:=Tryd.underlying147
 a138:=Tryd.isAgg147
 z138:=Tryd.sizeOf147
 v138:=Tryd.zeroValue147
 t139:=Tryd.underlying148
 a139:=Tryd.isAgg148
 z139:=Tryd.sizeOf148
 v139:=Tryd.zeroValue148
 t146:=Tryd.underlying129
 a146:=Tryd.isAgg129
 z146:=Tryd.sizeOf129
 v146:=Tryd.zeroValue129
 g1:=by kernel_rfl
 g3:=by kernel_rfl
 g4:=by kernel_rfl}
theorem idxB_one(l:List UInt8)(c:UInt8):Go.Lib.indexB (bs l) ⟨#[c]⟩=Go.Lib.indexByte l c:=Go.Lib.index_one l c
theorem ext_tail(a r:List UInt8)(c:UInt8):(bs (a++c::r)).extract (a.length+(⟨#[c]⟩:ByteArray).size) (bs (a++c::r)).size=bs r:=by
 rw[bs_extract,bs_size,show(⟨#[c]⟩:ByteArray).size=1 from rfl]
 have h2:(a++c::r).drop (a.length+1)=r:=by rw[List.drop_append];simp
 rw[h2,List.take_of_length_le (by simp;omega)]
theorem ext_head(a r:List UInt8)(c:UInt8):(bs (a++c::r)).extract 0 (a.length+0)=bs a:=by
 rw[bs_extract,List.drop_zero,Nat.add_zero,Nat.sub_zero,List.take_left' rfl]
theorem count_one(c:UInt8):∀(n:Nat) (l:List UInt8),l.length≤n→Go.Lib.countB (bs l) ⟨#[c]⟩=l.count c
 |n,l,hn=>by
  rcases ib_cases c l with h|⟨a,r,rfl,h⟩
  · rw[Go.Lib.countB_miss _ _ ((idxB_one l c).trans (ib_no h))]
    exact(List.count_eq_zero.2 fun hm=>h c hm rfl).symm
  · have h11:1≤(⟨#[c]⟩:ByteArray).size:=Nat.le_refl 1
    rw[Go.Lib.countB_hit _ _ a.length h11 ((idxB_one _ c).trans (ib_hit h)),ext_tail]
    have hlt:r.length<n:=by simp at hn;omega
    obtain⟨n,rfl⟩:∃m,n=m+1:=⟨n -1,by omega⟩
    rw[count_one c n r (by omega),List.count_append,List.count_cons_self,List.count_eq_zero.2 fun hm=>h c hm rfl]
    omega
theorem split_one:∀(n:Nat) (l:List UInt8),l.length≤n→Go.Lib.splitB ⟨#[32]⟩ 0 (Go.Lib.countB (bs l) ⟨#[32]⟩) (bs l)=(splitL l).map bs
 |n,l,hn=>by
  rcases ib_cases 32 l with h|⟨a,r,rfl,h⟩
  · rw[Go.Lib.countB_miss _ _ ((idxB_one l 32).trans (ib_no h)),Go.Lib.splitB_zero,split_word h]
    rfl
  · have hi:=(idxB_one (a++32::r) 32).trans (ib_hit h)
    rw[Go.Lib.countB_hit _ _ a.length (by decide) hi,ext_tail,Nat.add_comm,Go.Lib.splitB_hit _ _ _ _ _ hi,ext_head,ext_tail,split_app h]
    have hlt:r.length<n:=by simp at hn;omega
    obtain⟨n,rfl⟩:∃m,n=m+1:=⟨n -1,by omega⟩
    rw[split_one n r (by omega)]
    rfl
def wordsV(l:List UInt8):Array Value:=((splitL l).map fun x=>Value.string (bs x)).toArray
theorem genSplit_calls(l:List UInt8)(hl:l.length<4294967281)(w:World):
 Calls Tryd.prog 68 #[.string (bs l), .string ⟨#[32]⟩, .int .i64 0, .int .i64 (-1)] w fun e w'=>e= .returned (.slice (some ⟨w.heap.size,0,none⟩) (splitL l).length (splitL l).length)∧∃t,w'=w.alloc (.cells (wordsV l) t):=by
 have h1:1≤(⟨#[32]⟩:ByteArray).size:=by decide
 have hle:=Go.Lib.countB_le ⟨#[32]⟩ h1 (bs l).size (bs l) (Nat.le_refl _)
 have hlen:=Go.Lib.splitB_all ⟨#[32]⟩ h1 0 _ (bs l) rfl
 have hsp:=split_one l.length l (Nat.le_refl _)
 have c:=Any.strings_genSplit_core splitLays (by kernel_rfl) (bs l) ⟨#[32]⟩ 0 (-1) (Go.Lib.countB (bs l) ⟨#[32]⟩+1) w (by rw[bs_size];exact hl) h1 (Nat.zero_le _)
  (fun x cs _=>(Any.strings_Index_one indexLays x 32 _).mono fun e w' ⟨h1,h2⟩=>⟨by rw[h1];show _=Ending.returned (.int .i64 (Go.Lib.index x.data.toList [32]));rw[Go.Lib.index_one],h2⟩)
  ((Any.strings_Count_one countLays (bs l) 32 w).mono fun e w' ⟨h1,h2⟩=>⟨by rw[h1,count_one 32 l.length l (Nat.le_refl _)];rfl,h2⟩)
  (by decide) (by decide) (by rw[if_pos (by decide)];omega)
 rw[Nat.add_sub_cancel,hlen]at c
 have e2:Go.Lib.cellsOf (Go.Lib.splitB ⟨#[32]⟩ 0 (Go.Lib.countB (bs l) ⟨#[32]⟩) (bs l)) (Go.Lib.countB (bs l) ⟨#[32]⟩+1)=wordsV l:=by
  rw[←hlen,Go.Lib.cellsOf_full,hsp,List.map_map]
  rfl
 have e3:Go.Lib.countB (bs l) ⟨#[32]⟩+1=(splitL l).length:=by rw[←hlen,hsp,List.length_map]
 rw[e2,e3]at c
 exact c.mono fun e w' ⟨h1,h2⟩=>⟨h1,_,h2⟩
theorem genSplit_run(l:List UInt8)(hl:l.length<4294967281):Reads Tryd.prog 68 [txt l,txt [32],int 0,int (-1)] (rsl eS (splitL l)):=by
 intro w X vs hH hvs
 obtain⟨hs,hv⟩:=hvs
 have e:vs= #[.string (bs l), .string ⟨#[32]⟩, .int .i64 0, .int .i64 (-1)]:=by
  obtain⟨u0,a0,b0⟩:=hv 0 (by simp)
  obtain⟨u1,a1,b1⟩:=hv 1 (by simp)
  obtain⟨u2,a2,b2⟩:=hv 2 (by simp)
  obtain⟨u3,a3,b3⟩:=hv 3 (by simp)
  have e0:u0= .string (bs l):=va_str b0
  have e1:u1= .string ⟨#[32]⟩:=va_str b1
  have e2:u2= .int .i64 0:=va_int b2
  have e3:u3= .int .i64 (-1):=va_int b3
  subst e0 e1 e2 e3
  obtain⟨ls⟩:=vs
  match ls,hs,a0,a1,a2,a3 with
  |[p,q,r,t],_,t0,t1,t2,t3=>
   simp at t0 t1 t2 t3
   rw[t0,t1,t2,t3]
 subst e
 refine(genSplit_calls l hl w).mono fun e w' ⟨he,t,hw⟩=> ?_
 subst hw
 have hg:Grow w (w.alloc (.cells (wordsV l) t)):=below_grow ((Go.RowKit.Below.refl _ w).alloc (Nat.le_refl _) _)
 have hb:(w.alloc (.cells (wordsV l) t)).heap[w.heap.size]? =some (.cells (wordsV l) t (0,0)):=by
  show(w.heap.push _)[w.heap.size]? =_
  simp
 have hfl:∀xs:List (List UInt8),fl eS xs=xs.map fun x=>FV.str (bs x):=fun xs=>by
  induction xs with
  |nil=>rfl
  |cons x xs ih=>rw[List.map_cons,←ih];rfl
 refine⟨rsl eS (splitL l),_,{X with I:=fun b=>X.I b∨b=w.heap.size},[],he, .c _ _ (VF.sl _ _ w.heap.size 0 _ (fun j=>Value.string (bs (nth (splitL l) j))) (Nat.le_refl _) (.inr rfl) (fun j hj=> ?_) fun j hj=> ?_), ?_, ?_,rfl⟩
 · have hj':j<(splitL l).length:=by rw[hfl,List.length_map]at hj;exact hj
   have e1:nth (splitL l) (j:Int)=(splitL l)[j]:=by rw[nth_eq (by omega)];rfl
   rw[e1]
   simp only[World.cell?,hb]
   rw[Nat.zero_add]
   unfold wordsV
   rw[List.getElem?_toArray,List.getElem?_map,List.getElem?_eq_getElem hj']
   rfl
 · have hj':j<(splitL l).length:=by rw[hfl,List.length_map]at hj;exact hj
   have e1:nth (splitL l) (j:Int)=(splitL l)[j]:=by rw[nth_eq (by omega)];rfl
   have e2:(fl eS (splitL l))[j]=FV.str (bs (nth (splitL l) j)):=by
    rw[e1]
    simp only[hfl,List.getElem_map]
   rw[e2]
   exact VF.str _
 · exact⟨fun b h=>h.elim (fun h=>Nat.lt_of_lt_of_le (hH.imm b h) hg.size) fun h=>by
    subst h
    exact(Array.getElem?_eq_some_iff.1 hb).1,fun id b h=>by simp at h,fun id id' b b' h=>by simp at h,hH.tab.mono fun b h=>⟨.inl h,hg.blk b (hH.imm b h)⟩⟩
 · exact⟨fun b h=>⟨.inl h,hg.blk b (hH.imm b h)⟩,Nat.le_refl _,fun _ _=>⟨rfl,rfl⟩,hg.size,hg.os,hg.tape,hg.output,Sub.refl _ _,fun b h _=>hg.blk b h,fun b h=> .inl h,fun b h=>h.elim .inl fun h=> .inr (.inr (by rw[h];exact Nat.le_refl _))⟩
theorem Split_run(l:List UInt8)(hl:l.length<4294967281):Reads Tryd.prog 38 [txt l,txt [32]] (rsl eS (splitL l)):=by
 refine Reads.iced ?_
 refine RunCall.cw (c:=_) Tryd.func38 rfl (n:=8) Tryd.ntmps38 (rs:=[.tmp 4]) rfl ?_
 simp only[List.length_cons,List.length_nil,zA,zS,List.replicate,List.cons_append,List.nil_append]
 simp(maxSteps:=999999)(disch:=omega)only[go_sem,zA,zM,zS,zE,zL]
 first|refine OpS.mk (genSplit_run l hl) (⟨_,Tryd.func68,rfl,rfl⟩:Enters Tryd.prog 68) rfl rfl rfl rfl rfl ?_|refine Loud.mk (genSplit_run l hl) (⟨_,Tryd.func68,rfl,rfl⟩:Enters Tryd.prog 68) rfl rfl rfl rfl rfl ?_
 simp(maxSteps:=999999)(disch:=omega)only[go_sem,zA,zM,zS,zE,zL]
 exact lessQ_ice rfl
end Go.Lg

namespace Go.Lg
open Go.Proofs
theorem shiftH_one{k g n:Nat}{xs:List Int}:shiftH k [some ⟨g,n,cl (eI .i64) xs⟩]=[some ⟨g,n,cl (eI .i64) xs⟩]:=by
 simp only[shiftH,List.map_cons,List.map_nil,Option.map_some,shiftB,shift_cl]
section
variable{P:Program}{o:Oper}{st:St}{K:KV}{fo:Operand}{xs:Array Operand}{ts:Array TypeId}{f:FuncId}{args args':List AV}{zs:List Int}{ops:Array Oper}{s:List AV}{H:Heap}
end
attribute [-go_sem] appendM lwF_cons
end Go.Lg

namespace Go.Lg
open Go.Proofs
attribute [-go_sem] appendM lwF_cons
theorem setV{xs:List Int}{i:Nat}(h:i<xs.length)(w v:Int):setRange (cl (eI .i64) (xs.set i w)) (0+(i:Int).toNat*1) [.f (.int .i64 v)]=cl (eI .i64) (xs.set i v):=by
 have:=setRange_cl (E:=eI .i64) (n:=1) (xs:=xs.set i w) (i:=i) (v:=v) (by rw[List.length_set];exact h)
 rw[List.set_set]at this
 exact this
structure Cap where
 gp:Nat
 gpg:Nat
 tb:Nat
 tbg:Nat
 ty:Nat
 tyg:Nat
 sz:Nat
 szg:Nat
 pb:Nat
 pbg:Nat
 mid:Nat
 mg:Nat
 pid:Nat
 pg:Nat
 gid:Nat
 gg:Nat
def Cap.ids(c:Cap):List Nat:=[c.gp,c.tb,c.ty,c.sz,c.pb,c.mid]
structure TryH(ft fy:FuncId)(p:Puz)(n most:Nat)(c:Cap)(H:Heap):Prop where
 g:look H c.gp c.gpg=some ⟨c.gpg,1,[.own c.gid c.gg 0 (n*n) none]⟩
 t:look H c.tb c.tbg=some ⟨c.tbg,1,[.fn ft [(c.pid,c.pg),(c.mid,c.mg)]]⟩
 y:look H c.ty c.tyg=some ⟨c.tyg,1,[.fn fy [(c.gp,c.gpg),(c.tb,c.tbg),(c.ty,c.tyg),(c.sz,c.szg),(c.pb,c.pbg)]]⟩
 z:look H c.sz c.szg=some ⟨c.szg,1,[.f (.int .i64 n)]⟩
 b:look H c.pb c.pbg=some ⟨c.pbg,1,cP p⟩
 m:look H c.mid c.mg=some ⟨c.mg,1,[.f (.int .i64 most)]⟩
theorem TryH.same{ft fy:FuncId}{p:Puz}{n most:Nat}{c:Cap}{H H':Heap}(h:TryH ft fy p n most c H)(hs:∀k∈c.ids,H'[k]? =H[k]?):TryH ft fy p n most c H':=by
 have k:∀i g b,i∈c.ids→look H i g=b→look H' i g=b:=fun i g b hi he=>by unfold look at*;rw[hs i hi];exact he
 exact⟨k _ _ _ (by simp[Cap.ids]) h.g,k _ _ _ (by simp[Cap.ids]) h.t,k _ _ _ (by simp[Cap.ids]) h.y,k _ _ _ (by simp[Cap.ids]) h.z,k _ _ _ (by simp[Cap.ids]) h.b,k _ _ _ (by simp[Cap.ids]) h.m⟩
theorem TryH.lt{ft fy:FuncId}{p:Puz}{n most:Nat}{c:Cap}{H:Heap}(h:TryH ft fy p n most c H):∀k∈c.ids,k<H.length:=by
 intro k hk
 have hl:∀{i g:Nat} {b:Blk},look H i g=some b→i<H.length:=fun h=>(List.getElem?_eq_some_iff.1 (look_some h).1).1
 simp only[Cap.ids,List.mem_cons,List.not_mem_nil,or_false]at hk
 rcases hk with rfl|rfl|rfl|rfl|rfl|rfl
 · exact hl h.g
 · exact hl h.t
 · exact hl h.y
 · exact hl h.z
 · exact hl h.b
 · exact hl h.m
end Go.Lg

namespace Go.Lg
open Go.Proofs
def Cap.idt(c:Cap):List Nat:=[c.gp,c.tb,c.ty,c.sz,c.pb]
structure TryT(ft fy:FuncId)(p:Puz)(n:Nat)(c:Cap)(H:Heap):Prop where
 g:look H c.gp c.gpg=some ⟨c.gpg,1,[.own c.gid c.gg 0 (n*n) none]⟩
 t:look H c.tb c.tbg=some ⟨c.tbg,1,[.fn ft [(c.pid,c.pg),(c.mid,c.mg)]]⟩
 y:look H c.ty c.tyg=some ⟨c.tyg,1,[.fn fy [(c.gp,c.gpg),(c.tb,c.tbg),(c.ty,c.tyg),(c.sz,c.szg),(c.pb,c.pbg)]]⟩
 z:look H c.sz c.szg=some ⟨c.szg,1,[.f (.int .i64 n)]⟩
 b:look H c.pb c.pbg=some ⟨c.pbg,1,cP p⟩
theorem TryT.same{ft fy:FuncId}{p:Puz}{n:Nat}{c:Cap}{H H':Heap}(h:TryT ft fy p n c H)(hs:∀k∈c.idt,H'[k]? =H[k]?):TryT ft fy p n c H':=by
 have k:∀i g b,i∈c.idt→look H i g=b→look H' i g=b:=fun i g b hi he=>by unfold look at*;rw[hs i hi];exact he
 exact⟨k _ _ _ (by simp[Cap.idt]) h.g,k _ _ _ (by simp[Cap.idt]) h.t,k _ _ _ (by simp[Cap.idt]) h.y,k _ _ _ (by simp[Cap.idt]) h.z,k _ _ _ (by simp[Cap.idt]) h.b⟩
theorem TryT.lt{ft fy:FuncId}{p:Puz}{n:Nat}{c:Cap}{H:Heap}(h:TryT ft fy p n c H):∀k∈c.idt,k<H.length:=by
 intro k hk
 have hl:∀{i g:Nat} {b:Blk},look H i g=some b→i<H.length:=fun h=>(List.getElem?_eq_some_iff.1 (look_some h).1).1
 simp only[Cap.idt,List.mem_cons,List.not_mem_nil,or_false]at hk
 rcases hk with rfl|rfl|rfl|rfl|rfl
 · exact hl h.g
 · exact hl h.t
 · exact hl h.y
 · exact hl h.z
 · exact hl h.b
attribute [-go_sem] appendM lwF_cons
end Go.Lg

namespace Go.Lg
open Go.Proofs
def ExtG(xs s:List Int):Prop:=∀k:Nat,0<nth xs k→nth s k=nth xs k
instance(xs s:List Int):Decidable (ExtG xs s):=decidable_of_iff (∀k,k<xs.length→0<nth xs (k:Int)→nth s (k:Int)=nth xs (k:Int)) ⟨fun h k hk=>by
 by_cases hl:k<xs.length
 · exact h k hl hk
 · rw[nth_over (by omega)]at hk;omega,fun h k _=>h k⟩
theorem ExtG.refl(xs:List Int):ExtG xs xs:=fun _ _=>rfl
theorem ExtG.trans{a b c:List Int}(h:ExtG a b)(k:ExtG b c):ExtG a c:=fun i hi=>by
 have:=h i hi
 rw[k i (by omega),this]
theorem ExtG.set{xs:List Int}{i:Nat}{v:Int}(hi:i<xs.length)(h0:¬0<nth xs i):ExtG xs (xs.set i v):=fun k hk=>by
 rw[nth_setN _ _ _ _ hi,if_neg (fun h=>by subst h;exact h0 hk)]
end Go.Lg

namespace Go.Lg
open Go.Proofs
def mAt(ms:List Nat)(k:Nat):Nat:=ms.getD k 0
theorem nth_nats(ms:List Nat)(k:Nat):nth (nats ms) k=((mAt ms k:Nat):Int):=by
 unfold nth nats mAt
 rw[Int.toNat_natCast]
 simp only[List.getD,List.getElem?_map]
 by_cases h:k<ms.length
 · rw[List.getElem?_eq_getElem h];rfl
 · rw[List.getElem?_eq_none (by omega)];rfl
theorem nats_len(ms:List Nat):(nats ms).length=ms.length:=by simp[nats]
theorem mAt_over{ms:List Nat}{k:Nat}(h:ms.length≤k):mAt ms k=0:=by
 unfold mAt
 simp[List.getD,List.getElem?_eq_none h]
theorem mAt_mem{ms:List Nat}{k:Nat}(h:k<ms.length):mAt ms k∈ms:=by
 unfold mAt
 simp[List.getD,List.getElem?_eq_getElem h]
structure MsN(ms:List Nat)(n:Nat):Prop where
 len:ms.length=n*n
 val:∀m∈ms,m≤2^(n+1) -2∧m%2=0
theorem MsN.at{ms:List Nat}{n:Nat}(h:MsN ms n)(k:Nat):mAt ms k≤2^(n+1) -2∧mAt ms k%2=0:=by
 by_cases hk:k<ms.length
 · exact h.val _ (mAt_mem hk)
 · rw[mAt_over (by omega)];exact⟨Nat.zero_le _,rfl⟩
theorem pow_n{n:Nat}(hn:n=2∨n=3∨n=4):8≤2^(n+1)∧2^(n+1)≤32:=by rcases hn with rfl|rfl|rfl<;>decide
theorem MsN.lt{ms:List Nat}{n:Nat}(hn:n=2∨n=3∨n=4)(h:MsN ms n)(k:Nat):mAt ms k≤30∧mAt ms k%2=0:=by
 have:=h.at k
 have:=pow_n hn
 omega
theorem MsN.ok{ms:List Nat}{n:Nat}(h:MsN ms n):MasksOk (nats ms) n:=by
 refine⟨by rw[nats_len];exact h.len,fun k hk=> ?_⟩
 have:=h.at k
 rw[nth_nats]
 omega
theorem MsN.set{ms:List Nat}{n k v:Nat}(h:MsN ms n)(hv:v≤2^(n+1) -2∧v%2=0):MsN (ms.set k v) n:=
 ⟨by rw[List.length_set];exact h.len,fun m hm=>by
   rcases List.mem_or_eq_of_mem_set hm with hm|rfl
   · exact h.val m hm
   · exact hv⟩
end Go.Lg

namespace Go.Lg
open Go.Proofs
section
variable{P:Program}{ops:Array Oper}{o:Oper}{s:List AV}{H:Heap}{K:KV}{fo:Operand}{xs:Array Operand}{ts:Array TypeId}{f:FuncId}{args args':List AV}{zs:List Int}
end
structure CpI(B:Heap)(j g:Nat)(size:Int)(given:List Int)(c r:CV)(l:List RO)(S I:List Nat):Prop where
 out:look B j g=some ⟨g,3,[.f (.int .i64 size),c,r]⟩
 rl:(l=[]∧r= .f .nil∧I=S)∨∃id g',r= .own id g' 0 l.length none∧look B id g'=some ⟨g',3,kl kR l⟩∧I=S++id::l.flatMap (·.i)
 cells:∀o∈l,OwnI B o.c o.r.cells o.i
 giv:OwnI B c given S
 nd:I.Nodup
 lt:∀x∈I,2≤x∧x<B.length∧x≠j
theorem CpI.next{B B3:Heap}{j g:Nat}{size:Int}{given:List Int}{c r:CV}{l:List RO}{S I:List Nat}(hC:CpI B j g size given c r l S I)(o:RO){id g':Nat}
 (hI:(l=[]∧I=S∧B.length≤id)∨I=S++id::l.flatMap (·.i)) (hs:∀k∈I,k≠id→B3[k]? =B[k]?) (hlen:B.length≤B3.length)
 (hout:look B3 j g=some ⟨g,3,[.f (.int .i64 size),c, .own id g' 0 (l.length+1) none]⟩) (hid:look B3 id g'=some ⟨g',3,kl kR (l++[o])⟩)
 (ho:OwnI B3 o.c o.r.cells o.i) (hoi:∀k∈o.i,B.length≤k∧k<B3.length∧k≠id∧k≠j) (hi:2≤id∧id<B3.length∧id≠j) (h2:2≤B.length):
 CpI B3 j g size given c (.own id g' 0 (l.length+1) none) (l++[o]) S (S++id::(l++[o]).flatMap (·.i)):=by
 have hJ:(S++id::l.flatMap (·.i)).Nodup∧(∀x∈S++l.flatMap (·.i),x∈I)∧(∀x∈S++l.flatMap (·.i),x≠id):=by
  rcases hI with⟨rfl,rfl,hb⟩|rfl
  · have hne:∀x∈I,x≠id:=fun x hx=>by have:=hC.lt x hx;omega
    refine⟨?_,by simp,by simpa using hne⟩
    simp only[List.flatMap_nil]
    rw[List.nodup_append]
    exact⟨hC.nd,by simp,fun a ha b hb=>by simp at hb;subst hb;exact hne a ha⟩
  · have hn:=hC.nd
    refine⟨hn,fun x hx=> ?_,fun x hx he=> ?_⟩
    · simp only[List.mem_append,List.mem_cons]at hx⊢
      rcases hx with hx|hx
      · exact .inl hx
      · exact .inr (.inr hx)
    · subst he
      rw[List.nodup_append]at hn
      obtain⟨n1,n2,n3⟩:=hn
      rcases List.mem_append.1 hx with hx|hx
      · exact n3 x hx x (by simp) rfl
      · exact(List.nodup_cons.1 n2).1 hx
 obtain⟨hn,hin,hne⟩:=hJ
 have hmem:∀x∈S++id::(l++[o]).flatMap (·.i),x∈S++l.flatMap (·.i)∨x=id∨x∈o.i:=fun x hx=>by
  simp only[List.flatMap_append,List.flatMap_cons,List.flatMap_nil,List.append_nil,List.mem_append,List.mem_cons]at hx⊢
  rcases hx with hx|rfl|hx|hx
  · exact .inl (.inl hx)
  · exact .inr (.inl rfl)
  · exact .inl (.inr hx)
  · exact .inr (.inr hx)
 refine⟨hout, .inr ⟨id,g',by simp,hid,rfl⟩,fun o' ho'=> ?_, ?_, ?_,fun x hx=> ?_⟩
 · rcases List.mem_append.1 ho' with ho'|ho'
   · refine(hC.cells o' ho').same fun k hk=> ?_
     have:k∈S++l.flatMap (·.i):=List.mem_append.2 (.inr (List.mem_flatMap.2 ⟨o',ho',hk⟩))
     exact hs k (hin k this) (hne k this)
   · simp at ho';subst ho';exact ho
 · refine hC.giv.same fun k hk=> ?_
   have:k∈S++l.flatMap (·.i):=List.mem_append.2 (.inl hk)
   exact hs k (hin k this) (hne k this)
 · have e:S++id::(l++[o]).flatMap (·.i)=(S++id::l.flatMap (·.i))++o.i:=by simp
   rw[e,List.nodup_append]
   refine⟨hn,ho.nd,fun a ha b hb he=> ?_⟩
   subst he
   have h4:=hoi a hb
   have:a∈S++l.flatMap (·.i):=by
    simp only[List.mem_append,List.mem_cons]at ha⊢
    rcases ha with ha|ha|ha
    · exact .inl ha
    · exact absurd ha h4.2.2.1
    · exact .inr ha
   have:=hC.lt a (hin a this)
   omega
 · rcases hmem x hx with hx|rfl|hx
   · have:=hC.lt x (hin x hx);omega
   · exact hi
   · have:=hoi x hx;omega
def limN:CV→Prop
 | .own _ _ _ _ lim=>lim=none
 | .f .nil=>True
 |_=>False
def puzQ1(p:Puz):KV:=fun v H=>∃c r S1 S2,v= .agg [.f (.int .i64 p.size),c,r]∧OwnI H c p.given S1∧((r= .f .nil∧p.rules=[]∧S2=[])∨OwnR H r p.rules S2)∧(S1++S2).Nodup∧limN r
theorem CpI.done{B B':Heap}{j g:Nat}{p:Puz}{c r:CV}{l:List RO}{S I:List Nat}(hC:CpI B j g p.size p.given c r l S I)(hm:l.map (·.r)=p.rules)(hs:∀k∈I,B'[k]? =B[k]?):
 puzQ1 p (.agg [.f (.int .i64 p.size),c,r]) B':=by
 rcases hC.rl with⟨rfl,rfl,rfl⟩|⟨id,g',rfl,hid,rfl⟩
 · exact⟨_,_,_,[],rfl,hC.giv.same hs, .inl ⟨rfl,hm.symm,rfl⟩,by rw[List.append_nil];exact hC.nd,trivial⟩
 · refine⟨_,_,_,_,rfl,hC.giv.same fun k hk=>hs k (List.mem_append.2 (.inl hk)), .inr ?_,hC.nd,rfl⟩
   rw[←hm]
   refine OwnR.same (.o id g' none l [] (by rw[List.append_nil];exact hid) hC.cells ?_ (by simp)) fun k hk=>hs k (List.mem_append.2 (.inr hk))
   have:=hC.nd
   rw[List.nodup_append]at this
   exact this.2.1
end Go.Lg

namespace Go.Lg
open Go.Proofs
theorem sum_le_mul:∀(l:List Nat) (b:Nat),(∀x∈l,x≤b)→l.sum≤b*l.length
 |[],b,_=>by simp
 |x::l,b,h=>by
  have h1:=sum_le_mul l b fun y hy=>h y (by simp[hy])
  have h2:=h x (by simp)
  simp only[List.sum_cons,List.length_cons,Nat.mul_add,Nat.mul_one]
  omega
theorem MsN.sum{ms:List Nat}{n:Nat}(hn:n=2∨n=3∨n=4)(h:MsN ms n):ms.sum≤480:=by
 have h1:=sum_le_mul ms 30 fun x hx=>by have:=(h.val x hx).1;have:=pow_n hn;omega
 have h2:ms.length≤16:=by rw[h.len];rcases hn with rfl|rfl|rfl<;>omega
 omega
end Go.Lg

namespace Go.Lg
open Go.Proofs
attribute [-go_sem] appendM lwF_cons
abbrev brnH (g:Nat) (b:Brn):Heap:=[some ⟨g,2,cB b⟩]
def mkQ(H:Heap)(id:Nat)(R:List Brn):KV:=fun v H'=>∃g',v= .c (.own id g' 0 R.length none)∧look H' id g'=some ⟨g',2,cl eB R⟩∧Frm H H' [id]
structure MkI(H HI:Heap)(id g gb:Nat)(p:Puz)(out:List Brn):Prop where
 cells:look HI id g=some ⟨g,2,cl eB out⟩
 box:look HI H.length gb=some ⟨gb,1,cP p⟩
 lt:id<H.length
 ln:H.length+1≤HI.length
 frm:∀i,i<H.length→i≠id→HI[i]? =H[i]?
theorem MkI.done{H HI:Heap}{id g gb:Nat}{p:Puz}{out:List Brn}(h:MkI H HI id g gb p out):lessQ HI (mkQ H id out) (.c (.own id g 0 out.length none)):=by
 have hl:=h.lt
 have hn:=h.ln
 refine⟨HI.take H.length,fun i b hb=> ?_,g,rfl, ?_,by simp;omega,fun i hi=> ?_⟩
 · by_cases hi:i<H.length
   · rwa [List.getElem?_take_of_lt hi]at hb
   · rw[List.getElem?_take_eq_none (by omega)]at hb;cases hb
 · have hc:=h.cells
   unfold look at hc⊢
   rw[List.getElem?_take_of_lt hl]
   exact hc
 · by_cases h2:i<H.length
   · rw[List.getElem?_take_of_lt h2,h.frm i h2 (by simpa using hi)]
   · rw[List.getElem?_take_eq_none (by omega),List.getElem?_eq_none (by omega)]
theorem MkI.app{H HI H':Heap}{id g gb:Nat}{p:Puz}{out:List Brn}(h:MkI H HI id g gb p out):MkI H (HI++H') id g gb p out:=
 ⟨look_appL h.cells,look_appL h.box,h.lt,by have:=h.ln;simp;omega,fun i h1 h2=>by rw[List.getElem?_append_left (by have:=h.ln;omega)];exact h.frm i h1 h2⟩
theorem MkI.put{H HI:Heap}{id g gb:Nat}{p:Puz}{out R:List Brn}(h:MkI H HI id g gb p out)(g':Nat):MkI H (HI.set id (some ⟨g',2,cl eB R⟩)) id g' gb p R:=by
 have hl:=h.lt
 have hn:=h.ln
 refine⟨?_, ?_,hl,by simp;omega,fun i h1 h2=>by rw[List.getElem?_set_ne (Ne.symm h2)];exact h.frm i h1 h2⟩
 · unfold look
   rw[List.getElem?_set_self (by omega)]
   simp
 · have hb:=h.box
   unfold look at hb⊢
   rw[List.getElem?_set_ne (by omega)]
   exact hb
theorem MkI.step{H HI H':Heap}{id g g' gb:Nat}{p:Puz}{out R:List Brn}(h:MkI H HI id g gb p out)(hf:Frm HI H' [id])(hc:look H' id g'=some ⟨g',2,cl eB R⟩):MkI H H' id g' gb p R:=by
 have hl:=h.lt
 have hn:=h.ln
 refine⟨hc, ?_,hl,by rw[hf.1];exact hn,fun i h1 h2=>by rw[hf.2 i (by simpa using h2)];exact h.frm i h1 h2⟩
 have hb:=h.box
 unfold look at hb⊢
 rw[hf.2 _ (by simp;omega)]
 exact hb
end Go.Lg

namespace Go.Lg
open Go.Proofs
attribute [-go_sem] appendM lwF_cons
structure MkJ(H HI:Heap)(id pid g pg gb:Nat)(p:Puz)(out:List Brn):Prop where
 cells:look HI id g=some ⟨g,2,cl eB out⟩
 cell:look HI pid pg=some ⟨pg,1,[.own id g 0 out.length none]⟩
 box:look HI H.length gb=some ⟨gb,1,cP p⟩
 lt:id<H.length
 lt2:pid<H.length
 ne:id≠pid
 ln:H.length+1≤HI.length
 frm:∀i,i<H.length→i≠id→i≠pid→HI[i]? =H[i]?
def mkQ2(H:Heap)(id pid pg:Nat)(R:List Brn):KV:=fun v H'=>v= .tup []∧∃g',look H' id g'=some ⟨g',2,cl eB R⟩∧look H' pid pg=some ⟨pg,1,[.own id g' 0 R.length none]⟩∧Frm H H' [id,pid]
theorem MkJ.done{H HI:Heap}{id pid g pg gb:Nat}{p:Puz}{out:List Brn}(h:MkJ H HI id pid g pg gb p out):lessQ HI (mkQ2 H id pid pg out) (.tup []):=by
 have hl:=h.lt
 have hl2:=h.lt2
 have hn:=h.ln
 refine⟨HI.take H.length,fun i b hb=> ?_,rfl,g, ?_, ?_,by simp;omega,fun i hi=> ?_⟩
 · by_cases hi:i<H.length
   · rwa [List.getElem?_take_of_lt hi]at hb
   · rw[List.getElem?_take_eq_none (by omega)]at hb;cases hb
 · have hc:=h.cells
   unfold look at hc⊢
   rw[List.getElem?_take_of_lt hl]
   exact hc
 · have hc:=h.cell
   unfold look at hc⊢
   rw[List.getElem?_take_of_lt hl2]
   exact hc
 · simp only[List.mem_cons,List.not_mem_nil,or_false,not_or]at hi
   by_cases h2:i<H.length
   · rw[List.getElem?_take_of_lt h2,h.frm i h2 hi.1 hi.2]
   · rw[List.getElem?_take_eq_none (by omega),List.getElem?_eq_none (by omega)]
theorem MkJ.app{H HI H':Heap}{id pid g pg gb:Nat}{p:Puz}{out:List Brn}(h:MkJ H HI id pid g pg gb p out):MkJ H (HI++H') id pid g pg gb p out:=
 ⟨look_appL h.cells,look_appL h.cell,look_appL h.box,h.lt,h.lt2,h.ne,by have:=h.ln;simp;omega,fun i h1 h2 h3=>by rw[List.getElem?_append_left (by have:=h.ln;omega)];exact h.frm i h1 h2 h3⟩
theorem MkJ.step{H HI H':Heap}{id pid g g' pg gb:Nat}{p:Puz}{out R:List Brn}(h:MkJ H HI id pid g pg gb p out)(hf:∀i,i<HI.length→i≠id→i≠pid→i≤H.length→H'[i]? =HI[i]?)(hln:HI.length≤H'.length)(hc:look H' id g'=some ⟨g',2,cl eB R⟩)(hc2:look H' pid pg=some ⟨pg,1,[.own id g' 0 R.length none]⟩):MkJ H H' id pid g' pg gb p R:=by
 have hl:=h.lt
 have hl2:=h.lt2
 have hn:=h.ln
 refine⟨hc,hc2, ?_,hl,hl2,h.ne,by omega,fun i h1 h2 h3=>by rw[hf i (by omega) h2 h3 (by omega)];exact h.frm i h1 h2 h3⟩
 have hb:=h.box
 unfold look at hb⊢
 rw[hf _ (by omega) (by omega) (by omega) (Nat.le_refl _)]
 exact hb
theorem MkJ.push{H HI:Heap}{id pid g pg gb:Nat}{p:Puz}{out:List Brn}(h:MkJ H HI id pid g pg gb p out)(b:Brn)(g1 g':Nat):
 look ((HI++brnH g1 b).set id (some ⟨g',2,cl eB (out++[b])⟩)) pid pg=some ⟨pg,1,[.own id g 0 out.length none]⟩∧
 MkJ H (((HI++brnH g1 b).set id (some ⟨g',2,cl eB (out++[b])⟩)).set pid (some ⟨pg,1,[.own id g' 0 (out.length+1) none]⟩)) id pid g' pg gb p (out++[b]):=by
 have hl:=h.lt
 have hl2:=h.lt2
 have hn:=h.ln
 have hne:=h.ne
 have h1:=(h.app (H':=brnH g1 b)).cell
 have hlen:(HI++brnH g1 b).length=HI.length+1:=by simp
 refine⟨?_,(h.app (H':=brnH g1 b)).step (fun i h2 h3 h4 _=> ?_) (by simp) ?_ ?_⟩
 · unfold look at h1⊢
   rw[List.getElem?_set_ne hne]
   exact h1
 · rw[List.getElem?_set_ne (Ne.symm h4),List.getElem?_set_ne (Ne.symm h3)]
 · unfold look
   rw[List.getElem?_set_ne (Ne.symm hne),List.getElem?_set_self (by omega)]
   simp
 · unfold look
   rw[List.getElem?_set_self (by simp;omega)]
   simp
end Go.Lg

namespace Go.Lg
open Go.Proofs
theorem RunCall.iceIn{P:Program}{f:FuncId}{args args':List AV}{H H':Heap}{Q:KV}(S:Nat→Bool)(hh:IceH S H H')(hl:args'.length=args.length)(ha:∀j (h:j<args.length),∃y,args'[j]? =some y∧Ice1 S H args[j] y)
 (h:RunCall P f args' H' Q):RunCall P f args H Q:=by
 intro w X vs hH hvs
 have hvs':VAs w (X.iceS S H) H' args' vs:=by
  refine⟨by rw[hl];exact hvs.1,fun i hi=> ?_⟩
  obtain⟨u,h1,h2⟩:=hvs.2 i (by omega)
  obtain⟨y,h3,h4⟩:=ha i (by omega)
  have:args'[i]=y:=by simpa[List.getElem?_eq_getElem hi]using h3
  rw[this]
  exact⟨u,h1,ice1_sound hH hh h4 h2⟩
 exact(h w _ vs (iceS_rel hH hh) hvs').mono fun _ w' ⟨v,u,X',H',h1,h2,h3,h4,h5⟩=>⟨v,u,X',H',h1,h2,h3,(iceS_ev hh).trans h4,h5⟩
def CntO(number:Nat)(pn gn pf gf:Nat)(H:Heap)(ls:List (List Int))(S:List Nat):Prop:=
 look H pn gn=some ⟨gn,1,[.f (.int .i64 ((number -ls.length:Nat):Int))]⟩∧∃c,look H pf gf=some ⟨gf,1,[c]⟩∧
  ((ls.length≤number∧c= .f .nil∧S=[])∨(number<ls.length∧∃id g,c= .own id g 0 (ls.getD number []).length none∧S=[id]∧look H id g=some ⟨g,1,cl (eI .i64) (ls.getD number [])⟩))
theorem CntO.same{number pn gn pf gf:Nat}{H H':Heap}{ls:List (List Int)}{S:List Nat}(h:CntO number pn gn pf gf H ls S)(hs:∀k,k∈[pn,pf]∨k∈S→H'[k]? =H[k]?):CntO number pn gn pf gf H' ls S:=by
 have k:∀i g b,(i∈[pn,pf]∨i∈S)→look H i g=b→look H' i g=b:=fun i g b hi he=>by unfold look at*;rw[hs i hi];exact he
 obtain⟨h1,c,h2,h3⟩:=h
 refine⟨k _ _ _ (.inl (by simp)) h1,c,k _ _ _ (.inl (by simp)) h2, ?_⟩
 rcases h3 with h|⟨h4,id,g,h5,h6,h7⟩
 · exact .inl h
 · exact .inr ⟨h4,id,g,h5,h6,k _ _ _ (.inr (by rw[h6];simp)) h7⟩
end Go.Lg
