/- GpN, GpV, GpX, GpY, GpZ, GpJC, GpKC, GpWF, GpKE, cut to what is needed. -/
import Derived.Test.YtiahmfdabpafoaaDoorIac1
import Derived.Test.YtiahmfdabpafoaaDoorIac4
import Derived.Test.YtiahmfdabpafoaaDoorIab9
import Derived.Test.YtiahmfdabpafoaaDoorIab8
import Derived.Test.YtiahmfdabpafoaaDoorIab2
import Derived.Test.YtiahmfdabpafoaaDoorIab4
import Derived.Test.YtiahmfdabpafoaaDoorIac5
import Derived.Test.YtiahmfdabpafoaaDoorIac0
import Derived.Test.YtiahmfdabpafoaaDoorIac2
import Derived.Test.YtiahmfdabpafoaaDoorIab5
open Nat renaming reduceAdd→zA,reduceMul→zM,reduceSub→zS,reduceEqDiff→zE,reduceLeDiff→zL
set_option linter.unusedSimpArgs false
set_option linter.unusedVariables false
set_option maxRecDepth 100000
namespace Go.Lg
open Go.Proofs
def bothG(a b:List Int):List Int:=(List.range a.length).map fun i:Nat=>max (nth a i) (nth b i)
def gameGrid(q:Gam):List Int:=if gameValid q then bothG q.task.given q.put else[]
end Go.Lg

namespace Go.Lg
open Go.Proofs
theorem heldRuleS_run(rs:List Rul)(k:Int)(hk:0≤k∧k+wM rs≤2^50)(hx:smRs rs):Reads Tryd.prog 43 [rsl eR (mrk k rs),int k] (int (k+wM rs)):=by
 have hlen:=hx.1
 have hml:(mrk k rs).length=rs.length:=mrk_length k rs
 refine RunCall.cw (c:=_) Tryd.func43 rfl (n:=40) Tryd.ntmps43 (rs:=[.tmp 4]) rfl ?_
 simp only[List.length_cons,List.length_nil,zA,zS,List.replicate,List.cons_append,List.nil_append]
 simp(maxSteps:=999999)(disch:=omega)only[go_sem,zA,zM,zS,zE,zL]
 refine loop_rule (fun i:Nat=>rs.length -i) (fun i=>i≤rs.length) (fun i=>[.k, .p (int (k+wM (rs.take i))), .a, .a, .a, .p (int i), .a, .a, .a, .a, .a, .a, .a, .a, .a, .a, .a, .a, .a, .a, .a, .a, .a, .a, .a, .a, .a, .a, .a, .a, .a, .a, .a, .a, .a, .a, .a, .a, .a, .a]) (fun _=>[]) 0 (Nat.zero_le _) (by simp(maxSteps:=999999)(disch:=omega)only[go_sem,zA,zM,zS,zE,zL];simp[wM]) (hle_nil _) ?_
 intro i hi
 have hle:=wM_take_le rs i
 simp(maxSteps:=999999)(disch:=omega)only[go_sem,zA,zM,zS,zE,zL,mrk_length]
 ((first|(with_reducible first|refine condK_dec ?_ ?_|refine condK_ndec ?_ ?_|refine condK_nb ?_ ?_)|refine condK_b ?_ ?_)<;>intro h)
 · have h:i<rs.length:=by omega
   have hw1:wM (rs.take (i+1))=wM (rs.take i)+(2+(nth rs i).cells.length):=by rw[take_succ_nth h,wM_app,wM_one]
   have hle2:=wM_take_le rs (i+1)
   have hc:=hx.2 _ (nth_mem h)
   simp(maxSteps:=999999)(disch:=omega)only[go_sem,zA,zM,zS,zE,zL,mrk_length,mrk_nth h]
   first|refine OpS.rd (heldIntS_run (nth rs i).cells.length (k+wM (rs.take i)+1) (by omega) (by omega)) (⟨_,Tryd.func36,rfl,rfl⟩:Enters Tryd.prog 36) rfl rfl rfl rfl ?_|refine Loud.rd (heldIntS_run (nth rs i).cells.length (k+wM (rs.take i)+1) (by omega) (by omega)) (⟨_,Tryd.func36,rfl,rfl⟩:Enters Tryd.prog 36) rfl rfl rfl rfl ?_
   simp(maxSteps:=999999)(disch:=omega)only[go_sem,zA,zM,zS,zE,zL]
   simp(maxSteps:=999999)(disch:=omega)only[go_sem,zA,zM,zS,zE,zL,lt_no,lt_yes,le_no,le_yes,eq_no,eq_yes,mrk_length,mrk_nth h]
   exact⟨i+1,⟨h,by omega⟩,⟨by push_cast;omega,by omega⟩,hle_nil _⟩
 have h:i=rs.length:=by omega
 subst h
 simp(maxSteps:=999999)(disch:=omega)only[go_sem,zA,zM,zS,zE,zL]
 rw[List.take_length]
theorem heldPuzzle_run(p:Puz)(k:Int)(hk:0≤k∧k+wMP p≤2^50)(hx:smP p):Reads Tryd.prog 17 [aP (mrkP k p),int k] (int (k+wMP p)):=by
 have h1:=hx.1
 unfold wMP at hk
 refine RunCall.cw (c:=_) Tryd.func17 rfl (n:=18) Tryd.ntmps17 (rs:=[.tmp 4]) rfl ?_
 simp only[List.length_cons,List.length_nil,zA,zS,List.replicate,List.cons_append,List.nil_append]
 simp(maxSteps:=999999)(disch:=omega)only[go_sem,zA,zM,zS,zE,zL]
 intro g
 first|refine OpS.rd (heldIntS_run p.given.length k (by omega) h1) (⟨_,Tryd.func36,rfl,rfl⟩:Enters Tryd.prog 36) rfl rfl rfl rfl ?_|refine Loud.rd (heldIntS_run p.given.length k (by omega) h1) (⟨_,Tryd.func36,rfl,rfl⟩:Enters Tryd.prog 36) rfl rfl rfl rfl ?_
 simp(maxSteps:=999999)(disch:=omega)only[go_sem,zA,zM,zS,zE,zL]
 simp(maxSteps:=1000000) (disch:=omega)only[go_sem,lt_no,lt_yes,le_no,le_yes,eq_no,eq_yes,Nat.reduceAdd,Nat.reduceMul,Nat.reduceSub,Nat.reduceEqDiff,Nat.reduceLeDiff]
 first|refine OpS.rd (heldRuleS_run p.rules (k+p.given.length) (by omega) hx.2) (⟨_,Tryd.func43,rfl,rfl⟩:Enters Tryd.prog 43) rfl rfl rfl rfl ?_|refine Loud.rd (heldRuleS_run p.rules (k+p.given.length) (by omega) hx.2) (⟨_,Tryd.func43,rfl,rfl⟩:Enters Tryd.prog 43) rfl rfl rfl rfl ?_
 simp(maxSteps:=999999)(disch:=omega)only[go_sem,zA,zM,zS,zE,zL]
 simp(maxSteps:=1000000) (disch:=omega)only[go_sem,lt_no,lt_yes,le_no,le_yes,eq_no,eq_yes,Nat.reduceAdd,Nat.reduceMul,Nat.reduceSub,Nat.reduceEqDiff,Nat.reduceLeDiff]
 unfold wMP
 push_cast
 omega
end Go.Lg

namespace Go.Lg
open Go.Proofs
theorem resV_cellTmp(P:Program)(s:List AV)(H:Heap)(t u:Nat)(ty:TypeId):resV P s H [.cell t ty, .tmp u]=(loadV P H ty (s.getD t .void)).map fun v=> .tup [v,s.getD u .void]:=by
 simp only[resV,resAll,resOne]
 cases loadV P H ty (s.getD t .void)<;>rfl
attribute [go_sem] resV_cellTmp
inductive OwnA(H:Heap):CV→List Int→List Nat→Prop where
 |n:OwnA H (.f .nil) [] []
 |o (id g:Nat) (xs:List Int) (h:look H id g=some ⟨g,1,cl (eI .i64) xs⟩):OwnA H (.own id g 0 xs.length none) xs [id]
theorem OwnA.toI{H:Heap}{c:CV}{xs:List Int}{S:List Nat}(h:OwnA H c xs S):OwnI H (nzC c) xs S:=by
 cases h with
 |n=>exact .e
 |o id g xs h=>exact .o id g none xs [] (by rw[List.append_nil];exact h)
theorem OwnA.same{H H':Heap}{c:CV}{xs:List Int}{S:List Nat}(h:OwnA H c xs S)(hs:∀i∈S,H'[i]? =H[i]?):OwnA H' c xs S:=by
 cases h with
 |n=>exact .n
 |o id g xs h=>exact .o id g xs (by unfold look at*;rw[hs id (by simp)];exact h)
theorem OwnA.shift{H0 H:Heap}{c:CV}{xs:List Int}{S:List Nat}(h:OwnA H c xs S):OwnA (H0++shiftH H0.length H) (shiftC H0.length c) xs (S.map (· +H0.length)):=by
 cases h with
 |n=>exact .n
 |o id g xs h=>
  refine .o (id+H0.length) g xs ?_
  rw[look_shiftH h]
  simp only[shiftB,shift_cl]
theorem OwnA.lt{H:Heap}{c:CV}{xs:List Int}{S:List Nat}(h:OwnA H c xs S):∀i∈S,i<H.length:=fun i hi=>h.toI.lt i hi
theorem OwnA.nd{H:Heap}{c:CV}{xs:List Int}{S:List Nat}(h:OwnA H c xs S):S.Nodup:=h.toI.nd
structure OwnGA(H:Heap)(cs:List CV)(q:Gam)(S:List Nat):Prop where
 ex:∃c1 c2 c3 c4 S1 S2 S3 S4,cs=[.f (.int .i64 q.task.size),c1,c2,c3,c4]∧S=S1++(S2++(S3++S4))∧OwnI H c1 q.task.given S1∧OwnR H c2 q.task.rules S2∧OwnI H c3 q.put S3∧OwnA H c4 q.moves S4
 nd:S.Nodup
theorem OwnGA.shift{H0 H:Heap}{cs:List CV}{q:Gam}{S:List Nat}(h:OwnGA H cs q S):OwnGA (H0++shiftH H0.length H) (cs.map (shiftC H0.length)) q (S.map (· +H0.length)):=by
 obtain⟨c1,c2,c3,c4,S1,S2,S3,S4,rfl,rfl,h1,h2,h3,h4⟩:=h.ex
 exact⟨⟨_,_,_,_,_,_,_,_,rfl,by simp,h1.shift,h2.shift,h3.shift,h4.shift⟩,nodup_shift h.nd⟩
theorem OwnGA.lt{H:Heap}{cs:List CV}{q:Gam}{S:List Nat}(h:OwnGA H cs q S):∀i∈S,i<H.length:=by
 obtain⟨c1,c2,c3,c4,S1,S2,S3,S4,rfl,rfl,h1,h2,h3,h4⟩:=h.ex
 intro i hi
 simp only[List.mem_append]at hi
 rcases hi with hi|hi|hi|hi
 · exact h1.lt i hi
 · exact h2.lt i hi
 · exact h3.lt i hi
 · exact h4.lt i hi
theorem OwnGA.same{H H':Heap}{cs:List CV}{q:Gam}{S:List Nat}(h:OwnGA H cs q S)(hs:∀i∈S,H'[i]? =H[i]?):OwnGA H' cs q S:=by
 obtain⟨c1,c2,c3,c4,S1,S2,S3,S4,rfl,rfl,h1,h2,h3,h4⟩:=h.ex
 refine⟨⟨_,_,_,_,_,_,_,_,rfl,rfl,h1.same fun i hi=>hs i ?_,h2.same fun i hi=>hs i ?_,h3.same fun i hi=>hs i ?_,h4.same fun i hi=>hs i ?_⟩,h.nd⟩<;>simp[hi]
section
variable{P:Program}{o:Oper}{st:St}{K:KV}{fo:Operand}{xs:Array Operand}{ts:Array TypeId}{f:FuncId}{args args':List AV}{zs:List Int}{ops:Array Oper}{s:List AV}{H:Heap}
end
theorem OwnI.inv{H:Heap}{c:CV}{xs:List Int}{S:List Nat}(h:OwnI H c xs S)(hn:xs≠[]):∃id g lim ys,c= .own id g 0 xs.length lim∧S=[id]∧look H id g=some ⟨g,1,cl (eI .i64) (xs++ys)⟩:=by
 cases h with
 |e=>exact absurd rfl hn
 |o id g lim xs ys h=>exact⟨id,g,lim,ys,rfl,rfl,h⟩
end Go.Lg

namespace Go.Lg
open Go.Proofs
attribute [-go_sem] appendM
def putOk(q:Gam)(cell value:Int):Prop:=0≤cell∧cell<q.put.length∧nth (gameGrid q) cell≤0∧1≤value∧value≤q.task.size
instance(q:Gam)(cell value:Int):Decidable (putOk q cell value):=by unfold putOk;infer_instance
end Go.Lg

namespace Go.Lg
open Go.Proofs
attribute [-go_sem] appendM
theorem OwnA.inv{H:Heap}{c:CV}{xs:List Int}{S:List Nat}(h:OwnA H c xs S)(hn:xs≠[]):∃id g,c= .own id g 0 xs.length none∧S=[id]∧look H id g=some ⟨g,1,cl (eI .i64) xs⟩:=by
 cases h with
 |n=>exact absurd rfl hn
 |o id g xs h=>exact⟨id,g,rfl,rfl,h⟩
end Go.Lg

namespace Go.Lg
open Go.Proofs
attribute [-go_sem] appendM lwF_cons
structure OwnP0(H:Heap)(c r:CV)(p:Puz)(S1 S2:List Nat):Prop where
 g:OwnI H c p.given S1
 rr:(r= .f .nil∧p.rules=[]∧S2=[])∨OwnR H r p.rules S2
 nd:(S1++S2).Nodup
 l:limN r
theorem limN_shift{r:CV}{k:Nat}(h:limN r):limN (shiftC k r):=by
 cases r with
 |f v=>cases v<;>exact h
 |_=>exact h
section
variable{H H':Heap}{c r:CV}{p:Puz}{S1 S2:List Nat}
theorem OwnP0.same(h:OwnP0 H c r p S1 S2)(hs:∀i∈S1++S2,H'[i]? =H[i]?):OwnP0 H' c r p S1 S2:=
 ⟨h.g.same fun i hi=>hs i (by simp[hi]),h.rr.imp id fun k=>k.same fun i hi=>hs i (by simp[hi]),h.nd,h.l⟩
theorem OwnP0.lt(h:OwnP0 H c r p S1 S2):∀i∈S1++S2,i<H.length:=fun i hi=>by
 rcases List.mem_append.1 hi with hi|hi
 · exact h.g.lt i hi
 · rcases h.rr with⟨_,_,rfl⟩|k
   · simp at hi
   · exact k.lt i hi
theorem OwnP0.blk(h:OwnP0 H c r p S1 S2):(∀i∈S1++S2,∀b,H[i]? =some (some b)→∀x∈b.cs,scalC x=true)∧scalC c=true∧scalC r=true:=by
 refine⟨fun i hi=> ?_,h.g.scal1, ?_⟩
 · rcases List.mem_append.1 hi with hi|hi
   · exact h.g.blk i hi
   · rcases h.rr with⟨_,_,rfl⟩|k
     · simp at hi
     · exact k.blk i hi
 · rcases h.rr with⟨rfl,_,_⟩|k
   · rfl
   · exact k.scal1
theorem OwnP0.shift{H0:Heap}(h:OwnP0 H c r p S1 S2):OwnP0 (H0++shiftH H0.length H) (shiftC H0.length c) (shiftC H0.length r) p (S1.map (· +H0.length)) (S2.map (· +H0.length)):=by
 refine⟨h.g.shift, ?_, ?_,limN_shift h.l⟩
 · rcases h.rr with⟨rfl,h1,rfl⟩|k
   · exact .inl ⟨rfl,h1,rfl⟩
   · exact .inr k.shift
 · rw[←List.map_append]
   exact List.pairwise_map.2 (h.nd.imp fun h h'=>h (by omega))
theorem OwnP0.snap(h:OwnP0 H c r p S1 S2):[AV.agg [.f (.int .i64 p.size),c,r]].mapM (snapD H)=some [aP p]:=by
 have e1:∀x:Int,frzC H (.f (.int .i64 x))=some (.f (.int .i64 x)):=fun _=>rfl
 have e2:=h.g.frzC
 have e3:frzC H r=some (.f (fsl eR p.rules)):=by
  rcases h.rr with⟨rfl,h1,_⟩|k
  · rw[h1];exact(OwnL.n (E:=eR) (n:=3)).frzC
  · exact k.frzC
 simp only[snapD,List.mapM_cons,List.mapM_nil,e1,e2,e3,Option.bind_eq_bind,Option.pure_def,Option.bind_some,Option.map_some]
end
section
variable{P:Program}{o:Oper}{st:St}{K:KV}{fo:Operand}{xs:Array Operand}{ts:Array TypeId}{f:FuncId}{args args':List AV}{p:Puz}
end
end Go.Lg

namespace Go.Lg
open Go.Proofs
def eP2(q:Int×Int):List FV:=[.int .i64 q.1, .int .i64 q.2]
instance:HSz eP2 2:=⟨fun _=>rfl⟩
end Go.Lg

namespace Go.Lg
open Go.Proofs
theorem readQ_rd{P:Program}{f:FuncId}{args:List AV}{r:Rul}{b:Bool}(h:RunCall P f args [] (readQ r b)):Reads P f args (.tup [aR r,bool b]):=
 Reads.ice h fun v H ⟨c,S,e,o⟩=>by
  subst e
  have h1:=o.frzC
  have e:∀x,frzC H (.f (.int .i64 x))=some (.f (.int .i64 x)):=fun x=>rfl
  have e2:∀x,frzC H (.f (.bool x))=some (.f (.bool x)):=fun x=>rfl
  simp only[frzA,List.mapM_cons,List.mapM_nil,frz1,h1,e,e2,Option.pure_def,Option.bind_eq_bind,Option.bind_some,Option.map_some]
theorem readR_len(s:List UInt8):(readR s).cells.length≤2^40:=by
 by_cases h:accR s
 · obtain⟨r,hv,rfl⟩:=(acc_iff s).1 h
   rw[(read_rule hv).1]
   have:=rule_cells hv
   omega
 · rw[(read_no h).1];decide
section
variable{P:Program}{o:Oper}{st:St}{K:KV}{fo:Operand}{xs:Array Operand}{ts:Array TypeId}{f:FuncId}{args:List AV}{q:Rul}{b:Bool}
theorem OpS.mkRR(hc:RunCall P f args [] (readQ q b))(he:Enters P f)(ho:o.op= .call ⟨.value fo,xs,ts⟩)(ha:callArgs st fo xs=some (f,args))(hf:args.all frozenA=true)
 (hk:∀c HN S,(∀i,i<st.h.length→HN[i]? =st.h[i]?)→st.h.length≤HN.length→OwnI HN c q.cells S→(∀i∈S,st.h.length≤i∧i<HN.length)→K (.tup [.agg [.f (.int .i64 q.kind),c, .f (.int .i64 q.val)],bool b]) HN):OpS P o st K:=
 OpS.mkQ hc he ho ha hf fun r H' ⟨c,S,h1,h2⟩=>by
  subst h1
  exact⟨rfl,hk _ _ _ (fun i hi=>List.getElem?_append_left hi) (by simp) h2.shift fun i hi=>by
   have:=shift_ge h2.lt i hi
   rw[List.length_append,shiftH_length]
   exact this⟩
end
end Go.Lg

namespace Go.Lg
open Go.Proofs
attribute [-go_sem] appendM lwF_cons
theorem appendM_kl{P:Program}{H:Heap}{t:TypeId}{ei:TI}{K:KV}{n:Nat}(ht:sliceOf P t=some ei)(hz:ei.zero.length=ei.size∧ei.size=n∧0<n∧ei.bytes≤64){oid og k sid sg:Nat}{lim:Option Nat}{cs cs':List CV}(hk:k≤2^40)
 (h1:look H oid og=some ⟨og,n,cs⟩) (h2:cs.length=k*n) (h3:look H sid sg=some ⟨sg,n,cs'⟩) (h4:cs'.length=n) (hK:∀g',K (.c (.own oid g' 0 (k+1) none)) (H.set oid (some ⟨g',n,cs++cs'⟩))):appendM P H t (.c (.own oid og 0 k none)) (.c (.own sid sg 0 1 lim)) K:=by
 obtain⟨hz1,rfl,hz3,hz4⟩:=hz
 have hb:(k+1)*ei.bytes≤140737488355328:=by
  have:(k+1)*ei.bytes≤(k+1)*64:=Nat.mul_le_mul_left _ hz4
  omega
 have e1:elems H ei.size (.c (.own oid og 0 k none))=some (k,cs):=by
  simp only[elems,h1,List.drop_zero,if_true,List.take_of_length_le (Nat.le_of_eq h2)]
 have e2:elems H ei.size (.c (.own sid sg 0 1 lim))=some (1,cs'):=by
  simp only[elems,h3,List.drop_zero,if_true,Nat.one_mul,List.take_of_length_le (Nat.le_of_eq h4)]
 unfold appendM
 simp only[ht,hz1,if_true,e1,e2]
 simp only[appM,h1,h2,if_true,okP]
 exact⟨⟨by first|trivial|omega,hz3,trivial,by omega,hb⟩,hK⟩
structure RsO(T:Heap)(l:List RO)(rs:List Rul):Prop where
 r:l.map (·.r)=rs
 o:∀o∈l,OwnI (none::T) o.c o.r.cells o.i
theorem RsO.nil:RsO [] [] []:=⟨rfl,fun o h=>by cases h⟩
theorem RsO.add{T X:Heap}{l:List RO}{rs:List Rul}(h:RsO T l rs){o:RO}(ho:OwnI (none::(T++X)) o.c o.r.cells o.i):RsO (T++X) (l++[o]) (rs++[o.r]):=
 ⟨by rw[List.map_append,h.r];rfl,fun o' hm=>by
   rcases List.mem_append.1 hm with hm|hm
   · exact(h.o o' hm).app
   · have:o'=o:=by simpa using hm
     rw[this];exact ho⟩
theorem RsO.len{T:Heap}{l:List RO}{rs:List Rul}(h:RsO T l rs):l.length=rs.length:=by rw[←h.r,List.length_map]
theorem RsO.take{T:Heap}{l:List RO}{rs:List Rul}(h:RsO T l rs)(c:Nat):RsO T (l.take c) (rs.take c):=⟨by rw[List.map_take,h.r],fun o ho=>h.o o (List.mem_of_mem_take ho)⟩
theorem mapM_frz_kR'{H:Heap}{n:Nat}(l:List RO)(h:∀o∈l,∃S,OwnI H o.c o.r.cells S):(kl kR l).mapM (frz H (n+1))=some (fl eR (l.map (·.r))):=by
 induction l with
 |nil=>rfl
 |cons o l ih=>
  obtain⟨S,hS⟩:=h o (by simp)
  have e1:∀x:Int,frz H (n+1) (.f (.int .i64 x))=some (.int .i64 x):=fun _=>rfl
  show(kR o++kl kR l).mapM _=_
  rw[List.mapM_append,ih fun o' hm=>h o' (by simp[hm])]
  simp only[kR,List.mapM_cons,List.mapM_nil,e1,hS.frz n,Option.bind_eq_bind,Option.pure_def,Option.bind_some,Option.map_some]
  rfl
theorem OwnI.nz{T:Heap}{c:CV}{xs:List Int}{S:List Nat}(h:OwnI (none::T) c xs S):∀i∈S,0<i:=by
 cases h with
 |e=>intro i hi;cases hi
 |o id g lim xs ys h=>
  intro i hi
  have:i=id:=by simpa using hi
  subst this
  cases i with
  |zero=>simp[look]at h
  |succ i=>omega
theorem RsO.frzC{T:Heap}{l:List RO}{rs:List Rul}(h:RsO T l rs){g:Nat}{lim:Option Nat}{ys:List CV}:Lg.frzC (some ⟨g,3,kl kR l++ys⟩::T) (.own 0 g 0 l.length lim)=some (.f (fsl eR rs)):=by
 have hl:(kl kR l).length=l.length*3:=kl_length l
 have e:((kl kR l++ys).drop 0).take (l.length*3)=kl kR l:=by rw[List.drop_zero,List.take_append_of_le_length (by omega),List.take_of_length_le (by omega)]
 have ho:∀o∈l,∃S,OwnI (some ⟨g,3,kl kR l++ys⟩::T) o.c o.r.cells S:=fun o hm=>by
  have:=h.o o hm
  have hz:=this.nz
  exact⟨o.i,this.same fun i hi=>by
   cases i with
   |zero=>exact absurd (hz 0 hi) (Nat.lt_irrefl _)
   |succ i=>rfl⟩
 simp only[Lg.frzC,frz,look_zero,e,mapM_frz_kR' l ho,Option.map_some]
 rw[h.r,fsl,h.len]
end Go.Lg
