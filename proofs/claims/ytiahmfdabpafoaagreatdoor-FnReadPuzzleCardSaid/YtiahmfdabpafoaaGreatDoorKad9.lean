/- GpT, GpN, GpX, GpY, GpZ, GpJC, GpKC, GpWF, GpKE, cut to what is needed. -/
import Derived.Test.YtiahmfdabpafoaaGreatDoorKad6
import Derived.Test.YtiahmfdabpafoaaGreatDoorKad2
import Derived.Test.YtiahmfdabpafoaaGreatDoorKad1
import Derived.Test.YtiahmfdabpafoaaGreatDoorKac7
import Derived.Test.YtiahmfdabpafoaaGreatDoorKac9
import Derived.Test.YtiahmfdabpafoaaGreatDoorKab5
import Derived.Test.YtiahmfdabpafoaaGreatDoorKad8
import Derived.Test.YtiahmfdabpafoaaGreatDoorKad0
import Derived.Test.YtiahmfdabpafoaaGreatDoorKad4
import Derived.Test.YtiahmfdabpafoaaGreatDoorKab4
import Derived.Test.YtiahmfdabpafoaaGreatDoorKac2
import Derived.Test.YtiahmfdabpafoaaGreatDoorKab8
open List renaming getElem?_append_left → Jb, length_append → Je, take_of_length_le → Jn, append_nil → Jv, mapM_cons → Jz, drop_zero → JB, mem_append → JF, length_map → JL, map_append → J1, mapM_nil → Qa
open Nat renaming reduceAdd→zA,reduceMul→zM,reduceSub→zS,reduceEqDiff→zE,reduceLeDiff→zL
set_option linter.unusedSimpArgs false
set_option linter.unusedVariables false
set_option maxRecDepth 100000
namespace Go.Lg
open Go.Proofs
def ruleQ(r:Q2):KV:=fun v H=>∃c S,v= .agg [.f (.int .i64 r.kind),c, .f (.int .i64 r.val)]∧Qv H c r.cells S
theorem Qd.rule{P:Program}{f:FuncId}{args:List AV}{r:Q2}(h:Jq P f args [] (ruleQ r)):Qd P f args (aR r):=
 Qd.ice h fun v H' ⟨c,S,h1,h2⟩=>by
  subst h1
  have e1:∀n:Int,Lg.frzC H' (.f (.int .i64 n))=some (.f (.int .i64 n)):=fun _=>rfl
  simp only[U7,Jz,Qa,Wf,e1,h2.frzC,Option.map_some,Option.pure_def,Option.bind_eq_bind,Option.bind_some]
  try rfl
end Go.Lg

namespace Go.Lg
open Go.Proofs
def bothG(a b:List Int):List Int:=(List.range a.length).map fun i:Nat=>max (JM a i) (JM b i)
def Je9(q:B8):List Int:=if Jdl q then bothG q.task.given q.put else[]
end Go.Lg

namespace Go.Lg
open Go.Proofs
theorem F0(P:Program)(s:List AV)(H:Ji)(t u:Nat)(ty:TypeId):WP P s H [.cell t ty, .tmp u]=(Uy P H ty (s.getD t .void)).map fun v=> .tup [v,s.getD u .void]:=by
 simp only[WP,Wo,Kb]
 cases Uy P H ty (s.getD t .void)<;>rfl
attribute [go_sem] F0
inductive Xb(H:Ji):CV→List Int→List Nat→Prop where
 |n:Xb H (.f .nil) [] []
 |o (id g:Nat) (xs:List Int) (h:look H id g=some ⟨g,1,cl (eI .i64) xs⟩):Xb H (.own id g 0 xs.length none) xs [id]
theorem Xb.toI{H:Ji}{c:CV}{xs:List Int}{S:List Nat}(h:Xb H c xs S):Qv H (nzC c) xs S:=by
 cases h with
 |n=>exact .e
 |o id g xs h=>exact .o id g none xs [] (by rw[Jv];exact h)
theorem Xb.same{H H':Ji}{c:CV}{xs:List Int}{S:List Nat}(h:Xb H c xs S)(hs:∀i∈S,H'[i]? =H[i]?):Xb H' c xs S:=by
 cases h with
 |n=>exact .n
 |o id g xs h=>exact .o id g xs (by unfold look at*;rw[hs id (by simp)];exact h)
theorem Xb.shift{H0 H:Ji}{c:CV}{xs:List Int}{S:List Nat}(h:Xb H c xs S):Xb (H0++QN H0.length H) (Zo H0.length c) xs (S.map (· +H0.length)):=by
 cases h with
 |n=>exact .n
 |o id g xs h=>
  refine .o (id+H0.length) g xs ?_
  rw[ZK h]
  simp only[Q3,Vp]
theorem Xb.lt{H:Ji}{c:CV}{xs:List Int}{S:List Nat}(h:Xb H c xs S):∀i∈S,i<H.length:=fun i hi=>h.toI.lt i hi
theorem Xb.nd{H:Ji}{c:CV}{xs:List Int}{S:List Nat}(h:Xb H c xs S):S.Nodup:=h.toI.nd
structure K8(H:Ji)(cs:List CV)(q:B8)(S:List Nat):Prop where
 ex:∃c1 c2 c3 c4 S1 S2 S3 S4,cs=[.f (.int .i64 q.task.size),c1,c2,c3,c4]∧S=S1++(S2++(S3++S4))∧Qv H c1 q.task.given S1∧ZZ H c2 q.task.rules S2∧Qv H c3 q.put S3∧Xb H c4 q.moves S4
 nd:S.Nodup
theorem K8.shift{H0 H:Ji}{cs:List CV}{q:B8}{S:List Nat}(h:K8 H cs q S):K8 (H0++QN H0.length H) (cs.map (Zo H0.length)) q (S.map (· +H0.length)):=by
 obtain⟨c1,c2,c3,c4,S1,S2,S3,S4,rfl,rfl,h1,h2,h3,h4⟩:=h.ex
 exact⟨⟨_,_,_,_,_,_,_,_,rfl,by simp,h1.shift,h2.shift,h3.shift,h4.shift⟩,W1 h.nd⟩
theorem K8.lt{H:Ji}{cs:List CV}{q:B8}{S:List Nat}(h:K8 H cs q S):∀i∈S,i<H.length:=by
 obtain⟨c1,c2,c3,c4,S1,S2,S3,S4,rfl,rfl,h1,h2,h3,h4⟩:=h.ex
 intro i hi
 simp only[JF]at hi
 rcases hi with hi|hi|hi|hi
 · exact h1.lt i hi
 · exact h2.lt i hi
 · exact h3.lt i hi
 · exact h4.lt i hi
theorem K8.same{H H':Ji}{cs:List CV}{q:B8}{S:List Nat}(h:K8 H cs q S)(hs:∀i∈S,H'[i]? =H[i]?):K8 H' cs q S:=by
 obtain⟨c1,c2,c3,c4,S1,S2,S3,S4,rfl,rfl,h1,h2,h3,h4⟩:=h.ex
 refine⟨⟨_,_,_,_,_,_,_,_,rfl,rfl,h1.same fun i hi=>hs i ?_,h2.same fun i hi=>hs i ?_,h3.same fun i hi=>hs i ?_,h4.same fun i hi=>hs i ?_⟩,h.nd⟩<;>simp[hi]
section
variable{P:Program}{o:Oper}{st:St}{K:KV}{fo:Operand}{xs:Array Operand}{ts:Array TypeId}{f:FuncId}{args args':List AV}{zs:List Int}{ops:Array Oper}{s:List AV}{H:Ji}
end
theorem Qv.inv{H:Ji}{c:CV}{xs:List Int}{S:List Nat}(h:Qv H c xs S)(hn:xs≠[]):∃id g lim ys,c= .own id g 0 xs.length lim∧S=[id]∧look H id g=some ⟨g,1,cl (eI .i64) (xs++ys)⟩:=by
 cases h with
 |e=>exact absurd rfl hn
 |o id g lim xs ys h=>exact⟨id,g,lim,ys,rfl,rfl,h⟩
end Go.Lg

namespace Go.Lg
open Go.Proofs
attribute [-go_sem] Qg
def Jha(q:B8)(cell value:Int):Prop:=0≤cell∧cell<q.put.length∧JM (Je9 q) cell≤0∧1≤value∧value≤q.task.size
instance(q:B8)(cell value:Int):Decidable (Jha q cell value):=by unfold Jha;infer_instance
end Go.Lg

namespace Go.Lg
open Go.Proofs
attribute [-go_sem] Qg
theorem Xb.inv{H:Ji}{c:CV}{xs:List Int}{S:List Nat}(h:Xb H c xs S)(hn:xs≠[]):∃id g,c= .own id g 0 xs.length none∧S=[id]∧look H id g=some ⟨g,1,cl (eI .i64) xs⟩:=by
 cases h with
 |n=>exact absurd rfl hn
 |o id g xs h=>exact⟨id,g,rfl,rfl,h⟩
end Go.Lg

namespace Go.Lg
open Go.Proofs
attribute [-go_sem] Qg JP
structure WO(H:Ji)(c r:CV)(p:Zk)(S1 S2:List Nat):Prop where
 g:Qv H c p.given S1
 rr:(r= .f .nil∧p.rules=[]∧S2=[])∨ZZ H r p.rules S2
 nd:(S1++S2).Nodup
 l:JgI r
theorem Ja5{r:CV}{k:Nat}(h:JgI r):JgI (Zo k r):=by
 cases r with
 |f v=>cases v<;>exact h
 |_=>exact h
section
variable{H H':Ji}{c r:CV}{p:Zk}{S1 S2:List Nat}
theorem WO.same(h:WO H c r p S1 S2)(hs:∀i∈S1++S2,H'[i]? =H[i]?):WO H' c r p S1 S2:=
 ⟨h.g.same fun i hi=>hs i (by simp[hi]),h.rr.imp id fun k=>k.same fun i hi=>hs i (by simp[hi]),h.nd,h.l⟩
theorem WO.lt(h:WO H c r p S1 S2):∀i∈S1++S2,i<H.length:=fun i hi=>by
 rcases JF.1 hi with hi|hi
 · exact h.g.lt i hi
 · rcases h.rr with⟨_,_,rfl⟩|k
   · simp at hi
   · exact k.lt i hi
theorem WO.blk(h:WO H c r p S1 S2):(∀i∈S1++S2,∀b,H[i]? =some (some b)→∀x∈b.cs,Uh x=true)∧Uh c=true∧Uh r=true:=by
 refine⟨fun i hi=> ?_,h.g.scal1, ?_⟩
 · rcases JF.1 hi with hi|hi
   · exact h.g.blk i hi
   · rcases h.rr with⟨_,_,rfl⟩|k
     · simp at hi
     · exact k.blk i hi
 · rcases h.rr with⟨rfl,_,_⟩|k
   · rfl
   · exact k.scal1
theorem WO.shift{H0:Ji}(h:WO H c r p S1 S2):WO (H0++QN H0.length H) (Zo H0.length c) (Zo H0.length r) p (S1.map (· +H0.length)) (S2.map (· +H0.length)):=by
 refine⟨h.g.shift, ?_, ?_,Ja5 h.l⟩
 · rcases h.rr with⟨rfl,h1,rfl⟩|k
   · exact .inl ⟨rfl,h1,rfl⟩
   · exact .inr k.shift
 · rw[←J1]
   exact List.pairwise_map.2 (h.nd.imp fun h h'=>h (by omega))
theorem WO.snap(h:WO H c r p S1 S2):[AV.agg [.f (.int .i64 p.size),c,r]].mapM (QS H)=some [aP p]:=by
 have e1:∀x:Int,frzC H (.f (.int .i64 x))=some (.f (.int .i64 x)):=fun _=>rfl
 have e2:=h.g.frzC
 have e3:frzC H r=some (.f (WR eR p.rules)):=by
  rcases h.rr with⟨rfl,h1,_⟩|k
  · rw[h1];exact(Zt.n (E:=eR) (n:=3)).frzC
  · exact k.frzC
 simp only[QS,Jz,Qa,e1,e2,e3,Option.bind_eq_bind,Option.pure_def,Option.bind_some,Option.map_some]
end
section
variable{P:Program}{o:Oper}{st:St}{K:KV}{fo:Operand}{xs:Array Operand}{ts:Array TypeId}{f:FuncId}{args args':List AV}{p:Zk}
end
end Go.Lg

namespace Go.Lg
open Go.Proofs
def eP2(q:Int×Int):List FV:=[.int .i64 q.1, .int .i64 q.2]
instance:HSz eP2 2:=⟨fun _=>rfl⟩
end Go.Lg

namespace Go.Lg
open Go.Proofs
theorem Yv{P:Program}{f:FuncId}{args:List AV}{r:Q2}{b:Bool}(h:Jq P f args [] (Np r b)):Qd P f args (.tup [aR r,bool b]):=
 Qd.ice h fun v H ⟨c,S,e,o⟩=>by
  subst e
  have h1:=o.frzC
  have e:∀x,frzC H (.f (.int .i64 x))=some (.f (.int .i64 x)):=fun x=>rfl
  have e2:∀x,frzC H (.f (.bool x))=some (.f (.bool x)):=fun x=>rfl
  simp only[U7,Jz,Qa,Wf,h1,e,e2,Option.pure_def,Option.bind_eq_bind,Option.bind_some,Option.map_some]
theorem Kc(s:List UInt8):(QA s).cells.length≤2^40:=by
 by_cases h:B2 s
 · obtain⟨r,hv,rfl⟩:=(YW s).1 h
   rw[(V7 hv).1]
   have:=Wn hv
   omega
 · rw[(Uu h).1];decide
section
variable{P:Program}{o:Oper}{st:St}{K:KV}{fo:Operand}{xs:Array Operand}{ts:Array TypeId}{f:FuncId}{args:List AV}{q:Q2}{b:Bool}
theorem Qh.mkRR(hc:Jq P f args [] (Np q b))(he:Jm P f)(ho:o.op= .call ⟨.value fo,xs,ts⟩)(ha:Qp st fo xs=some (f,args))(hf:args.all Zc=true)
 (hk:∀c HN S,(∀i,i<st.h.length→HN[i]? =st.h[i]?)→st.h.length≤HN.length→Qv HN c q.cells S→(∀i∈S,st.h.length≤i∧i<HN.length)→K (.tup [.agg [.f (.int .i64 q.kind),c, .f (.int .i64 q.val)],bool b]) HN):Qh P o st K:=
 Qh.mkQ hc he ho ha hf fun r H' ⟨c,S,h1,h2⟩=>by
  subst h1
  exact⟨rfl,hk _ _ _ (fun i hi=>Jb hi) (by simp) h2.shift fun i hi=>by
   have:=Nb h2.lt i hi
   rw[Je,VV]
   exact this⟩
end
end Go.Lg

namespace Go.Lg
open Go.Proofs
attribute [-go_sem] Qg JP
theorem Jbv{P:Program}{H:Ji}{t:TypeId}{ei:TI}{K:KV}{n:Nat}(ht:QJ P t=some ei)(hz:ei.zero.length=ei.size∧ei.size=n∧0<n∧ei.bytes≤64){oid og k sid sg:Nat}{lim:Option Nat}{cs cs':List CV}(hk:k≤2^40)
 (h1:look H oid og=some ⟨og,n,cs⟩) (h2:cs.length=k*n) (h3:look H sid sg=some ⟨sg,n,cs'⟩) (h4:cs'.length=n) (hK:∀g',K (.c (.own oid g' 0 (k+1) none)) (H.set oid (some ⟨g',n,cs++cs'⟩))):Qg P H t (.c (.own oid og 0 k none)) (.c (.own sid sg 0 1 lim)) K:=by
 obtain⟨hz1,rfl,hz3,hz4⟩:=hz
 have hb:(k+1)*ei.bytes≤140737488355328:=by
  have:(k+1)*ei.bytes≤(k+1)*64:=Nat.mul_le_mul_left _ hz4
  omega
 have e1:elems H ei.size (.c (.own oid og 0 k none))=some (k,cs):=by
  simp only[elems,h1,JB,if_true,Jn (Nat.le_of_eq h2)]
 have e2:elems H ei.size (.c (.own sid sg 0 1 lim))=some (1,cs'):=by
  simp only[elems,h3,JB,if_true,Nat.one_mul,Jn (Nat.le_of_eq h4)]
 unfold Qg
 simp only[ht,hz1,if_true,e1,e2]
 simp only[VI,h1,h2,if_true,W0]
 exact⟨⟨by first|trivial|omega,hz3,trivial,by omega,hb⟩,hK⟩
structure RsO(T:Ji)(l:List RO)(rs:List Q2):Prop where
 r:l.map (·.r)=rs
 o:∀o∈l,Qv (none::T) o.c o.r.cells o.i
theorem RsO.nil:RsO [] [] []:=⟨rfl,fun o h=>by cases h⟩
theorem RsO.add{T X:Ji}{l:List RO}{rs:List Q2}(h:RsO T l rs){o:RO}(ho:Qv (none::(T++X)) o.c o.r.cells o.i):RsO (T++X) (l++[o]) (rs++[o.r]):=
 ⟨by rw[J1,h.r];rfl,fun o' hm=>by
   rcases JF.1 hm with hm|hm
   · exact(h.o o' hm).app
   · have:o'=o:=by simpa using hm
     rw[this];exact ho⟩
theorem RsO.len{T:Ji}{l:List RO}{rs:List Q2}(h:RsO T l rs):l.length=rs.length:=by rw[←h.r,JL]
theorem RsO.take{T:Ji}{l:List RO}{rs:List Q2}(h:RsO T l rs)(c:Nat):RsO T (l.take c) (rs.take c):=⟨by rw[List.map_take,h.r],fun o ho=>h.o o (List.mem_of_mem_take ho)⟩
theorem Ge{H:Ji}{n:Nat}(l:List RO)(h:∀o∈l,∃S,Qv H o.c o.r.cells S):(kl kR l).mapM (frz H (n+1))=some (fl eR (l.map (·.r))):=by
 induction l with
 |nil=>rfl
 |cons o l ih=>
  obtain⟨S,hS⟩:=h o (by simp)
  have e1:∀x:Int,frz H (n+1) (.f (.int .i64 x))=some (.int .i64 x):=fun _=>rfl
  show(kR o++kl kR l).mapM _=_
  rw[List.mapM_append,ih fun o' hm=>h o' (by simp[hm])]
  simp only[kR,Jz,Qa,e1,hS.frz n,Option.bind_eq_bind,Option.pure_def,Option.bind_some,Option.map_some]
  rfl
theorem Qv.nz{T:Ji}{c:CV}{xs:List Int}{S:List Nat}(h:Qv (none::T) c xs S):∀i∈S,0<i:=by
 cases h with
 |e=>intro i hi;cases hi
 |o id g lim xs ys h=>
  intro i hi
  have:i=id:=by simpa using hi
  subst this
  cases i with
  |zero=>simp[look]at h
  |succ i=>omega
theorem RsO.frzC{T:Ji}{l:List RO}{rs:List Q2}(h:RsO T l rs){g:Nat}{lim:Option Nat}{ys:List CV}:Lg.frzC (some ⟨g,3,kl kR l++ys⟩::T) (.own 0 g 0 l.length lim)=some (.f (WR eR rs)):=by
 have hl:(kl kR l).length=l.length*3:=Xq l
 have e:((kl kR l++ys).drop 0).take (l.length*3)=kl kR l:=by rw[JB,List.take_append_of_le_length (by omega),Jn (by omega)]
 have ho:∀o∈l,∃S,Qv (some ⟨g,3,kl kR l++ys⟩::T) o.c o.r.cells S:=fun o hm=>by
  have:=h.o o hm
  have hz:=this.nz
  exact⟨o.i,this.same fun i hi=>by
   cases i with
   |zero=>exact absurd (hz 0 hi) (Nat.lt_irrefl _)
   |succ i=>rfl⟩
 simp only[Lg.frzC,frz,ZA,e,Ge l ho,Option.map_some]
 rw[h.r,WR,h.len]
end Go.Lg
