/- GpOE, GpDC, GpDE, GpI2, GpDF, GpDG, GpDH, GpDJ, cut to what is needed. -/
import Derived.Test.YtiahmfdabpafoaaDoorHab6
import Derived.Test.YtiahmfdabpafoaaDoorHac0
import Derived.Test.YtiahmfdabpafoaaDoorHab9
import Derived.Test.YtiahmfdabpafoaaDoorHab3
import Derived.Test.YtiahmfdabpafoaaDoorHab4
import Derived.Test.YtiahmfdabpafoaaDoorHab2
import Derived.Test.YtiahmfdabpafoaaDoorHab5
open Nat renaming reduceAdd→zA,reduceMul→zM,reduceSub→zS,reduceEqDiff→zE,reduceLeDiff→zL
set_option linter.unusedSimpArgs false
set_option linter.unusedVariables false
set_option maxRecDepth 100000
namespace Go.Lg
attribute [-go_sem] appendM
inductive OwnE(H:Heap):CV→List Int→List Nat→Prop where
 |m:OwnE H .emp [] []
 |o (id g:Nat) (xs:List Int) (h:look H id g=some ⟨g,1,cl (eI .i64) xs⟩):OwnE H (.own id g 0 xs.length none) xs [id]
theorem OwnE.frzC{H:Heap}{c:CV}{xs:List Int}{S:List Nat}(h:OwnE H c xs S):Lg.frzC H c=some (.f (fints xs)):=by
 cases h with
 |m=>rfl
 |o id g xs h=>exact(OwnI.o id g none xs [] (by rw[List.append_nil];exact h)).frzC
theorem OwnE.same{H H':Heap}{c:CV}{xs:List Int}{S:List Nat}(h:OwnE H c xs S)(hs:∀i∈S,H'[i]? =H[i]?):OwnE H' c xs S:=by
 cases h with
 |m=>exact .m
 |o id g xs h=>exact .o id g xs (by unfold look at*;rw[hs id (by simp)];exact h)
theorem OwnE.shift{H0 H:Heap}{c:CV}{xs:List Int}{S:List Nat}(h:OwnE H c xs S):OwnE (H0++shiftH H0.length H) (shiftC H0.length c) xs (S.map (· +H0.length)):=by
 cases h with
 |m=>exact .m
 |o id g xs h=>
  refine .o (id+H0.length) g xs ?_
  rw[look_shiftH h]
  simp only[shiftB,shift_cl]
theorem OwnE.lt{H:Heap}{c:CV}{xs:List Int}{S:List Nat}(h:OwnE H c xs S):∀i∈S,i<H.length:=by
 cases h with
 |m=>simp
 |o id g xs h=>intro i hi;have:i=id:=by simpa using hi
               subst this;exact(List.getElem?_eq_some_iff.1 (look_some h).1).1
theorem OwnE.nd{H:Heap}{c:CV}{xs:List Int}{S:List Nat}(h:OwnE H c xs S):S.Nodup:=by cases h<;>simp
theorem OwnE.inv{H:Heap}{c:CV}{xs:List Int}{S:List Nat}(h:OwnE H c xs S)(hn:xs≠[]):∃id g,c= .own id g 0 xs.length none∧S=[id]∧look H id g=some ⟨g,1,cl (eI .i64) xs⟩:=by
 cases h with
 |m=>exact absurd rfl hn
 |o id g xs h=>exact⟨id,g,rfl,rfl,h⟩
end Go.Lg

namespace Go.Lg
open Go.Proofs
def mvals(m:Nat)(k:Nat):List Int:=(([1,2,3,4]:List Nat).take k).flatMap fun v=>if m.testBit v=true then[(v:Int)]else[]
attribute [-go_sem] appendM lwF_cons
def nats(o:List Nat):List Int:=o.map fun(x:Nat)=>(x:Int)
theorem look_set_ne'{H:Heap}{id j g:Nat}{x:Option Blk}(h:id≠j):look (H.set id x) j g=look H j g:=by
 unfold look;rw[List.getElem?_set_ne h]
theorem resV_none(P:Program)(s:List AV)(H:Heap):resV P s H []=some (.tup []):=rfl
attribute [go_sem] resV_none
def remM(r:Rul)(ms:List Int)(k:Nat):List Nat:=(r.cells.drop k).map fun c=>(nth ms c).toNat
end Go.Lg

namespace Go.Lg
open Go.Proofs
def MasksOk(ms:List Int)(n:Nat):Prop:=ms.length=n*n∧∀k:Nat,k<ms.length→0≤nth ms k∧nth ms k≤((2^(n+1) -2:Nat):Int)∧nth ms k%2=0
def ruleM(r:Rul)(ms:List Int):List Nat:=ways r (remM r ms 0) [] (List.replicate r.cells.length 0)
end Go.Lg

namespace Go.Lg
open Go.Proofs
def puzzleValid(p:Puz):Bool:=gridValid p.given p.size&&(decide (p.rules.length≤20)&&p.rules.all fun r=>ruleValid r p.size)
end Go.Lg

namespace Go.Lg
open Go.Proofs
structure PuzN(p:Puz)(n:Nat):Prop where
 hn:n=2∨n=3∨n=4
 size:p.size=n
 len:p.given.length=n*n
 rl:p.rules.length≤40
 rv:∀r∈p.rules,ruleValid r n=true
theorem PuzN.of{p:Puz}(h:puzzleValid p=true):PuzN p p.size.toNat∧((p.size.toNat:Nat):Int)=p.size:=by
 simp only[puzzleValid,Bool.and_eq_true,decide_eq_true_eq,List.all_eq_true]at h
 obtain⟨h1,h2,h3⟩:=h
 have hb:=gridValid_bound h1
 have hs:((p.size.toNat:Nat):Int)=p.size:=by omega
 have hn:p.size.toNat=2∨p.size.toNat=3∨p.size.toNat=4:=by omega
 refine⟨⟨hn,hs.symm, ?_,by omega,fun r hr=>by rw[hs];exact h3 r hr⟩,hs⟩
 have:=hb.2.2.1
 rw[←hs]at this
 exact_mod_cast this
structure GrdN(xs:List Int)(n:Nat):Prop where
 len:xs.length=n*n
 val:∀k:Nat,k<xs.length→0≤nth xs k∧nth xs k≤n
theorem GrdN.of{xs:List Int}{n:Nat}(hn:n=2∨n=3∨n=4)(h:gridValid xs n=true):GrdN xs n:=by
 have hb:=gridValid_bound h
 exact⟨by have:=hb.2.2.1;rcases hn with rfl|rfl|rfl<;>omega,hb.2.2.2.2⟩
end Go.Lg

namespace Go.Lg
open Go.Proofs
theorem mask_get:∀(m:List Bool) (H:Heap) (j:Nat),(mask m H)[j]? =if m.getD j false=true then(H[j]?).map (fun _=>none)else H[j]?
 |[],H,j=>by simp[mask]
 |b::m,[],j=>by cases b<;>simp[mask]
 |b::m,x::H,j=>by
  have ih:=mask_get m H
  cases b<;>cases j with
  |zero=>simp[mask]
  |succ j=>simp only[mask,List.getElem?_cons_succ,List.getD_cons_succ,ih j]
theorem look_mask{m:List Bool}{H:Heap}{id g:Nat}(h:m.getD id false=false):look (mask m H) id g=look H id g:=by
 unfold look
 rw[mask_get,h]
 simp
theorem okM_gen{m:List Bool}{H H':Heap}(h:∀j (b:Blk),m.getD j false=false→H[j]? =some (some b)→H'[j]? =some (some b)):okM m H H':=fun id b hb=>by
 rw[mask_get]at hb⊢
 by_cases hm:m.getD id false=true
 · rw[if_pos hm]at hb
   cases hh:H[id]? <;>simp[hh]at hb
 · rw[if_neg hm]at hb⊢
   exact h id b (by simpa using hm) hb
def hideM(o n:Nat)(N:Nat):List Bool:=(List.range N).map fun j=>decide (j=o∨n≤j)
theorem hideM_no{o n N j:Nat}(h1:j≠o)(h2:j<n):(hideM o n N).getD j false=false:=by
 by_cases h:j<N
 · simp[hideM,List.getD,h,h1,h2]
 · have:(hideM o n N)[j]? =none:=List.getElem?_eq_none (by simp[hideM];omega)
   simp[List.getD,this]
theorem hideM_yes{o n N j:Nat}(h:(hideM o n N).getD j false=false)(hj:j<N):j≠o∧j<n:=by
 simp[hideM,List.getD,hj]at h
 omega
structure OutL(H:Heap)(pid pg:Nat)(ls:List (List Int))(S:List Nat):Prop where
 ex:∃oid og cs,look H pid pg=some ⟨pg,1,[.own oid og 0 ls.length none]⟩∧look H oid og=some ⟨og,1,cs⟩∧oid∈S∧cs.length=ls.length∧∀i (h:i<ls.length),∃id g,cs[i]? =some (.own id g 0 ls[i].length none)∧look H id g=some ⟨g,1,cl (eI .i64) ls[i]⟩∧id∈S∧id≠oid
 pn:pid∉S
theorem OutL.same{H H':Heap}{pid pg:Nat}{ls:List (List Int)}{S:List Nat}(h:OutL H pid pg ls S)(hs:∀i,i=pid∨i∈S→H'[i]? =H[i]?):OutL H' pid pg ls S:=by
 obtain⟨⟨oid,og,cs,h1,h2,h3,h4,h5⟩,hn⟩:=h
 refine⟨⟨oid,og,cs,by unfold look at*;rw[hs pid (.inl rfl)];exact h1,by unfold look at*;rw[hs oid (.inr h3)];exact h2,h3,h4,fun i hi=> ?_⟩,hn⟩
 obtain⟨id,g,k1,k2,k3,k4⟩:=h5 i hi
 exact⟨id,g,k1,by unfold look at*;rw[hs id (.inr k3)];exact k2,k3,k4⟩
end Go.Lg

namespace Go.Lg
open Go.Proofs
attribute [-go_sem] appendM lwF_cons
def vals(n v:Nat):List Nat:=((List.range n).map (· +1)).drop (v -1)
theorem appendM_cells{P:Program}{H:Heap}{t:TypeId}{ei:TI}{K:KV}(ht:sliceOf P t=some ei)(hz:ei.zero.length=ei.size∧ei.size=1∧ei.bytes≤24){oid og k sid sg:Nat}{lim:Option Nat}{cs:List CV}{c:CV}(hk:k≤2^40)
 (h1:look H oid og=some ⟨og,1,cs⟩) (h2:cs.length=k) (h3:look H sid sg=some ⟨sg,1,[c]⟩) (hK:∀g',K (.c (.own oid g' 0 (k+1) none)) (H.set oid (some ⟨g',1,cs++[c]⟩))):appendM P H t (.c (.own oid og 0 k none)) (.c (.own sid sg 0 1 lim)) K:=by
 obtain⟨hz1,hz2,hz3⟩:=hz
 unfold appendM
 have hb:(k+1)*ei.bytes≤140737488355328:=by
  have:(k+1)*ei.bytes≤(k+1)*24:=Nat.mul_le_mul_left _ hz3
  omega
 simp only[ht,hz1,hz2,if_true,elems,h1,h3,List.drop_zero,Nat.one_mul,Nat.mul_one,appM,h2,okP]
 exact⟨⟨trivial,by omega,trivial,by omega,hb⟩,hK⟩
end Go.Lg

namespace Go.Lg
open Go.Proofs
theorem mapM_of{α β:Type}{f:α→Option β}:∀(l:List α) (r:List β),l.length=r.length→(∀i (h:i<l.length) (h':i<r.length),f l[i]=some r[i])→l.mapM f=some r
 |[],[],_,_=>rfl
 |[],_::_,h,_=>by simp at h
 |_::_,[],h,_=>by simp at h
 |a::l,b::r,hl,h=>by
  have h0:=h 0 (by simp) (by simp)
  have ih:=mapM_of l r (by simpa using hl) fun i h1 h2=>h (i+1) (by simpa using h1) (by simpa using h2)
  simp only[List.getElem_cons_zero]at h0
  simp only[List.mapM_cons,h0,ih,Option.pure_def,Option.bind_eq_bind,Option.bind_some]
theorem OutL.frz{H:Heap}{pid pg:Nat}{ls:List (List Int)}{S:List Nat}(h:OutL H pid pg ls S):∃oid og,look H pid pg=some ⟨pg,1,[.own oid og 0 ls.length none]⟩∧frzC H (.own oid og 0 ls.length none)=some (.f (fsl eL ls)):=by
 obtain⟨⟨oid,og,cs,h1,h2,h3,h4,h5⟩,_⟩:=h
 refine⟨oid,og,h1, ?_⟩
 have hm:cs.mapM (Lg.frz H 5)=some (ls.map fints):=by
  refine mapM_of _ _ (by simp[h4]) fun i hi hi'=> ?_
  have hil:i<ls.length:=by omega
  obtain⟨id,g,k1,k2,k3,k4⟩:=h5 i hil
  have e:cs[i]= .own id g 0 ls[i].length none:=by
   rw[List.getElem?_eq_getElem hi]at k1
   exact Option.some.inj k1
  rw[e,List.getElem_map]
  exact(OwnI.o (H:=H) id g none ls[i] [] (by rw[List.append_nil];exact k2)).frz 4
 have et:(cs.drop 0).take (ls.length*1)=cs:=by rw[List.drop_zero,List.take_of_length_le (by omega)]
 have ef:ls.map fints=fl eL ls:=by
  have:∀l:List (List Int),l.map fints=fl eL l:=fun l=>by
   induction l with
   |nil=>rfl
   |cons x l ih=>simp only[List.map_cons,ih,fl,List.flatMap_cons,eL,List.cons_append,List.nil_append]
  exact this ls
 simp only[frzC,Lg.frz,h2,et,hm,Option.map_some,ef]
end Go.Lg
