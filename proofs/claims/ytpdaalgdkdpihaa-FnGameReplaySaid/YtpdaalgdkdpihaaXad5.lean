/- GpRC, GpMA, GpEE, GpMB, cut to what is needed. -/
import Derived.Test.YtpdaalgdkdpihaaXad4
import Derived.Test.YtpdaalgdkdpihaaXab7
import Derived.Test.YtpdaalgdkdpihaaXad3
import Derived.Test.YtpdaalgdkdpihaaXac8
import Derived.Test.YtpdaalgdkdpihaaXab8
open Nat renaming reduceAdd→zA,reduceMul→zM,reduceSub→zS,reduceEqDiff→zE,reduceLeDiff→zL
set_option linter.unusedSimpArgs false
set_option linter.unusedVariables false
set_option maxRecDepth 100000
namespace Go.Lg
open Go.Proofs
theorem rul_ext{r s:Rul}(h1:r.kind=s.kind)(h2:r.val=s.val)(h3:r.cells=s.cells):r=s:=by
 cases r;cases s;simp_all
set_option maxHeartbeats 2000000 in
theorem samePuzzle_run(p q:Puz)(hx:smP p):Reads Try.prog 66 [aP p,aP q] (bool (decide (p=q))):=by
 obtain⟨hg,hrl,hrs⟩:=hx
 refine RunCall.cw (c:=_) Try.func66 rfl (n:=79) Try.ntmps66 (rs:=[.tmp 4]) rfl ?_
 simp only[List.length_cons,List.length_nil,zA,zS,List.replicate,List.cons_append,List.nil_append]
 simp(maxSteps:=999999)(disch:=omega)only[go_sem,zA,zM,zS,zE,zL]
 intro ga gb
 by_cases e1:p.size=q.size
 rotate_left
 · have d1:decide (p.size=q.size)=false:=decide_eq_false e1
   simp(maxSteps:=999999)(disch:=omega)only[go_sem,zA,zM,zS,zE,zL,d1]
   exact(decide_eq_false fun h=>e1 (by rw[h])).symm
 have d1:decide (p.size=q.size)=true:=decide_eq_true e1
 simp(maxSteps:=999999)(disch:=omega)only[go_sem,zA,zM,zS,zE,zL,d1]
 first|refine OpS.rd (sameIntsF_run p.given q.given hg) (⟨_,Try.func39,rfl,rfl⟩:Enters Try.prog 39) rfl rfl rfl rfl ?_|refine Loud.rd (sameIntsF_run p.given q.given hg) (⟨_,Try.func39,rfl,rfl⟩:Enters Try.prog 39) rfl rfl rfl rfl ?_
 simp(maxSteps:=999999)(disch:=omega)only[go_sem,zA,zM,zS,zE,zL]
 by_cases e2:p.given=q.given
 rotate_left
 · have d2:decide (p.given=q.given)=false:=decide_eq_false e2
   simp(maxSteps:=999999)(disch:=omega)only[go_sem,zA,zM,zS,zE,zL,d2]
   exact(decide_eq_false fun h=>e2 (by rw[h])).symm
 have d2:decide (p.given=q.given)=true:=decide_eq_true e2
 simp(maxSteps:=999999)(disch:=omega)only[go_sem,zA,zM,zS,zE,zL,d2]
 by_cases e3:p.rules.length=q.rules.length
 rotate_left
 · have d3:decide ((p.rules.length:Int)=(q.rules.length:Int))=false:=decide_eq_false (by omega)
   simp(maxSteps:=999999)(disch:=omega)only[go_sem,zA,zM,zS,zE,zL,d3]
   exact(decide_eq_false fun h=>e3 (by rw[h])).symm
 have d3:decide ((p.rules.length:Int)=(q.rules.length:Int))=true:=decide_eq_true (by omega)
 simp(maxSteps:=999999)(disch:=omega)only[go_sem,zA,zM,zS,zE,zL,d3]
 refine loop_rule (fun i:Nat=>p.rules.length -i) (fun i=>i≤p.rules.length∧∀j:Nat,j<i→nth p.rules j=nth q.rules j) (fun i=>[.a, .a, .k, .k, .a, .p (int i), .a, .a, .a, .a, .a, .a, .a, .a, .a, .a, .a, .a, .a, .a, .a, .a, .a, .a, .a, .a, .a, .a, .a, .a, .a, .a, .a, .a, .a, .a, .a, .a, .a, .a, .a, .a, .a, .a, .a, .a, .a, .a, .a, .a, .a, .a, .a, .a, .a, .a, .a, .a, .a, .a, .a, .a, .a, .a, .a, .a, .a, .a, .a, .a, .a, .a, .a, .a, .a, .a, .a, .a, .a]) (fun i=>[some ⟨ga,1,cP p⟩,some ⟨gb,1,cP q⟩]) 0 ⟨Nat.zero_le _,fun j hj=>absurd hj (Nat.not_lt_zero _)⟩ (by simp(maxSteps:=999999)(disch:=omega)only[go_sem,zA,zM,zS,zE,zL];rfl) (HLe.refl _) ?_
 rintro i ⟨hi,hall⟩
 simp(maxSteps:=999999)(disch:=omega)only[go_sem,zA,zM,zS,zE,zL]
 ((first|(with_reducible first|refine condK_dec ?_ ?_|refine condK_ndec ?_ ?_|refine condK_nb ?_ ?_)|refine condK_b ?_ ?_)<;>intro h)
 · have h:i<p.rules.length:=by omega
   have hq:i<q.rules.length:=by omega
   have hcl:=hrs _ (nth_mem (xs:=p.rules) (i:=i) h)
   obtain⟨r,hr⟩:∃r,r=nth p.rules (i:Int):=⟨_,rfl⟩
   obtain⟨s,hs⟩:∃s,s=nth q.rules (i:Int):=⟨_,rfl⟩
   have no:r≠s→p≠q:=fun hne he=>hne (by rw[hr,hs,he])
   rw[←hr]at hcl
   simp(maxSteps:=999999)(disch:=omega)only[go_sem,zA,zM,zS,zE,zL]
   refine drawP_q foll (by kernel_rfl) ?_
   simp(maxSteps:=999999)(disch:=omega)only[go_sem,Nat.reduceBEq,Bool.true_or,zA,zM,zS,zE,zL]
   simp(maxSteps:=999999)(disch:=omega)only[go_sem,zA,zM,zS,zE,zL,←hr,←hs]
   by_cases f1:r.kind=s.kind
   rotate_left
   · have d1:decide (r.kind=s.kind)=false:=decide_eq_false f1
     simp(maxSteps:=999999)(disch:=omega)only[go_sem,zA,zM,zS,zE,zL,d1]
     exact(decide_eq_false (no fun he=>f1 (by rw[he]))).symm
   have d1:decide (r.kind=s.kind)=true:=decide_eq_true f1
   simp(maxSteps:=999999)(disch:=omega)only[go_sem,zA,zM,zS,zE,zL,d1,←hr,←hs]
   by_cases f2:r.val=s.val
   rotate_left
   · have d1:decide (r.val=s.val)=false:=decide_eq_false f2
     simp(maxSteps:=999999)(disch:=omega)only[go_sem,zA,zM,zS,zE,zL,d1]
     exact(decide_eq_false (no fun he=>f2 (by rw[he]))).symm
   have d1:decide (r.val=s.val)=true:=decide_eq_true f2
   simp(maxSteps:=999999)(disch:=omega)only[go_sem,zA,zM,zS,zE,zL,d1,←hr,←hs]
   refine quietW.rd (sameIntsF_run r.cells s.cells (by omega)) (⟨_,Try.func39,rfl,rfl⟩:Enters Try.prog 39) rfl rfl rfl rfl ?_
   simp(maxSteps:=999999)(disch:=omega)only[go_sem,zA,zM,zS,zE,zL]
   by_cases f3:r.cells=s.cells
   rotate_left
   · have d1:decide (r.cells=s.cells)=false:=decide_eq_false f3
     simp(maxSteps:=999999)(disch:=omega)only[go_sem,zA,zM,zS,zE,zL,d1]
     exact(decide_eq_false (no fun he=>f3 (by rw[he]))).symm
   have d1:decide (r.cells=s.cells)=true:=decide_eq_true f3
   simp(maxSteps:=999999)(disch:=omega)only[go_sem,zA,zM,zS,zE,zL,d1]
   refine⟨i+1,⟨⟨by omega,fun j hj=> ?_⟩,by omega⟩,by push_cast;omega,HLe.refl _⟩
   rcases Nat.lt_succ_iff_lt_or_eq.1 hj with hj|rfl
   · exact hall j hj
   · rw[←hr,←hs];exact rul_ext f1 f2 f3
 · simp(maxSteps:=999999)(disch:=omega)only[go_sem,zA,zM,zS,zE,zL]
   refine(decide_eq_true ?_).symm
   have e4:p.rules=q.rules:=ext_nth e3 fun j hj=>hall j (by omega)
   cases p;cases q;simp_all
theorem sameGame_run(a b:Gam)(hx:smG a):Reads Try.prog 35 [aG a,aG b] (bool (decide (a=b))):=by
 obtain⟨h1,h2,h3⟩:=hx
 refine RunCall.cw (c:=_) Try.func35 rfl (n:=24) Try.ntmps35 (rs:=[.tmp 4]) rfl ?_
 simp only[List.length_cons,List.length_nil,zA,zS,List.replicate,List.cons_append,List.nil_append]
 simp(maxSteps:=999999)(disch:=omega)only[go_sem,zA,zM,zS,zE,zL]
 intro ga gb
 first|refine OpS.rd (samePuzzle_run a.task b.task h1) (⟨_,Try.func66,rfl,rfl⟩:Enters Try.prog 66) rfl rfl rfl rfl ?_|refine Loud.rd (samePuzzle_run a.task b.task h1) (⟨_,Try.func66,rfl,rfl⟩:Enters Try.prog 66) rfl rfl rfl rfl ?_
 simp(maxSteps:=999999)(disch:=omega)only[go_sem,zA,zM,zS,zE,zL]
 by_cases e1:a.task=b.task
 rotate_left
 · have d1:decide (a.task=b.task)=false:=decide_eq_false e1
   simp(maxSteps:=999999)(disch:=omega)only[go_sem,zA,zM,zS,zE,zL,d1]
   exact(decide_eq_false fun h=>e1 (by rw[h])).symm
 have d1:decide (a.task=b.task)=true:=decide_eq_true e1
 simp(maxSteps:=999999)(disch:=omega)only[go_sem,zA,zM,zS,zE,zL,d1]
 first|refine OpS.rd (sameIntsF_run a.put b.put h2) (⟨_,Try.func39,rfl,rfl⟩:Enters Try.prog 39) rfl rfl rfl rfl ?_|refine Loud.rd (sameIntsF_run a.put b.put h2) (⟨_,Try.func39,rfl,rfl⟩:Enters Try.prog 39) rfl rfl rfl rfl ?_
 simp(maxSteps:=999999)(disch:=omega)only[go_sem,zA,zM,zS,zE,zL]
 by_cases e2:a.put=b.put
 rotate_left
 · have d2:decide (a.put=b.put)=false:=decide_eq_false e2
   simp(maxSteps:=999999)(disch:=omega)only[go_sem,zA,zM,zS,zE,zL,d2]
   exact(decide_eq_false fun h=>e2 (by rw[h])).symm
 have d2:decide (a.put=b.put)=true:=decide_eq_true e2
 simp(maxSteps:=999999)(disch:=omega)only[go_sem,zA,zM,zS,zE,zL,d2]
 first|refine OpS.rd (sameIntsF_run a.moves b.moves h3) (⟨_,Try.func39,rfl,rfl⟩:Enters Try.prog 39) rfl rfl rfl rfl ?_|refine Loud.rd (sameIntsF_run a.moves b.moves h3) (⟨_,Try.func39,rfl,rfl⟩:Enters Try.prog 39) rfl rfl rfl rfl ?_
 simp(maxSteps:=999999)(disch:=omega)only[go_sem,zA,zM,zS,zE,zL]
 rw[decide_eq_decide]
 constructor
 · intro h;cases a;cases b;simp_all
 · intro h;rw[h]
end Go.Lg

namespace Go.Lg
open Go.Proofs
def mAt(ms:List Nat)(k:Nat):Nat:=ms.getD k 0
theorem nth_nats(ms:List Nat)(k:Nat):nth (nats ms) k=((mAt ms k:Nat):Int):=by
 unfold nth nats mAt
 rw[Int.toNat_natCast]
 simp only[List.getD,List.getElem?_map]
 by_cases h:k<ms.length
 · rw[List.getElem?_eq_getElem h];rfl
 · rw[List.getElem?_eq_none (by omega)];rfl
theorem nats_len(ms:List Nat):(nats ms).length=ms.length:=by simp[nats]
theorem nats_set(ms:List Nat)(k v:Nat):(nats ms).set k ((v:Nat):Int)=nats (ms.set k v):=by simp[nats,List.map_set]
theorem setRange_nats{b:List Nat}{k v:Nat}(h:k<b.length):setRange (cl (eI .i64) (nats b)) (0+((k:Nat):Int).toNat*1) [CV.f (.int .i64 ((v:Nat):Int))]=cl (eI .i64) (nats (b.set k v)):=by
 rw[Int.toNat_natCast,←nats_set]
 exact setRange_cl (E:=eI .i64) (n:=1) (by rw[nats_len];exact h)
theorem nats_tk{ms:List Nat}{k:Nat}(h:k<ms.length):nats (ms.take (k+1))=nats (ms.take k)++[((mAt ms k:Nat):Int)]:=by
 have e:mAt ms k=ms[k]:=by unfold mAt;simp[List.getD,List.getElem?_eq_getElem h]
 rw[e,List.take_succ_eq_append_getElem h]
 unfold nats
 rw[List.map_append]
 rfl
theorem nats_inj{a b:List Nat}:nats a=nats b↔a=b:=by
 constructor
 · intro h
   exact(List.map_inj_right (fun x y h=>by omega)).1 h
 · rintro rfl;rfl
theorem mAt_set{ms:List Nat}{k v i:Nat}(h:k<ms.length):mAt (ms.set k v) i=if i=k then v else mAt ms i:=by
 unfold mAt
 simp only[List.getD,List.getElem?_set]
 by_cases hi:k=i
 · subst hi;simp[h]
 · rw[if_neg hi,if_neg (Ne.symm hi)]
theorem mAt_over{ms:List Nat}{k:Nat}(h:ms.length≤k):mAt ms k=0:=by
 unfold mAt
 simp[List.getD,List.getElem?_eq_none h]
theorem mAt_mem{ms:List Nat}{k:Nat}(h:k<ms.length):mAt ms k∈ms:=by
 unfold mAt
 simp[List.getD,List.getElem?_eq_getElem h]
theorem mAt_ext{a b:List Nat}(hl:a.length=b.length)(h:∀k,k<a.length→mAt a k=mAt b k):a=b:=by
 refine List.ext_getElem hl fun i h1 h2=> ?_
 have:=h i h1
 unfold mAt at this
 simpa[List.getD,List.getElem?_eq_getElem h1,List.getElem?_eq_getElem h2]using this
structure MsN(ms:List Nat)(n:Nat):Prop where
 len:ms.length=n*n
 val:∀m∈ms,m≤2^(n+1) -2∧m%2=0
theorem MsN.at{ms:List Nat}{n:Nat}(h:MsN ms n)(k:Nat):mAt ms k≤2^(n+1) -2∧mAt ms k%2=0:=by
 by_cases hk:k<ms.length
 · exact h.val _ (mAt_mem hk)
 · rw[mAt_over (by omega)];exact⟨Nat.zero_le _,rfl⟩
theorem pow_n{n:Nat}(hn:n=2∨n=3∨n=4):8≤2^(n+1)∧2^(n+1)≤32:=by rcases hn with rfl|rfl|rfl<;>decide
theorem MsN.lt{ms:List Nat}{n:Nat}(hn:n=2∨n=3∨n=4)(h:MsN ms n)(k:Nat):mAt ms k≤30∧mAt ms k%2=0:=by
 have:=h.at k
 have:=pow_n hn
 omega
theorem MsN.ok{ms:List Nat}{n:Nat}(h:MsN ms n):MasksOk (nats ms) n:=by
 refine⟨by rw[nats_len];exact h.len,fun k hk=> ?_⟩
 have:=h.at k
 rw[nth_nats]
 omega
theorem MsN.set{ms:List Nat}{n k v:Nat}(h:MsN ms n)(hv:v≤2^(n+1) -2∧v%2=0):MsN (ms.set k v) n:=
 ⟨by rw[List.length_set];exact h.len,fun m hm=>by
   rcases List.mem_or_eq_of_mem_set hm with hm|rfl
   · exact h.val m hm
   · exact hv⟩
def onlyV(m:Nat):Nat:=if m=2 then 1 else if m=4 then 2 else if m=8 then 3 else if m=16 then 4 else 0
theorem onlyV_le(m:Nat):onlyV m≤4:=by
 unfold onlyV
 repeat' split
 all_goals omega
theorem mvals_only{m:Nat}(h:m≤30∧m%2=0):((mvals m 4).length=1↔onlyV m≠0)∧(onlyV m≠0→mvals m 4=[(onlyV m:Int)]∧m=2^onlyV m):=by
 have key:∀k:Nat,k<31→((mvals k 4).length=1↔onlyV k≠0)∨k%2=1:=by decide
 have key2:∀k:Nat,k<31→onlyV k≠0→mvals k 4=[(onlyV k:Int)]∧k=2^onlyV k:=by decide
 exact⟨(key m (by omega)).resolve_right (by omega),key2 m (by omega)⟩
def clr(o m:Nat):Nat:=o&&&(31^^^m)
theorem clr_le(o m:Nat):clr o m≤o:=Nat.and_le_left
theorem clr_even{o m:Nat}(h:o%2=0):clr o m%2=0:=by
 unfold clr
 have:(o&&&(31^^^m))%2=0:=by
  have h1:(o&&&(31^^^m)).testBit 0=false:=by
   rw[Nat.testBit_and]
   have:o.testBit 0=false:=by simpa[Nat.testBit_zero]using h
   rw[this,Bool.false_and]
  rw[Nat.testBit_zero,decide_eq_false_iff_not]at h1
  omega
 exact this
theorem andNot_small{o m:Nat}(ho:o<32)(hm:m<32):bitsI .andNot .i64 (o:Int) (m:Int)=((clr o m:Nat):Int):=by
 have key:∀a:Nat,a<32→∀b:Nat,b<32→bitsI .andNot .i64 (a:Int) (b:Int)=((clr a b:Nat):Int):=by decide+kernel
 exact key o ho m hm
theorem and_small{o v:Nat}(ho:o<32)(hv:v≤4):bitsI .and .i64 (o:Int) ((2^v:Nat):Int)=((clr o (31^^^2^v):Nat):Int):=by
 have key:∀a:Nat,a<32→∀b:Nat,b<5→bitsI .and .i64 (a:Int) ((2^b:Nat):Int)=((clr a (31^^^2^b):Nat):Int):=by decide+kernel
 exact key o ho v (by omega)
theorem lt32_bit{o b:Nat}(ho:o<32)(hb:5≤b):o.testBit b=false:=Nat.testBit_lt_two_pow (Nat.lt_of_lt_of_le ho (by have:(2:Nat)^5≤2^b:=Nat.pow_le_pow_right (by omega) hb;omega))
theorem clr_bit{o m b:Nat}(ho:o<32):(clr o m).testBit b=(o.testBit b&& !m.testBit b):=by
 unfold clr
 rw[Nat.testBit_and,Nat.testBit_xor]
 by_cases hb:b<5
 · have h31:(31:Nat).testBit b=true:=by
    have:b=0∨b=1∨b=2∨b=3∨b=4:=by omega
    rcases this with rfl|rfl|rfl|rfl|rfl<;>rfl
   rw[h31,Bool.true_xor]
 · rw[lt32_bit ho (by omega)];rfl
def clrL(R:List (Nat×Nat))(ms:List Nat):List Nat:=R.foldl (fun o q=>o.set q.1 (clr (mAt o q.1) q.2)) ms
theorem clrL_app(R S:List (Nat×Nat))(ms:List Nat):clrL (R++S) ms=clrL S (clrL R ms):=by unfold clrL;rw[List.foldl_append]
theorem clrL_one(R:List (Nat×Nat))(c m:Nat)(ms:List Nat):clrL (R++[(c,m)]) ms=(clrL R ms).set c (clr (mAt (clrL R ms) c) m):=by rw[clrL_app];rfl
theorem clrL_len(R:List (Nat×Nat)):∀ms:List Nat,(clrL R ms).length=ms.length:=by
 induction R with
 |nil=>intro ms;rfl
 |cons q R ih=>intro ms;show(clrL R _).length=_;rw[ih,List.length_set]
theorem clrL_ok{n:Nat}(R:List (Nat×Nat)):∀{ms:List Nat},MsN ms n→MsN (clrL R ms) n:=by
 induction R with
 |nil=>intro ms h;exact h
 |cons q R ih=>
  intro ms h
  refine ih (ms:=ms.set q.1 _) (h.set ?_)
  have:=h.at q.1
  have:=clr_le (mAt ms q.1) q.2
  exact⟨by omega,clr_even (h.at q.1).2⟩
theorem clrL_bit{R:List (Nat×Nat)}:∀{ms:List Nat},(∀k,mAt ms k<32)→∀{c b:Nat},c<ms.length→(mAt (clrL R ms) c).testBit b=((mAt ms c).testBit b&&R.all fun q=> !(q.1==c&&q.2.testBit b)):=by
 induction R with
 |nil=>intro ms _ c b _;simp[clrL]
 |cons q R ih=>
  intro ms h c b hc
  have hlt:∀k,mAt (ms.set q.1 (clr (mAt ms q.1) q.2)) k<32:=fun k=>by
   by_cases hq:q.1<ms.length
   · rw[mAt_set hq]
     split
     · exact Nat.lt_of_le_of_lt (clr_le _ _) (h _)
     · exact h k
   · rw[List.set_eq_of_length_le (by omega)];exact h k
  have e:clrL (q::R) ms=clrL R (ms.set q.1 (clr (mAt ms q.1) q.2)):=rfl
  rw[e,ih hlt (by rw[List.length_set];exact hc),List.all_cons]
  by_cases hq:q.1=c
  · rw[mAt_set (by omega),if_pos hq.symm,←hq,clr_bit (h _)]
    simp[Bool.and_assoc]
  · have:mAt (ms.set q.1 (clr (mAt ms q.1) q.2)) c=mAt ms c:=by
     by_cases hq2:q.1<ms.length
     · rw[mAt_set hq2,if_neg (Ne.symm hq)]
     · rw[List.set_eq_of_length_le (by omega)]
    rw[this]
    have hb:(q.1==c)=false:=by simpa using hq
    rw[hb,Bool.false_and,Bool.not_false,Bool.true_and]
theorem clrL_ext{R S:List (Nat×Nat)}{ms:List Nat}(h:∀k,mAt ms k<32)(hrs:∀q,q∈R↔q∈S):clrL R ms=clrL S ms:=by
 refine mAt_ext (by rw[clrL_len,clrL_len]) fun k hk=>Nat.eq_of_testBit_eq fun b=> ?_
 rw[clrL_len]at hk
 rw[clrL_bit h hk,clrL_bit h hk]
 congr 1
 rw[Bool.eq_iff_iff,List.all_eq_true,List.all_eq_true]
 exact⟨fun hr q hq=>hr q ((hrs q).2 hq),fun hr q hq=>hr q ((hrs q).1 hq)⟩
theorem flat_succ{α:Type}(f:Nat→List α)(k:Nat):(List.range (k+1)).flatMap f=(List.range k).flatMap f++f k:=by
 rw[List.range_succ,List.flatMap_append]
 simp
def sglI(ms:List Nat)(n i:Nat)(c:Nat):List (Nat×Nat):=if c=i then[]else[(c,mAt ms i)]
def sglK(ms:List Nat)(n i k:Nat):List (Nat×Nat):=sglI ms n i (i/n*n+k)++sglI ms n i (k*n+i%n)
def sglA(ms:List Nat)(n i:Nat):List (Nat×Nat):=if onlyV (mAt ms i)=0 then[]else(List.range n).flatMap (sglK ms n i)
def sglM(ms:List Nat)(n:Nat):List Nat:=clrL ((List.range (n*n)).flatMap (sglA ms n)) ms
def sglJ(ms:List Nat)(n i j:Nat):List (Nat×Nat):=if j≠i∧(j/n=i/n∨j%n=i%n)then[(j,mAt ms i)]else[]
def sglB(ms:List Nat)(n i:Nat):List (Nat×Nat):=if onlyV (mAt ms i)=0 then[]else(List.range (n*n)).flatMap (sglJ ms n i)
theorem sgl_cells{n:Nat}(hn:n=2∨n=3∨n=4){i:Nat}(hi:i<n*n)(j:Nat):(∃k:Nat,k<n∧(j=i/n*n+k∨j=k*n+i%n))↔j<n*n∧(j/n=i/n∨j%n=i%n):=by
 constructor
 · rintro⟨k,hk,rfl|rfl⟩
   · refine⟨?_, .inl ?_⟩<;>rcases hn with rfl|rfl|rfl<;>omega
   · refine⟨?_, .inr ?_⟩<;>rcases hn with rfl|rfl|rfl<;>omega
 · rintro⟨hj,h|h⟩
   · refine⟨j%n,Nat.mod_lt _ (by omega), .inl ?_⟩
     rcases hn with rfl|rfl|rfl<;>omega
   · refine⟨j/n,by rw[Nat.div_lt_iff_lt_mul (by omega)];exact hj, .inr ?_⟩
     rcases hn with rfl|rfl|rfl<;>omega
theorem sgl_mem{n:Nat}(hn:n=2∨n=3∨n=4)(ms:List Nat){i:Nat}(hi:i<n*n)(q:Nat×Nat):q∈sglA ms n i↔q∈sglB ms n i:=by
 unfold sglA sglB
 split
 · exact Iff.rfl
 have hc:=sgl_cells hn hi
 have e1:q∈(List.range n).flatMap (sglK ms n i)↔(q.1≠i∧q.2=mAt ms i)∧∃k:Nat,k<n∧(q.1=i/n*n+k∨q.1=k*n+i%n):=by
  rw[List.mem_flatMap]
  constructor
  · rintro⟨k,hk,hq⟩
    have hk:=List.mem_range.1 hk
    unfold sglK sglI at hq
    rcases List.mem_append.1 hq with hq|hq<;>split at hq
    · cases hq
    · rename_i h;have hq:q=(i/n*n+k,mAt ms i):=by simpa using hq
      subst hq;exact⟨⟨h,rfl⟩,k,hk, .inl rfl⟩
    · cases hq
    · rename_i h;have hq:q=(k*n+i%n,mAt ms i):=by simpa using hq
      subst hq;exact⟨⟨h,rfl⟩,k,hk, .inr rfl⟩
  · rintro⟨⟨h1,h2⟩,k,hk,h3⟩
    refine⟨k,List.mem_range.2 hk, ?_⟩
    obtain⟨a,b⟩:=q
    simp only at h1 h2 h3
    subst h2
    unfold sglK sglI
    rcases h3 with h3|h3
    · refine List.mem_append.2 (.inl ?_)
      rw[←h3,if_neg h1];simp
    · refine List.mem_append.2 (.inr ?_)
      rw[←h3,if_neg h1];simp
 have e2:q∈(List.range (n*n)).flatMap (sglJ ms n i)↔(q.1≠i∧q.2=mAt ms i)∧q.1<n*n∧(q.1/n=i/n∨q.1%n=i%n):=by
  rw[List.mem_flatMap]
  constructor
  · rintro⟨j,hj,hq⟩
    have hj:=List.mem_range.1 hj
    unfold sglJ at hq
    split at hq
    · rename_i h;have hq:q=(j,mAt ms i):=by simpa using hq
      subst hq;exact⟨⟨h.1,rfl⟩,hj,h.2⟩
    · cases hq
  · rintro⟨⟨h1,h2⟩,hj,h3⟩
    refine⟨q.1,List.mem_range.2 hj, ?_⟩
    obtain⟨a,b⟩:=q
    simp only at h1 h2 h3 hj⊢
    subst h2
    unfold sglJ
    rw[if_pos ⟨h1,h3⟩];simp
 rw[e1,e2,hc]
theorem sgl_same{n:Nat}(hn:n=2∨n=3∨n=4){ms:List Nat}(h:MsN ms n):clrL ((List.range (n*n)).flatMap (sglB ms n)) ms=sglM ms n:=by
 refine clrL_ext (fun k=>by have:=h.lt hn k;omega) fun q=> ?_
 rw[List.mem_flatMap,List.mem_flatMap]
 constructor
 · rintro⟨i,hi,hq⟩;exact⟨i,hi,(sgl_mem hn ms (List.mem_range.1 hi) q).2 hq⟩
 · rintro⟨i,hi,hq⟩;exact⟨i,hi,(sgl_mem hn ms (List.mem_range.1 hi) q).1 hq⟩
end Go.Lg

namespace Go.Lg
open Go.Proofs
theorem PuzN.sm{p:Puz}{n:Nat}(hp:PuzN p n):smP p:=by
 have hsq:n*n≤16:=by rcases hp.hn with rfl|rfl|rfl<;>omega
 have:=hp.len
 have:=hp.rl
 refine⟨by omega,by omega,fun r hr=> ?_⟩
 have:=(ruleValid_facts (hp.rv r hr)).1
 omega
end Go.Lg

namespace Go.Lg
open Go.Proofs
def startM(p:Puz):List Nat:=p.given.map fun v=>if 0<v then 2^v.toNat else 2^(p.size.toNat+1) -2
theorem startM_at{p:Puz}{k:Nat}(h:k<p.given.length):mAt (startM p) k=if 0<nth p.given k then 2^(nth p.given k).toNat else 2^(p.size.toNat+1) -2:=by
 unfold mAt startM
 rw[nth_eq (by omega)]
 simp only[List.getD,List.getElem?_map,List.getElem?_eq_getElem h,Int.toNat_natCast,Option.map_some,Option.getD_some]
theorem startM_ok{p:Puz}{n:Nat}(hp:PuzN p n)(hg:GrdN p.given n):MsN (startM p) n:=by
 refine⟨by unfold startM;rw[List.length_map];exact hg.len,fun m hm=> ?_⟩
 unfold startM at hm
 obtain⟨v,hv,rfl⟩:=List.mem_map.1 hm
 obtain⟨k,hk,rfl⟩:=List.mem_iff_getElem.1 hv
 have hb:=hg.val k hk
 rw[nth_eq (by omega)]at hb
 simp only[Int.toNat_natCast]at hb
 have hz:p.size.toNat=n:=by rw[hp.size];rfl
 have hn:=hp.hn
 rw[hz]
 generalize p.given[k]=v at hb
 obtain⟨u,rfl⟩:∃u:Nat,v=u:=⟨v.toNat,by omega⟩
 have hu:u≤n:=by omega
 rcases hn with rfl|rfl|rfl
 · have:u=0∨u=1∨u=2:=by omega
   rcases this with rfl|rfl|rfl<;>decide
 · have:u=0∨u=1∨u=2∨u=3:=by omega
   rcases this with rfl|rfl|rfl|rfl<;>decide
 · have:u=0∨u=1∨u=2∨u=3∨u=4:=by omega
   rcases this with rfl|rfl|rfl|rfl|rfl<;>decide
set_option maxHeartbeats 2000000 in
theorem sStartMasks_run{p:Puz}{n:Nat}(hp:PuzN p n)(hv:puzzleValid p=true)(hg:GrdN p.given n):Reads Try.prog 107 [aP p] (ints (nats (startM p))):=by
 have hn:=hp.hn
 have hsq:4≤n*n∧n*n≤16:=by rcases hn with rfl|rfl|rfl<;>omega
 have hz:=hp.size
 have hl:=hg.len
 have hpw:=pow_n hn
 have hsl:(startM p).length=p.given.length:=by simp[startM]
 refine Reads.ice (Q:=fun v H'=>frzA H' v=some (ints (nats (startM p)))) ?_ (fun r H' h=>h)
 refine RunCall.cw (c:=_) Try.func107 rfl (n:=41) Try.ntmps107 (rs:=[.tmp 2]) rfl ?_
 simp only[List.length_cons,List.length_nil,zA,zS,List.replicate,List.cons_append,List.nil_append]
 simp(maxSteps:=999999)(disch:=omega)only[go_sem,zA,zM,zS,zE,zL]
 intro g1 g2
 refine loop_rule2 (fun(k g:Nat)=>p.given.length -k) (fun k g=>k≤p.given.length) (fun k g=>[.a, .k, .a, .p (.c (.own 1 g 0 k none)), .p (int k), .a, .a, .a, .a, .a, .a, .a, .a, .a, .a, .a, .a, .a, .a, .a, .a, .a, .a, .a, .a, .a, .a, .a, .a, .a, .a, .a, .a, .a, .a, .a, .a, .a, .a, .a, .a]) (fun k g=>[some ⟨g1,1,cP p⟩,some ⟨g,1,cl (eI .i64) (nats ((startM p).take k))⟩]) 0 g2 (Nat.zero_le _) (by simp(maxSteps:=999999)(disch:=omega)only[go_sem,zA,zM,zS,zE,zL];rfl) (HLe.refl _) ?_
 intro k g hk
 have htl:(nats ((startM p).take k)).length=k:=by rw[nats_len,List.length_take];omega
 simp(maxSteps:=999999)(disch:=omega)only[go_sem,zA,zM,zS,zE,zL]
 ((with_reducible first|refine guardK_dec ?_ ?_|refine guardK_ndec ?_ ?_|refine guardK_nb ?_ ?_|refine guardK_split ?_ ?_|refine guardQ_dec ?_ ?_|refine guardL_dec ?_ ?_|refine guardQ_ndec ?_ ?_|refine guardL_ndec ?_ ?_|refine guardQ_nb ?_ ?_|refine guardL_nb ?_ ?_|refine guardQ_split ?_ ?_|refine guardL_split ?_ ?_)<;>intro h1<;>simp(maxSteps:=999999)(disch:=omega)only[go_sem,zA,zM,zS,zE,zL,h1])
 · first|refine OpS.rd (sPuzzleValid_run p hp.sm) (⟨_,Try.func36,rfl,rfl⟩:Enters Try.prog 36) rfl rfl rfl rfl ?_|refine Loud.rd (sPuzzleValid_run p hp.sm) (⟨_,Try.func36,rfl,rfl⟩:Enters Try.prog 36) rfl rfl rfl rfl ?_
   simp(maxSteps:=999999)(disch:=omega)only[go_sem,zA,zM,zS,zE,zL]
   rw[hv]
   have h1:k<p.given.length:=by omega
   have hav:=startM_at h1
   have hzn:p.size.toNat=n:=by rw[hz];rfl
   rw[hzn]at hav
   have hgv:=hg.val k h1
   have hts:=nats_tk (ms:=startM p) (k:=k) (by omega)
   simp(maxSteps:=999999)(disch:=omega)only[go_sem,zA,zM,zS,zE,zL]
   ((first|(with_reducible first|refine condK_dec ?_ ?_|refine condK_ndec ?_ ?_|refine condK_nb ?_ ?_)|refine condK_b ?_ ?_)<;>intro h2)
   · rw[if_pos h2]at hav
     have hs:=shl_small (v:=nth p.given k) (by omega)
     simp(maxSteps:=999999)(disch:=omega)only[go_sem,zA,zM,zS,zE,zL,hs]
     intro g3 g4
     exact⟨k+1,g4,⟨by omega,by omega⟩,⟨⟨rfl,rfl⟩,by push_cast;rfl⟩,hle_eq rfl (hle_eq (by rw[hts,hav]) (hle_nil _))⟩
   · rw[if_neg h2]at hav
     have hs:=shl_n hn
     rw[←hz]at hs
     simp(maxSteps:=999999)(disch:=omega)only[go_sem,zA,zM,zS,zE,zL,hs]
     have e:((2^(n+1) -2:Nat):Int)=((2^(n+1):Nat):Int) -2:=by omega
     intro g3 g4
     exact⟨k+1,g4,⟨by omega,by omega⟩,⟨⟨rfl,rfl⟩,by push_cast;rfl⟩,hle_eq rfl (hle_eq (by rw[hts,hav,e]) (hle_nil _))⟩
 · have hke:k=p.given.length:=by omega
   subst hke
   rw[List.take_of_length_le (by omega)]at htl⊢
   have hfr:=frzA_own (E:=eI .i64) (n:=1) (lim:=none) (H:=[some ⟨g1,1,cP p⟩,some ⟨g,1,cl (eI .i64) (nats (startM p))⟩]) (look_of (b:=⟨g,1,cl (eI .i64) (nats (startM p))⟩) (id:=1) rfl)
   rw[htl]at hfr
   exact⟨_,HLe.refl _,hfr⟩
end Go.Lg
