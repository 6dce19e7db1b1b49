/- GpMK, GpMN, GpTF, GpRD, cut to what is needed. -/
import Derived.Test.YtpdaalgdkdpihaaXad8
import Derived.Test.YtpdaalgdkdpihaaXab9
import Derived.Test.YtpdaalgdkdpihaaXad0
import Derived.Test.YtpdaalgdkdpihaaXac9
import Derived.Test.YtpdaalgdkdpihaaXac8
import Derived.Test.YtpdaalgdkdpihaaXad2
import Derived.Test.YtpdaalgdkdpihaaXab6
import Derived.Test.YtpdaalgdkdpihaaXad6
import Derived.Test.YtpdaalgdkdpihaaXad5
import Derived.Test.YtpdaalgdkdpihaaXac7
import Derived.Test.YtpdaalgdkdpihaaXab3
import Derived.Test.YtpdaalgdkdpihaaXac1
import Derived.Test.YtpdaalgdkdpihaaXac0
open Nat renaming reduceAdd→zA,reduceMul→zM,reduceSub→zS,reduceEqDiff→zE,reduceLeDiff→zL
set_option linter.unusedSimpArgs false
set_option linter.unusedVariables false
set_option maxRecDepth 100000
namespace Go.Lg
open Go.Proofs
def firstK(gv:List Int)(ms:List Nat):Option Nat:=(List.range ms.length).find? fun(k:Nat)=>decide (onlyV (mAt ms k)≠0∧nth gv k=0)
theorem firstK_some{gv:List Int}{ms:List Nat}{k:Nat}(hk:k<ms.length)(h:onlyV (mAt ms k)≠0∧nth gv k=0)(hno:∀j:Nat,j<k→¬(onlyV (mAt ms j)≠0∧nth gv j=0)):firstK gv ms=some k:=by
 unfold firstK
 rw[List.find?_eq_some_iff_getElem]
 exact⟨decide_eq_true h,k,by simpa using hk,by simp,fun j hj=>by
  simp only[List.getElem_range,Bool.not_eq_true',decide_eq_false_iff_not]
  exact hno j hj⟩
theorem firstK_none{gv:List Int}{ms:List Nat}(hno:∀j:Nat,j<ms.length→¬(onlyV (mAt ms j)≠0∧nth gv j=0)):firstK gv ms=none:=by
 unfold firstK
 rw[List.find?_eq_none]
 intro j hj
 rw[decide_eq_true_eq]
 exact hno j (List.mem_range.1 hj)
def hintF(q:Puz):Nat→List Nat→Option Hnt
 |0,_=>none
 |f+1,ms=>if nextM q ms=0 then none else match firstK q.given (narM q (nextM q ms) ms)with
  |some k=>some ⟨nextM q ms,k,onlyV (mAt (narM q (nextM q ms) ms) k)⟩
  |none=>hintF q f (narM q (nextM q ms) ms)
theorem hintF_no{q:Puz}{f:Nat}{ms:List Nat}(h:nextM q ms=0):hintF q f ms=none:=by
 cases f with
 |zero=>rfl
 |succ f=>unfold hintF;rw[if_pos h]
def fitsV(p:Puz)(xs:List Int):Bool:=puzzleValid p&&(gridValid xs p.size&&fitsL p xs p.size.toNat)
def hintO(p:Puz)(xs:List Int):Option Hnt:=if fitsV p xs=true then hintF (withP p xs) 1000 (startM (withP p xs))else none
def hintV(p:Puz)(xs:List Int):Hnt:=(hintO p xs).getD ⟨0,0,0⟩
def hintB(p:Puz)(xs:List Int):Bool:=(hintO p xs).isSome
theorem sum_le_mul:∀(l:List Nat) (b:Nat),(∀x∈l,x≤b)→l.sum≤b*l.length
 |[],b,_=>by simp
 |x::l,b,h=>by
  have h1:=sum_le_mul l b fun y hy=>h y (by simp[hy])
  have h2:=h x (by simp)
  simp only[List.sum_cons,List.length_cons,Nat.mul_add,Nat.mul_one]
  omega
theorem MsN.sum{ms:List Nat}{n:Nat}(hn:n=2∨n=3∨n=4)(h:MsN ms n):ms.sum≤480:=by
 have h1:=sum_le_mul ms 30 fun x hx=>by have:=(h.val x hx).1;have:=pow_n hn;omega
 have h2:ms.length≤16:=by rw[h.len];rcases hn with rfl|rfl|rfl<;>omega
 omega
theorem withP_valid{p:Puz}{n:Nat}{xs:List Int}(hp:PuzN p n)(hv:puzzleValid p=true)(hg:GrdN xs n)(ha:GrdN p.given n):puzzleValid (withP p xs)=true∧PuzN (withP p xs) n∧GrdN (withP p xs).given n:=by
 have hw:GrdN (withP p xs).given n:=withL_grd ha hg
 have h1:puzzleValid (withP p xs)=true:=by
  simp only[puzzleValid,Bool.and_eq_true,decide_eq_true_eq]at hv⊢
  refine⟨?_,hv.2⟩
  have:=hw.valid hp.hn
  rw[←hp.size]at this
  exact this
 refine⟨h1, ?_,hw⟩
 have:=(PuzN.of h1).1
 have e:(withP p xs).size.toNat=n:=by show p.size.toNat=n;rw[hp.size];rfl
 rwa [e]at this
theorem fitsV_facts{p:Puz}{xs:List Int}(h:fitsV p xs=true):∃n:Nat,p.size=n∧PuzN p n∧puzzleValid p=true∧GrdN xs n∧GrdN p.given n∧fitsL p xs n=true∧clear p xs=true∧p.given.length=xs.length∧4≤xs.length∧xs.length≤16:=by
 simp only[fitsV,Bool.and_eq_true]at h
 obtain⟨h1,h2,h3⟩:=h
 obtain⟨hp,hg,ha,hlen,hl4,hl16⟩:=grd_facts h1 h2
 refine⟨p.size.toNat,(PuzN.of h1).2.symm,hp,h1,hg,ha,h3, ?_,hlen,hl4,hl16⟩
 simp only[fitsL,Bool.and_eq_true]at h3
 exact h3.1
set_option maxHeartbeats 4000000 in
theorem sNextHint_run(p:Puz)(xs:List Int)(hx:smP p)(hl:xs.length≤2^40):Reads Try.prog 103 [aP p,ints xs] (.tup [aH (hintV p xs),bool (hintB p xs)]):=by
 refine RunCall.cw (c:=_) Try.func103 rfl (n:=65) Try.ntmps103 (rs:=[.cell 4 115, .tmp 5]) rfl ?_
 simp only[List.length_cons,List.length_nil,zA,zS,List.replicate,List.cons_append,List.nil_append]
 simp(maxSteps:=999999)(disch:=omega)only[go_sem,zA,zM,zS,zE,zL]
 intro g0 g4
 first|refine OpS.rd (sPuzzleFits_run p xs hx hl) (⟨_,Try.func98,rfl,rfl⟩:Enters Try.prog 98) rfl rfl rfl rfl ?_|refine Loud.rd (sPuzzleFits_run p xs hx hl) (⟨_,Try.func98,rfl,rfl⟩:Enters Try.prog 98) rfl rfl rfl rfl ?_
 simp(maxSteps:=999999)(disch:=omega)only[go_sem,zA,zM,zS,zE,zL]
 rw[show(puzzleValid p&&(gridValid xs p.size&&fitsL p xs p.size.toNat))=fitsV p xs from rfl]
 cases hf:fitsV p xs with
 |false=>
  have e:hintO p xs=none:=by unfold hintO;rw[if_neg (by rw[hf];simp)]
  have e1:hintV p xs=⟨0,0,0⟩:=by unfold hintV;rw[e];rfl
  have e2:hintB p xs=false:=by unfold hintB;rw[e];rfl
  rw[e1,e2]
  simp(maxSteps:=999999)(disch:=omega)only[go_sem,zA,zM,zS,zE,zL]
 |true=>
  obtain⟨n,hz,hp,hv,hg,ha,hfl,hcl,hlen,hl4,hl16⟩:=fitsV_facts hf
  obtain⟨qv,qp,qg⟩:=withP_valid hp hv hg ha
  have hO:hintO p xs=hintF (withP p xs) 1000 (startM (withP p xs)):=by unfold hintO;rw[if_pos hf]
  simp(maxSteps:=999999)(disch:=omega)only[go_sem,zA,zM,zS,zE,zL]
  first|refine OpS.mk (l23With_run p xs (by omega) (by omega) (by omega)) (⟨_,Try.func111,rfl,rfl⟩:Enters Try.prog 111) rfl rfl rfl rfl rfl ?_|refine Loud.mk (l23With_run p xs (by omega) (by omega) (by omega)) (⟨_,Try.func111,rfl,rfl⟩:Enters Try.prog 111) rfl rfl rfl rfl rfl ?_
  simp(maxSteps:=999999)(disch:=omega)only[go_sem,zA,zM,zS,zE,zL]
  intro g6
  first|refine OpS.mk (sStartMasks_run qp qv qg) (⟨_,Try.func107,rfl,rfl⟩:Enters Try.prog 107) rfl rfl rfl rfl rfl ?_|refine Loud.mk (sStartMasks_run qp qv qg) (⟨_,Try.func107,rfl,rfl⟩:Enters Try.prog 107) rfl rfl rfl rfl rfl ?_
  simp(maxSteps:=999999)(disch:=omega)only[go_sem,zA,zM,zS,zE,zL]
  have hsz:(withP p xs).size=n:=hz
  have hgl:(withP p xs).given.length=n*n:=qg.len
  have hsq:4≤n*n∧n*n≤16:=by rcases hp.hn with rfl|rfl|rfl<;>omega
  have hst:firstK (withP p xs).given (startM (withP p xs))=none:=by
   refine firstK_none fun j hj ⟨h1,h2⟩=> ?_
   have hjl:j<(withP p xs).given.length:=by unfold startM at hj;rw[List.length_map]at hj;exact hj
   rw[startM_at hjl,h2,if_neg (by omega)]at h1
   have hz2:(withP p xs).size.toNat=n:=by rw[hsz];rfl
   rw[hz2]at h1
   have hn:=hp.hn
   rcases hn with rfl|rfl|rfl<;>exact h1 rfl
  have hm0:=startM_ok qp qg
  generalize startM (withP p xs)=s0 at hO hst hm0⊢
  generalize hq:withP p xs=q at*
  have hO0:hintO p xs=match firstK q.given s0 with
   |some k=>some ⟨0,k,onlyV (mAt s0 k)⟩
   |none=>hintF q 1000 s0:=by rw[hst];exact hO
  have hs0:s0.sum<1000:=by have:=hm0.sum hp.hn;omega
  refine loop_rule2 (fun(i:Nat×Nat) (b:List Nat×Nat)=>6*i.1+(5 -i.2)) (fun i b=>MsN b.1 n∧(hintO p xs=match firstK q.given b.1 with
   |some k=>some ⟨b.2,k,onlyV (mAt b.1 k)⟩
   |none=>hintF q i.1 b.1)∧b.1.sum<i.1∧(1≤i.2∧i.2≤5)∧(∀u,1≤u→u<i.2→narM q u b.1=b.1)∧(1<i.2→firstK q.given b.1=none)) (fun i b=>[.a, .a, .a, .a, .k, .a, .k, .p (ints (nats b.1)), .p (int b.2), .p (int i.2), .a, .a, .a, .a, .a, .a, .a, .a, .a, .a, .a, .a, .a, .a, .a, .a, .a, .a, .a, .a, .a, .a, .a, .a, .a, .a, .a, .a, .a, .a, .a, .a, .a, .a, .a, .a, .a, .a, .a, .a, .a, .a, .a, .a, .a, .a, .a, .a, .a, .a, .a, .a, .a, .a, .a]) (fun _ _=>[some ⟨g0,1,cP p⟩,some ⟨g4,3,[.f (.int .i64 0), .f (.int .i64 0), .f (.int .i64 0)]⟩,some ⟨g6,3,cP q⟩]) (1000,1) (s0,0) ⟨hm0,hO0,hs0,⟨Nat.le_refl _,by show 1≤5;omega⟩,fun u h1 h2=>by have h2:u<1:=h2;omega,fun _=>hst⟩ (by simp(maxSteps:=999999)(disch:=omega)only[go_sem,zA,zM,zS,zE,zL];first|rfl|exact⟨rfl,rfl⟩) (HLe.refl _) ?_
  rintro⟨f,t⟩ ⟨ms,last⟩ ⟨hm,hO,hsum,ht,hall,hfn⟩
  simp only at hm hO hsum ht hall hfn⊢
  have hml:(nats ms).length=n*n:=by rw[nats_len];exact hm.len
  simp(maxSteps:=999999)(disch:=omega)only[go_sem,zA,zM,zS,zE,zL]
  ((first|(with_reducible first|refine condK_dec ?_ ?_|refine condK_ndec ?_ ?_|refine condK_nb ?_ ?_)|refine condK_b ?_ ?_)<;>intro h1)
  rotate_left
  · have h1:t=5:=by omega
    rw[hfn (by omega)]at hO
    have hO:hintO p xs=none:=hO.trans (hintF_no (nextM_no fun u u1 u2=>hall u u1 (by omega)))
    have e1:hintV p xs=⟨0,0,0⟩:=by unfold hintV;rw[hO];rfl
    have e2:hintB p xs=false:=by unfold hintB;rw[hO];rfl
    rw[e1,e2]
    simp(maxSteps:=999999)(disch:=omega)only[go_sem,zA,zM,zS,zE,zL]
  have h1:t≤4:=by omega
  simp(maxSteps:=999999)(disch:=omega)only[go_sem,zA,zM,zS,zE,zL]
  refine loop_rule (fun k:Nat=>n*n -k) (fun k=>k≤n*n∧∀j:Nat,j<k→¬(onlyV (mAt ms j)≠0∧nth q.given j=0)) (fun k=>[.a, .a, .a, .a, .k, .a, .k, .k, .k, .k, .p (int k), .a, .a, .a, .a, .a, .a, .a, .a, .a, .a, .a, .a, .a, .a, .a, .a, .a, .a, .a, .a, .a, .a, .a, .a, .a, .a, .a, .a, .a, .a, .a, .a, .a, .a, .a, .a, .a, .a, .a, .a, .a, .a, .a, .a, .a, .a, .a, .a, .a, .a, .a, .a, .a, .a]) (fun _=>[some ⟨g0,1,cP p⟩,some ⟨g4,3,[.f (.int .i64 0), .f (.int .i64 0), .f (.int .i64 0)]⟩,some ⟨g6,3,cP q⟩]) 0 ⟨Nat.zero_le _,fun j hj=>absurd hj (Nat.not_lt_zero _)⟩ (by simp(maxSteps:=999999)(disch:=omega)only[go_sem,zA,zM,zS,zE,zL];rfl) (HLe.refl _) ?_
  rintro k ⟨hk,hno⟩
  simp(maxSteps:=999999)(disch:=omega)only[go_sem,zA,zM,zS,zE,zL]
  ((first|(with_reducible first|refine condK_dec ?_ ?_|refine condK_ndec ?_ ?_|refine condK_nb ?_ ?_)|refine condK_b ?_ ?_)<;>intro h2)
  · have h2:k<n*n:=by omega
    have hmk:=hm.lt hp.hn k
    have hnk:=nth_nats ms k
    have hmo:=mvals_only hmk
    have hgo:¬(onlyV (mAt ms k)≠0∧nth q.given k=0)→∀j:Nat,j<k+1→¬(onlyV (mAt ms j)≠0∧nth q.given j=0):=fun h j hj=>by
     by_cases hjk:j=k
     · rw[hjk];exact h
     · exact hno j (by omega)
    simp(maxSteps:=999999)(disch:=omega)only[go_sem,zA,zM,zS,zE,zL,hnk]
    first|refine OpS.mk (MaskValues_run (mAt ms k) hmk) (⟨_,Try.func112,rfl,rfl⟩:Enters Try.prog 112) rfl rfl rfl rfl rfl ?_|refine Loud.mk (MaskValues_run (mAt ms k) hmk) (⟨_,Try.func112,rfl,rfl⟩:Enters Try.prog 112) rfl rfl rfl rfl rfl ?_
    simp(maxSteps:=999999)(disch:=omega)only[go_sem,zA,zM,zS,zE,zL]
    ((with_reducible first|refine guardK_dec ?_ ?_|refine guardK_ndec ?_ ?_|refine guardK_nb ?_ ?_|refine guardK_split ?_ ?_|refine guardQ_dec ?_ ?_|refine guardL_dec ?_ ?_|refine guardQ_ndec ?_ ?_|refine guardL_ndec ?_ ?_|refine guardQ_nb ?_ ?_|refine guardL_nb ?_ ?_|refine guardQ_split ?_ ?_|refine guardL_split ?_ ?_)<;>intro h3<;>simp(maxSteps:=999999)(disch:=omega)only[go_sem,zA,zM,zS,zE,zL,h3])
    · ((first|(with_reducible first|refine condK_dec ?_ ?_|refine condK_ndec ?_ ?_|refine condK_nb ?_ ?_)|refine condK_b ?_ ?_)<;>intro h4)
      · have h4:onlyV (mAt ms k)≠0:=hmo.1.1 (by omega)
        have hfs:=firstK_some (gv:=q.given) (by rw[hm.len];exact h2) ⟨h4,h3⟩ hno
        rw[hfs]at hO
        have e1:hintV p xs=⟨last,k,onlyV (mAt ms k)⟩:=by unfold hintV;rw[hO];rfl
        have e2:hintB p xs=true:=by unfold hintB;rw[hO];rfl
        have hld:∀H,load1 H (.fp (fl (eI .i64) [((onlyV (mAt ms k):Nat):Int)]) (Int.toNat 0*1))=some (int (onlyV (mAt ms k):Nat)):=fun _=>rfl
        rw[e1,e2,(hmo.2 h4).1]
        simp(maxSteps:=999999)(disch:=omega)only[go_sem,zA,zM,zS,zE,zL,hld]
      · simp(maxSteps:=999999)(disch:=omega)only[go_sem,zA,zM,zS,zE,zL]
        exact⟨k+1,⟨⟨by omega,hgo fun h=>h4 (by rw[hmo.1.2 h.1];rfl)⟩,by omega⟩,by push_cast;rfl,HLe.refl _⟩
    · exact⟨k+1,⟨⟨by omega,hgo fun h=>h3 h.2⟩,by omega⟩,by push_cast;rfl,HLe.refl _⟩
  · have hke:k=n*n:=by omega
    have hfn:=firstK_none (gv:=q.given) (ms:=ms) fun j hj=>hno j (by have:=hm.len;omega)
    rw[hfn]at hO
    have hO:hintO p xs=hintF q f ms:=hO
    have hnl:=(narM_ok (p:=q) (t:=t) hm).len
    simp(maxSteps:=999999)(disch:=omega)only[go_sem,zA,zM,zS,zE,zL]
    first|refine OpS.mk (sNarrowBy_run qp qv ms hm t ⟨ht.1,h1⟩) (⟨_,Try.func113,rfl,rfl⟩:Enters Try.prog 113) rfl rfl rfl rfl rfl ?_|refine Loud.mk (sNarrowBy_run qp qv ms hm t ⟨ht.1,h1⟩) (⟨_,Try.func113,rfl,rfl⟩:Enters Try.prog 113) rfl rfl rfl rfl rfl ?_
    simp(maxSteps:=999999)(disch:=omega)only[go_sem,zA,zM,zS,zE,zL]
    first|refine OpS.rd (l8Same_run (nats (narM q t ms)) (nats ms) (by rw[nats_len];omega)) (⟨_,Try.func114,rfl,rfl⟩:Enters Try.prog 114) rfl rfl rfl rfl ?_|refine Loud.rd (l8Same_run (nats (narM q t ms)) (nats ms) (by rw[nats_len];omega)) (⟨_,Try.func114,rfl,rfl⟩:Enters Try.prog 114) rfl rfl rfl rfl ?_
    simp(maxSteps:=999999)(disch:=omega)only[go_sem,zA,zM,zS,zE,zL]
    ((first|(with_reducible first|refine condK_dec ?_ ?_|refine condK_ndec ?_ ?_|refine condK_nb ?_ ?_)|refine condK_b ?_ ?_)<;>intro h5)
    · have h5:narM q t ms=ms:=nats_inj.1 h5
      simp(maxSteps:=999999)(disch:=omega)only[go_sem,zA,zM,zS,zE,zL]
      refine⟨(f,t+1),(ms,last),⟨⟨hm, ?_,hsum,⟨by omega,by omega⟩,fun u u1 u2=> ?_,fun _=>hfn⟩,by simp only;omega⟩,⟨rfl,rfl,by push_cast;rfl⟩,HLe.refl _⟩
      · rw[hfn];exact hO
      · by_cases hut:u=t
        · rw[hut];exact h5
        · exact hall u u1 (by simp only at u2;omega)
    · have h5:narM q t ms≠ms:=fun h=>h5 (by rw[h])
      have hnx:=nextM_is ⟨ht.1,h1⟩ hall h5
      have hdec:=narM_sum (p:=q) hm h5
      obtain⟨f,rfl⟩:∃f',f=f'+1:=⟨f -1,by omega⟩
      have hOu:hintF q (f+1) ms=if nextM q ms=0 then none else match firstK q.given (narM q (nextM q ms) ms)with
       |some k=>some ⟨nextM q ms,k,onlyV (mAt (narM q (nextM q ms) ms) k)⟩
       |none=>hintF q f (narM q (nextM q ms) ms):=rfl
      rw[hnx,if_neg (by omega)]at hOu
      simp(maxSteps:=999999)(disch:=omega)only[go_sem,zA,zM,zS,zE,zL]
      exact⟨(f,1),(narM q t ms,t),⟨⟨narM_ok hm,hO.trans hOu,by simp only;omega,⟨Nat.le_refl _,by show 1≤5;omega⟩,fun u u1 u2=>by simp only at u2;omega,fun h=>by simp only at h;omega⟩,by simp only;omega⟩,by first|rfl|exact⟨rfl,rfl⟩|exact⟨rfl,rfl,rfl⟩,HLe.refl _⟩
end Go.Lg

namespace Go.Lg
open Go.Proofs
theorem hintF_facts{q:Puz}{n:Nat}{h:Hnt}:∀(f:Nat) (ms:List Nat),MsN ms n→hintF q f ms=some h→∃(k:Nat) (ms':List Nat),MsN ms' n∧k<n*n∧h.cell=k∧h.val=(onlyV (mAt ms' k):Nat)∧onlyV (mAt ms' k)≠0∧nth q.given k=0
 |0,_,_,h=>by cases h
 |f+1,ms,hm,hh=>by
  unfold hintF at hh
  split at hh
  · cases hh
  have hok:=narM_ok (p:=q) (t:=nextM q ms) hm
  generalize narM q (nextM q ms) ms=ms' at hh hok
  split at hh
  · rename_i k hk
    unfold firstK at hk
    have hp:=List.find?_some hk
    have hmem:=List.mem_of_find?_eq_some hk
    rw[decide_eq_true_eq]at hp
    cases hh
    exact⟨k,ms',hok,by rw[←hok.len];exact List.mem_range.1 hmem,rfl,rfl,hp.1,hp.2⟩
  · exact hintF_facts f ms' hok hh
theorem hint_facts{p:Puz}{xs:List Int}(h:hintB p xs=true):fitsV p xs=true∧∃k v:Nat,k<xs.length∧(hintV p xs).cell=k∧(hintV p xs).val=v∧1≤v∧(v:Int)≤p.size∧nth xs k=0∧nth p.given k=0:=by
 unfold hintB at h
 obtain⟨hh,he⟩:=Option.isSome_iff_exists.1 h
 have hv:hintV p xs=hh:=by unfold hintV;rw[he];rfl
 unfold hintO at he
 split at he
 rotate_left
 · cases he
 rename_i hf
 obtain⟨n,hz,hp,hvl,hg,ha,hfl,hcl,hlen,hl4,hl16⟩:=fitsV_facts hf
 obtain⟨qv,qp,qg⟩:=withP_valid hp hvl hg ha
 obtain⟨k,ms',hm,hk,h1,h2,h3,h4⟩:=hintF_facts _ _ (startM_ok qp qg) he
 have h5:=(mvals_only (hm.lt hp.hn k)).2 h3
 have h6:=hm.at k
 have h4':nth (withL p.given xs) k=0:=h4
 rw[withL_nth (by rw[hlen,hg.len];exact hk)]at h4'
 have hx0:=hg.val k (by rw[hg.len];exact hk)
 rw[hv]
 refine⟨hf,k,onlyV (mAt ms' k),by rw[hg.len];exact hk,h1,h2,by omega, ?_, ?_, ?_⟩
 · have hle:=onlyV_le (mAt ms' k)
   have h7:2^onlyV (mAt ms' k)≤2^(n+1) -2:=by rw[←h5.2];exact h6.1
   rw[hz]
   have hn:=hp.hn
   generalize onlyV (mAt ms' k)=v at*
   have:v=1∨v=2∨v=3∨v=4:=by omega
   rcases hn with rfl|rfl|rfl<;>rcases this with rfl|rfl|rfl|rfl<;>simp at h7⊢
 · split at h4'<;>omega
 · split at h4'<;>omega
section
variable{P:Program}{o:Oper}{st:St}{K:KV}{fo:Operand}{ws:Array Operand}{ts:Array TypeId}{f:FuncId}{args args':List AV}{v:AV}
end
end Go.Lg

namespace Go.Lg
open Go.Proofs
theorem puz_factsT{p:Puz}(hv:puzzleValid p=true):PuzN p p.size.toNat∧GrdN p.given p.size.toNat:=by
 obtain⟨hp,hz⟩:=PuzN.of hv
 refine⟨hp, ?_⟩
 simp only[puzzleValid,Bool.and_eq_true,decide_eq_true_eq]at hv
 exact GrdN.of hp.hn (by rw[hz];exact hv.1)
end Go.Lg

namespace Go.Lg
open Go.Proofs
theorem zeros_filled(k:Nat):filledAt (List.replicate k 0)=[]:=by
 unfold filledAt
 rw[List.map_eq_nil_iff,List.filter_eq_nil_iff]
 intro i _
 rw[nth_zeros]
 simp
theorem new_facts{p:Puz}(hv:puzzleValid p=true):gameValid (gameOf p)=true∧gameBackB (gameOf p)=false∧gameGrid (gameOf p)=p.given:=by
 have e:gameOf p=⟨p,List.replicate p.given.length 0,[]⟩:=by unfold gameOf;rw[if_pos hv]
 obtain⟨hp,hz⟩:=PuzN.of hv
 have hlen:p.given.length=p.size.toNat*p.size.toNat:=hp.len
 have hgz:GrdN (List.replicate p.given.length 0) p.size.toNat:=by rw[hlen];exact⟨by simp,fun k _=>by rw[nth_zeros];omega⟩
 have hgv:gridValid (List.replicate p.given.length 0) p.size=true:=by have:=hgz.valid hp.hn;rwa [hz]at this
 have hok:gameValid (gameOf p)=true:=by
  rw[e]
  simp only[gameValid,Bool.and_eq_true,decide_eq_true_eq]
  refine⟨hv,hgv,by simp, ?_⟩
  refine⟨List.nodup_nil,fun c hc=>absurd hc (by simp),fun c hc=> ?_⟩
  have hc:c∈filledAt (List.replicate p.given.length 0):=hc
  rw[zeros_filled]at hc
  cases hc
 refine⟨hok, ?_, ?_⟩
 · unfold gameBackB
   rw[e]
   simp
 · have e2:gameGrid (gameOf p)=bothG (gameOf p).task.given (gameOf p).put:=by unfold gameGrid;rw[if_pos hok]
   rw[e2,e]
   refine ext_nth (by rw[bothG_length]) fun j hj=> ?_
   have hj:j<p.given.length:=by rw[bothG_length]at hj;exact hj
   show nth (bothG p.given (List.replicate p.given.length 0)) (j:Int)=_
   rw[bothG_nth hj,nth_zeros]
   have:=(puz_factsT hv).2.val j hj
   omega
end Go.Lg
