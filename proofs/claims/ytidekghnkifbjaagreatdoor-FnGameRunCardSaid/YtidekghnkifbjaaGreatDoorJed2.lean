/- GpMK, GpTA, GpTB, GpMN, GpTF, GpRD, GpSP, cut to what is needed. -/
import Derived.Test.YtidekghnkifbjaaGreatDoorJed0
import Derived.Test.YtidekghnkifbjaaGreatDoorJeb3
import Derived.Test.YtidekghnkifbjaaGreatDoorJed1
import Derived.Test.YtidekghnkifbjaaGreatDoorJeb9
import Derived.Test.YtidekghnkifbjaaGreatDoorJec5
import Derived.Test.YtidekghnkifbjaaGreatDoorJec2
import Derived.Test.YtidekghnkifbjaaGreatDoorJeb1
import Derived.Test.YtidekghnkifbjaaGreatDoorJec7
import Derived.Test.YtidekghnkifbjaaGreatDoorJec6
import Derived.Test.YtidekghnkifbjaaGreatDoorJeb8
import Derived.Test.YtidekghnkifbjaaGreatDoorJeb0
import Derived.Test.YtidekghnkifbjaaGreatDoorJec4
import Derived.Test.YtidekghnkifbjaaGreatDoorJeb4
import Derived.Test.YtidekghnkifbjaaGreatDoorJeb5
open List renaming cons_append → Jb, nil_append → Jc, replicate → Jd, length_cons → Je, length_nil → Jf, length_set → Jo, mem_append → J2, mapM_cons → J4, nodup_append → Qo, length_map → Qs, mapM_nil → Qw, sum_cons → Wz
open Nat renaming reduceAdd→zA,reduceMul→zM,reduceSub→zS,reduceEqDiff→zE,reduceLeDiff→zL
set_option linter.unusedSimpArgs false
set_option linter.unusedVariables false
set_option maxRecDepth 100000
namespace Go.Lg
open Go.Proofs
def WR(gv:List Int)(ms:List Nat):Option Nat:=(List.range ms.length).find? fun(k:Nat)=>decide (Zi (QL ms k)≠0∧JA gv k=0)
theorem F6{gv:List Int}{ms:List Nat}{k:Nat}(hk:k<ms.length)(h:Zi (QL ms k)≠0∧JA gv k=0)(hno:∀j:Nat,j<k→¬(Zi (QL ms j)≠0∧JA gv j=0)):WR gv ms=some k:=by
 unfold WR
 rw[List.find?_eq_some_iff_getElem]
 exact⟨decide_eq_true h,k,by simpa using hk,by simp,fun j hj=>by
  simp only[List.getElem_range,Bool.not_eq_true',decide_eq_false_iff_not]
  exact hno j hj⟩
theorem KG{gv:List Int}{ms:List Nat}(hno:∀j:Nat,j<ms.length→¬(Zi (QL ms j)≠0∧JA gv j=0)):WR gv ms=none:=by
 unfold WR
 rw[List.find?_eq_none]
 intro j hj
 rw[decide_eq_true_eq]
 exact hno j (List.mem_range.1 hj)
def V6(q:Q4):Nat→List Nat→Option Hnt
 |0,_=>none
 |f+1,ms=>if ZZ q ms=0 then none else match WR q.given (Uk q (ZZ q ms) ms)with
  |some k=>some ⟨ZZ q ms,k,Zi (QL (Uk q (ZZ q ms) ms) k)⟩
  |none=>V6 q f (Uk q (ZZ q ms) ms)
theorem Ji5{q:Q4}{f:Nat}{ms:List Nat}(h:ZZ q ms=0):V6 q f ms=none:=by
 cases f with
 |zero=>rfl
 |succ f=>unfold V6;rw[if_pos h]
def WF(p:Q4)(xs:List Int):Bool:=JB p&&(Qe xs p.size&&QT p xs p.size.toNat)
def WD(p:Q4)(xs:List Int):Option Hnt:=if WF p xs=true then V6 (Q5 p xs) 1000 (ZI (Q5 p xs))else none
def Z2(p:Q4)(xs:List Int):Hnt:=(WD p xs).getD ⟨0,0,0⟩
def UK(p:Q4)(xs:List Int):Bool:=(WD p xs).isSome
theorem GL:∀(l:List Nat) (b:Nat),(∀x∈l,x≤b)→l.sum≤b*l.length
 |[],b,_=>by simp
 |x::l,b,h=>by
  have h1:=GL l b fun y hy=>h y (by simp[hy])
  have h2:=h x (by simp)
  simp only[Wz,Je,Nat.mul_add,Nat.mul_one]
  omega
theorem XT.sum{ms:List Nat}{n:Nat}(hn:n=2∨n=3∨n=4)(h:XT ms n):ms.sum≤480:=by
 have h1:=GL ms 30 fun x hx=>by have:=(h.val x hx).1;have:=Jc1 hn;omega
 have h2:ms.length≤16:=by rw[h.len];rcases hn with rfl|rfl|rfl<;>omega
 omega
theorem Ki{p:Q4}{n:Nat}{xs:List Int}(hp:Ux p n)(hv:JB p=true)(hg:Zk xs n)(ha:Zk p.given n):JB (Q5 p xs)=true∧Ux (Q5 p xs) n∧Zk (Q5 p xs).given n:=by
 have hw:Zk (Q5 p xs).given n:=W4 ha hg
 have h1:JB (Q5 p xs)=true:=by
  simp only[JB,Bool.and_eq_true,decide_eq_true_eq]at hv⊢
  refine⟨?_,hv.2⟩
  have:=hw.valid hp.hn
  rw[←hp.size]at this
  exact this
 refine⟨h1, ?_,hw⟩
 have:=(Ux.of h1).1
 have e:(Q5 p xs).size.toNat=n:=by show p.size.toNat=n;rw[hp.size];rfl
 rwa [e]at this
theorem XQ{p:Q4}{xs:List Int}(h:WF p xs=true):∃n:Nat,p.size=n∧Ux p n∧JB p=true∧Zk xs n∧Zk p.given n∧QT p xs n=true∧clear p xs=true∧p.given.length=xs.length∧4≤xs.length∧xs.length≤16:=by
 simp only[WF,Bool.and_eq_true]at h
 obtain⟨h1,h2,h3⟩:=h
 obtain⟨hp,hg,ha,hlen,hl4,hl16⟩:=Yk h1 h2
 refine⟨p.size.toNat,(Ux.of h1).2.symm,hp,h1,hg,ha,h3, ?_,hlen,hl4,hl16⟩
 simp only[QT,Bool.and_eq_true]at h3
 exact h3.1
theorem KR(xs:List Int)(n:Int)(hx:xs.length≤2^40):JW Tryz.prog 93 [QO xs,int n] (bool (Qe xs n&& !UL xs n.toNat)):=by
 cases h:Qe xs n with
 |true=>
  have hb:=QC h
  obtain⟨m,rfl⟩:∃m:Nat,n=m:=⟨n.toNat,by omega⟩
  have hn:m=2∨m=3∨m=4:=by omega
  have:=KQ hn xs (Zk.of hn h)
  rw[Int.toNat_natCast,Bool.true_and]
  exact this
 |false=>
  refine Jn.cw (c:=_) Tryz.func93 rfl (n:=47) Tryz.ntmps93 (rs:=[.tmp 4]) rfl ?_
  simp only[Je,Jf,zA,zS,Jd,Jb,Jc]
  simp(maxSteps:=999999)(disch:=omega)only[go_sem,zA,zM,zS,zE,zL]
  first|refine JZ.rd (ZG xs n (by omega)) (⟨_,Tryz.func54,rfl,rfl⟩:Ji Tryz.prog 54) rfl rfl rfl rfl ?_|refine JK.rd (ZG xs n (by omega)) (⟨_,Tryz.func54,rfl,rfl⟩:Ji Tryz.prog 54) rfl rfl rfl rfl ?_
  simp(maxSteps:=999999)(disch:=omega)only[go_sem,zA,zM,zS,zE,zL]
  ((first|(with_reducible first|refine Jl ?_ ?_|refine Jj ?_ ?_|refine Jp ?_ ?_)|refine Jr ?_ ?_)<;>intro c1)
  · exfalso;rw[h]at c1;cases c1
  · simp(maxSteps:=999999)(disch:=omega)only[go_sem,zA,zM,zS,zE,zL]
    rfl
theorem UU(p:Q4)(xs:List Int)(hx:Rf p)(hl:xs.length≤2^40):JW Tryz.prog 50 [aP p,QO xs] (bool (WF p xs)):=by
 by_cases h:JB p=true∧Qe xs p.size=true
 · obtain⟨hp,hg,ha,_⟩:=Yk h.1 h.2
   have:=KU hp h.1 xs hg
   unfold WF
   rw[h.1,h.2,Bool.true_and,Bool.true_and]
   exact this
 · have e:WF p xs=false:=by
    unfold WF
    cases h1:JB p
    · rfl
    · cases h2:Qe xs p.size
      · rfl
      · exact absurd ⟨h1,h2⟩ h
   rw[e]
   refine Jn.cw (c:=_) Tryz.func50 rfl (n:=60) Tryz.ntmps50 (rs:=[.tmp 4]) rfl ?_
   simp only[Je,Jf,zA,zS,Jd,Jb,Jc]
   simp(maxSteps:=999999)(disch:=omega)only[go_sem,zA,zM,zS,zE,zL]
   intro g
   first|refine JZ.rd (Qx p hx) (⟨_,Tryz.func41,rfl,rfl⟩:Ji Tryz.prog 41) rfl rfl rfl rfl ?_|refine JK.rd (Qx p hx) (⟨_,Tryz.func41,rfl,rfl⟩:Ji Tryz.prog 41) rfl rfl rfl rfl ?_
   simp(maxSteps:=999999)(disch:=omega)only[go_sem,zA,zM,zS,zE,zL]
   ((with_reducible first|refine JJ ?_ ?_|refine JF ?_ ?_|refine JU ?_ ?_|refine Jw ?_ ?_|refine JH ?_ ?_|refine JI ?_ ?_|refine JD ?_ ?_|refine JE ?_ ?_|refine JS ?_ ?_|refine JT ?_ ?_|refine Jy ?_ ?_|refine Jz ?_ ?_)<;>intro c1<;>simp(maxSteps:=999999)(disch:=omega)only[go_sem,zA,zM,zS,zE,zL,c1])
   have c2:(Qe xs p.size&& !UL xs p.size.toNat)=false:=by
    cases h2:Qe xs p.size
    · rfl
    · exact absurd ⟨c1,h2⟩ h
   first|refine JZ.rd (KR xs p.size hl) (⟨_,Tryz.func93,rfl,rfl⟩:Ji Tryz.prog 93) rfl rfl rfl rfl ?_|refine JK.rd (KR xs p.size hl) (⟨_,Tryz.func93,rfl,rfl⟩:Ji Tryz.prog 93) rfl rfl rfl rfl ?_
   simp(maxSteps:=999999)(disch:=omega)only[go_sem,zA,zM,zS,zE,zL]
   rw[c2]
   simp(maxSteps:=999999)(disch:=omega)only[go_sem,zA,zM,zS,zE,zL]
theorem Rx(p:Q4)(hx:Rf p):JW Tryz.prog 78 [aP p] (aP p):=
 JW.ice (KM p hx) fun v H' ⟨c,r,S1,S2,e,h1,h2,_⟩=>by
  subst e
  have e1:∀x:Int,frzC H' (.f (.int .i64 x))=some (.f (.int .i64 x)):=fun _=>rfl
  have e2:frzC H' r=some (.f (Uu eR p.rules)):=by
   rcases h2 with⟨rfl,h3,_⟩|h2
   · rw[h3];rfl
   · exact h2.frzC
  show(([_,_,_]:List CV).mapM (frzC H')).map AV.agg=_
  simp only[J4,Qw,e1,e2,h1.frzC,Option.bind_eq_bind,Option.pure_def,Option.bind_some,Option.map_some]
set_option maxHeartbeats 4000000 in
theorem YT(p:Q4)(xs:List Int)(hx:Rf p)(hl:xs.length≤2^40):JW Tryz.prog 33 [aP p,QO xs] (.tup [aH (Z2 p xs),bool (UK p xs)]):=by
 refine Jn.cw (c:=_) Tryz.func33 rfl (n:=64) Tryz.ntmps33 (rs:=[.cell 4 59, .tmp 5]) rfl ?_
 simp only[Je,Jf,zA,zS,Jd,Jb,Jc]
 simp(maxSteps:=999999)(disch:=omega)only[go_sem,zA,zM,zS,zE,zL]
 intro g0 g4
 first|refine JZ.rd (UU p xs hx hl) (⟨_,Tryz.func50,rfl,rfl⟩:Ji Tryz.prog 50) rfl rfl rfl rfl ?_|refine JK.rd (UU p xs hx hl) (⟨_,Tryz.func50,rfl,rfl⟩:Ji Tryz.prog 50) rfl rfl rfl rfl ?_
 simp(maxSteps:=999999)(disch:=omega)only[go_sem,zA,zM,zS,zE,zL]
 cases hf:WF p xs with
 |false=>
  have e:WD p xs=none:=by unfold WD;rw[if_neg (by rw[hf];simp)]
  have e1:Z2 p xs=⟨0,0,0⟩:=by unfold Z2;rw[e];rfl
  have e2:UK p xs=false:=by unfold UK;rw[e];rfl
  rw[e1,e2]
  simp(maxSteps:=999999)(disch:=omega)only[go_sem,zA,zM,zS,zE,zL]
 |true=>
  obtain⟨n,hz,hp,hv,hg,ha,hfl,hcl,hlen,hl4,hl16⟩:=XQ hf
  obtain⟨qv,qp,qg⟩:=Ki hp hv hg ha
  have hbg:=X6 p xs hlen.symm hl16 (fun k hk=>⟨(hg.val k hk).1,(ha.val k (by omega)).1⟩)
  rw[if_pos hcl,hcl]at hbg
  have hO:WD p xs=V6 (Q5 p xs) 1000 (ZI (Q5 p xs)):=by unfold WD;rw[if_pos hf]
  simp(maxSteps:=999999)(disch:=omega)only[go_sem,zA,zM,zS,zE,zL]
  first|refine JZ.mk (Rx p hx) (⟨_,Tryz.func78,rfl,rfl⟩:Ji Tryz.prog 78) rfl rfl rfl rfl rfl ?_|refine JK.mk (Rx p hx) (⟨_,Tryz.func78,rfl,rfl⟩:Ji Tryz.prog 78) rfl rfl rfl rfl rfl ?_
  simp(maxSteps:=999999)(disch:=omega)only[go_sem,zA,zM,zS,zE,zL]
  intro g6
  first|refine JZ.mk (hbg) (⟨_,Tryz.func37,rfl,rfl⟩:Ji Tryz.prog 37) rfl rfl rfl rfl rfl ?_|refine JK.mk (hbg) (⟨_,Tryz.func37,rfl,rfl⟩:Ji Tryz.prog 37) rfl rfl rfl rfl rfl ?_
  simp(maxSteps:=999999)(disch:=omega)only[go_sem,zA,zM,zS,zE,zL]
  first|refine JZ.mk (KP qp qv qg) (⟨_,Tryz.func79,rfl,rfl⟩:Ji Tryz.prog 79) rfl rfl rfl rfl rfl ?_|refine JK.mk (KP qp qv qg) (⟨_,Tryz.func79,rfl,rfl⟩:Ji Tryz.prog 79) rfl rfl rfl rfl rfl ?_
  simp(maxSteps:=999999)(disch:=omega)only[go_sem,zA,zM,zS,zE,zL]
  have hsz:(Q5 p xs).size=n:=hz
  have hgl:(Q5 p xs).given.length=n*n:=qg.len
  have hsq:4≤n*n∧n*n≤16:=by rcases hp.hn with rfl|rfl|rfl<;>omega
  refine Qp (fun(f:Nat) (b:List Nat)=>f) (fun f b=>XT b n∧V6 (Q5 p xs) f b=WD p xs∧b.sum<f) (fun f b=>[.a, .a, .a, .a, .k, .a, .k, .p (QO (JQ b)), .a, .a, .a, .a, .a, .a, .a, .a, .a, .a, .a, .a, .a, .a, .a, .a, .a, .a, .a, .a, .a, .a, .a, .a, .a, .a, .a, .a, .a, .a, .a, .a, .a, .a, .a, .a, .a, .a, .a, .a, .a, .a, .a, .a, .a, .a, .a, .a, .a, .a, .a, .a, .a, .a, .a, .a]) (fun _ _=>[some ⟨g0,1,cP p⟩,some ⟨g4,3,[.f (.int .i64 0), .f (.int .i64 0), .f (.int .i64 0)]⟩,some ⟨g6,3,cP (Q5 p xs)⟩]) 1000 (ZI (Q5 p xs)) ⟨KY qp qg,hO.symm,by have:=(KY qp qg).sum hp.hn;omega⟩ (by simp(maxSteps:=999999)(disch:=omega)only[go_sem,zA,zM,zS,zE,zL]) (J0.refl _) ?_
  rintro f ms ⟨hm,hO,hsum⟩
  obtain⟨f,rfl⟩:∃f',f=f'+1:=⟨f -1,by omega⟩
  have hnr:=Jar qp qv ms hm
  have hok:=K6 (p:=Q5 p xs) (t:=ZZ (Q5 p xs) ms) hm
  have hle4:=Jc9 (Q5 p xs) ms
  have hdec:=fun h=>Jdc (p:=Q5 p xs) hm (JiC (p:=Q5 p xs) (ms:=ms) h)
  have hOu:V6 (Q5 p xs) (f+1) ms=if ZZ (Q5 p xs) ms=0 then none else match WR (Q5 p xs).given (Uk (Q5 p xs) (ZZ (Q5 p xs) ms) ms)with
   |some k=>some ⟨ZZ (Q5 p xs) ms,k,Zi (QL (Uk (Q5 p xs) (ZZ (Q5 p xs) ms) ms) k)⟩
   |none=>V6 (Q5 p xs) f (Uk (Q5 p xs) (ZZ (Q5 p xs) ms) ms):=rfl
  rw[hO]at hOu
  generalize hq:Q5 p xs=q at*
  generalize ZZ q ms=t at*
  generalize Uk q t ms=ms' at*
  simp(maxSteps:=999999)(disch:=omega)only[go_sem,zA,zM,zS,zE,zL]
  first|refine JZ.mk (hnr) (⟨_,Tryz.func80,rfl,rfl⟩:Ji Tryz.prog 80) rfl rfl rfl rfl rfl ?_|refine JK.mk (hnr) (⟨_,Tryz.func80,rfl,rfl⟩:Ji Tryz.prog 80) rfl rfl rfl rfl rfl ?_
  simp(maxSteps:=999999)(disch:=omega)only[go_sem,zA,zM,zS,zE,zL]
  ((first|(with_reducible first|refine Jl ?_ ?_|refine Jj ?_ ?_|refine Jp ?_ ?_)|refine Jr ?_ ?_)<;>intro h1)
  · have h1:t=0:=by omega
    rw[if_pos h1]at hOu
    have e1:Z2 p xs=⟨0,0,0⟩:=by unfold Z2;rw[hOu];rfl
    have e2:UK p xs=false:=by unfold UK;rw[hOu];rfl
    rw[e1,e2]
    simp(maxSteps:=999999)(disch:=omega)only[go_sem,zA,zM,zS,zE,zL]
  have h1:t≠0:=fun h=>h1 (by rw[h];rfl)
  rw[if_neg h1]at hOu
  rw[if_neg h1]
  have hml:(JQ ms').length=n*n:=by rw[Qq];exact hok.len
  simp(maxSteps:=999999)(disch:=omega)only[go_sem,zA,zM,zS,zE,zL]
  rw[hml]
  refine JY (fun k:Nat=>n*n -k) (fun k=>k≤n*n∧∀j:Nat,j<k→¬(Zi (QL ms' j)≠0∧JA q.given j=0)) (fun k=>[.a, .a, .a, .a, .k, .a, .k, .k, .a, .k, .a, .a, .a, .a, .a, .a, .a, .a, .a, .a, .a, .a, .a, .a, .a, .a, .a, .a, .a, .a, .a, .a, .a, .a, .a, .a, .a, .a, .a, .a, .k, .k, .p (int k), .a, .a, .a, .a, .a, .a, .a, .a, .a, .a, .a, .a, .a, .a, .a, .a, .a, .a, .a, .a, .a]) (fun _=>[some ⟨g0,1,cP p⟩,some ⟨g4,3,[.f (.int .i64 0), .f (.int .i64 0), .f (.int .i64 0)]⟩,some ⟨g6,3,cP q⟩]) 0 ⟨Nat.zero_le _,fun j hj=>absurd hj (Nat.not_lt_zero _)⟩ (by simp(maxSteps:=999999)(disch:=omega)only[go_sem,zA,zM,zS,zE,zL];rfl) (J0.refl _) ?_
  rintro k ⟨hk,hno⟩
  simp(maxSteps:=999999)(disch:=omega)only[go_sem,zA,zM,zS,zE,zL]
  ((first|(with_reducible first|refine Jl ?_ ?_|refine Jj ?_ ?_|refine Jp ?_ ?_)|refine Jr ?_ ?_)<;>intro h2)
  · have h2:k<n*n:=by omega
    have hmk:=hok.lt hp.hn k
    have hnk:=Zf ms' k
    have hgo:¬(Zi (QL ms' k)≠0∧JA q.given k=0)→∀j:Nat,j<k+1→¬(Zi (QL ms' j)≠0∧JA q.given j=0):=fun h j hj=>by
     by_cases hjk:j=k
     · rw[hjk];exact h
     · exact hno j (by omega)
    simp(maxSteps:=999999)(disch:=omega)only[go_sem,zA,zM,zS,zE,zL,hnk]
    first|refine JZ.rd (Wv (QL ms' k) hmk.1) (⟨_,Tryz.func81,rfl,rfl⟩:Ji Tryz.prog 81) rfl rfl rfl rfl ?_|refine JK.rd (Wv (QL ms' k) hmk.1) (⟨_,Tryz.func81,rfl,rfl⟩:Ji Tryz.prog 81) rfl rfl rfl rfl ?_
    simp(maxSteps:=999999)(disch:=omega)only[go_sem,zA,zM,zS,zE,zL]
    ((with_reducible first|refine JJ ?_ ?_|refine JF ?_ ?_|refine JU ?_ ?_|refine Jw ?_ ?_|refine JH ?_ ?_|refine JI ?_ ?_|refine JD ?_ ?_|refine JE ?_ ?_|refine JS ?_ ?_|refine JT ?_ ?_|refine Jy ?_ ?_|refine Jz ?_ ?_)<;>intro h3<;>simp(maxSteps:=999999)(disch:=omega)only[go_sem,zA,zM,zS,zE,zL,h3])
    · ((first|(with_reducible first|refine Jl ?_ ?_|refine Jj ?_ ?_|refine Jp ?_ ?_)|refine Jr ?_ ?_)<;>intro h4)
      · have hfs:=F6 (gv:=q.given) (by rw[hok.len];exact h2) ⟨by omega,h4⟩ hno
        rw[hfs]at hOu
        have e1:Z2 p xs=⟨t,k,Zi (QL ms' k)⟩:=by unfold Z2;rw[hOu];rfl
        have e2:UK p xs=true:=by unfold UK;rw[hOu];rfl
        rw[e1,e2]
        simp(maxSteps:=999999)(disch:=omega)only[go_sem,zA,zM,zS,zE,zL]
      · simp(maxSteps:=999999)(disch:=omega)only[go_sem,zA,zM,zS,zE,zL]
        exact⟨k+1,⟨⟨by omega,hgo fun h=>h4 h.2⟩,by omega⟩,by push_cast;rfl,J0.refl _⟩
    · exact⟨k+1,⟨⟨by omega,hgo fun h=>h3 (by omega)⟩,by omega⟩,by push_cast;rfl,J0.refl _⟩
  · have hke:k=n*n:=by omega
    have hfn:=KG (gv:=q.given) (ms:=ms') fun j hj=>hno j (by have:=hok.len;omega)
    rw[hfn]at hOu
    simp(maxSteps:=999999)(disch:=omega)only[go_sem,zA,zM,zS,zE,zL]
    exact⟨f,ms',⟨⟨hok,hOu.symm,by have:=hdec h1;omega⟩,by omega⟩,rfl,J0.refl _⟩
set_option maxHeartbeats 4000000 in
theorem XV(p:Q4)(xs:List Int)(hx:Rf p)(hl:xs.length≤2^40):JW Tryz.prog 74 [aP p,QO xs] (.tup [aH (Z2 p xs),bool (UK p xs)]):=by
 refine Jn.cw (c:=_) Tryz.func74 rfl (n:=65) Tryz.ntmps74 (rs:=[.cell 4 59, .tmp 5]) rfl ?_
 simp only[Je,Jf,zA,zS,Jd,Jb,Jc]
 simp(maxSteps:=999999)(disch:=omega)only[go_sem,zA,zM,zS,zE,zL]
 intro g0 g4
 first|refine JZ.rd (ZY p xs hx hl) (⟨_,Tryz.func103,rfl,rfl⟩:Ji Tryz.prog 103) rfl rfl rfl rfl ?_|refine JK.rd (ZY p xs hx hl) (⟨_,Tryz.func103,rfl,rfl⟩:Ji Tryz.prog 103) rfl rfl rfl rfl ?_
 simp(maxSteps:=999999)(disch:=omega)only[go_sem,zA,zM,zS,zE,zL]
 rw[show(JB p&&(Qe xs p.size&&QT p xs p.size.toNat))=WF p xs from rfl]
 cases hf:WF p xs with
 |false=>
  have e:WD p xs=none:=by unfold WD;rw[if_neg (by rw[hf];simp)]
  have e1:Z2 p xs=⟨0,0,0⟩:=by unfold Z2;rw[e];rfl
  have e2:UK p xs=false:=by unfold UK;rw[e];rfl
  rw[e1,e2]
  simp(maxSteps:=999999)(disch:=omega)only[go_sem,zA,zM,zS,zE,zL]
 |true=>
  obtain⟨n,hz,hp,hv,hg,ha,hfl,hcl,hlen,hl4,hl16⟩:=XQ hf
  obtain⟨qv,qp,qg⟩:=Ki hp hv hg ha
  have hO:WD p xs=V6 (Q5 p xs) 1000 (ZI (Q5 p xs)):=by unfold WD;rw[if_pos hf]
  simp(maxSteps:=999999)(disch:=omega)only[go_sem,zA,zM,zS,zE,zL]
  first|refine JZ.mk (XL p xs (by omega) (by omega) (by omega)) (⟨_,Tryz.func104,rfl,rfl⟩:Ji Tryz.prog 104) rfl rfl rfl rfl rfl ?_|refine JK.mk (XL p xs (by omega) (by omega) (by omega)) (⟨_,Tryz.func104,rfl,rfl⟩:Ji Tryz.prog 104) rfl rfl rfl rfl rfl ?_
  simp(maxSteps:=999999)(disch:=omega)only[go_sem,zA,zM,zS,zE,zL]
  intro g6
  first|refine JZ.mk (YY qp qv qg) (⟨_,Tryz.func105,rfl,rfl⟩:Ji Tryz.prog 105) rfl rfl rfl rfl rfl ?_|refine JK.mk (YY qp qv qg) (⟨_,Tryz.func105,rfl,rfl⟩:Ji Tryz.prog 105) rfl rfl rfl rfl rfl ?_
  simp(maxSteps:=999999)(disch:=omega)only[go_sem,zA,zM,zS,zE,zL]
  have hsz:(Q5 p xs).size=n:=hz
  have hgl:(Q5 p xs).given.length=n*n:=qg.len
  have hsq:4≤n*n∧n*n≤16:=by rcases hp.hn with rfl|rfl|rfl<;>omega
  have hst:WR (Q5 p xs).given (ZI (Q5 p xs))=none:=by
   refine KG fun j hj ⟨h1,h2⟩=> ?_
   have hjl:j<(Q5 p xs).given.length:=by unfold ZI at hj;rw[Qs]at hj;exact hj
   rw[B5 hjl,h2,if_neg (by omega)]at h1
   have hz2:(Q5 p xs).size.toNat=n:=by rw[hsz];rfl
   rw[hz2]at h1
   have hn:=hp.hn
   rcases hn with rfl|rfl|rfl<;>exact h1 rfl
  have hm0:=KY qp qg
  generalize ZI (Q5 p xs)=s0 at hO hst hm0⊢
  generalize hq:Q5 p xs=q at*
  have hO0:WD p xs=match WR q.given s0 with
   |some k=>some ⟨0,k,Zi (QL s0 k)⟩
   |none=>V6 q 1000 s0:=by rw[hst];exact hO
  have hs0:s0.sum<1000:=by have:=hm0.sum hp.hn;omega
  refine Qp (fun(i:Nat×Nat) (b:List Nat×Nat)=>6*i.1+(5 -i.2)) (fun i b=>XT b.1 n∧(WD p xs=match WR q.given b.1 with
   |some k=>some ⟨b.2,k,Zi (QL b.1 k)⟩
   |none=>V6 q i.1 b.1)∧b.1.sum<i.1∧(1≤i.2∧i.2≤5)∧(∀u,1≤u→u<i.2→Uk q u b.1=b.1)∧(1<i.2→WR q.given b.1=none)) (fun i b=>[.a, .a, .a, .a, .k, .a, .k, .p (QO (JQ b.1)), .p (int b.2), .p (int i.2), .a, .a, .a, .a, .a, .a, .a, .a, .a, .a, .a, .a, .a, .a, .a, .a, .a, .a, .a, .a, .a, .a, .a, .a, .a, .a, .a, .a, .a, .a, .a, .a, .a, .a, .a, .a, .a, .a, .a, .a, .a, .a, .a, .a, .a, .a, .a, .a, .a, .a, .a, .a, .a, .a, .a]) (fun _ _=>[some ⟨g0,1,cP p⟩,some ⟨g4,3,[.f (.int .i64 0), .f (.int .i64 0), .f (.int .i64 0)]⟩,some ⟨g6,3,cP q⟩]) (1000,1) (s0,0) ⟨hm0,hO0,hs0,⟨Nat.le_refl _,by show 1≤5;omega⟩,fun u h1 h2=>by have h2:u<1:=h2;omega,fun _=>hst⟩ (by simp(maxSteps:=999999)(disch:=omega)only[go_sem,zA,zM,zS,zE,zL];first|rfl|exact⟨rfl,rfl⟩) (J0.refl _) ?_
  rintro⟨f,t⟩ ⟨ms,last⟩ ⟨hm,hO,hsum,ht,hall,hfn⟩
  simp only at hm hO hsum ht hall hfn⊢
  have hml:(JQ ms).length=n*n:=by rw[Qq];exact hm.len
  simp(maxSteps:=999999)(disch:=omega)only[go_sem,zA,zM,zS,zE,zL]
  ((first|(with_reducible first|refine Jl ?_ ?_|refine Jj ?_ ?_|refine Jp ?_ ?_)|refine Jr ?_ ?_)<;>intro h1)
  rotate_left
  · have h1:t=5:=by omega
    rw[hfn (by omega)]at hO
    have hO:WD p xs=none:=hO.trans (Ji5 (Jc8 fun u u1 u2=>hall u u1 (by omega)))
    have e1:Z2 p xs=⟨0,0,0⟩:=by unfold Z2;rw[hO];rfl
    have e2:UK p xs=false:=by unfold UK;rw[hO];rfl
    rw[e1,e2]
    simp(maxSteps:=999999)(disch:=omega)only[go_sem,zA,zM,zS,zE,zL]
  have h1:t≤4:=by omega
  simp(maxSteps:=999999)(disch:=omega)only[go_sem,zA,zM,zS,zE,zL]
  refine JY (fun k:Nat=>n*n -k) (fun k=>k≤n*n∧∀j:Nat,j<k→¬(Zi (QL ms j)≠0∧JA q.given j=0)) (fun k=>[.a, .a, .a, .a, .k, .a, .k, .k, .k, .k, .p (int k), .a, .a, .a, .a, .a, .a, .a, .a, .a, .a, .a, .a, .a, .a, .a, .a, .a, .a, .a, .a, .a, .a, .a, .a, .a, .a, .a, .a, .a, .a, .a, .a, .a, .a, .a, .a, .a, .a, .a, .a, .a, .a, .a, .a, .a, .a, .a, .a, .a, .a, .a, .a, .a, .a]) (fun _=>[some ⟨g0,1,cP p⟩,some ⟨g4,3,[.f (.int .i64 0), .f (.int .i64 0), .f (.int .i64 0)]⟩,some ⟨g6,3,cP q⟩]) 0 ⟨Nat.zero_le _,fun j hj=>absurd hj (Nat.not_lt_zero _)⟩ (by simp(maxSteps:=999999)(disch:=omega)only[go_sem,zA,zM,zS,zE,zL];rfl) (J0.refl _) ?_
  rintro k ⟨hk,hno⟩
  simp(maxSteps:=999999)(disch:=omega)only[go_sem,zA,zM,zS,zE,zL]
  ((first|(with_reducible first|refine Jl ?_ ?_|refine Jj ?_ ?_|refine Jp ?_ ?_)|refine Jr ?_ ?_)<;>intro h2)
  · have h2:k<n*n:=by omega
    have hmk:=hm.lt hp.hn k
    have hnk:=Zf ms k
    have hmo:=RP hmk
    have hgo:¬(Zi (QL ms k)≠0∧JA q.given k=0)→∀j:Nat,j<k+1→¬(Zi (QL ms j)≠0∧JA q.given j=0):=fun h j hj=>by
     by_cases hjk:j=k
     · rw[hjk];exact h
     · exact hno j (by omega)
    simp(maxSteps:=999999)(disch:=omega)only[go_sem,zA,zM,zS,zE,zL,hnk]
    first|refine JZ.mk (Uc (QL ms k) hmk) (⟨_,Tryz.func106,rfl,rfl⟩:Ji Tryz.prog 106) rfl rfl rfl rfl rfl ?_|refine JK.mk (Uc (QL ms k) hmk) (⟨_,Tryz.func106,rfl,rfl⟩:Ji Tryz.prog 106) rfl rfl rfl rfl rfl ?_
    simp(maxSteps:=999999)(disch:=omega)only[go_sem,zA,zM,zS,zE,zL]
    ((with_reducible first|refine JJ ?_ ?_|refine JF ?_ ?_|refine JU ?_ ?_|refine Jw ?_ ?_|refine JH ?_ ?_|refine JI ?_ ?_|refine JD ?_ ?_|refine JE ?_ ?_|refine JS ?_ ?_|refine JT ?_ ?_|refine Jy ?_ ?_|refine Jz ?_ ?_)<;>intro h3<;>simp(maxSteps:=999999)(disch:=omega)only[go_sem,zA,zM,zS,zE,zL,h3])
    · ((first|(with_reducible first|refine Jl ?_ ?_|refine Jj ?_ ?_|refine Jp ?_ ?_)|refine Jr ?_ ?_)<;>intro h4)
      · have h4:Zi (QL ms k)≠0:=hmo.1.1 (by omega)
        have hfs:=F6 (gv:=q.given) (by rw[hm.len];exact h2) ⟨h4,h3⟩ hno
        rw[hfs]at hO
        have e1:Z2 p xs=⟨last,k,Zi (QL ms k)⟩:=by unfold Z2;rw[hO];rfl
        have e2:UK p xs=true:=by unfold UK;rw[hO];rfl
        have hld:∀H,FY H (.fp (fl (eI .i64) [((Zi (QL ms k):Nat):Int)]) (Int.toNat 0*1))=some (int (Zi (QL ms k):Nat)):=fun _=>rfl
        rw[e1,e2,(hmo.2 h4).1]
        simp(maxSteps:=999999)(disch:=omega)only[go_sem,zA,zM,zS,zE,zL,hld]
      · simp(maxSteps:=999999)(disch:=omega)only[go_sem,zA,zM,zS,zE,zL]
        exact⟨k+1,⟨⟨by omega,hgo fun h=>h4 (by rw[hmo.1.2 h.1];rfl)⟩,by omega⟩,by push_cast;rfl,J0.refl _⟩
    · exact⟨k+1,⟨⟨by omega,hgo fun h=>h3 h.2⟩,by omega⟩,by push_cast;rfl,J0.refl _⟩
  · have hke:k=n*n:=by omega
    have hfn:=KG (gv:=q.given) (ms:=ms) fun j hj=>hno j (by have:=hm.len;omega)
    rw[hfn]at hO
    have hO:WD p xs=V6 q f ms:=hO
    have hnl:=(K6 (p:=q) (t:=t) hm).len
    simp(maxSteps:=999999)(disch:=omega)only[go_sem,zA,zM,zS,zE,zL]
    first|refine JZ.mk (Rk qp qv ms hm t ⟨ht.1,h1⟩) (⟨_,Tryz.func107,rfl,rfl⟩:Ji Tryz.prog 107) rfl rfl rfl rfl rfl ?_|refine JK.mk (Rk qp qv ms hm t ⟨ht.1,h1⟩) (⟨_,Tryz.func107,rfl,rfl⟩:Ji Tryz.prog 107) rfl rfl rfl rfl rfl ?_
    simp(maxSteps:=999999)(disch:=omega)only[go_sem,zA,zM,zS,zE,zL]
    first|refine JZ.rd (Ns (JQ (Uk q t ms)) (JQ ms) (by rw[Qq];omega)) (⟨_,Tryz.func108,rfl,rfl⟩:Ji Tryz.prog 108) rfl rfl rfl rfl ?_|refine JK.rd (Ns (JQ (Uk q t ms)) (JQ ms) (by rw[Qq];omega)) (⟨_,Tryz.func108,rfl,rfl⟩:Ji Tryz.prog 108) rfl rfl rfl rfl ?_
    simp(maxSteps:=999999)(disch:=omega)only[go_sem,zA,zM,zS,zE,zL]
    ((first|(with_reducible first|refine Jl ?_ ?_|refine Jj ?_ ?_|refine Jp ?_ ?_)|refine Jr ?_ ?_)<;>intro h5)
    · have h5:Uk q t ms=ms:=Jdb.1 h5
      simp(maxSteps:=999999)(disch:=omega)only[go_sem,zA,zM,zS,zE,zL]
      refine⟨(f,t+1),(ms,last),⟨⟨hm, ?_,hsum,⟨by omega,by omega⟩,fun u u1 u2=> ?_,fun _=>hfn⟩,by simp only;omega⟩,⟨rfl,rfl,by push_cast;rfl⟩,J0.refl _⟩
      · rw[hfn];exact hO
      · by_cases hut:u=t
        · rw[hut];exact h5
        · exact hall u u1 (by simp only at u2;omega)
    · have h5:Uk q t ms≠ms:=fun h=>h5 (by rw[h])
      have hnx:=Jda ⟨ht.1,h1⟩ hall h5
      have hdec:=Jdc (p:=q) hm h5
      obtain⟨f,rfl⟩:∃f',f=f'+1:=⟨f -1,by omega⟩
      have hOu:V6 q (f+1) ms=if ZZ q ms=0 then none else match WR q.given (Uk q (ZZ q ms) ms)with
       |some k=>some ⟨ZZ q ms,k,Zi (QL (Uk q (ZZ q ms) ms) k)⟩
       |none=>V6 q f (Uk q (ZZ q ms) ms):=rfl
      rw[hnx,if_neg (by omega)]at hOu
      simp(maxSteps:=999999)(disch:=omega)only[go_sem,zA,zM,zS,zE,zL]
      exact⟨(f,1),(Uk q t ms,t),⟨⟨K6 hm,hO.trans hOu,by simp only;omega,⟨Nat.le_refl _,by show 1≤5;omega⟩,fun u u1 u2=>by simp only at u2;omega,fun h=>by simp only at h;omega⟩,by simp only;omega⟩,by first|rfl|exact⟨rfl,rfl⟩|exact⟨rfl,rfl,rfl⟩,J0.refl _⟩
end Go.Lg

namespace Go.Lg
open Go.Proofs
def onlyL(ms:List Nat):List Nat:=ms.map Zi
def endM(p:Q4)(ms:List Nat):Option Nat:=
 if(∃m∈ms,m=0)then some 0 else if(∀m∈ms,Zi m≠0)then some (if Uj p (JQ (onlyL ms))=true then 1 else 0)else none
end Go.Lg

namespace Go.Lg
open Go.Proofs
theorem Yt(p:Q4)(xs:List Int)(hx:Rf p)(hl:xs.length≤2^40):JW Tryz.prog 52 [aP p,QO xs] (bool (Uj p xs)):=by
 refine Jn.cw (c:=_) Tryz.func52 rfl (n:=17) Tryz.ntmps52 (rs:=[.tmp 4]) rfl ?_
 simp only[Je,Jf,zA,zS,Jd,Jb,Jc]
 simp(maxSteps:=999999)(disch:=omega)only[go_sem,zA,zM,zS,zE,zL]
 intro g
 first|refine JZ.rd (UU p xs hx hl) (⟨_,Tryz.func50,rfl,rfl⟩:Ji Tryz.prog 50) rfl rfl rfl rfl ?_|refine JK.rd (UU p xs hx hl) (⟨_,Tryz.func50,rfl,rfl⟩:Ji Tryz.prog 50) rfl rfl rfl rfl ?_
 simp(maxSteps:=999999)(disch:=omega)only[go_sem,zA,zM,zS,zE,zL]
 cases h:WF p xs with
 |false=>
  have e:Uj p xs=false:=by unfold Uj;unfold WF at h;rw[h];rfl
  rw[e]
  simp(maxSteps:=999999)(disch:=omega)only[go_sem,zA,zM,zS,zE,zL]
 |true=>
  have e:Uj p xs=decide (ZT xs p.size=xs.length):=by unfold Uj;unfold WF at h;rw[h];rfl
  rw[e]
  simp(maxSteps:=999999)(disch:=omega)only[go_sem,zA,zM,zS,zE,zL]
  first|refine JZ.rd (Wd xs p.size hl) (⟨_,Tryz.func43,rfl,rfl⟩:Ji Tryz.prog 43) rfl rfl rfl rfl ?_|refine JK.rd (Wd xs p.size hl) (⟨_,Tryz.func43,rfl,rfl⟩:Ji Tryz.prog 43) rfl rfl rfl rfl ?_
  simp(maxSteps:=999999)(disch:=omega)only[go_sem,zA,zM,zS,zE,zL]
end Go.Lg

namespace Go.Lg
open Go.Proofs
theorem F5{q:Q4}{n:Nat}{h:Hnt}:∀(f:Nat) (ms:List Nat),XT ms n→V6 q f ms=some h→∃(k:Nat) (ms':List Nat),XT ms' n∧k<n*n∧h.cell=k∧h.val=(Zi (QL ms' k):Nat)∧Zi (QL ms' k)≠0∧JA q.given k=0
 |0,_,_,h=>by cases h
 |f+1,ms,hm,hh=>by
  unfold V6 at hh
  split at hh
  · cases hh
  have hok:=K6 (p:=q) (t:=ZZ q ms) hm
  generalize Uk q (ZZ q ms) ms=ms' at hh hok
  split at hh
  · rename_i k hk
    unfold WR at hk
    have hp:=List.find?_some hk
    have hmem:=List.mem_of_find?_eq_some hk
    rw[decide_eq_true_eq]at hp
    cases hh
    exact⟨k,ms',hok,by rw[←hok.len];exact List.mem_range.1 hmem,rfl,rfl,hp.1,hp.2⟩
  · exact F5 f ms' hok hh
theorem RW{p:Q4}{xs:List Int}(h:UK p xs=true):WF p xs=true∧∃k v:Nat,k<xs.length∧(Z2 p xs).cell=k∧(Z2 p xs).val=v∧1≤v∧(v:Int)≤p.size∧JA xs k=0∧JA p.given k=0:=by
 unfold UK at h
 obtain⟨hh,he⟩:=Option.isSome_iff_exists.1 h
 have hv:Z2 p xs=hh:=by unfold Z2;rw[he];rfl
 unfold WD at he
 split at he
 rotate_left
 · cases he
 rename_i hf
 obtain⟨n,hz,hp,hvl,hg,ha,hfl,hcl,hlen,hl4,hl16⟩:=XQ hf
 obtain⟨qv,qp,qg⟩:=Ki hp hvl hg ha
 obtain⟨k,ms',hm,hk,h1,h2,h3,h4⟩:=F5 _ _ (KY qp qg) he
 have h5:=(RP (hm.lt hp.hn k)).2 h3
 have h6:=hm.at k
 have h4':JA (Zw p.given xs) k=0:=h4
 rw[U9 (by rw[hlen,hg.len];exact hk)]at h4'
 have hx0:=hg.val k (by rw[hg.len];exact hk)
 rw[hv]
 refine⟨hf,k,Zi (QL ms' k),by rw[hg.len];exact hk,h1,h2,by omega, ?_, ?_, ?_⟩
 · have hle:=Jiu (QL ms' k)
   have h7:2^Zi (QL ms' k)≤2^(n+1) -2:=by rw[←h5.2];exact h6.1
   rw[hz]
   have hn:=hp.hn
   generalize Zi (QL ms' k)=v at*
   have:v=1∨v=2∨v=3∨v=4:=by omega
   rcases hn with rfl|rfl|rfl<;>rcases this with rfl|rfl|rfl|rfl<;>simp at h7⊢
 · split at h4'<;>omega
 · split at h4'<;>omega
section
variable{P:Program}{o:Oper}{st:St}{K:KV}{fo:Operand}{ws:Array Operand}{ts:Array TypeId}{f:FuncId}{args args':List AV}{v:AV}
end
end Go.Lg

namespace Go.Lg
open Go.Proofs
theorem G0{p:Q4}(hv:JB p=true):Ux p p.size.toNat∧Zk p.given p.size.toNat:=by
 obtain⟨hp,hz⟩:=Ux.of hv
 refine⟨hp, ?_⟩
 simp only[JB,Bool.and_eq_true,decide_eq_true_eq]at hv
 exact Zk.of hp.hn (by rw[hz];exact hv.1)
end Go.Lg

namespace Go.Lg
open Go.Proofs
theorem Jbq(k:Nat):ZF (Jd k 0)=[]:=by
 unfold ZF
 rw[List.map_eq_nil_iff,List.filter_eq_nil_iff]
 intro i _
 rw[Xc]
 simp
theorem JgE{p:Q4}(hv:JB p=true):Qd (Xt p)=true∧QK (Xt p)=false∧JN (Xt p)=p.given:=by
 have e:Xt p=⟨p,Jd p.given.length 0,[]⟩:=by unfold Xt;rw[if_pos hv]
 obtain⟨hp,hz⟩:=Ux.of hv
 have hlen:p.given.length=p.size.toNat*p.size.toNat:=hp.len
 have hgz:Zk (Jd p.given.length 0) p.size.toNat:=by rw[hlen];exact⟨by simp,fun k _=>by rw[Xc];omega⟩
 have hgv:Qe (Jd p.given.length 0) p.size=true:=by have:=hgz.valid hp.hn;rwa [hz]at this
 have hok:Qd (Xt p)=true:=by
  rw[e]
  simp only[Qd,Bool.and_eq_true,decide_eq_true_eq]
  refine⟨hv,hgv,by simp, ?_⟩
  refine⟨List.nodup_nil,fun c hc=>absurd hc (by simp),fun c hc=> ?_⟩
  have hc:c∈ZF (Jd p.given.length 0):=hc
  rw[Jbq]at hc
  cases hc
 refine⟨hok, ?_, ?_⟩
 · unfold QK
   rw[e]
   simp
 · have e2:JN (Xt p)=Yq (Xt p).task.given (Xt p).put:=by unfold JN;rw[if_pos hok]
   rw[e2,e]
   refine YN (by rw[Uo]) fun j hj=> ?_
   have hj:j<p.given.length:=by rw[Uo]at hj;exact hj
   show JA (Yq p.given (Jd p.given.length 0)) (j:Int)=_
   rw[Xg hj,Xc]
   have:=(G0 hv).2.val j hj
   omega
end Go.Lg

namespace Go.Lg
open Go.Proofs
structure Z1(q:QZ)(n:Nat):Prop where
 pz:Ux q.task n
 pv:JB q.task=true
 sz:q.task.size=n
 gv:Zk q.task.given n
 pt:Zk q.put n
 ln:q.put.length=q.task.given.length
 ok:Wq q
theorem Z1.of{q:QZ}(h:Qd q=true):∃n,Z1 q n:=by
 obtain⟨h1,h2,h3,h4,h5,h6⟩:=Zs h
 obtain⟨hp,hz⟩:=Ux.of h1
 have hg:=(G0 h1).2
 refine⟨q.task.size.toNat,hp,h1,by omega,hg, ?_,h5,h4⟩
 have hb:=QC h2
 exact⟨by rw[h5];exact hg.len,fun k hk=>by have:=hb.2.2.2.2 k hk;omega⟩
theorem Z1.len{q:QZ}{n:Nat}(h:Z1 q n):4≤q.put.length∧q.put.length≤16∧q.moves.length≤16:=by
 have hn:=h.pz.hn
 have h1:=h.pt.len
 have h2:=Vd _ _ h.ok.1 h.ok.2.1
 have h3:(ZF q.put).length≤q.put.length:=by rw[Y9];exact List.countP_le_length
 rcases hn with rfl|rfl|rfl<;>omega
theorem Z1.valid{q:QZ}{n:Nat}(h:Z1 q n):Qd q=true:=by
 have h1:=h.pt.valid h.pz.hn
 have h2:=h.len
 simp only[Qd,Bool.and_eq_true,decide_eq_true_eq]
 exact⟨h.pv,by rw[h.sz];exact h1,by omega,h.ok⟩
theorem Z1.smG{q:QZ}{n:Nat}(h:Z1 q n)(hp:Rf q.task):Lg.smG q:=by
 have h2:=h.len
 exact⟨hp,by omega,by omega⟩
theorem Z1.grid{q:QZ}{n:Nat}(h:Z1 q n):JN q=Yq q.task.given q.put:=by
 unfold JN
 rw[if_pos h.valid]
theorem Z1.one{q:QZ}{n:Nat}(h:Z1 q n)(i:Nat)(hi:i<q.put.length):¬(0<JA q.put i∧0<JA q.task.given i):=fun⟨h1,h2⟩=>by
 have:=(h.ok.2.2 i (QB.2 ⟨by omega,by omega,h1⟩)).2
 omega
theorem JcZ{q:QZ}{n:Nat}{c v:Int}(h:Z1 q n)(ok:UR q c v):∃i:Nat,c=i∧i<q.put.length∧JA q.put i=0∧JA q.task.given i=0∧1≤v∧v≤n:=by
 obtain⟨h1,h2,h3,h4,h5⟩:=ok
 obtain⟨i,rfl⟩:∃i:Nat,c=i:=⟨c.toNat,by omega⟩
 have hi:i<q.put.length:=by omega
 obtain⟨k1,k2,k3,_⟩:=JbY h.valid hi
 have:=k1.1 h3
 exact⟨i,rfl,hi,by omega,by omega,h4,by rw[←h.sz];exact h5⟩
theorem JcY{q:QZ}{n i:Nat}{v:Int}(h:Z1 q n)(hi:i<q.put.length)(h1:JA q.put i=0)(h2:JA q.task.given i≤0)(hv:1≤v∧v≤n):UR q i v:=by
 obtain⟨k1,k2,k3,_⟩:=JbY h.valid hi
 exact⟨by omega,by omega,k1.2 (by omega),hv.1,by rw[h.sz];exact hv.2⟩
theorem Z1.put{q:QZ}{n i:Nat}{v:Int}(h:Z1 q n)(hi:i<q.put.length)(h1:JA q.put i=0)(h2:JA q.task.given i≤0)(hv:1≤v∧v≤n):Z1 ⟨q.task,q.put.set i v,q.moves++[(i:Int)]⟩ n:=by
 have hs:∀k:Nat,JA (q.put.set i v) k=if k=i then v else JA q.put k:=fun k=>Za _ _ _ _ hi
 have hnot:(i:Int)∉q.moves:=fun hm=>by
  have:=(QB.1 (h.ok.2.1 _ hm)).2.2
  omega
 refine⟨h.pz,h.pv,h.sz,h.gv,⟨by rw[Jo];exact h.pt.len,fun k hk=> ?_⟩,by rw[Jo];exact h.ln, ?_, ?_, ?_⟩
 · rw[Jo]at hk
   show 0≤JA (q.put.set i v) k∧JA (q.put.set i v) k≤n
   rw[hs]
   split
   · omega
   · exact h.pt.val k hk
 · exact Qo.2 ⟨h.ok.1,by simp,fun a ha b hb he=>by
    rw[List.mem_singleton]at hb
    subst hb
    exact hnot (he▸ha)⟩
 · intro c hc
   show c∈ZF (q.put.set i v)
   rcases J2.1 hc with hc|hc
   · obtain⟨k1,k2,k3⟩:=QB.1 (h.ok.2.1 c hc)
     obtain⟨k,rfl⟩:∃k:Nat,c=k:=⟨c.toNat,by omega⟩
     refine QB.2 ⟨k1,by rw[Jo];exact k2, ?_⟩
     rw[hs,if_neg (fun(he:k=i)=>hnot (by rw[←he];exact hc))]
     exact k3
   · rw[List.mem_singleton]at hc
     subst hc
     refine QB.2 ⟨by omega,by rw[Jo];omega, ?_⟩
     rw[hs,if_pos rfl]
     omega
 · intro c hc
   obtain⟨k1,k2,k3⟩:=QB.1 (show c∈ZF (q.put.set i v)from hc)
   obtain⟨k,rfl⟩:∃k:Nat,c=k:=⟨c.toNat,by omega⟩
   rw[Jo]at k2
   rw[hs]at k3
   by_cases hk:k=i
   · subst hk
     exact⟨by simp,h2⟩
   · rw[if_neg hk]at k3
     obtain⟨m1,m2⟩:=h.ok.2.2 k (QB.2 ⟨k1,k2,k3⟩)
     exact⟨by simp[m1],m2⟩
theorem Jiy(ms:List Int)(i:Int):JA (ms++[i]) (((ms++[i]).length:Int) -1)=i:=by
 rw[show(((ms++[i]).length:Int) -1)=((ms.length:Nat):Int) by simp]
 rw[Qt (by simp;omega)]
 simp
theorem K3{q:QZ}{n:Nat}{c v:Int}(h:Z1 q n)(ok:UR q c v):Zt q c v=⟨q.task,q.put.set c.toNat v,q.moves++[c]⟩∧Zp q c v=true:=by
 unfold Zt Zp
 rw[h.valid,if_pos rfl,if_pos ok]
 exact⟨rfl,by simp[ok]⟩
theorem Jep{q:QZ}{n:Nat}{c v:Int}(h:Z1 q n)(ok:¬UR q c v):Zt q c v=q∧Zp q c v=false:=by
 unfold Zt Zp
 rw[h.valid,if_pos rfl,if_neg ok]
 exact⟨rfl,by simp[ok]⟩
theorem Jgp{q:QZ}{n:Nat}{c v:Int}(h:Z1 q n):Z1 (Zt q c v) n:=by
 by_cases ok:UR q c v
 · obtain⟨i,rfl,hi,h1,h2,h3,h4⟩:=JcZ h ok
   rw[(K3 h ok).1,Int.toNat_natCast]
   exact h.put hi h1 (by omega) ⟨h3,h4⟩
 · rw[(Jep h ok).1]
   exact h
theorem N2{q:QZ}{n:Nat}(h:Z1 q n)(hm:q.moves≠[]):Z1 (QD q) n∧∃i:Nat,JA q.moves ((q.moves.length:Int) -1)=i∧i<q.put.length∧Zt (QD q) i (JA q.put i)=q∧Zp (QD q) i (JA q.put i)=true∧(QD q).moves.length+1=q.moves.length:=by
 rcases List.eq_nil_or_concat q.moves with he|⟨ms,c,he⟩
 · exact absurd he hm
 rw[List.concat_eq_append]at he
 have hl:JA q.moves ((q.moves.length:Int) -1)=c:=by rw[he];exact Jiy _ _
 have hc:c∈q.moves:=by rw[he];simp
 obtain⟨k1,k2,k3⟩:=QB.1 (h.ok.2.1 c hc)
 obtain⟨i,rfl⟩:∃i:Nat,c=i:=⟨c.toNat,by omega⟩
 have hi:i<q.put.length:=by omega
 have hgv:=(h.ok.2.2 (i:Int) (QB.2 ⟨k1,k2,k3⟩)).2
 have hnd:=h.ok.1
 rw[he]at hnd
 obtain⟨n1,_,n3⟩:=Qo.1 hnd
 have hnot:(i:Int)∉ms:=fun hx=>n3 _ hx _ (by simp) rfl
 have hb:QD q=⟨q.task,q.put.set i 0,ms⟩:=by
  unfold QD
  rw[if_pos h.valid,if_neg hm,hl,Int.toNat_natCast,he]
  simp
 have hs:∀k:Nat,JA (q.put.set i 0) k=if k=i then 0 else JA q.put k:=fun k=>Za _ _ _ _ hi
 have hN:Z1 (QD q) n:=by
  rw[hb]
  refine⟨h.pz,h.pv,h.sz,h.gv,⟨by rw[Jo];exact h.pt.len,fun k hk=> ?_⟩,by rw[Jo];exact h.ln,n1, ?_, ?_⟩
  · rw[Jo]at hk
    show 0≤JA (q.put.set i 0) k∧JA (q.put.set i 0) k≤n
    rw[hs]
    split
    · omega
    · exact h.pt.val k hk
  · intro c hc
    show c∈ZF (q.put.set i 0)
    have hc:c∈ms:=hc
    obtain⟨j1,j2,j3⟩:=QB.1 (h.ok.2.1 c (by rw[he];simp[hc]))
    obtain⟨k,rfl⟩:∃k:Nat,c=k:=⟨c.toNat,by omega⟩
    refine QB.2 ⟨j1,by rw[Jo];exact j2, ?_⟩
    rw[hs,if_neg (fun(he:k=i)=>hnot (by rw[←he];exact hc))]
    exact j3
  · intro c hc
    obtain⟨j1,j2,j3⟩:=QB.1 (show c∈ZF (q.put.set i 0)from hc)
    obtain⟨k,rfl⟩:∃k:Nat,c=k:=⟨c.toNat,by omega⟩
    rw[Jo]at j2
    rw[hs]at j3
    by_cases hk:k=i
    · rw[if_pos hk]at j3
      omega
    · rw[if_neg hk]at j3
      obtain⟨m1,m2⟩:=h.ok.2.2 k (QB.2 ⟨j1,j2,j3⟩)
      rw[he]at m1
      refine⟨?_,m2⟩
      rcases J2.1 m1 with m1|m1
      · exact m1
      · rw[List.mem_singleton]at m1
        omega
 have hv:=h.pt.val i hi
 have ok:UR (QD q) i (JA q.put i):=by
  refine JcY hN ?_ ?_ ?_ ⟨by omega,hv.2⟩
  · rw[hb];show i<(q.put.set i 0).length;rw[Jo];exact hi
  · rw[hb];show JA (q.put.set i 0) i=0;rw[hs,if_pos rfl]
  · rw[hb];exact hgv
 refine⟨hN,i,hl,hi, ?_,(K3 hN ok).2,by rw[hb,he];simp⟩
 rw[(K3 hN ok).1,hb,Int.toNat_natCast]
 show QZ.mk q.task ((q.put.set i 0).set i (JA q.put i)) (ms++[(i:Int)])=q
 rw[List.set_set,GS rfl,←he]
theorem Je0{q:QZ}{n:Nat}(h:Z1 q n):Z1 (QD q) n:=by
 by_cases hm:q.moves=[]
 · have:QD q=q:=by unfold QD;rw[if_pos h.valid,if_pos hm]
   rw[this]
   exact h
 · exact(N2 h hm).1
theorem JfW{q:QZ}{n:Nat}(h:Z1 q n)(hm:q.moves=[]):QD q=q∧QK q=false:=by
 unfold QD QK
 rw[if_pos h.valid,if_pos hm]
 exact⟨rfl,by simp[hm]⟩
theorem Jmz{q:QZ}{n:Nat}(h:Z1 q n)(hm:q.moves≠[]):QK q=true:=by
 unfold QK
 rw[h.valid]
 simp[hm]
end Go.Lg
