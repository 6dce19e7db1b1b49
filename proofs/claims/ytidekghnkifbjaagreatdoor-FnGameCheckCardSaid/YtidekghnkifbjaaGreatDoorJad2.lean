/- GpMK, GpTB, GpMN, GpTF, GpRD, GpSP, cut to what is needed. -/
import Derived.Test.YtidekghnkifbjaaGreatDoorJad0
import Derived.Test.YtidekghnkifbjaaGreatDoorJab3
import Derived.Test.YtidekghnkifbjaaGreatDoorJad1
import Derived.Test.YtidekghnkifbjaaGreatDoorJab9
import Derived.Test.YtidekghnkifbjaaGreatDoorJac5
import Derived.Test.YtidekghnkifbjaaGreatDoorJac2
import Derived.Test.YtidekghnkifbjaaGreatDoorJab1
import Derived.Test.YtidekghnkifbjaaGreatDoorJac7
import Derived.Test.YtidekghnkifbjaaGreatDoorJac6
import Derived.Test.YtidekghnkifbjaaGreatDoorJab8
import Derived.Test.YtidekghnkifbjaaGreatDoorJab0
import Derived.Test.YtidekghnkifbjaaGreatDoorJac4
import Derived.Test.YtidekghnkifbjaaGreatDoorJab2
import Derived.Test.YtidekghnkifbjaaGreatDoorJab5
import Derived.Test.YtidekghnkifbjaaGreatDoorJab4
open List renaming cons_append → Ja, nil_append → Jc, replicate → Jd, length_cons → Je, length_nil → Jf, length_set → Jo, mem_append → JZ, mapM_cons → J3, nodup_append → Qm, length_map → Qr, mapM_nil → QC, sum_cons → Vy
open Nat renaming reduceAdd→zA,reduceMul→zM,reduceSub→zS,reduceEqDiff→zE,reduceLeDiff→zL
set_option linter.unusedSimpArgs false
set_option linter.unusedVariables false
set_option maxRecDepth 100000
namespace Go.Lg
open Go.Proofs
def WG(gv:List Int)(ms:List Nat):Option Nat:=(List.range ms.length).find? fun(k:Nat)=>decide (Zi (QH ms k)≠0∧JA gv k=0)
theorem FA{gv:List Int}{ms:List Nat}{k:Nat}(hk:k<ms.length)(h:Zi (QH ms k)≠0∧JA gv k=0)(hno:∀j:Nat,j<k→¬(Zi (QH ms j)≠0∧JA gv j=0)):WG gv ms=some k:=by
 unfold WG
 rw[List.find?_eq_some_iff_getElem]
 exact⟨decide_eq_true h,k,by simpa using hk,by simp,fun j hj=>by
  simp only[List.getElem_range,Bool.not_eq_true',decide_eq_false_iff_not]
  exact hno j hj⟩
theorem Kl{gv:List Int}{ms:List Nat}(hno:∀j:Nat,j<ms.length→¬(Zi (QH ms j)≠0∧JA gv j=0)):WG gv ms=none:=by
 unfold WG
 rw[List.find?_eq_none]
 intro j hj
 rw[decide_eq_true_eq]
 exact hno j (List.mem_range.1 hj)
def WK(q:QV):Nat→List Nat→Option Hnt
 |0,_=>none
 |f+1,ms=>if Z1 q ms=0 then none else match WG q.given (Uh q (Z1 q ms) ms)with
  |some k=>some ⟨Z1 q ms,k,Zi (QH (Uh q (Z1 q ms) ms) k)⟩
  |none=>WK q f (Uh q (Z1 q ms) ms)
theorem JiC{q:QV}{f:Nat}{ms:List Nat}(h:Z1 q ms=0):WK q f ms=none:=by
 cases f with
 |zero=>rfl
 |succ f=>unfold WK;rw[if_pos h]
def Wx(p:QV)(xs:List Int):Bool:=Jy p&&(J8 xs p.size&&QK p xs p.size.toNat)
def WJ(p:QV)(xs:List Int):Option Hnt:=if Wx p xs=true then WK (QX p xs) 1000 (Zz (QX p xs))else none
def UK(p:QV)(xs:List Int):Hnt:=(WJ p xs).getD ⟨0,0,0⟩
def Vo(p:QV)(xs:List Int):Bool:=(WJ p xs).isSome
theorem Gl:∀(l:List Nat) (b:Nat),(∀x∈l,x≤b)→l.sum≤b*l.length
 |[],b,_=>by simp
 |x::l,b,h=>by
  have h1:=Gl l b fun y hy=>h y (by simp[hy])
  have h2:=h x (by simp)
  simp only[Vy,Je,Nat.mul_add,Nat.mul_one]
  omega
theorem Xv.sum{ms:List Nat}{n:Nat}(hn:n=2∨n=3∨n=4)(h:Xv ms n):ms.sum≤480:=by
 have h1:=Gl ms 30 fun x hx=>by have:=(h.val x hx).1;have:=Jcs hn;omega
 have h2:ms.length≤16:=by rw[h.len];rcases hn with rfl|rfl|rfl<;>omega
 omega
theorem YS{p:QV}{n:Nat}{xs:List Int}(hp:Ub p n)(hv:Jy p=true)(hg:Q9 xs n)(ha:Q9 p.given n):Jy (QX p xs)=true∧Ub (QX p xs) n∧Q9 (QX p xs).given n:=by
 have hw:Q9 (QX p xs).given n:=WV ha hg
 have h1:Jy (QX p xs)=true:=by
  simp only[Jy,Bool.and_eq_true,decide_eq_true_eq]at hv⊢
  refine⟨?_,hv.2⟩
  have:=hw.valid hp.hn
  rw[←hp.size]at this
  exact this
 refine⟨h1, ?_,hw⟩
 have:=(Ub.of h1).1
 have e:(QX p xs).size.toNat=n:=by show p.size.toNat=n;rw[hp.size];rfl
 rwa [e]at this
theorem Xt{p:QV}{xs:List Int}(h:Wx p xs=true):∃n:Nat,p.size=n∧Ub p n∧Jy p=true∧Q9 xs n∧Q9 p.given n∧QK p xs n=true∧clear p xs=true∧p.given.length=xs.length∧4≤xs.length∧xs.length≤16:=by
 simp only[Wx,Bool.and_eq_true]at h
 obtain⟨h1,h2,h3⟩:=h
 obtain⟨hp,hg,ha,hlen,hl4,hl16⟩:=W4 h1 h2
 refine⟨p.size.toNat,(Ub.of h1).2.symm,hp,h1,hg,ha,h3, ?_,hlen,hl4,hl16⟩
 simp only[QK,Bool.and_eq_true]at h3
 exact h3.1
theorem Kw(xs:List Int)(n:Int)(hx:xs.length≤2^40):JW Tryz.prog 93 [QG xs,int n] (bool (J8 xs n&& !UB xs n.toNat)):=by
 cases h:J8 xs n with
 |true=>
  have hb:=QA h
  obtain⟨m,rfl⟩:∃m:Nat,n=m:=⟨n.toNat,by omega⟩
  have hn:m=2∨m=3∨m=4:=by omega
  have:=Kv hn xs (Q9.of hn h)
  rw[Int.toNat_natCast,Bool.true_and]
  exact this
 |false=>
  refine Jn.cw (c:=_) Tryz.func93 rfl (n:=47) Tryz.ntmps93 (rs:=[.tmp 4]) rfl ?_
  simp only[Je,Jf,zA,zS,Jd,Ja,Jc]
  simp(maxSteps:=999999)(disch:=omega)only[go_sem,zA,zM,zS,zE,zL]
  first|refine JY.rd (Zb xs n (by omega)) (⟨_,Tryz.func54,rfl,rfl⟩:Jh Tryz.prog 54) rfl rfl rfl rfl ?_|refine JM.rd (Zb xs n (by omega)) (⟨_,Tryz.func54,rfl,rfl⟩:Jh Tryz.prog 54) rfl rfl rfl rfl ?_
  simp(maxSteps:=999999)(disch:=omega)only[go_sem,zA,zM,zS,zE,zL]
  ((first|(with_reducible first|refine Jl ?_ ?_|refine Jj ?_ ?_|refine Jp ?_ ?_)|refine Jr ?_ ?_)<;>intro c1)
  · exfalso;rw[h]at c1;cases c1
  · simp(maxSteps:=999999)(disch:=omega)only[go_sem,zA,zM,zS,zE,zL]
    rfl
theorem UI(p:QV)(xs:List Int)(hx:YR p)(hl:xs.length≤2^40):JW Tryz.prog 50 [aP p,QG xs] (bool (Wx p xs)):=by
 by_cases h:Jy p=true∧J8 xs p.size=true
 · obtain⟨hp,hg,ha,_⟩:=W4 h.1 h.2
   have:=Ky hp h.1 xs hg
   unfold Wx
   rw[h.1,h.2,Bool.true_and,Bool.true_and]
   exact this
 · have e:Wx p xs=false:=by
    unfold Wx
    cases h1:Jy p
    · rfl
    · cases h2:J8 xs p.size
      · rfl
      · exact absurd ⟨h1,h2⟩ h
   rw[e]
   refine Jn.cw (c:=_) Tryz.func50 rfl (n:=60) Tryz.ntmps50 (rs:=[.tmp 4]) rfl ?_
   simp only[Je,Jf,zA,zS,Jd,Ja,Jc]
   simp(maxSteps:=999999)(disch:=omega)only[go_sem,zA,zM,zS,zE,zL]
   intro g
   first|refine JY.rd (Qb p hx) (⟨_,Tryz.func41,rfl,rfl⟩:Jh Tryz.prog 41) rfl rfl rfl rfl ?_|refine JM.rd (Qb p hx) (⟨_,Tryz.func41,rfl,rfl⟩:Jh Tryz.prog 41) rfl rfl rfl rfl ?_
   simp(maxSteps:=999999)(disch:=omega)only[go_sem,zA,zM,zS,zE,zL]
   ((with_reducible first|refine JH ?_ ?_|refine JD ?_ ?_|refine JP ?_ ?_|refine Jv ?_ ?_|refine JF ?_ ?_|refine JG ?_ ?_|refine JB ?_ ?_|refine JC ?_ ?_|refine JN ?_ ?_|refine JO ?_ ?_|refine Jw ?_ ?_|refine Jx ?_ ?_)<;>intro c1<;>simp(maxSteps:=999999)(disch:=omega)only[go_sem,zA,zM,zS,zE,zL,c1])
   have c2:(J8 xs p.size&& !UB xs p.size.toNat)=false:=by
    cases h2:J8 xs p.size
    · rfl
    · exact absurd ⟨c1,h2⟩ h
   first|refine JY.rd (Kw xs p.size hl) (⟨_,Tryz.func93,rfl,rfl⟩:Jh Tryz.prog 93) rfl rfl rfl rfl ?_|refine JM.rd (Kw xs p.size hl) (⟨_,Tryz.func93,rfl,rfl⟩:Jh Tryz.prog 93) rfl rfl rfl rfl ?_
   simp(maxSteps:=999999)(disch:=omega)only[go_sem,zA,zM,zS,zE,zL]
   rw[c2]
   simp(maxSteps:=999999)(disch:=omega)only[go_sem,zA,zM,zS,zE,zL]
theorem K7(p:QV)(hx:YR p):JW Tryz.prog 78 [aP p] (aP p):=
 JW.ice (Kq p hx) fun v H' ⟨c,r,S1,S2,e,h1,h2,_⟩=>by
  subst e
  have e1:∀x:Int,frzC H' (.f (.int .i64 x))=some (.f (.int .i64 x)):=fun _=>rfl
  have e2:frzC H' r=some (.f (Va eR p.rules)):=by
   rcases h2 with⟨rfl,h3,_⟩|h2
   · rw[h3];rfl
   · exact h2.frzC
  show(([_,_,_]:List CV).mapM (frzC H')).map AV.agg=_
  simp only[J3,QC,e1,e2,h1.frzC,Option.bind_eq_bind,Option.pure_def,Option.bind_some,Option.map_some]
set_option maxHeartbeats 4000000 in
theorem By(p:QV)(xs:List Int)(hx:YR p)(hl:xs.length≤2^40):JW Tryz.prog 33 [aP p,QG xs] (.tup [aH (UK p xs),bool (Vo p xs)]):=by
 refine Jn.cw (c:=_) Tryz.func33 rfl (n:=64) Tryz.ntmps33 (rs:=[.cell 4 59, .tmp 5]) rfl ?_
 simp only[Je,Jf,zA,zS,Jd,Ja,Jc]
 simp(maxSteps:=999999)(disch:=omega)only[go_sem,zA,zM,zS,zE,zL]
 intro g0 g4
 first|refine JY.rd (UI p xs hx hl) (⟨_,Tryz.func50,rfl,rfl⟩:Jh Tryz.prog 50) rfl rfl rfl rfl ?_|refine JM.rd (UI p xs hx hl) (⟨_,Tryz.func50,rfl,rfl⟩:Jh Tryz.prog 50) rfl rfl rfl rfl ?_
 simp(maxSteps:=999999)(disch:=omega)only[go_sem,zA,zM,zS,zE,zL]
 cases hf:Wx p xs with
 |false=>
  have e:WJ p xs=none:=by unfold WJ;rw[if_neg (by rw[hf];simp)]
  have e1:UK p xs=⟨0,0,0⟩:=by unfold UK;rw[e];rfl
  have e2:Vo p xs=false:=by unfold Vo;rw[e];rfl
  rw[e1,e2]
  simp(maxSteps:=999999)(disch:=omega)only[go_sem,zA,zM,zS,zE,zL]
 |true=>
  obtain⟨n,hz,hp,hv,hg,ha,hfl,hcl,hlen,hl4,hl16⟩:=Xt hf
  obtain⟨qv,qp,qg⟩:=YS hp hv hg ha
  have hbg:=XE p xs hlen.symm hl16 (fun k hk=>⟨(hg.val k hk).1,(ha.val k (by omega)).1⟩)
  rw[if_pos hcl,hcl]at hbg
  have hO:WJ p xs=WK (QX p xs) 1000 (Zz (QX p xs)):=by unfold WJ;rw[if_pos hf]
  simp(maxSteps:=999999)(disch:=omega)only[go_sem,zA,zM,zS,zE,zL]
  first|refine JY.mk (K7 p hx) (⟨_,Tryz.func78,rfl,rfl⟩:Jh Tryz.prog 78) rfl rfl rfl rfl rfl ?_|refine JM.mk (K7 p hx) (⟨_,Tryz.func78,rfl,rfl⟩:Jh Tryz.prog 78) rfl rfl rfl rfl rfl ?_
  simp(maxSteps:=999999)(disch:=omega)only[go_sem,zA,zM,zS,zE,zL]
  intro g6
  first|refine JY.mk (hbg) (⟨_,Tryz.func37,rfl,rfl⟩:Jh Tryz.prog 37) rfl rfl rfl rfl rfl ?_|refine JM.mk (hbg) (⟨_,Tryz.func37,rfl,rfl⟩:Jh Tryz.prog 37) rfl rfl rfl rfl rfl ?_
  simp(maxSteps:=999999)(disch:=omega)only[go_sem,zA,zM,zS,zE,zL]
  first|refine JY.mk (Ku qp qv qg) (⟨_,Tryz.func79,rfl,rfl⟩:Jh Tryz.prog 79) rfl rfl rfl rfl rfl ?_|refine JM.mk (Ku qp qv qg) (⟨_,Tryz.func79,rfl,rfl⟩:Jh Tryz.prog 79) rfl rfl rfl rfl rfl ?_
  simp(maxSteps:=999999)(disch:=omega)only[go_sem,zA,zM,zS,zE,zL]
  have hsz:(QX p xs).size=n:=hz
  have hgl:(QX p xs).given.length=n*n:=qg.len
  have hsq:4≤n*n∧n*n≤16:=by rcases hp.hn with rfl|rfl|rfl<;>omega
  refine Qv (fun(f:Nat) (b:List Nat)=>f) (fun f b=>Xv b n∧WK (QX p xs) f b=WJ p xs∧b.sum<f) (fun f b=>[.a, .a, .a, .a, .k, .a, .k, .p (QG (JR b)), .a, .a, .a, .a, .a, .a, .a, .a, .a, .a, .a, .a, .a, .a, .a, .a, .a, .a, .a, .a, .a, .a, .a, .a, .a, .a, .a, .a, .a, .a, .a, .a, .a, .a, .a, .a, .a, .a, .a, .a, .a, .a, .a, .a, .a, .a, .a, .a, .a, .a, .a, .a, .a, .a, .a, .a]) (fun _ _=>[some ⟨g0,1,cP p⟩,some ⟨g4,3,[.f (.int .i64 0), .f (.int .i64 0), .f (.int .i64 0)]⟩,some ⟨g6,3,cP (QX p xs)⟩]) 1000 (Zz (QX p xs)) ⟨KB qp qg,hO.symm,by have:=(KB qp qg).sum hp.hn;omega⟩ (by simp(maxSteps:=999999)(disch:=omega)only[go_sem,zA,zM,zS,zE,zL]) (J0.refl _) ?_
  rintro f ms ⟨hm,hO,hsum⟩
  obtain⟨f,rfl⟩:∃f',f=f'+1:=⟨f -1,by omega⟩
  have hnr:=NW qp qv ms hm
  have hok:=KH (p:=QX p xs) (t:=Z1 (QX p xs) ms) hm
  have hle4:=Jia (QX p xs) ms
  have hdec:=fun h=>JcC (p:=QX p xs) hm (Jh9 (p:=QX p xs) (ms:=ms) h)
  have hOu:WK (QX p xs) (f+1) ms=if Z1 (QX p xs) ms=0 then none else match WG (QX p xs).given (Uh (QX p xs) (Z1 (QX p xs) ms) ms)with
   |some k=>some ⟨Z1 (QX p xs) ms,k,Zi (QH (Uh (QX p xs) (Z1 (QX p xs) ms) ms) k)⟩
   |none=>WK (QX p xs) f (Uh (QX p xs) (Z1 (QX p xs) ms) ms):=rfl
  rw[hO]at hOu
  generalize hq:QX p xs=q at*
  generalize Z1 q ms=t at*
  generalize Uh q t ms=ms' at*
  simp(maxSteps:=999999)(disch:=omega)only[go_sem,zA,zM,zS,zE,zL]
  first|refine JY.mk (hnr) (⟨_,Tryz.func80,rfl,rfl⟩:Jh Tryz.prog 80) rfl rfl rfl rfl rfl ?_|refine JM.mk (hnr) (⟨_,Tryz.func80,rfl,rfl⟩:Jh Tryz.prog 80) rfl rfl rfl rfl rfl ?_
  simp(maxSteps:=999999)(disch:=omega)only[go_sem,zA,zM,zS,zE,zL]
  ((first|(with_reducible first|refine Jl ?_ ?_|refine Jj ?_ ?_|refine Jp ?_ ?_)|refine Jr ?_ ?_)<;>intro h1)
  · have h1:t=0:=by omega
    rw[if_pos h1]at hOu
    have e1:UK p xs=⟨0,0,0⟩:=by unfold UK;rw[hOu];rfl
    have e2:Vo p xs=false:=by unfold Vo;rw[hOu];rfl
    rw[e1,e2]
    simp(maxSteps:=999999)(disch:=omega)only[go_sem,zA,zM,zS,zE,zL]
  have h1:t≠0:=fun h=>h1 (by rw[h];rfl)
  rw[if_neg h1]at hOu
  rw[if_neg h1]
  have hml:(JR ms').length=n*n:=by rw[Qp];exact hok.len
  simp(maxSteps:=999999)(disch:=omega)only[go_sem,zA,zM,zS,zE,zL]
  rw[hml]
  refine JT (fun k:Nat=>n*n -k) (fun k=>k≤n*n∧∀j:Nat,j<k→¬(Zi (QH ms' j)≠0∧JA q.given j=0)) (fun k=>[.a, .a, .a, .a, .k, .a, .k, .k, .a, .k, .a, .a, .a, .a, .a, .a, .a, .a, .a, .a, .a, .a, .a, .a, .a, .a, .a, .a, .a, .a, .a, .a, .a, .a, .a, .a, .a, .a, .a, .a, .k, .k, .p (int k), .a, .a, .a, .a, .a, .a, .a, .a, .a, .a, .a, .a, .a, .a, .a, .a, .a, .a, .a, .a, .a]) (fun _=>[some ⟨g0,1,cP p⟩,some ⟨g4,3,[.f (.int .i64 0), .f (.int .i64 0), .f (.int .i64 0)]⟩,some ⟨g6,3,cP q⟩]) 0 ⟨Nat.zero_le _,fun j hj=>absurd hj (Nat.not_lt_zero _)⟩ (by simp(maxSteps:=999999)(disch:=omega)only[go_sem,zA,zM,zS,zE,zL];rfl) (J0.refl _) ?_
  rintro k ⟨hk,hno⟩
  simp(maxSteps:=999999)(disch:=omega)only[go_sem,zA,zM,zS,zE,zL]
  ((first|(with_reducible first|refine Jl ?_ ?_|refine Jj ?_ ?_|refine Jp ?_ ?_)|refine Jr ?_ ?_)<;>intro h2)
  · have h2:k<n*n:=by omega
    have hmk:=hok.lt hp.hn k
    have hnk:=Za ms' k
    have hgo:¬(Zi (QH ms' k)≠0∧JA q.given k=0)→∀j:Nat,j<k+1→¬(Zi (QH ms' j)≠0∧JA q.given j=0):=fun h j hj=>by
     by_cases hjk:j=k
     · rw[hjk];exact h
     · exact hno j (by omega)
    simp(maxSteps:=999999)(disch:=omega)only[go_sem,zA,zM,zS,zE,zL,hnk]
    first|refine JY.rd (Wn (QH ms' k) hmk.1) (⟨_,Tryz.func81,rfl,rfl⟩:Jh Tryz.prog 81) rfl rfl rfl rfl ?_|refine JM.rd (Wn (QH ms' k) hmk.1) (⟨_,Tryz.func81,rfl,rfl⟩:Jh Tryz.prog 81) rfl rfl rfl rfl ?_
    simp(maxSteps:=999999)(disch:=omega)only[go_sem,zA,zM,zS,zE,zL]
    ((with_reducible first|refine JH ?_ ?_|refine JD ?_ ?_|refine JP ?_ ?_|refine Jv ?_ ?_|refine JF ?_ ?_|refine JG ?_ ?_|refine JB ?_ ?_|refine JC ?_ ?_|refine JN ?_ ?_|refine JO ?_ ?_|refine Jw ?_ ?_|refine Jx ?_ ?_)<;>intro h3<;>simp(maxSteps:=999999)(disch:=omega)only[go_sem,zA,zM,zS,zE,zL,h3])
    · ((first|(with_reducible first|refine Jl ?_ ?_|refine Jj ?_ ?_|refine Jp ?_ ?_)|refine Jr ?_ ?_)<;>intro h4)
      · have hfs:=FA (gv:=q.given) (by rw[hok.len];exact h2) ⟨by omega,h4⟩ hno
        rw[hfs]at hOu
        have e1:UK p xs=⟨t,k,Zi (QH ms' k)⟩:=by unfold UK;rw[hOu];rfl
        have e2:Vo p xs=true:=by unfold Vo;rw[hOu];rfl
        rw[e1,e2]
        simp(maxSteps:=999999)(disch:=omega)only[go_sem,zA,zM,zS,zE,zL]
      · simp(maxSteps:=999999)(disch:=omega)only[go_sem,zA,zM,zS,zE,zL]
        exact⟨k+1,⟨⟨by omega,hgo fun h=>h4 h.2⟩,by omega⟩,by push_cast;rfl,J0.refl _⟩
    · exact⟨k+1,⟨⟨by omega,hgo fun h=>h3 (by omega)⟩,by omega⟩,by push_cast;rfl,J0.refl _⟩
  · have hke:k=n*n:=by omega
    have hfn:=Kl (gv:=q.given) (ms:=ms') fun j hj=>hno j (by have:=hok.len;omega)
    rw[hfn]at hOu
    simp(maxSteps:=999999)(disch:=omega)only[go_sem,zA,zM,zS,zE,zL]
    exact⟨f,ms',⟨⟨hok,hOu.symm,by have:=hdec h1;omega⟩,by omega⟩,rfl,J0.refl _⟩
set_option maxHeartbeats 4000000 in
theorem Xx(p:QV)(xs:List Int)(hx:YR p)(hl:xs.length≤2^40):JW Tryz.prog 74 [aP p,QG xs] (.tup [aH (UK p xs),bool (Vo p xs)]):=by
 refine Jn.cw (c:=_) Tryz.func74 rfl (n:=65) Tryz.ntmps74 (rs:=[.cell 4 59, .tmp 5]) rfl ?_
 simp only[Je,Jf,zA,zS,Jd,Ja,Jc]
 simp(maxSteps:=999999)(disch:=omega)only[go_sem,zA,zM,zS,zE,zL]
 intro g0 g4
 first|refine JY.rd (ZQ p xs hx hl) (⟨_,Tryz.func103,rfl,rfl⟩:Jh Tryz.prog 103) rfl rfl rfl rfl ?_|refine JM.rd (ZQ p xs hx hl) (⟨_,Tryz.func103,rfl,rfl⟩:Jh Tryz.prog 103) rfl rfl rfl rfl ?_
 simp(maxSteps:=999999)(disch:=omega)only[go_sem,zA,zM,zS,zE,zL]
 rw[show(Jy p&&(J8 xs p.size&&QK p xs p.size.toNat))=Wx p xs from rfl]
 cases hf:Wx p xs with
 |false=>
  have e:WJ p xs=none:=by unfold WJ;rw[if_neg (by rw[hf];simp)]
  have e1:UK p xs=⟨0,0,0⟩:=by unfold UK;rw[e];rfl
  have e2:Vo p xs=false:=by unfold Vo;rw[e];rfl
  rw[e1,e2]
  simp(maxSteps:=999999)(disch:=omega)only[go_sem,zA,zM,zS,zE,zL]
 |true=>
  obtain⟨n,hz,hp,hv,hg,ha,hfl,hcl,hlen,hl4,hl16⟩:=Xt hf
  obtain⟨qv,qp,qg⟩:=YS hp hv hg ha
  have hO:WJ p xs=WK (QX p xs) 1000 (Zz (QX p xs)):=by unfold WJ;rw[if_pos hf]
  simp(maxSteps:=999999)(disch:=omega)only[go_sem,zA,zM,zS,zE,zL]
  first|refine JY.mk (Xp p xs (by omega) (by omega) (by omega)) (⟨_,Tryz.func104,rfl,rfl⟩:Jh Tryz.prog 104) rfl rfl rfl rfl rfl ?_|refine JM.mk (Xp p xs (by omega) (by omega) (by omega)) (⟨_,Tryz.func104,rfl,rfl⟩:Jh Tryz.prog 104) rfl rfl rfl rfl rfl ?_
  simp(maxSteps:=999999)(disch:=omega)only[go_sem,zA,zM,zS,zE,zL]
  intro g6
  first|refine JY.mk (YB qp qv qg) (⟨_,Tryz.func105,rfl,rfl⟩:Jh Tryz.prog 105) rfl rfl rfl rfl rfl ?_|refine JM.mk (YB qp qv qg) (⟨_,Tryz.func105,rfl,rfl⟩:Jh Tryz.prog 105) rfl rfl rfl rfl rfl ?_
  simp(maxSteps:=999999)(disch:=omega)only[go_sem,zA,zM,zS,zE,zL]
  have hsz:(QX p xs).size=n:=hz
  have hgl:(QX p xs).given.length=n*n:=qg.len
  have hsq:4≤n*n∧n*n≤16:=by rcases hp.hn with rfl|rfl|rfl<;>omega
  have hst:WG (QX p xs).given (Zz (QX p xs))=none:=by
   refine Kl fun j hj ⟨h1,h2⟩=> ?_
   have hjl:j<(QX p xs).given.length:=by unfold Zz at hj;rw[Qr]at hj;exact hj
   rw[BF hjl,h2,if_neg (by omega)]at h1
   have hz2:(QX p xs).size.toNat=n:=by rw[hsz];rfl
   rw[hz2]at h1
   have hn:=hp.hn
   rcases hn with rfl|rfl|rfl<;>exact h1 rfl
  have hm0:=KB qp qg
  generalize Zz (QX p xs)=s0 at hO hst hm0⊢
  generalize hq:QX p xs=q at*
  have hO0:WJ p xs=match WG q.given s0 with
   |some k=>some ⟨0,k,Zi (QH s0 k)⟩
   |none=>WK q 1000 s0:=by rw[hst];exact hO
  have hs0:s0.sum<1000:=by have:=hm0.sum hp.hn;omega
  refine Qv (fun(i:Nat×Nat) (b:List Nat×Nat)=>6*i.1+(5 -i.2)) (fun i b=>Xv b.1 n∧(WJ p xs=match WG q.given b.1 with
   |some k=>some ⟨b.2,k,Zi (QH b.1 k)⟩
   |none=>WK q i.1 b.1)∧b.1.sum<i.1∧(1≤i.2∧i.2≤5)∧(∀u,1≤u→u<i.2→Uh q u b.1=b.1)∧(1<i.2→WG q.given b.1=none)) (fun i b=>[.a, .a, .a, .a, .k, .a, .k, .p (QG (JR b.1)), .p (int b.2), .p (int i.2), .a, .a, .a, .a, .a, .a, .a, .a, .a, .a, .a, .a, .a, .a, .a, .a, .a, .a, .a, .a, .a, .a, .a, .a, .a, .a, .a, .a, .a, .a, .a, .a, .a, .a, .a, .a, .a, .a, .a, .a, .a, .a, .a, .a, .a, .a, .a, .a, .a, .a, .a, .a, .a, .a, .a]) (fun _ _=>[some ⟨g0,1,cP p⟩,some ⟨g4,3,[.f (.int .i64 0), .f (.int .i64 0), .f (.int .i64 0)]⟩,some ⟨g6,3,cP q⟩]) (1000,1) (s0,0) ⟨hm0,hO0,hs0,⟨Nat.le_refl _,by show 1≤5;omega⟩,fun u h1 h2=>by have h2:u<1:=h2;omega,fun _=>hst⟩ (by simp(maxSteps:=999999)(disch:=omega)only[go_sem,zA,zM,zS,zE,zL];first|rfl|exact⟨rfl,rfl⟩) (J0.refl _) ?_
  rintro⟨f,t⟩ ⟨ms,last⟩ ⟨hm,hO,hsum,ht,hall,hfn⟩
  simp only at hm hO hsum ht hall hfn⊢
  have hml:(JR ms).length=n*n:=by rw[Qp];exact hm.len
  simp(maxSteps:=999999)(disch:=omega)only[go_sem,zA,zM,zS,zE,zL]
  ((first|(with_reducible first|refine Jl ?_ ?_|refine Jj ?_ ?_|refine Jp ?_ ?_)|refine Jr ?_ ?_)<;>intro h1)
  rotate_left
  · have h1:t=5:=by omega
    rw[hfn (by omega)]at hO
    have hO:WJ p xs=none:=hO.trans (JiC (Jcz fun u u1 u2=>hall u u1 (by omega)))
    have e1:UK p xs=⟨0,0,0⟩:=by unfold UK;rw[hO];rfl
    have e2:Vo p xs=false:=by unfold Vo;rw[hO];rfl
    rw[e1,e2]
    simp(maxSteps:=999999)(disch:=omega)only[go_sem,zA,zM,zS,zE,zL]
  have h1:t≤4:=by omega
  simp(maxSteps:=999999)(disch:=omega)only[go_sem,zA,zM,zS,zE,zL]
  refine JT (fun k:Nat=>n*n -k) (fun k=>k≤n*n∧∀j:Nat,j<k→¬(Zi (QH ms j)≠0∧JA q.given j=0)) (fun k=>[.a, .a, .a, .a, .k, .a, .k, .k, .k, .k, .p (int k), .a, .a, .a, .a, .a, .a, .a, .a, .a, .a, .a, .a, .a, .a, .a, .a, .a, .a, .a, .a, .a, .a, .a, .a, .a, .a, .a, .a, .a, .a, .a, .a, .a, .a, .a, .a, .a, .a, .a, .a, .a, .a, .a, .a, .a, .a, .a, .a, .a, .a, .a, .a, .a, .a]) (fun _=>[some ⟨g0,1,cP p⟩,some ⟨g4,3,[.f (.int .i64 0), .f (.int .i64 0), .f (.int .i64 0)]⟩,some ⟨g6,3,cP q⟩]) 0 ⟨Nat.zero_le _,fun j hj=>absurd hj (Nat.not_lt_zero _)⟩ (by simp(maxSteps:=999999)(disch:=omega)only[go_sem,zA,zM,zS,zE,zL];rfl) (J0.refl _) ?_
  rintro k ⟨hk,hno⟩
  simp(maxSteps:=999999)(disch:=omega)only[go_sem,zA,zM,zS,zE,zL]
  ((first|(with_reducible first|refine Jl ?_ ?_|refine Jj ?_ ?_|refine Jp ?_ ?_)|refine Jr ?_ ?_)<;>intro h2)
  · have h2:k<n*n:=by omega
    have hmk:=hm.lt hp.hn k
    have hnk:=Za ms k
    have hmo:=Rq hmk
    have hgo:¬(Zi (QH ms k)≠0∧JA q.given k=0)→∀j:Nat,j<k+1→¬(Zi (QH ms j)≠0∧JA q.given j=0):=fun h j hj=>by
     by_cases hjk:j=k
     · rw[hjk];exact h
     · exact hno j (by omega)
    simp(maxSteps:=999999)(disch:=omega)only[go_sem,zA,zM,zS,zE,zL,hnk]
    first|refine JY.mk (Z3 (QH ms k) hmk) (⟨_,Tryz.func106,rfl,rfl⟩:Jh Tryz.prog 106) rfl rfl rfl rfl rfl ?_|refine JM.mk (Z3 (QH ms k) hmk) (⟨_,Tryz.func106,rfl,rfl⟩:Jh Tryz.prog 106) rfl rfl rfl rfl rfl ?_
    simp(maxSteps:=999999)(disch:=omega)only[go_sem,zA,zM,zS,zE,zL]
    ((with_reducible first|refine JH ?_ ?_|refine JD ?_ ?_|refine JP ?_ ?_|refine Jv ?_ ?_|refine JF ?_ ?_|refine JG ?_ ?_|refine JB ?_ ?_|refine JC ?_ ?_|refine JN ?_ ?_|refine JO ?_ ?_|refine Jw ?_ ?_|refine Jx ?_ ?_)<;>intro h3<;>simp(maxSteps:=999999)(disch:=omega)only[go_sem,zA,zM,zS,zE,zL,h3])
    · ((first|(with_reducible first|refine Jl ?_ ?_|refine Jj ?_ ?_|refine Jp ?_ ?_)|refine Jr ?_ ?_)<;>intro h4)
      · have h4:Zi (QH ms k)≠0:=hmo.1.1 (by omega)
        have hfs:=FA (gv:=q.given) (by rw[hm.len];exact h2) ⟨h4,h3⟩ hno
        rw[hfs]at hO
        have e1:UK p xs=⟨last,k,Zi (QH ms k)⟩:=by unfold UK;rw[hO];rfl
        have e2:Vo p xs=true:=by unfold Vo;rw[hO];rfl
        have hld:∀H,Fu H (.fp (fl (eI .i64) [((Zi (QH ms k):Nat):Int)]) (Int.toNat 0*1))=some (int (Zi (QH ms k):Nat)):=fun _=>rfl
        rw[e1,e2,(hmo.2 h4).1]
        simp(maxSteps:=999999)(disch:=omega)only[go_sem,zA,zM,zS,zE,zL,hld]
      · simp(maxSteps:=999999)(disch:=omega)only[go_sem,zA,zM,zS,zE,zL]
        exact⟨k+1,⟨⟨by omega,hgo fun h=>h4 (by rw[hmo.1.2 h.1];rfl)⟩,by omega⟩,by push_cast;rfl,J0.refl _⟩
    · exact⟨k+1,⟨⟨by omega,hgo fun h=>h3 h.2⟩,by omega⟩,by push_cast;rfl,J0.refl _⟩
  · have hke:k=n*n:=by omega
    have hfn:=Kl (gv:=q.given) (ms:=ms) fun j hj=>hno j (by have:=hm.len;omega)
    rw[hfn]at hO
    have hO:WJ p xs=WK q f ms:=hO
    have hnl:=(KH (p:=q) (t:=t) hm).len
    simp(maxSteps:=999999)(disch:=omega)only[go_sem,zA,zM,zS,zE,zL]
    first|refine JY.mk (KY qp qv ms hm t ⟨ht.1,h1⟩) (⟨_,Tryz.func107,rfl,rfl⟩:Jh Tryz.prog 107) rfl rfl rfl rfl rfl ?_|refine JM.mk (KY qp qv ms hm t ⟨ht.1,h1⟩) (⟨_,Tryz.func107,rfl,rfl⟩:Jh Tryz.prog 107) rfl rfl rfl rfl rfl ?_
    simp(maxSteps:=999999)(disch:=omega)only[go_sem,zA,zM,zS,zE,zL]
    first|refine JY.rd (GZ (JR (Uh q t ms)) (JR ms) (by rw[Qp];omega)) (⟨_,Tryz.func108,rfl,rfl⟩:Jh Tryz.prog 108) rfl rfl rfl rfl ?_|refine JM.rd (GZ (JR (Uh q t ms)) (JR ms) (by rw[Qp];omega)) (⟨_,Tryz.func108,rfl,rfl⟩:Jh Tryz.prog 108) rfl rfl rfl rfl ?_
    simp(maxSteps:=999999)(disch:=omega)only[go_sem,zA,zM,zS,zE,zL]
    ((first|(with_reducible first|refine Jl ?_ ?_|refine Jj ?_ ?_|refine Jp ?_ ?_)|refine Jr ?_ ?_)<;>intro h5)
    · have h5:Uh q t ms=ms:=JcB.1 h5
      simp(maxSteps:=999999)(disch:=omega)only[go_sem,zA,zM,zS,zE,zL]
      refine⟨(f,t+1),(ms,last),⟨⟨hm, ?_,hsum,⟨by omega,by omega⟩,fun u u1 u2=> ?_,fun _=>hfn⟩,by simp only;omega⟩,⟨rfl,rfl,by push_cast;rfl⟩,J0.refl _⟩
      · rw[hfn];exact hO
      · by_cases hut:u=t
        · rw[hut];exact h5
        · exact hall u u1 (by simp only at u2;omega)
    · have h5:Uh q t ms≠ms:=fun h=>h5 (by rw[h])
      have hnx:=JcA ⟨ht.1,h1⟩ hall h5
      have hdec:=JcC (p:=q) hm h5
      obtain⟨f,rfl⟩:∃f',f=f'+1:=⟨f -1,by omega⟩
      have hOu:WK q (f+1) ms=if Z1 q ms=0 then none else match WG q.given (Uh q (Z1 q ms) ms)with
       |some k=>some ⟨Z1 q ms,k,Zi (QH (Uh q (Z1 q ms) ms) k)⟩
       |none=>WK q f (Uh q (Z1 q ms) ms):=rfl
      rw[hnx,if_neg (by omega)]at hOu
      simp(maxSteps:=999999)(disch:=omega)only[go_sem,zA,zM,zS,zE,zL]
      exact⟨(f,1),(Uh q t ms,t),⟨⟨KH hm,hO.trans hOu,by simp only;omega,⟨Nat.le_refl _,by show 1≤5;omega⟩,fun u u1 u2=>by simp only at u2;omega,fun h=>by simp only at h;omega⟩,by simp only;omega⟩,by first|rfl|exact⟨rfl,rfl⟩|exact⟨rfl,rfl,rfl⟩,J0.refl _⟩
end Go.Lg

namespace Go.Lg
open Go.Proofs
theorem X9(p:QV)(xs:List Int)(hx:YR p)(hl:xs.length≤2^40):JW Tryz.prog 52 [aP p,QG xs] (bool (Uo p xs)):=by
 refine Jn.cw (c:=_) Tryz.func52 rfl (n:=17) Tryz.ntmps52 (rs:=[.tmp 4]) rfl ?_
 simp only[Je,Jf,zA,zS,Jd,Ja,Jc]
 simp(maxSteps:=999999)(disch:=omega)only[go_sem,zA,zM,zS,zE,zL]
 intro g
 first|refine JY.rd (UI p xs hx hl) (⟨_,Tryz.func50,rfl,rfl⟩:Jh Tryz.prog 50) rfl rfl rfl rfl ?_|refine JM.rd (UI p xs hx hl) (⟨_,Tryz.func50,rfl,rfl⟩:Jh Tryz.prog 50) rfl rfl rfl rfl ?_
 simp(maxSteps:=999999)(disch:=omega)only[go_sem,zA,zM,zS,zE,zL]
 cases h:Wx p xs with
 |false=>
  have e:Uo p xs=false:=by unfold Uo;unfold Wx at h;rw[h];rfl
  rw[e]
  simp(maxSteps:=999999)(disch:=omega)only[go_sem,zA,zM,zS,zE,zL]
 |true=>
  have e:Uo p xs=decide (ZL xs p.size=xs.length):=by unfold Uo;unfold Wx at h;rw[h];rfl
  rw[e]
  simp(maxSteps:=999999)(disch:=omega)only[go_sem,zA,zM,zS,zE,zL]
  first|refine JY.rd (V7 xs p.size hl) (⟨_,Tryz.func43,rfl,rfl⟩:Jh Tryz.prog 43) rfl rfl rfl rfl ?_|refine JM.rd (V7 xs p.size hl) (⟨_,Tryz.func43,rfl,rfl⟩:Jh Tryz.prog 43) rfl rfl rfl rfl ?_
  simp(maxSteps:=999999)(disch:=omega)only[go_sem,zA,zM,zS,zE,zL]
end Go.Lg

namespace Go.Lg
open Go.Proofs
theorem Fx{q:QV}{n:Nat}{h:Hnt}:∀(f:Nat) (ms:List Nat),Xv ms n→WK q f ms=some h→∃(k:Nat) (ms':List Nat),Xv ms' n∧k<n*n∧h.cell=k∧h.val=(Zi (QH ms' k):Nat)∧Zi (QH ms' k)≠0∧JA q.given k=0
 |0,_,_,h=>by cases h
 |f+1,ms,hm,hh=>by
  unfold WK at hh
  split at hh
  · cases hh
  have hok:=KH (p:=q) (t:=Z1 q ms) hm
  generalize Uh q (Z1 q ms) ms=ms' at hh hok
  split at hh
  · rename_i k hk
    unfold WG at hk
    have hp:=List.find?_some hk
    have hmem:=List.mem_of_find?_eq_some hk
    rw[decide_eq_true_eq]at hp
    cases hh
    exact⟨k,ms',hok,by rw[←hok.len];exact List.mem_range.1 hmem,rfl,rfl,hp.1,hp.2⟩
  · exact Fx f ms' hok hh
theorem Na{p:QV}{xs:List Int}(h:Vo p xs=true):Wx p xs=true∧∃k v:Nat,k<xs.length∧(UK p xs).cell=k∧(UK p xs).val=v∧1≤v∧(v:Int)≤p.size∧JA xs k=0∧JA p.given k=0:=by
 unfold Vo at h
 obtain⟨hh,he⟩:=Option.isSome_iff_exists.1 h
 have hv:UK p xs=hh:=by unfold UK;rw[he];rfl
 unfold WJ at he
 split at he
 rotate_left
 · cases he
 rename_i hf
 obtain⟨n,hz,hp,hvl,hg,ha,hfl,hcl,hlen,hl4,hl16⟩:=Xt hf
 obtain⟨qv,qp,qg⟩:=YS hp hvl hg ha
 obtain⟨k,ms',hm,hk,h1,h2,h3,h4⟩:=Fx _ _ (KB qp qg) he
 have h5:=(Rq (hm.lt hp.hn k)).2 h3
 have h6:=hm.at k
 have h4':JA (Zm p.given xs) k=0:=h4
 rw[UX (by rw[hlen,hg.len];exact hk)]at h4'
 have hx0:=hg.val k (by rw[hg.len];exact hk)
 rw[hv]
 refine⟨hf,k,Zi (QH ms' k),by rw[hg.len];exact hk,h1,h2,by omega, ?_, ?_, ?_⟩
 · have hle:=Jh1 (QH ms' k)
   have h7:2^Zi (QH ms' k)≤2^(n+1) -2:=by rw[←h5.2];exact h6.1
   rw[hz]
   have hn:=hp.hn
   generalize Zi (QH ms' k)=v at*
   have:v=1∨v=2∨v=3∨v=4:=by omega
   rcases hn with rfl|rfl|rfl<;>rcases this with rfl|rfl|rfl|rfl<;>simp at h7⊢
 · split at h4'<;>omega
 · split at h4'<;>omega
section
variable{P:Program}{o:Oper}{st:St}{K:KV}{fo:Operand}{ws:Array Operand}{ts:Array TypeId}{f:FuncId}{args args':List AV}{v:AV}
end
end Go.Lg

namespace Go.Lg
open Go.Proofs
theorem GA{p:QV}(hv:Jy p=true):Ub p p.size.toNat∧Q9 p.given p.size.toNat:=by
 obtain⟨hp,hz⟩:=Ub.of hv
 refine⟨hp, ?_⟩
 simp only[Jy,Bool.and_eq_true,decide_eq_true_eq]at hv
 exact Q9.of hp.hn (by rw[hz];exact hv.1)
end Go.Lg

namespace Go.Lg
open Go.Proofs
theorem JaS(k:Nat):Zu (Jd k 0)=[]:=by
 unfold Zu
 rw[List.map_eq_nil_iff,List.filter_eq_nil_iff]
 intro i _
 rw[W1]
 simp
theorem Jf8{p:QV}(hv:Jy p=true):Qo (Xd p)=true∧QT (Xd p)=false∧JK (Xd p)=p.given:=by
 have e:Xd p=⟨p,Jd p.given.length 0,[]⟩:=by unfold Xd;rw[if_pos hv]
 obtain⟨hp,hz⟩:=Ub.of hv
 have hlen:p.given.length=p.size.toNat*p.size.toNat:=hp.len
 have hgz:Q9 (Jd p.given.length 0) p.size.toNat:=by rw[hlen];exact⟨by simp,fun k _=>by rw[W1];omega⟩
 have hgv:J8 (Jd p.given.length 0) p.size=true:=by have:=hgz.valid hp.hn;rwa [hz]at this
 have hok:Qo (Xd p)=true:=by
  rw[e]
  simp only[Qo,Bool.and_eq_true,decide_eq_true_eq]
  refine⟨hv,hgv,by simp, ?_⟩
  refine⟨List.nodup_nil,fun c hc=>absurd hc (by simp),fun c hc=> ?_⟩
  have hc:c∈Zu (Jd p.given.length 0):=hc
  rw[JaS]at hc
  cases hc
 refine⟨hok, ?_, ?_⟩
 · unfold QT
   rw[e]
   simp
 · have e2:JK (Xd p)=X7 (Xd p).task.given (Xd p).put:=by unfold JK;rw[if_pos hok]
   rw[e2,e]
   refine KN (by rw[Uz]) fun j hj=> ?_
   have hj:j<p.given.length:=by rw[Uz]at hj;exact hj
   show JA (X7 p.given (Jd p.given.length 0)) (j:Int)=_
   rw[X6 hj,W1]
   have:=(GA hv).2.val j hj
   omega
end Go.Lg

namespace Go.Lg
open Go.Proofs
structure UJ(q:ZF)(n:Nat):Prop where
 pz:Ub q.task n
 pv:Jy q.task=true
 sz:q.task.size=n
 gv:Q9 q.task.given n
 pt:Q9 q.put n
 ln:q.put.length=q.task.given.length
 ok:Wk q
theorem UJ.of{q:ZF}(h:Qo q=true):∃n,UJ q n:=by
 obtain⟨h1,h2,h3,h4,h5,h6⟩:=Zw h
 obtain⟨hp,hz⟩:=Ub.of h1
 have hg:=(GA h1).2
 refine⟨q.task.size.toNat,hp,h1,by omega,hg, ?_,h5,h4⟩
 have hb:=QA h2
 exact⟨by rw[h5];exact hg.len,fun k hk=>by have:=hb.2.2.2.2 k hk;omega⟩
theorem UJ.len{q:ZF}{n:Nat}(h:UJ q n):4≤q.put.length∧q.put.length≤16∧q.moves.length≤16:=by
 have hn:=h.pz.hn
 have h1:=h.pt.len
 have h2:=U0 _ _ h.ok.1 h.ok.2.1
 have h3:(Zu q.put).length≤q.put.length:=by rw[YH];exact List.countP_le_length
 rcases hn with rfl|rfl|rfl<;>omega
theorem UJ.valid{q:ZF}{n:Nat}(h:UJ q n):Qo q=true:=by
 have h1:=h.pt.valid h.pz.hn
 have h2:=h.len
 simp only[Qo,Bool.and_eq_true,decide_eq_true_eq]
 exact⟨h.pv,by rw[h.sz];exact h1,by omega,h.ok⟩
theorem UJ.smG{q:ZF}{n:Nat}(h:UJ q n)(hp:YR q.task):Lg.smG q:=by
 have h2:=h.len
 exact⟨hp,by omega,by omega⟩
theorem UJ.grid{q:ZF}{n:Nat}(h:UJ q n):JK q=X7 q.task.given q.put:=by
 unfold JK
 rw[if_pos h.valid]
theorem UJ.one{q:ZF}{n:Nat}(h:UJ q n)(i:Nat)(hi:i<q.put.length):¬(0<JA q.put i∧0<JA q.task.given i):=fun⟨h1,h2⟩=>by
 have:=(h.ok.2.2 i (Qz.2 ⟨by omega,by omega,h1⟩)).2
 omega
theorem Jcq{q:ZF}{n:Nat}{c v:Int}(h:UJ q n)(ok:U8 q c v):∃i:Nat,c=i∧i<q.put.length∧JA q.put i=0∧JA q.task.given i=0∧1≤v∧v≤n:=by
 obtain⟨h1,h2,h3,h4,h5⟩:=ok
 obtain⟨i,rfl⟩:∃i:Nat,c=i:=⟨c.toNat,by omega⟩
 have hi:i<q.put.length:=by omega
 obtain⟨k1,k2,k3,_⟩:=Jbr h.valid hi
 have:=k1.1 h3
 exact⟨i,rfl,hi,by omega,by omega,h4,by rw[←h.sz];exact h5⟩
theorem JhO{q:ZF}{n i:Nat}{v:Int}(h:UJ q n)(hi:i<q.put.length)(h1:JA q.put i=0)(h2:JA q.task.given i≤0)(hv:1≤v∧v≤n):U8 q i v:=by
 obtain⟨k1,k2,k3,_⟩:=Jbr h.valid hi
 exact⟨by omega,by omega,k1.2 (by omega),hv.1,by rw[h.sz];exact hv.2⟩
theorem UJ.put{q:ZF}{n i:Nat}{v:Int}(h:UJ q n)(hi:i<q.put.length)(h1:JA q.put i=0)(h2:JA q.task.given i≤0)(hv:1≤v∧v≤n):UJ ⟨q.task,q.put.set i v,q.moves++[(i:Int)]⟩ n:=by
 have hs:∀k:Nat,JA (q.put.set i v) k=if k=i then v else JA q.put k:=fun k=>Q3 _ _ _ _ hi
 have hnot:(i:Int)∉q.moves:=fun hm=>by
  have:=(Qz.1 (h.ok.2.1 _ hm)).2.2
  omega
 refine⟨h.pz,h.pv,h.sz,h.gv,⟨by rw[Jo];exact h.pt.len,fun k hk=> ?_⟩,by rw[Jo];exact h.ln, ?_, ?_, ?_⟩
 · rw[Jo]at hk
   show 0≤JA (q.put.set i v) k∧JA (q.put.set i v) k≤n
   rw[hs]
   split
   · omega
   · exact h.pt.val k hk
 · exact Qm.2 ⟨h.ok.1,by simp,fun a ha b hb he=>by
    rw[List.mem_singleton]at hb
    subst hb
    exact hnot (he▸ha)⟩
 · intro c hc
   show c∈Zu (q.put.set i v)
   rcases JZ.1 hc with hc|hc
   · obtain⟨k1,k2,k3⟩:=Qz.1 (h.ok.2.1 c hc)
     obtain⟨k,rfl⟩:∃k:Nat,c=k:=⟨c.toNat,by omega⟩
     refine Qz.2 ⟨k1,by rw[Jo];exact k2, ?_⟩
     rw[hs,if_neg (fun(he:k=i)=>hnot (by rw[←he];exact hc))]
     exact k3
   · rw[List.mem_singleton]at hc
     subst hc
     refine Qz.2 ⟨by omega,by rw[Jo];omega, ?_⟩
     rw[hs,if_pos rfl]
     omega
 · intro c hc
   obtain⟨k1,k2,k3⟩:=Qz.1 (show c∈Zu (q.put.set i v)from hc)
   obtain⟨k,rfl⟩:∃k:Nat,c=k:=⟨c.toNat,by omega⟩
   rw[Jo]at k2
   rw[hs]at k3
   by_cases hk:k=i
   · subst hk
     exact⟨by simp,h2⟩
   · rw[if_neg hk]at k3
     obtain⟨m1,m2⟩:=h.ok.2.2 k (Qz.2 ⟨k1,k2,k3⟩)
     exact⟨by simp[m1],m2⟩
theorem Jh6(ms:List Int)(i:Int):JA (ms++[i]) (((ms++[i]).length:Int) -1)=i:=by
 rw[show(((ms++[i]).length:Int) -1)=((ms.length:Nat):Int) by simp]
 rw[Qs (by simp;omega)]
 simp
theorem Ja7{q:ZF}{n:Nat}{c v:Int}(h:UJ q n)(ok:U8 q c v):ZM q c v=⟨q.task,q.put.set c.toNat v,q.moves++[c]⟩∧Zg q c v=true:=by
 unfold ZM Zg
 rw[h.valid,if_pos rfl,if_pos ok]
 exact⟨rfl,by simp[ok]⟩
theorem Jls{q:ZF}{n:Nat}{c v:Int}(h:UJ q n)(ok:¬U8 q c v):ZM q c v=q∧Zg q c v=false:=by
 unfold ZM Zg
 rw[h.valid,if_pos rfl,if_neg ok]
 exact⟨rfl,by simp[ok]⟩
theorem JfS{q:ZF}{n:Nat}{c v:Int}(h:UJ q n):UJ (ZM q c v) n:=by
 by_cases ok:U8 q c v
 · obtain⟨i,rfl,hi,h1,h2,h3,h4⟩:=Jcq h ok
   rw[(Ja7 h ok).1,Int.toNat_natCast]
   exact h.put hi h1 (by omega) ⟨h3,h4⟩
 · rw[(Jls h ok).1]
   exact h
theorem Jey{q:ZF}{n:Nat}(h:UJ q n)(hm:q.moves≠[]):UJ (QI q) n∧∃i:Nat,JA q.moves ((q.moves.length:Int) -1)=i∧i<q.put.length∧ZM (QI q) i (JA q.put i)=q∧Zg (QI q) i (JA q.put i)=true∧(QI q).moves.length+1=q.moves.length:=by
 rcases List.eq_nil_or_concat q.moves with he|⟨ms,c,he⟩
 · exact absurd he hm
 rw[List.concat_eq_append]at he
 have hl:JA q.moves ((q.moves.length:Int) -1)=c:=by rw[he];exact Jh6 _ _
 have hc:c∈q.moves:=by rw[he];simp
 obtain⟨k1,k2,k3⟩:=Qz.1 (h.ok.2.1 c hc)
 obtain⟨i,rfl⟩:∃i:Nat,c=i:=⟨c.toNat,by omega⟩
 have hi:i<q.put.length:=by omega
 have hgv:=(h.ok.2.2 (i:Int) (Qz.2 ⟨k1,k2,k3⟩)).2
 have hnd:=h.ok.1
 rw[he]at hnd
 obtain⟨n1,_,n3⟩:=Qm.1 hnd
 have hnot:(i:Int)∉ms:=fun hx=>n3 _ hx _ (by simp) rfl
 have hb:QI q=⟨q.task,q.put.set i 0,ms⟩:=by
  unfold QI
  rw[if_pos h.valid,if_neg hm,hl,Int.toNat_natCast,he]
  simp
 have hs:∀k:Nat,JA (q.put.set i 0) k=if k=i then 0 else JA q.put k:=fun k=>Q3 _ _ _ _ hi
 have hN:UJ (QI q) n:=by
  rw[hb]
  refine⟨h.pz,h.pv,h.sz,h.gv,⟨by rw[Jo];exact h.pt.len,fun k hk=> ?_⟩,by rw[Jo];exact h.ln,n1, ?_, ?_⟩
  · rw[Jo]at hk
    show 0≤JA (q.put.set i 0) k∧JA (q.put.set i 0) k≤n
    rw[hs]
    split
    · omega
    · exact h.pt.val k hk
  · intro c hc
    show c∈Zu (q.put.set i 0)
    have hc:c∈ms:=hc
    obtain⟨j1,j2,j3⟩:=Qz.1 (h.ok.2.1 c (by rw[he];simp[hc]))
    obtain⟨k,rfl⟩:∃k:Nat,c=k:=⟨c.toNat,by omega⟩
    refine Qz.2 ⟨j1,by rw[Jo];exact j2, ?_⟩
    rw[hs,if_neg (fun(he:k=i)=>hnot (by rw[←he];exact hc))]
    exact j3
  · intro c hc
    obtain⟨j1,j2,j3⟩:=Qz.1 (show c∈Zu (q.put.set i 0)from hc)
    obtain⟨k,rfl⟩:∃k:Nat,c=k:=⟨c.toNat,by omega⟩
    rw[Jo]at j2
    rw[hs]at j3
    by_cases hk:k=i
    · rw[if_pos hk]at j3
      omega
    · rw[if_neg hk]at j3
      obtain⟨m1,m2⟩:=h.ok.2.2 k (Qz.2 ⟨j1,j2,j3⟩)
      rw[he]at m1
      refine⟨?_,m2⟩
      rcases JZ.1 m1 with m1|m1
      · exact m1
      · rw[List.mem_singleton]at m1
        omega
 have hv:=h.pt.val i hi
 have ok:U8 (QI q) i (JA q.put i):=by
  refine JhO hN ?_ ?_ ?_ ⟨by omega,hv.2⟩
  · rw[hb];show i<(q.put.set i 0).length;rw[Jo];exact hi
  · rw[hb];show JA (q.put.set i 0) i=0;rw[hs,if_pos rfl]
  · rw[hb];exact hgv
 refine⟨hN,i,hl,hi, ?_,(Ja7 hN ok).2,by rw[hb,he];simp⟩
 rw[(Ja7 hN ok).1,hb,Int.toNat_natCast]
 show ZF.mk q.task ((q.put.set i 0).set i (JA q.put i)) (ms++[(i:Int)])=q
 rw[List.set_set,Gt rfl,←he]
theorem Jex{q:ZF}{n:Nat}(h:UJ q n):UJ (QI q) n:=by
 by_cases hm:q.moves=[]
 · have:QI q=q:=by unfold QI;rw[if_pos h.valid,if_pos hm]
   rw[this]
   exact h
 · exact(Jey h hm).1
end Go.Lg
