/- GpMK, GpTB, GpTF, GpSP, GpVG, cut to what is needed. -/
import Derived.Test.YtidekghnkifbjaaGreatDoorJdc9
import Derived.Test.YtidekghnkifbjaaGreatDoorJdb5
import Derived.Test.YtidekghnkifbjaaGreatDoorJdd0
import Derived.Test.YtidekghnkifbjaaGreatDoorJdc0
import Derived.Test.YtidekghnkifbjaaGreatDoorJdc4
import Derived.Test.YtidekghnkifbjaaGreatDoorJdc2
import Derived.Test.YtidekghnkifbjaaGreatDoorJdb2
import Derived.Test.YtidekghnkifbjaaGreatDoorJdc6
import Derived.Test.YtidekghnkifbjaaGreatDoorJdc5
import Derived.Test.YtidekghnkifbjaaGreatDoorJdb9
import Derived.Test.YtidekghnkifbjaaGreatDoorJdb1
import Derived.Test.YtidekghnkifbjaaGreatDoorJdc3
import Derived.Test.YtidekghnkifbjaaGreatDoorJdb3
import Derived.Test.YtidekghnkifbjaaGreatDoorJdb7
import Derived.Test.YtidekghnkifbjaaGreatDoorJdb6
open List renaming length_cons → Ja, cons_append → Jb, nil_append → Jd, length_nil → Je, replicate → Jf, length_set → Jp, mem_append → JI, nodup_append → JZ, mapM_cons → J3, length_map → Qi, mapM_nil → QB, sum_cons → Zw
open Nat renaming reduceAdd→zA,reduceMul→zM,reduceSub→zS,reduceEqDiff→zE,reduceLeDiff→zL
set_option linter.unusedSimpArgs false
set_option linter.unusedVariables false
set_option maxRecDepth 100000
namespace Go.Lg
open Go.Proofs
def Xg(gv:List Int)(ms:List Nat):Option Nat:=(List.range ms.length).find? fun(k:Nat)=>decide (ZH (QH ms k)≠0∧Jy gv k=0)
theorem Ft{gv:List Int}{ms:List Nat}{k:Nat}(hk:k<ms.length)(h:ZH (QH ms k)≠0∧Jy gv k=0)(hno:∀j:Nat,j<k→¬(ZH (QH ms j)≠0∧Jy gv j=0)):Xg gv ms=some k:=by
 unfold Xg
 rw[List.find?_eq_some_iff_getElem]
 exact⟨decide_eq_true h,k,by simpa using hk,by simp,fun j hj=>by
  simp only[List.getElem_range,Bool.not_eq_true',decide_eq_false_iff_not]
  exact hno j hj⟩
theorem Kc{gv:List Int}{ms:List Nat}(hno:∀j:Nat,j<ms.length→¬(ZH (QH ms j)≠0∧Jy gv j=0)):Xg gv ms=none:=by
 unfold Xg
 rw[List.find?_eq_none]
 intro j hj
 rw[decide_eq_true_eq]
 exact hno j (List.mem_range.1 hj)
def Xv(q:QR):Nat→List Nat→Option Hnt
 |0,_=>none
 |f+1,ms=>if Z3 q ms=0 then none else match Xg q.given (Ue q (Z3 q ms) ms)with
  |some k=>some ⟨Z3 q ms,k,ZH (QH (Ue q (Z3 q ms) ms) k)⟩
  |none=>Xv q f (Ue q (Z3 q ms) ms)
theorem Jiy{q:QR}{f:Nat}{ms:List Nat}(h:Z3 q ms=0):Xv q f ms=none:=by
 cases f with
 |zero=>rfl
 |succ f=>unfold Xv;rw[if_pos h]
def WE(p:QR)(xs:List Int):Bool:=JA p&&(Qc xs p.size&&QJ p xs p.size.toNat)
def Xd(p:QR)(xs:List Int):Option Hnt:=if WE p xs=true then Xv (QQ p xs) 1000 (Zz (QQ p xs))else none
def Vt(p:QR)(xs:List Int):Hnt:=(Xd p xs).getD ⟨0,0,0⟩
def VZ(p:QR)(xs:List Int):Bool:=(Xd p xs).isSome
theorem Gd:∀(l:List Nat) (b:Nat),(∀x∈l,x≤b)→l.sum≤b*l.length
 |[],b,_=>by simp
 |x::l,b,h=>by
  have h1:=Gd l b fun y hy=>h y (by simp[hy])
  have h2:=h x (by simp)
  simp only[Zw,Ja,Nat.mul_add,Nat.mul_one]
  omega
theorem XG.sum{ms:List Nat}{n:Nat}(hn:n=2∨n=3∨n=4)(h:XG ms n):ms.sum≤480:=by
 have h1:=Gd ms 30 fun x hx=>by have:=(h.val x hx).1;have:=Jcu hn;omega
 have h2:ms.length≤16:=by rw[h.len];rcases hn with rfl|rfl|rfl<;>omega
 omega
theorem B7{p:QR}{n:Nat}{xs:List Int}(hp:Uq p n)(hv:JA p=true)(hg:Zd xs n)(ha:Zd p.given n):JA (QQ p xs)=true∧Uq (QQ p xs) n∧Zd (QQ p xs).given n:=by
 have hw:Zd (QQ p xs).given n:=WS ha hg
 have h1:JA (QQ p xs)=true:=by
  simp only[JA,Bool.and_eq_true,decide_eq_true_eq]at hv⊢
  refine⟨?_,hv.2⟩
  have:=hw.valid hp.hn
  rw[←hp.size]at this
  exact this
 refine⟨h1, ?_,hw⟩
 have:=(Uq.of h1).1
 have e:(QQ p xs).size.toNat=n:=by show p.size.toNat=n;rw[hp.size];rfl
 rwa [e]at this
theorem Fs{p:QR}{xs:List Int}(h:WE p xs=true):∃n:Nat,p.size=n∧Uq p n∧JA p=true∧Zd xs n∧Zd p.given n∧QJ p xs n=true∧clear p xs=true∧p.given.length=xs.length∧4≤xs.length∧xs.length≤16:=by
 simp only[WE,Bool.and_eq_true]at h
 obtain⟨h1,h2,h3⟩:=h
 obtain⟨hp,hg,ha,hlen,hl4,hl16⟩:=XU h1 h2
 refine⟨p.size.toNat,(Uq.of h1).2.symm,hp,h1,hg,ha,h3, ?_,hlen,hl4,hl16⟩
 simp only[QJ,Bool.and_eq_true]at h3
 exact h3.1
theorem Ko(xs:List Int)(n:Int)(hx:xs.length≤2^40):JM Tryz.prog 93 [QF xs,int n] (bool (Qc xs n&& !Wy xs n.toNat)):=by
 cases h:Qc xs n with
 |true=>
  have hb:=Qv h
  obtain⟨m,rfl⟩:∃m:Nat,n=m:=⟨n.toNat,by omega⟩
  have hn:m=2∨m=3∨m=4:=by omega
  have:=Kn hn xs (Zd.of hn h)
  rw[Int.toNat_natCast,Bool.true_and]
  exact this
 |false=>
  refine Jk.cw (c:=_) Tryz.func93 rfl (n:=47) Tryz.ntmps93 (rs:=[.tmp 4]) rfl ?_
  simp only[Ja,Je,zA,zS,Jf,Jb,Jd]
  simp(maxSteps:=999999)(disch:=omega)only[go_sem,zA,zM,zS,zE,zL]
  first|refine JU.rd (Zv xs n (by omega)) (⟨_,Tryz.func54,rfl,rfl⟩:Jg Tryz.prog 54) rfl rfl rfl rfl ?_|refine JG.rd (Zv xs n (by omega)) (⟨_,Tryz.func54,rfl,rfl⟩:Jg Tryz.prog 54) rfl rfl rfl rfl ?_
  simp(maxSteps:=999999)(disch:=omega)only[go_sem,zA,zM,zS,zE,zL]
  ((first|(with_reducible first|refine Jm ?_ ?_|refine Jj ?_ ?_|refine Jo ?_ ?_)|refine Jr ?_ ?_)<;>intro c1)
  · exfalso;rw[h]at c1;cases c1
  · simp(maxSteps:=999999)(disch:=omega)only[go_sem,zA,zM,zS,zE,zL]
    rfl
theorem UD(p:QR)(xs:List Int)(hx:RC p)(hl:xs.length≤2^40):JM Tryz.prog 50 [aP p,QF xs] (bool (WE p xs)):=by
 by_cases h:JA p=true∧Qc xs p.size=true
 · obtain⟨hp,hg,ha,_⟩:=XU h.1 h.2
   have:=Kp hp h.1 xs hg
   unfold WE
   rw[h.1,h.2,Bool.true_and,Bool.true_and]
   exact this
 · have e:WE p xs=false:=by
    unfold WE
    cases h1:JA p
    · rfl
    · cases h2:Qc xs p.size
      · rfl
      · exact absurd ⟨h1,h2⟩ h
   rw[e]
   refine Jk.cw (c:=_) Tryz.func50 rfl (n:=60) Tryz.ntmps50 (rs:=[.tmp 4]) rfl ?_
   simp only[Ja,Je,zA,zS,Jf,Jb,Jd]
   simp(maxSteps:=999999)(disch:=omega)only[go_sem,zA,zM,zS,zE,zL]
   intro g
   first|refine JU.rd (Qq p hx) (⟨_,Tryz.func41,rfl,rfl⟩:Jg Tryz.prog 41) rfl rfl rfl rfl ?_|refine JG.rd (Qq p hx) (⟨_,Tryz.func41,rfl,rfl⟩:Jg Tryz.prog 41) rfl rfl rfl rfl ?_
   simp(maxSteps:=999999)(disch:=omega)only[go_sem,zA,zM,zS,zE,zL]
   ((with_reducible first|refine JL ?_ ?_|refine JD ?_ ?_|refine JT ?_ ?_|refine Jv ?_ ?_|refine JJ ?_ ?_|refine JK ?_ ?_|refine JB ?_ ?_|refine JC ?_ ?_|refine JR ?_ ?_|refine JS ?_ ?_|refine Jw ?_ ?_|refine Jx ?_ ?_)<;>intro c1<;>simp(maxSteps:=999999)(disch:=omega)only[go_sem,zA,zM,zS,zE,zL,c1])
   have c2:(Qc xs p.size&& !Wy xs p.size.toNat)=false:=by
    cases h2:Qc xs p.size
    · rfl
    · exact absurd ⟨c1,h2⟩ h
   first|refine JU.rd (Ko xs p.size hl) (⟨_,Tryz.func93,rfl,rfl⟩:Jg Tryz.prog 93) rfl rfl rfl rfl ?_|refine JG.rd (Ko xs p.size hl) (⟨_,Tryz.func93,rfl,rfl⟩:Jg Tryz.prog 93) rfl rfl rfl rfl ?_
   simp(maxSteps:=999999)(disch:=omega)only[go_sem,zA,zM,zS,zE,zL]
   rw[c2]
   simp(maxSteps:=999999)(disch:=omega)only[go_sem,zA,zM,zS,zE,zL]
theorem KY(p:QR)(hx:RC p):JM Tryz.prog 78 [aP p] (aP p):=
 JM.ice (Ki p hx) fun v H' ⟨c,r,S1,S2,e,h1,h2,_⟩=>by
  subst e
  have e1:∀x:Int,frzC H' (.f (.int .i64 x))=some (.f (.int .i64 x)):=fun _=>rfl
  have e2:frzC H' r=some (.f (VN eR p.rules)):=by
   rcases h2 with⟨rfl,h3,_⟩|h2
   · rw[h3];rfl
   · exact h2.frzC
  show(([_,_,_]:List CV).mapM (frzC H')).map AV.agg=_
  simp only[J3,QB,e1,e2,h1.frzC,Option.bind_eq_bind,Option.pure_def,Option.bind_some,Option.map_some]
set_option maxHeartbeats 4000000 in
theorem Br(p:QR)(xs:List Int)(hx:RC p)(hl:xs.length≤2^40):JM Tryz.prog 33 [aP p,QF xs] (.tup [aH (Vt p xs),bool (VZ p xs)]):=by
 refine Jk.cw (c:=_) Tryz.func33 rfl (n:=64) Tryz.ntmps33 (rs:=[.cell 4 59, .tmp 5]) rfl ?_
 simp only[Ja,Je,zA,zS,Jf,Jb,Jd]
 simp(maxSteps:=999999)(disch:=omega)only[go_sem,zA,zM,zS,zE,zL]
 intro g0 g4
 first|refine JU.rd (UD p xs hx hl) (⟨_,Tryz.func50,rfl,rfl⟩:Jg Tryz.prog 50) rfl rfl rfl rfl ?_|refine JG.rd (UD p xs hx hl) (⟨_,Tryz.func50,rfl,rfl⟩:Jg Tryz.prog 50) rfl rfl rfl rfl ?_
 simp(maxSteps:=999999)(disch:=omega)only[go_sem,zA,zM,zS,zE,zL]
 cases hf:WE p xs with
 |false=>
  have e:Xd p xs=none:=by unfold Xd;rw[if_neg (by rw[hf];simp)]
  have e1:Vt p xs=⟨0,0,0⟩:=by unfold Vt;rw[e];rfl
  have e2:VZ p xs=false:=by unfold VZ;rw[e];rfl
  rw[e1,e2]
  simp(maxSteps:=999999)(disch:=omega)only[go_sem,zA,zM,zS,zE,zL]
 |true=>
  obtain⟨n,hz,hp,hv,hg,ha,hfl,hcl,hlen,hl4,hl16⟩:=Fs hf
  obtain⟨qv,qp,qg⟩:=B7 hp hv hg ha
  have hbg:=XC p xs hlen.symm hl16 (fun k hk=>⟨(hg.val k hk).1,(ha.val k (by omega)).1⟩)
  rw[if_pos hcl,hcl]at hbg
  have hO:Xd p xs=Xv (QQ p xs) 1000 (Zz (QQ p xs)):=by unfold Xd;rw[if_pos hf]
  simp(maxSteps:=999999)(disch:=omega)only[go_sem,zA,zM,zS,zE,zL]
  first|refine JU.mk (KY p hx) (⟨_,Tryz.func78,rfl,rfl⟩:Jg Tryz.prog 78) rfl rfl rfl rfl rfl ?_|refine JG.mk (KY p hx) (⟨_,Tryz.func78,rfl,rfl⟩:Jg Tryz.prog 78) rfl rfl rfl rfl rfl ?_
  simp(maxSteps:=999999)(disch:=omega)only[go_sem,zA,zM,zS,zE,zL]
  intro g6
  first|refine JU.mk (hbg) (⟨_,Tryz.func37,rfl,rfl⟩:Jg Tryz.prog 37) rfl rfl rfl rfl rfl ?_|refine JG.mk (hbg) (⟨_,Tryz.func37,rfl,rfl⟩:Jg Tryz.prog 37) rfl rfl rfl rfl rfl ?_
  simp(maxSteps:=999999)(disch:=omega)only[go_sem,zA,zM,zS,zE,zL]
  first|refine JU.mk (Km qp qv qg) (⟨_,Tryz.func79,rfl,rfl⟩:Jg Tryz.prog 79) rfl rfl rfl rfl rfl ?_|refine JG.mk (Km qp qv qg) (⟨_,Tryz.func79,rfl,rfl⟩:Jg Tryz.prog 79) rfl rfl rfl rfl rfl ?_
  simp(maxSteps:=999999)(disch:=omega)only[go_sem,zA,zM,zS,zE,zL]
  have hsz:(QQ p xs).size=n:=hz
  have hgl:(QQ p xs).given.length=n*n:=qg.len
  have hsq:4≤n*n∧n*n≤16:=by rcases hp.hn with rfl|rfl|rfl<;>omega
  refine Qx (fun(f:Nat) (b:List Nat)=>f) (fun f b=>XG b n∧Xv (QQ p xs) f b=Xd p xs∧b.sum<f) (fun f b=>[.a, .a, .a, .a, .k, .a, .k, .p (QF (JN b)), .a, .a, .a, .a, .a, .a, .a, .a, .a, .a, .a, .a, .a, .a, .a, .a, .a, .a, .a, .a, .a, .a, .a, .a, .a, .a, .a, .a, .a, .a, .a, .a, .a, .a, .a, .a, .a, .a, .a, .a, .a, .a, .a, .a, .a, .a, .a, .a, .a, .a, .a, .a, .a, .a, .a, .a]) (fun _ _=>[some ⟨g0,1,cP p⟩,some ⟨g4,3,[.f (.int .i64 0), .f (.int .i64 0), .f (.int .i64 0)]⟩,some ⟨g6,3,cP (QQ p xs)⟩]) 1000 (Zz (QQ p xs)) ⟨Bw qp qg,hO.symm,by have:=(Bw qp qg).sum hp.hn;omega⟩ (by simp(maxSteps:=999999)(disch:=omega)only[go_sem,zA,zM,zS,zE,zL]) (J5.refl _) ?_
  rintro f ms ⟨hm,hO,hsum⟩
  obtain⟨f,rfl⟩:∃f',f=f'+1:=⟨f -1,by omega⟩
  have hnr:=NU qp qv ms hm
  have hok:=R3 (p:=QQ p xs) (t:=Z3 (QQ p xs) ms) hm
  have hle4:=Jh6 (QQ p xs) ms
  have hdec:=fun h=>JcE (p:=QQ p xs) hm (Jh5 (p:=QQ p xs) (ms:=ms) h)
  have hOu:Xv (QQ p xs) (f+1) ms=if Z3 (QQ p xs) ms=0 then none else match Xg (QQ p xs).given (Ue (QQ p xs) (Z3 (QQ p xs) ms) ms)with
   |some k=>some ⟨Z3 (QQ p xs) ms,k,ZH (QH (Ue (QQ p xs) (Z3 (QQ p xs) ms) ms) k)⟩
   |none=>Xv (QQ p xs) f (Ue (QQ p xs) (Z3 (QQ p xs) ms) ms):=rfl
  rw[hO]at hOu
  generalize hq:QQ p xs=q at*
  generalize Z3 q ms=t at*
  generalize Ue q t ms=ms' at*
  simp(maxSteps:=999999)(disch:=omega)only[go_sem,zA,zM,zS,zE,zL]
  first|refine JU.mk (hnr) (⟨_,Tryz.func80,rfl,rfl⟩:Jg Tryz.prog 80) rfl rfl rfl rfl rfl ?_|refine JG.mk (hnr) (⟨_,Tryz.func80,rfl,rfl⟩:Jg Tryz.prog 80) rfl rfl rfl rfl rfl ?_
  simp(maxSteps:=999999)(disch:=omega)only[go_sem,zA,zM,zS,zE,zL]
  ((first|(with_reducible first|refine Jm ?_ ?_|refine Jj ?_ ?_|refine Jo ?_ ?_)|refine Jr ?_ ?_)<;>intro h1)
  · have h1:t=0:=by omega
    rw[if_pos h1]at hOu
    have e1:Vt p xs=⟨0,0,0⟩:=by unfold Vt;rw[hOu];rfl
    have e2:VZ p xs=false:=by unfold VZ;rw[hOu];rfl
    rw[e1,e2]
    simp(maxSteps:=999999)(disch:=omega)only[go_sem,zA,zM,zS,zE,zL]
  have h1:t≠0:=fun h=>h1 (by rw[h];rfl)
  rw[if_neg h1]at hOu
  rw[if_neg h1]
  have hml:(JN ms').length=n*n:=by rw[Qm];exact hok.len
  simp(maxSteps:=999999)(disch:=omega)only[go_sem,zA,zM,zS,zE,zL]
  rw[hml]
  refine JO (fun k:Nat=>n*n -k) (fun k=>k≤n*n∧∀j:Nat,j<k→¬(ZH (QH ms' j)≠0∧Jy q.given j=0)) (fun k=>[.a, .a, .a, .a, .k, .a, .k, .k, .a, .k, .a, .a, .a, .a, .a, .a, .a, .a, .a, .a, .a, .a, .a, .a, .a, .a, .a, .a, .a, .a, .a, .a, .a, .a, .a, .a, .a, .a, .a, .a, .k, .k, .p (int k), .a, .a, .a, .a, .a, .a, .a, .a, .a, .a, .a, .a, .a, .a, .a, .a, .a, .a, .a, .a, .a]) (fun _=>[some ⟨g0,1,cP p⟩,some ⟨g4,3,[.f (.int .i64 0), .f (.int .i64 0), .f (.int .i64 0)]⟩,some ⟨g6,3,cP q⟩]) 0 ⟨Nat.zero_le _,fun j hj=>absurd hj (Nat.not_lt_zero _)⟩ (by simp(maxSteps:=999999)(disch:=omega)only[go_sem,zA,zM,zS,zE,zL];rfl) (J5.refl _) ?_
  rintro k ⟨hk,hno⟩
  simp(maxSteps:=999999)(disch:=omega)only[go_sem,zA,zM,zS,zE,zL]
  ((first|(with_reducible first|refine Jm ?_ ?_|refine Jj ?_ ?_|refine Jo ?_ ?_)|refine Jr ?_ ?_)<;>intro h2)
  · have h2:k<n*n:=by omega
    have hmk:=hok.lt hp.hn k
    have hnk:=Q4 ms' k
    have hgo:¬(ZH (QH ms' k)≠0∧Jy q.given k=0)→∀j:Nat,j<k+1→¬(ZH (QH ms' j)≠0∧Jy q.given j=0):=fun h j hj=>by
     by_cases hjk:j=k
     · rw[hjk];exact h
     · exact hno j (by omega)
    simp(maxSteps:=999999)(disch:=omega)only[go_sem,zA,zM,zS,zE,zL,hnk]
    first|refine JU.rd (Wm (QH ms' k) hmk.1) (⟨_,Tryz.func81,rfl,rfl⟩:Jg Tryz.prog 81) rfl rfl rfl rfl ?_|refine JG.rd (Wm (QH ms' k) hmk.1) (⟨_,Tryz.func81,rfl,rfl⟩:Jg Tryz.prog 81) rfl rfl rfl rfl ?_
    simp(maxSteps:=999999)(disch:=omega)only[go_sem,zA,zM,zS,zE,zL]
    ((with_reducible first|refine JL ?_ ?_|refine JD ?_ ?_|refine JT ?_ ?_|refine Jv ?_ ?_|refine JJ ?_ ?_|refine JK ?_ ?_|refine JB ?_ ?_|refine JC ?_ ?_|refine JR ?_ ?_|refine JS ?_ ?_|refine Jw ?_ ?_|refine Jx ?_ ?_)<;>intro h3<;>simp(maxSteps:=999999)(disch:=omega)only[go_sem,zA,zM,zS,zE,zL,h3])
    · ((first|(with_reducible first|refine Jm ?_ ?_|refine Jj ?_ ?_|refine Jo ?_ ?_)|refine Jr ?_ ?_)<;>intro h4)
      · have hfs:=Ft (gv:=q.given) (by rw[hok.len];exact h2) ⟨by omega,h4⟩ hno
        rw[hfs]at hOu
        have e1:Vt p xs=⟨t,k,ZH (QH ms' k)⟩:=by unfold Vt;rw[hOu];rfl
        have e2:VZ p xs=true:=by unfold VZ;rw[hOu];rfl
        rw[e1,e2]
        simp(maxSteps:=999999)(disch:=omega)only[go_sem,zA,zM,zS,zE,zL]
      · simp(maxSteps:=999999)(disch:=omega)only[go_sem,zA,zM,zS,zE,zL]
        exact⟨k+1,⟨⟨by omega,hgo fun h=>h4 h.2⟩,by omega⟩,by push_cast;rfl,J5.refl _⟩
    · exact⟨k+1,⟨⟨by omega,hgo fun h=>h3 (by omega)⟩,by omega⟩,by push_cast;rfl,J5.refl _⟩
  · have hke:k=n*n:=by omega
    have hfn:=Kc (gv:=q.given) (ms:=ms') fun j hj=>hno j (by have:=hok.len;omega)
    rw[hfn]at hOu
    simp(maxSteps:=999999)(disch:=omega)only[go_sem,zA,zM,zS,zE,zL]
    exact⟨f,ms',⟨⟨hok,hOu.symm,by have:=hdec h1;omega⟩,by omega⟩,rfl,J5.refl _⟩
set_option maxHeartbeats 4000000 in
theorem KI(p:QR)(xs:List Int)(hx:RC p)(hl:xs.length≤2^40):JM Tryz.prog 74 [aP p,QF xs] (.tup [aH (Vt p xs),bool (VZ p xs)]):=by
 refine Jk.cw (c:=_) Tryz.func74 rfl (n:=65) Tryz.ntmps74 (rs:=[.cell 4 59, .tmp 5]) rfl ?_
 simp only[Ja,Je,zA,zS,Jf,Jb,Jd]
 simp(maxSteps:=999999)(disch:=omega)only[go_sem,zA,zM,zS,zE,zL]
 intro g0 g4
 first|refine JU.rd (ZO p xs hx hl) (⟨_,Tryz.func103,rfl,rfl⟩:Jg Tryz.prog 103) rfl rfl rfl rfl ?_|refine JG.rd (ZO p xs hx hl) (⟨_,Tryz.func103,rfl,rfl⟩:Jg Tryz.prog 103) rfl rfl rfl rfl ?_
 simp(maxSteps:=999999)(disch:=omega)only[go_sem,zA,zM,zS,zE,zL]
 rw[show(JA p&&(Qc xs p.size&&QJ p xs p.size.toNat))=WE p xs from rfl]
 cases hf:WE p xs with
 |false=>
  have e:Xd p xs=none:=by unfold Xd;rw[if_neg (by rw[hf];simp)]
  have e1:Vt p xs=⟨0,0,0⟩:=by unfold Vt;rw[e];rfl
  have e2:VZ p xs=false:=by unfold VZ;rw[e];rfl
  rw[e1,e2]
  simp(maxSteps:=999999)(disch:=omega)only[go_sem,zA,zM,zS,zE,zL]
 |true=>
  obtain⟨n,hz,hp,hv,hg,ha,hfl,hcl,hlen,hl4,hl16⟩:=Fs hf
  obtain⟨qv,qp,qg⟩:=B7 hp hv hg ha
  have hO:Xd p xs=Xv (QQ p xs) 1000 (Zz (QQ p xs)):=by unfold Xd;rw[if_pos hf]
  simp(maxSteps:=999999)(disch:=omega)only[go_sem,zA,zM,zS,zE,zL]
  first|refine JU.mk (Xt p xs (by omega) (by omega) (by omega)) (⟨_,Tryz.func104,rfl,rfl⟩:Jg Tryz.prog 104) rfl rfl rfl rfl rfl ?_|refine JG.mk (Xt p xs (by omega) (by omega) (by omega)) (⟨_,Tryz.func104,rfl,rfl⟩:Jg Tryz.prog 104) rfl rfl rfl rfl rfl ?_
  simp(maxSteps:=999999)(disch:=omega)only[go_sem,zA,zM,zS,zE,zL]
  intro g6
  first|refine JU.mk (Yx qp qv qg) (⟨_,Tryz.func105,rfl,rfl⟩:Jg Tryz.prog 105) rfl rfl rfl rfl rfl ?_|refine JG.mk (Yx qp qv qg) (⟨_,Tryz.func105,rfl,rfl⟩:Jg Tryz.prog 105) rfl rfl rfl rfl rfl ?_
  simp(maxSteps:=999999)(disch:=omega)only[go_sem,zA,zM,zS,zE,zL]
  have hsz:(QQ p xs).size=n:=hz
  have hgl:(QQ p xs).given.length=n*n:=qg.len
  have hsq:4≤n*n∧n*n≤16:=by rcases hp.hn with rfl|rfl|rfl<;>omega
  have hst:Xg (QQ p xs).given (Zz (QQ p xs))=none:=by
   refine Kc fun j hj ⟨h1,h2⟩=> ?_
   have hjl:j<(QQ p xs).given.length:=by unfold Zz at hj;rw[Qi]at hj;exact hj
   rw[Bx hjl,h2,if_neg (by omega)]at h1
   have hz2:(QQ p xs).size.toNat=n:=by rw[hsz];rfl
   rw[hz2]at h1
   have hn:=hp.hn
   rcases hn with rfl|rfl|rfl<;>exact h1 rfl
  have hm0:=Bw qp qg
  generalize Zz (QQ p xs)=s0 at hO hst hm0⊢
  generalize hq:QQ p xs=q at*
  have hO0:Xd p xs=match Xg q.given s0 with
   |some k=>some ⟨0,k,ZH (QH s0 k)⟩
   |none=>Xv q 1000 s0:=by rw[hst];exact hO
  have hs0:s0.sum<1000:=by have:=hm0.sum hp.hn;omega
  refine Qx (fun(i:Nat×Nat) (b:List Nat×Nat)=>6*i.1+(5 -i.2)) (fun i b=>XG b.1 n∧(Xd p xs=match Xg q.given b.1 with
   |some k=>some ⟨b.2,k,ZH (QH b.1 k)⟩
   |none=>Xv q i.1 b.1)∧b.1.sum<i.1∧(1≤i.2∧i.2≤5)∧(∀u,1≤u→u<i.2→Ue q u b.1=b.1)∧(1<i.2→Xg q.given b.1=none)) (fun i b=>[.a, .a, .a, .a, .k, .a, .k, .p (QF (JN b.1)), .p (int b.2), .p (int i.2), .a, .a, .a, .a, .a, .a, .a, .a, .a, .a, .a, .a, .a, .a, .a, .a, .a, .a, .a, .a, .a, .a, .a, .a, .a, .a, .a, .a, .a, .a, .a, .a, .a, .a, .a, .a, .a, .a, .a, .a, .a, .a, .a, .a, .a, .a, .a, .a, .a, .a, .a, .a, .a, .a, .a]) (fun _ _=>[some ⟨g0,1,cP p⟩,some ⟨g4,3,[.f (.int .i64 0), .f (.int .i64 0), .f (.int .i64 0)]⟩,some ⟨g6,3,cP q⟩]) (1000,1) (s0,0) ⟨hm0,hO0,hs0,⟨Nat.le_refl _,by show 1≤5;omega⟩,fun u h1 h2=>by have h2:u<1:=h2;omega,fun _=>hst⟩ (by simp(maxSteps:=999999)(disch:=omega)only[go_sem,zA,zM,zS,zE,zL];first|rfl|exact⟨rfl,rfl⟩) (J5.refl _) ?_
  rintro⟨f,t⟩ ⟨ms,last⟩ ⟨hm,hO,hsum,ht,hall,hfn⟩
  simp only at hm hO hsum ht hall hfn⊢
  have hml:(JN ms).length=n*n:=by rw[Qm];exact hm.len
  simp(maxSteps:=999999)(disch:=omega)only[go_sem,zA,zM,zS,zE,zL]
  ((first|(with_reducible first|refine Jm ?_ ?_|refine Jj ?_ ?_|refine Jo ?_ ?_)|refine Jr ?_ ?_)<;>intro h1)
  rotate_left
  · have h1:t=5:=by omega
    rw[hfn (by omega)]at hO
    have hO:Xd p xs=none:=hO.trans (Jiy (JcB fun u u1 u2=>hall u u1 (by omega)))
    have e1:Vt p xs=⟨0,0,0⟩:=by unfold Vt;rw[hO];rfl
    have e2:VZ p xs=false:=by unfold VZ;rw[hO];rfl
    rw[e1,e2]
    simp(maxSteps:=999999)(disch:=omega)only[go_sem,zA,zM,zS,zE,zL]
  have h1:t≤4:=by omega
  simp(maxSteps:=999999)(disch:=omega)only[go_sem,zA,zM,zS,zE,zL]
  refine JO (fun k:Nat=>n*n -k) (fun k=>k≤n*n∧∀j:Nat,j<k→¬(ZH (QH ms j)≠0∧Jy q.given j=0)) (fun k=>[.a, .a, .a, .a, .k, .a, .k, .k, .k, .k, .p (int k), .a, .a, .a, .a, .a, .a, .a, .a, .a, .a, .a, .a, .a, .a, .a, .a, .a, .a, .a, .a, .a, .a, .a, .a, .a, .a, .a, .a, .a, .a, .a, .a, .a, .a, .a, .a, .a, .a, .a, .a, .a, .a, .a, .a, .a, .a, .a, .a, .a, .a, .a, .a, .a, .a]) (fun _=>[some ⟨g0,1,cP p⟩,some ⟨g4,3,[.f (.int .i64 0), .f (.int .i64 0), .f (.int .i64 0)]⟩,some ⟨g6,3,cP q⟩]) 0 ⟨Nat.zero_le _,fun j hj=>absurd hj (Nat.not_lt_zero _)⟩ (by simp(maxSteps:=999999)(disch:=omega)only[go_sem,zA,zM,zS,zE,zL];rfl) (J5.refl _) ?_
  rintro k ⟨hk,hno⟩
  simp(maxSteps:=999999)(disch:=omega)only[go_sem,zA,zM,zS,zE,zL]
  ((first|(with_reducible first|refine Jm ?_ ?_|refine Jj ?_ ?_|refine Jo ?_ ?_)|refine Jr ?_ ?_)<;>intro h2)
  · have h2:k<n*n:=by omega
    have hmk:=hm.lt hp.hn k
    have hnk:=Q4 ms k
    have hmo:=GI hmk
    have hgo:¬(ZH (QH ms k)≠0∧Jy q.given k=0)→∀j:Nat,j<k+1→¬(ZH (QH ms j)≠0∧Jy q.given j=0):=fun h j hj=>by
     by_cases hjk:j=k
     · rw[hjk];exact h
     · exact hno j (by omega)
    simp(maxSteps:=999999)(disch:=omega)only[go_sem,zA,zM,zS,zE,zL,hnk]
    first|refine JU.mk (ZZ (QH ms k) hmk) (⟨_,Tryz.func106,rfl,rfl⟩:Jg Tryz.prog 106) rfl rfl rfl rfl rfl ?_|refine JG.mk (ZZ (QH ms k) hmk) (⟨_,Tryz.func106,rfl,rfl⟩:Jg Tryz.prog 106) rfl rfl rfl rfl rfl ?_
    simp(maxSteps:=999999)(disch:=omega)only[go_sem,zA,zM,zS,zE,zL]
    ((with_reducible first|refine JL ?_ ?_|refine JD ?_ ?_|refine JT ?_ ?_|refine Jv ?_ ?_|refine JJ ?_ ?_|refine JK ?_ ?_|refine JB ?_ ?_|refine JC ?_ ?_|refine JR ?_ ?_|refine JS ?_ ?_|refine Jw ?_ ?_|refine Jx ?_ ?_)<;>intro h3<;>simp(maxSteps:=999999)(disch:=omega)only[go_sem,zA,zM,zS,zE,zL,h3])
    · ((first|(with_reducible first|refine Jm ?_ ?_|refine Jj ?_ ?_|refine Jo ?_ ?_)|refine Jr ?_ ?_)<;>intro h4)
      · have h4:ZH (QH ms k)≠0:=hmo.1.1 (by omega)
        have hfs:=Ft (gv:=q.given) (by rw[hm.len];exact h2) ⟨h4,h3⟩ hno
        rw[hfs]at hO
        have e1:Vt p xs=⟨last,k,ZH (QH ms k)⟩:=by unfold Vt;rw[hO];rfl
        have e2:VZ p xs=true:=by unfold VZ;rw[hO];rfl
        have hld:∀H,Fq H (.fp (fl (eI .i64) [((ZH (QH ms k):Nat):Int)]) (Int.toNat 0*1))=some (int (ZH (QH ms k):Nat)):=fun _=>rfl
        rw[e1,e2,(hmo.2 h4).1]
        simp(maxSteps:=999999)(disch:=omega)only[go_sem,zA,zM,zS,zE,zL,hld]
      · simp(maxSteps:=999999)(disch:=omega)only[go_sem,zA,zM,zS,zE,zL]
        exact⟨k+1,⟨⟨by omega,hgo fun h=>h4 (by rw[hmo.1.2 h.1];rfl)⟩,by omega⟩,by push_cast;rfl,J5.refl _⟩
    · exact⟨k+1,⟨⟨by omega,hgo fun h=>h3 h.2⟩,by omega⟩,by push_cast;rfl,J5.refl _⟩
  · have hke:k=n*n:=by omega
    have hfn:=Kc (gv:=q.given) (ms:=ms) fun j hj=>hno j (by have:=hm.len;omega)
    rw[hfn]at hO
    have hO:Xd p xs=Xv q f ms:=hO
    have hnl:=(R3 (p:=q) (t:=t) hm).len
    simp(maxSteps:=999999)(disch:=omega)only[go_sem,zA,zM,zS,zE,zL]
    first|refine JU.mk (KJ qp qv ms hm t ⟨ht.1,h1⟩) (⟨_,Tryz.func107,rfl,rfl⟩:Jg Tryz.prog 107) rfl rfl rfl rfl rfl ?_|refine JG.mk (KJ qp qv ms hm t ⟨ht.1,h1⟩) (⟨_,Tryz.func107,rfl,rfl⟩:Jg Tryz.prog 107) rfl rfl rfl rfl rfl ?_
    simp(maxSteps:=999999)(disch:=omega)only[go_sem,zA,zM,zS,zE,zL]
    first|refine JU.rd (GW (JN (Ue q t ms)) (JN ms) (by rw[Qm];omega)) (⟨_,Tryz.func108,rfl,rfl⟩:Jg Tryz.prog 108) rfl rfl rfl rfl ?_|refine JG.rd (GW (JN (Ue q t ms)) (JN ms) (by rw[Qm];omega)) (⟨_,Tryz.func108,rfl,rfl⟩:Jg Tryz.prog 108) rfl rfl rfl rfl ?_
    simp(maxSteps:=999999)(disch:=omega)only[go_sem,zA,zM,zS,zE,zL]
    ((first|(with_reducible first|refine Jm ?_ ?_|refine Jj ?_ ?_|refine Jo ?_ ?_)|refine Jr ?_ ?_)<;>intro h5)
    · have h5:Ue q t ms=ms:=JcD.1 h5
      simp(maxSteps:=999999)(disch:=omega)only[go_sem,zA,zM,zS,zE,zL]
      refine⟨(f,t+1),(ms,last),⟨⟨hm, ?_,hsum,⟨by omega,by omega⟩,fun u u1 u2=> ?_,fun _=>hfn⟩,by simp only;omega⟩,⟨rfl,rfl,by push_cast;rfl⟩,J5.refl _⟩
      · rw[hfn];exact hO
      · by_cases hut:u=t
        · rw[hut];exact h5
        · exact hall u u1 (by simp only at u2;omega)
    · have h5:Ue q t ms≠ms:=fun h=>h5 (by rw[h])
      have hnx:=JcC ⟨ht.1,h1⟩ hall h5
      have hdec:=JcE (p:=q) hm h5
      obtain⟨f,rfl⟩:∃f',f=f'+1:=⟨f -1,by omega⟩
      have hOu:Xv q (f+1) ms=if Z3 q ms=0 then none else match Xg q.given (Ue q (Z3 q ms) ms)with
       |some k=>some ⟨Z3 q ms,k,ZH (QH (Ue q (Z3 q ms) ms) k)⟩
       |none=>Xv q f (Ue q (Z3 q ms) ms):=rfl
      rw[hnx,if_neg (by omega)]at hOu
      simp(maxSteps:=999999)(disch:=omega)only[go_sem,zA,zM,zS,zE,zL]
      exact⟨(f,1),(Ue q t ms,t),⟨⟨R3 hm,hO.trans hOu,by simp only;omega,⟨Nat.le_refl _,by show 1≤5;omega⟩,fun u u1 u2=>by simp only at u2;omega,fun h=>by simp only at h;omega⟩,by simp only;omega⟩,by first|rfl|exact⟨rfl,rfl⟩|exact⟨rfl,rfl,rfl⟩,J5.refl _⟩
end Go.Lg

namespace Go.Lg
open Go.Proofs
theorem X5(p:QR)(xs:List Int)(hx:RC p)(hl:xs.length≤2^40):JM Tryz.prog 52 [aP p,QF xs] (bool (Ux p xs)):=by
 refine Jk.cw (c:=_) Tryz.func52 rfl (n:=17) Tryz.ntmps52 (rs:=[.tmp 4]) rfl ?_
 simp only[Ja,Je,zA,zS,Jf,Jb,Jd]
 simp(maxSteps:=999999)(disch:=omega)only[go_sem,zA,zM,zS,zE,zL]
 intro g
 first|refine JU.rd (UD p xs hx hl) (⟨_,Tryz.func50,rfl,rfl⟩:Jg Tryz.prog 50) rfl rfl rfl rfl ?_|refine JG.rd (UD p xs hx hl) (⟨_,Tryz.func50,rfl,rfl⟩:Jg Tryz.prog 50) rfl rfl rfl rfl ?_
 simp(maxSteps:=999999)(disch:=omega)only[go_sem,zA,zM,zS,zE,zL]
 cases h:WE p xs with
 |false=>
  have e:Ux p xs=false:=by unfold Ux;unfold WE at h;rw[h];rfl
  rw[e]
  simp(maxSteps:=999999)(disch:=omega)only[go_sem,zA,zM,zS,zE,zL]
 |true=>
  have e:Ux p xs=decide (ZU xs p.size=xs.length):=by unfold Ux;unfold WE at h;rw[h];rfl
  rw[e]
  simp(maxSteps:=999999)(disch:=omega)only[go_sem,zA,zM,zS,zE,zL]
  first|refine JU.rd (Xj xs p.size hl) (⟨_,Tryz.func43,rfl,rfl⟩:Jg Tryz.prog 43) rfl rfl rfl rfl ?_|refine JG.rd (Xj xs p.size hl) (⟨_,Tryz.func43,rfl,rfl⟩:Jg Tryz.prog 43) rfl rfl rfl rfl ?_
  simp(maxSteps:=999999)(disch:=omega)only[go_sem,zA,zM,zS,zE,zL]
end Go.Lg

namespace Go.Lg
open Go.Proofs
theorem JdT{p:QR}(hv:JA p=true):Uq p p.size.toNat∧Zd p.given p.size.toNat:=by
 obtain⟨hp,hz⟩:=Uq.of hv
 refine⟨hp, ?_⟩
 simp only[JA,Bool.and_eq_true,decide_eq_true_eq]at hv
 exact Zd.of hp.hn (by rw[hz];exact hv.1)
end Go.Lg

namespace Go.Lg
open Go.Proofs
structure UM(q:QU)(n:Nat):Prop where
 pz:Uq q.task n
 pv:JA q.task=true
 sz:q.task.size=n
 gv:Zd q.task.given n
 pt:Zd q.put n
 ln:q.put.length=q.task.given.length
 ok:Wg q
theorem UM.of{q:QU}(h:Qp q=true):∃n,UM q n:=by
 obtain⟨h1,h2,h3,h4,h5,h6⟩:=Zf h
 obtain⟨hp,hz⟩:=Uq.of h1
 have hg:=(JdT h1).2
 refine⟨q.task.size.toNat,hp,h1,by omega,hg, ?_,h5,h4⟩
 have hb:=Qv h2
 exact⟨by rw[h5];exact hg.len,fun k hk=>by have:=hb.2.2.2.2 k hk;omega⟩
theorem UM.len{q:QU}{n:Nat}(h:UM q n):4≤q.put.length∧q.put.length≤16∧q.moves.length≤16:=by
 have hn:=h.pz.hn
 have h1:=h.pt.len
 have h2:=UV _ _ h.ok.1 h.ok.2.1
 have h3:(ZR q.put).length≤q.put.length:=by rw[YC];exact List.countP_le_length
 rcases hn with rfl|rfl|rfl<;>omega
theorem UM.valid{q:QU}{n:Nat}(h:UM q n):Qp q=true:=by
 have h1:=h.pt.valid h.pz.hn
 have h2:=h.len
 simp only[Qp,Bool.and_eq_true,decide_eq_true_eq]
 exact⟨h.pv,by rw[h.sz];exact h1,by omega,h.ok⟩
theorem UM.smG{q:QU}{n:Nat}(h:UM q n)(hp:RC q.task):Lg.smG q:=by
 have h2:=h.len
 exact⟨hp,by omega,by omega⟩
theorem UM.grid{q:QU}{n:Nat}(h:UM q n):JY q=Kl q.task.given q.put:=by
 unfold JY
 rw[if_pos h.valid]
theorem UM.one{q:QU}{n:Nat}(h:UM q n)(i:Nat)(hi:i<q.put.length):¬(0<Jy q.put i∧0<Jy q.task.given i):=fun⟨h1,h2⟩=>by
 have:=(h.ok.2.2 i (Qs.2 ⟨by omega,by omega,h1⟩)).2
 omega
theorem Jcs{q:QU}{n:Nat}{c v:Int}(h:UM q n)(ok:U6 q c v):∃i:Nat,c=i∧i<q.put.length∧Jy q.put i=0∧Jy q.task.given i=0∧1≤v∧v≤n:=by
 obtain⟨h1,h2,h3,h4,h5⟩:=ok
 obtain⟨i,rfl⟩:∃i:Nat,c=i:=⟨c.toNat,by omega⟩
 have hi:i<q.put.length:=by omega
 obtain⟨k1,k2,k3,_⟩:=Jbx h.valid hi
 have:=k1.1 h3
 exact⟨i,rfl,hi,by omega,by omega,h4,by rw[←h.sz];exact h5⟩
theorem JhM{q:QU}{n i:Nat}{v:Int}(h:UM q n)(hi:i<q.put.length)(h1:Jy q.put i=0)(h2:Jy q.task.given i≤0)(hv:1≤v∧v≤n):U6 q i v:=by
 obtain⟨k1,k2,k3,_⟩:=Jbx h.valid hi
 exact⟨by omega,by omega,k1.2 (by omega),hv.1,by rw[h.sz];exact hv.2⟩
theorem UM.put{q:QU}{n i:Nat}{v:Int}(h:UM q n)(hi:i<q.put.length)(h1:Jy q.put i=0)(h2:Jy q.task.given i≤0)(hv:1≤v∧v≤n):UM ⟨q.task,q.put.set i v,q.moves++[(i:Int)]⟩ n:=by
 have hs:∀k:Nat,Jy (q.put.set i v) k=if k=i then v else Jy q.put k:=fun k=>Za _ _ _ _ hi
 have hnot:(i:Int)∉q.moves:=fun hm=>by
  have:=(Qs.1 (h.ok.2.1 _ hm)).2.2
  omega
 refine⟨h.pz,h.pv,h.sz,h.gv,⟨by rw[Jp];exact h.pt.len,fun k hk=> ?_⟩,by rw[Jp];exact h.ln, ?_, ?_, ?_⟩
 · rw[Jp]at hk
   show 0≤Jy (q.put.set i v) k∧Jy (q.put.set i v) k≤n
   rw[hs]
   split
   · omega
   · exact h.pt.val k hk
 · exact JZ.2 ⟨h.ok.1,by simp,fun a ha b hb he=>by
    rw[List.mem_singleton]at hb
    subst hb
    exact hnot (he▸ha)⟩
 · intro c hc
   show c∈ZR (q.put.set i v)
   rcases JI.1 hc with hc|hc
   · obtain⟨k1,k2,k3⟩:=Qs.1 (h.ok.2.1 c hc)
     obtain⟨k,rfl⟩:∃k:Nat,c=k:=⟨c.toNat,by omega⟩
     refine Qs.2 ⟨k1,by rw[Jp];exact k2, ?_⟩
     rw[hs,if_neg (fun(he:k=i)=>hnot (by rw[←he];exact hc))]
     exact k3
   · rw[List.mem_singleton]at hc
     subst hc
     refine Qs.2 ⟨by omega,by rw[Jp];omega, ?_⟩
     rw[hs,if_pos rfl]
     omega
 · intro c hc
   obtain⟨k1,k2,k3⟩:=Qs.1 (show c∈ZR (q.put.set i v)from hc)
   obtain⟨k,rfl⟩:∃k:Nat,c=k:=⟨c.toNat,by omega⟩
   rw[Jp]at k2
   rw[hs]at k3
   by_cases hk:k=i
   · subst hk
     exact⟨by simp,h2⟩
   · rw[if_neg hk]at k3
     obtain⟨m1,m2⟩:=h.ok.2.2 k (Qs.2 ⟨k1,k2,k3⟩)
     exact⟨by simp[m1],m2⟩
theorem Jh2(ms:List Int)(i:Int):Jy (ms++[i]) (((ms++[i]).length:Int) -1)=i:=by
 rw[show(((ms++[i]).length:Int) -1)=((ms.length:Nat):Int) by simp]
 rw[Qe (by simp;omega)]
 simp
theorem Jbb{q:QU}{n:Nat}{c v:Int}(h:UM q n)(ok:U6 q c v):Zn q c v=⟨q.task,q.put.set c.toNat v,q.moves++[c]⟩∧Zc q c v=true:=by
 unfold Zn Zc
 rw[h.valid,if_pos rfl,if_pos ok]
 exact⟨rfl,by simp[ok]⟩
theorem Jlt{q:QU}{n:Nat}{c v:Int}(h:UM q n)(ok:¬U6 q c v):Zn q c v=q∧Zc q c v=false:=by
 unfold Zn Zc
 rw[h.valid,if_pos rfl,if_neg ok]
 exact⟨rfl,by simp[ok]⟩
theorem JfT{q:QU}{n:Nat}{c v:Int}(h:UM q n):UM (Zn q c v) n:=by
 by_cases ok:U6 q c v
 · obtain⟨i,rfl,hi,h1,h2,h3,h4⟩:=Jcs h ok
   rw[(Jbb h ok).1,Int.toNat_natCast]
   exact h.put hi h1 (by omega) ⟨h3,h4⟩
 · rw[(Jlt h ok).1]
   exact h
theorem Jeu{q:QU}{n:Nat}(h:UM q n)(hm:q.moves≠[]):UM (Qz q) n∧∃i:Nat,Jy q.moves ((q.moves.length:Int) -1)=i∧i<q.put.length∧Zn (Qz q) i (Jy q.put i)=q∧Zc (Qz q) i (Jy q.put i)=true∧(Qz q).moves.length+1=q.moves.length:=by
 rcases List.eq_nil_or_concat q.moves with he|⟨ms,c,he⟩
 · exact absurd he hm
 rw[List.concat_eq_append]at he
 have hl:Jy q.moves ((q.moves.length:Int) -1)=c:=by rw[he];exact Jh2 _ _
 have hc:c∈q.moves:=by rw[he];simp
 obtain⟨k1,k2,k3⟩:=Qs.1 (h.ok.2.1 c hc)
 obtain⟨i,rfl⟩:∃i:Nat,c=i:=⟨c.toNat,by omega⟩
 have hi:i<q.put.length:=by omega
 have hgv:=(h.ok.2.2 (i:Int) (Qs.2 ⟨k1,k2,k3⟩)).2
 have hnd:=h.ok.1
 rw[he]at hnd
 obtain⟨n1,_,n3⟩:=JZ.1 hnd
 have hnot:(i:Int)∉ms:=fun hx=>n3 _ hx _ (by simp) rfl
 have hb:Qz q=⟨q.task,q.put.set i 0,ms⟩:=by
  unfold Qz
  rw[if_pos h.valid,if_neg hm,hl,Int.toNat_natCast,he]
  simp
 have hs:∀k:Nat,Jy (q.put.set i 0) k=if k=i then 0 else Jy q.put k:=fun k=>Za _ _ _ _ hi
 have hN:UM (Qz q) n:=by
  rw[hb]
  refine⟨h.pz,h.pv,h.sz,h.gv,⟨by rw[Jp];exact h.pt.len,fun k hk=> ?_⟩,by rw[Jp];exact h.ln,n1, ?_, ?_⟩
  · rw[Jp]at hk
    show 0≤Jy (q.put.set i 0) k∧Jy (q.put.set i 0) k≤n
    rw[hs]
    split
    · omega
    · exact h.pt.val k hk
  · intro c hc
    show c∈ZR (q.put.set i 0)
    have hc:c∈ms:=hc
    obtain⟨j1,j2,j3⟩:=Qs.1 (h.ok.2.1 c (by rw[he];simp[hc]))
    obtain⟨k,rfl⟩:∃k:Nat,c=k:=⟨c.toNat,by omega⟩
    refine Qs.2 ⟨j1,by rw[Jp];exact j2, ?_⟩
    rw[hs,if_neg (fun(he:k=i)=>hnot (by rw[←he];exact hc))]
    exact j3
  · intro c hc
    obtain⟨j1,j2,j3⟩:=Qs.1 (show c∈ZR (q.put.set i 0)from hc)
    obtain⟨k,rfl⟩:∃k:Nat,c=k:=⟨c.toNat,by omega⟩
    rw[Jp]at j2
    rw[hs]at j3
    by_cases hk:k=i
    · rw[if_pos hk]at j3
      omega
    · rw[if_neg hk]at j3
      obtain⟨m1,m2⟩:=h.ok.2.2 k (Qs.2 ⟨j1,j2,j3⟩)
      rw[he]at m1
      refine⟨?_,m2⟩
      rcases JI.1 m1 with m1|m1
      · exact m1
      · rw[List.mem_singleton]at m1
        omega
 have hv:=h.pt.val i hi
 have ok:U6 (Qz q) i (Jy q.put i):=by
  refine JhM hN ?_ ?_ ?_ ⟨by omega,hv.2⟩
  · rw[hb];show i<(q.put.set i 0).length;rw[Jp];exact hi
  · rw[hb];show Jy (q.put.set i 0) i=0;rw[hs,if_pos rfl]
  · rw[hb];exact hgv
 refine⟨hN,i,hl,hi, ?_,(Jbb hN ok).2,by rw[hb,he];simp⟩
 rw[(Jbb hN ok).1,hb,Int.toNat_natCast]
 show QU.mk q.task ((q.put.set i 0).set i (Jy q.put i)) (ms++[(i:Int)])=q
 rw[List.set_set,Gl rfl,←he]
theorem Jet{q:QU}{n:Nat}(h:UM q n):UM (Qz q) n:=by
 by_cases hm:q.moves=[]
 · have:Qz q=q:=by unfold Qz;rw[if_pos h.valid,if_pos hm]
   rw[this]
   exact h
 · exact(Jeu h hm).1
end Go.Lg

namespace Go.Lg
open Go.Proofs
def Jbt(h:Hnt):Prop:=(0≤h.tech∧h.tech≤4)∧(0≤h.cell∧h.cell≤15)∧(1≤h.val∧h.val≤4)
instance(h:Hnt):Decidable (Jbt h):=by unfold Jbt;infer_instance
def JcU(h:Hnt):List UInt8:=[99,101,108,108,32]++[u8 (97+h.cell)]++[32,105,115,32]++[u8 (48+h.val)]++[32,98,121,32]++[u8 (48+h.tech)]
def V8(h:Hnt):List UInt8:=if Jbt h then JcU h else[]
theorem KK(h:Hnt):JM Tryz.prog 75 [aH h] (W0 (V8 h)):=by
 refine Jk.cw (c:=_) Tryz.func75 rfl (n:=42) Tryz.ntmps75 (rs:=[.tmp 2]) rfl ?_
 simp only[Ja,Je,zA,zS,Jf,Jb,Jd]
 simp(maxSteps:=999999)(disch:=omega)only[go_sem,zA,zM,zS,zE,zL]
 intro g
 first|refine JU.rd (QE _ _ _) (⟨_,Tryz.func40,rfl,rfl⟩:Jg Tryz.prog 40) rfl rfl rfl rfl ?_|refine JG.rd (QE _ _ _) (⟨_,Tryz.func40,rfl,rfl⟩:Jg Tryz.prog 40) rfl rfl rfl rfl ?_
 simp(maxSteps:=999999)(disch:=omega)only[go_sem,zA,zM,zS,zE,zL]
 by_cases k1:0≤h.tech∧h.tech≤4
 rotate_left
 · have e:V8 h=[]:=by unfold V8;rw[if_neg (fun hk=>k1 hk.1)]
   have d1:decide (0≤h.tech∧h.tech≤4)=false:=decide_eq_false k1
   rw[e]
   simp(maxSteps:=999999)(disch:=omega)only[go_sem,zA,zM,zS,zE,zL,d1]
 have d1:decide (0≤h.tech∧h.tech≤4)=true:=decide_eq_true k1
 simp(maxSteps:=999999)(disch:=omega)only[go_sem,zA,zM,zS,zE,zL,d1]
 first|refine JU.rd (QE _ _ _) (⟨_,Tryz.func40,rfl,rfl⟩:Jg Tryz.prog 40) rfl rfl rfl rfl ?_|refine JG.rd (QE _ _ _) (⟨_,Tryz.func40,rfl,rfl⟩:Jg Tryz.prog 40) rfl rfl rfl rfl ?_
 simp(maxSteps:=999999)(disch:=omega)only[go_sem,zA,zM,zS,zE,zL]
 by_cases k2:0≤h.cell∧h.cell≤15
 rotate_left
 · have e:V8 h=[]:=by unfold V8;rw[if_neg (fun hk=>k2 hk.2.1)]
   have d1:decide (0≤h.cell∧h.cell≤15)=false:=decide_eq_false k2
   rw[e]
   simp(maxSteps:=999999)(disch:=omega)only[go_sem,zA,zM,zS,zE,zL,d1]
 have d2:decide (0≤h.cell∧h.cell≤15)=true:=decide_eq_true k2
 simp(maxSteps:=999999)(disch:=omega)only[go_sem,zA,zM,zS,zE,zL,d2]
 first|refine JU.rd (QE _ _ _) (⟨_,Tryz.func40,rfl,rfl⟩:Jg Tryz.prog 40) rfl rfl rfl rfl ?_|refine JG.rd (QE _ _ _) (⟨_,Tryz.func40,rfl,rfl⟩:Jg Tryz.prog 40) rfl rfl rfl rfl ?_
 simp(maxSteps:=999999)(disch:=omega)only[go_sem,zA,zM,zS,zE,zL]
 by_cases k3:1≤h.val∧h.val≤4
 rotate_left
 · have e:V8 h=[]:=by unfold V8;rw[if_neg (fun hk=>k3 hk.2.2)]
   have d1:decide (1≤h.val∧h.val≤4)=false:=decide_eq_false k3
   rw[e]
   simp(maxSteps:=999999)(disch:=omega)only[go_sem,zA,zM,zS,zE,zL,d1]
 have d3:decide (1≤h.val∧h.val≤4)=true:=decide_eq_true k3
 have e:V8 h=JcU h:=by unfold V8;rw[if_pos ⟨k1,k2,k3⟩]
 rw[e]
 unfold JcU
 simp(maxSteps:=999999)(disch:=omega)only[go_sem,zA,zM,zS,zE,zL,d3]
 intro _ _ _
 trivial
end Go.Lg
