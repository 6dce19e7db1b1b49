/- GpRC, GpWJ, GpXV, cut to what is needed. -/
import Derived.Test.YtiahmfdabpafoaaGreatDoorKad2
import Derived.Test.YtiahmfdabpafoaaGreatDoorKae1
import Derived.Test.YtiahmfdabpafoaaGreatDoorKab2
import Derived.LaidMore
open List renaming cons_append → Jc, nil_append → Jd, length_append → Je, length_cons → Jf, replicate → Jg, length_nil → Jl, take_of_length_le → Jn
open Nat renaming reduceAdd→zA,reduceMul→zM,reduceSub→zS,reduceEqDiff→zE,reduceLeDiff→zL
set_option linter.unusedSimpArgs false
set_option linter.unusedVariables false
set_option maxRecDepth 100000
namespace Go.Lg
open Go.Proofs
theorem Jgg{r s:Q2}(h1:r.kind=s.kind)(h2:r.val=s.val)(h3:r.cells=s.cells):r=s:=by
 cases r;cases s;simp_all
set_option maxHeartbeats 2000000 in
theorem Uq(p q:Zk)(hx:BD p):Qd Tryz.prog 11 [aP p,aP q] (bool (decide (p=q))):=by
 obtain⟨hg,hrl,hrs⟩:=hx
 refine Jq.cw (c:=_) Tryz.func11 rfl (n:=79) Tryz.ntmps11 (rs:=[.tmp 4]) rfl ?_
 simp only[Jf,Jl,zA,zS,Jg,Jc,Jd]
 simp(maxSteps:=999999)(disch:=omega)only[go_sem,zA,zM,zS,zE,zL]
 intro ga gb
 by_cases e1:p.size=q.size
 rotate_left
 · have d1:decide (p.size=q.size)=false:=decide_eq_false e1
   simp(maxSteps:=999999)(disch:=omega)only[go_sem,zA,zM,zS,zE,zL,d1]
   exact(decide_eq_false fun h=>e1 (by rw[h])).symm
 have d1:decide (p.size=q.size)=true:=decide_eq_true e1
 simp(maxSteps:=999999)(disch:=omega)only[go_sem,zA,zM,zS,zE,zL,d1]
 first|refine Qh.rd (VW p.given q.given hg) (⟨_,Tryz.func27,rfl,rfl⟩:Jm Tryz.prog 27) rfl rfl rfl rfl ?_|refine Qe.rd (VW p.given q.given hg) (⟨_,Tryz.func27,rfl,rfl⟩:Jm Tryz.prog 27) rfl rfl rfl rfl ?_
 simp(maxSteps:=999999)(disch:=omega)only[go_sem,zA,zM,zS,zE,zL]
 by_cases e2:p.given=q.given
 rotate_left
 · have d2:decide (p.given=q.given)=false:=decide_eq_false e2
   simp(maxSteps:=999999)(disch:=omega)only[go_sem,zA,zM,zS,zE,zL,d2]
   exact(decide_eq_false fun h=>e2 (by rw[h])).symm
 have d2:decide (p.given=q.given)=true:=decide_eq_true e2
 simp(maxSteps:=999999)(disch:=omega)only[go_sem,zA,zM,zS,zE,zL,d2]
 by_cases e3:p.rules.length=q.rules.length
 rotate_left
 · have d3:decide ((p.rules.length:Int)=(q.rules.length:Int))=false:=decide_eq_false (by omega)
   simp(maxSteps:=999999)(disch:=omega)only[go_sem,zA,zM,zS,zE,zL,d3]
   exact(decide_eq_false fun h=>e3 (by rw[h])).symm
 have d3:decide ((p.rules.length:Int)=(q.rules.length:Int))=true:=decide_eq_true (by omega)
 simp(maxSteps:=999999)(disch:=omega)only[go_sem,zA,zM,zS,zE,zL,d3]
 refine Qw (fun i:Nat=>p.rules.length -i) (fun i=>i≤p.rules.length∧∀j:Nat,j<i→JM p.rules j=JM q.rules j) (fun i=>[.a, .a, .k, .k, .a, .p (int i), .a, .a, .a, .a, .a, .a, .a, .a, .a, .a, .a, .a, .a, .a, .a, .a, .a, .a, .a, .a, .a, .a, .a, .a, .a, .a, .a, .a, .a, .a, .a, .a, .a, .a, .a, .a, .a, .a, .a, .a, .a, .a, .a, .a, .a, .a, .a, .a, .a, .a, .a, .a, .a, .a, .a, .a, .a, .a, .a, .a, .a, .a, .a, .a, .a, .a, .a, .a, .a, .a, .a, .a, .a]) (fun i=>[some ⟨ga,1,cP p⟩,some ⟨gb,1,cP q⟩]) 0 ⟨Nat.zero_le _,fun j hj=>absurd hj (Nat.not_lt_zero _)⟩ (by simp(maxSteps:=999999)(disch:=omega)only[go_sem,zA,zM,zS,zE,zL];rfl) (Qc.refl _) ?_
 rintro i ⟨hi,hall⟩
 simp(maxSteps:=999999)(disch:=omega)only[go_sem,zA,zM,zS,zE,zL]
 ((first|(with_reducible first|refine Jo ?_ ?_|refine Jk ?_ ?_|refine Jp ?_ ?_)|refine Jr ?_ ?_)<;>intro h)
 · have h:i<p.rules.length:=by omega
   have hq:i<q.rules.length:=by omega
   have hcl:=hrs _ (Z4 (xs:=p.rules) (i:=i) h)
   obtain⟨r,hr⟩:∃r,r=JM p.rules (i:Int):=⟨_,rfl⟩
   obtain⟨s,hs⟩:∃s,s=JM q.rules (i:Int):=⟨_,rfl⟩
   have no:r≠s→p≠q:=fun hne he=>hne (by rw[hr,hs,he])
   rw[←hr]at hcl
   simp(maxSteps:=999999)(disch:=omega)only[go_sem,zA,zM,zS,zE,zL]
   refine Q7 Zr (by kernel_rfl) ?_
   simp(maxSteps:=999999)(disch:=omega)only[go_sem,Nat.reduceBEq,Bool.true_or,zA,zM,zS,zE,zL]
   simp(maxSteps:=999999)(disch:=omega)only[go_sem,zA,zM,zS,zE,zL,←hr,←hs]
   by_cases f1:r.kind=s.kind
   rotate_left
   · have d1:decide (r.kind=s.kind)=false:=decide_eq_false f1
     simp(maxSteps:=999999)(disch:=omega)only[go_sem,zA,zM,zS,zE,zL,d1]
     exact(decide_eq_false (no fun he=>f1 (by rw[he]))).symm
   have d1:decide (r.kind=s.kind)=true:=decide_eq_true f1
   simp(maxSteps:=999999)(disch:=omega)only[go_sem,zA,zM,zS,zE,zL,d1,←hr,←hs]
   by_cases f2:r.val=s.val
   rotate_left
   · have d1:decide (r.val=s.val)=false:=decide_eq_false f2
     simp(maxSteps:=999999)(disch:=omega)only[go_sem,zA,zM,zS,zE,zL,d1]
     exact(decide_eq_false (no fun he=>f2 (by rw[he]))).symm
   have d1:decide (r.val=s.val)=true:=decide_eq_true f2
   simp(maxSteps:=999999)(disch:=omega)only[go_sem,zA,zM,zS,zE,zL,d1,←hr,←hs]
   refine QI.rd (VW r.cells s.cells (by omega)) (⟨_,Tryz.func27,rfl,rfl⟩:Jm Tryz.prog 27) rfl rfl rfl rfl ?_
   simp(maxSteps:=999999)(disch:=omega)only[go_sem,zA,zM,zS,zE,zL]
   by_cases f3:r.cells=s.cells
   rotate_left
   · have d1:decide (r.cells=s.cells)=false:=decide_eq_false f3
     simp(maxSteps:=999999)(disch:=omega)only[go_sem,zA,zM,zS,zE,zL,d1]
     exact(decide_eq_false (no fun he=>f3 (by rw[he]))).symm
   have d1:decide (r.cells=s.cells)=true:=decide_eq_true f3
   simp(maxSteps:=999999)(disch:=omega)only[go_sem,zA,zM,zS,zE,zL,d1]
   refine⟨i+1,⟨⟨by omega,fun j hj=> ?_⟩,by omega⟩,by push_cast;omega,Qc.refl _⟩
   rcases Nat.lt_succ_iff_lt_or_eq.1 hj with hj|rfl
   · exact hall j hj
   · rw[←hr,←hs];exact Jgg f1 f2 f3
 · simp(maxSteps:=999999)(disch:=omega)only[go_sem,zA,zM,zS,zE,zL]
   refine(decide_eq_true ?_).symm
   have e4:p.rules=q.rules:=Jb7 e3 fun j hj=>hall j (by omega)
   cases p;cases q;simp_all
end Go.Lg

namespace Go.Lg
open Go.Proofs
theorem RL:∀(rs:List Q2),(∀r∈rs,JQ r 4=true)→(ZE rs).length≤10*rs.length
 |[],_=>by simp[ZE]
 |r::rs,h=>by
  have h1:=Y9 (h r (by simp))
  have h2:=RL rs fun x hx=>h x (by simp[hx])
  have e:Ze r=Zl r:=by unfold Ze;rw[if_pos (h r (by simp))]
  unfold ZE at h2⊢
  simp only[List.flatMap_cons,Je,Jf,e]
  omega
theorem KN(p:Zk):(Qy p).length≤218:=by
 unfold Qy
 split
 · rename_i hv
   obtain⟨_,h2,h3⟩:=Vk hv
   have h1:=Wu p.given p.size (Xn hv)
   have h4:=RL _ h3
   rw[Je]
   omega
 · simp
theorem Yg(code:List Int)(hb:∀x∈code,0≤x∧x≤255)(hl:code.length≤2^40):Jq Tryz.prog 12 [Rj (eI .u8) code] [] (fun v _=>∃t:List UInt8,v=Um t∧t.length≤1000):=by
 refine Jq.cw (c:=_) Tryz.func12 rfl (n:=11) Tryz.ntmps12 (rs:=[.tmp 2]) rfl ?_
 simp only[Jf,Jl,zA,zS,Jg,Jc,Jd]
 simp(maxSteps:=999999)(disch:=omega)only[go_sem,zA,zM,zS,zE,zL]
 refine Qh.run (KZ code hb hl) (⟨_,Tryz.func16,rfl,rfl⟩:Jm Tryz.prog 16) rfl rfl ?_
 rintro _ H1 ⟨g,rfl,r1,hl1⟩
 simp(maxSteps:=999999)(disch:=omega)only[go_sem,zA,zM,zS,zE,zL]
 refine Qh.run (XE _ 0 g 0 0 r1 (by omega) (by omega)) (⟨_,Tryz.func15,rfl,rfl⟩:Jm Tryz.prog 15) rfl rfl ?_
 rintro _ H2 ⟨⟨p,rfl,hp⟩,r2,f2⟩
 have hpl:=KN p
 simp(maxSteps:=999999)(disch:=omega)only[go_sem,zA,zM,zS,zE,zL]
 first|refine Qh.rd (Zx p (show smD p from hp).sm) (⟨_,Tryz.func7,rfl,rfl⟩:Jm Tryz.prog 7) rfl rfl rfl rfl ?_|refine Qe.rd (Zx p (show smD p from hp).sm) (⟨_,Tryz.func7,rfl,rfl⟩:Jm Tryz.prog 7) rfl rfl rfl rfl ?_
 simp(maxSteps:=999999)(disch:=omega)only[go_sem,zA,zM,zS,zE,zL]
 refine Qh.run (NQ H2 0 g _ 3 _ r2 (by omega) (by omega) (by omega)) (⟨_,Tryz.func28,rfl,rfl⟩:Jm Tryz.prog 28) rfl rfl ?_
 rintro _ H3 ⟨t,rfl,ht⟩
 simp(maxSteps:=999999)(disch:=omega)only[go_sem,zA,zM,zS,zE,zL]
 exact⟨[],J8 _,t,rfl,by omega⟩
set_option maxHeartbeats 4000000 in
theorem Ki(code:List Int)(hl:code.length≤9223372036854775807)(hw:∀x∈code,(Lit.int .u8 x).wf=true):Qd Tryz.prog 3 [Rj (eI .u8) code] (bool true):=by
 refine Jq.cw (c:=_) Tryz.func3 rfl (n:=37) Tryz.ntmps3 (rs:=[.tmp 2]) rfl ?_
 simp only[Jf,Jl,zA,zS,Jg,Jc,Jd]
 simp(maxSteps:=999999)(disch:=omega)only[go_sem,zA,zM,zS,zE,zL]
 ((first|(with_reducible first|refine Jo ?_ ?_|refine Jk ?_ ?_|refine Jp ?_ ?_)|refine Jr ?_ ?_)<;>intro h1)
 · simp(maxSteps:=999999)(disch:=omega)only[go_sem,zA,zM,zS,zE,zL]
 simp(maxSteps:=999999)(disch:=omega)only[go_sem,zA,zM,zS,zE,zL]
 refine Qh.mkF (Yh code (JdP hw) (by omega)) (⟨_,Tryz.func5,rfl,rfl⟩:Jm Tryz.prog 5) rfl rfl rfl ?_
 rintro _ ⟨p,rfl,hp⟩
 refine⟨rfl,rfl, ?_⟩
 have hs:=hp.sm
 have hpl:=KN p
 simp(maxSteps:=999999)(disch:=omega)only[go_sem,zA,zM,zS,zE,zL]
 intro g
 first|refine Qh.rd (UG p hs) (⟨_,Tryz.func6,rfl,rfl⟩:Jm Tryz.prog 6) rfl rfl rfl rfl ?_|refine Qe.rd (UG p hs) (⟨_,Tryz.func6,rfl,rfl⟩:Jm Tryz.prog 6) rfl rfl rfl rfl ?_
 simp(maxSteps:=999999)(disch:=omega)only[go_sem,zA,zM,zS,zE,zL]
 first|refine Qh.rd (Zx p hs) (⟨_,Tryz.func7,rfl,rfl⟩:Jm Tryz.prog 7) rfl rfl rfl rfl ?_|refine Qe.rd (Zx p hs) (⟨_,Tryz.func7,rfl,rfl⟩:Jm Tryz.prog 7) rfl rfl rfl rfl ?_
 simp(maxSteps:=999999)(disch:=omega)only[go_sem,zA,zM,zS,zE,zL]
 first|refine Qh.rd (QO p hs) (⟨_,Tryz.func8,rfl,rfl⟩:Jm Tryz.prog 8) rfl rfl rfl rfl ?_|refine Qe.rd (QO p hs) (⟨_,Tryz.func8,rfl,rfl⟩:Jm Tryz.prog 8) rfl rfl rfl rfl ?_
 simp(maxSteps:=999999)(disch:=omega)only[go_sem,zA,zM,zS,zE,zL]
 cases hv:JE p with
 |false=>
  have e:Qy p=[]:=by unfold Qy;rw[hv];rfl
  have d:decide (Qy p=[])=true:=decide_eq_true e
  simp(maxSteps:=999999)(disch:=omega)only[go_sem,zA,zM,zS,zE,zL,d]
  first|refine Qh.rd (WC) (⟨_,Tryz.func9,rfl,rfl⟩:Jm Tryz.prog 9) rfl rfl rfl rfl ?_|refine Qe.rd (WC) (⟨_,Tryz.func9,rfl,rfl⟩:Jm Tryz.prog 9) rfl rfl rfl rfl ?_
  simp(maxSteps:=999999)(disch:=omega)only[go_sem,zA,zM,zS,zE,zL]
 |true=>
  obtain⟨q1,q2⟩:=Jed hv
  simp(maxSteps:=999999)(disch:=omega)only[go_sem,zA,zM,zS,zE,zL]
  first|refine Qh.mk (Vj (ZH (Qy p) (by omega))) (⟨_,Tryz.func10,rfl,rfl⟩:Jm Tryz.prog 10) rfl rfl rfl rfl rfl ?_|refine Qe.mk (Vj (ZH (Qy p) (by omega))) (⟨_,Tryz.func10,rfl,rfl⟩:Jm Tryz.prog 10) rfl rfl rfl rfl rfl ?_
  simp(maxSteps:=999999)(disch:=omega)only[go_sem,zA,zM,zS,zE,zL]
  rw[q1,q2]
  intro g5
  simp(maxSteps:=999999)(disch:=omega)only[go_sem,zA,zM,zS,zE,zL]
  have hpp:decide (p=p)=true:=decide_eq_true rfl
  first|refine Qh.rd (Uq p p hs) (⟨_,Tryz.func11,rfl,rfl⟩:Jm Tryz.prog 11) rfl rfl rfl rfl ?_|refine Qe.rd (Uq p p hs) (⟨_,Tryz.func11,rfl,rfl⟩:Jm Tryz.prog 11) rfl rfl rfl rfl ?_
  simp(maxSteps:=999999)(disch:=omega)only[go_sem,zA,zM,zS,zE,zL]
set_option maxHeartbeats 4000000 in
theorem Kh(code:List Int)(hl:code.length≤9223372036854775807)(hw:∀x∈code,(Lit.int .u8 x).wf=true):Qd Tryz.prog 4 [Rj (eI .u8) code] (bool true):=by
 refine Jq.cw (c:=_) Tryz.func4 rfl (n:=60) Tryz.ntmps4 (rs:=[.tmp 2]) rfl ?_
 simp only[Jf,Jl,zA,zS,Jg,Jc,Jd]
 simp(maxSteps:=999999)(disch:=omega)only[go_sem,zA,zM,zS,zE,zL]
 ((first|(with_reducible first|refine Jo ?_ ?_|refine Jk ?_ ?_|refine Jp ?_ ?_)|refine Jr ?_ ?_)<;>intro h1)
 · simp(maxSteps:=999999)(disch:=omega)only[go_sem,zA,zM,zS,zE,zL]
 simp(maxSteps:=999999)(disch:=omega)only[go_sem,zA,zM,zS,zE,zL]
 refine Qh.mkF (Yg code (JdP hw) (by omega)) (⟨_,Tryz.func12,rfl,rfl⟩:Jm Tryz.prog 12) rfl rfl rfl ?_
 rintro _ ⟨t,rfl,ht⟩
 refine⟨rfl,rfl, ?_⟩
 obtain⟨hsm,_⟩:=Jee t
 simp(maxSteps:=999999)(disch:=omega)only[go_sem,zA,zM,zS,zE,zL]
 first|refine Qh.mk (Vj (ZH t (by omega))) (⟨_,Tryz.func10,rfl,rfl⟩:Jm Tryz.prog 10) rfl rfl rfl rfl rfl ?_|refine Qe.mk (Vj (ZH t (by omega))) (⟨_,Tryz.func10,rfl,rfl⟩:Jm Tryz.prog 10) rfl rfl rfl rfl rfl ?_
 simp(maxSteps:=999999)(disch:=omega)only[go_sem,zA,zM,zS,zE,zL]
 intro g4
 first|refine Qh.mk (WH t (by omega)) (⟨_,Tryz.func13,rfl,rfl⟩:Jm Tryz.prog 13) rfl rfl rfl rfl rfl ?_|refine Qe.mk (WH t (by omega)) (⟨_,Tryz.func13,rfl,rfl⟩:Jm Tryz.prog 13) rfl rfl rfl rfl rfl ?_
 simp(maxSteps:=999999)(disch:=omega)only[go_sem,zA,zM,zS,zE,zL]
 intro g6
 first|refine Qh.rd (Uq (ZF t) (ZF t) hsm) (⟨_,Tryz.func11,rfl,rfl⟩:Jm Tryz.prog 11) rfl rfl rfl rfl ?_|refine Qe.rd (Uq (ZF t) (ZF t) hsm) (⟨_,Tryz.func11,rfl,rfl⟩:Jm Tryz.prog 11) rfl rfl rfl rfl ?_
 simp(maxSteps:=999999)(disch:=omega)only[go_sem,zA,zM,zS,zE,zL]
 cases hb:Z1 t with
 |false=>
  obtain⟨e,_⟩:=WY (of_decide_eq_false hb)
  have d0:decide ((ZF t).size=0)=true:=by rw[e];rfl
  simp(maxSteps:=999999)(disch:=omega)only[go_sem,zA,zM,zS,zE,zL,d0]
  first|refine Qh.rd (WC) (⟨_,Tryz.func9,rfl,rfl⟩:Jm Tryz.prog 9) rfl rfl rfl rfl ?_|refine Qe.rd (WC) (⟨_,Tryz.func9,rfl,rfl⟩:Jm Tryz.prog 9) rfl rfl rfl rfl ?_
  simp(maxSteps:=999999)(disch:=omega)only[go_sem,zA,zM,zS,zE,zL]
 |true=>
  obtain⟨q1,q2⟩:=Kd hb
  obtain⟨q3,q4⟩:=JcA hb
  have e1:sub t 1 t.length=t.drop 1:=by
   show(t.drop 1).take (t.length -1)=t.drop 1
   exact Jn (by simp)
  simp(maxSteps:=999999)(disch:=omega)only[go_sem,zA,zM,zS,zE,zL]
  rw[e1]
  first|refine Qh.mk (Vj (ZH (t.drop 1) (by simp;omega))) (⟨_,Tryz.func10,rfl,rfl⟩:Jm Tryz.prog 10) rfl rfl rfl rfl rfl ?_|refine Qe.mk (Vj (ZH (t.drop 1) (by simp;omega))) (⟨_,Tryz.func10,rfl,rfl⟩:Jm Tryz.prog 10) rfl rfl rfl rfl rfl ?_
  simp(maxSteps:=999999)(disch:=omega)only[go_sem,zA,zM,zS,zE,zL]
  rw[q4]
  intro g9
  first|refine Qh.rd (UG (ZF t) hsm) (⟨_,Tryz.func6,rfl,rfl⟩:Jm Tryz.prog 6) rfl rfl rfl rfl ?_|refine Qe.rd (UG (ZF t) hsm) (⟨_,Tryz.func6,rfl,rfl⟩:Jm Tryz.prog 6) rfl rfl rfl rfl ?_
  simp(maxSteps:=999999)(disch:=omega)only[go_sem,zA,zM,zS,zE,zL]
  rw[q2]
  have d1:decide (t=t)=true:=decide_eq_true rfl
  simp(maxSteps:=999999)(disch:=omega)only[go_sem,zA,zM,zS,zE,zL,d1]
  first|refine Qh.rd (ZV (ZF t) hsm) (⟨_,Tryz.func14,rfl,rfl⟩:Jm Tryz.prog 14) rfl rfl rfl rfl ?_|refine Qe.rd (ZV (ZF t) hsm) (⟨_,Tryz.func14,rfl,rfl⟩:Jm Tryz.prog 14) rfl rfl rfl rfl ?_
  simp(maxSteps:=999999)(disch:=omega)only[go_sem,zA,zM,zS,zE,zL]
  rw[q1]
end Go.Lg

namespace Go.Lg
open Go
theorem YH{P:Program}{w:World}{base:Nat}{sp:Nat→Bool}{fuel:Nat}{t:TypeId}{ms}{cs:List Value}{nm:String}{d:DataW Unit}{p:List MemPlace}
 (ht:P.underlying t=some (.interface ms)) (h:DataW.trod (fun _=>()) P w base sp false fuel t cs=some (.iface nm d,p)):∃u v,cs=[.iface u v]:=by
 cases fuel with
 |zero=>simp[DataW.trod]at h
 |succ fuel=>
  unfold DataW.trod at h
  rw[ht]at h
  split at h
  all_goals first|exact⟨_,_,rfl⟩|(rename_i h0;cases h0;done)|(rename_i h0 _;cases h0;done)|(simp at h;done)|skip
end Go.Lg
