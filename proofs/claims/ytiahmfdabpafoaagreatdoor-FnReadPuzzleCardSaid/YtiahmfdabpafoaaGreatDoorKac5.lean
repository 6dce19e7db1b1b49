/- GpI2, GpDF, GpDG, cut to what is needed. -/
import Derived.Test.YtiahmfdabpafoaaGreatDoorKab6
import Derived.Test.YtiahmfdabpafoaaGreatDoorKac4
open List renaming cons_append → Jc, nil_append → Jd, length_cons → Jf, replicate → Jg, length_nil → Jl, getElem?_eq_none → Ju, getElem?_cons_succ → Q0
open Nat renaming reduceAdd→zA,reduceMul→zM,reduceSub→zS,reduceEqDiff→zE,reduceLeDiff→zL
set_option linter.unusedSimpArgs false
set_option linter.unusedVariables false
set_option maxRecDepth 100000
namespace Go.Lg
open Go.Proofs
def JE(p:Zk):Bool:=J9 p.given p.size&&(decide (p.rules.length≤20)&&p.rules.all fun r=>JQ r p.size)
theorem ZV(p:Zk)(hx:BD p):Qd Tryz.prog 14 [aP p] (bool (JE p)):=by
 obtain⟨hx1,hx2,hx3⟩:=hx
 refine Jq.cw (c:=_) Tryz.func14 rfl (n:=30) Tryz.ntmps14 (rs:=[.tmp 2]) rfl ?_
 simp only[Jf,Jl,zA,zS,Jg,Jc,Jd]
 simp(maxSteps:=999999)(disch:=omega)only[go_sem,zA,zM,zS,zE,zL]
 intro g
 first|refine Qh.rd (Ub p.given p.size (by omega)) (⟨_,Tryz.func31,rfl,rfl⟩:Jm Tryz.prog 31) rfl rfl rfl rfl ?_|refine Qe.rd (Ub p.given p.size (by omega)) (⟨_,Tryz.func31,rfl,rfl⟩:Jm Tryz.prog 31) rfl rfl rfl rfl ?_
 simp(maxSteps:=999999)(disch:=omega)only[go_sem,zA,zM,zS,zE,zL]
 ((with_reducible first|refine JU ?_ ?_|refine JJ ?_ ?_|refine J6 ?_ ?_|refine Jx ?_ ?_|refine JS ?_ ?_|refine JT ?_ ?_|refine JH ?_ ?_|refine JI ?_ ?_|refine J4 ?_ ?_|refine J5 ?_ ?_|refine JC ?_ ?_|refine JD ?_ ?_)<;>intro hv<;>simp(maxSteps:=999999)(disch:=omega)only[go_sem,zA,zM,zS,zE,zL,hv])
 rotate_left
 · simp[JE,hv]
 ((first|(with_reducible first|refine Jo ?_ ?_|refine Jk ?_ ?_|refine Jp ?_ ?_)|refine Jr ?_ ?_)<;>intro h20)
 · simp(maxSteps:=999999)(disch:=omega)only[go_sem,zA,zM,zS,zE,zL]
   symm;simp only[JE,hv,Bool.true_and,Bool.and_eq_false_iff,decide_eq_false_iff_not];exact .inl (by omega)
 simp(maxSteps:=999999)(disch:=omega)only[go_sem,zA,zM,zS,zE,zL]
 refine Qw (fun i:Nat=>p.rules.length -i) (fun i=>i≤p.rules.length∧∀j:Nat,j<i→JQ (JM p.rules j) p.size=true) (fun i=>[.a, .k, .a, .a, .a, .a, .a, .a, .a, .a, .a, .a, .a, .a, .a, .a, .a, .a, .k, .k, .p (int i), .a, .a, .a, .a, .a, .a, .a, .a, .a]) (fun _=>[some ⟨g,1,cP p⟩]) 0
  ⟨Nat.zero_le _,fun j hj=>absurd hj (Nat.not_lt_zero _)⟩ (by simp(maxSteps:=999999)(disch:=omega)only[go_sem,zA,zM,zS,zE,zL];rfl) (Qc.refl _) ?_
 rintro i ⟨hi,hall⟩
 simp(maxSteps:=999999)(disch:=omega)only[go_sem,zA,zM,zS,zE,zL]
 ((first|(with_reducible first|refine Jo ?_ ?_|refine Jk ?_ ?_|refine Jp ?_ ?_)|refine Jr ?_ ?_)<;>intro h)
 · have h:i<p.rules.length:=by omega
   simp(maxSteps:=999999)(disch:=omega)only[go_sem,zA,zM,zS,zE,zL]
   intro g2
   first|refine Qh.rd (UU (JM p.rules i) p.size (hx3 _ (Z4 h))) (⟨_,Tryz.func32,rfl,rfl⟩:Jm Tryz.prog 32) rfl rfl rfl rfl ?_|refine Qe.rd (UU (JM p.rules i) p.size (hx3 _ (Z4 h))) (⟨_,Tryz.func32,rfl,rfl⟩:Jm Tryz.prog 32) rfl rfl rfl rfl ?_
   simp(maxSteps:=999999)(disch:=omega)only[go_sem,zA,zM,zS,zE,zL]
   ((first|(with_reducible first|refine Jo ?_ ?_|refine Jk ?_ ?_|refine Jp ?_ ?_)|refine Jr ?_ ?_)<;>intro h2)
   · simp(maxSteps:=999999)(disch:=omega)only[go_sem,zA,zM,zS,zE,zL]
     exact⟨i+1,⟨⟨h,Wg hall h2⟩,by omega⟩,by omega,Zq _ _ _ (J8 _)⟩
   · simp(maxSteps:=999999)(disch:=omega)only[go_sem,zA,zM,zS,zE,zL]
     symm;simp only[JE,Bool.and_eq_false_iff];exact .inr (.inr (JfM h h2))
 · simp(maxSteps:=999999)(disch:=omega)only[go_sem,zA,zM,zS,zE,zL]
   symm;simp only[JE,Bool.and_eq_true,decide_eq_true_eq]
   exact⟨hv,by omega,GL.2 fun j hj=>hall j (by omega)⟩
theorem QO(p:Zk)(hx:BD p):Qd Tryz.prog 8 [aP p] (bool (JE p)):=by
 obtain⟨hx1,hx2,hx3⟩:=hx
 refine Jq.cw (c:=_) Tryz.func8 rfl (n:=31) Tryz.ntmps8 (rs:=[.tmp 2]) rfl ?_
 simp only[Jf,Jl,zA,zS,Jg,Jc,Jd]
 simp(maxSteps:=999999)(disch:=omega)only[go_sem,zA,zM,zS,zE,zL]
 intro g
 refine Qw (fun i:Nat=>p.rules.length -i) (fun i=>i≤p.rules.length∧∀j:Nat,j<i→JQ (JM p.rules j) p.size=true) (fun i=>[.a, .k, .a, .p (int i), .a, .a, .a, .a, .a, .a, .a, .a, .a, .a, .a, .a, .a, .a, .a, .a, .a, .a, .a, .a, .a, .a, .a, .a, .a, .a, .a]) (fun _=>[some ⟨g,1,cP p⟩]) 0
  ⟨Nat.zero_le _,fun j hj=>absurd hj (Nat.not_lt_zero _)⟩ (by simp(maxSteps:=999999)(disch:=omega)only[go_sem,zA,zM,zS,zE,zL];rfl) (Qc.refl _) ?_
 rintro i ⟨hi,hall⟩
 simp(maxSteps:=999999)(disch:=omega)only[go_sem,zA,zM,zS,zE,zL]
 ((first|(with_reducible first|refine Jo ?_ ?_|refine Jk ?_ ?_|refine Jp ?_ ?_)|refine Jr ?_ ?_)<;>intro h)
 · have h:i<p.rules.length:=by omega
   simp(maxSteps:=999999)(disch:=omega)only[go_sem,zA,zM,zS,zE,zL]
   refine Q7 Zr (by kernel_rfl) ?_
   simp(maxSteps:=999999)(disch:=omega)only[go_sem,Nat.reduceBEq,Bool.true_or,zA,zM,zS,zE,zL]
   refine QI.rd (Zp (JM p.rules i) p.size (hx3 _ (Z4 h))) (⟨_,Tryz.func21,rfl,rfl⟩:Jm Tryz.prog 21) rfl rfl rfl rfl ?_
   simp(maxSteps:=999999)(disch:=omega)only[go_sem,zA,zM,zS,zE,zL]
   ((first|(with_reducible first|refine Jo ?_ ?_|refine Jk ?_ ?_|refine Jp ?_ ?_)|refine Jr ?_ ?_)<;>intro h2)
   · simp(maxSteps:=999999)(disch:=omega)only[go_sem,zA,zM,zS,zE,zL]
     exact⟨i+1,⟨⟨h,Wg hall h2⟩,by omega⟩,by omega,Qc.refl _⟩
   · simp(maxSteps:=999999)(disch:=omega)only[go_sem,zA,zM,zS,zE,zL]
     symm;simp only[JE,Bool.and_eq_false_iff];exact .inr (.inr (JfM h h2))
 · simp(maxSteps:=999999)(disch:=omega)only[go_sem,zA,zM,zS,zE,zL]
   have ha:(p.rules.all fun r=>JQ r p.size)=true:=GL.2 fun j hj=>hall j (by omega)
   first|refine Qh.rd (Q4 p.given p.size (by omega)) (⟨_,Tryz.func22,rfl,rfl⟩:Jm Tryz.prog 22) rfl rfl rfl rfl ?_|refine Qe.rd (Q4 p.given p.size (by omega)) (⟨_,Tryz.func22,rfl,rfl⟩:Jm Tryz.prog 22) rfl rfl rfl rfl ?_
   simp(maxSteps:=999999)(disch:=omega)only[go_sem,zA,zM,zS,zE,zL]
   ((with_reducible first|refine JU ?_ ?_|refine JJ ?_ ?_|refine J6 ?_ ?_|refine Jx ?_ ?_|refine JS ?_ ?_|refine JT ?_ ?_|refine JH ?_ ?_|refine JI ?_ ?_|refine J4 ?_ ?_|refine J5 ?_ ?_|refine JC ?_ ?_|refine JD ?_ ?_)<;>intro hv<;>simp(maxSteps:=999999)(disch:=omega)only[go_sem,zA,zM,zS,zE,zL,hv])
   · simp only[JE,hv,ha,Bool.true_and,Bool.and_true,decide_eq_decide];omega
   · simp[JE,hv]
end Go.Lg

namespace Go.Lg
open Go.Proofs
structure B5(p:Zk)(n:Nat):Prop where
 hn:n=2∨n=3∨n=4
 size:p.size=n
 len:p.given.length=n*n
 rl:p.rules.length≤40
 rv:∀r∈p.rules,JQ r n=true
theorem B5.of{p:Zk}(h:JE p=true):B5 p p.size.toNat∧((p.size.toNat:Nat):Int)=p.size:=by
 simp only[JE,Bool.and_eq_true,decide_eq_true_eq,List.all_eq_true]at h
 obtain⟨h1,h2,h3⟩:=h
 have hb:=Qz h1
 have hs:((p.size.toNat:Nat):Int)=p.size:=by omega
 have hn:p.size.toNat=2∨p.size.toNat=3∨p.size.toNat=4:=by omega
 refine⟨⟨hn,hs.symm, ?_,by omega,fun r hr=>by rw[hs];exact h3 r hr⟩,hs⟩
 have:=hb.2.2.1
 rw[←hs]at this
 exact_mod_cast this
structure XA(xs:List Int)(n:Nat):Prop where
 len:xs.length=n*n
 val:∀k:Nat,k<xs.length→0≤JM xs k∧JM xs k≤n
theorem XA.valid{xs:List Int}{n:Nat}(hn:n=2∨n=3∨n=4)(h:XA xs n):J9 xs n=true:=by
 simp only[J9,decide_eq_true_eq]
 refine⟨by omega,by omega,by rw[h.len];push_cast;rfl,h.val⟩
theorem XA.of{xs:List Int}{n:Nat}(hn:n=2∨n=3∨n=4)(h:J9 xs n=true):XA xs n:=by
 have hb:=Qz h
 exact⟨by have:=hb.2.2.1;rcases hn with rfl|rfl|rfl<;>omega,hb.2.2.2.2⟩
theorem Ws{p:Zk}{n:Nat}(hp:B5 p n)(xs:List Int)(hg:XA xs n):Qd Tryz.prog 71 [aP p,ZY xs] (bool (UJ p xs n)):=by
 have hn:=hp.hn
 have hz:=hp.size
 have hgl:=hp.len
 have hxl:=hg.len
 have hrl:=hp.rl
 have hsq:n*n≤16:=by rcases hn with rfl|rfl|rfl<;>omega
 have hgv:=hg.valid hn
 refine Jq.cw (c:=_) Tryz.func71 rfl (n:=60) Tryz.ntmps71 (rs:=[.tmp 4]) rfl ?_
 simp only[Jf,Jl,zA,zS,Jg,Jc,Jd]
 simp(maxSteps:=999999)(disch:=omega)only[go_sem,zA,zM,zS,zE,zL]
 intro g
 refine Qw (fun k:Nat=>xs.length -k) (fun k=>k≤xs.length∧∀j:Nat,j<k→¬(0<JM p.given j∧0<JM xs j∧JM xs j≠JM p.given j)) (fun k=>[.a, .k, .k, .a, .a, .p (int k), .a, .a, .a, .a, .a, .a, .a, .a, .a, .a, .a, .a, .a, .a, .a, .a, .a, .a, .a, .a, .a, .a, .a, .a, .a, .a, .a, .a, .a, .a, .a, .a, .a, .a, .a, .a, .a, .a, .a, .a, .a, .a, .a, .a, .a, .a, .a, .a, .a, .a, .a, .a, .a, .a]) (fun _=>[some ⟨g,1,cP p⟩]) 0 ⟨Nat.zero_le _,fun j hj=>absurd hj (Nat.not_lt_zero _)⟩ (by simp(maxSteps:=999999)(disch:=omega)only[go_sem,zA,zM,zS,zE,zL];rfl) (Qc.refl _) ?_
 rintro k ⟨hk,hno⟩
 simp(maxSteps:=999999)(disch:=omega)only[go_sem,zA,zM,zS,zE,zL]
 ((first|(with_reducible first|refine Jo ?_ ?_|refine Jk ?_ ?_|refine Jp ?_ ?_)|refine Jr ?_ ?_)<;>intro h1)
 · have h1:k<xs.length:=by omega
   have hbad:(0<JM p.given k∧0<JM xs k∧JM xs k≠JM p.given k)→false=UJ p xs n:=fun hb=>by
    have:clear p xs=false:=by
     simp only[clear,decide_eq_false_iff_not]
     exact fun h=>h k h1 hb
    simp[UJ,this]
   simp(maxSteps:=999999)(disch:=omega)only[go_sem,zA,zM,zS,zE,zL]
   have hgo:¬(0<JM p.given k∧0<JM xs k∧JM xs k≠JM p.given k)→∀j:Nat,j<k+1→¬(0<JM p.given j∧0<JM xs j∧JM xs j≠JM p.given j):=fun h j hj=>by
    by_cases hjk:j=k
    · rw[hjk];exact h
    · exact hno j (by omega)
   by_cases a:0<JM p.given k
   · by_cases b:0<JM xs k
     · by_cases c:JM xs k=JM p.given k
       · refine Q7 Zr (by kernel_rfl) ?_
         simp(maxSteps:=999999)(disch:=omega)only[go_sem,zA,zM,zS,zE,zL,Gg,FD,GA,Jb8]
         exact⟨k+1,⟨⟨by omega,hgo fun h=>h.2.2 c⟩,by omega⟩,by push_cast;omega,Qc.refl _⟩
       · refine Q7 Zr (by kernel_rfl) ?_
         simp(maxSteps:=999999)(disch:=omega)only[go_sem,zA,zM,zS,zE,zL,Gg,FD,GA,Jb8]
         exact hbad ⟨a,b,c⟩
     · refine Q7 Zr (by kernel_rfl) ?_
       simp(maxSteps:=999999)(disch:=omega)only[go_sem,zA,zM,zS,zE,zL,Gg,FD,GA,Jb8]
       exact⟨k+1,⟨⟨by omega,hgo fun h=>b h.2.1⟩,by omega⟩,by push_cast;omega,Qc.refl _⟩
   · refine Q7 Zr (by kernel_rfl) ?_
     simp(maxSteps:=999999)(disch:=omega)only[go_sem,zA,zM,zS,zE,zL,Gg,FD,GA,Jb8]
     exact⟨k+1,⟨⟨by omega,hgo fun h=>a h.1⟩,by omega⟩,by push_cast;omega,Qc.refl _⟩
 · have hcl:clear p xs=true:=by
    simp only[clear,decide_eq_true_eq]
    exact fun j hj=>hno j (by omega)
   simp(maxSteps:=999999)(disch:=omega)only[go_sem,zA,zM,zS,zE,zL]
   refine Qw (fun k:Nat=>p.rules.length -k) (fun k=>k≤p.rules.length∧∀j:Nat,j<k→Wz (JM p.rules j) xs n=true) (fun k=>[.a, .k, .k, .a, .a, .a, .p (int k), .a, .a, .a, .a, .a, .a, .a, .a, .a, .a, .a, .a, .a, .a, .a, .a, .a, .a, .a, .a, .a, .a, .a, .a, .a, .a, .a, .a, .a, .a, .a, .a, .a, .a, .a, .a, .a, .a, .a, .a, .a, .a, .a, .a, .a, .a, .a, .a, .a, .a, .a, .a, .a]) (fun _=>[some ⟨g,1,cP p⟩]) 0 ⟨Nat.zero_le _,fun j hj=>absurd hj (Nat.not_lt_zero _)⟩ (by simp(maxSteps:=999999)(disch:=omega)only[go_sem,zA,zM,zS,zE,zL];rfl) (Qc.refl _) ?_
   rintro i ⟨hi,hyes⟩
   simp(maxSteps:=999999)(disch:=omega)only[go_sem,zA,zM,zS,zE,zL]
   ((first|(with_reducible first|refine Jo ?_ ?_|refine Jk ?_ ?_|refine Jp ?_ ?_)|refine Jr ?_ ?_)<;>intro h2)
   · have h2:i<p.rules.length:=by omega
     have hmem:JM p.rules i∈p.rules:=Z4 h2
     simp(maxSteps:=999999)(disch:=omega)only[go_sem,zA,zM,zS,zE,zL]
     refine Zg [0,1,2,3,4,5,6,7] [] none [8,9] [] [0,1,0,7,15,0,0,64,255,511] Zr (by kernel_rfl) ?_
     simp(maxSteps:=999999)(disch:=omega)only[go_sem,Nat.reduceBEq,Bool.true_or,zA,zM,zS,zE,zL]
     have hrp:=Yq hn (JM p.rules i) xs (hp.rv _ hmem) hgv
     rw[←hz]at hrp
     first|refine Qh.rd (hrp) (⟨_,Tryz.func86,rfl,rfl⟩:Jm Tryz.prog 86) rfl rfl rfl rfl ?_|refine Qe.rd (hrp) (⟨_,Tryz.func86,rfl,rfl⟩:Jm Tryz.prog 86) rfl rfl rfl rfl ?_
     simp(maxSteps:=999999)(disch:=omega)only[go_sem,zA,zM,zS,zE,zL]
     ((first|(with_reducible first|refine Jo ?_ ?_|refine Jk ?_ ?_|refine Jp ?_ ?_)|refine Jr ?_ ?_)<;>intro h3)
     · simp(maxSteps:=999999)(disch:=omega)only[go_sem,zA,zM,zS,zE,zL]
       refine⟨i+1,⟨⟨by omega,fun j hj=> ?_⟩,by omega⟩,by push_cast;omega,Qc.refl _⟩
       by_cases hji:j=i
       · rw[hji];exact h3
       · exact hyes j (by omega)
     · simp(maxSteps:=999999)(disch:=omega)only[go_sem,zA,zM,zS,zE,zL]
       have:p.rules.all (fun r=>Wz r xs n)=false:=by
        rw[List.all_eq_false]
        exact⟨_,hmem,by rw[h3];simp⟩
       simp[UJ,this]
   · have hall:p.rules.all (fun r=>Wz r xs n)=true:=by
      rw[List.all_eq_true]
      intro r hr
      obtain⟨j,hj,rfl⟩:=List.mem_iff_getElem.1 hr
      have:=hyes j (by omega)
      rwa [Qu (by omega)]at this
     simp(maxSteps:=999999)(disch:=omega)only[go_sem,zA,zM,zS,zE,zL]
     have hcr:=KX hn xs hxl (fun k hk=>by have:=hg.val k hk;omega)
     rw[←hz]at hcr
     first|refine Qh.rd (hcr) (⟨_,Tryz.func85,rfl,rfl⟩:Jm Tryz.prog 85) rfl rfl rfl rfl ?_|refine Qe.rd (hcr) (⟨_,Tryz.func85,rfl,rfl⟩:Jm Tryz.prog 85) rfl rfl rfl rfl ?_
     simp(maxSteps:=999999)(disch:=omega)only[go_sem,zA,zM,zS,zE,zL]
     simp[UJ,hcl,hall]
end Go.Lg

namespace Go.Lg
open Go.Proofs
theorem Uc(p:Zk)(xs:List Int)(hx:BD p)(hl:xs.length≤2^40):Qd Tryz.prog 55 [aP p,ZY xs] (bool (JE p&&(J9 xs p.size&&UJ p xs p.size.toNat))):=by
 refine Jq.cw (c:=_) Tryz.func55 rfl (n:=18) Tryz.ntmps55 (rs:=[.tmp 4]) rfl ?_
 simp only[Jf,Jl,zA,zS,Jg,Jc,Jd]
 simp(maxSteps:=999999)(disch:=omega)only[go_sem,zA,zM,zS,zE,zL]
 intro g
 first|refine Qh.rd (QO p hx) (⟨_,Tryz.func8,rfl,rfl⟩:Jm Tryz.prog 8) rfl rfl rfl rfl ?_|refine Qe.rd (QO p hx) (⟨_,Tryz.func8,rfl,rfl⟩:Jm Tryz.prog 8) rfl rfl rfl rfl ?_
 simp(maxSteps:=999999)(disch:=omega)only[go_sem,zA,zM,zS,zE,zL]
 cases h1:JE p with
 |false=>
  simp(maxSteps:=999999)(disch:=omega)only[go_sem,zA,zM,zS,zE,zL]
  rfl
 |true=>
  simp(maxSteps:=999999)(disch:=omega)only[go_sem,zA,zM,zS,zE,zL]
  first|refine Qh.rd (Q4 xs p.size hl) (⟨_,Tryz.func22,rfl,rfl⟩:Jm Tryz.prog 22) rfl rfl rfl rfl ?_|refine Qe.rd (Q4 xs p.size hl) (⟨_,Tryz.func22,rfl,rfl⟩:Jm Tryz.prog 22) rfl rfl rfl rfl ?_
  simp(maxSteps:=999999)(disch:=omega)only[go_sem,zA,zM,zS,zE,zL]
  cases h2:J9 xs p.size with
  |false=>
   simp(maxSteps:=999999)(disch:=omega)only[go_sem,zA,zM,zS,zE,zL]
   rfl
  |true=>
   obtain⟨hp,hs⟩:=B5.of h1
   have hg:=XA.of hp.hn (by rw[hs];exact h2)
   simp(maxSteps:=999999)(disch:=omega)only[go_sem,zA,zM,zS,zE,zL]
   first|refine Qh.rd (Ws hp xs hg) (⟨_,Tryz.func71,rfl,rfl⟩:Jm Tryz.prog 71) rfl rfl rfl rfl ?_|refine Qe.rd (Ws hp xs hg) (⟨_,Tryz.func71,rfl,rfl⟩:Jm Tryz.prog 71) rfl rfl rfl rfl ?_
   simp(maxSteps:=999999)(disch:=omega)only[go_sem,zA,zM,zS,zE,zL]
theorem RU:∀(m:List Bool) (H:Ji) (j:Nat),(QT m H)[j]? =if m.getD j false=true then(H[j]?).map (fun _=>none)else H[j]?
 |[],H,j=>by simp[QT]
 |b::m,[],j=>by cases b<;>simp[QT]
 |b::m,x::H,j=>by
  have ih:=RU m H
  cases b<;>cases j with
  |zero=>simp[QT]
  |succ j=>simp only[QT,Q0,List.getD_cons_succ,ih j]
theorem UN{m:List Bool}{H:Ji}{id g:Nat}(h:m.getD id false=false):look (QT m H) id g=look H id g:=by
 unfold look
 rw[RU,h]
 simp
theorem ZX{m:List Bool}{H H':Ji}(h:∀j (b:ZG),m.getD j false=false→H[j]? =some (some b)→H'[j]? =some (some b)):KO m H H':=fun id b hb=>by
 rw[RU]at hb⊢
 by_cases hm:m.getD id false=true
 · rw[if_pos hm]at hb
   cases hh:H[id]? <;>simp[hh]at hb
 · rw[if_neg hm]at hb⊢
   exact h id b (by simpa using hm) hb
def Z3(o n:Nat)(N:Nat):List Bool:=(List.range N).map fun j=>decide (j=o∨n≤j)
theorem VB{o n N j:Nat}(h1:j≠o)(h2:j<n):(Z3 o n N).getD j false=false:=by
 by_cases h:j<N
 · simp[Z3,List.getD,h,h1,h2]
 · have:(Z3 o n N)[j]? =none:=Ju (by simp[Z3];omega)
   simp[List.getD,this]
theorem Vn{o n N j:Nat}(h:(Z3 o n N).getD j false=false)(hj:j<N):j≠o∧j<n:=by
 simp[Z3,List.getD,hj]at h
 omega
structure Wi(H:Ji)(pid pg:Nat)(ls:List (List Int))(S:List Nat):Prop where
 ex:∃oid og cs,look H pid pg=some ⟨pg,1,[.own oid og 0 ls.length none]⟩∧look H oid og=some ⟨og,1,cs⟩∧oid∈S∧cs.length=ls.length∧∀i (h:i<ls.length),∃id g,cs[i]? =some (.own id g 0 ls[i].length none)∧look H id g=some ⟨g,1,cl (eI .i64) ls[i]⟩∧id∈S∧id≠oid
 pn:pid∉S
theorem Wi.same{H H':Ji}{pid pg:Nat}{ls:List (List Int)}{S:List Nat}(h:Wi H pid pg ls S)(hs:∀i,i=pid∨i∈S→H'[i]? =H[i]?):Wi H' pid pg ls S:=by
 obtain⟨⟨oid,og,cs,h1,h2,h3,h4,h5⟩,hn⟩:=h
 refine⟨⟨oid,og,cs,by unfold look at*;rw[hs pid (.inl rfl)];exact h1,by unfold look at*;rw[hs oid (.inr h3)];exact h2,h3,h4,fun i hi=> ?_⟩,hn⟩
 obtain⟨id,g,k1,k2,k3,k4⟩:=h5 i hi
 exact⟨id,g,k1,by unfold look at*;rw[hs id (.inr k3)];exact k2,k3,k4⟩
end Go.Lg
