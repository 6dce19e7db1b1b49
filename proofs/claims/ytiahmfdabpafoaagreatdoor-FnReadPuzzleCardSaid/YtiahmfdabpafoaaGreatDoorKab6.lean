/- GpI, cut to what is needed. -/
import Derived.Test.YtiahmfdabpafoaaGreatDoorKab4
import Derived.Test.YtiahmfdabpafoaaGreatDoorKab5
open List renaming cons_append → Jc, nil_append → Jd, length_cons → Jf, replicate → Jg, length_nil → Jl, length_take → JA, getElem?_take_of_lt → JG
open Nat renaming reduceAdd→zA,reduceMul→zM,reduceSub→zS,reduceEqDiff→zE,reduceLeDiff→zL
set_option linter.unusedSimpArgs false
set_option linter.unusedVariables false
set_option maxRecDepth 100000
namespace Go.Lg
open Go.Proofs
theorem NA{α:Type}[Inhabited α]{xs:List α}{i j:Nat}(h:j<i):JM (xs.take i) j=JM xs j:=by
 simp only[JM,List.getD]
 rw[show((j:Int)).toNat=j by omega,JG h]
theorem G1{α:Type}(xs:List α)(i:Nat):sub xs 0 (i:Int)=xs.take i:=by simp[sub]
theorem YA{α:Type}[Inhabited α]{xs:List α}{v:α}:v∈xs↔∃j:Nat,j<xs.length∧JM xs j=v:=by
 constructor
 · intro h
   obtain⟨i,hi,rfl⟩:=List.mem_iff_getElem.1 h
   exact⟨i,hi,by rw[Qu (by omega)];simp⟩
 · rintro⟨j,hj,rfl⟩
   exact Z4 hj
theorem GL{α:Type}[Inhabited α]{xs:List α}{f:α→Bool}:xs.all f=true↔∀j:Nat,j<xs.length→f (JM xs j)=true:=by
 rw[List.all_eq_true]
 exact⟨fun h j hj=>h _ (Z4 hj),fun h x hx=>by obtain⟨j,hj,rfl⟩:=YA.1 hx;exact h j hj⟩
theorem JfM{α:Type}[Inhabited α]{xs:List α}{f:α→Bool}{i:Nat}(hi:i<xs.length)(h:f (JM xs i)=false):xs.all f=false:=by
 cases ha:xs.all f with
 |false=>rfl
 |true=>rw[GL.1 ha i hi]at h;cases h
theorem Wg{p:Nat→Prop}{i:Nat}(h:∀j,j<i→p j)(hi:p i):∀j,j<i+1→p j:=fun j hj=>by
 rcases Nat.lt_succ_iff_lt_or_eq.1 hj with h1|rfl
 · exact h j h1
 · exact hi
def JgK(xs:List Int)(v:Int):Int:=if v∈xs then(xs.findIdx (fun x=>x==v):Nat)else-1
theorem FQ(xs:List Int)(v:Int)(hx:xs.length≤2^40):Qd Tryz.prog 69 [ZY xs,int v] (int (JgK xs v)):=by
 refine Jq.cw (c:=_) Tryz.func69 rfl (n:=19) Tryz.ntmps69 (rs:=[.tmp 4]) rfl ?_
 simp only[Jf,Jl,zA,zS,Jg,Jc,Jd]
 simp(maxSteps:=999999)(disch:=omega)only[go_sem,zA,zM,zS,zE,zL]
 refine Qw (fun i:Nat=>xs.length -i) (fun i=>i≤xs.length∧∀j:Nat,j<i→JM xs j≠v) (fun i=>[.k, .k, .a, .a, .a, .a, .a, .k, .p (int i), .a, .a, .a, .a, .a, .a, .a, .a, .a, .a]) (fun i=>[]) 0
  ⟨Nat.zero_le _,fun j hj=>absurd hj (Nat.not_lt_zero _)⟩ (by simp(maxSteps:=999999)(disch:=omega)only[go_sem,zA,zM,zS,zE,zL];rfl) (J8 _) ?_
 rintro i ⟨hi,hall⟩
 simp(maxSteps:=999999)(disch:=omega)only[go_sem,zA,zM,zS,zE,zL]
 ((first|(with_reducible first|refine Jo ?_ ?_|refine Jk ?_ ?_|refine Jp ?_ ?_)|refine Jr ?_ ?_)<;>intro h)
 · have h:i<xs.length:=by omega
   simp(maxSteps:=999999)(disch:=omega)only[go_sem,zA,zM,zS,zE,zL]
   ((first|(with_reducible first|refine Jo ?_ ?_|refine Jk ?_ ?_|refine Jp ?_ ?_)|refine Jr ?_ ?_)<;>intro h2)
   · simp(maxSteps:=999999)(disch:=omega)only[go_sem,zA,zM,zS,zE,zL]
     have hm:v∈xs:=YA.2 ⟨i,h,h2.symm⟩
     have:xs.findIdx (fun x=>x==v)=i:=(List.findIdx_eq h).2 ⟨by have:=Qu (xs:=xs) (e:=i) (by omega);simp at this;rw[←this,h2];simp,fun j hj=>by
      have h3:=hall j hj
      rw[Qu (by omega)]at h3
      simpa using h3⟩
     simp only[JgK,hm,if_true,this]
   · simp(maxSteps:=999999)(disch:=omega)only[go_sem,zA,zM,zS,zE,zL]
     refine⟨i+1,⟨⟨by omega,Wg hall fun h3=>h2 h3.symm⟩,by omega⟩,by omega,J8 _⟩
 · simp(maxSteps:=999999)(disch:=omega)only[go_sem,zA,zM,zS,zE,zL]
   have hm:¬v∈xs:=fun hm=>by
    obtain⟨j,hj,h4⟩:=YA.1 hm
    exact hall j (by omega) h4
   simp only[JgK,hm,if_false]
theorem YZ(xs:List Int)(v:Int)(hx:xs.length≤2^40):Qd Tryz.prog 51 [ZY xs,int v] (bool (decide (v∈xs))):=by
 refine Jq.cw (c:=_) Tryz.func51 rfl (n:=9) Tryz.ntmps51 (rs:=[.tmp 4]) rfl ?_
 simp only[Jf,Jl,zA,zS,Jg,Jc,Jd]
 simp(maxSteps:=999999)(disch:=omega)only[go_sem,zA,zM,zS,zE,zL]
 first|refine Qh.rd (FQ xs v hx) (⟨_,Tryz.func69,rfl,rfl⟩:Jm Tryz.prog 69) rfl rfl rfl rfl ?_|refine Qe.rd (FQ xs v hx) (⟨_,Tryz.func69,rfl,rfl⟩:Jm Tryz.prog 69) rfl rfl rfl rfl ?_
 simp(maxSteps:=999999)(disch:=omega)only[go_sem,zA,zM,zS,zE,zL]
 rw[decide_eq_decide]
 unfold JgK
 split
 · simp[*]
 · simp[*]
def Zz(r:Q2)(n:Int):Prop:=
 (r.kind=1∧2≤(r.cells.length:Int)∧(r.cells.length:Int)≤4∧r.val=0)∨((r.kind=2∨r.kind=3)∧1≤(r.cells.length:Int)∧(r.cells.length:Int)≤4∧1≤r.val∧r.val≤n*n*n*n)∨
 (r.kind=4∧(r.cells.length:Int)=2∧r.val=0)∨(r.kind=5∧(r.cells.length:Int)=2∧0≤r.val∧r.val<n)
def Xu(cs:List Int)(n:Int)(i:Nat):Prop:=∀j:Nat,j<i→(0≤JM cs j∧JM cs j<n*n)∧∀l:Nat,l<j→JM cs l≠JM cs j
instance(r:Q2)(n:Int):Decidable (Zz r n):=by unfold Zz;infer_instance
instance(cs:List Int)(n:Int)(i:Nat):Decidable (Xu cs n i):=by unfold Xu;infer_instance
def JQ(r:Q2)(n:Int):Bool:=decide ((2≤n∧n≤4)∧Xu r.cells n r.cells.length∧Zz r n)
theorem RD{n:Int}(h:2≤n∧n≤4):4≤n*n∧n*n≤16:=by
 have:n=2∨n=3∨n=4:=by omega
 rcases this with rfl|rfl|rfl<;>decide
theorem Bm{n:Int}(h:2≤n∧n≤4):8≤n*n*n∧n*n*n≤64∧16≤n*n*n*n∧n*n*n*n≤256:=by
 have:n=2∨n=3∨n=4:=by omega
 rcases this with rfl|rfl|rfl<;>decide
theorem VE{r:Q2}{n:Int}{i:Nat}(hi:i<r.cells.length)(h:(0≤JM r.cells i∧JM r.cells i<n*n)→∃l:Nat,l<i∧JM r.cells l=JM r.cells i):JQ r n=false:=by
 simp only[JQ,decide_eq_false_iff_not]
 rintro⟨_,h2,_⟩
 obtain⟨l,h3,h4⟩:=h (h2 i hi).1
 exact(h2 i hi).2 l h3 h4
theorem K2{r:Q2}{n:Int}(hn:2≤n∧n≤4)(h:Xu r.cells n r.cells.length):JQ r n=decide (Zz r n):=by
 simp[JQ,hn,h]
theorem UU(r:Q2)(n:Int)(hx:r.cells.length≤2^40):Qd Tryz.prog 32 [aR r,int n] (bool (JQ r n)):=by
 refine Jq.cw (c:=_) Tryz.func32 rfl (n:=105) Tryz.ntmps32 (rs:=[.tmp 4]) rfl ?_
 simp only[Jf,Jl,zA,zS,Jg,Jc,Jd]
 simp(maxSteps:=999999)(disch:=omega)only[go_sem,zA,zM,zS,zE,zL]
 intro g
 first|refine Qh.rd (Wm n) (⟨_,Tryz.func47,rfl,rfl⟩:Jm Tryz.prog 47) rfl rfl rfl rfl ?_|refine Qe.rd (Wm n) (⟨_,Tryz.func47,rfl,rfl⟩:Jm Tryz.prog 47) rfl rfl rfl rfl ?_
 simp(maxSteps:=999999)(disch:=omega)only[go_sem,zA,zM,zS,zE,zL]
 ((first|(with_reducible first|refine Jo ?_ ?_|refine Jk ?_ ?_|refine Jp ?_ ?_)|refine Jr ?_ ?_)<;>intro hn)
 · have hw:=RD hn
   simp(maxSteps:=999999)(disch:=omega)only[go_sem,zA,zM,zS,zE,zL]
   refine Qw (fun i:Nat=>r.cells.length -i) (fun i=>i≤r.cells.length∧Xu r.cells n i) (fun i=>[.a, .k, .k, .a, .a, .a, .a, .a, .a, .a, .a, .a, .k, .k, .p (int i), .a, .a, .a, .a, .a, .a, .a, .a, .a, .a, .a, .a, .a, .a, .a, .a, .a, .a, .a, .a, .a, .a, .a, .a, .a, .a, .a, .a, .a, .a, .a, .a, .a, .a, .a, .a, .a, .a, .a, .a, .a, .a, .a, .a, .a, .a, .a, .a, .a, .a, .a, .a, .a, .a, .a, .a, .a, .a, .a, .a, .a, .a, .a, .a, .a, .a, .a, .a, .a, .a, .a, .a, .a, .a, .a, .a, .a, .a, .a, .a, .a, .a, .a, .a, .a, .a, .a, .a, .a, .a]) (fun _=>[some ⟨g,1,cR r⟩]) 0
    ⟨Nat.zero_le _,fun j hj=>absurd hj (Nat.not_lt_zero _)⟩ (by simp(maxSteps:=999999)(disch:=omega)only[go_sem,zA,zM,zS,zE,zL];rfl) (Qc.refl _) ?_
   rintro i ⟨hi,hall⟩
   simp(maxSteps:=999999)(disch:=omega)only[go_sem,zA,zM,zS,zE,zL]
   ((first|(with_reducible first|refine Jo ?_ ?_|refine Jk ?_ ?_|refine Jp ?_ ?_)|refine Jr ?_ ?_)<;>intro h)
   · have h:i<r.cells.length:=by omega
     simp(maxSteps:=999999)(disch:=omega)only[go_sem,zA,zM,zS,zE,zL]
     ((with_reducible first|refine JU ?_ ?_|refine JJ ?_ ?_|refine J6 ?_ ?_|refine Jx ?_ ?_|refine JS ?_ ?_|refine JT ?_ ?_|refine JH ?_ ?_|refine JI ?_ ?_|refine J4 ?_ ?_|refine J5 ?_ ?_|refine JC ?_ ?_|refine JD ?_ ?_)<;>intro h1<;>simp(maxSteps:=999999)(disch:=omega)only[go_sem,zA,zM,zS,zE,zL,h1])
     · symm;exact VE h fun h5=>by omega
     ((with_reducible first|refine JU ?_ ?_|refine JJ ?_ ?_|refine J6 ?_ ?_|refine Jx ?_ ?_|refine JS ?_ ?_|refine JT ?_ ?_|refine JH ?_ ?_|refine JI ?_ ?_|refine J4 ?_ ?_|refine J5 ?_ ?_|refine JC ?_ ?_|refine JD ?_ ?_)<;>intro h2<;>simp(maxSteps:=999999)(disch:=omega)only[go_sem,zA,zM,zS,zE,zL,h2])
     · symm;exact VE h fun h5=>by omega
     simp(maxSteps:=999999)(disch:=omega)only[go_sem,zA,zM,zS,zE,zL,G1]
     first|refine Qh.rd (YZ (r.cells.take i) (JM r.cells i) (by simp;omega)) (⟨_,Tryz.func51,rfl,rfl⟩:Jm Tryz.prog 51) rfl rfl rfl rfl ?_|refine Qe.rd (YZ (r.cells.take i) (JM r.cells i) (by simp;omega)) (⟨_,Tryz.func51,rfl,rfl⟩:Jm Tryz.prog 51) rfl rfl rfl rfl ?_
     simp(maxSteps:=999999)(disch:=omega)only[go_sem,zA,zM,zS,zE,zL]
     ((first|(with_reducible first|refine Jo ?_ ?_|refine Jk ?_ ?_|refine Jp ?_ ?_)|refine Jr ?_ ?_)<;>intro h3)
     · simp(maxSteps:=999999)(disch:=omega)only[go_sem,zA,zM,zS,zE,zL]
       obtain⟨j,h4,h5⟩:=YA.1 h3
       simp only[JA]at h4
       rw[NA (by omega)]at h5
       symm;exact VE h fun _=>⟨j,by omega,h5⟩
     · simp(maxSteps:=999999)(disch:=omega)only[go_sem,zA,zM,zS,zE,zL]
       refine⟨i+1,⟨⟨h,Wg hall ⟨by omega,fun l hl hl2=>h3 (YA.2 ⟨l,by simp;omega,by rw[NA hl];exact hl2⟩)⟩⟩,by omega⟩,by omega,Qc.refl _⟩
   · have:i=r.cells.length:=by omega
     subst this
     simp(maxSteps:=999999)(disch:=omega)only[go_sem,zA,zM,zS,zE,zL]
     rw[K2 hn hall]
     have hcu:=Bm hn
     repeat' (first|((with_reducible first|refine JU ?_ ?_|refine JJ ?_ ?_|refine J6 ?_ ?_|refine Jx ?_ ?_|refine JS ?_ ?_|refine JT ?_ ?_|refine JH ?_ ?_|refine JI ?_ ?_|refine J4 ?_ ?_|refine J5 ?_ ?_|refine JC ?_ ?_|refine JD ?_ ?_)<;>intro hg<;>simp(maxSteps:=999999)(disch:=omega)only[go_sem,zA,zM,zS,zE,zL,hg])|(((first|(with_reducible first|refine Jo ?_ ?_|refine Jk ?_ ?_|refine Jp ?_ ?_)|refine Jr ?_ ?_)<;>intro hg)<;>simp(maxSteps:=999999)(disch:=omega)only[go_sem,zA,zM,zS,zE,zL])|fail)
     all_goals
      (first|refine Jce ?_|refine Jcc ?_|refine Jcd ?_)
     all_goals unfold Zz;omega
 · simp(maxSteps:=999999)(disch:=omega)only[go_sem,zA,zM,zS,zE,zL]
   symm;simp only[JQ,decide_eq_false_iff_not];exact fun h=>hn h.1
theorem Zp(r:Q2)(n:Int)(hx:r.cells.length≤2^40):Qd Tryz.prog 21 [aR r,int n] (bool (JQ r n)):=by
 refine Jq.cw (c:=_) Tryz.func21 rfl (n:=100) Tryz.ntmps21 (rs:=[.tmp 4]) rfl ?_
 simp only[Jf,Jl,zA,zS,Jg,Jc,Jd]
 simp(maxSteps:=999999)(disch:=omega)only[go_sem,zA,zM,zS,zE,zL]
 intro g
 by_cases hn:2≤n∧n≤4
 · have hw:=RD hn
   refine Qw (fun i:Nat=>r.cells.length -i) (fun i=>i≤r.cells.length∧Xu r.cells n i) (fun i=>[.a, .k, .k, .a, .a, .p (int i), .a, .a, .a, .a, .a, .a, .a, .a, .a, .a, .a, .a, .a, .a, .a, .a, .a, .a, .a, .a, .a, .a, .a, .a, .a, .a, .a, .a, .a, .a, .a, .a, .a, .a, .a, .a, .a, .a, .a, .a, .a, .a, .a, .a, .a, .a, .a, .a, .a, .a, .a, .a, .a, .a, .a, .a, .a, .a, .a, .a, .a, .a, .a, .a, .a, .a, .a, .a, .a, .a, .a, .a, .a, .a, .a, .a, .a, .a, .a, .a, .a, .a, .a, .a, .a, .a, .a, .a, .a, .a, .a, .a, .a, .a]) (fun _=>[some ⟨g,1,cR r⟩]) 0
    ⟨Nat.zero_le _,fun j hj=>absurd hj (Nat.not_lt_zero _)⟩ (by simp(maxSteps:=999999)(disch:=omega)only[go_sem,zA,zM,zS,zE,zL];rfl) (Qc.refl _) ?_
   rintro i ⟨hi,hall⟩
   simp(maxSteps:=999999)(disch:=omega)only[go_sem,zA,zM,zS,zE,zL]
   ((first|(with_reducible first|refine Jo ?_ ?_|refine Jk ?_ ?_|refine Jp ?_ ?_)|refine Jr ?_ ?_)<;>intro h)
   · have h:i<r.cells.length:=by omega
     simp(maxSteps:=999999)(disch:=omega)only[go_sem,zA,zM,zS,zE,zL]
     first|refine Qh.rd (QF _ _ _) (⟨_,Tryz.func45,rfl,rfl⟩:Jm Tryz.prog 45) rfl rfl rfl rfl ?_|refine Qe.rd (QF _ _ _) (⟨_,Tryz.func45,rfl,rfl⟩:Jm Tryz.prog 45) rfl rfl rfl rfl ?_
     simp(maxSteps:=999999)(disch:=omega)only[go_sem,zA,zM,zS,zE,zL]
     ((first|(with_reducible first|refine Jo ?_ ?_|refine Jk ?_ ?_|refine Jp ?_ ?_)|refine Jr ?_ ?_)<;>intro h1)
     · simp(maxSteps:=999999)(disch:=omega)only[go_sem,zA,zM,zS,zE,zL]
       refine Qw (fun j:Nat=>i -j) (fun j=>j≤i∧∀l:Nat,l<j→JM r.cells l≠JM r.cells i) (fun j=>[.a, .k, .k, .a, .a, .k, .p (int j), .a, .a, .a, .a, .a, .a, .a, .a, .a, .a, .a, .a, .a, .a, .a, .a, .a, .a, .a, .a, .a, .a, .a, .a, .a, .a, .a, .a, .a, .a, .a, .a, .a, .a, .a, .a, .a, .a, .a, .a, .a, .a, .a, .a, .a, .a, .a, .a, .a, .a, .a, .a, .a, .a, .a, .a, .a, .a, .a, .a, .a, .a, .a, .a, .a, .a, .a, .a, .a, .a, .a, .a, .a, .a, .a, .a, .a, .a, .a, .a, .a, .a, .a, .a, .a, .a, .a, .a, .a, .a, .a, .a, .a]) (fun _=>[some ⟨g,1,cR r⟩]) 0
        ⟨Nat.zero_le _,fun j hj=>absurd hj (Nat.not_lt_zero _)⟩ (by simp(maxSteps:=999999)(disch:=omega)only[go_sem,zA,zM,zS,zE,zL];rfl) (Qc.refl _) ?_
       rintro j ⟨hj,hall2⟩
       simp(maxSteps:=999999)(disch:=omega)only[go_sem,zA,zM,zS,zE,zL]
       ((first|(with_reducible first|refine Jo ?_ ?_|refine Jk ?_ ?_|refine Jp ?_ ?_)|refine Jr ?_ ?_)<;>intro h2)
       · have h2:j<i:=by omega
         simp(maxSteps:=999999)(disch:=omega)only[go_sem,zA,zM,zS,zE,zL]
         refine Q7 Zr (by kernel_rfl) ?_
         simp(maxSteps:=999999)(disch:=omega)only[go_sem,Nat.reduceBEq,Bool.true_or,zA,zM,zS,zE,zL]
         ((first|(with_reducible first|refine Jo ?_ ?_|refine Jk ?_ ?_|refine Jp ?_ ?_)|refine Jr ?_ ?_)<;>intro h3)
         · simp(maxSteps:=999999)(disch:=omega)only[go_sem,zA,zM,zS,zE,zL]
           symm;exact VE h fun _=>⟨j,h2,h3⟩
         · simp(maxSteps:=999999)(disch:=omega)only[go_sem,zA,zM,zS,zE,zL]
           exact⟨j+1,⟨⟨h2,Wg hall2 h3⟩,by omega⟩,by omega,Qc.refl _⟩
       · simp(maxSteps:=999999)(disch:=omega)only[go_sem,zA,zM,zS,zE,zL]
         have:j=i:=by omega
         subst this
         exact⟨j+1,⟨⟨h,Wg hall ⟨by omega,hall2⟩⟩,by omega⟩,by omega,Qc.refl _⟩
     · simp(maxSteps:=999999)(disch:=omega)only[go_sem,zA,zM,zS,zE,zL]
       symm;exact VE h fun h5=>by omega
   · have:i=r.cells.length:=by omega
     subst this
     simp(maxSteps:=999999)(disch:=omega)only[go_sem,zA,zM,zS,zE,zL]
     first|refine Qh.rd (QF _ _ _) (⟨_,Tryz.func45,rfl,rfl⟩:Jm Tryz.prog 45) rfl rfl rfl rfl ?_|refine Qe.rd (QF _ _ _) (⟨_,Tryz.func45,rfl,rfl⟩:Jm Tryz.prog 45) rfl rfl rfl rfl ?_
     simp(maxSteps:=999999)(disch:=omega)only[go_sem,zA,zM,zS,zE,zL]
     rw[K2 hn hall]
     have hcu:=Bm hn
     repeat' (first|((with_reducible first|refine JU ?_ ?_|refine JJ ?_ ?_|refine J6 ?_ ?_|refine Jx ?_ ?_|refine JS ?_ ?_|refine JT ?_ ?_|refine JH ?_ ?_|refine JI ?_ ?_|refine J4 ?_ ?_|refine J5 ?_ ?_|refine JC ?_ ?_|refine JD ?_ ?_)<;>intro hg<;>simp(maxSteps:=999999)(disch:=omega)only[go_sem,zA,zM,zS,zE,zL,hg])|(((first|(with_reducible first|refine Jo ?_ ?_|refine Jk ?_ ?_|refine Jp ?_ ?_)|refine Jr ?_ ?_)<;>intro hg)<;>simp(maxSteps:=999999)(disch:=omega)only[go_sem,zA,zM,zS,zE,zL])|(refine Qh.rd (QF _ _ _) (⟨_,Tryz.func45,rfl,rfl⟩:Jm Tryz.prog 45) rfl rfl rfl rfl ?_;simp(maxSteps:=999999)(disch:=omega)only[go_sem,zA,zM,zS,zE,zL]))
     all_goals
      (first|refine Jce ?_|refine Jcc ?_|refine Jcd ?_)
     all_goals unfold Zz;omega
 · have hv:JQ r n=false:=by simp only[JQ,decide_eq_false_iff_not];exact fun h=>hn h.1
   rw[hv]
   refine Qw (fun i:Nat=>r.cells.length -i) (fun i=>i≤r.cells.length) (fun i=>[.a, .k, .k, .a, .a, .p (int i), .a, .a, .a, .a, .a, .a, .a, .a, .a, .a, .a, .a, .a, .a, .a, .a, .a, .a, .a, .a, .a, .a, .a, .a, .a, .a, .a, .a, .a, .a, .a, .a, .a, .a, .a, .a, .a, .a, .a, .a, .a, .a, .a, .a, .a, .a, .a, .a, .a, .a, .a, .a, .a, .a, .a, .a, .a, .a, .a, .a, .a, .a, .a, .a, .a, .a, .a, .a, .a, .a, .a, .a, .a, .a, .a, .a, .a, .a, .a, .a, .a, .a, .a, .a, .a, .a, .a, .a, .a, .a, .a, .a, .a, .a]) (fun _=>[some ⟨g,1,cR r⟩]) 0
    (Nat.zero_le _) (by simp(maxSteps:=999999)(disch:=omega)only[go_sem,zA,zM,zS,zE,zL];rfl) (Qc.refl _) ?_
   intro i hi
   simp(maxSteps:=999999)(disch:=omega)only[go_sem,zA,zM,zS,zE,zL]
   ((first|(with_reducible first|refine Jo ?_ ?_|refine Jk ?_ ?_|refine Jp ?_ ?_)|refine Jr ?_ ?_)<;>intro h)
   · have h:i<r.cells.length:=by omega
     simp(maxSteps:=999999)(disch:=omega)only[go_sem,zA,zM,zS,zE,zL]
     first|refine Qh.rd (QF _ _ _) (⟨_,Tryz.func45,rfl,rfl⟩:Jm Tryz.prog 45) rfl rfl rfl rfl ?_|refine Qe.rd (QF _ _ _) (⟨_,Tryz.func45,rfl,rfl⟩:Jm Tryz.prog 45) rfl rfl rfl rfl ?_
     simp(maxSteps:=999999)(disch:=omega)only[go_sem,zA,zM,zS,zE,zL]
     ((first|(with_reducible first|refine Jo ?_ ?_|refine Jk ?_ ?_|refine Jp ?_ ?_)|refine Jr ?_ ?_)<;>intro h1)
     · simp(maxSteps:=999999)(disch:=omega)only[go_sem,zA,zM,zS,zE,zL]
       refine Qw (fun j:Nat=>i -j) (fun j=>j≤i) (fun j=>[.a, .k, .k, .a, .a, .k, .p (int j), .a, .a, .a, .a, .a, .a, .a, .a, .a, .a, .a, .a, .a, .a, .a, .a, .a, .a, .a, .a, .a, .a, .a, .a, .a, .a, .a, .a, .a, .a, .a, .a, .a, .a, .a, .a, .a, .a, .a, .a, .a, .a, .a, .a, .a, .a, .a, .a, .a, .a, .a, .a, .a, .a, .a, .a, .a, .a, .a, .a, .a, .a, .a, .a, .a, .a, .a, .a, .a, .a, .a, .a, .a, .a, .a, .a, .a, .a, .a, .a, .a, .a, .a, .a, .a, .a, .a, .a, .a, .a, .a, .a, .a]) (fun _=>[some ⟨g,1,cR r⟩]) 0
        (Nat.zero_le _) (by simp(maxSteps:=999999)(disch:=omega)only[go_sem,zA,zM,zS,zE,zL];rfl) (Qc.refl _) ?_
       intro j hj
       simp(maxSteps:=999999)(disch:=omega)only[go_sem,zA,zM,zS,zE,zL]
       ((first|(with_reducible first|refine Jo ?_ ?_|refine Jk ?_ ?_|refine Jp ?_ ?_)|refine Jr ?_ ?_)<;>intro h2)
       · have h2:j<i:=by omega
         simp(maxSteps:=999999)(disch:=omega)only[go_sem,zA,zM,zS,zE,zL]
         refine Q7 Zr (by kernel_rfl) ?_
         simp(maxSteps:=999999)(disch:=omega)only[go_sem,Nat.reduceBEq,Bool.true_or,zA,zM,zS,zE,zL]
         ((first|(with_reducible first|refine Jo ?_ ?_|refine Jk ?_ ?_|refine Jp ?_ ?_)|refine Jr ?_ ?_)<;>intro h3)
         · simp(maxSteps:=999999)(disch:=omega)only[go_sem,zA,zM,zS,zE,zL]
         · simp(maxSteps:=999999)(disch:=omega)only[go_sem,zA,zM,zS,zE,zL]
           exact⟨j+1,⟨h2,by omega⟩,by omega,Qc.refl _⟩
       · simp(maxSteps:=999999)(disch:=omega)only[go_sem,zA,zM,zS,zE,zL]
         exact⟨i+1,⟨h,by omega⟩,by omega,Qc.refl _⟩
     · simp(maxSteps:=999999)(disch:=omega)only[go_sem,zA,zM,zS,zE,zL]
   · simp(maxSteps:=999999)(disch:=omega)only[go_sem,zA,zM,zS,zE,zL]
     first|refine Qh.rd (QF _ _ _) (⟨_,Tryz.func45,rfl,rfl⟩:Jm Tryz.prog 45) rfl rfl rfl rfl ?_|refine Qe.rd (QF _ _ _) (⟨_,Tryz.func45,rfl,rfl⟩:Jm Tryz.prog 45) rfl rfl rfl rfl ?_
     simp(maxSteps:=999999)(disch:=omega)only[go_sem,zA,zM,zS,zE,zL]
     rw[show decide (2≤n∧n≤4)=false from decide_eq_false hn]
     simp(maxSteps:=999999)(disch:=omega)only[go_sem,zA,zM,zS,zE,zL]
end Go.Lg
