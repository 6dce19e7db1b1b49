/- GpI, GpI2, cut to what is needed. -/
import Derived.Test.YtidekghnkifbjaaGreatDoorJdb1
open List renaming length_cons → Ja, cons_append → Jb, nil_append → Jd, length_nil → Je, replicate → Jf, getElem?_take_of_lt → Jz, length_take → JX
open Nat renaming reduceAdd→zA,reduceMul→zM,reduceSub→zS,reduceEqDiff→zE,reduceLeDiff→zL
set_option linter.unusedSimpArgs false
set_option linter.unusedVariables false
set_option maxRecDepth 100000
namespace Go.Lg
open Go.Proofs
theorem JcA{α:Type}[Inhabited α]{xs:List α}{i j:Nat}(h:j<i):Jy (xs.take i) j=Jy xs j:=by
 simp only[Jy,List.getD]
 rw[show((j:Int)).toNat=j by omega,Jz h]
theorem Jhm{α:Type}(xs:List α)(i:Nat):sub xs 0 (i:Int)=xs.take i:=by simp[sub]
theorem R4{α:Type}[Inhabited α]{xs:List α}{v:α}:v∈xs↔∃j:Nat,j<xs.length∧Jy xs j=v:=by
 constructor
 · intro h
   obtain⟨i,hi,rfl⟩:=List.mem_iff_getElem.1 h
   exact⟨i,hi,by rw[Qe (by omega)];simp⟩
 · rintro⟨j,hj,rfl⟩
   exact Q8 hj
theorem JbP{α:Type}[Inhabited α]{xs:List α}{f:α→Bool}:xs.all f=true↔∀j:Nat,j<xs.length→f (Jy xs j)=true:=by
 rw[List.all_eq_true]
 exact⟨fun h j hj=>h _ (Q8 hj),fun h x hx=>by obtain⟨j,hj,rfl⟩:=R4.1 hx;exact h j hj⟩
theorem Jjg{α:Type}[Inhabited α]{xs:List α}{f:α→Bool}{i:Nat}(hi:i<xs.length)(h:f (Jy xs i)=false):xs.all f=false:=by
 cases ha:xs.all f with
 |false=>rfl
 |true=>rw[JbP.1 ha i hi]at h;cases h
theorem Vh{p:Nat→Prop}{i:Nat}(h:∀j,j<i→p j)(hi:p i):∀j,j<i+1→p j:=fun j hj=>by
 rcases Nat.lt_succ_iff_lt_or_eq.1 hj with h1|rfl
 · exact h j h1
 · exact hi
def Jkq(xs:List Int)(v:Int):Int:=if v∈xs then(xs.findIdx (fun x=>x==v):Nat)else-1
theorem JaT(xs:List Int)(v:Int)(hx:xs.length≤2^40):JM Tryz.prog 114 [QF xs,int v] (int (Jkq xs v)):=by
 refine Jk.cw (c:=_) Tryz.func114 rfl (n:=19) Tryz.ntmps114 (rs:=[.tmp 4]) rfl ?_
 simp only[Ja,Je,zA,zS,Jf,Jb,Jd]
 simp(maxSteps:=999999)(disch:=omega)only[go_sem,zA,zM,zS,zE,zL]
 refine JO (fun i:Nat=>xs.length -i) (fun i=>i≤xs.length∧∀j:Nat,j<i→Jy xs j≠v) (fun i=>[.k, .k, .a, .a, .a, .a, .a, .k, .p (int i), .a, .a, .a, .a, .a, .a, .a, .a, .a, .a]) (fun i=>[]) 0
  ⟨Nat.zero_le _,fun j hj=>absurd hj (Nat.not_lt_zero _)⟩ (by simp(maxSteps:=999999)(disch:=omega)only[go_sem,zA,zM,zS,zE,zL];rfl) (J9 _) ?_
 rintro i ⟨hi,hall⟩
 simp(maxSteps:=999999)(disch:=omega)only[go_sem,zA,zM,zS,zE,zL]
 ((first|(with_reducible first|refine Jm ?_ ?_|refine Jj ?_ ?_|refine Jo ?_ ?_)|refine Jr ?_ ?_)<;>intro h)
 · have h:i<xs.length:=by omega
   simp(maxSteps:=999999)(disch:=omega)only[go_sem,zA,zM,zS,zE,zL]
   ((first|(with_reducible first|refine Jm ?_ ?_|refine Jj ?_ ?_|refine Jo ?_ ?_)|refine Jr ?_ ?_)<;>intro h2)
   · simp(maxSteps:=999999)(disch:=omega)only[go_sem,zA,zM,zS,zE,zL]
     have hm:v∈xs:=R4.2 ⟨i,h,h2.symm⟩
     have:xs.findIdx (fun x=>x==v)=i:=(List.findIdx_eq h).2 ⟨by have:=Qe (xs:=xs) (e:=i) (by omega);simp at this;rw[←this,h2];simp,fun j hj=>by
      have h3:=hall j hj
      rw[Qe (by omega)]at h3
      simpa using h3⟩
     simp only[Jkq,hm,if_true,this]
   · simp(maxSteps:=999999)(disch:=omega)only[go_sem,zA,zM,zS,zE,zL]
     refine⟨i+1,⟨⟨by omega,Vh hall fun h3=>h2 h3.symm⟩,by omega⟩,by omega,J9 _⟩
 · simp(maxSteps:=999999)(disch:=omega)only[go_sem,zA,zM,zS,zE,zL]
   have hm:¬v∈xs:=fun hm=>by
    obtain⟨j,hj,h4⟩:=R4.1 hm
    exact hall j (by omega) h4
   simp only[Jkq,hm,if_false]
theorem UN(xs:List Int)(v:Int)(hx:xs.length≤2^40):JM Tryz.prog 82 [QF xs,int v] (bool (decide (v∈xs))):=by
 refine Jk.cw (c:=_) Tryz.func82 rfl (n:=9) Tryz.ntmps82 (rs:=[.tmp 4]) rfl ?_
 simp only[Ja,Je,zA,zS,Jf,Jb,Jd]
 simp(maxSteps:=999999)(disch:=omega)only[go_sem,zA,zM,zS,zE,zL]
 first|refine JU.rd (JaT xs v hx) (⟨_,Tryz.func114,rfl,rfl⟩:Jg Tryz.prog 114) rfl rfl rfl rfl ?_|refine JG.rd (JaT xs v hx) (⟨_,Tryz.func114,rfl,rfl⟩:Jg Tryz.prog 114) rfl rfl rfl rfl ?_
 simp(maxSteps:=999999)(disch:=omega)only[go_sem,zA,zM,zS,zE,zL]
 rw[decide_eq_decide]
 unfold Jkq
 split
 · simp[*]
 · simp[*]
def VG(r:Zq)(n:Int):Prop:=
 (r.kind=1∧2≤(r.cells.length:Int)∧(r.cells.length:Int)≤4∧r.val=0)∨((r.kind=2∨r.kind=3)∧1≤(r.cells.length:Int)∧(r.cells.length:Int)≤4∧1≤r.val∧r.val≤n*n*n*n)∨
 (r.kind=4∧(r.cells.length:Int)=2∧r.val=0)∨(r.kind=5∧(r.cells.length:Int)=2∧0≤r.val∧r.val<n)
def Kx(cs:List Int)(n:Int)(i:Nat):Prop:=∀j:Nat,j<i→(0≤Jy cs j∧Jy cs j<n*n)∧∀l:Nat,l<j→Jy cs l≠Jy cs j
instance(r:Zq)(n:Int):Decidable (VG r n):=by unfold VG;infer_instance
instance(cs:List Int)(n:Int)(i:Nat):Decidable (Kx cs n i):=by unfold Kx;infer_instance
def Qw(r:Zq)(n:Int):Bool:=decide ((2≤n∧n≤4)∧Kx r.cells n r.cells.length∧VG r n)
theorem Gg{n:Int}(h:2≤n∧n≤4):4≤n*n∧n*n≤16:=by
 have:n=2∨n=3∨n=4:=by omega
 rcases this with rfl|rfl|rfl<;>decide
theorem Jc9{n:Int}(h:2≤n∧n≤4):8≤n*n*n∧n*n*n≤64∧16≤n*n*n*n∧n*n*n*n≤256:=by
 have:n=2∨n=3∨n=4:=by omega
 rcases this with rfl|rfl|rfl<;>decide
theorem Xh{r:Zq}{n:Int}{i:Nat}(hi:i<r.cells.length)(h:(0≤Jy r.cells i∧Jy r.cells i<n*n)→∃l:Nat,l<i∧Jy r.cells l=Jy r.cells i):Qw r n=false:=by
 simp only[Qw,decide_eq_false_iff_not]
 rintro⟨_,h2,_⟩
 obtain⟨l,h3,h4⟩:=h (h2 i hi).1
 exact(h2 i hi).2 l h3 h4
theorem Fx{r:Zq}{n:Int}(hn:2≤n∧n≤4)(h:Kx r.cells n r.cells.length):Qw r n=decide (VG r n):=by
 simp[Qw,hn,h]
theorem Wp(r:Zq)(n:Int)(hx:r.cells.length≤2^40):JM Tryz.prog 86 [aR r,int n] (bool (Qw r n)):=by
 refine Jk.cw (c:=_) Tryz.func86 rfl (n:=105) Tryz.ntmps86 (rs:=[.tmp 4]) rfl ?_
 simp only[Ja,Je,zA,zS,Jf,Jb,Jd]
 simp(maxSteps:=999999)(disch:=omega)only[go_sem,zA,zM,zS,zE,zL]
 intro g
 first|refine JU.rd (Vz n) (⟨_,Tryz.func96,rfl,rfl⟩:Jg Tryz.prog 96) rfl rfl rfl rfl ?_|refine JG.rd (Vz n) (⟨_,Tryz.func96,rfl,rfl⟩:Jg Tryz.prog 96) rfl rfl rfl rfl ?_
 simp(maxSteps:=999999)(disch:=omega)only[go_sem,zA,zM,zS,zE,zL]
 ((first|(with_reducible first|refine Jm ?_ ?_|refine Jj ?_ ?_|refine Jo ?_ ?_)|refine Jr ?_ ?_)<;>intro hn)
 · have hw:=Gg hn
   simp(maxSteps:=999999)(disch:=omega)only[go_sem,zA,zM,zS,zE,zL]
   refine JO (fun i:Nat=>r.cells.length -i) (fun i=>i≤r.cells.length∧Kx r.cells n i) (fun i=>[.a, .k, .k, .a, .a, .a, .a, .a, .a, .a, .a, .a, .k, .k, .p (int i), .a, .a, .a, .a, .a, .a, .a, .a, .a, .a, .a, .a, .a, .a, .a, .a, .a, .a, .a, .a, .a, .a, .a, .a, .a, .a, .a, .a, .a, .a, .a, .a, .a, .a, .a, .a, .a, .a, .a, .a, .a, .a, .a, .a, .a, .a, .a, .a, .a, .a, .a, .a, .a, .a, .a, .a, .a, .a, .a, .a, .a, .a, .a, .a, .a, .a, .a, .a, .a, .a, .a, .a, .a, .a, .a, .a, .a, .a, .a, .a, .a, .a, .a, .a, .a, .a, .a, .a, .a, .a]) (fun _=>[some ⟨g,1,cR r⟩]) 0
    ⟨Nat.zero_le _,fun j hj=>absurd hj (Nat.not_lt_zero _)⟩ (by simp(maxSteps:=999999)(disch:=omega)only[go_sem,zA,zM,zS,zE,zL];rfl) (J5.refl _) ?_
   rintro i ⟨hi,hall⟩
   simp(maxSteps:=999999)(disch:=omega)only[go_sem,zA,zM,zS,zE,zL]
   ((first|(with_reducible first|refine Jm ?_ ?_|refine Jj ?_ ?_|refine Jo ?_ ?_)|refine Jr ?_ ?_)<;>intro h)
   · have h:i<r.cells.length:=by omega
     simp(maxSteps:=999999)(disch:=omega)only[go_sem,zA,zM,zS,zE,zL]
     ((with_reducible first|refine JL ?_ ?_|refine JD ?_ ?_|refine JT ?_ ?_|refine Jv ?_ ?_|refine JJ ?_ ?_|refine JK ?_ ?_|refine JB ?_ ?_|refine JC ?_ ?_|refine JR ?_ ?_|refine JS ?_ ?_|refine Jw ?_ ?_|refine Jx ?_ ?_)<;>intro h1<;>simp(maxSteps:=999999)(disch:=omega)only[go_sem,zA,zM,zS,zE,zL,h1])
     · symm;exact Xh h fun h5=>by omega
     ((with_reducible first|refine JL ?_ ?_|refine JD ?_ ?_|refine JT ?_ ?_|refine Jv ?_ ?_|refine JJ ?_ ?_|refine JK ?_ ?_|refine JB ?_ ?_|refine JC ?_ ?_|refine JR ?_ ?_|refine JS ?_ ?_|refine Jw ?_ ?_|refine Jx ?_ ?_)<;>intro h2<;>simp(maxSteps:=999999)(disch:=omega)only[go_sem,zA,zM,zS,zE,zL,h2])
     · symm;exact Xh h fun h5=>by omega
     simp(maxSteps:=999999)(disch:=omega)only[go_sem,zA,zM,zS,zE,zL,Jhm]
     first|refine JU.rd (UN (r.cells.take i) (Jy r.cells i) (by simp;omega)) (⟨_,Tryz.func82,rfl,rfl⟩:Jg Tryz.prog 82) rfl rfl rfl rfl ?_|refine JG.rd (UN (r.cells.take i) (Jy r.cells i) (by simp;omega)) (⟨_,Tryz.func82,rfl,rfl⟩:Jg Tryz.prog 82) rfl rfl rfl rfl ?_
     simp(maxSteps:=999999)(disch:=omega)only[go_sem,zA,zM,zS,zE,zL]
     ((first|(with_reducible first|refine Jm ?_ ?_|refine Jj ?_ ?_|refine Jo ?_ ?_)|refine Jr ?_ ?_)<;>intro h3)
     · simp(maxSteps:=999999)(disch:=omega)only[go_sem,zA,zM,zS,zE,zL]
       obtain⟨j,h4,h5⟩:=R4.1 h3
       simp only[JX]at h4
       rw[JcA (by omega)]at h5
       symm;exact Xh h fun _=>⟨j,by omega,h5⟩
     · simp(maxSteps:=999999)(disch:=omega)only[go_sem,zA,zM,zS,zE,zL]
       refine⟨i+1,⟨⟨h,Vh hall ⟨by omega,fun l hl hl2=>h3 (R4.2 ⟨l,by simp;omega,by rw[JcA hl];exact hl2⟩)⟩⟩,by omega⟩,by omega,J5.refl _⟩
   · have:i=r.cells.length:=by omega
     subst this
     simp(maxSteps:=999999)(disch:=omega)only[go_sem,zA,zM,zS,zE,zL]
     rw[Fx hn hall]
     have hcu:=Jc9 hn
     repeat' (first|((with_reducible first|refine JL ?_ ?_|refine JD ?_ ?_|refine JT ?_ ?_|refine Jv ?_ ?_|refine JJ ?_ ?_|refine JK ?_ ?_|refine JB ?_ ?_|refine JC ?_ ?_|refine JR ?_ ?_|refine JS ?_ ?_|refine Jw ?_ ?_|refine Jx ?_ ?_)<;>intro hg<;>simp(maxSteps:=999999)(disch:=omega)only[go_sem,zA,zM,zS,zE,zL,hg])|(((first|(with_reducible first|refine Jm ?_ ?_|refine Jj ?_ ?_|refine Jo ?_ ?_)|refine Jr ?_ ?_)<;>intro hg)<;>simp(maxSteps:=999999)(disch:=omega)only[go_sem,zA,zM,zS,zE,zL])|fail)
     all_goals
      (first|refine Jfs ?_|refine Jfq ?_|refine Jfr ?_)
     all_goals unfold VG;omega
 · simp(maxSteps:=999999)(disch:=omega)only[go_sem,zA,zM,zS,zE,zL]
   symm;simp only[Qw,decide_eq_false_iff_not];exact fun h=>hn h.1
theorem Vb(r:Zq)(n:Int)(hx:r.cells.length≤2^40):JM Tryz.prog 85 [aR r,int n] (bool (Qw r n)):=by
 refine Jk.cw (c:=_) Tryz.func85 rfl (n:=100) Tryz.ntmps85 (rs:=[.tmp 4]) rfl ?_
 simp only[Ja,Je,zA,zS,Jf,Jb,Jd]
 simp(maxSteps:=999999)(disch:=omega)only[go_sem,zA,zM,zS,zE,zL]
 intro g
 by_cases hn:2≤n∧n≤4
 · have hw:=Gg hn
   refine JO (fun i:Nat=>r.cells.length -i) (fun i=>i≤r.cells.length∧Kx r.cells n i) (fun i=>[.a, .k, .k, .a, .a, .p (int i), .a, .a, .a, .a, .a, .a, .a, .a, .a, .a, .a, .a, .a, .a, .a, .a, .a, .a, .a, .a, .a, .a, .a, .a, .a, .a, .a, .a, .a, .a, .a, .a, .a, .a, .a, .a, .a, .a, .a, .a, .a, .a, .a, .a, .a, .a, .a, .a, .a, .a, .a, .a, .a, .a, .a, .a, .a, .a, .a, .a, .a, .a, .a, .a, .a, .a, .a, .a, .a, .a, .a, .a, .a, .a, .a, .a, .a, .a, .a, .a, .a, .a, .a, .a, .a, .a, .a, .a, .a, .a, .a, .a, .a, .a]) (fun _=>[some ⟨g,1,cR r⟩]) 0
    ⟨Nat.zero_le _,fun j hj=>absurd hj (Nat.not_lt_zero _)⟩ (by simp(maxSteps:=999999)(disch:=omega)only[go_sem,zA,zM,zS,zE,zL];rfl) (J5.refl _) ?_
   rintro i ⟨hi,hall⟩
   simp(maxSteps:=999999)(disch:=omega)only[go_sem,zA,zM,zS,zE,zL]
   ((first|(with_reducible first|refine Jm ?_ ?_|refine Jj ?_ ?_|refine Jo ?_ ?_)|refine Jr ?_ ?_)<;>intro h)
   · have h:i<r.cells.length:=by omega
     simp(maxSteps:=999999)(disch:=omega)only[go_sem,zA,zM,zS,zE,zL]
     first|refine JU.rd (QE _ _ _) (⟨_,Tryz.func40,rfl,rfl⟩:Jg Tryz.prog 40) rfl rfl rfl rfl ?_|refine JG.rd (QE _ _ _) (⟨_,Tryz.func40,rfl,rfl⟩:Jg Tryz.prog 40) rfl rfl rfl rfl ?_
     simp(maxSteps:=999999)(disch:=omega)only[go_sem,zA,zM,zS,zE,zL]
     ((first|(with_reducible first|refine Jm ?_ ?_|refine Jj ?_ ?_|refine Jo ?_ ?_)|refine Jr ?_ ?_)<;>intro h1)
     · simp(maxSteps:=999999)(disch:=omega)only[go_sem,zA,zM,zS,zE,zL]
       refine JO (fun j:Nat=>i -j) (fun j=>j≤i∧∀l:Nat,l<j→Jy r.cells l≠Jy r.cells i) (fun j=>[.a, .k, .k, .a, .a, .k, .p (int j), .a, .a, .a, .a, .a, .a, .a, .a, .a, .a, .a, .a, .a, .a, .a, .a, .a, .a, .a, .a, .a, .a, .a, .a, .a, .a, .a, .a, .a, .a, .a, .a, .a, .a, .a, .a, .a, .a, .a, .a, .a, .a, .a, .a, .a, .a, .a, .a, .a, .a, .a, .a, .a, .a, .a, .a, .a, .a, .a, .a, .a, .a, .a, .a, .a, .a, .a, .a, .a, .a, .a, .a, .a, .a, .a, .a, .a, .a, .a, .a, .a, .a, .a, .a, .a, .a, .a, .a, .a, .a, .a, .a, .a]) (fun _=>[some ⟨g,1,cR r⟩]) 0
        ⟨Nat.zero_le _,fun j hj=>absurd hj (Nat.not_lt_zero _)⟩ (by simp(maxSteps:=999999)(disch:=omega)only[go_sem,zA,zM,zS,zE,zL];rfl) (J5.refl _) ?_
       rintro j ⟨hj,hall2⟩
       simp(maxSteps:=999999)(disch:=omega)only[go_sem,zA,zM,zS,zE,zL]
       ((first|(with_reducible first|refine Jm ?_ ?_|refine Jj ?_ ?_|refine Jo ?_ ?_)|refine Jr ?_ ?_)<;>intro h2)
       · have h2:j<i:=by omega
         simp(maxSteps:=999999)(disch:=omega)only[go_sem,zA,zM,zS,zE,zL]
         refine Zi ZE (by kernel_rfl) ?_
         simp(maxSteps:=999999)(disch:=omega)only[go_sem,Nat.reduceBEq,Bool.true_or,zA,zM,zS,zE,zL]
         ((first|(with_reducible first|refine Jm ?_ ?_|refine Jj ?_ ?_|refine Jo ?_ ?_)|refine Jr ?_ ?_)<;>intro h3)
         · simp(maxSteps:=999999)(disch:=omega)only[go_sem,zA,zM,zS,zE,zL]
           symm;exact Xh h fun _=>⟨j,h2,h3⟩
         · simp(maxSteps:=999999)(disch:=omega)only[go_sem,zA,zM,zS,zE,zL]
           exact⟨j+1,⟨⟨h2,Vh hall2 h3⟩,by omega⟩,by omega,J5.refl _⟩
       · simp(maxSteps:=999999)(disch:=omega)only[go_sem,zA,zM,zS,zE,zL]
         have:j=i:=by omega
         subst this
         exact⟨j+1,⟨⟨h,Vh hall ⟨by omega,hall2⟩⟩,by omega⟩,by omega,J5.refl _⟩
     · simp(maxSteps:=999999)(disch:=omega)only[go_sem,zA,zM,zS,zE,zL]
       symm;exact Xh h fun h5=>by omega
   · have:i=r.cells.length:=by omega
     subst this
     simp(maxSteps:=999999)(disch:=omega)only[go_sem,zA,zM,zS,zE,zL]
     first|refine JU.rd (QE _ _ _) (⟨_,Tryz.func40,rfl,rfl⟩:Jg Tryz.prog 40) rfl rfl rfl rfl ?_|refine JG.rd (QE _ _ _) (⟨_,Tryz.func40,rfl,rfl⟩:Jg Tryz.prog 40) rfl rfl rfl rfl ?_
     simp(maxSteps:=999999)(disch:=omega)only[go_sem,zA,zM,zS,zE,zL]
     rw[Fx hn hall]
     have hcu:=Jc9 hn
     repeat' (first|((with_reducible first|refine JL ?_ ?_|refine JD ?_ ?_|refine JT ?_ ?_|refine Jv ?_ ?_|refine JJ ?_ ?_|refine JK ?_ ?_|refine JB ?_ ?_|refine JC ?_ ?_|refine JR ?_ ?_|refine JS ?_ ?_|refine Jw ?_ ?_|refine Jx ?_ ?_)<;>intro hg<;>simp(maxSteps:=999999)(disch:=omega)only[go_sem,zA,zM,zS,zE,zL,hg])|(((first|(with_reducible first|refine Jm ?_ ?_|refine Jj ?_ ?_|refine Jo ?_ ?_)|refine Jr ?_ ?_)<;>intro hg)<;>simp(maxSteps:=999999)(disch:=omega)only[go_sem,zA,zM,zS,zE,zL])|(refine JU.rd (QE _ _ _) (⟨_,Tryz.func40,rfl,rfl⟩:Jg Tryz.prog 40) rfl rfl rfl rfl ?_;simp(maxSteps:=999999)(disch:=omega)only[go_sem,zA,zM,zS,zE,zL]))
     all_goals
      (first|refine Jfs ?_|refine Jfq ?_|refine Jfr ?_)
     all_goals unfold VG;omega
 · have hv:Qw r n=false:=by simp only[Qw,decide_eq_false_iff_not];exact fun h=>hn h.1
   rw[hv]
   refine JO (fun i:Nat=>r.cells.length -i) (fun i=>i≤r.cells.length) (fun i=>[.a, .k, .k, .a, .a, .p (int i), .a, .a, .a, .a, .a, .a, .a, .a, .a, .a, .a, .a, .a, .a, .a, .a, .a, .a, .a, .a, .a, .a, .a, .a, .a, .a, .a, .a, .a, .a, .a, .a, .a, .a, .a, .a, .a, .a, .a, .a, .a, .a, .a, .a, .a, .a, .a, .a, .a, .a, .a, .a, .a, .a, .a, .a, .a, .a, .a, .a, .a, .a, .a, .a, .a, .a, .a, .a, .a, .a, .a, .a, .a, .a, .a, .a, .a, .a, .a, .a, .a, .a, .a, .a, .a, .a, .a, .a, .a, .a, .a, .a, .a, .a]) (fun _=>[some ⟨g,1,cR r⟩]) 0
    (Nat.zero_le _) (by simp(maxSteps:=999999)(disch:=omega)only[go_sem,zA,zM,zS,zE,zL];rfl) (J5.refl _) ?_
   intro i hi
   simp(maxSteps:=999999)(disch:=omega)only[go_sem,zA,zM,zS,zE,zL]
   ((first|(with_reducible first|refine Jm ?_ ?_|refine Jj ?_ ?_|refine Jo ?_ ?_)|refine Jr ?_ ?_)<;>intro h)
   · have h:i<r.cells.length:=by omega
     simp(maxSteps:=999999)(disch:=omega)only[go_sem,zA,zM,zS,zE,zL]
     first|refine JU.rd (QE _ _ _) (⟨_,Tryz.func40,rfl,rfl⟩:Jg Tryz.prog 40) rfl rfl rfl rfl ?_|refine JG.rd (QE _ _ _) (⟨_,Tryz.func40,rfl,rfl⟩:Jg Tryz.prog 40) rfl rfl rfl rfl ?_
     simp(maxSteps:=999999)(disch:=omega)only[go_sem,zA,zM,zS,zE,zL]
     ((first|(with_reducible first|refine Jm ?_ ?_|refine Jj ?_ ?_|refine Jo ?_ ?_)|refine Jr ?_ ?_)<;>intro h1)
     · simp(maxSteps:=999999)(disch:=omega)only[go_sem,zA,zM,zS,zE,zL]
       refine JO (fun j:Nat=>i -j) (fun j=>j≤i) (fun j=>[.a, .k, .k, .a, .a, .k, .p (int j), .a, .a, .a, .a, .a, .a, .a, .a, .a, .a, .a, .a, .a, .a, .a, .a, .a, .a, .a, .a, .a, .a, .a, .a, .a, .a, .a, .a, .a, .a, .a, .a, .a, .a, .a, .a, .a, .a, .a, .a, .a, .a, .a, .a, .a, .a, .a, .a, .a, .a, .a, .a, .a, .a, .a, .a, .a, .a, .a, .a, .a, .a, .a, .a, .a, .a, .a, .a, .a, .a, .a, .a, .a, .a, .a, .a, .a, .a, .a, .a, .a, .a, .a, .a, .a, .a, .a, .a, .a, .a, .a, .a, .a]) (fun _=>[some ⟨g,1,cR r⟩]) 0
        (Nat.zero_le _) (by simp(maxSteps:=999999)(disch:=omega)only[go_sem,zA,zM,zS,zE,zL];rfl) (J5.refl _) ?_
       intro j hj
       simp(maxSteps:=999999)(disch:=omega)only[go_sem,zA,zM,zS,zE,zL]
       ((first|(with_reducible first|refine Jm ?_ ?_|refine Jj ?_ ?_|refine Jo ?_ ?_)|refine Jr ?_ ?_)<;>intro h2)
       · have h2:j<i:=by omega
         simp(maxSteps:=999999)(disch:=omega)only[go_sem,zA,zM,zS,zE,zL]
         refine Zi ZE (by kernel_rfl) ?_
         simp(maxSteps:=999999)(disch:=omega)only[go_sem,Nat.reduceBEq,Bool.true_or,zA,zM,zS,zE,zL]
         ((first|(with_reducible first|refine Jm ?_ ?_|refine Jj ?_ ?_|refine Jo ?_ ?_)|refine Jr ?_ ?_)<;>intro h3)
         · simp(maxSteps:=999999)(disch:=omega)only[go_sem,zA,zM,zS,zE,zL]
         · simp(maxSteps:=999999)(disch:=omega)only[go_sem,zA,zM,zS,zE,zL]
           exact⟨j+1,⟨h2,by omega⟩,by omega,J5.refl _⟩
       · simp(maxSteps:=999999)(disch:=omega)only[go_sem,zA,zM,zS,zE,zL]
         exact⟨i+1,⟨h,by omega⟩,by omega,J5.refl _⟩
     · simp(maxSteps:=999999)(disch:=omega)only[go_sem,zA,zM,zS,zE,zL]
   · simp(maxSteps:=999999)(disch:=omega)only[go_sem,zA,zM,zS,zE,zL]
     first|refine JU.rd (QE _ _ _) (⟨_,Tryz.func40,rfl,rfl⟩:Jg Tryz.prog 40) rfl rfl rfl rfl ?_|refine JG.rd (QE _ _ _) (⟨_,Tryz.func40,rfl,rfl⟩:Jg Tryz.prog 40) rfl rfl rfl rfl ?_
     simp(maxSteps:=999999)(disch:=omega)only[go_sem,zA,zM,zS,zE,zL]
     rw[show decide (2≤n∧n≤4)=false from decide_eq_false hn]
     simp(maxSteps:=999999)(disch:=omega)only[go_sem,zA,zM,zS,zE,zL]
end Go.Lg

namespace Go.Lg
open Go.Proofs
def JA(p:QR):Bool:=Qc p.given p.size&&(decide (p.rules.length≤20)&&p.rules.all fun r=>Qw r p.size)
theorem Qq(p:QR)(hx:RC p):JM Tryz.prog 41 [aP p] (bool (JA p)):=by
 obtain⟨hx1,hx2,hx3⟩:=hx
 refine Jk.cw (c:=_) Tryz.func41 rfl (n:=30) Tryz.ntmps41 (rs:=[.tmp 2]) rfl ?_
 simp only[Ja,Je,zA,zS,Jf,Jb,Jd]
 simp(maxSteps:=999999)(disch:=omega)only[go_sem,zA,zM,zS,zE,zL]
 intro g
 first|refine JU.rd (Zv p.given p.size (by omega)) (⟨_,Tryz.func54,rfl,rfl⟩:Jg Tryz.prog 54) rfl rfl rfl rfl ?_|refine JG.rd (Zv p.given p.size (by omega)) (⟨_,Tryz.func54,rfl,rfl⟩:Jg Tryz.prog 54) rfl rfl rfl rfl ?_
 simp(maxSteps:=999999)(disch:=omega)only[go_sem,zA,zM,zS,zE,zL]
 ((with_reducible first|refine JL ?_ ?_|refine JD ?_ ?_|refine JT ?_ ?_|refine Jv ?_ ?_|refine JJ ?_ ?_|refine JK ?_ ?_|refine JB ?_ ?_|refine JC ?_ ?_|refine JR ?_ ?_|refine JS ?_ ?_|refine Jw ?_ ?_|refine Jx ?_ ?_)<;>intro hv<;>simp(maxSteps:=999999)(disch:=omega)only[go_sem,zA,zM,zS,zE,zL,hv])
 rotate_left
 · simp[JA,hv]
 ((first|(with_reducible first|refine Jm ?_ ?_|refine Jj ?_ ?_|refine Jo ?_ ?_)|refine Jr ?_ ?_)<;>intro h20)
 · simp(maxSteps:=999999)(disch:=omega)only[go_sem,zA,zM,zS,zE,zL]
   symm;simp only[JA,hv,Bool.true_and,Bool.and_eq_false_iff,decide_eq_false_iff_not];exact .inl (by omega)
 simp(maxSteps:=999999)(disch:=omega)only[go_sem,zA,zM,zS,zE,zL]
 refine JO (fun i:Nat=>p.rules.length -i) (fun i=>i≤p.rules.length∧∀j:Nat,j<i→Qw (Jy p.rules j) p.size=true) (fun i=>[.a, .k, .a, .a, .a, .a, .a, .a, .a, .a, .a, .a, .a, .a, .a, .a, .a, .a, .k, .k, .p (int i), .a, .a, .a, .a, .a, .a, .a, .a, .a]) (fun _=>[some ⟨g,1,cP p⟩]) 0
  ⟨Nat.zero_le _,fun j hj=>absurd hj (Nat.not_lt_zero _)⟩ (by simp(maxSteps:=999999)(disch:=omega)only[go_sem,zA,zM,zS,zE,zL];rfl) (J5.refl _) ?_
 rintro i ⟨hi,hall⟩
 simp(maxSteps:=999999)(disch:=omega)only[go_sem,zA,zM,zS,zE,zL]
 ((first|(with_reducible first|refine Jm ?_ ?_|refine Jj ?_ ?_|refine Jo ?_ ?_)|refine Jr ?_ ?_)<;>intro h)
 · have h:i<p.rules.length:=by omega
   simp(maxSteps:=999999)(disch:=omega)only[go_sem,zA,zM,zS,zE,zL]
   intro g2
   first|refine JU.rd (Wp (Jy p.rules i) p.size (hx3 _ (Q8 h))) (⟨_,Tryz.func86,rfl,rfl⟩:Jg Tryz.prog 86) rfl rfl rfl rfl ?_|refine JG.rd (Wp (Jy p.rules i) p.size (hx3 _ (Q8 h))) (⟨_,Tryz.func86,rfl,rfl⟩:Jg Tryz.prog 86) rfl rfl rfl rfl ?_
   simp(maxSteps:=999999)(disch:=omega)only[go_sem,zA,zM,zS,zE,zL]
   ((first|(with_reducible first|refine Jm ?_ ?_|refine Jj ?_ ?_|refine Jo ?_ ?_)|refine Jr ?_ ?_)<;>intro h2)
   · simp(maxSteps:=999999)(disch:=omega)only[go_sem,zA,zM,zS,zE,zL]
     exact⟨i+1,⟨⟨h,Vh hall h2⟩,by omega⟩,by omega,JcT _ _ _ (J9 _)⟩
   · simp(maxSteps:=999999)(disch:=omega)only[go_sem,zA,zM,zS,zE,zL]
     symm;simp only[JA,Bool.and_eq_false_iff];exact .inr (.inr (Jjg h h2))
 · simp(maxSteps:=999999)(disch:=omega)only[go_sem,zA,zM,zS,zE,zL]
   symm;simp only[JA,Bool.and_eq_true,decide_eq_true_eq]
   exact⟨hv,by omega,JbP.2 fun j hj=>hall j (by omega)⟩
theorem Qt(p:QR)(hx:RC p):JM Tryz.prog 38 [aP p] (bool (JA p)):=by
 obtain⟨hx1,hx2,hx3⟩:=hx
 refine Jk.cw (c:=_) Tryz.func38 rfl (n:=31) Tryz.ntmps38 (rs:=[.tmp 2]) rfl ?_
 simp only[Ja,Je,zA,zS,Jf,Jb,Jd]
 simp(maxSteps:=999999)(disch:=omega)only[go_sem,zA,zM,zS,zE,zL]
 intro g
 refine JO (fun i:Nat=>p.rules.length -i) (fun i=>i≤p.rules.length∧∀j:Nat,j<i→Qw (Jy p.rules j) p.size=true) (fun i=>[.a, .k, .a, .p (int i), .a, .a, .a, .a, .a, .a, .a, .a, .a, .a, .a, .a, .a, .a, .a, .a, .a, .a, .a, .a, .a, .a, .a, .a, .a, .a, .a]) (fun _=>[some ⟨g,1,cP p⟩]) 0
  ⟨Nat.zero_le _,fun j hj=>absurd hj (Nat.not_lt_zero _)⟩ (by simp(maxSteps:=999999)(disch:=omega)only[go_sem,zA,zM,zS,zE,zL];rfl) (J5.refl _) ?_
 rintro i ⟨hi,hall⟩
 simp(maxSteps:=999999)(disch:=omega)only[go_sem,zA,zM,zS,zE,zL]
 ((first|(with_reducible first|refine Jm ?_ ?_|refine Jj ?_ ?_|refine Jo ?_ ?_)|refine Jr ?_ ?_)<;>intro h)
 · have h:i<p.rules.length:=by omega
   simp(maxSteps:=999999)(disch:=omega)only[go_sem,zA,zM,zS,zE,zL]
   refine Zi ZE (by kernel_rfl) ?_
   simp(maxSteps:=999999)(disch:=omega)only[go_sem,Nat.reduceBEq,Bool.true_or,zA,zM,zS,zE,zL]
   refine QM.rd (Vb (Jy p.rules i) p.size (hx3 _ (Q8 h))) (⟨_,Tryz.func85,rfl,rfl⟩:Jg Tryz.prog 85) rfl rfl rfl rfl ?_
   simp(maxSteps:=999999)(disch:=omega)only[go_sem,zA,zM,zS,zE,zL]
   ((first|(with_reducible first|refine Jm ?_ ?_|refine Jj ?_ ?_|refine Jo ?_ ?_)|refine Jr ?_ ?_)<;>intro h2)
   · simp(maxSteps:=999999)(disch:=omega)only[go_sem,zA,zM,zS,zE,zL]
     exact⟨i+1,⟨⟨h,Vh hall h2⟩,by omega⟩,by omega,J5.refl _⟩
   · simp(maxSteps:=999999)(disch:=omega)only[go_sem,zA,zM,zS,zE,zL]
     symm;simp only[JA,Bool.and_eq_false_iff];exact .inr (.inr (Jjg h h2))
 · simp(maxSteps:=999999)(disch:=omega)only[go_sem,zA,zM,zS,zE,zL]
   have ha:(p.rules.all fun r=>Qw r p.size)=true:=JbP.2 fun j hj=>hall j (by omega)
   first|refine JU.rd (Zu p.given p.size (by omega)) (⟨_,Tryz.func39,rfl,rfl⟩:Jg Tryz.prog 39) rfl rfl rfl rfl ?_|refine JG.rd (Zu p.given p.size (by omega)) (⟨_,Tryz.func39,rfl,rfl⟩:Jg Tryz.prog 39) rfl rfl rfl rfl ?_
   simp(maxSteps:=999999)(disch:=omega)only[go_sem,zA,zM,zS,zE,zL]
   ((with_reducible first|refine JL ?_ ?_|refine JD ?_ ?_|refine JT ?_ ?_|refine Jv ?_ ?_|refine JJ ?_ ?_|refine JK ?_ ?_|refine JB ?_ ?_|refine JC ?_ ?_|refine JR ?_ ?_|refine JS ?_ ?_|refine Jw ?_ ?_|refine Jx ?_ ?_)<;>intro hv<;>simp(maxSteps:=999999)(disch:=omega)only[go_sem,zA,zM,zS,zE,zL,hv])
   · simp only[JA,hv,ha,Bool.true_and,Bool.and_true,decide_eq_decide];omega
   · simp[JA,hv]
end Go.Lg
