/- GpI, GpI2, cut to what is needed. -/
import Derived.Test.YtidekghnkifbjaaGreatDoorJab0
open List renaming cons_append → Ja, nil_append → Jc, replicate → Jd, length_cons → Je, length_nil → Jf, length_take → JL, getElem?_take_of_lt → Qd
open Nat renaming reduceAdd→zA,reduceMul→zM,reduceSub→zS,reduceEqDiff→zE,reduceLeDiff→zL
set_option linter.unusedSimpArgs false
set_option linter.unusedVariables false
set_option maxRecDepth 100000
namespace Go.Lg
open Go.Proofs
theorem Wv{α:Type}[Inhabited α]{xs:List α}{i j:Nat}(h:j<i):JA (xs.take i) j=JA xs j:=by
 simp only[JA,List.getD]
 rw[show((j:Int)).toNat=j by omega,Qd h]
theorem Jhv{α:Type}(xs:List α)(i:Nat):sub xs 0 (i:Int)=xs.take i:=by simp[sub]
theorem R8{α:Type}[Inhabited α]{xs:List α}{v:α}:v∈xs↔∃j:Nat,j<xs.length∧JA xs j=v:=by
 constructor
 · intro h
   obtain⟨i,hi,rfl⟩:=List.mem_iff_getElem.1 h
   exact⟨i,hi,by rw[Qs (by omega)];simp⟩
 · rintro⟨j,hj,rfl⟩
   exact ZX hj
theorem JbJ{α:Type}[Inhabited α]{xs:List α}{f:α→Bool}:xs.all f=true↔∀j:Nat,j<xs.length→f (JA xs j)=true:=by
 rw[List.all_eq_true]
 exact⟨fun h j hj=>h _ (ZX hj),fun h x hx=>by obtain⟨j,hj,rfl⟩:=R8.1 hx;exact h j hj⟩
theorem Jjl{α:Type}[Inhabited α]{xs:List α}{f:α→Bool}{i:Nat}(hi:i<xs.length)(h:f (JA xs i)=false):xs.all f=false:=by
 cases ha:xs.all f with
 |false=>rfl
 |true=>rw[JbJ.1 ha i hi]at h;cases h
theorem Vh{p:Nat→Prop}{i:Nat}(h:∀j,j<i→p j)(hi:p i):∀j,j<i+1→p j:=fun j hj=>by
 rcases Nat.lt_succ_iff_lt_or_eq.1 hj with h1|rfl
 · exact h j h1
 · exact hi
def Jkn(xs:List Int)(v:Int):Int:=if v∈xs then(xs.findIdx (fun x=>x==v):Nat)else-1
theorem JaQ(xs:List Int)(v:Int)(hx:xs.length≤2^40):JW Tryz.prog 114 [QG xs,int v] (int (Jkn xs v)):=by
 refine Jn.cw (c:=_) Tryz.func114 rfl (n:=19) Tryz.ntmps114 (rs:=[.tmp 4]) rfl ?_
 simp only[Je,Jf,zA,zS,Jd,Ja,Jc]
 simp(maxSteps:=999999)(disch:=omega)only[go_sem,zA,zM,zS,zE,zL]
 refine JT (fun i:Nat=>xs.length -i) (fun i=>i≤xs.length∧∀j:Nat,j<i→JA xs j≠v) (fun i=>[.k, .k, .a, .a, .a, .a, .a, .k, .p (int i), .a, .a, .a, .a, .a, .a, .a, .a, .a, .a]) (fun i=>[]) 0
  ⟨Nat.zero_le _,fun j hj=>absurd hj (Nat.not_lt_zero _)⟩ (by simp(maxSteps:=999999)(disch:=omega)only[go_sem,zA,zM,zS,zE,zL];rfl) (Qt _) ?_
 rintro i ⟨hi,hall⟩
 simp(maxSteps:=999999)(disch:=omega)only[go_sem,zA,zM,zS,zE,zL]
 ((first|(with_reducible first|refine Jl ?_ ?_|refine Jj ?_ ?_|refine Jp ?_ ?_)|refine Jr ?_ ?_)<;>intro h)
 · have h:i<xs.length:=by omega
   simp(maxSteps:=999999)(disch:=omega)only[go_sem,zA,zM,zS,zE,zL]
   ((first|(with_reducible first|refine Jl ?_ ?_|refine Jj ?_ ?_|refine Jp ?_ ?_)|refine Jr ?_ ?_)<;>intro h2)
   · simp(maxSteps:=999999)(disch:=omega)only[go_sem,zA,zM,zS,zE,zL]
     have hm:v∈xs:=R8.2 ⟨i,h,h2.symm⟩
     have:xs.findIdx (fun x=>x==v)=i:=(List.findIdx_eq h).2 ⟨by have:=Qs (xs:=xs) (e:=i) (by omega);simp at this;rw[←this,h2];simp,fun j hj=>by
      have h3:=hall j hj
      rw[Qs (by omega)]at h3
      simpa using h3⟩
     simp only[Jkn,hm,if_true,this]
   · simp(maxSteps:=999999)(disch:=omega)only[go_sem,zA,zM,zS,zE,zL]
     refine⟨i+1,⟨⟨by omega,Vh hall fun h3=>h2 h3.symm⟩,by omega⟩,by omega,Qt _⟩
 · simp(maxSteps:=999999)(disch:=omega)only[go_sem,zA,zM,zS,zE,zL]
   have hm:¬v∈xs:=fun hm=>by
    obtain⟨j,hj,h4⟩:=R8.1 hm
    exact hall j (by omega) h4
   simp only[Jkn,hm,if_false]
theorem UR(xs:List Int)(v:Int)(hx:xs.length≤2^40):JW Tryz.prog 82 [QG xs,int v] (bool (decide (v∈xs))):=by
 refine Jn.cw (c:=_) Tryz.func82 rfl (n:=9) Tryz.ntmps82 (rs:=[.tmp 4]) rfl ?_
 simp only[Je,Jf,zA,zS,Jd,Ja,Jc]
 simp(maxSteps:=999999)(disch:=omega)only[go_sem,zA,zM,zS,zE,zL]
 first|refine JY.rd (JaQ xs v hx) (⟨_,Tryz.func114,rfl,rfl⟩:Jh Tryz.prog 114) rfl rfl rfl rfl ?_|refine JM.rd (JaQ xs v hx) (⟨_,Tryz.func114,rfl,rfl⟩:Jh Tryz.prog 114) rfl rfl rfl rfl ?_
 simp(maxSteps:=999999)(disch:=omega)only[go_sem,zA,zM,zS,zE,zL]
 rw[decide_eq_decide]
 unfold Jkn
 split
 · simp[*]
 · simp[*]
def UY(r:ZS)(n:Int):Prop:=
 (r.kind=1∧2≤(r.cells.length:Int)∧(r.cells.length:Int)≤4∧r.val=0)∨((r.kind=2∨r.kind=3)∧1≤(r.cells.length:Int)∧(r.cells.length:Int)≤4∧1≤r.val∧r.val≤n*n*n*n)∨
 (r.kind=4∧(r.cells.length:Int)=2∧r.val=0)∨(r.kind=5∧(r.cells.length:Int)=2∧0≤r.val∧r.val<n)
def V1(cs:List Int)(n:Int)(i:Nat):Prop:=∀j:Nat,j<i→(0≤JA cs j∧JA cs j<n*n)∧∀l:Nat,l<j→JA cs l≠JA cs j
instance(r:ZS)(n:Int):Decidable (UY r n):=by unfold UY;infer_instance
instance(cs:List Int)(n:Int)(i:Nat):Decidable (V1 cs n i):=by unfold V1;infer_instance
def Qk(r:ZS)(n:Int):Bool:=decide ((2≤n∧n≤4)∧V1 r.cells n r.cells.length∧UY r n)
theorem Gr{n:Int}(h:2≤n∧n≤4):4≤n*n∧n*n≤16:=by
 have:n=2∨n=3∨n=4:=by omega
 rcases this with rfl|rfl|rfl<;>decide
theorem Jdb{n:Int}(h:2≤n∧n≤4):8≤n*n*n∧n*n*n≤64∧16≤n*n*n*n∧n*n*n*n≤256:=by
 have:n=2∨n=3∨n=4:=by omega
 rcases this with rfl|rfl|rfl<;>decide
theorem Xe{r:ZS}{n:Int}{i:Nat}(hi:i<r.cells.length)(h:(0≤JA r.cells i∧JA r.cells i<n*n)→∃l:Nat,l<i∧JA r.cells l=JA r.cells i):Qk r n=false:=by
 simp only[Qk,decide_eq_false_iff_not]
 rintro⟨_,h2,_⟩
 obtain⟨l,h3,h4⟩:=h (h2 i hi).1
 exact(h2 i hi).2 l h3 h4
theorem FF{r:ZS}{n:Int}(hn:2≤n∧n≤4)(h:V1 r.cells n r.cells.length):Qk r n=decide (UY r n):=by
 simp[Qk,hn,h]
theorem Wp(r:ZS)(n:Int)(hx:r.cells.length≤2^40):JW Tryz.prog 86 [aR r,int n] (bool (Qk r n)):=by
 refine Jn.cw (c:=_) Tryz.func86 rfl (n:=105) Tryz.ntmps86 (rs:=[.tmp 4]) rfl ?_
 simp only[Je,Jf,zA,zS,Jd,Ja,Jc]
 simp(maxSteps:=999999)(disch:=omega)only[go_sem,zA,zM,zS,zE,zL]
 intro g
 first|refine JY.rd (VD n) (⟨_,Tryz.func96,rfl,rfl⟩:Jh Tryz.prog 96) rfl rfl rfl rfl ?_|refine JM.rd (VD n) (⟨_,Tryz.func96,rfl,rfl⟩:Jh Tryz.prog 96) rfl rfl rfl rfl ?_
 simp(maxSteps:=999999)(disch:=omega)only[go_sem,zA,zM,zS,zE,zL]
 ((first|(with_reducible first|refine Jl ?_ ?_|refine Jj ?_ ?_|refine Jp ?_ ?_)|refine Jr ?_ ?_)<;>intro hn)
 · have hw:=Gr hn
   simp(maxSteps:=999999)(disch:=omega)only[go_sem,zA,zM,zS,zE,zL]
   refine JT (fun i:Nat=>r.cells.length -i) (fun i=>i≤r.cells.length∧V1 r.cells n i) (fun i=>[.a, .k, .k, .a, .a, .a, .a, .a, .a, .a, .a, .a, .k, .k, .p (int i), .a, .a, .a, .a, .a, .a, .a, .a, .a, .a, .a, .a, .a, .a, .a, .a, .a, .a, .a, .a, .a, .a, .a, .a, .a, .a, .a, .a, .a, .a, .a, .a, .a, .a, .a, .a, .a, .a, .a, .a, .a, .a, .a, .a, .a, .a, .a, .a, .a, .a, .a, .a, .a, .a, .a, .a, .a, .a, .a, .a, .a, .a, .a, .a, .a, .a, .a, .a, .a, .a, .a, .a, .a, .a, .a, .a, .a, .a, .a, .a, .a, .a, .a, .a, .a, .a, .a, .a, .a, .a]) (fun _=>[some ⟨g,1,cR r⟩]) 0
    ⟨Nat.zero_le _,fun j hj=>absurd hj (Nat.not_lt_zero _)⟩ (by simp(maxSteps:=999999)(disch:=omega)only[go_sem,zA,zM,zS,zE,zL];rfl) (J0.refl _) ?_
   rintro i ⟨hi,hall⟩
   simp(maxSteps:=999999)(disch:=omega)only[go_sem,zA,zM,zS,zE,zL]
   ((first|(with_reducible first|refine Jl ?_ ?_|refine Jj ?_ ?_|refine Jp ?_ ?_)|refine Jr ?_ ?_)<;>intro h)
   · have h:i<r.cells.length:=by omega
     simp(maxSteps:=999999)(disch:=omega)only[go_sem,zA,zM,zS,zE,zL]
     ((with_reducible first|refine JH ?_ ?_|refine JD ?_ ?_|refine JP ?_ ?_|refine Jv ?_ ?_|refine JF ?_ ?_|refine JG ?_ ?_|refine JB ?_ ?_|refine JC ?_ ?_|refine JN ?_ ?_|refine JO ?_ ?_|refine Jw ?_ ?_|refine Jx ?_ ?_)<;>intro h1<;>simp(maxSteps:=999999)(disch:=omega)only[go_sem,zA,zM,zS,zE,zL,h1])
     · symm;exact Xe h fun h5=>by omega
     ((with_reducible first|refine JH ?_ ?_|refine JD ?_ ?_|refine JP ?_ ?_|refine Jv ?_ ?_|refine JF ?_ ?_|refine JG ?_ ?_|refine JB ?_ ?_|refine JC ?_ ?_|refine JN ?_ ?_|refine JO ?_ ?_|refine Jw ?_ ?_|refine Jx ?_ ?_)<;>intro h2<;>simp(maxSteps:=999999)(disch:=omega)only[go_sem,zA,zM,zS,zE,zL,h2])
     · symm;exact Xe h fun h5=>by omega
     simp(maxSteps:=999999)(disch:=omega)only[go_sem,zA,zM,zS,zE,zL,Jhv]
     first|refine JY.rd (UR (r.cells.take i) (JA r.cells i) (by simp;omega)) (⟨_,Tryz.func82,rfl,rfl⟩:Jh Tryz.prog 82) rfl rfl rfl rfl ?_|refine JM.rd (UR (r.cells.take i) (JA r.cells i) (by simp;omega)) (⟨_,Tryz.func82,rfl,rfl⟩:Jh Tryz.prog 82) rfl rfl rfl rfl ?_
     simp(maxSteps:=999999)(disch:=omega)only[go_sem,zA,zM,zS,zE,zL]
     ((first|(with_reducible first|refine Jl ?_ ?_|refine Jj ?_ ?_|refine Jp ?_ ?_)|refine Jr ?_ ?_)<;>intro h3)
     · simp(maxSteps:=999999)(disch:=omega)only[go_sem,zA,zM,zS,zE,zL]
       obtain⟨j,h4,h5⟩:=R8.1 h3
       simp only[JL]at h4
       rw[Wv (by omega)]at h5
       symm;exact Xe h fun _=>⟨j,by omega,h5⟩
     · simp(maxSteps:=999999)(disch:=omega)only[go_sem,zA,zM,zS,zE,zL]
       refine⟨i+1,⟨⟨h,Vh hall ⟨by omega,fun l hl hl2=>h3 (R8.2 ⟨l,by simp;omega,by rw[Wv hl];exact hl2⟩)⟩⟩,by omega⟩,by omega,J0.refl _⟩
   · have:i=r.cells.length:=by omega
     subst this
     simp(maxSteps:=999999)(disch:=omega)only[go_sem,zA,zM,zS,zE,zL]
     rw[FF hn hall]
     have hcu:=Jdb hn
     repeat' (first|((with_reducible first|refine JH ?_ ?_|refine JD ?_ ?_|refine JP ?_ ?_|refine Jv ?_ ?_|refine JF ?_ ?_|refine JG ?_ ?_|refine JB ?_ ?_|refine JC ?_ ?_|refine JN ?_ ?_|refine JO ?_ ?_|refine Jw ?_ ?_|refine Jx ?_ ?_)<;>intro hg<;>simp(maxSteps:=999999)(disch:=omega)only[go_sem,zA,zM,zS,zE,zL,hg])|(((first|(with_reducible first|refine Jl ?_ ?_|refine Jj ?_ ?_|refine Jp ?_ ?_)|refine Jr ?_ ?_)<;>intro hg)<;>simp(maxSteps:=999999)(disch:=omega)only[go_sem,zA,zM,zS,zE,zL])|fail)
     all_goals
      (first|refine Jfr ?_|refine Jfp ?_|refine Jfq ?_)
     all_goals unfold UY;omega
 · simp(maxSteps:=999999)(disch:=omega)only[go_sem,zA,zM,zS,zE,zL]
   symm;simp only[Qk,decide_eq_false_iff_not];exact fun h=>hn h.1
theorem Vc(r:ZS)(n:Int)(hx:r.cells.length≤2^40):JW Tryz.prog 85 [aR r,int n] (bool (Qk r n)):=by
 refine Jn.cw (c:=_) Tryz.func85 rfl (n:=100) Tryz.ntmps85 (rs:=[.tmp 4]) rfl ?_
 simp only[Je,Jf,zA,zS,Jd,Ja,Jc]
 simp(maxSteps:=999999)(disch:=omega)only[go_sem,zA,zM,zS,zE,zL]
 intro g
 by_cases hn:2≤n∧n≤4
 · have hw:=Gr hn
   refine JT (fun i:Nat=>r.cells.length -i) (fun i=>i≤r.cells.length∧V1 r.cells n i) (fun i=>[.a, .k, .k, .a, .a, .p (int i), .a, .a, .a, .a, .a, .a, .a, .a, .a, .a, .a, .a, .a, .a, .a, .a, .a, .a, .a, .a, .a, .a, .a, .a, .a, .a, .a, .a, .a, .a, .a, .a, .a, .a, .a, .a, .a, .a, .a, .a, .a, .a, .a, .a, .a, .a, .a, .a, .a, .a, .a, .a, .a, .a, .a, .a, .a, .a, .a, .a, .a, .a, .a, .a, .a, .a, .a, .a, .a, .a, .a, .a, .a, .a, .a, .a, .a, .a, .a, .a, .a, .a, .a, .a, .a, .a, .a, .a, .a, .a, .a, .a, .a, .a]) (fun _=>[some ⟨g,1,cR r⟩]) 0
    ⟨Nat.zero_le _,fun j hj=>absurd hj (Nat.not_lt_zero _)⟩ (by simp(maxSteps:=999999)(disch:=omega)only[go_sem,zA,zM,zS,zE,zL];rfl) (J0.refl _) ?_
   rintro i ⟨hi,hall⟩
   simp(maxSteps:=999999)(disch:=omega)only[go_sem,zA,zM,zS,zE,zL]
   ((first|(with_reducible first|refine Jl ?_ ?_|refine Jj ?_ ?_|refine Jp ?_ ?_)|refine Jr ?_ ?_)<;>intro h)
   · have h:i<r.cells.length:=by omega
     simp(maxSteps:=999999)(disch:=omega)only[go_sem,zA,zM,zS,zE,zL]
     first|refine JY.rd (Qy _ _ _) (⟨_,Tryz.func40,rfl,rfl⟩:Jh Tryz.prog 40) rfl rfl rfl rfl ?_|refine JM.rd (Qy _ _ _) (⟨_,Tryz.func40,rfl,rfl⟩:Jh Tryz.prog 40) rfl rfl rfl rfl ?_
     simp(maxSteps:=999999)(disch:=omega)only[go_sem,zA,zM,zS,zE,zL]
     ((first|(with_reducible first|refine Jl ?_ ?_|refine Jj ?_ ?_|refine Jp ?_ ?_)|refine Jr ?_ ?_)<;>intro h1)
     · simp(maxSteps:=999999)(disch:=omega)only[go_sem,zA,zM,zS,zE,zL]
       refine JT (fun j:Nat=>i -j) (fun j=>j≤i∧∀l:Nat,l<j→JA r.cells l≠JA r.cells i) (fun j=>[.a, .k, .k, .a, .a, .k, .p (int j), .a, .a, .a, .a, .a, .a, .a, .a, .a, .a, .a, .a, .a, .a, .a, .a, .a, .a, .a, .a, .a, .a, .a, .a, .a, .a, .a, .a, .a, .a, .a, .a, .a, .a, .a, .a, .a, .a, .a, .a, .a, .a, .a, .a, .a, .a, .a, .a, .a, .a, .a, .a, .a, .a, .a, .a, .a, .a, .a, .a, .a, .a, .a, .a, .a, .a, .a, .a, .a, .a, .a, .a, .a, .a, .a, .a, .a, .a, .a, .a, .a, .a, .a, .a, .a, .a, .a, .a, .a, .a, .a, .a, .a]) (fun _=>[some ⟨g,1,cR r⟩]) 0
        ⟨Nat.zero_le _,fun j hj=>absurd hj (Nat.not_lt_zero _)⟩ (by simp(maxSteps:=999999)(disch:=omega)only[go_sem,zA,zM,zS,zE,zL];rfl) (J0.refl _) ?_
       rintro j ⟨hj,hall2⟩
       simp(maxSteps:=999999)(disch:=omega)only[go_sem,zA,zM,zS,zE,zL]
       ((first|(with_reducible first|refine Jl ?_ ?_|refine Jj ?_ ?_|refine Jp ?_ ?_)|refine Jr ?_ ?_)<;>intro h2)
       · have h2:j<i:=by omega
         simp(maxSteps:=999999)(disch:=omega)only[go_sem,zA,zM,zS,zE,zL]
         refine Zj Zd (by kernel_rfl) ?_
         simp(maxSteps:=999999)(disch:=omega)only[go_sem,Nat.reduceBEq,Bool.true_or,zA,zM,zS,zE,zL]
         ((first|(with_reducible first|refine Jl ?_ ?_|refine Jj ?_ ?_|refine Jp ?_ ?_)|refine Jr ?_ ?_)<;>intro h3)
         · simp(maxSteps:=999999)(disch:=omega)only[go_sem,zA,zM,zS,zE,zL]
           symm;exact Xe h fun _=>⟨j,h2,h3⟩
         · simp(maxSteps:=999999)(disch:=omega)only[go_sem,zA,zM,zS,zE,zL]
           exact⟨j+1,⟨⟨h2,Vh hall2 h3⟩,by omega⟩,by omega,J0.refl _⟩
       · simp(maxSteps:=999999)(disch:=omega)only[go_sem,zA,zM,zS,zE,zL]
         have:j=i:=by omega
         subst this
         exact⟨j+1,⟨⟨h,Vh hall ⟨by omega,hall2⟩⟩,by omega⟩,by omega,J0.refl _⟩
     · simp(maxSteps:=999999)(disch:=omega)only[go_sem,zA,zM,zS,zE,zL]
       symm;exact Xe h fun h5=>by omega
   · have:i=r.cells.length:=by omega
     subst this
     simp(maxSteps:=999999)(disch:=omega)only[go_sem,zA,zM,zS,zE,zL]
     first|refine JY.rd (Qy _ _ _) (⟨_,Tryz.func40,rfl,rfl⟩:Jh Tryz.prog 40) rfl rfl rfl rfl ?_|refine JM.rd (Qy _ _ _) (⟨_,Tryz.func40,rfl,rfl⟩:Jh Tryz.prog 40) rfl rfl rfl rfl ?_
     simp(maxSteps:=999999)(disch:=omega)only[go_sem,zA,zM,zS,zE,zL]
     rw[FF hn hall]
     have hcu:=Jdb hn
     repeat' (first|((with_reducible first|refine JH ?_ ?_|refine JD ?_ ?_|refine JP ?_ ?_|refine Jv ?_ ?_|refine JF ?_ ?_|refine JG ?_ ?_|refine JB ?_ ?_|refine JC ?_ ?_|refine JN ?_ ?_|refine JO ?_ ?_|refine Jw ?_ ?_|refine Jx ?_ ?_)<;>intro hg<;>simp(maxSteps:=999999)(disch:=omega)only[go_sem,zA,zM,zS,zE,zL,hg])|(((first|(with_reducible first|refine Jl ?_ ?_|refine Jj ?_ ?_|refine Jp ?_ ?_)|refine Jr ?_ ?_)<;>intro hg)<;>simp(maxSteps:=999999)(disch:=omega)only[go_sem,zA,zM,zS,zE,zL])|(refine JY.rd (Qy _ _ _) (⟨_,Tryz.func40,rfl,rfl⟩:Jh Tryz.prog 40) rfl rfl rfl rfl ?_;simp(maxSteps:=999999)(disch:=omega)only[go_sem,zA,zM,zS,zE,zL]))
     all_goals
      (first|refine Jfr ?_|refine Jfp ?_|refine Jfq ?_)
     all_goals unfold UY;omega
 · have hv:Qk r n=false:=by simp only[Qk,decide_eq_false_iff_not];exact fun h=>hn h.1
   rw[hv]
   refine JT (fun i:Nat=>r.cells.length -i) (fun i=>i≤r.cells.length) (fun i=>[.a, .k, .k, .a, .a, .p (int i), .a, .a, .a, .a, .a, .a, .a, .a, .a, .a, .a, .a, .a, .a, .a, .a, .a, .a, .a, .a, .a, .a, .a, .a, .a, .a, .a, .a, .a, .a, .a, .a, .a, .a, .a, .a, .a, .a, .a, .a, .a, .a, .a, .a, .a, .a, .a, .a, .a, .a, .a, .a, .a, .a, .a, .a, .a, .a, .a, .a, .a, .a, .a, .a, .a, .a, .a, .a, .a, .a, .a, .a, .a, .a, .a, .a, .a, .a, .a, .a, .a, .a, .a, .a, .a, .a, .a, .a, .a, .a, .a, .a, .a, .a]) (fun _=>[some ⟨g,1,cR r⟩]) 0
    (Nat.zero_le _) (by simp(maxSteps:=999999)(disch:=omega)only[go_sem,zA,zM,zS,zE,zL];rfl) (J0.refl _) ?_
   intro i hi
   simp(maxSteps:=999999)(disch:=omega)only[go_sem,zA,zM,zS,zE,zL]
   ((first|(with_reducible first|refine Jl ?_ ?_|refine Jj ?_ ?_|refine Jp ?_ ?_)|refine Jr ?_ ?_)<;>intro h)
   · have h:i<r.cells.length:=by omega
     simp(maxSteps:=999999)(disch:=omega)only[go_sem,zA,zM,zS,zE,zL]
     first|refine JY.rd (Qy _ _ _) (⟨_,Tryz.func40,rfl,rfl⟩:Jh Tryz.prog 40) rfl rfl rfl rfl ?_|refine JM.rd (Qy _ _ _) (⟨_,Tryz.func40,rfl,rfl⟩:Jh Tryz.prog 40) rfl rfl rfl rfl ?_
     simp(maxSteps:=999999)(disch:=omega)only[go_sem,zA,zM,zS,zE,zL]
     ((first|(with_reducible first|refine Jl ?_ ?_|refine Jj ?_ ?_|refine Jp ?_ ?_)|refine Jr ?_ ?_)<;>intro h1)
     · simp(maxSteps:=999999)(disch:=omega)only[go_sem,zA,zM,zS,zE,zL]
       refine JT (fun j:Nat=>i -j) (fun j=>j≤i) (fun j=>[.a, .k, .k, .a, .a, .k, .p (int j), .a, .a, .a, .a, .a, .a, .a, .a, .a, .a, .a, .a, .a, .a, .a, .a, .a, .a, .a, .a, .a, .a, .a, .a, .a, .a, .a, .a, .a, .a, .a, .a, .a, .a, .a, .a, .a, .a, .a, .a, .a, .a, .a, .a, .a, .a, .a, .a, .a, .a, .a, .a, .a, .a, .a, .a, .a, .a, .a, .a, .a, .a, .a, .a, .a, .a, .a, .a, .a, .a, .a, .a, .a, .a, .a, .a, .a, .a, .a, .a, .a, .a, .a, .a, .a, .a, .a, .a, .a, .a, .a, .a, .a]) (fun _=>[some ⟨g,1,cR r⟩]) 0
        (Nat.zero_le _) (by simp(maxSteps:=999999)(disch:=omega)only[go_sem,zA,zM,zS,zE,zL];rfl) (J0.refl _) ?_
       intro j hj
       simp(maxSteps:=999999)(disch:=omega)only[go_sem,zA,zM,zS,zE,zL]
       ((first|(with_reducible first|refine Jl ?_ ?_|refine Jj ?_ ?_|refine Jp ?_ ?_)|refine Jr ?_ ?_)<;>intro h2)
       · have h2:j<i:=by omega
         simp(maxSteps:=999999)(disch:=omega)only[go_sem,zA,zM,zS,zE,zL]
         refine Zj Zd (by kernel_rfl) ?_
         simp(maxSteps:=999999)(disch:=omega)only[go_sem,Nat.reduceBEq,Bool.true_or,zA,zM,zS,zE,zL]
         ((first|(with_reducible first|refine Jl ?_ ?_|refine Jj ?_ ?_|refine Jp ?_ ?_)|refine Jr ?_ ?_)<;>intro h3)
         · simp(maxSteps:=999999)(disch:=omega)only[go_sem,zA,zM,zS,zE,zL]
         · simp(maxSteps:=999999)(disch:=omega)only[go_sem,zA,zM,zS,zE,zL]
           exact⟨j+1,⟨h2,by omega⟩,by omega,J0.refl _⟩
       · simp(maxSteps:=999999)(disch:=omega)only[go_sem,zA,zM,zS,zE,zL]
         exact⟨i+1,⟨h,by omega⟩,by omega,J0.refl _⟩
     · simp(maxSteps:=999999)(disch:=omega)only[go_sem,zA,zM,zS,zE,zL]
   · simp(maxSteps:=999999)(disch:=omega)only[go_sem,zA,zM,zS,zE,zL]
     first|refine JY.rd (Qy _ _ _) (⟨_,Tryz.func40,rfl,rfl⟩:Jh Tryz.prog 40) rfl rfl rfl rfl ?_|refine JM.rd (Qy _ _ _) (⟨_,Tryz.func40,rfl,rfl⟩:Jh Tryz.prog 40) rfl rfl rfl rfl ?_
     simp(maxSteps:=999999)(disch:=omega)only[go_sem,zA,zM,zS,zE,zL]
     rw[show decide (2≤n∧n≤4)=false from decide_eq_false hn]
     simp(maxSteps:=999999)(disch:=omega)only[go_sem,zA,zM,zS,zE,zL]
end Go.Lg

namespace Go.Lg
open Go.Proofs
def Jy(p:QV):Bool:=J8 p.given p.size&&(decide (p.rules.length≤20)&&p.rules.all fun r=>Qk r p.size)
theorem Qb(p:QV)(hx:YR p):JW Tryz.prog 41 [aP p] (bool (Jy p)):=by
 obtain⟨hx1,hx2,hx3⟩:=hx
 refine Jn.cw (c:=_) Tryz.func41 rfl (n:=30) Tryz.ntmps41 (rs:=[.tmp 2]) rfl ?_
 simp only[Je,Jf,zA,zS,Jd,Ja,Jc]
 simp(maxSteps:=999999)(disch:=omega)only[go_sem,zA,zM,zS,zE,zL]
 intro g
 first|refine JY.rd (Zb p.given p.size (by omega)) (⟨_,Tryz.func54,rfl,rfl⟩:Jh Tryz.prog 54) rfl rfl rfl rfl ?_|refine JM.rd (Zb p.given p.size (by omega)) (⟨_,Tryz.func54,rfl,rfl⟩:Jh Tryz.prog 54) rfl rfl rfl rfl ?_
 simp(maxSteps:=999999)(disch:=omega)only[go_sem,zA,zM,zS,zE,zL]
 ((with_reducible first|refine JH ?_ ?_|refine JD ?_ ?_|refine JP ?_ ?_|refine Jv ?_ ?_|refine JF ?_ ?_|refine JG ?_ ?_|refine JB ?_ ?_|refine JC ?_ ?_|refine JN ?_ ?_|refine JO ?_ ?_|refine Jw ?_ ?_|refine Jx ?_ ?_)<;>intro hv<;>simp(maxSteps:=999999)(disch:=omega)only[go_sem,zA,zM,zS,zE,zL,hv])
 rotate_left
 · simp[Jy,hv]
 ((first|(with_reducible first|refine Jl ?_ ?_|refine Jj ?_ ?_|refine Jp ?_ ?_)|refine Jr ?_ ?_)<;>intro h20)
 · simp(maxSteps:=999999)(disch:=omega)only[go_sem,zA,zM,zS,zE,zL]
   symm;simp only[Jy,hv,Bool.true_and,Bool.and_eq_false_iff,decide_eq_false_iff_not];exact .inl (by omega)
 simp(maxSteps:=999999)(disch:=omega)only[go_sem,zA,zM,zS,zE,zL]
 refine JT (fun i:Nat=>p.rules.length -i) (fun i=>i≤p.rules.length∧∀j:Nat,j<i→Qk (JA p.rules j) p.size=true) (fun i=>[.a, .k, .a, .a, .a, .a, .a, .a, .a, .a, .a, .a, .a, .a, .a, .a, .a, .a, .k, .k, .p (int i), .a, .a, .a, .a, .a, .a, .a, .a, .a]) (fun _=>[some ⟨g,1,cP p⟩]) 0
  ⟨Nat.zero_le _,fun j hj=>absurd hj (Nat.not_lt_zero _)⟩ (by simp(maxSteps:=999999)(disch:=omega)only[go_sem,zA,zM,zS,zE,zL];rfl) (J0.refl _) ?_
 rintro i ⟨hi,hall⟩
 simp(maxSteps:=999999)(disch:=omega)only[go_sem,zA,zM,zS,zE,zL]
 ((first|(with_reducible first|refine Jl ?_ ?_|refine Jj ?_ ?_|refine Jp ?_ ?_)|refine Jr ?_ ?_)<;>intro h)
 · have h:i<p.rules.length:=by omega
   simp(maxSteps:=999999)(disch:=omega)only[go_sem,zA,zM,zS,zE,zL]
   intro g2
   first|refine JY.rd (Wp (JA p.rules i) p.size (hx3 _ (ZX h))) (⟨_,Tryz.func86,rfl,rfl⟩:Jh Tryz.prog 86) rfl rfl rfl rfl ?_|refine JM.rd (Wp (JA p.rules i) p.size (hx3 _ (ZX h))) (⟨_,Tryz.func86,rfl,rfl⟩:Jh Tryz.prog 86) rfl rfl rfl rfl ?_
   simp(maxSteps:=999999)(disch:=omega)only[go_sem,zA,zM,zS,zE,zL]
   ((first|(with_reducible first|refine Jl ?_ ?_|refine Jj ?_ ?_|refine Jp ?_ ?_)|refine Jr ?_ ?_)<;>intro h2)
   · simp(maxSteps:=999999)(disch:=omega)only[go_sem,zA,zM,zS,zE,zL]
     exact⟨i+1,⟨⟨h,Vh hall h2⟩,by omega⟩,by omega,JcV _ _ _ (Qt _)⟩
   · simp(maxSteps:=999999)(disch:=omega)only[go_sem,zA,zM,zS,zE,zL]
     symm;simp only[Jy,Bool.and_eq_false_iff];exact .inr (.inr (Jjl h h2))
 · simp(maxSteps:=999999)(disch:=omega)only[go_sem,zA,zM,zS,zE,zL]
   symm;simp only[Jy,Bool.and_eq_true,decide_eq_true_eq]
   exact⟨hv,by omega,JbJ.2 fun j hj=>hall j (by omega)⟩
theorem Qc(p:QV)(hx:YR p):JW Tryz.prog 38 [aP p] (bool (Jy p)):=by
 obtain⟨hx1,hx2,hx3⟩:=hx
 refine Jn.cw (c:=_) Tryz.func38 rfl (n:=31) Tryz.ntmps38 (rs:=[.tmp 2]) rfl ?_
 simp only[Je,Jf,zA,zS,Jd,Ja,Jc]
 simp(maxSteps:=999999)(disch:=omega)only[go_sem,zA,zM,zS,zE,zL]
 intro g
 refine JT (fun i:Nat=>p.rules.length -i) (fun i=>i≤p.rules.length∧∀j:Nat,j<i→Qk (JA p.rules j) p.size=true) (fun i=>[.a, .k, .a, .p (int i), .a, .a, .a, .a, .a, .a, .a, .a, .a, .a, .a, .a, .a, .a, .a, .a, .a, .a, .a, .a, .a, .a, .a, .a, .a, .a, .a]) (fun _=>[some ⟨g,1,cP p⟩]) 0
  ⟨Nat.zero_le _,fun j hj=>absurd hj (Nat.not_lt_zero _)⟩ (by simp(maxSteps:=999999)(disch:=omega)only[go_sem,zA,zM,zS,zE,zL];rfl) (J0.refl _) ?_
 rintro i ⟨hi,hall⟩
 simp(maxSteps:=999999)(disch:=omega)only[go_sem,zA,zM,zS,zE,zL]
 ((first|(with_reducible first|refine Jl ?_ ?_|refine Jj ?_ ?_|refine Jp ?_ ?_)|refine Jr ?_ ?_)<;>intro h)
 · have h:i<p.rules.length:=by omega
   simp(maxSteps:=999999)(disch:=omega)only[go_sem,zA,zM,zS,zE,zL]
   refine Zj Zd (by kernel_rfl) ?_
   simp(maxSteps:=999999)(disch:=omega)only[go_sem,Nat.reduceBEq,Bool.true_or,zA,zM,zS,zE,zL]
   refine QY.rd (Vc (JA p.rules i) p.size (hx3 _ (ZX h))) (⟨_,Tryz.func85,rfl,rfl⟩:Jh Tryz.prog 85) rfl rfl rfl rfl ?_
   simp(maxSteps:=999999)(disch:=omega)only[go_sem,zA,zM,zS,zE,zL]
   ((first|(with_reducible first|refine Jl ?_ ?_|refine Jj ?_ ?_|refine Jp ?_ ?_)|refine Jr ?_ ?_)<;>intro h2)
   · simp(maxSteps:=999999)(disch:=omega)only[go_sem,zA,zM,zS,zE,zL]
     exact⟨i+1,⟨⟨h,Vh hall h2⟩,by omega⟩,by omega,J0.refl _⟩
   · simp(maxSteps:=999999)(disch:=omega)only[go_sem,zA,zM,zS,zE,zL]
     symm;simp only[Jy,Bool.and_eq_false_iff];exact .inr (.inr (Jjl h h2))
 · simp(maxSteps:=999999)(disch:=omega)only[go_sem,zA,zM,zS,zE,zL]
   have ha:(p.rules.all fun r=>Qk r p.size)=true:=JbJ.2 fun j hj=>hall j (by omega)
   first|refine JY.rd (Zs p.given p.size (by omega)) (⟨_,Tryz.func39,rfl,rfl⟩:Jh Tryz.prog 39) rfl rfl rfl rfl ?_|refine JM.rd (Zs p.given p.size (by omega)) (⟨_,Tryz.func39,rfl,rfl⟩:Jh Tryz.prog 39) rfl rfl rfl rfl ?_
   simp(maxSteps:=999999)(disch:=omega)only[go_sem,zA,zM,zS,zE,zL]
   ((with_reducible first|refine JH ?_ ?_|refine JD ?_ ?_|refine JP ?_ ?_|refine Jv ?_ ?_|refine JF ?_ ?_|refine JG ?_ ?_|refine JB ?_ ?_|refine JC ?_ ?_|refine JN ?_ ?_|refine JO ?_ ?_|refine Jw ?_ ?_|refine Jx ?_ ?_)<;>intro hv<;>simp(maxSteps:=999999)(disch:=omega)only[go_sem,zA,zM,zS,zE,zL,hv])
   · simp only[Jy,hv,ha,Bool.true_and,Bool.and_true,decide_eq_decide];omega
   · simp[Jy,hv]
end Go.Lg
