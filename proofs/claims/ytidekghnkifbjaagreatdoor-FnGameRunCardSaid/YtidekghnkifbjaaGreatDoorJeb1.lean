/- GpI, GpI2, cut to what is needed. -/
import Derived.Test.YtidekghnkifbjaaGreatDoorJeb0
open List renaming cons_append → Jb, nil_append → Jc, replicate → Jd, length_cons → Je, length_nil → Jf, length_take → JP, getElem?_take_of_lt → J1
open Nat renaming reduceAdd→zA,reduceMul→zM,reduceSub→zS,reduceEqDiff→zE,reduceLeDiff→zL
set_option linter.unusedSimpArgs false
set_option linter.unusedVariables false
set_option maxRecDepth 100000
namespace Go.Lg
open Go.Proofs
theorem WC{α:Type}[Inhabited α]{xs:List α}{i j:Nat}(h:j<i):JA (xs.take i) j=JA xs j:=by
 simp only[JA,List.getD]
 rw[show((j:Int)).toNat=j by omega,J1 h]
theorem JhY{α:Type}(xs:List α)(i:Nat):sub xs 0 (i:Int)=xs.take i:=by simp[sub]
theorem Bv{α:Type}[Inhabited α]{xs:List α}{v:α}:v∈xs↔∃j:Nat,j<xs.length∧JA xs j=v:=by
 constructor
 · intro h
   obtain⟨i,hi,rfl⟩:=List.mem_iff_getElem.1 h
   exact⟨i,hi,by rw[Qt (by omega)];simp⟩
 · rintro⟨j,hj,rfl⟩
   exact ZP hj
theorem Jcf{α:Type}[Inhabited α]{xs:List α}{f:α→Bool}:xs.all f=true↔∀j:Nat,j<xs.length→f (JA xs j)=true:=by
 rw[List.all_eq_true]
 exact⟨fun h j hj=>h _ (ZP hj),fun h x hx=>by obtain⟨j,hj,rfl⟩:=Bv.1 hx;exact h j hj⟩
theorem JjP{α:Type}[Inhabited α]{xs:List α}{f:α→Bool}{i:Nat}(hi:i<xs.length)(h:f (JA xs i)=false):xs.all f=false:=by
 cases ha:xs.all f with
 |false=>rfl
 |true=>rw[Jcf.1 ha i hi]at h;cases h
theorem Vq{p:Nat→Prop}{i:Nat}(h:∀j,j<i→p j)(hi:p i):∀j,j<i+1→p j:=fun j hj=>by
 rcases Nat.lt_succ_iff_lt_or_eq.1 hj with h1|rfl
 · exact h j h1
 · exact hi
def JkV(xs:List Int)(v:Int):Int:=if v∈xs then(xs.findIdx (fun x=>x==v):Nat)else-1
theorem Jbo(xs:List Int)(v:Int)(hx:xs.length≤2^40):JW Tryz.prog 114 [QO xs,int v] (int (JkV xs v)):=by
 refine Jn.cw (c:=_) Tryz.func114 rfl (n:=19) Tryz.ntmps114 (rs:=[.tmp 4]) rfl ?_
 simp only[Je,Jf,zA,zS,Jd,Jb,Jc]
 simp(maxSteps:=999999)(disch:=omega)only[go_sem,zA,zM,zS,zE,zL]
 refine JY (fun i:Nat=>xs.length -i) (fun i=>i≤xs.length∧∀j:Nat,j<i→JA xs j≠v) (fun i=>[.k, .k, .a, .a, .a, .a, .a, .k, .p (int i), .a, .a, .a, .a, .a, .a, .a, .a, .a, .a]) (fun i=>[]) 0
  ⟨Nat.zero_le _,fun j hj=>absurd hj (Nat.not_lt_zero _)⟩ (by simp(maxSteps:=999999)(disch:=omega)only[go_sem,zA,zM,zS,zE,zL];rfl) (Qu _) ?_
 rintro i ⟨hi,hall⟩
 simp(maxSteps:=999999)(disch:=omega)only[go_sem,zA,zM,zS,zE,zL]
 ((first|(with_reducible first|refine Jl ?_ ?_|refine Jj ?_ ?_|refine Jp ?_ ?_)|refine Jr ?_ ?_)<;>intro h)
 · have h:i<xs.length:=by omega
   simp(maxSteps:=999999)(disch:=omega)only[go_sem,zA,zM,zS,zE,zL]
   ((first|(with_reducible first|refine Jl ?_ ?_|refine Jj ?_ ?_|refine Jp ?_ ?_)|refine Jr ?_ ?_)<;>intro h2)
   · simp(maxSteps:=999999)(disch:=omega)only[go_sem,zA,zM,zS,zE,zL]
     have hm:v∈xs:=Bv.2 ⟨i,h,h2.symm⟩
     have:xs.findIdx (fun x=>x==v)=i:=(List.findIdx_eq h).2 ⟨by have:=Qt (xs:=xs) (e:=i) (by omega);simp at this;rw[←this,h2];simp,fun j hj=>by
      have h3:=hall j hj
      rw[Qt (by omega)]at h3
      simpa using h3⟩
     simp only[JkV,hm,if_true,this]
   · simp(maxSteps:=999999)(disch:=omega)only[go_sem,zA,zM,zS,zE,zL]
     refine⟨i+1,⟨⟨by omega,Vq hall fun h3=>h2 h3.symm⟩,by omega⟩,by omega,Qu _⟩
 · simp(maxSteps:=999999)(disch:=omega)only[go_sem,zA,zM,zS,zE,zL]
   have hm:¬v∈xs:=fun hm=>by
    obtain⟨j,hj,h4⟩:=Bv.1 hm
    exact hall j (by omega) h4
   simp only[JkV,hm,if_false]
theorem U5(xs:List Int)(v:Int)(hx:xs.length≤2^40):JW Tryz.prog 82 [QO xs,int v] (bool (decide (v∈xs))):=by
 refine Jn.cw (c:=_) Tryz.func82 rfl (n:=9) Tryz.ntmps82 (rs:=[.tmp 4]) rfl ?_
 simp only[Je,Jf,zA,zS,Jd,Jb,Jc]
 simp(maxSteps:=999999)(disch:=omega)only[go_sem,zA,zM,zS,zE,zL]
 first|refine JZ.rd (Jbo xs v hx) (⟨_,Tryz.func114,rfl,rfl⟩:Ji Tryz.prog 114) rfl rfl rfl rfl ?_|refine JK.rd (Jbo xs v hx) (⟨_,Tryz.func114,rfl,rfl⟩:Ji Tryz.prog 114) rfl rfl rfl rfl ?_
 simp(maxSteps:=999999)(disch:=omega)only[go_sem,zA,zM,zS,zE,zL]
 rw[decide_eq_decide]
 unfold JkV
 split
 · simp[*]
 · simp[*]
def Va(r:Z0)(n:Int):Prop:=
 (r.kind=1∧2≤(r.cells.length:Int)∧(r.cells.length:Int)≤4∧r.val=0)∨((r.kind=2∨r.kind=3)∧1≤(r.cells.length:Int)∧(r.cells.length:Int)≤4∧1≤r.val∧r.val≤n*n*n*n)∨
 (r.kind=4∧(r.cells.length:Int)=2∧r.val=0)∨(r.kind=5∧(r.cells.length:Int)=2∧0≤r.val∧r.val<n)
def V8(cs:List Int)(n:Int)(i:Nat):Prop:=∀j:Nat,j<i→(0≤JA cs j∧JA cs j<n*n)∧∀l:Nat,l<j→JA cs l≠JA cs j
instance(r:Z0)(n:Int):Decidable (Va r n):=by unfold Va;infer_instance
instance(cs:List Int)(n:Int)(i:Nat):Decidable (V8 cs n i):=by unfold V8;infer_instance
def Ql(r:Z0)(n:Int):Bool:=decide ((2≤n∧n≤4)∧V8 r.cells n r.cells.length∧Va r n)
theorem GQ{n:Int}(h:2≤n∧n≤4):4≤n*n∧n*n≤16:=by
 have:n=2∨n=3∨n=4:=by omega
 rcases this with rfl|rfl|rfl<;>decide
theorem JdJ{n:Int}(h:2≤n∧n≤4):8≤n*n*n∧n*n*n≤64∧16≤n*n*n*n∧n*n*n*n≤256:=by
 have:n=2∨n=3∨n=4:=by omega
 rcases this with rfl|rfl|rfl<;>decide
theorem XA{r:Z0}{n:Int}{i:Nat}(hi:i<r.cells.length)(h:(0≤JA r.cells i∧JA r.cells i<n*n)→∃l:Nat,l<i∧JA r.cells l=JA r.cells i):Ql r n=false:=by
 simp only[Ql,decide_eq_false_iff_not]
 rintro⟨_,h2,_⟩
 obtain⟨l,h3,h4⟩:=h (h2 i hi).1
 exact(h2 i hi).2 l h3 h4
theorem Ga{r:Z0}{n:Int}(hn:2≤n∧n≤4)(h:V8 r.cells n r.cells.length):Ql r n=decide (Va r n):=by
 simp[Ql,hn,h]
theorem Wx(r:Z0)(n:Int)(hx:r.cells.length≤2^40):JW Tryz.prog 86 [aR r,int n] (bool (Ql r n)):=by
 refine Jn.cw (c:=_) Tryz.func86 rfl (n:=105) Tryz.ntmps86 (rs:=[.tmp 4]) rfl ?_
 simp only[Je,Jf,zA,zS,Jd,Jb,Jc]
 simp(maxSteps:=999999)(disch:=omega)only[go_sem,zA,zM,zS,zE,zL]
 intro g
 first|refine JZ.rd (VM n) (⟨_,Tryz.func96,rfl,rfl⟩:Ji Tryz.prog 96) rfl rfl rfl rfl ?_|refine JK.rd (VM n) (⟨_,Tryz.func96,rfl,rfl⟩:Ji Tryz.prog 96) rfl rfl rfl rfl ?_
 simp(maxSteps:=999999)(disch:=omega)only[go_sem,zA,zM,zS,zE,zL]
 ((first|(with_reducible first|refine Jl ?_ ?_|refine Jj ?_ ?_|refine Jp ?_ ?_)|refine Jr ?_ ?_)<;>intro hn)
 · have hw:=GQ hn
   simp(maxSteps:=999999)(disch:=omega)only[go_sem,zA,zM,zS,zE,zL]
   refine JY (fun i:Nat=>r.cells.length -i) (fun i=>i≤r.cells.length∧V8 r.cells n i) (fun i=>[.a, .k, .k, .a, .a, .a, .a, .a, .a, .a, .a, .a, .k, .k, .p (int i), .a, .a, .a, .a, .a, .a, .a, .a, .a, .a, .a, .a, .a, .a, .a, .a, .a, .a, .a, .a, .a, .a, .a, .a, .a, .a, .a, .a, .a, .a, .a, .a, .a, .a, .a, .a, .a, .a, .a, .a, .a, .a, .a, .a, .a, .a, .a, .a, .a, .a, .a, .a, .a, .a, .a, .a, .a, .a, .a, .a, .a, .a, .a, .a, .a, .a, .a, .a, .a, .a, .a, .a, .a, .a, .a, .a, .a, .a, .a, .a, .a, .a, .a, .a, .a, .a, .a, .a, .a, .a]) (fun _=>[some ⟨g,1,cR r⟩]) 0
    ⟨Nat.zero_le _,fun j hj=>absurd hj (Nat.not_lt_zero _)⟩ (by simp(maxSteps:=999999)(disch:=omega)only[go_sem,zA,zM,zS,zE,zL];rfl) (J0.refl _) ?_
   rintro i ⟨hi,hall⟩
   simp(maxSteps:=999999)(disch:=omega)only[go_sem,zA,zM,zS,zE,zL]
   ((first|(with_reducible first|refine Jl ?_ ?_|refine Jj ?_ ?_|refine Jp ?_ ?_)|refine Jr ?_ ?_)<;>intro h)
   · have h:i<r.cells.length:=by omega
     simp(maxSteps:=999999)(disch:=omega)only[go_sem,zA,zM,zS,zE,zL]
     ((with_reducible first|refine JJ ?_ ?_|refine JF ?_ ?_|refine JU ?_ ?_|refine Jw ?_ ?_|refine JH ?_ ?_|refine JI ?_ ?_|refine JD ?_ ?_|refine JE ?_ ?_|refine JS ?_ ?_|refine JT ?_ ?_|refine Jy ?_ ?_|refine Jz ?_ ?_)<;>intro h1<;>simp(maxSteps:=999999)(disch:=omega)only[go_sem,zA,zM,zS,zE,zL,h1])
     · symm;exact XA h fun h5=>by omega
     ((with_reducible first|refine JJ ?_ ?_|refine JF ?_ ?_|refine JU ?_ ?_|refine Jw ?_ ?_|refine JH ?_ ?_|refine JI ?_ ?_|refine JD ?_ ?_|refine JE ?_ ?_|refine JS ?_ ?_|refine JT ?_ ?_|refine Jy ?_ ?_|refine Jz ?_ ?_)<;>intro h2<;>simp(maxSteps:=999999)(disch:=omega)only[go_sem,zA,zM,zS,zE,zL,h2])
     · symm;exact XA h fun h5=>by omega
     simp(maxSteps:=999999)(disch:=omega)only[go_sem,zA,zM,zS,zE,zL,JhY]
     first|refine JZ.rd (U5 (r.cells.take i) (JA r.cells i) (by simp;omega)) (⟨_,Tryz.func82,rfl,rfl⟩:Ji Tryz.prog 82) rfl rfl rfl rfl ?_|refine JK.rd (U5 (r.cells.take i) (JA r.cells i) (by simp;omega)) (⟨_,Tryz.func82,rfl,rfl⟩:Ji Tryz.prog 82) rfl rfl rfl rfl ?_
     simp(maxSteps:=999999)(disch:=omega)only[go_sem,zA,zM,zS,zE,zL]
     ((first|(with_reducible first|refine Jl ?_ ?_|refine Jj ?_ ?_|refine Jp ?_ ?_)|refine Jr ?_ ?_)<;>intro h3)
     · simp(maxSteps:=999999)(disch:=omega)only[go_sem,zA,zM,zS,zE,zL]
       obtain⟨j,h4,h5⟩:=Bv.1 h3
       simp only[JP]at h4
       rw[WC (by omega)]at h5
       symm;exact XA h fun _=>⟨j,by omega,h5⟩
     · simp(maxSteps:=999999)(disch:=omega)only[go_sem,zA,zM,zS,zE,zL]
       refine⟨i+1,⟨⟨h,Vq hall ⟨by omega,fun l hl hl2=>h3 (Bv.2 ⟨l,by simp;omega,by rw[WC hl];exact hl2⟩)⟩⟩,by omega⟩,by omega,J0.refl _⟩
   · have:i=r.cells.length:=by omega
     subst this
     simp(maxSteps:=999999)(disch:=omega)only[go_sem,zA,zM,zS,zE,zL]
     rw[Ga hn hall]
     have hcu:=JdJ hn
     repeat' (first|((with_reducible first|refine JJ ?_ ?_|refine JF ?_ ?_|refine JU ?_ ?_|refine Jw ?_ ?_|refine JH ?_ ?_|refine JI ?_ ?_|refine JD ?_ ?_|refine JE ?_ ?_|refine JS ?_ ?_|refine JT ?_ ?_|refine Jy ?_ ?_|refine Jz ?_ ?_)<;>intro hg<;>simp(maxSteps:=999999)(disch:=omega)only[go_sem,zA,zM,zS,zE,zL,hg])|(((first|(with_reducible first|refine Jl ?_ ?_|refine Jj ?_ ?_|refine Jp ?_ ?_)|refine Jr ?_ ?_)<;>intro hg)<;>simp(maxSteps:=999999)(disch:=omega)only[go_sem,zA,zM,zS,zE,zL])|fail)
     all_goals
      (first|refine JfV ?_|refine JfT ?_|refine JfU ?_)
     all_goals unfold Va;omega
 · simp(maxSteps:=999999)(disch:=omega)only[go_sem,zA,zM,zS,zE,zL]
   symm;simp only[Ql,decide_eq_false_iff_not];exact fun h=>hn h.1
theorem Vl(r:Z0)(n:Int)(hx:r.cells.length≤2^40):JW Tryz.prog 85 [aR r,int n] (bool (Ql r n)):=by
 refine Jn.cw (c:=_) Tryz.func85 rfl (n:=100) Tryz.ntmps85 (rs:=[.tmp 4]) rfl ?_
 simp only[Je,Jf,zA,zS,Jd,Jb,Jc]
 simp(maxSteps:=999999)(disch:=omega)only[go_sem,zA,zM,zS,zE,zL]
 intro g
 by_cases hn:2≤n∧n≤4
 · have hw:=GQ hn
   refine JY (fun i:Nat=>r.cells.length -i) (fun i=>i≤r.cells.length∧V8 r.cells n i) (fun i=>[.a, .k, .k, .a, .a, .p (int i), .a, .a, .a, .a, .a, .a, .a, .a, .a, .a, .a, .a, .a, .a, .a, .a, .a, .a, .a, .a, .a, .a, .a, .a, .a, .a, .a, .a, .a, .a, .a, .a, .a, .a, .a, .a, .a, .a, .a, .a, .a, .a, .a, .a, .a, .a, .a, .a, .a, .a, .a, .a, .a, .a, .a, .a, .a, .a, .a, .a, .a, .a, .a, .a, .a, .a, .a, .a, .a, .a, .a, .a, .a, .a, .a, .a, .a, .a, .a, .a, .a, .a, .a, .a, .a, .a, .a, .a, .a, .a, .a, .a, .a, .a]) (fun _=>[some ⟨g,1,cR r⟩]) 0
    ⟨Nat.zero_le _,fun j hj=>absurd hj (Nat.not_lt_zero _)⟩ (by simp(maxSteps:=999999)(disch:=omega)only[go_sem,zA,zM,zS,zE,zL];rfl) (J0.refl _) ?_
   rintro i ⟨hi,hall⟩
   simp(maxSteps:=999999)(disch:=omega)only[go_sem,zA,zM,zS,zE,zL]
   ((first|(with_reducible first|refine Jl ?_ ?_|refine Jj ?_ ?_|refine Jp ?_ ?_)|refine Jr ?_ ?_)<;>intro h)
   · have h:i<r.cells.length:=by omega
     simp(maxSteps:=999999)(disch:=omega)only[go_sem,zA,zM,zS,zE,zL]
     first|refine JZ.rd (Qz _ _ _) (⟨_,Tryz.func40,rfl,rfl⟩:Ji Tryz.prog 40) rfl rfl rfl rfl ?_|refine JK.rd (Qz _ _ _) (⟨_,Tryz.func40,rfl,rfl⟩:Ji Tryz.prog 40) rfl rfl rfl rfl ?_
     simp(maxSteps:=999999)(disch:=omega)only[go_sem,zA,zM,zS,zE,zL]
     ((first|(with_reducible first|refine Jl ?_ ?_|refine Jj ?_ ?_|refine Jp ?_ ?_)|refine Jr ?_ ?_)<;>intro h1)
     · simp(maxSteps:=999999)(disch:=omega)only[go_sem,zA,zM,zS,zE,zL]
       refine JY (fun j:Nat=>i -j) (fun j=>j≤i∧∀l:Nat,l<j→JA r.cells l≠JA r.cells i) (fun j=>[.a, .k, .k, .a, .a, .k, .p (int j), .a, .a, .a, .a, .a, .a, .a, .a, .a, .a, .a, .a, .a, .a, .a, .a, .a, .a, .a, .a, .a, .a, .a, .a, .a, .a, .a, .a, .a, .a, .a, .a, .a, .a, .a, .a, .a, .a, .a, .a, .a, .a, .a, .a, .a, .a, .a, .a, .a, .a, .a, .a, .a, .a, .a, .a, .a, .a, .a, .a, .a, .a, .a, .a, .a, .a, .a, .a, .a, .a, .a, .a, .a, .a, .a, .a, .a, .a, .a, .a, .a, .a, .a, .a, .a, .a, .a, .a, .a, .a, .a, .a, .a]) (fun _=>[some ⟨g,1,cR r⟩]) 0
        ⟨Nat.zero_le _,fun j hj=>absurd hj (Nat.not_lt_zero _)⟩ (by simp(maxSteps:=999999)(disch:=omega)only[go_sem,zA,zM,zS,zE,zL];rfl) (J0.refl _) ?_
       rintro j ⟨hj,hall2⟩
       simp(maxSteps:=999999)(disch:=omega)only[go_sem,zA,zM,zS,zE,zL]
       ((first|(with_reducible first|refine Jl ?_ ?_|refine Jj ?_ ?_|refine Jp ?_ ?_)|refine Jr ?_ ?_)<;>intro h2)
       · have h2:j<i:=by omega
         simp(maxSteps:=999999)(disch:=omega)only[go_sem,zA,zM,zS,zE,zL]
         refine Zj Zd (by kernel_rfl) ?_
         simp(maxSteps:=999999)(disch:=omega)only[go_sem,Nat.reduceBEq,Bool.true_or,zA,zM,zS,zE,zL]
         ((first|(with_reducible first|refine Jl ?_ ?_|refine Jj ?_ ?_|refine Jp ?_ ?_)|refine Jr ?_ ?_)<;>intro h3)
         · simp(maxSteps:=999999)(disch:=omega)only[go_sem,zA,zM,zS,zE,zL]
           symm;exact XA h fun _=>⟨j,h2,h3⟩
         · simp(maxSteps:=999999)(disch:=omega)only[go_sem,zA,zM,zS,zE,zL]
           exact⟨j+1,⟨⟨h2,Vq hall2 h3⟩,by omega⟩,by omega,J0.refl _⟩
       · simp(maxSteps:=999999)(disch:=omega)only[go_sem,zA,zM,zS,zE,zL]
         have:j=i:=by omega
         subst this
         exact⟨j+1,⟨⟨h,Vq hall ⟨by omega,hall2⟩⟩,by omega⟩,by omega,J0.refl _⟩
     · simp(maxSteps:=999999)(disch:=omega)only[go_sem,zA,zM,zS,zE,zL]
       symm;exact XA h fun h5=>by omega
   · have:i=r.cells.length:=by omega
     subst this
     simp(maxSteps:=999999)(disch:=omega)only[go_sem,zA,zM,zS,zE,zL]
     first|refine JZ.rd (Qz _ _ _) (⟨_,Tryz.func40,rfl,rfl⟩:Ji Tryz.prog 40) rfl rfl rfl rfl ?_|refine JK.rd (Qz _ _ _) (⟨_,Tryz.func40,rfl,rfl⟩:Ji Tryz.prog 40) rfl rfl rfl rfl ?_
     simp(maxSteps:=999999)(disch:=omega)only[go_sem,zA,zM,zS,zE,zL]
     rw[Ga hn hall]
     have hcu:=JdJ hn
     repeat' (first|((with_reducible first|refine JJ ?_ ?_|refine JF ?_ ?_|refine JU ?_ ?_|refine Jw ?_ ?_|refine JH ?_ ?_|refine JI ?_ ?_|refine JD ?_ ?_|refine JE ?_ ?_|refine JS ?_ ?_|refine JT ?_ ?_|refine Jy ?_ ?_|refine Jz ?_ ?_)<;>intro hg<;>simp(maxSteps:=999999)(disch:=omega)only[go_sem,zA,zM,zS,zE,zL,hg])|(((first|(with_reducible first|refine Jl ?_ ?_|refine Jj ?_ ?_|refine Jp ?_ ?_)|refine Jr ?_ ?_)<;>intro hg)<;>simp(maxSteps:=999999)(disch:=omega)only[go_sem,zA,zM,zS,zE,zL])|(refine JZ.rd (Qz _ _ _) (⟨_,Tryz.func40,rfl,rfl⟩:Ji Tryz.prog 40) rfl rfl rfl rfl ?_;simp(maxSteps:=999999)(disch:=omega)only[go_sem,zA,zM,zS,zE,zL]))
     all_goals
      (first|refine JfV ?_|refine JfT ?_|refine JfU ?_)
     all_goals unfold Va;omega
 · have hv:Ql r n=false:=by simp only[Ql,decide_eq_false_iff_not];exact fun h=>hn h.1
   rw[hv]
   refine JY (fun i:Nat=>r.cells.length -i) (fun i=>i≤r.cells.length) (fun i=>[.a, .k, .k, .a, .a, .p (int i), .a, .a, .a, .a, .a, .a, .a, .a, .a, .a, .a, .a, .a, .a, .a, .a, .a, .a, .a, .a, .a, .a, .a, .a, .a, .a, .a, .a, .a, .a, .a, .a, .a, .a, .a, .a, .a, .a, .a, .a, .a, .a, .a, .a, .a, .a, .a, .a, .a, .a, .a, .a, .a, .a, .a, .a, .a, .a, .a, .a, .a, .a, .a, .a, .a, .a, .a, .a, .a, .a, .a, .a, .a, .a, .a, .a, .a, .a, .a, .a, .a, .a, .a, .a, .a, .a, .a, .a, .a, .a, .a, .a, .a, .a]) (fun _=>[some ⟨g,1,cR r⟩]) 0
    (Nat.zero_le _) (by simp(maxSteps:=999999)(disch:=omega)only[go_sem,zA,zM,zS,zE,zL];rfl) (J0.refl _) ?_
   intro i hi
   simp(maxSteps:=999999)(disch:=omega)only[go_sem,zA,zM,zS,zE,zL]
   ((first|(with_reducible first|refine Jl ?_ ?_|refine Jj ?_ ?_|refine Jp ?_ ?_)|refine Jr ?_ ?_)<;>intro h)
   · have h:i<r.cells.length:=by omega
     simp(maxSteps:=999999)(disch:=omega)only[go_sem,zA,zM,zS,zE,zL]
     first|refine JZ.rd (Qz _ _ _) (⟨_,Tryz.func40,rfl,rfl⟩:Ji Tryz.prog 40) rfl rfl rfl rfl ?_|refine JK.rd (Qz _ _ _) (⟨_,Tryz.func40,rfl,rfl⟩:Ji Tryz.prog 40) rfl rfl rfl rfl ?_
     simp(maxSteps:=999999)(disch:=omega)only[go_sem,zA,zM,zS,zE,zL]
     ((first|(with_reducible first|refine Jl ?_ ?_|refine Jj ?_ ?_|refine Jp ?_ ?_)|refine Jr ?_ ?_)<;>intro h1)
     · simp(maxSteps:=999999)(disch:=omega)only[go_sem,zA,zM,zS,zE,zL]
       refine JY (fun j:Nat=>i -j) (fun j=>j≤i) (fun j=>[.a, .k, .k, .a, .a, .k, .p (int j), .a, .a, .a, .a, .a, .a, .a, .a, .a, .a, .a, .a, .a, .a, .a, .a, .a, .a, .a, .a, .a, .a, .a, .a, .a, .a, .a, .a, .a, .a, .a, .a, .a, .a, .a, .a, .a, .a, .a, .a, .a, .a, .a, .a, .a, .a, .a, .a, .a, .a, .a, .a, .a, .a, .a, .a, .a, .a, .a, .a, .a, .a, .a, .a, .a, .a, .a, .a, .a, .a, .a, .a, .a, .a, .a, .a, .a, .a, .a, .a, .a, .a, .a, .a, .a, .a, .a, .a, .a, .a, .a, .a, .a]) (fun _=>[some ⟨g,1,cR r⟩]) 0
        (Nat.zero_le _) (by simp(maxSteps:=999999)(disch:=omega)only[go_sem,zA,zM,zS,zE,zL];rfl) (J0.refl _) ?_
       intro j hj
       simp(maxSteps:=999999)(disch:=omega)only[go_sem,zA,zM,zS,zE,zL]
       ((first|(with_reducible first|refine Jl ?_ ?_|refine Jj ?_ ?_|refine Jp ?_ ?_)|refine Jr ?_ ?_)<;>intro h2)
       · have h2:j<i:=by omega
         simp(maxSteps:=999999)(disch:=omega)only[go_sem,zA,zM,zS,zE,zL]
         refine Zj Zd (by kernel_rfl) ?_
         simp(maxSteps:=999999)(disch:=omega)only[go_sem,Nat.reduceBEq,Bool.true_or,zA,zM,zS,zE,zL]
         ((first|(with_reducible first|refine Jl ?_ ?_|refine Jj ?_ ?_|refine Jp ?_ ?_)|refine Jr ?_ ?_)<;>intro h3)
         · simp(maxSteps:=999999)(disch:=omega)only[go_sem,zA,zM,zS,zE,zL]
         · simp(maxSteps:=999999)(disch:=omega)only[go_sem,zA,zM,zS,zE,zL]
           exact⟨j+1,⟨h2,by omega⟩,by omega,J0.refl _⟩
       · simp(maxSteps:=999999)(disch:=omega)only[go_sem,zA,zM,zS,zE,zL]
         exact⟨i+1,⟨h,by omega⟩,by omega,J0.refl _⟩
     · simp(maxSteps:=999999)(disch:=omega)only[go_sem,zA,zM,zS,zE,zL]
   · simp(maxSteps:=999999)(disch:=omega)only[go_sem,zA,zM,zS,zE,zL]
     first|refine JZ.rd (Qz _ _ _) (⟨_,Tryz.func40,rfl,rfl⟩:Ji Tryz.prog 40) rfl rfl rfl rfl ?_|refine JK.rd (Qz _ _ _) (⟨_,Tryz.func40,rfl,rfl⟩:Ji Tryz.prog 40) rfl rfl rfl rfl ?_
     simp(maxSteps:=999999)(disch:=omega)only[go_sem,zA,zM,zS,zE,zL]
     rw[show decide (2≤n∧n≤4)=false from decide_eq_false hn]
     simp(maxSteps:=999999)(disch:=omega)only[go_sem,zA,zM,zS,zE,zL]
end Go.Lg

namespace Go.Lg
open Go.Proofs
def JB(p:Q4):Bool:=Qe p.given p.size&&(decide (p.rules.length≤20)&&p.rules.all fun r=>Ql r p.size)
theorem Qx(p:Q4)(hx:Rf p):JW Tryz.prog 41 [aP p] (bool (JB p)):=by
 obtain⟨hx1,hx2,hx3⟩:=hx
 refine Jn.cw (c:=_) Tryz.func41 rfl (n:=30) Tryz.ntmps41 (rs:=[.tmp 2]) rfl ?_
 simp only[Je,Jf,zA,zS,Jd,Jb,Jc]
 simp(maxSteps:=999999)(disch:=omega)only[go_sem,zA,zM,zS,zE,zL]
 intro g
 first|refine JZ.rd (ZG p.given p.size (by omega)) (⟨_,Tryz.func54,rfl,rfl⟩:Ji Tryz.prog 54) rfl rfl rfl rfl ?_|refine JK.rd (ZG p.given p.size (by omega)) (⟨_,Tryz.func54,rfl,rfl⟩:Ji Tryz.prog 54) rfl rfl rfl rfl ?_
 simp(maxSteps:=999999)(disch:=omega)only[go_sem,zA,zM,zS,zE,zL]
 ((with_reducible first|refine JJ ?_ ?_|refine JF ?_ ?_|refine JU ?_ ?_|refine Jw ?_ ?_|refine JH ?_ ?_|refine JI ?_ ?_|refine JD ?_ ?_|refine JE ?_ ?_|refine JS ?_ ?_|refine JT ?_ ?_|refine Jy ?_ ?_|refine Jz ?_ ?_)<;>intro hv<;>simp(maxSteps:=999999)(disch:=omega)only[go_sem,zA,zM,zS,zE,zL,hv])
 rotate_left
 · simp[JB,hv]
 ((first|(with_reducible first|refine Jl ?_ ?_|refine Jj ?_ ?_|refine Jp ?_ ?_)|refine Jr ?_ ?_)<;>intro h20)
 · simp(maxSteps:=999999)(disch:=omega)only[go_sem,zA,zM,zS,zE,zL]
   symm;simp only[JB,hv,Bool.true_and,Bool.and_eq_false_iff,decide_eq_false_iff_not];exact .inl (by omega)
 simp(maxSteps:=999999)(disch:=omega)only[go_sem,zA,zM,zS,zE,zL]
 refine JY (fun i:Nat=>p.rules.length -i) (fun i=>i≤p.rules.length∧∀j:Nat,j<i→Ql (JA p.rules j) p.size=true) (fun i=>[.a, .k, .a, .a, .a, .a, .a, .a, .a, .a, .a, .a, .a, .a, .a, .a, .a, .a, .k, .k, .p (int i), .a, .a, .a, .a, .a, .a, .a, .a, .a]) (fun _=>[some ⟨g,1,cP p⟩]) 0
  ⟨Nat.zero_le _,fun j hj=>absurd hj (Nat.not_lt_zero _)⟩ (by simp(maxSteps:=999999)(disch:=omega)only[go_sem,zA,zM,zS,zE,zL];rfl) (J0.refl _) ?_
 rintro i ⟨hi,hall⟩
 simp(maxSteps:=999999)(disch:=omega)only[go_sem,zA,zM,zS,zE,zL]
 ((first|(with_reducible first|refine Jl ?_ ?_|refine Jj ?_ ?_|refine Jp ?_ ?_)|refine Jr ?_ ?_)<;>intro h)
 · have h:i<p.rules.length:=by omega
   simp(maxSteps:=999999)(disch:=omega)only[go_sem,zA,zM,zS,zE,zL]
   intro g2
   first|refine JZ.rd (Wx (JA p.rules i) p.size (hx3 _ (ZP h))) (⟨_,Tryz.func86,rfl,rfl⟩:Ji Tryz.prog 86) rfl rfl rfl rfl ?_|refine JK.rd (Wx (JA p.rules i) p.size (hx3 _ (ZP h))) (⟨_,Tryz.func86,rfl,rfl⟩:Ji Tryz.prog 86) rfl rfl rfl rfl ?_
   simp(maxSteps:=999999)(disch:=omega)only[go_sem,zA,zM,zS,zE,zL]
   ((first|(with_reducible first|refine Jl ?_ ?_|refine Jj ?_ ?_|refine Jp ?_ ?_)|refine Jr ?_ ?_)<;>intro h2)
   · simp(maxSteps:=999999)(disch:=omega)only[go_sem,zA,zM,zS,zE,zL]
     exact⟨i+1,⟨⟨h,Vq hall h2⟩,by omega⟩,by omega,Jdt _ _ _ (Qu _)⟩
   · simp(maxSteps:=999999)(disch:=omega)only[go_sem,zA,zM,zS,zE,zL]
     symm;simp only[JB,Bool.and_eq_false_iff];exact .inr (.inr (JjP h h2))
 · simp(maxSteps:=999999)(disch:=omega)only[go_sem,zA,zM,zS,zE,zL]
   symm;simp only[JB,Bool.and_eq_true,decide_eq_true_eq]
   exact⟨hv,by omega,Jcf.2 fun j hj=>hall j (by omega)⟩
theorem Qh(p:Q4)(hx:Rf p):JW Tryz.prog 38 [aP p] (bool (JB p)):=by
 obtain⟨hx1,hx2,hx3⟩:=hx
 refine Jn.cw (c:=_) Tryz.func38 rfl (n:=31) Tryz.ntmps38 (rs:=[.tmp 2]) rfl ?_
 simp only[Je,Jf,zA,zS,Jd,Jb,Jc]
 simp(maxSteps:=999999)(disch:=omega)only[go_sem,zA,zM,zS,zE,zL]
 intro g
 refine JY (fun i:Nat=>p.rules.length -i) (fun i=>i≤p.rules.length∧∀j:Nat,j<i→Ql (JA p.rules j) p.size=true) (fun i=>[.a, .k, .a, .p (int i), .a, .a, .a, .a, .a, .a, .a, .a, .a, .a, .a, .a, .a, .a, .a, .a, .a, .a, .a, .a, .a, .a, .a, .a, .a, .a, .a]) (fun _=>[some ⟨g,1,cP p⟩]) 0
  ⟨Nat.zero_le _,fun j hj=>absurd hj (Nat.not_lt_zero _)⟩ (by simp(maxSteps:=999999)(disch:=omega)only[go_sem,zA,zM,zS,zE,zL];rfl) (J0.refl _) ?_
 rintro i ⟨hi,hall⟩
 simp(maxSteps:=999999)(disch:=omega)only[go_sem,zA,zM,zS,zE,zL]
 ((first|(with_reducible first|refine Jl ?_ ?_|refine Jj ?_ ?_|refine Jp ?_ ?_)|refine Jr ?_ ?_)<;>intro h)
 · have h:i<p.rules.length:=by omega
   simp(maxSteps:=999999)(disch:=omega)only[go_sem,zA,zM,zS,zE,zL]
   refine Zj Zd (by kernel_rfl) ?_
   simp(maxSteps:=999999)(disch:=omega)only[go_sem,Nat.reduceBEq,Bool.true_or,zA,zM,zS,zE,zL]
   refine Q0.rd (Vl (JA p.rules i) p.size (hx3 _ (ZP h))) (⟨_,Tryz.func85,rfl,rfl⟩:Ji Tryz.prog 85) rfl rfl rfl rfl ?_
   simp(maxSteps:=999999)(disch:=omega)only[go_sem,zA,zM,zS,zE,zL]
   ((first|(with_reducible first|refine Jl ?_ ?_|refine Jj ?_ ?_|refine Jp ?_ ?_)|refine Jr ?_ ?_)<;>intro h2)
   · simp(maxSteps:=999999)(disch:=omega)only[go_sem,zA,zM,zS,zE,zL]
     exact⟨i+1,⟨⟨h,Vq hall h2⟩,by omega⟩,by omega,J0.refl _⟩
   · simp(maxSteps:=999999)(disch:=omega)only[go_sem,zA,zM,zS,zE,zL]
     symm;simp only[JB,Bool.and_eq_false_iff];exact .inr (.inr (JjP h h2))
 · simp(maxSteps:=999999)(disch:=omega)only[go_sem,zA,zM,zS,zE,zL]
   have ha:(p.rules.all fun r=>Ql r p.size)=true:=Jcf.2 fun j hj=>hall j (by omega)
   first|refine JZ.rd (ZE p.given p.size (by omega)) (⟨_,Tryz.func39,rfl,rfl⟩:Ji Tryz.prog 39) rfl rfl rfl rfl ?_|refine JK.rd (ZE p.given p.size (by omega)) (⟨_,Tryz.func39,rfl,rfl⟩:Ji Tryz.prog 39) rfl rfl rfl rfl ?_
   simp(maxSteps:=999999)(disch:=omega)only[go_sem,zA,zM,zS,zE,zL]
   ((with_reducible first|refine JJ ?_ ?_|refine JF ?_ ?_|refine JU ?_ ?_|refine Jw ?_ ?_|refine JH ?_ ?_|refine JI ?_ ?_|refine JD ?_ ?_|refine JE ?_ ?_|refine JS ?_ ?_|refine JT ?_ ?_|refine Jy ?_ ?_|refine Jz ?_ ?_)<;>intro hv<;>simp(maxSteps:=999999)(disch:=omega)only[go_sem,zA,zM,zS,zE,zL,hv])
   · simp only[JB,hv,ha,Bool.true_and,Bool.and_true,decide_eq_decide];omega
   · simp[JB,hv]
end Go.Lg
