/- GpI, cut to what is needed. -/
import Derived.Test.YtiahmfdabpafoaaDoorIab5
import Derived.Test.YtiahmfdabpafoaaDoorIab2
import Derived.Test.YtiahmfdabpafoaaDoorIab4
open Nat renaming reduceAdd→zA,reduceMul→zM,reduceSub→zS,reduceEqDiff→zE,reduceLeDiff→zL
set_option linter.unusedSimpArgs false
set_option linter.unusedVariables false
set_option maxRecDepth 100000
namespace Go.Lg
open Go.Proofs
theorem nth_take{α:Type}[Inhabited α]{xs:List α}{i j:Nat}(h:j<i):nth (xs.take i) j=nth xs j:=by
 simp only[nth,List.getD]
 rw[show((j:Int)).toNat=j by omega,List.getElem?_take_of_lt h]
theorem sub_take{α:Type}(xs:List α)(i:Nat):sub xs 0 (i:Int)=xs.take i:=by simp[sub]
theorem mem_nth{α:Type}[Inhabited α]{xs:List α}{v:α}:v∈xs↔∃j:Nat,j<xs.length∧nth xs j=v:=by
 constructor
 · intro h
   obtain⟨i,hi,rfl⟩:=List.mem_iff_getElem.1 h
   exact⟨i,hi,by rw[nth_eq (by omega)];simp⟩
 · rintro⟨j,hj,rfl⟩
   exact nth_mem hj
theorem all_nth{α:Type}[Inhabited α]{xs:List α}{f:α→Bool}:xs.all f=true↔∀j:Nat,j<xs.length→f (nth xs j)=true:=by
 rw[List.all_eq_true]
 exact⟨fun h j hj=>h _ (nth_mem hj),fun h x hx=>by obtain⟨j,hj,rfl⟩:=mem_nth.1 hx;exact h j hj⟩
theorem all_no{α:Type}[Inhabited α]{xs:List α}{f:α→Bool}{i:Nat}(hi:i<xs.length)(h:f (nth xs i)=false):xs.all f=false:=by
 cases ha:xs.all f with
 |false=>rfl
 |true=>rw[all_nth.1 ha i hi]at h;cases h
theorem all_step{p:Nat→Prop}{i:Nat}(h:∀j,j<i→p j)(hi:p i):∀j,j<i+1→p j:=fun j hj=>by
 rcases Nat.lt_succ_iff_lt_or_eq.1 hj with h1|rfl
 · exact h j h1
 · exact hi
def ixOf(xs:List Int)(v:Int):Int:=if v∈xs then(xs.findIdx (fun x=>x==v):Nat)else-1
theorem Index_run(xs:List Int)(v:Int)(hx:xs.length≤2^40):Reads Tryd.prog 73 [ints xs,int v] (int (ixOf xs v)):=by
 refine RunCall.cw (c:=_) Tryd.func73 rfl (n:=19) Tryd.ntmps73 (rs:=[.tmp 4]) rfl ?_
 simp only[List.length_cons,List.length_nil,zA,zS,List.replicate,List.cons_append,List.nil_append]
 simp(maxSteps:=999999)(disch:=omega)only[go_sem,zA,zM,zS,zE,zL]
 refine loop_rule (fun i:Nat=>xs.length -i) (fun i=>i≤xs.length∧∀j:Nat,j<i→nth xs j≠v) (fun i=>[.k, .k, .a, .a, .a, .a, .a, .k, .p (int i), .a, .a, .a, .a, .a, .a, .a, .a, .a, .a]) (fun i=>[]) 0
  ⟨Nat.zero_le _,fun j hj=>absurd hj (Nat.not_lt_zero _)⟩ (by simp(maxSteps:=999999)(disch:=omega)only[go_sem,zA,zM,zS,zE,zL];rfl) (hle_nil _) ?_
 rintro i ⟨hi,hall⟩
 simp(maxSteps:=999999)(disch:=omega)only[go_sem,zA,zM,zS,zE,zL]
 ((first|(with_reducible first|refine condK_dec ?_ ?_|refine condK_ndec ?_ ?_|refine condK_nb ?_ ?_)|refine condK_b ?_ ?_)<;>intro h)
 · have h:i<xs.length:=by omega
   simp(maxSteps:=999999)(disch:=omega)only[go_sem,zA,zM,zS,zE,zL]
   ((first|(with_reducible first|refine condK_dec ?_ ?_|refine condK_ndec ?_ ?_|refine condK_nb ?_ ?_)|refine condK_b ?_ ?_)<;>intro h2)
   · simp(maxSteps:=999999)(disch:=omega)only[go_sem,zA,zM,zS,zE,zL]
     have hm:v∈xs:=mem_nth.2 ⟨i,h,h2.symm⟩
     have:xs.findIdx (fun x=>x==v)=i:=(List.findIdx_eq h).2 ⟨by have:=nth_eq (xs:=xs) (e:=i) (by omega);simp at this;rw[←this,h2];simp,fun j hj=>by
      have h3:=hall j hj
      rw[nth_eq (by omega)]at h3
      simpa using h3⟩
     simp only[ixOf,hm,if_true,this]
   · simp(maxSteps:=999999)(disch:=omega)only[go_sem,zA,zM,zS,zE,zL]
     refine⟨i+1,⟨⟨by omega,all_step hall fun h3=>h2 h3.symm⟩,by omega⟩,by omega,hle_nil _⟩
 · simp(maxSteps:=999999)(disch:=omega)only[go_sem,zA,zM,zS,zE,zL]
   have hm:¬v∈xs:=fun hm=>by
    obtain⟨j,hj,h4⟩:=mem_nth.1 hm
    exact hall j (by omega) h4
   simp only[ixOf,hm,if_false]
theorem Contains_run(xs:List Int)(v:Int)(hx:xs.length≤2^40):Reads Tryd.prog 51 [ints xs,int v] (bool (decide (v∈xs))):=by
 refine RunCall.cw (c:=_) Tryd.func51 rfl (n:=9) Tryd.ntmps51 (rs:=[.tmp 4]) rfl ?_
 simp only[List.length_cons,List.length_nil,zA,zS,List.replicate,List.cons_append,List.nil_append]
 simp(maxSteps:=999999)(disch:=omega)only[go_sem,zA,zM,zS,zE,zL]
 first|refine OpS.rd (Index_run xs v hx) (⟨_,Tryd.func73,rfl,rfl⟩:Enters Tryd.prog 73) rfl rfl rfl rfl ?_|refine Loud.rd (Index_run xs v hx) (⟨_,Tryd.func73,rfl,rfl⟩:Enters Tryd.prog 73) rfl rfl rfl rfl ?_
 simp(maxSteps:=999999)(disch:=omega)only[go_sem,zA,zM,zS,zE,zL]
 rw[decide_eq_decide]
 unfold ixOf
 split
 · simp[*]
 · simp[*]
def ruleShape(r:Rul)(n:Int):Prop:=
 (r.kind=1∧2≤(r.cells.length:Int)∧(r.cells.length:Int)≤4∧r.val=0)∨((r.kind=2∨r.kind=3)∧1≤(r.cells.length:Int)∧(r.cells.length:Int)≤4∧1≤r.val∧r.val≤n*n*n*n)∨
 (r.kind=4∧(r.cells.length:Int)=2∧r.val=0)∨(r.kind=5∧(r.cells.length:Int)=2∧0≤r.val∧r.val<n)
def cellsOk(cs:List Int)(n:Int)(i:Nat):Prop:=∀j:Nat,j<i→(0≤nth cs j∧nth cs j<n*n)∧∀l:Nat,l<j→nth cs l≠nth cs j
instance(r:Rul)(n:Int):Decidable (ruleShape r n):=by unfold ruleShape;infer_instance
instance(cs:List Int)(n:Int)(i:Nat):Decidable (cellsOk cs n i):=by unfold cellsOk;infer_instance
def ruleValid(r:Rul)(n:Int):Bool:=decide ((2≤n∧n≤4)∧cellsOk r.cells n r.cells.length∧ruleShape r n)
theorem sq_bound{n:Int}(h:2≤n∧n≤4):4≤n*n∧n*n≤16:=by
 have:n=2∨n=3∨n=4:=by omega
 rcases this with rfl|rfl|rfl<;>decide
theorem cu_bound{n:Int}(h:2≤n∧n≤4):8≤n*n*n∧n*n*n≤64∧16≤n*n*n*n∧n*n*n*n≤256:=by
 have:n=2∨n=3∨n=4:=by omega
 rcases this with rfl|rfl|rfl<;>decide
theorem cellsOk_no{r:Rul}{n:Int}{i:Nat}(hi:i<r.cells.length)(h:(0≤nth r.cells i∧nth r.cells i<n*n)→∃l:Nat,l<i∧nth r.cells l=nth r.cells i):ruleValid r n=false:=by
 simp only[ruleValid,decide_eq_false_iff_not]
 rintro⟨_,h2,_⟩
 obtain⟨l,h3,h4⟩:=h (h2 i hi).1
 exact(h2 i hi).2 l h3 h4
theorem cellsOk_yes{r:Rul}{n:Int}(hn:2≤n∧n≤4)(h:cellsOk r.cells n r.cells.length):ruleValid r n=decide (ruleShape r n):=by
 simp[ruleValid,hn,h]
theorem RuleValid_run(r:Rul)(n:Int)(hx:r.cells.length≤2^40):Reads Tryd.prog 21 [aR r,int n] (bool (ruleValid r n)):=by
 refine RunCall.cw (c:=_) Tryd.func21 rfl (n:=105) Tryd.ntmps21 (rs:=[.tmp 4]) rfl ?_
 simp only[List.length_cons,List.length_nil,zA,zS,List.replicate,List.cons_append,List.nil_append]
 simp(maxSteps:=999999)(disch:=omega)only[go_sem,zA,zM,zS,zE,zL]
 intro g
 first|refine OpS.rd (sizeOk_run n) (⟨_,Tryd.func50,rfl,rfl⟩:Enters Tryd.prog 50) rfl rfl rfl rfl ?_|refine Loud.rd (sizeOk_run n) (⟨_,Tryd.func50,rfl,rfl⟩:Enters Tryd.prog 50) rfl rfl rfl rfl ?_
 simp(maxSteps:=999999)(disch:=omega)only[go_sem,zA,zM,zS,zE,zL]
 ((first|(with_reducible first|refine condK_dec ?_ ?_|refine condK_ndec ?_ ?_|refine condK_nb ?_ ?_)|refine condK_b ?_ ?_)<;>intro hn)
 · have hw:=sq_bound hn
   simp(maxSteps:=999999)(disch:=omega)only[go_sem,zA,zM,zS,zE,zL]
   refine loop_rule (fun i:Nat=>r.cells.length -i) (fun i=>i≤r.cells.length∧cellsOk r.cells n i) (fun i=>[.a, .k, .k, .a, .a, .a, .a, .a, .a, .a, .a, .a, .k, .k, .p (int i), .a, .a, .a, .a, .a, .a, .a, .a, .a, .a, .a, .a, .a, .a, .a, .a, .a, .a, .a, .a, .a, .a, .a, .a, .a, .a, .a, .a, .a, .a, .a, .a, .a, .a, .a, .a, .a, .a, .a, .a, .a, .a, .a, .a, .a, .a, .a, .a, .a, .a, .a, .a, .a, .a, .a, .a, .a, .a, .a, .a, .a, .a, .a, .a, .a, .a, .a, .a, .a, .a, .a, .a, .a, .a, .a, .a, .a, .a, .a, .a, .a, .a, .a, .a, .a, .a, .a, .a, .a, .a]) (fun _=>[some ⟨g,1,cR r⟩]) 0
    ⟨Nat.zero_le _,fun j hj=>absurd hj (Nat.not_lt_zero _)⟩ (by simp(maxSteps:=999999)(disch:=omega)only[go_sem,zA,zM,zS,zE,zL];rfl) (HLe.refl _) ?_
   rintro i ⟨hi,hall⟩
   simp(maxSteps:=999999)(disch:=omega)only[go_sem,zA,zM,zS,zE,zL]
   ((first|(with_reducible first|refine condK_dec ?_ ?_|refine condK_ndec ?_ ?_|refine condK_nb ?_ ?_)|refine condK_b ?_ ?_)<;>intro h)
   · have h:i<r.cells.length:=by omega
     simp(maxSteps:=999999)(disch:=omega)only[go_sem,zA,zM,zS,zE,zL]
     ((with_reducible first|refine guardK_dec ?_ ?_|refine guardK_ndec ?_ ?_|refine guardK_nb ?_ ?_|refine guardK_split ?_ ?_|refine guardQ_dec ?_ ?_|refine guardL_dec ?_ ?_|refine guardQ_ndec ?_ ?_|refine guardL_ndec ?_ ?_|refine guardQ_nb ?_ ?_|refine guardL_nb ?_ ?_|refine guardQ_split ?_ ?_|refine guardL_split ?_ ?_)<;>intro h1<;>simp(maxSteps:=999999)(disch:=omega)only[go_sem,zA,zM,zS,zE,zL,h1])
     · symm;exact cellsOk_no h fun h5=>by omega
     ((with_reducible first|refine guardK_dec ?_ ?_|refine guardK_ndec ?_ ?_|refine guardK_nb ?_ ?_|refine guardK_split ?_ ?_|refine guardQ_dec ?_ ?_|refine guardL_dec ?_ ?_|refine guardQ_ndec ?_ ?_|refine guardL_ndec ?_ ?_|refine guardQ_nb ?_ ?_|refine guardL_nb ?_ ?_|refine guardQ_split ?_ ?_|refine guardL_split ?_ ?_)<;>intro h2<;>simp(maxSteps:=999999)(disch:=omega)only[go_sem,zA,zM,zS,zE,zL,h2])
     · symm;exact cellsOk_no h fun h5=>by omega
     simp(maxSteps:=999999)(disch:=omega)only[go_sem,zA,zM,zS,zE,zL,sub_take]
     first|refine OpS.rd (Contains_run (r.cells.take i) (nth r.cells i) (by simp;omega)) (⟨_,Tryd.func51,rfl,rfl⟩:Enters Tryd.prog 51) rfl rfl rfl rfl ?_|refine Loud.rd (Contains_run (r.cells.take i) (nth r.cells i) (by simp;omega)) (⟨_,Tryd.func51,rfl,rfl⟩:Enters Tryd.prog 51) rfl rfl rfl rfl ?_
     simp(maxSteps:=999999)(disch:=omega)only[go_sem,zA,zM,zS,zE,zL]
     ((first|(with_reducible first|refine condK_dec ?_ ?_|refine condK_ndec ?_ ?_|refine condK_nb ?_ ?_)|refine condK_b ?_ ?_)<;>intro h3)
     · simp(maxSteps:=999999)(disch:=omega)only[go_sem,zA,zM,zS,zE,zL]
       obtain⟨j,h4,h5⟩:=mem_nth.1 h3
       simp only[List.length_take]at h4
       rw[nth_take (by omega)]at h5
       symm;exact cellsOk_no h fun _=>⟨j,by omega,h5⟩
     · simp(maxSteps:=999999)(disch:=omega)only[go_sem,zA,zM,zS,zE,zL]
       refine⟨i+1,⟨⟨h,all_step hall ⟨by omega,fun l hl hl2=>h3 (mem_nth.2 ⟨l,by simp;omega,by rw[nth_take hl];exact hl2⟩)⟩⟩,by omega⟩,by omega,HLe.refl _⟩
   · have:i=r.cells.length:=by omega
     subst this
     simp(maxSteps:=999999)(disch:=omega)only[go_sem,zA,zM,zS,zE,zL]
     rw[cellsOk_yes hn hall]
     have hcu:=cu_bound hn
     repeat' (first|((with_reducible first|refine guardK_dec ?_ ?_|refine guardK_ndec ?_ ?_|refine guardK_nb ?_ ?_|refine guardK_split ?_ ?_|refine guardQ_dec ?_ ?_|refine guardL_dec ?_ ?_|refine guardQ_ndec ?_ ?_|refine guardL_ndec ?_ ?_|refine guardQ_nb ?_ ?_|refine guardL_nb ?_ ?_|refine guardQ_split ?_ ?_|refine guardL_split ?_ ?_)<;>intro hg<;>simp(maxSteps:=999999)(disch:=omega)only[go_sem,zA,zM,zS,zE,zL,hg])|(((first|(with_reducible first|refine condK_dec ?_ ?_|refine condK_ndec ?_ ?_|refine condK_nb ?_ ?_)|refine condK_b ?_ ?_)<;>intro hg)<;>simp(maxSteps:=999999)(disch:=omega)only[go_sem,zA,zM,zS,zE,zL])|fail)
     all_goals
      (first|refine bool_ff ?_|refine bool_tt ?_|refine bool_pq ?_)
     all_goals unfold ruleShape;omega
 · simp(maxSteps:=999999)(disch:=omega)only[go_sem,zA,zM,zS,zE,zL]
   symm;simp only[ruleValid,decide_eq_false_iff_not];exact fun h=>hn h.1
theorem sRuleValid_run(r:Rul)(n:Int)(hx:r.cells.length≤2^40):Reads Tryd.prog 48 [aR r,int n] (bool (ruleValid r n)):=by
 refine RunCall.cw (c:=_) Tryd.func48 rfl (n:=100) Tryd.ntmps48 (rs:=[.tmp 4]) rfl ?_
 simp only[List.length_cons,List.length_nil,zA,zS,List.replicate,List.cons_append,List.nil_append]
 simp(maxSteps:=999999)(disch:=omega)only[go_sem,zA,zM,zS,zE,zL]
 intro g
 by_cases hn:2≤n∧n≤4
 · have hw:=sq_bound hn
   refine loop_rule (fun i:Nat=>r.cells.length -i) (fun i=>i≤r.cells.length∧cellsOk r.cells n i) (fun i=>[.a, .k, .k, .a, .a, .p (int i), .a, .a, .a, .a, .a, .a, .a, .a, .a, .a, .a, .a, .a, .a, .a, .a, .a, .a, .a, .a, .a, .a, .a, .a, .a, .a, .a, .a, .a, .a, .a, .a, .a, .a, .a, .a, .a, .a, .a, .a, .a, .a, .a, .a, .a, .a, .a, .a, .a, .a, .a, .a, .a, .a, .a, .a, .a, .a, .a, .a, .a, .a, .a, .a, .a, .a, .a, .a, .a, .a, .a, .a, .a, .a, .a, .a, .a, .a, .a, .a, .a, .a, .a, .a, .a, .a, .a, .a, .a, .a, .a, .a, .a, .a]) (fun _=>[some ⟨g,1,cR r⟩]) 0
    ⟨Nat.zero_le _,fun j hj=>absurd hj (Nat.not_lt_zero _)⟩ (by simp(maxSteps:=999999)(disch:=omega)only[go_sem,zA,zM,zS,zE,zL];rfl) (HLe.refl _) ?_
   rintro i ⟨hi,hall⟩
   simp(maxSteps:=999999)(disch:=omega)only[go_sem,zA,zM,zS,zE,zL]
   ((first|(with_reducible first|refine condK_dec ?_ ?_|refine condK_ndec ?_ ?_|refine condK_nb ?_ ?_)|refine condK_b ?_ ?_)<;>intro h)
   · have h:i<r.cells.length:=by omega
     simp(maxSteps:=999999)(disch:=omega)only[go_sem,zA,zM,zS,zE,zL]
     first|refine OpS.rd (l1In_run _ _ _) (⟨_,Tryd.func72,rfl,rfl⟩:Enters Tryd.prog 72) rfl rfl rfl rfl ?_|refine Loud.rd (l1In_run _ _ _) (⟨_,Tryd.func72,rfl,rfl⟩:Enters Tryd.prog 72) rfl rfl rfl rfl ?_
     simp(maxSteps:=999999)(disch:=omega)only[go_sem,zA,zM,zS,zE,zL]
     ((first|(with_reducible first|refine condK_dec ?_ ?_|refine condK_ndec ?_ ?_|refine condK_nb ?_ ?_)|refine condK_b ?_ ?_)<;>intro h1)
     · simp(maxSteps:=999999)(disch:=omega)only[go_sem,zA,zM,zS,zE,zL]
       refine loop_rule (fun j:Nat=>i -j) (fun j=>j≤i∧∀l:Nat,l<j→nth r.cells l≠nth r.cells i) (fun j=>[.a, .k, .k, .a, .a, .k, .p (int j), .a, .a, .a, .a, .a, .a, .a, .a, .a, .a, .a, .a, .a, .a, .a, .a, .a, .a, .a, .a, .a, .a, .a, .a, .a, .a, .a, .a, .a, .a, .a, .a, .a, .a, .a, .a, .a, .a, .a, .a, .a, .a, .a, .a, .a, .a, .a, .a, .a, .a, .a, .a, .a, .a, .a, .a, .a, .a, .a, .a, .a, .a, .a, .a, .a, .a, .a, .a, .a, .a, .a, .a, .a, .a, .a, .a, .a, .a, .a, .a, .a, .a, .a, .a, .a, .a, .a, .a, .a, .a, .a, .a, .a]) (fun _=>[some ⟨g,1,cR r⟩]) 0
        ⟨Nat.zero_le _,fun j hj=>absurd hj (Nat.not_lt_zero _)⟩ (by simp(maxSteps:=999999)(disch:=omega)only[go_sem,zA,zM,zS,zE,zL];rfl) (HLe.refl _) ?_
       rintro j ⟨hj,hall2⟩
       simp(maxSteps:=999999)(disch:=omega)only[go_sem,zA,zM,zS,zE,zL]
       ((first|(with_reducible first|refine condK_dec ?_ ?_|refine condK_ndec ?_ ?_|refine condK_nb ?_ ?_)|refine condK_b ?_ ?_)<;>intro h2)
       · have h2:j<i:=by omega
         simp(maxSteps:=999999)(disch:=omega)only[go_sem,zA,zM,zS,zE,zL]
         refine drawP_q foll (by kernel_rfl) ?_
         simp(maxSteps:=999999)(disch:=omega)only[go_sem,Nat.reduceBEq,Bool.true_or,zA,zM,zS,zE,zL]
         ((first|(with_reducible first|refine condK_dec ?_ ?_|refine condK_ndec ?_ ?_|refine condK_nb ?_ ?_)|refine condK_b ?_ ?_)<;>intro h3)
         · simp(maxSteps:=999999)(disch:=omega)only[go_sem,zA,zM,zS,zE,zL]
           symm;exact cellsOk_no h fun _=>⟨j,h2,h3⟩
         · simp(maxSteps:=999999)(disch:=omega)only[go_sem,zA,zM,zS,zE,zL]
           exact⟨j+1,⟨⟨h2,all_step hall2 h3⟩,by omega⟩,by omega,HLe.refl _⟩
       · simp(maxSteps:=999999)(disch:=omega)only[go_sem,zA,zM,zS,zE,zL]
         have:j=i:=by omega
         subst this
         exact⟨j+1,⟨⟨h,all_step hall ⟨by omega,hall2⟩⟩,by omega⟩,by omega,HLe.refl _⟩
     · simp(maxSteps:=999999)(disch:=omega)only[go_sem,zA,zM,zS,zE,zL]
       symm;exact cellsOk_no h fun h5=>by omega
   · have:i=r.cells.length:=by omega
     subst this
     simp(maxSteps:=999999)(disch:=omega)only[go_sem,zA,zM,zS,zE,zL]
     first|refine OpS.rd (l1In_run _ _ _) (⟨_,Tryd.func72,rfl,rfl⟩:Enters Tryd.prog 72) rfl rfl rfl rfl ?_|refine Loud.rd (l1In_run _ _ _) (⟨_,Tryd.func72,rfl,rfl⟩:Enters Tryd.prog 72) rfl rfl rfl rfl ?_
     simp(maxSteps:=999999)(disch:=omega)only[go_sem,zA,zM,zS,zE,zL]
     rw[cellsOk_yes hn hall]
     have hcu:=cu_bound hn
     repeat' (first|((with_reducible first|refine guardK_dec ?_ ?_|refine guardK_ndec ?_ ?_|refine guardK_nb ?_ ?_|refine guardK_split ?_ ?_|refine guardQ_dec ?_ ?_|refine guardL_dec ?_ ?_|refine guardQ_ndec ?_ ?_|refine guardL_ndec ?_ ?_|refine guardQ_nb ?_ ?_|refine guardL_nb ?_ ?_|refine guardQ_split ?_ ?_|refine guardL_split ?_ ?_)<;>intro hg<;>simp(maxSteps:=999999)(disch:=omega)only[go_sem,zA,zM,zS,zE,zL,hg])|(((first|(with_reducible first|refine condK_dec ?_ ?_|refine condK_ndec ?_ ?_|refine condK_nb ?_ ?_)|refine condK_b ?_ ?_)<;>intro hg)<;>simp(maxSteps:=999999)(disch:=omega)only[go_sem,zA,zM,zS,zE,zL])|(refine OpS.rd (l1In_run _ _ _) (⟨_,Tryd.func72,rfl,rfl⟩:Enters Tryd.prog 72) rfl rfl rfl rfl ?_;simp(maxSteps:=999999)(disch:=omega)only[go_sem,zA,zM,zS,zE,zL]))
     all_goals
      (first|refine bool_ff ?_|refine bool_tt ?_|refine bool_pq ?_)
     all_goals unfold ruleShape;omega
 · have hv:ruleValid r n=false:=by simp only[ruleValid,decide_eq_false_iff_not];exact fun h=>hn h.1
   rw[hv]
   refine loop_rule (fun i:Nat=>r.cells.length -i) (fun i=>i≤r.cells.length) (fun i=>[.a, .k, .k, .a, .a, .p (int i), .a, .a, .a, .a, .a, .a, .a, .a, .a, .a, .a, .a, .a, .a, .a, .a, .a, .a, .a, .a, .a, .a, .a, .a, .a, .a, .a, .a, .a, .a, .a, .a, .a, .a, .a, .a, .a, .a, .a, .a, .a, .a, .a, .a, .a, .a, .a, .a, .a, .a, .a, .a, .a, .a, .a, .a, .a, .a, .a, .a, .a, .a, .a, .a, .a, .a, .a, .a, .a, .a, .a, .a, .a, .a, .a, .a, .a, .a, .a, .a, .a, .a, .a, .a, .a, .a, .a, .a, .a, .a, .a, .a, .a, .a]) (fun _=>[some ⟨g,1,cR r⟩]) 0
    (Nat.zero_le _) (by simp(maxSteps:=999999)(disch:=omega)only[go_sem,zA,zM,zS,zE,zL];rfl) (HLe.refl _) ?_
   intro i hi
   simp(maxSteps:=999999)(disch:=omega)only[go_sem,zA,zM,zS,zE,zL]
   ((first|(with_reducible first|refine condK_dec ?_ ?_|refine condK_ndec ?_ ?_|refine condK_nb ?_ ?_)|refine condK_b ?_ ?_)<;>intro h)
   · have h:i<r.cells.length:=by omega
     simp(maxSteps:=999999)(disch:=omega)only[go_sem,zA,zM,zS,zE,zL]
     first|refine OpS.rd (l1In_run _ _ _) (⟨_,Tryd.func72,rfl,rfl⟩:Enters Tryd.prog 72) rfl rfl rfl rfl ?_|refine Loud.rd (l1In_run _ _ _) (⟨_,Tryd.func72,rfl,rfl⟩:Enters Tryd.prog 72) rfl rfl rfl rfl ?_
     simp(maxSteps:=999999)(disch:=omega)only[go_sem,zA,zM,zS,zE,zL]
     ((first|(with_reducible first|refine condK_dec ?_ ?_|refine condK_ndec ?_ ?_|refine condK_nb ?_ ?_)|refine condK_b ?_ ?_)<;>intro h1)
     · simp(maxSteps:=999999)(disch:=omega)only[go_sem,zA,zM,zS,zE,zL]
       refine loop_rule (fun j:Nat=>i -j) (fun j=>j≤i) (fun j=>[.a, .k, .k, .a, .a, .k, .p (int j), .a, .a, .a, .a, .a, .a, .a, .a, .a, .a, .a, .a, .a, .a, .a, .a, .a, .a, .a, .a, .a, .a, .a, .a, .a, .a, .a, .a, .a, .a, .a, .a, .a, .a, .a, .a, .a, .a, .a, .a, .a, .a, .a, .a, .a, .a, .a, .a, .a, .a, .a, .a, .a, .a, .a, .a, .a, .a, .a, .a, .a, .a, .a, .a, .a, .a, .a, .a, .a, .a, .a, .a, .a, .a, .a, .a, .a, .a, .a, .a, .a, .a, .a, .a, .a, .a, .a, .a, .a, .a, .a, .a, .a]) (fun _=>[some ⟨g,1,cR r⟩]) 0
        (Nat.zero_le _) (by simp(maxSteps:=999999)(disch:=omega)only[go_sem,zA,zM,zS,zE,zL];rfl) (HLe.refl _) ?_
       intro j hj
       simp(maxSteps:=999999)(disch:=omega)only[go_sem,zA,zM,zS,zE,zL]
       ((first|(with_reducible first|refine condK_dec ?_ ?_|refine condK_ndec ?_ ?_|refine condK_nb ?_ ?_)|refine condK_b ?_ ?_)<;>intro h2)
       · have h2:j<i:=by omega
         simp(maxSteps:=999999)(disch:=omega)only[go_sem,zA,zM,zS,zE,zL]
         refine drawP_q foll (by kernel_rfl) ?_
         simp(maxSteps:=999999)(disch:=omega)only[go_sem,Nat.reduceBEq,Bool.true_or,zA,zM,zS,zE,zL]
         ((first|(with_reducible first|refine condK_dec ?_ ?_|refine condK_ndec ?_ ?_|refine condK_nb ?_ ?_)|refine condK_b ?_ ?_)<;>intro h3)
         · simp(maxSteps:=999999)(disch:=omega)only[go_sem,zA,zM,zS,zE,zL]
         · simp(maxSteps:=999999)(disch:=omega)only[go_sem,zA,zM,zS,zE,zL]
           exact⟨j+1,⟨h2,by omega⟩,by omega,HLe.refl _⟩
       · simp(maxSteps:=999999)(disch:=omega)only[go_sem,zA,zM,zS,zE,zL]
         exact⟨i+1,⟨h,by omega⟩,by omega,HLe.refl _⟩
     · simp(maxSteps:=999999)(disch:=omega)only[go_sem,zA,zM,zS,zE,zL]
   · simp(maxSteps:=999999)(disch:=omega)only[go_sem,zA,zM,zS,zE,zL]
     first|refine OpS.rd (l1In_run _ _ _) (⟨_,Tryd.func72,rfl,rfl⟩:Enters Tryd.prog 72) rfl rfl rfl rfl ?_|refine Loud.rd (l1In_run _ _ _) (⟨_,Tryd.func72,rfl,rfl⟩:Enters Tryd.prog 72) rfl rfl rfl rfl ?_
     simp(maxSteps:=999999)(disch:=omega)only[go_sem,zA,zM,zS,zE,zL]
     rw[show decide (2≤n∧n≤4)=false from decide_eq_false hn]
     simp(maxSteps:=999999)(disch:=omega)only[go_sem,zA,zM,zS,zE,zL]
end Go.Lg
