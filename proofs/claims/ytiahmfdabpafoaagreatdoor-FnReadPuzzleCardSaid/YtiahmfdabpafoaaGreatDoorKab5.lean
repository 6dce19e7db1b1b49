/- GpG, cut to what is needed. -/
import Derived.Test.YtiahmfdabpafoaaGreatDoorKab2
import Derived.Test.YtiahmfdabpafoaaGreatDoorKab4
open Nat renaming reduceAdd→zA,reduceMul→zM,reduceSub→zS,reduceEqDiff→zE,reduceLeDiff→zL
set_option linter.unusedSimpArgs false
set_option linter.unusedVariables false
set_option maxRecDepth 100000
namespace Go.Lg
open Go.Proofs
theorem K1{α:Type}[Inhabited α]{xs:List α}{f:α→Bool}{i:Nat}(h:i<xs.length):(xs.take (i+1)).countP f=(xs.take i).countP f+if f (JM xs i)then 1 else 0:=by
 rw[JX h,List.countP_append];simp[List.countP_cons]
theorem FN{α:Type}(xs:List α)(f:α→Bool)(i:Nat):(xs.take i).countP f≤xs.length:=by
 have:=List.countP_le_length (p:=f) (l:=xs.take i)
 simp at this;omega
def ZR(xs:List Int)(n:Int):Int:=if J9 xs n then(xs.countP fun v=>decide (0<v):Nat)else-1
theorem BA(xs:List Int)(n:Int)(hx:xs.length≤2^40):Qd Tryz.prog 23 [ZY xs,int n] (int (ZR xs n)):=by
 refine Jq.cw (c:=_) Tryz.func23 rfl (n:=24) Tryz.ntmps23 (rs:=[.tmp 4]) rfl ?_
 simp only[List.length_cons,List.length_nil,zA,zS,List.replicate,List.cons_append,List.nil_append]
 simp(maxSteps:=999999)(disch:=omega)only[go_sem,zA,zM,zS,zE,zL]
 first|refine Qh.rd (Ub xs n (by omega)) (⟨_,Tryz.func31,rfl,rfl⟩:Jm Tryz.prog 31) rfl rfl rfl rfl ?_|refine Qe.rd (Ub xs n (by omega)) (⟨_,Tryz.func31,rfl,rfl⟩:Jm Tryz.prog 31) rfl rfl rfl rfl ?_
 simp(maxSteps:=999999)(disch:=omega)only[go_sem,zA,zM,zS,zE,zL]
 ((first|(with_reducible first|refine Jo ?_ ?_|refine Jk ?_ ?_|refine Jp ?_ ?_)|refine Jr ?_ ?_)<;>intro hv)
 rotate_left
 · simp(maxSteps:=999999)(disch:=omega)only[go_sem,zA,zM,zS,zE,zL]
   simp[ZR,hv]
 simp(maxSteps:=999999)(disch:=omega)only[go_sem,zA,zM,zS,zE,zL]
 refine Qw (fun i:Nat=>xs.length -i) (fun i=>i≤xs.length) (fun i=>[.a, .a, .a, .a, .a, .p (int ((xs.take i).countP fun v=>decide (0<v):Nat)), .a, .a, .a, .a, .a, .a, .k, .k, .p (int i), .a, .a, .a, .a, .a, .a, .a, .a, .a]) (fun _=>[]) 0
  (Nat.zero_le _) (by simp(maxSteps:=999999)(disch:=omega)only[go_sem,zA,zM,zS,zE,zL];simp) (J8 _) ?_
 intro i hi
 have hb:=FN xs (fun v=>decide (0<v)) i
 simp(maxSteps:=999999)(disch:=omega)only[go_sem,zA,zM,zS,zE,zL]
 ((first|(with_reducible first|refine Jo ?_ ?_|refine Jk ?_ ?_|refine Jp ?_ ?_)|refine Jr ?_ ?_)<;>intro h)
 · have h:i<xs.length:=by omega
   have hc:=K1 (f:=fun v=>decide (0<v)) h
   simp(maxSteps:=999999)(disch:=omega)only[go_sem,zA,zM,zS,zE,zL]
   ((first|(with_reducible first|refine Jo ?_ ?_|refine Jk ?_ ?_|refine Jp ?_ ?_)|refine Jr ?_ ?_)<;>intro h2)
   · simp(maxSteps:=999999)(disch:=omega)only[go_sem,zA,zM,zS,zE,zL]
     refine⟨i+1,⟨h,by omega⟩,⟨?_,by omega⟩,J8 _⟩
     rw[hc];simp[h2]
   · simp(maxSteps:=999999)(disch:=omega)only[go_sem,zA,zM,zS,zE,zL]
     refine⟨i+1,⟨h,by omega⟩,⟨?_,by omega⟩,J8 _⟩
     rw[hc];simp[h2]
 · simp(maxSteps:=999999)(disch:=omega)only[go_sem,zA,zM,zS,zE,zL]
   rw[List.take_of_length_le (by omega)]
   simp only[ZR,hv,if_true]
end Go.Lg
