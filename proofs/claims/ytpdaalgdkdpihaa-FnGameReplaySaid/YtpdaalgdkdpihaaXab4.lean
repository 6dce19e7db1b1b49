/- GpG, cut to what is needed. -/
import Derived.Test.YtpdaalgdkdpihaaXab2
import Derived.Test.YtpdaalgdkdpihaaXab3
open Nat renaming reduceAdd→zA,reduceMul→zM,reduceSub→zS,reduceEqDiff→zE,reduceLeDiff→zL
set_option linter.unusedSimpArgs false
set_option linter.unusedVariables false
set_option maxRecDepth 100000
namespace Go.Lg
open Go.Proofs
theorem countP_take{α:Type}[Inhabited α]{xs:List α}{f:α→Bool}{i:Nat}(h:i<xs.length):(xs.take (i+1)).countP f=(xs.take i).countP f+if f (nth xs i)then 1 else 0:=by
 rw[take_succ_nth h,List.countP_append];simp[List.countP_cons]
theorem countP_le{α:Type}(xs:List α)(f:α→Bool)(i:Nat):(xs.take i).countP f≤xs.length:=by
 have:=List.countP_le_length (p:=f) (l:=xs.take i)
 simp at this;omega
def gridFilled(xs:List Int)(n:Int):Int:=if gridValid xs n then(xs.countP fun v=>decide (0<v):Nat)else-1
theorem GridFilled_run(xs:List Int)(n:Int)(hx:xs.length≤2^40):Reads Try.prog 43 [ints xs,int n] (int (gridFilled xs n)):=by
 refine RunCall.cw (c:=_) Try.func43 rfl (n:=24) Try.ntmps43 (rs:=[.tmp 4]) rfl ?_
 simp only[List.length_cons,List.length_nil,zA,zS,List.replicate,List.cons_append,List.nil_append]
 simp(maxSteps:=999999)(disch:=omega)only[go_sem,zA,zM,zS,zE,zL]
 first|refine OpS.rd (GridValid_run xs n (by omega)) (⟨_,Try.func69,rfl,rfl⟩:Enters Try.prog 69) rfl rfl rfl rfl ?_|refine Loud.rd (GridValid_run xs n (by omega)) (⟨_,Try.func69,rfl,rfl⟩:Enters Try.prog 69) rfl rfl rfl rfl ?_
 simp(maxSteps:=999999)(disch:=omega)only[go_sem,zA,zM,zS,zE,zL]
 ((first|(with_reducible first|refine condK_dec ?_ ?_|refine condK_ndec ?_ ?_|refine condK_nb ?_ ?_)|refine condK_b ?_ ?_)<;>intro hv)
 rotate_left
 · simp(maxSteps:=999999)(disch:=omega)only[go_sem,zA,zM,zS,zE,zL]
   simp[gridFilled,hv]
 simp(maxSteps:=999999)(disch:=omega)only[go_sem,zA,zM,zS,zE,zL]
 refine loop_rule (fun i:Nat=>xs.length -i) (fun i=>i≤xs.length) (fun i=>[.a, .a, .a, .a, .a, .p (int ((xs.take i).countP fun v=>decide (0<v):Nat)), .a, .a, .a, .a, .a, .a, .k, .k, .p (int i), .a, .a, .a, .a, .a, .a, .a, .a, .a]) (fun _=>[]) 0
  (Nat.zero_le _) (by simp(maxSteps:=999999)(disch:=omega)only[go_sem,zA,zM,zS,zE,zL];simp) (hle_nil _) ?_
 intro i hi
 have hb:=countP_le xs (fun v=>decide (0<v)) i
 simp(maxSteps:=999999)(disch:=omega)only[go_sem,zA,zM,zS,zE,zL]
 ((first|(with_reducible first|refine condK_dec ?_ ?_|refine condK_ndec ?_ ?_|refine condK_nb ?_ ?_)|refine condK_b ?_ ?_)<;>intro h)
 · have h:i<xs.length:=by omega
   have hc:=countP_take (f:=fun v=>decide (0<v)) h
   simp(maxSteps:=999999)(disch:=omega)only[go_sem,zA,zM,zS,zE,zL]
   ((first|(with_reducible first|refine condK_dec ?_ ?_|refine condK_ndec ?_ ?_|refine condK_nb ?_ ?_)|refine condK_b ?_ ?_)<;>intro h2)
   · simp(maxSteps:=999999)(disch:=omega)only[go_sem,zA,zM,zS,zE,zL]
     refine⟨i+1,⟨h,by omega⟩,⟨?_,by omega⟩,hle_nil _⟩
     rw[hc];simp[h2]
   · simp(maxSteps:=999999)(disch:=omega)only[go_sem,zA,zM,zS,zE,zL]
     refine⟨i+1,⟨h,by omega⟩,⟨?_,by omega⟩,hle_nil _⟩
     rw[hc];simp[h2]
 · simp(maxSteps:=999999)(disch:=omega)only[go_sem,zA,zM,zS,zE,zL]
   rw[List.take_of_length_le (by omega)]
   simp only[gridFilled,hv,if_true]
end Go.Lg
