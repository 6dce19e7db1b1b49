/- GpH, cut to what is needed. -/
import Derived.Test.YtiahmfdabpafoaaDoorIab3
import Derived.Test.YtiahmfdabpafoaaDoorIab4
import Derived.Test.YtiahmfdabpafoaaDoorIab2
open Nat renaming reduceAdd→zA,reduceMul→zM,reduceSub→zS,reduceEqDiff→zE,reduceLeDiff→zL
set_option linter.unusedSimpArgs false
set_option linter.unusedVariables false
set_option maxRecDepth 100000
namespace Go.Lg
open Go.Proofs
theorem nth_mem{α:Type}[Inhabited α]{xs:List α}{i:Nat}(h:i<xs.length):nth xs i∈xs:=by
 rw[nth_eq (by omega)];exact List.getElem_mem _
def eRo(r:Option Rul):List FV:=match r with|none=>[.int .i64 0, .nil, .int .i64 0]|some r=>eR r
instance:HSz eRo 3:=⟨fun r=>by cases r<;>rfl⟩
theorem zerosRo(n:Nat):zerosL (n*3) [.f (.int .i64 0), .f .nil, .f (.int .i64 0)]=cl eRo (List.replicate n none):=by
 induction n with
 |zero=>rfl
 |succ n ih=>
  have e:zerosL ((n+1)*3) [.f (.int .i64 0), .f .nil, .f (.int .i64 0)]=zerosL (n*3) [.f (.int .i64 0), .f .nil, .f (.int .i64 0)]++[.f (.int .i64 0), .f .nil, .f (.int .i64 0)]:=by
   simp only[zerosL,Nat.add_mul,List.range_add,List.map_append,List.length_cons,List.length_nil]
   congr 1
   simp only[List.range_succ,List.range_zero,List.nil_append,List.map_append,List.map_cons,List.map_nil,List.cons_append,List.map_map]
   simp[Nat.add_mod,Nat.mul_mod]
  rw[e,ih,List.replicate_succ',cl_append];rfl
theorem setRo{xs:List (Option Rul)}{e:Int}{v:Rul}(h:0≤e∧e<(xs.length:Int)):setRange (cl eRo xs) (0+e.toNat*3) (cR v)=cl eRo (xs.set e.toNat (some v)):=
 setRange_clI (E:=eRo) (v:=some v) rfl h
theorem zerosB(n:Nat):zerosL (n*2) [.f (.int .i64 0), .f (.int .i64 0)]=cl eB (List.replicate n ⟨0,0⟩):=by
 induction n with
 |zero=>rfl
 |succ n ih=>
  have e:zerosL ((n+1)*2) [.f (.int .i64 0), .f (.int .i64 0)]=zerosL (n*2) [.f (.int .i64 0), .f (.int .i64 0)]++[.f (.int .i64 0), .f (.int .i64 0)]:=by
   simp only[zerosL,Nat.add_mul,List.range_add,List.map_append,List.length_cons,List.length_nil]
   congr 1
   simp only[List.range_succ,List.range_zero,List.nil_append,List.map_append,List.map_cons,List.map_nil,List.cons_append,List.map_map]
   simp[Nat.add_mod,Nat.mul_mod]
  rw[e,ih,List.replicate_succ',cl_append];rfl
theorem setB{xs:List Brn}{e:Int}{v:Brn}(h:0≤e∧e<(xs.length:Int)):setRange (cl eB xs) (0+e.toNat*2) (cB v)=cl eB (xs.set e.toNat v):=
 setRange_clI (E:=eB) rfl h
attribute [go_sem] zerosRo setRo zerosB setB
def smRs(rs:List Rul):Prop:=rs.length≤2^40∧∀r∈rs,r.cells.length≤2^40
def smP(p:Puz):Prop:=p.given.length≤2^40∧smRs p.rules
theorem eqRule_run(r q:Rul)(hx:r.cells.length≤2^40):Reads Tryd.prog 10 [aR r,aR q] (bool (decide (r=q))):=by
 obtain⟨r1,r2,r3⟩:=r
 obtain⟨q1,q2,q3⟩:=q
 refine RunCall.cw (c:=_) Tryd.func10 rfl (n:=21) Tryd.ntmps10 (rs:=[.tmp 4]) rfl ?_
 simp only[List.length_cons,List.length_nil,zA,zS,List.replicate,List.cons_append,List.nil_append]
 simp(maxSteps:=999999)(disch:=omega)only[go_sem,zA,zM,zS,zE,zL]
 intro g1 g2
 ((first|(with_reducible first|refine condK_dec ?_ ?_|refine condK_ndec ?_ ?_|refine condK_nb ?_ ?_)|refine condK_b ?_ ?_)<;>intro h)
 · simp(maxSteps:=999999)(disch:=omega)only[go_sem,zA,zM,zS,zE,zL]
   first|refine OpS.rd (eqIntS_run _ _ hx) (⟨_,Tryd.func34,rfl,rfl⟩:Enters Tryd.prog 34) rfl rfl rfl rfl ?_|refine Loud.rd (eqIntS_run _ _ hx) (⟨_,Tryd.func34,rfl,rfl⟩:Enters Tryd.prog 34) rfl rfl rfl rfl ?_
   simp(maxSteps:=999999)(disch:=omega)only[go_sem,zA,zM,zS,zE,zL]
   ((first|(with_reducible first|refine condK_dec ?_ ?_|refine condK_ndec ?_ ?_|refine condK_nb ?_ ?_)|refine condK_b ?_ ?_)<;>intro h2)
   · simp(maxSteps:=999999)(disch:=omega)only[go_sem,zA,zM,zS,zE,zL]
     ((first|(with_reducible first|refine condK_dec ?_ ?_|refine condK_ndec ?_ ?_|refine condK_nb ?_ ?_)|refine condK_b ?_ ?_)<;>intro h3)
     · simp(maxSteps:=999999)(disch:=omega)only[go_sem,zA,zM,zS,zE,zL]
       simp[h,h2,h3]
     · simp(maxSteps:=999999)(disch:=omega)only[go_sem,zA,zM,zS,zE,zL]
       simp[h3]
   · simp(maxSteps:=999999)(disch:=omega)only[go_sem,zA,zM,zS,zE,zL]
     simp[h2]
 · simp(maxSteps:=999999)(disch:=omega)only[go_sem,zA,zM,zS,zE,zL]
   simp[h]
theorem eqRuleS_run(xs ys:List Rul)(hx:smRs xs):Reads Tryd.prog 41 [rsl eR xs,rsl eR ys] (bool (decide (xs=ys))):=by
 have hx1:=hx.1
 refine RunCall.cw (c:=_) Tryd.func41 rfl (n:=27) Tryd.ntmps41 (rs:=[.tmp 4]) rfl ?_
 simp only[List.length_cons,List.length_nil,zA,zS,List.replicate,List.cons_append,List.nil_append]
 simp(maxSteps:=999999)(disch:=omega)only[go_sem,zA,zM,zS,zE,zL]
 ((first|(with_reducible first|refine condK_dec ?_ ?_|refine condK_ndec ?_ ?_|refine condK_nb ?_ ?_)|refine condK_b ?_ ?_)<;>intro h)
 · have hl:xs.length=ys.length:=by omega
   simp(maxSteps:=999999)(disch:=omega)only[go_sem,zA,zM,zS,zE,zL]
   refine loop_rule (fun i:Nat=>xs.length -i) (fun i=>i≤xs.length∧∀j:Nat,j<i→nth xs j=nth ys j) (fun i=>[.k, .k, .a, .a, .a, .p (int i), .a, .a, .a, .a, .a, .a, .a, .a, .a, .a, .a, .a, .a, .a, .a, .a, .a, .a, .a, .a, .a]) (fun i=>[]) 0
    ⟨Nat.zero_le _,fun j hj=>absurd hj (Nat.not_lt_zero _)⟩ (by simp(maxSteps:=999999)(disch:=omega)only[go_sem,zA,zM,zS,zE,zL];rfl) (hle_nil _) ?_
   rintro i ⟨hi,hall⟩
   simp(maxSteps:=999999)(disch:=omega)only[go_sem,zA,zM,zS,zE,zL]
   ((first|(with_reducible first|refine condK_dec ?_ ?_|refine condK_ndec ?_ ?_|refine condK_nb ?_ ?_)|refine condK_b ?_ ?_)<;>intro h)
   · have h:i<xs.length:=by omega
     simp(maxSteps:=999999)(disch:=omega)only[go_sem,zA,zM,zS,zE,zL]
     refine drawP_q foll (by kernel_rfl) ?_
     simp(maxSteps:=999999)(disch:=omega)only[go_sem,Nat.reduceBEq,Bool.true_or,zA,zM,zS,zE,zL]
     refine quietW.rd (eqRule_run (nth xs i) (nth ys i) (hx.2 _ (nth_mem h))) (⟨_,Tryd.func10,rfl,rfl⟩:Enters Tryd.prog 10) rfl rfl rfl rfl ?_
     simp(maxSteps:=999999)(disch:=omega)only[go_sem,zA,zM,zS,zE,zL]
     ((first|(with_reducible first|refine condK_dec ?_ ?_|refine condK_ndec ?_ ?_|refine condK_nb ?_ ?_)|refine condK_b ?_ ?_)<;>intro h2)
     · simp(maxSteps:=999999)(disch:=omega)only[go_sem,zA,zM,zS,zE,zL]
       refine⟨i+1,⟨⟨by omega,fun j hj=> ?_⟩,by omega⟩,by omega,hle_nil _⟩
       rcases Nat.lt_succ_iff_lt_or_eq.1 hj with hj|rfl
       · exact hall j hj
       · exact h2
     · simp(maxSteps:=999999)(disch:=omega)only[go_sem,zA,zM,zS,zE,zL]
       symm;simp;intro h3;exact h2 (by rw[h3])
   simp(maxSteps:=999999)(disch:=omega)only[go_sem,zA,zM,zS,zE,zL]
   have:=ext_nth hl fun j hj=>hall j (by omega)
   simp[this]
 · simp(maxSteps:=999999)(disch:=omega)only[go_sem,zA,zM,zS,zE,zL]
   symm;simp;intro h3;exact h (by rw[h3])
theorem eqPuzzle_run(p q:Puz)(hx:smP p):Reads Tryd.prog 15 [aP p,aP q] (bool (decide (p=q))):=by
 obtain⟨p1,p2,p3⟩:=p
 obtain⟨q1,q2,q3⟩:=q
 refine RunCall.cw (c:=_) Tryd.func15 rfl (n:=22) Tryd.ntmps15 (rs:=[.tmp 4]) rfl ?_
 simp only[List.length_cons,List.length_nil,zA,zS,List.replicate,List.cons_append,List.nil_append]
 simp(maxSteps:=999999)(disch:=omega)only[go_sem,zA,zM,zS,zE,zL]
 intro g1 g2
 ((first|(with_reducible first|refine condK_dec ?_ ?_|refine condK_ndec ?_ ?_|refine condK_nb ?_ ?_)|refine condK_b ?_ ?_)<;>intro h)
 · simp(maxSteps:=999999)(disch:=omega)only[go_sem,zA,zM,zS,zE,zL]
   first|refine OpS.rd (eqIntS_run _ _ hx.1) (⟨_,Tryd.func34,rfl,rfl⟩:Enters Tryd.prog 34) rfl rfl rfl rfl ?_|refine Loud.rd (eqIntS_run _ _ hx.1) (⟨_,Tryd.func34,rfl,rfl⟩:Enters Tryd.prog 34) rfl rfl rfl rfl ?_
   simp(maxSteps:=999999)(disch:=omega)only[go_sem,zA,zM,zS,zE,zL]
   ((first|(with_reducible first|refine condK_dec ?_ ?_|refine condK_ndec ?_ ?_|refine condK_nb ?_ ?_)|refine condK_b ?_ ?_)<;>intro h2)
   · simp(maxSteps:=999999)(disch:=omega)only[go_sem,zA,zM,zS,zE,zL]
     first|refine OpS.rd (eqRuleS_run _ _ hx.2) (⟨_,Tryd.func41,rfl,rfl⟩:Enters Tryd.prog 41) rfl rfl rfl rfl ?_|refine Loud.rd (eqRuleS_run _ _ hx.2) (⟨_,Tryd.func41,rfl,rfl⟩:Enters Tryd.prog 41) rfl rfl rfl rfl ?_
     simp(maxSteps:=999999)(disch:=omega)only[go_sem,zA,zM,zS,zE,zL]
     ((first|(with_reducible first|refine condK_dec ?_ ?_|refine condK_ndec ?_ ?_|refine condK_nb ?_ ?_)|refine condK_b ?_ ?_)<;>intro h3)
     · simp(maxSteps:=999999)(disch:=omega)only[go_sem,zA,zM,zS,zE,zL]
       simp[h,h2,h3]
     · simp(maxSteps:=999999)(disch:=omega)only[go_sem,zA,zM,zS,zE,zL]
       simp[h3]
   · simp(maxSteps:=999999)(disch:=omega)only[go_sem,zA,zM,zS,zE,zL]
     simp[h2]
 · simp(maxSteps:=999999)(disch:=omega)only[go_sem,zA,zM,zS,zE,zL]
   simp[h]
end Go.Lg
