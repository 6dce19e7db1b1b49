/- GpWF, GpXV, cut to what is needed. -/
import Derived.Test.YtiahmfdabpafoaaDoorHac8
import Derived.Test.YtiahmfdabpafoaaDoorHac3
import Derived.Test.YtiahmfdabpafoaaDoorHac6
import Derived.Test.YtiahmfdabpafoaaDoorHab4
import Derived.Test.YtiahmfdabpafoaaDoorHac1
import Derived.Test.YtiahmfdabpafoaaDoorHab7
import Derived.Test.YtiahmfdabpafoaaDoorHab2
import Derived.LaidMore
open Nat renaming reduceAdd→zA,reduceMul→zM,reduceSub→zS,reduceEqDiff→zE,reduceLeDiff→zL
set_option linter.unusedSimpArgs false
set_option linter.unusedVariables false
set_option maxRecDepth 100000
namespace Go.Lg
open Go.Proofs
theorem readQ_rd{P:Program}{f:FuncId}{args:List AV}{r:Rul}{b:Bool}(h:RunCall P f args [] (readQ r b)):Reads P f args (.tup [aR r,bool b]):=
 Reads.ice h fun v H ⟨c,S,e,o⟩=>by
  subst e
  have h1:=o.frzC
  have e:∀x,frzC H (.f (.int .i64 x))=some (.f (.int .i64 x)):=fun x=>rfl
  have e2:∀x,frzC H (.f (.bool x))=some (.f (.bool x)):=fun x=>rfl
  simp only[frzA,List.mapM_cons,List.mapM_nil,frz1,h1,e,e2,Option.pure_def,Option.bind_eq_bind,Option.bind_some,Option.map_some]
theorem readR_len(s:List UInt8):(readR s).cells.length≤2^40:=by
 by_cases h:accR s
 · obtain⟨r,hv,rfl⟩:=(acc_iff s).1 h
   rw[(read_rule hv).1]
   have:=rule_cells hv
   omega
 · rw[(read_no h).1];decide
set_option maxHeartbeats 4000000 in
theorem law_FnReadRule(code:List Int)(hl:code.length≤9223372036854775807)(hw:∀x∈code,(Lit.int .u8 x).wf=true):Reads Tryd.prog 6 [rsl (eI .u8) code] (bool true):=by
 refine RunCall.cw (c:=_) Tryd.func6 rfl (n:=78) Tryd.ntmps6 (rs:=[.tmp 2]) rfl ?_
 simp only[List.length_cons,List.length_nil,zA,zS,List.replicate,List.cons_append,List.nil_append]
 simp(maxSteps:=999999)(disch:=omega)only[go_sem,zA,zM,zS,zE,zL]
 ((first|(with_reducible first|refine condK_dec ?_ ?_|refine condK_ndec ?_ ?_|refine condK_nb ?_ ?_)|refine condK_b ?_ ?_)<;>intro h1)
 · simp(maxSteps:=999999)(disch:=omega)only[go_sem,zA,zM,zS,zE,zL]
 simp(maxSteps:=999999)(disch:=omega)only[go_sem,zA,zM,zS,zE,zL]
 refine OpS.mkF (DrawReadRule_run code (wf_u8' hw) (by omega)) (⟨_,Tryd.func24,rfl,rfl⟩:Enters Tryd.prog 24) rfl rfl rfl ?_
 rintro _ ⟨t,rfl,ht⟩
 refine⟨rfl,rfl, ?_⟩
 have hrl:=readR_len t
 simp(maxSteps:=999999)(disch:=omega)only[go_sem,zA,zM,zS,zE,zL]
 first|refine OpS.mk (readQ_rd (ReadRule_run t (by omega))) (⟨_,Tryd.func9,rfl,rfl⟩:Enters Tryd.prog 9) rfl rfl rfl rfl rfl ?_|refine Loud.mk (readQ_rd (ReadRule_run t (by omega))) (⟨_,Tryd.func9,rfl,rfl⟩:Enters Tryd.prog 9) rfl rfl rfl rfl rfl ?_
 simp(maxSteps:=999999)(disch:=omega)only[go_sem,zA,zM,zS,zE,zL]
 intro g4
 first|refine OpS.mk (readQ_rd (sReadRule_run t (by omega))) (⟨_,Tryd.func8,rfl,rfl⟩:Enters Tryd.prog 8) rfl rfl rfl rfl rfl ?_|refine Loud.mk (readQ_rd (sReadRule_run t (by omega))) (⟨_,Tryd.func8,rfl,rfl⟩:Enters Tryd.prog 8) rfl rfl rfl rfl rfl ?_
 simp(maxSteps:=999999)(disch:=omega)only[go_sem,zA,zM,zS,zE,zL]
 intro g6
 first|refine OpS.rd (sameInts_run (readR t).cells (readR t).cells hrl) (⟨_,Tryd.func23,rfl,rfl⟩:Enters Tryd.prog 23) rfl rfl rfl rfl ?_|refine Loud.rd (sameInts_run (readR t).cells (readR t).cells hrl) (⟨_,Tryd.func23,rfl,rfl⟩:Enters Tryd.prog 23) rfl rfl rfl rfl ?_
 simp(maxSteps:=999999)(disch:=omega)only[go_sem,zA,zM,zS,zE,zL]
 by_cases ha:accR t
 rotate_left
 · obtain⟨e1,e2⟩:=read_no ha
   have z1:decide (zeroR.kind=0)=true:=rfl
   have z2:zeroR.cells=[]:=rfl
   have z3:decide (((0:Nat):Int)=0)=true:=rfl
   rw[e1,e2]
   simp(maxSteps:=999999)(disch:=omega)only[go_sem,zA,zM,zS,zE,zL,z1,z2,z3]
   first|refine OpS.rd (aliveF_run) (⟨_,Tryd.func22,rfl,rfl⟩:Enters Tryd.prog 22) rfl rfl rfl rfl ?_|refine Loud.rd (aliveF_run) (⟨_,Tryd.func22,rfl,rfl⟩:Enters Tryd.prog 22) rfl rfl rfl rfl ?_
   simp(maxSteps:=999999)(disch:=omega)only[go_sem,zA,zM,zS,zE,zL]
 · have hb:readRB t=true:=decide_eq_true ha
   obtain⟨_,_,hx⟩:=read_text hb
   have hm:=read_more (s:=t)
   have hd:decide (ruleT (readR t)=t)=true:=decide_eq_true hx
   rw[hb]
   simp(maxSteps:=999999)(disch:=omega)only[go_sem,zA,zM,zS,zE,zL]
   first|refine OpS.mk (readQ_rd (ReadRule_run (t++[32]) (by simp;omega))) (⟨_,Tryd.func9,rfl,rfl⟩:Enters Tryd.prog 9) rfl rfl rfl rfl rfl ?_|refine Loud.mk (readQ_rd (ReadRule_run (t++[32]) (by simp;omega))) (⟨_,Tryd.func9,rfl,rfl⟩:Enters Tryd.prog 9) rfl rfl rfl rfl rfl ?_
   simp(maxSteps:=999999)(disch:=omega)only[go_sem,zA,zM,zS,zE,zL]
   intro g8
   first|refine OpS.rd (RuleText_run (readR t) hrl) (⟨_,Tryd.func19,rfl,rfl⟩:Enters Tryd.prog 19) rfl rfl rfl rfl ?_|refine Loud.rd (RuleText_run (readR t) hrl) (⟨_,Tryd.func19,rfl,rfl⟩:Enters Tryd.prog 19) rfl rfl rfl rfl ?_
   simp(maxSteps:=999999)(disch:=omega)only[go_sem,zA,zM,zS,zE,zL]
   simp(maxSteps:=999999)(disch:=omega)only[go_sem,zA,zM,zS,zE,zL,hd,hm]
set_option maxHeartbeats 4000000 in
theorem law_FnRuleText(code:List Int)(hl:code.length≤9223372036854775807)(hw:∀x∈code,(Lit.int .u8 x).wf=true):Reads Tryd.prog 5 [rsl (eI .u8) code] (bool true):=by
 refine RunCall.cw (c:=_) Tryd.func5 rfl (n:=64) Tryd.ntmps5 (rs:=[.tmp 2]) rfl ?_
 simp only[List.length_cons,List.length_nil,zA,zS,List.replicate,List.cons_append,List.nil_append]
 simp(maxSteps:=999999)(disch:=omega)only[go_sem,zA,zM,zS,zE,zL]
 ((first|(with_reducible first|refine condK_dec ?_ ?_|refine condK_ndec ?_ ?_|refine condK_nb ?_ ?_)|refine condK_b ?_ ?_)<;>intro h1)
 · simp(maxSteps:=999999)(disch:=omega)only[go_sem,zA,zM,zS,zE,zL]
 simp(maxSteps:=999999)(disch:=omega)only[go_sem,zA,zM,zS,zE,zL]
 refine OpS.mkF (DrawRuleText_run code (wf_u8' hw) (by omega)) (⟨_,Tryd.func18,rfl,rfl⟩:Enters Tryd.prog 18) rfl rfl rfl ?_
 rintro _ ⟨r,rfl,hr⟩
 refine⟨rfl,rfl, ?_⟩
 simp(maxSteps:=999999)(disch:=omega)only[go_sem,zA,zM,zS,zE,zL]
 intro g3
 first|refine OpS.rd (RuleText_run r (by omega)) (⟨_,Tryd.func19,rfl,rfl⟩:Enters Tryd.prog 19) rfl rfl rfl rfl ?_|refine Loud.rd (RuleText_run r (by omega)) (⟨_,Tryd.func19,rfl,rfl⟩:Enters Tryd.prog 19) rfl rfl rfl rfl ?_
 simp(maxSteps:=999999)(disch:=omega)only[go_sem,zA,zM,zS,zE,zL]
 first|refine OpS.rd (sRuleText_run r (by omega)) (⟨_,Tryd.func20,rfl,rfl⟩:Enters Tryd.prog 20) rfl rfl rfl rfl ?_|refine Loud.rd (sRuleText_run r (by omega)) (⟨_,Tryd.func20,rfl,rfl⟩:Enters Tryd.prog 20) rfl rfl rfl rfl ?_
 simp(maxSteps:=999999)(disch:=omega)only[go_sem,zA,zM,zS,zE,zL]
 by_cases hv:ruleValid r 4=true
 rotate_left
 · have hv:ruleValid r 4=false:=by simpa using hv
   have e:ruleT r=[]:=by unfold ruleT;rw[if_neg (by rw[hv];simp)]
   have d:decide (ruleT r=[])=true:=decide_eq_true e
   simp(maxSteps:=999999)(disch:=omega)only[go_sem,zA,zM,zS,zE,zL,d]
   first|refine OpS.rd (RuleValid_run r 4 (by omega)) (⟨_,Tryd.func21,rfl,rfl⟩:Enters Tryd.prog 21) rfl rfl rfl rfl ?_|refine Loud.rd (RuleValid_run r 4 (by omega)) (⟨_,Tryd.func21,rfl,rfl⟩:Enters Tryd.prog 21) rfl rfl rfl rfl ?_
   simp(maxSteps:=999999)(disch:=omega)only[go_sem,zA,zM,zS,zE,zL]
   simp(maxSteps:=999999)(disch:=omega)only[go_sem,zA,zM,zS,zE,zL,hv]
   first|refine OpS.rd (aliveF_run) (⟨_,Tryd.func22,rfl,rfl⟩:Enters Tryd.prog 22) rfl rfl rfl rfl ?_|refine Loud.rd (aliveF_run) (⟨_,Tryd.func22,rfl,rfl⟩:Enters Tryd.prog 22) rfl rfl rfl rfl ?_
   simp(maxSteps:=999999)(disch:=omega)only[go_sem,zA,zM,zS,zE,zL]
 · have e:ruleT r=ruleS r:=by unfold ruleT;rw[if_pos hv]
   have hln:=ruleS_len hv
   have d:decide (ruleT r=[])=false:=decide_eq_false (fun h=>by rw[e]at h;rw[h]at hln;simp at hln)
   obtain⟨q1,q2⟩:=read_rule hv
   rw[←e]at q1 q2 hln
   have hbs:∀k:Nat,k<(ruleT r).length→decide (chr (ruleT r) k=32)=false:=fun k hk=>decide_eq_false fun h=>by
    have hm:(ruleT r)[k]∈ruleS r:=by rw[←e];exact List.getElem_mem _
    refine ruleS_bytes hv _ hm ?_
    have:chr (ruleT r) k=(((ruleT r)[k]).toNat:Int):=by simp[chr,List.getElem?_eq_getElem hk]
    rw[this]at h
    refine UInt8.toNat_inj.1 ?_
    show(ruleT r)[k].toNat=32
    omega
   simp(maxSteps:=999999)(disch:=omega)only[go_sem,zA,zM,zS,zE,zL,d]
   first|refine OpS.mk (readQ_rd (ReadRule_run (ruleT r) (by omega))) (⟨_,Tryd.func9,rfl,rfl⟩:Enters Tryd.prog 9) rfl rfl rfl rfl rfl ?_|refine Loud.mk (readQ_rd (ReadRule_run (ruleT r) (by omega))) (⟨_,Tryd.func9,rfl,rfl⟩:Enters Tryd.prog 9) rfl rfl rfl rfl rfl ?_
   simp(maxSteps:=999999)(disch:=omega)only[go_sem,zA,zM,zS,zE,zL]
   rw[q1,q2]
   intro g5
   refine loop_rule (fun k:Nat=>(ruleT r).length -k) (fun k=>k≤(ruleT r).length) (fun k=>[.a, .a, .a, .k, .k, .k, .k, .p (int k), .a, .a, .a, .a, .a, .a, .a, .a, .a, .a, .a, .a, .a, .a, .a, .a, .a, .a, .a, .a, .a, .a, .a, .a, .a, .a, .a, .a, .a, .a, .a, .a, .a, .a, .a, .a, .a, .a, .a, .a, .a, .a, .a, .a, .a, .a, .a, .a, .a, .a, .a, .a, .a, .a, .a, .a]) (fun _=>[some ⟨g3,3,cR r⟩,some ⟨g5,3,cR r⟩]) 0
    (Nat.zero_le _) (by simp(maxSteps:=999999)(disch:=omega)only[go_sem,zA,zM,zS,zE,zL];rfl) (HLe.refl _) ?_
   intro k hk
   simp(maxSteps:=999999)(disch:=omega)only[go_sem,zA,zM,zS,zE,zL]
   ((first|(with_reducible first|refine condK_dec ?_ ?_|refine condK_ndec ?_ ?_|refine condK_nb ?_ ?_)|refine condK_b ?_ ?_)<;>intro c1)
   · have hb:=hbs k (by omega)
     simp(maxSteps:=999999)(disch:=omega)only[go_sem,zA,zM,zS,zE,zL,hb]
     exact⟨k+1,⟨by omega,by omega⟩,by push_cast;rfl,HLe.refl _⟩
   simp(maxSteps:=999999)(disch:=omega)only[go_sem,zA,zM,zS,zE,zL]
   first|refine OpS.rd (sameInts_run r.cells r.cells (by omega)) (⟨_,Tryd.func23,rfl,rfl⟩:Enters Tryd.prog 23) rfl rfl rfl rfl ?_|refine Loud.rd (sameInts_run r.cells r.cells (by omega)) (⟨_,Tryd.func23,rfl,rfl⟩:Enters Tryd.prog 23) rfl rfl rfl rfl ?_
   simp(maxSteps:=999999)(disch:=omega)only[go_sem,zA,zM,zS,zE,zL]
section
variable{P:Program}{o:Oper}{st:St}{K:KV}{fo:Operand}{xs:Array Operand}{ts:Array TypeId}{f:FuncId}{args:List AV}{q:Rul}{b:Bool}
theorem OpS.mkRR(hc:RunCall P f args [] (readQ q b))(he:Enters P f)(ho:o.op= .call ⟨.value fo,xs,ts⟩)(ha:callArgs st fo xs=some (f,args))(hf:args.all frozenA=true)
 (hk:∀c HN S,(∀i,i<st.h.length→HN[i]? =st.h[i]?)→st.h.length≤HN.length→OwnI HN c q.cells S→(∀i∈S,st.h.length≤i∧i<HN.length)→K (.tup [.agg [.f (.int .i64 q.kind),c, .f (.int .i64 q.val)],bool b]) HN):OpS P o st K:=
 OpS.mkQ hc he ho ha hf fun r H' ⟨c,S,h1,h2⟩=>by
  subst h1
  exact⟨rfl,hk _ _ _ (fun i hi=>List.getElem?_append_left hi) (by simp) h2.shift fun i hi=>by
   have:=shift_ge h2.lt i hi
   rw[List.length_append,shiftH_length]
   exact this⟩
end
theorem snapRul{H:Heap}{c:CV}{a v:Int}{zs:List Int}{S:List Nat}(h:OwnI H c zs S):snapD H (.agg [.f (.int .i64 a),c, .f (.int .i64 v)])=some (aR ⟨a,zs,v⟩):=by
 simp only[snapD,List.mapM_cons,List.mapM_nil,h.frzC,show∀(H:Heap) n,frzC H (.f (.int .i64 n))=some (.f (.int .i64 n))from fun _ _=>rfl,Option.pure_def,Option.bind_eq_bind,Option.bind_some,Option.map_some]
theorem markRule_deep(H:Heap)(c:CV)(a v:Int)(xs:List Int)(S:List Nat)(k:Int)(h:OwnI H c xs S)(hk:0≤k∧k≤2^50)(hx:xs.length≤2^40):
 RunCall Tryd.prog 11 [.agg [.f (.int .i64 a),c, .f (.int .i64 v)],int k] H (fun r H'=>r=int (k+xs.length)∧OwnI H' c (marks k xs.length) S∧H.length≤H'.length∧∀j,j<H.length→j∉S→H'[j]? =H[j]?):=by
 refine RunCall.cw (c:=_) Tryd.func11 rfl (n:=10) Tryd.ntmps11 (rs:=[.tmp 4]) rfl ?_
 simp only[List.length_cons,List.length_nil,zA,zS,List.replicate,List.cons_append,List.nil_append]
 simp(maxSteps:=999999)(disch:=omega)only[go_sem,zA,zM,zS,zE,zL]
 intro g
 have hlt:=h.lt
 have h':OwnI (H++[some ⟨g,1,[.f (.int .i64 a),c, .f (.int .i64 v)]⟩]) c xs S:=h.same fun i hi=>List.getElem?_append_left (hlt i hi)
 simp(maxSteps:=999999)(disch:=omega)only[go_sem,zA,zM,zS,zE,zL,look_last]
 refine OpS.run (markIntS_deep _ c xs S k h' hk hx) (⟨_,Tryd.func35,rfl,rfl⟩:Enters Tryd.prog 35) rfl rfl ?_
 rintro _ H2 ⟨rfl,o2,f2⟩
 simp(maxSteps:=999999)(disch:=omega)only[go_sem,zA,zM,zS,zE,zL]
 refine⟨H2,HLe.refl _,rfl,o2,by rw[f2.1];simp,fun j hj hS=> ?_⟩
 rw[f2.2 j hS,List.getElem?_append_left hj]
theorem heldRule_run(a v:Int)(n:Nat)(k:Int)(hk:0≤k∧k≤2^50)(hx:n≤2^40):Reads Tryd.prog 12 [aR ⟨a,marks k n,v⟩,int k] (int (k+n)):=by
 refine RunCall.cw (c:=_) Tryd.func12 rfl (n:=12) Tryd.ntmps12 (rs:=[.tmp 4]) rfl ?_
 simp only[List.length_cons,List.length_nil,zA,zS,List.replicate,List.cons_append,List.nil_append]
 simp(maxSteps:=999999)(disch:=omega)only[go_sem,zA,zM,zS,zE,zL]
 intro g
 first|refine OpS.rd (heldIntS_run n k hk hx) (⟨_,Tryd.func36,rfl,rfl⟩:Enters Tryd.prog 36) rfl rfl rfl rfl ?_|refine Loud.rd (heldIntS_run n k hk hx) (⟨_,Tryd.func36,rfl,rfl⟩:Enters Tryd.prog 36) rfl rfl rfl rfl ?_
 simp(maxSteps:=999999)(disch:=omega)only[go_sem,zA,zM,zS,zE,zL]
 ((first|(with_reducible first|refine condK_dec ?_ ?_|refine condK_ndec ?_ ?_|refine condK_nb ?_ ?_)|refine condK_b ?_ ?_)<;>intro c1)
 · exfalso;omega
 simp(maxSteps:=999999)(disch:=omega)only[go_sem,zA,zM,zS,zE,zL]
set_option maxHeartbeats 4000000 in
theorem law_FnExactReadRule(s:List UInt8)(hs:s.length≤9223372036854775807):Reads Tryd.prog 3 [txt s] (bool true):=by
 refine RunCall.cw (c:=_) Tryd.func3 rfl (n:=66) Tryd.ntmps3 (rs:=[.tmp 2]) rfl ?_
 simp only[List.length_cons,List.length_nil,zA,zS,List.replicate,List.cons_append,List.nil_append]
 simp(maxSteps:=999999)(disch:=omega)only[go_sem,zA,zM,zS,zE,zL]
 ((first|(with_reducible first|refine condK_dec ?_ ?_|refine condK_ndec ?_ ?_|refine condK_nb ?_ ?_)|refine condK_b ?_ ?_)<;>intro h1)
 · simp(maxSteps:=999999)(disch:=omega)only[go_sem,zA,zM,zS,zE,zL]
 simp(maxSteps:=999999)(disch:=omega)only[go_sem,zA,zM,zS,zE,zL]
 first|refine OpS.mk (readQ_rd (sReadRule_run s (by omega))) (⟨_,Tryd.func8,rfl,rfl⟩:Enters Tryd.prog 8) rfl rfl rfl rfl rfl ?_|refine Loud.mk (readQ_rd (sReadRule_run s (by omega))) (⟨_,Tryd.func8,rfl,rfl⟩:Enters Tryd.prog 8) rfl rfl rfl rfl rfl ?_
 simp(maxSteps:=999999)(disch:=omega)only[go_sem,zA,zM,zS,zE,zL]
 intro g3
 have hrl:=readR_len s
 refine OpS.mkRR (ReadRule_run s (by omega)) (⟨_,Tryd.func9,rfl,rfl⟩:Enters Tryd.prog 9) rfl rfl rfl ?_
 intro c HA S hA hAl o1 hS
 have l3:look HA 0 g3=some ⟨g3,3,cR (readR s)⟩:=by
  unfold look
  rw[hA 0 (by simp)]
  simp
 simp(maxSteps:=999999)(disch:=omega)only[go_sem,zA,zM,zS,zE,zL,look_last,set_last]
 intro g5
 obtain⟨HB,hHB⟩:∃HB:Heap,HB=HA++[some ⟨g5,3,[.f (.int .i64 (readR s).kind),c, .f (.int .i64 (readR s).val)]⟩]:=⟨_,rfl⟩
 have hBl:HB.length=HA.length+1:=by rw[hHB];simp
 have oB:OwnI HB c (readR s).cells S:=o1.same fun i hi=>by rw[hHB,List.getElem?_append_left (hS i hi).2]
 have m3:look HB 0 g3=some ⟨g3,3,cR (readR s)⟩:=by rw[hHB];exact look_appL l3
 have m5:look HB HA.length g5=some ⟨g5,3,[.f (.int .i64 (readR s).kind),c, .f (.int .i64 (readR s).val)]⟩:=by rw[hHB];exact look_last
 rw[←hHB]
 clear hHB
 simp(maxSteps:=999999)(disch:=omega)only[go_sem,zA,zM,zS,zE,zL,m3,m5]
 refine OpS.rdD (eqRule_run (readR s) (readR s) hrl) (⟨_,Tryd.func10,rfl,rfl⟩:Enters Tryd.prog 10) rfl rfl (snap_two (snapRul oB) snapD_aR) rfl ?_
 simp(maxSteps:=999999)(disch:=omega)only[go_sem,zA,zM,zS,zE,zL,m3,m5]
 refine OpS.run (markRule_deep HB c _ _ _ S 1 oB (by omega) hrl) (⟨_,Tryd.func11,rfl,rfl⟩:Enters Tryd.prog 11) rfl rfl ?_
 rintro _ HC ⟨rfl,oC,hCl,hC⟩
 have hS0:0∉S:=fun h=>by have:=(hS 0 h).1;simp at this
 have hS5:HA.length∉S:=fun h=>by have:=(hS _ h).2;omega
 have n3:look HC 0 g3=some ⟨g3,3,cR (readR s)⟩:=by
  unfold look at m3⊢
  rw[hC 0 (by omega) hS0];exact m3
 have n5:look HC HA.length g5=some ⟨g5,3,[.f (.int .i64 (readR s).kind),c, .f (.int .i64 (readR s).val)]⟩:=by
  unfold look at m5⊢
  rw[hC _ (by omega) hS5];exact m5
 simp(maxSteps:=999999)(disch:=omega)only[go_sem,zA,zM,zS,zE,zL,n5]
 refine OpS.rdD (heldRule_run (readR s).kind (readR s).val (readR s).cells.length 1 (by omega) hrl) (⟨_,Tryd.func12,rfl,rfl⟩:Enters Tryd.prog 12) rfl rfl (snap_two (snapRul oC) snapD_int) rfl ?_
 simp(maxSteps:=999999)(disch:=omega)only[go_sem,zA,zM,zS,zE,zL]
 ((first|(with_reducible first|refine condK_dec ?_ ?_|refine condK_ndec ?_ ?_|refine condK_nb ?_ ?_)|refine condK_b ?_ ?_)<;>intro c1)
 · exfalso;omega
 simp(maxSteps:=999999)(disch:=omega)only[go_sem,zA,zM,zS,zE,zL]
 first|refine OpS.mk (readQ_rd (ReadRule_run s (by omega))) (⟨_,Tryd.func9,rfl,rfl⟩:Enters Tryd.prog 9) rfl rfl rfl rfl rfl ?_|refine Loud.mk (readQ_rd (ReadRule_run s (by omega))) (⟨_,Tryd.func9,rfl,rfl⟩:Enters Tryd.prog 9) rfl rfl rfl rfl rfl ?_
 simp(maxSteps:=999999)(disch:=omega)only[go_sem,zA,zM,zS,zE,zL]
 intro g9
 have p3:∀b,look (HC++[b]) 0 g3=some ⟨g3,3,cR (readR s)⟩:=fun b=>look_appL n3
 have p5:∀b,look (HC++[b]) HA.length g5=some ⟨g5,3,[.f (.int .i64 (readR s).kind),c, .f (.int .i64 (readR s).val)]⟩:=fun b=>look_appL n5
 have oD:∀b,OwnI (HC++[b]) c (marks 1 (readR s).cells.length) S:=fun b=>oC.same fun i hi=>List.getElem?_append_left (oC.lt i hi)
 simp(maxSteps:=999999)(disch:=omega)only[go_sem,zA,zM,zS,zE,zL,look_last,set_last,p3]
 first|refine OpS.rd (eqRule_run (readR s) (readR s) hrl) (⟨_,Tryd.func10,rfl,rfl⟩:Enters Tryd.prog 10) rfl rfl rfl rfl ?_|refine Loud.rd (eqRule_run (readR s) (readR s) hrl) (⟨_,Tryd.func10,rfl,rfl⟩:Enters Tryd.prog 10) rfl rfl rfl rfl ?_
 simp(maxSteps:=999999)(disch:=omega)only[go_sem,zA,zM,zS,zE,zL]
 simp(maxSteps:=999999)(disch:=omega)only[go_sem,zA,zM,zS,zE,zL,p5]
 refine OpS.rdD (heldRule_run (readR s).kind (readR s).val (readR s).cells.length 1 (by omega) hrl) (⟨_,Tryd.func12,rfl,rfl⟩:Enters Tryd.prog 12) rfl rfl (snap_two (snapRul (oD _)) snapD_int) rfl ?_
 simp(maxSteps:=999999)(disch:=omega)only[go_sem,zA,zM,zS,zE,zL]
 ((first|(with_reducible first|refine condK_dec ?_ ?_|refine condK_ndec ?_ ?_|refine condK_nb ?_ ?_)|refine condK_b ?_ ?_)<;>intro c2)
 · exfalso;omega
 simp(maxSteps:=999999)(disch:=omega)only[go_sem,zA,zM,zS,zE,zL]
end Go.Lg

namespace Go.Lg
open Go
theorem iface_of_tab{P:Program}{w:World}{base:Nat}{sp:Nat→Bool}{fuel:Nat}{t:TypeId}{ms}{cs:List Value}{nm:String}{d:DataW Unit}{p:List MemPlace}
 (ht:P.underlying t=some (.interface ms)) (h:DataW.trod (fun _=>()) P w base sp false fuel t cs=some (.iface nm d,p)):∃u v,cs=[.iface u v]:=by
 cases fuel with
 |zero=>simp[DataW.trod]at h
 |succ fuel=>
  unfold DataW.trod at h
  rw[ht]at h
  split at h
  all_goals first|exact⟨_,_,rfl⟩|(rename_i h0;cases h0;done)|(rename_i h0 _;cases h0;done)|(simp at h;done)|skip
end Go.Lg
