/- GpWI, GpXV, cut to what is needed. -/
import Derived.Test.YtiahmfdabpafoaaDoorIac8
import Derived.Test.YtiahmfdabpafoaaDoorIab2
import Derived.LaidMore
open Nat renaming reduceAdd→zA,reduceMul→zM,reduceSub→zS,reduceEqDiff→zE,reduceLeDiff→zL
set_option linter.unusedSimpArgs false
set_option linter.unusedVariables false
set_option maxRecDepth 100000
namespace Go.Lg
open Go.Proofs
section
variable{P:Program}{o:Oper}{st:St}{K:KV}{fo:Operand}{xs:Array Operand}{ts:Array TypeId}{f:FuncId}{args:List AV}{q:Puz}{b:Bool}
theorem OpS.mkRP(hc:RunCall P f args [] (readPQ q b))(he:Enters P f)(ho:o.op= .call ⟨.value fo,xs,ts⟩)(ha:callArgs st fo xs=some (f,args))(hf:args.all frozenA=true)
 (hk:∀cs HN S,(∀i,i<st.h.length→HN[i]? =st.h[i]?)→st.h.length≤HN.length→OwnP HN cs q S→(∀i∈S,st.h.length≤i∧i<HN.length)→cs.length=3→K (.tup [.agg cs,bool b]) HN):OpS P o st K:=
 OpS.mkQ hc he ho ha hf fun r H' ⟨cs,S,h1,h2⟩=>by
  subst h1
  refine⟨rfl,hk _ _ _ (fun i hi=>List.getElem?_append_left hi) (by simp) h2.shift (fun i hi=> ?_) ?_⟩
  · have:=shift_ge h2.lt i hi
    rw[List.length_append,shiftH_length]
    exact this
  · obtain⟨_,_,_,_,e,_⟩:=h2.ex
    rw[e];rfl
end
theorem readPQ_rd{P:Program}{f:FuncId}{args:List AV}{p:Puz}{b:Bool}(h:RunCall P f args [] (readPQ p b)):Reads P f args (.tup [aP p,bool b]):=
 Reads.ice h fun v H ⟨cs,S,e,o⟩=>by
  subst e
  obtain⟨c1,c2,S1,S2,rfl,_,h1,h2⟩:=o.ex
  have e:∀x,frzC H (.f (.int .i64 x))=some (.f (.int .i64 x)):=fun x=>rfl
  have e2:∀x,frzC H (.f (.bool x))=some (.f (.bool x)):=fun x=>rfl
  simp only[frzA,List.mapM_cons,List.mapM_nil,frz1,h1.frzC,h2.frzC,e,e2,Option.pure_def,Option.bind_eq_bind,Option.bind_some,Option.map_some]
theorem wM_six:∀(rs:List Rul),(∀r∈rs,r.cells.length≤4)→wM rs≤6*rs.length
 |[],_=>by simp[wM]
 |r::rs,h=>by
  have h1:=h r (by simp)
  have h2:=wM_six rs fun x hx=>h x (by simp[hx])
  unfold wM at h2⊢
  simp only[List.map_cons,List.sum_cons,List.length_cons]
  omega
theorem readP_sm(s:List UInt8):smP (readP s)∧wMP (readP s)≤2^20:=by
 by_cases ha:accP s
 · obtain⟨hv,_⟩:=readP_yes (decide_eq_true ha:readPB s=true)
   obtain⟨_,h2,h3⟩:=puz_parts hv
   have h1:=puz_given hv
   have h4:∀r∈(readP s).rules,r.cells.length≤4:=fun r hr=>(rule_cells (h3 r hr)).2
   have h5:=wM_six _ h4
   refine⟨⟨by omega,by omega,fun r hr=>by have:=h4 r hr;omega⟩, ?_⟩
   unfold wMP
   omega
 · rw[(readP_no ha).1]
   exact⟨⟨by decide,by decide,fun r hr=>by cases hr⟩,by decide⟩
set_option maxHeartbeats 4000000 in
theorem law_FnExactReadPuzzle(s:List UInt8)(hs:s.length≤9223372036854775807):Reads Tryd.prog 4 [txt s] (bool true):=by
 refine RunCall.cw (c:=_) Tryd.func4 rfl (n:=66) Tryd.ntmps4 (rs:=[.tmp 2]) rfl ?_
 simp only[List.length_cons,List.length_nil,zA,zS,List.replicate,List.cons_append,List.nil_append]
 simp(maxSteps:=999999)(disch:=omega)only[go_sem,zA,zM,zS,zE,zL]
 ((first|(with_reducible first|refine condK_dec ?_ ?_|refine condK_ndec ?_ ?_|refine condK_nb ?_ ?_)|refine condK_b ?_ ?_)<;>intro h1)
 · simp(maxSteps:=999999)(disch:=omega)only[go_sem,zA,zM,zS,zE,zL]
 simp(maxSteps:=999999)(disch:=omega)only[go_sem,zA,zM,zS,zE,zL]
 obtain⟨hsm,hw1⟩:=readP_sm s
 first|refine OpS.mk (sReadPuzzle_run s (by omega)) (⟨_,Tryd.func13,rfl,rfl⟩:Enters Tryd.prog 13) rfl rfl rfl rfl rfl ?_|refine Loud.mk (sReadPuzzle_run s (by omega)) (⟨_,Tryd.func13,rfl,rfl⟩:Enters Tryd.prog 13) rfl rfl rfl rfl rfl ?_
 simp(maxSteps:=999999)(disch:=omega)only[go_sem,zA,zM,zS,zE,zL]
 intro g3
 refine OpS.mkRP (ReadPuzzle_run s (by omega)) (⟨_,Tryd.func14,rfl,rfl⟩:Enters Tryd.prog 14) rfl rfl rfl ?_
 intro cs HA S hA hAl o1 hS hcl
 match cs,hcl with
 |[x1,x2,x3],_=>
 have l3:look HA 0 g3=some ⟨g3,3,cP (readP s)⟩:=by
  unfold look
  rw[hA 0 (by simp)]
  simp
 simp(maxSteps:=999999)(disch:=omega)only[go_sem,zA,zM,zS,zE,zL,look_last,set_last]
 intro g5
 obtain⟨HB,hHB⟩:∃HB:Heap,HB=HA++[some ⟨g5,3,[x1,x2,x3]⟩]:=⟨_,rfl⟩
 have hBl:HB.length=HA.length+1:=by rw[hHB];simp
 have oB:OwnP HB [x1,x2,x3] (readP s) S:=o1.same fun i hi=>by rw[hHB,List.getElem?_append_left (hS i hi).2]
 have m3:look HB 0 g3=some ⟨g3,3,cP (readP s)⟩:=by rw[hHB];exact look_appL l3
 have m5:look HB HA.length g5=some ⟨g5,3,[x1,x2,x3]⟩:=by rw[hHB];exact look_last
 rw[←hHB]
 clear hHB
 simp(maxSteps:=999999)(disch:=omega)only[go_sem,zA,zM,zS,zE,zL,m3,m5]
 refine OpS.rdD (eqPuzzle_run (readP s) (readP s) hsm) (⟨_,Tryd.func15,rfl,rfl⟩:Enters Tryd.prog 15) rfl rfl (snap_two oB.snap snapD_aP) rfl ?_
 simp(maxSteps:=999999)(disch:=omega)only[go_sem,zA,zM,zS,zE,zL,m3,m5]
 refine OpS.run (markPuzzle_deep HB [x1,x2,x3] (readP s) S 1 oB (by omega) hsm) (⟨_,Tryd.func16,rfl,rfl⟩:Enters Tryd.prog 16) rfl rfl ?_
 rintro _ HC ⟨rfl,oC,hF⟩
 have hS0:0∉S:=fun h=>by have:=(hS 0 h).1;simp at this
 have hS5:HA.length∉S:=fun h=>by have:=(hS _ h).2;omega
 have n3:look HC 0 g3=some ⟨g3,3,cP (readP s)⟩:=by rw[hF.look hS0];exact m3
 have n5:look HC HA.length g5=some ⟨g5,3,[x1,x2,x3]⟩:=by rw[hF.look hS5];exact m5
 simp(maxSteps:=999999)(disch:=omega)only[go_sem,zA,zM,zS,zE,zL,n5]
 refine OpS.rdD (heldPuzzle_run (readP s) 1 (by omega) hsm) (⟨_,Tryd.func17,rfl,rfl⟩:Enters Tryd.prog 17) rfl rfl (snap_two oC.snap snapD_int) rfl ?_
 simp(maxSteps:=999999)(disch:=omega)only[go_sem,zA,zM,zS,zE,zL]
 ((first|(with_reducible first|refine condK_dec ?_ ?_|refine condK_ndec ?_ ?_|refine condK_nb ?_ ?_)|refine condK_b ?_ ?_)<;>intro c1)
 · exfalso;omega
 simp(maxSteps:=999999)(disch:=omega)only[go_sem,zA,zM,zS,zE,zL]
 first|refine OpS.mk (readPQ_rd (ReadPuzzle_run s (by omega))) (⟨_,Tryd.func14,rfl,rfl⟩:Enters Tryd.prog 14) rfl rfl rfl rfl rfl ?_|refine Loud.mk (readPQ_rd (ReadPuzzle_run s (by omega))) (⟨_,Tryd.func14,rfl,rfl⟩:Enters Tryd.prog 14) rfl rfl rfl rfl rfl ?_
 simp(maxSteps:=999999)(disch:=omega)only[go_sem,zA,zM,zS,zE,zL]
 intro g9
 have p3:∀b,look (HC++[b]) 0 g3=some ⟨g3,3,cP (readP s)⟩:=fun b=>look_appL n3
 have p5:∀b,look (HC++[b]) HA.length g5=some ⟨g5,3,[x1,x2,x3]⟩:=fun b=>look_appL n5
 have oD:∀b,OwnP (HC++[b]) [x1,x2,x3] (mrkP 1 (readP s)) S:=fun b=>oC.same fun i hi=>List.getElem?_append_left (oC.lt i hi)
 simp(maxSteps:=999999)(disch:=omega)only[go_sem,zA,zM,zS,zE,zL,look_last,set_last,p3]
 first|refine OpS.rd (eqPuzzle_run (readP s) (readP s) hsm) (⟨_,Tryd.func15,rfl,rfl⟩:Enters Tryd.prog 15) rfl rfl rfl rfl ?_|refine Loud.rd (eqPuzzle_run (readP s) (readP s) hsm) (⟨_,Tryd.func15,rfl,rfl⟩:Enters Tryd.prog 15) rfl rfl rfl rfl ?_
 simp(maxSteps:=999999)(disch:=omega)only[go_sem,zA,zM,zS,zE,zL]
 simp(maxSteps:=999999)(disch:=omega)only[go_sem,zA,zM,zS,zE,zL,p5]
 refine OpS.rdD (heldPuzzle_run (readP s) 1 (by omega) hsm) (⟨_,Tryd.func17,rfl,rfl⟩:Enters Tryd.prog 17) rfl rfl (snap_two (oD _).snap snapD_int) rfl ?_
 simp(maxSteps:=999999)(disch:=omega)only[go_sem,zA,zM,zS,zE,zL]
 ((first|(with_reducible first|refine condK_dec ?_ ?_|refine condK_ndec ?_ ?_|refine condK_nb ?_ ?_)|refine condK_b ?_ ?_)<;>intro c2)
 · exfalso;omega
 simp(maxSteps:=999999)(disch:=omega)only[go_sem,zA,zM,zS,zE,zL]
end Go.Lg

namespace Go.Lg
open Go
theorem iface_of_tab{P:Program}{w:World}{base:Nat}{sp:Nat→Bool}{fuel:Nat}{t:TypeId}{ms}{cs:List Value}{nm:String}{d:DataW Unit}{p:List MemPlace}
 (ht:P.underlying t=some (.interface ms)) (h:DataW.trod (fun _=>()) P w base sp false fuel t cs=some (.iface nm d,p)):∃u v,cs=[.iface u v]:=by
 cases fuel with
 |zero=>simp[DataW.trod]at h
 |succ fuel=>
  unfold DataW.trod at h
  rw[ht]at h
  split at h
  all_goals first|exact⟨_,_,rfl⟩|(rename_i h0;cases h0;done)|(rename_i h0 _;cases h0;done)|(simp at h;done)|skip
end Go.Lg
