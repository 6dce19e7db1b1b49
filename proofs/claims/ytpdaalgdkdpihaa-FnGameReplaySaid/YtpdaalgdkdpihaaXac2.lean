/- GpBA, LgY, GpBB, cut to what is needed. -/
import Derived.Test.YtpdaalgdkdpihaaXab9
import Derived.Test.YtpdaalgdkdpihaaXac1
import Derived.Test.YtpdaalgdkdpihaaXab3
open Nat renaming reduceAdd→zA,reduceMul→zM,reduceSub→zS,reduceEqDiff→zE,reduceLeDiff→zL
set_option linter.unusedSimpArgs false
set_option linter.unusedVariables false
set_option maxRecDepth 100000
namespace Go.Lg
open Go.Proofs
attribute [-go_sem] lwF_cons appendM
def copyQ(q:Gam):KV:=fun v H=>∃c3 c4 S3 S4,v= .agg [.f (.int .i64 q.task.size), .f (fints q.task.given), .f (fsl eR q.task.rules),c3,c4]∧OwnE H c3 q.put S3∧OwnE H c4 q.moves S4∧∀k∈S3,k∉S4
theorem l25Copy_own(q:Gam)(hx:smG q):RunCall Try.prog 60 [aG q] [] (copyQ q):=by
 refine RunCall.cw (c:=_) Try.func60 rfl (n:=15) Try.ntmps60 (rs:=[.cell 2 34]) rfl ?_
 simp only[List.length_cons,List.length_nil,zA,zS,List.replicate,List.cons_append,List.nil_append]
 simp(maxSteps:=999999)(disch:=omega)only[go_sem,zA,zM,zS,zE,zL]
 intro g1 g2
 refine drawP_lF [0,1,3,4,5,7,8,9,2,6] [3,7,2] none [10,11,12] [] foll (by kernel_rfl) ?_
 rw[lwF_cons]
 simp(maxSteps:=999999)(disch:=omega)only[go_sem,zA,zM,zS,zE,zL]
 rw[lwF_cons]
 simp(maxSteps:=999999)(disch:=omega)only[go_sem,zA,zM,zS,zE,zL]
 rw[lwF_cons]
 simp(maxSteps:=999999)(disch:=omega)only[go_sem,zA,zM,zS,zE,zL]
 rw[lwF_cons]
 simp(maxSteps:=999999)(disch:=omega)only[go_sem,zA,zM,zS,zE,zL]
 rw[lwF_cons]
 simp(maxSteps:=999999)(disch:=omega)only[go_sem,zA,zM,zS,zE,zL]
 rw[lwF_cons]
 simp(maxSteps:=999999)(disch:=omega)only[go_sem,zA,zM,zS,zE,zL]
 rw[lwF_cons]
 simp(maxSteps:=999999)(disch:=omega)only[go_sem,zA,zM,zS,zE,zL]
 rw[lwF_cons]
 simp(maxSteps:=999999)(disch:=omega)only[go_sem,zA,zM,zS,zE,zL]
 rw[lwF_cons]
 simp(maxSteps:=999999)(disch:=omega)only[go_sem,zA,zM,zS,zE,zL]
 refine softW_call (l1OwnPuzzle_run q.task hx.1) (⟨_,Try.func53,rfl,rfl⟩:Enters Try.prog 53) rfl rfl (by
  intro x hm
  simp only[Call.operands,List.mem_toArray,Array.mem_append,List.mem_cons,List.not_mem_nil,or_false]at hm
  rcases hm with rfl|rfl<;>rfl) rfl ⟨rfl,rfl,rfl,rfl⟩ ?_
 simp(maxSteps:=999999)(disch:=omega)only[go_sem,zA,zM,zS,zE,zL]
 rw[lwF_cons]
 simp(maxSteps:=999999)(disch:=omega)only[go_sem,zA,zM,zS,zE,zL]
 refine appendM_emp (sliceOf_of ti22 rfl ti3) ⟨rfl,rfl,rfl⟩ hx.2.1 ?_
 intro c3 H3 S3 k3 hS3
 simp(maxSteps:=999999)(disch:=omega)only[go_sem,zA,zM,zS,zE,zL]
 refine appendM_emp (sliceOf_of ti22 rfl ti3) ⟨rfl,rfl,rfl⟩ hx.2.2 ?_
 intro c4 H4 S4 k4 hS4
 simp(maxSteps:=999999)(disch:=omega)only[go_sem,zA,zM,zS,zE,zL]
 simp only[List.length_cons,List.length_append,List.length_nil]at hS3 hS4
 refine⟨_,HLe.refl _,c3,c4,S3,S4,rfl,k3.same fun k hk=> ?_,k4.same fun k hk=> ?_,fun k hk hm=> ?_⟩
 · have:=hS3 k hk
   simp only[List.cons_append,List.nil_append]
   rw[cons2 (by omega),cons2 (by omega),List.getElem?_append_left (by omega)]
 · have:=hS4 k hk
   simp only[List.cons_append,List.nil_append]
   rw[cons2 (by omega),cons2 (by omega)]
 · have:=hS3 k hk
   have:=hS4 k hm
   omega
end Go.Lg

namespace Go.Lg
def maskOf(W:List Nat)(o:Oper):Nat:=o.after.toList.foldl (fun m e=>if Region.binds .any e=true then m|||2^e.on|||W.getD e.on 0 else m) 0
def fixB(ops:Array Oper)(W:List Nat):Bool:=(List.range ops.size).all fun i=>match ops[i]? with|some o=>W.getD i 0==maskOf W o|none=>true
theorem maskOf_bit(W:List Nat)(j:Nat):∀(l:List Edge) (m:Nat),(l.foldl (fun m e=>if Region.binds .any e=true then m|||2^e.on|||W.getD e.on 0 else m) m).testBit j=
 (m.testBit j||l.any fun e=>Region.binds .any e&&(e.on==j||(W.getD e.on 0).testBit j))
 |[],m=>by simp
 |e::l,m=>by
  rw[List.foldl_cons,maskOf_bit W j l]
  simp only[List.any_cons]
  by_cases hb:Region.binds .any e=true
  · simp only[hb,if_true,Bool.true_and,Nat.testBit_or,Nat.testBit_two_pow]
    have:decide (e.on=j)=(e.on==j):=by by_cases h:e.on=j<;>simp[h]
    rw[this]
    cases m.testBit j<;>cases(e.on==j)<;>cases(W.getD e.on 0).testBit j<;>simp
  · simp only[hb,Bool.false_and,Bool.false_or]
    simp
theorem waits_mask{ops:Array Oper}{W:List Nat}(hf:fixB ops W=true)(hb:∀i o,ops[i]? =some o→∀e∈o.after,Region.binds .any e=true→e.on<i):∀(f i j:Nat),i<f→i<ops.size→waitsB ops f i j=(W.getD i 0).testBit j
 |0,_,_,h,_=>by omega
 |f+1,i,j,h,hi=>by
  have ho:ops[i]? =some ops[i]:=Array.getElem?_eq_getElem hi
  have hw:W.getD i 0=maskOf W ops[i]:=by
   have:=List.all_eq_true.1 hf i (List.mem_range.2 hi)
   simp only[ho]at this
   simpa using this
  rw[hw,maskOf,maskOf_bit]
  simp only[waitsB,ho,Nat.zero_testBit,Bool.false_or]
  have e1:∀e∈ops[i].after,Region.binds .any e=true→waitsB ops f e.on j=(W.getD e.on 0).testBit j:=fun e he hbe=>by
   have:=hb i _ ho e he hbe
   exact waits_mask hf hb f e.on j (by omega) (by omega)
  rw[←Array.any_toList,←Array.any_toList]
  have hm:∀l:List Edge,(∀e∈l,e∈ops[i].after)→((l.any fun e=>Region.binds .any e&&e.on==j)||l.any fun e=>Region.binds .any e&&waitsB ops f e.on j)=l.any fun e=>Region.binds .any e&&(e.on==j||(W.getD e.on 0).testBit j):=by
   intro l hl
   induction l with
   |nil=>rfl
   |cons e l ih=>
    have ih:=ih fun x hx=>hl x (by simp[hx])
    have:=e1 e (hl e (by simp))
    simp only[List.any_cons,←ih]
    by_cases hbe:Region.binds .any e=true
    · rw[this hbe]
      simp only[hbe,Bool.true_and]
      cases(e.on==j)<;>cases(W.getD e.on 0).testBit j<;>simp
    · simp only[hbe,Bool.false_and,Bool.false_or]
  exact hm _ fun e he=>by simpa using he
theorem pairsB_congr{f g:Nat→Nat→Bool}:∀(l:List Nat),(∀i∈l,∀j∈l,f i j=g i j)→planB.pairsB f l=planB.pairsB g l
 |[],_=>rfl
 |i::r,h=>by
  simp only[planB.pairsB]
  rw[pairsB_congr r fun a ha b hb=>h a (by simp[ha]) b (by simp[hb])]
  congr 1
  rw[Bool.eq_iff_iff]
  simp only[List.all_eq_true]
  exact⟨fun k x hx=>by rw[←h i (by simp) x (by simp[hx])];exact k x hx,fun k x hx=>by rw[h i (by simp) x (by simp[hx])];exact k x hx⟩
def planM(ops:Array Oper)(π:List Nat)(F:List Nat)(D:Option Nat)(σ:List Nat)(W:List Nat):Bool:=
 fixB ops W&&(((List.range ops.size).all fun i=>match ops[i]? with|some o=>o.after.all fun e=> !Region.binds .any e||decide (e.on<i)|none=>true)&&
 ((List.range ops.size).all fun i=>π.contains i||σ.contains i)&&(π++σ).all (fun i=>decide (i<ops.size))&&decide (π++σ).Nodup&&
 planB.pairsB (fun i j=> !((W.getD i 0).testBit j)&&(!(meets ops i j||meets ops j i)||(W.getD j 0).testBit i)&&(isQuiet ops F D i||(W.getD j 0).testBit i)) π&&
 (match D with|some d=>(match ops[d]? with|some o=>o.guard.isNone&&(match o.op with| .alloc _=>true| .makeSlice .. =>true|_=>false)|none=>false)&&π.all (fun i=>decide (i=d)|| !meets ops i d)|none=>true)&&
 σ.all (fun i=>π.all fun j=>(W.getD i 0).testBit j)&&planB.pairsB (fun i j=>(W.getD j 0).testBit i) σ)
theorem planB_of{ops:Array Oper}{π F:List Nat}{D:Option Nat}{σ W:List Nat}(h:planM ops π F D σ W=true):planB ops π F D σ=true:=by
 simp only[planM,Bool.and_eq_true]at h
 obtain⟨hf,⟨⟨⟨⟨⟨⟨h1,h2⟩,h3⟩,h4⟩,h5⟩,h6⟩,h7⟩,h8⟩:=h
 have hb:∀i o,ops[i]? =some o→∀e∈o.after,Region.binds .any e=true→e.on<i:=fun i o ho e he hbe=>by
  have hi:i<ops.size:=(Array.getElem?_eq_some_iff.1 ho).1
  have:=List.all_eq_true.1 h1 i (List.mem_range.2 hi)
  simp only[ho]at this
  have:=Array.all_eq_true_iff_forall_mem.1 this e he
  simpa[hbe]using this
 have key:∀i j,i<ops.size→waitsB ops ops.size i j=(W.getD i 0).testBit j:=fun i j hi=>waits_mask hf hb _ i j hi hi
 have hlt:∀i∈π++σ,i<ops.size:=fun i hi=>by simpa using List.all_eq_true.1 h3 i hi
 have lp:∀i∈π,i<ops.size:=fun i hi=>hlt i (by simp[hi])
 have ls:∀i∈σ,i<ops.size:=fun i hi=>hlt i (by simp[hi])
 simp only[planB,Bool.and_eq_true]
 refine⟨⟨⟨⟨⟨⟨⟨h1,h2⟩,h3⟩,h4⟩, ?_⟩,h6⟩, ?_⟩, ?_⟩
 · rw[pairsB_congr π fun i hi j hj=>by rw[key i j (lp i hi),key j i (lp j hj)]];exact h5
 · rw[List.all_eq_true]at h7⊢
   intro i hi
   have:=h7 i hi
   rw[List.all_eq_true]at this⊢
   intro j hj
   rw[key i j (ls i hi)];exact this j hj
 · rw[pairsB_congr σ fun i hi j hj=>by rw[key j i (ls j hj)]];exact h8
theorem drawP_lM{P:Program}{ops:Array Oper}{s:List AV}{H:Heap}{K:KS}(π:List Nat)(F:List Nat)(D:Option Nat)(σ:List Nat)(m:List Bool)(W:List Nat)(hm:P.follows .mixedOrders=true)(hB:planM ops π F D σ W=true)
 (h:lwF P ops m F D π none s H (swK P ops σ K)):drawP P ops s H K:=drawP_lF π F D σ m hm (planB_of hB) h
end Go.Lg

namespace Go.Lg
open Go.Proofs
attribute [-go_sem] appendM
section
variable{P:Program}{o:Oper}{st:St}{K:KV}{fo:Operand}{xs:Array Operand}{ts:Array TypeId}{f:FuncId}{args args':List AV}
theorem OpS.mkC{q:Gam}(hc:RunCall P f args [] (copyQ q))(he:Enters P f)(ho:o.op= .call ⟨.value fo,xs,ts⟩)(ha:callArgs st fo xs=some (f,args))(hf:args.all frozenA=true)
 (hk:∀c3 c4 H' S3 S4,OwnE (st.h++H') c3 q.put S3→OwnE (st.h++H') c4 q.moves S4→(∀k∈S3,k∉S4)→(∀i∈S3,st.h.length≤i∧i<st.h.length+H'.length)→(∀i∈S4,st.h.length≤i∧i<st.h.length+H'.length)→
   K (.agg [.f (.int .i64 q.task.size), .f (fints q.task.given), .f (fsl eR q.task.rules),c3,c4]) (st.h++H')):OpS P o st K:=
 OpS.mkQ hc he ho ha hf fun r H' ⟨c3,c4,S3,S4,h1,h3,h4,hd⟩=>by
  subst h1
  refine⟨rfl,hk _ _ _ _ _ h3.shift h4.shift (fun k hk hm=> ?_) (by rw[shiftH_length];exact shift_ge h3.lt) (by rw[shiftH_length];exact shift_ge h4.lt)⟩
  obtain⟨a,ha,rfl⟩:=List.mem_map.1 hk
  obtain⟨b,hb,he⟩:=List.mem_map.1 hm
  have:b=a:=by omega
  subst this
  exact hd b ha hb
end
theorem ice_fin{H:Heap}{q q':Gam}{b b':Bool}{c3 c4:CV}(hq:q'=q)(hb:b'=b)(k3:frzC H c3=some (.f (fints q.put)))(k4:frzC H c4=some (.f (fints q.moves))):
 lessQ H (iceQ (.tup [aG q',bool b'])) (.tup [.agg [.f (.int .i64 q.task.size), .f (fints q.task.given), .f (fsl eR q.task.rules),c3,c4], .c (.f (.bool b))]):=by
 subst hq hb
 have e1:frzC H (.f (fints q'.task.given))=some (.f (fints q'.task.given)):=rfl
 have e2:frzC H (.f (fsl eR q'.task.rules))=some (.f (fsl eR q'.task.rules)):=rfl
 have e3:∀x,frzC H (.f (.int .i64 x))=some (.f (.int .i64 x)):=fun x=>rfl
 have e4:frzC H (.f (.bool b'))=some (.f (.bool b')):=rfl
 refine lessQ_ice ?_
 simp only[frzA,List.mapM_cons,List.mapM_nil,frz1,k3,k4,e1,e2,e3,e4,Option.pure_def,Option.bind_eq_bind,Option.bind_some,Option.map_some]
theorem ice_fin0{H:Heap}{q':Gam}{b b':Bool}(hq:q'=zeroG)(hb:b'=b):
 lessQ H (iceQ (.tup [aG q',bool b'])) (.tup [.agg [.f (.int .i64 0), .f .nil, .f .nil, .f .nil, .f .nil], .c (.f (.bool b))]):=by
 subst hq hb
 exact lessQ_ice rfl
theorem grid_le{q:Gam}(h:gameValid q=true){i:Nat}(hi:i<q.put.length):(nth (gameGrid q) i≤0↔nth q.put i+nth q.task.given i≤0)∧0≤nth q.put i∧0≤nth q.task.given i∧nth q.put i≤4∧nth q.task.given i≤4:=by
 have hsz:=(gridValid_bound (gameValid_facts h).2.1).2.1
 obtain⟨h1,h2,h3,h4,h5,h6⟩:=gameValid_facts h
 have hg:gameGrid q=bothG q.task.given q.put:=by simp[gameGrid,h]
 have hb1:=(gridValid_bound h2).2.2.2.2 i hi
 have hb2:=(gridValid_bound (puzzleValid_grid h1)).2.2.2.2 i (by omega)
 rw[hg,bothG_nth (by omega)]
 omega
theorem sGamePut_run(q:Gam)(cell value:Int)(hx:smG q):Reads Try.prog 32 [aG q,int cell,int value] (.tup [aG (gamePut q cell value),bool (gamePutB q cell value)]):=by
 refine Reads.iced ?_
 refine RunCall.cw (c:=_) Try.func32 rfl (n:=58) Try.ntmps32 (rs:=[.cell 6 34, .tmp 7]) rfl ?_
 simp only[List.length_cons,List.length_nil,zA,zS,List.replicate,List.cons_append,List.nil_append]
 simp(maxSteps:=999999)(disch:=omega)only[go_sem,zA,zM,zS,zE,zL]
 intro g1 g2
 first|refine OpS.rd (sGameValid_run q hx) (⟨_,Try.func41,rfl,rfl⟩:Enters Try.prog 41) rfl rfl rfl rfl ?_|refine Loud.rd (sGameValid_run q hx) (⟨_,Try.func41,rfl,rfl⟩:Enters Try.prog 41) rfl rfl rfl rfl ?_
 simp(maxSteps:=999999)(disch:=omega)only[go_sem,zA,zM,zS,zE,zL]
 ((first|(with_reducible first|refine condK_dec ?_ ?_|refine condK_ndec ?_ ?_|refine condK_nb ?_ ?_)|refine condK_b ?_ ?_)<;>intro h)
 · simp(maxSteps:=999999)(disch:=omega)only[go_sem,zA,zM,zS,zE,zL]
   obtain⟨h1,h2,h3,h4,h5,h6⟩:=gameValid_facts h
   refine OpS.mkC (l25Copy_own q hx) (⟨_,Try.func60,rfl,rfl⟩:Enters Try.prog 60) rfl rfl rfl ?_
   intro c3 c4 H1 S3 S4 k3 k4 n3 m3 m4
   simp(maxSteps:=999999)(disch:=omega)only[go_sem,zA,zM,zS,zE,zL]
   intro g3
   simp(maxSteps:=999999)(disch:=omega)only[go_sem,zA,zM,zS,zE,zL,look_last,set_last]
   simp only[List.length_cons,List.length_nil,List.cons_append,List.nil_append]at k3 k4 m3 m4
   obtain⟨HA,hHA⟩:∃HA:Heap,HA=some ⟨g1,1,cG q⟩::some ⟨g2,5,[.f (.int .i64 0), .f .nil, .f .nil, .f .nil, .f .nil]⟩::(H1++[some ⟨g3,5,[.f (.int .i64 q.task.size), .f (fints q.task.given), .f (fsl eR q.task.rules),c3,c4]⟩]):=⟨_,rfl⟩
   have mv:∀k,2≤k∧k<2+H1.length→∀X1 X2:Option Blk,HA[k]? =(X1::X2::H1)[k]? :=fun k hk X1 X2=>by
    rw[hHA,cons2 hk.1,cons2 hk.1,List.getElem?_append_left (by omega)]
   have e3:=k3.same (H':=HA) fun k hk=>mv k (by have:=m3 k hk;omega) _ _
   have e4:=k4.same (H':=HA) fun k hk=>mv k (by have:=m4 k hk;omega) _ _
   have b0:look HA 0 g1=some ⟨g1,1,cG q⟩:=by rw[hHA];simp only[go_sem]
   have b1:look HA 1 g2=some ⟨g2,5,[.f (.int .i64 0), .f .nil, .f .nil, .f .nil, .f .nil]⟩:=by rw[hHA];simp only[go_sem]
   have b2:look HA (H1.length+1+1) g3=some ⟨g3,5,[.f (.int .i64 q.task.size), .f (fints q.task.given), .f (fsl eR q.task.rules),c3,c4]⟩:=by rw[hHA];simp only[go_sem];exact look_last
   have hlA:HA.length=H1.length+3:=by rw[hHA];simp
   rw[←hHA]
   clear hHA k3 k4
   have no:¬putOk q cell value→gamePut q cell value=q∧gamePutB q cell value=false:=fun hn=>by simp[gamePut,gamePutB,h,hn]
   have fin:∀{X:Option Blk},¬putOk q cell value→lessQ (HA.set 1 X) (iceQ (.tup [aG (gamePut q cell value),bool (gamePutB q cell value)])) (.tup [.agg [.f (.int .i64 q.task.size), .f (fints q.task.given), .f (fsl eR q.task.rules),c3,c4], .c (.f (.bool false))]):=fun{X} hn=>
    have hX:∀k,2≤k→(HA.set 1 X)[k]? =HA[k]? :=fun k hk=>by rw[List.getElem?_set_ne (by omega)]
    ice_fin (no hn).1 (no hn).2 (e3.same fun k hk=>hX k (by have:=m3 k hk;omega)).frzC (e4.same fun k hk=>hX k (by have:=m4 k hk;omega)).frzC
   refine drawP_lM [0,1,2,3,4,5,6,7,8,9,10,11,12,13,14,15,16,17,18,19,20,21,22,23,24,25,26] [] none [27,28,29] [] [0,0,2,6,14,31,63,127,255,255,767,1791,4095,8191,16383,32767,65535,131071,65535,524287,1048575,65535,2162687,6356991,65535,31522815,65077247,134217727,268435455,536870911] foll (by kernel_rfl) ?_
   simp(maxSteps:=999999)(disch:=omega)only[go_sem,zA,zM,zS,zE,zL,b0]
   first|refine OpS.rd (l1In_run _ _ _) (⟨_,Try.func63,rfl,rfl⟩:Enters Try.prog 63) rfl rfl rfl rfl ?_|refine Loud.rd (l1In_run _ _ _) (⟨_,Try.func63,rfl,rfl⟩:Enters Try.prog 63) rfl rfl rfl rfl ?_
   simp(maxSteps:=999999)(disch:=omega)only[go_sem,zA,zM,zS,zE,zL]
   ((with_reducible first|refine guardK_dec ?_ ?_|refine guardK_ndec ?_ ?_|refine guardK_nb ?_ ?_|refine guardK_split ?_ ?_|refine guardQ_dec ?_ ?_|refine guardL_dec ?_ ?_|refine guardQ_ndec ?_ ?_|refine guardL_ndec ?_ ?_|refine guardQ_nb ?_ ?_|refine guardL_nb ?_ ?_|refine guardQ_split ?_ ?_|refine guardL_split ?_ ?_)<;>intro a1<;>simp(maxSteps:=999999)(disch:=omega)only[go_sem,zA,zM,zS,zE,zL,a1])
   rotate_left
   · simp(maxSteps:=999999)(disch:=omega)only[go_sem,zA,zM,zS,zE,zL,b0,b1,b2]
     rw[look_set_eq (by omega)]
     simp(maxSteps:=999999)(disch:=omega)only[go_sem,zA,zM,zS,zE,zL]
     exact fin fun hn=>by unfold putOk at hn;omega
   simp(maxSteps:=999999)(disch:=omega)only[go_sem,zA,zM,zS,zE,zL,b0]
   first|refine OpS.rd (l1In_run _ _ _) (⟨_,Try.func63,rfl,rfl⟩:Enters Try.prog 63) rfl rfl rfl rfl ?_|refine Loud.rd (l1In_run _ _ _) (⟨_,Try.func63,rfl,rfl⟩:Enters Try.prog 63) rfl rfl rfl rfl ?_
   simp(maxSteps:=999999)(disch:=omega)only[go_sem,zA,zM,zS,zE,zL]
   ((with_reducible first|refine guardK_dec ?_ ?_|refine guardK_ndec ?_ ?_|refine guardK_nb ?_ ?_|refine guardK_split ?_ ?_|refine guardQ_dec ?_ ?_|refine guardL_dec ?_ ?_|refine guardQ_ndec ?_ ?_|refine guardL_ndec ?_ ?_|refine guardQ_nb ?_ ?_|refine guardL_nb ?_ ?_|refine guardQ_split ?_ ?_|refine guardL_split ?_ ?_)<;>intro a2<;>simp(maxSteps:=999999)(disch:=omega)only[go_sem,zA,zM,zS,zE,zL,a2])
   rotate_left
   · simp(maxSteps:=999999)(disch:=omega)only[go_sem,zA,zM,zS,zE,zL,b0,b1,b2]
     rw[look_set_eq (by omega)]
     simp(maxSteps:=999999)(disch:=omega)only[go_sem,zA,zM,zS,zE,zL]
     exact fin fun hn=>by unfold putOk at hn;omega
   obtain⟨i,rfl⟩:∃i:Nat,cell=i:=⟨cell.toNat,by omega⟩
   have hil:i<q.put.length:=by omega
   obtain⟨hgl,_⟩:=grid_le h hil
   simp(maxSteps:=999999)(disch:=omega)only[go_sem,zA,zM,zS,zE,zL,b0]
   ((first|(with_reducible first|refine condK_dec ?_ ?_|refine condK_ndec ?_ ?_|refine condK_nb ?_ ?_)|refine condK_b ?_ ?_)<;>intro a3)
   · simp(maxSteps:=999999)(disch:=omega)only[go_sem,zA,zM,zS,zE,zL,b0,b1,b2]
     rw[look_set_eq (by omega)]
     simp(maxSteps:=999999)(disch:=omega)only[go_sem,zA,zM,zS,zE,zL]
     exact fin fun hn=>by unfold putOk at hn;omega
   have ok:putOk q i value:=⟨by omega,by omega,hgl.2 (by omega),by omega,by omega⟩
   have r1:gamePut q i value=⟨q.task,q.put.set i value,q.moves++[(i:Int)]⟩:=by simp[gamePut,h,ok]
   have r2:gamePutB q i value=true:=by simp[gamePutB,h,ok]
   have hne:q.put≠[]:=by intro h0;rw[h0]at hil;simp at hil
   obtain⟨id3,g4,rfl,rfl,l3⟩:=e3.inv hne
   have hi3:=m3 id3 (by simp)
   simp(maxSteps:=999999)(disch:=omega)only[go_sem,zA,zM,zS,zE,zL,b0,b1,b2,l3]
   rw[Int.toNat_natCast]
   have hlt3:id3<HA.length:=by omega
   obtain⟨HB,hHB⟩:∃HB:Heap,HB=HA.set id3 (some ⟨g4,1,cl (eI .i64) (q.put.set i value)⟩):=⟨_,rfl⟩
   have hB:∀k,k≠id3→HB[k]? =HA[k]? :=fun k hk=>by rw[hHB,List.getElem?_set_ne (Ne.symm hk)]
   have hlB:HB.length=H1.length+3:=by rw[hHB,List.length_set,hlA]
   have f4:=e4.same (H':=HB) fun k hk=>hB k fun he=>n3 id3 (by simp) (he▸hk)
   have f3:OwnE HB (.own id3 g4 0 q.put.length none) (q.put.set i value) [id3]:=by
    have:=OwnE.o (H:=HB) id3 g4 (q.put.set i value) (by rw[hHB];exact look_of (b:=⟨g4,1,cl (eI .i64) (q.put.set i value)⟩) (by rw[List.getElem?_set_self hlt3]))
    rwa [List.length_set]at this
   have b3:look HB 1 g2=some ⟨g2,5,[.f (.int .i64 0), .f .nil, .f .nil, .f .nil, .f .nil]⟩:=by unfold look;rw[hB 1 (by omega)];exact b1
   have b4:look HB (H1.length+1+1) g3=some ⟨g3,5,[.f (.int .i64 q.task.size), .f (fints q.task.given), .f (fsl eR q.task.rules), .own id3 g4 0 q.put.length none,c4]⟩:=by unfold look;rw[hB _ (by omega)];exact b2
   rw[←hHB]
   clear hHB e3 e4 b1 b2 l3
   simp(maxSteps:=999999)(disch:=omega)only[go_sem,zA,zM,zS,zE,zL,b4]
   intro g5
   have hlt8:H1.length+1+1<HB.length:=by omega
   refine appendM_E (sliceOf_of ti22 rfl ti3) ⟨rfl,rfl,rfl⟩ (f4.same fun k hk=>List.getElem?_append_left (f4.lt k hk)) (by omega) look_last ?_
   intro c5 HC S5 hA hC hS5 hlC
   rw[List.length_append,List.length_singleton]at hlC hS5
   have hC':∀k,k<HB.length→k∉S4→HC[k]? =HB[k]? :=fun k hk hn=>by rw[hC k (by rw[List.length_append];omega) hn,List.getElem?_append_left hk]
   have b5:look HC 1 g2=some ⟨g2,5,[.f (.int .i64 0), .f .nil, .f .nil, .f .nil, .f .nil]⟩:=by unfold look;rw[hC' 1 (by omega) fun hm=>by have:=m4 _ hm;omega];exact b3
   have b6:look HC (H1.length+1+1) g3=some ⟨g3,5,[.f (.int .i64 q.task.size), .f (fints q.task.given), .f (fsl eR q.task.rules), .own id3 g4 0 q.put.length none,c4]⟩:=by unfold look;rw[hC' _ hlt8 fun hm=>by have:=m4 _ hm;omega];exact b4
   simp(maxSteps:=999999)(disch:=omega)only[go_sem,zA,zM,zS,zE,zL,b6]
   rw[look_set_eq (by omega)]
   simp(maxSteps:=999999)(disch:=omega)only[go_sem,zA,zM,zS,zE,zL]
   rw[look_set_ne (by omega),b5]
   simp(maxSteps:=999999)(disch:=omega)only[go_sem,zA,zM,zS,zE,zL]
   rw[look_set_eq (by rw[List.length_set];omega)]
   simp(maxSteps:=999999)(disch:=omega)only[go_sem,zA,zM,zS,zE,zL]
   have hD:∀{X Y:Option Blk},∀k,2≤k∧k<2+H1.length∨HB.length+1≤k→((HC.set (H1.length+1+1) X).set 1 Y)[k]? =HC[k]? :=fun k hk=>by
    rw[List.getElem?_set_ne (by omega),List.getElem?_set_ne (by omega)]
   refine ice_fin (q:=⟨q.task,q.put.set i value,q.moves++[(i:Int)]⟩) r1 r2 (f3.same fun k hk=> ?_).frzC (hA.same fun k hk=>hD k ?_).frzC
   · have:=m3 k hk
     rw[hD k (.inl (by omega)),hC' k (by omega) (n3 k hk)]
   · rcases hS5 k hk with h5|h5
     · have:=m4 k h5
       exact .inl (by omega)
     · exact .inr (by omega)
 · simp(maxSteps:=999999)(disch:=omega)only[go_sem,zA,zM,zS,zE,zL]
   refine ice_fin0 ?_ ?_
   · simp[gamePut,h]
   · simp[gamePutB,h]
end Go.Lg
