/- GpSB, GpJC, GpNA, GpNE, cut to what is needed. -/
import Derived.Test.YtpdaalgdkdpihaaXad4
import Derived.Test.YtpdaalgdkdpihaaXae0
import Derived.Test.YtpdaalgdkdpihaaXad9
import Derived.Test.YtpdaalgdkdpihaaXad8
import Derived.Test.YtpdaalgdkdpihaaXae1
import Derived.Test.YtpdaalgdkdpihaaXad3
import Derived.Test.YtpdaalgdkdpihaaXab9
import Derived.Test.YtpdaalgdkdpihaaXad0
import Derived.Test.YtpdaalgdkdpihaaXab7
import Derived.Test.YtpdaalgdkdpihaaXab2
import Derived.Test.YtpdaalgdkdpihaaXab8
open Nat renaming reduceAdd→zA,reduceMul→zM,reduceSub→zS,reduceEqDiff→zE,reduceLeDiff→zL
set_option linter.unusedSimpArgs false
set_option linter.unusedVariables false
set_option maxRecDepth 100000
namespace Go.Lg
open Go.Proofs
attribute [-go_sem] appendM lwF_cons
def okT:List UInt8:=[111,107]
def noT:List UInt8:=[110,111]
def noneT:List UInt8:=[110,111,110,101]
def solvedT:List UInt8:=[115,111,108,118,101,100]
def goodT:List UInt8:=[103,111,111,100]
def wrongT:List UInt8:=[119,114,111,110,103]
def whatT:List UInt8:=[119,104,97,116]
def backT:List UInt8:=[98,97,99,107]
def hintT:List UInt8:=[104,105,110,116]
def checkT:List UInt8:=[99,104,101,99,107]
def isPut(l:List UInt8):Prop:=l.length=6∧l.take 4=[112,117,116,32]∧(97≤chr l 4∧chr l 4≤122)∧48≤chr l 5∧chr l 5≤57
instance(l:List UInt8):Decidable (isPut l):=by unfold isPut;infer_instance
def lineG(q:Gam)(l:List UInt8):Gam:=if gameValid q=true then(if isPut l then gamePut q (chr l 4 -97) (chr l 5 -48)else if l=backT then gameBack q else q)else zeroG
def checkA(q:Gam):List UInt8:=if solvedV q.task (gameGrid q)=true then solvedT else if canV q.task (gameGrid q)=true then goodT else wrongT
def lineT(q:Gam)(l:List UInt8):List UInt8:=if gameValid q=true then(if isPut l then(if gamePutB q (chr l 4 -97) (chr l 5 -48)=true then okT else noT)
 else if l=backT then(if gameBackB q=true then okT else noT)else if l=hintT then(if hintB q.task (gameGrid q)=true then hintL (hintV q.task (gameGrid q))else noneT)else if l=checkT then checkA q else whatT)else[]
theorem line_keeps{q:Gam}{n:Nat}(h:GamN q n)(l:List UInt8):GamN (lineG q l) n:=by
 unfold lineG
 rw[if_pos h.valid]
 split
 · exact put_keeps h
 · split
   · exact back_keeps h
   · exact h
theorem game_grid_len{q:Gam}(hv:gameValid q=true):(gameGrid q).length≤16:=by
 obtain⟨n,h⟩:=GamN.of hv
 rw[h.grid,bothG_length]
 have:=h.len
 have:=h.ln
 omega
theorem own_fin2{H:Heap}{q q':Gam}{y y':AV}{c3 c4:CV}{S3 S4:List Nat}(hq:q'=q)(hy:y'=y)(k3:OwnE H c3 q.put S3)(k4:OwnE H c4 q.moves S4)(hd:∀k∈S3,k∉S4):
 lessQ H (gamEQ q' y') (.tup [.agg [.f (.int .i64 q.task.size), .f (fints q.task.given), .f (fsl eR q.task.rules),c3,c4],y]):=by
 subst hq hy
 exact⟨H,HLe.refl _,c3,c4,rfl,S3,S4,k3,k4,hd⟩
section
variable{P:Program}{o:Oper}{st:St}{K:KV}{fo:Operand}{xs:Array Operand}{ts:Array TypeId}{f:FuncId}{args args':List AV}
theorem OpS.mkE{q:Gam}{b:Bool}(hc:RunCall P f args [] (gamEQ q (bool b)))(he:Enters P f)(ho:o.op= .call ⟨.value fo,xs,ts⟩)(ha:callArgs st fo xs=some (f,args))(hf:args.all frozenA=true)
 (hk:∀c3 c4 H' S3 S4,OwnE (st.h++H') c3 q.put S3→OwnE (st.h++H') c4 q.moves S4→(∀k∈S3,k∉S4)→(∀i∈S3,st.h.length≤i∧i<st.h.length+H'.length)→(∀i∈S4,st.h.length≤i∧i<st.h.length+H'.length)→
   K (.tup [.agg [.f (.int .i64 q.task.size), .f (fints q.task.given), .f (fsl eR q.task.rules),c3,c4],bool b]) (st.h++H')):OpS P o st K:=
 OpS.mkQ hc he ho ha hf fun r H' ⟨c3,c4,h1,S3,S4,h3,h4,hd⟩=>by
  subst h1
  refine⟨rfl,hk _ _ _ _ _ h3.shift h4.shift (fun k hk hm=> ?_) (by rw[shiftH_length];exact shift_ge h3.lt) (by rw[shiftH_length];exact shift_ge h4.lt)⟩
  obtain⟨a,ha,rfl⟩:=List.mem_map.1 hk
  obtain⟨b,hb,he⟩:=List.mem_map.1 hm
  have:b=a:=by omega
  subst this
  exact hd b ha hb
theorem Loud.mkE{ops:Array Oper}{s:List AV}{H:Heap}{q:Gam}{b:Bool}(hc:RunCall P f args [] (gamEQ q (bool b)))(he:Enters P f)(ho:o.op= .call ⟨.value fo,xs,ts⟩)(ha:callArgs ⟨s,H⟩ fo xs=some (f,args))(hf:args.all frozenA=true)
 (hk:∀c3 c4 H' S3 S4,OwnE (H++H') c3 q.put S3→OwnE (H++H') c4 q.moves S4→(∀k∈S3,k∉S4)→(∀i∈S3,H.length≤i∧i<H.length+H'.length)→(∀i∈S4,H.length≤i∧i<H.length+H'.length)→
   K (.tup [.agg [.f (.int .i64 q.task.size), .f (fints q.task.given), .f (fsl eR q.task.rules),c3,c4],bool b]) (H++H')):Loud P ops o s H K:=
 Loud.call ho ha fun s' ha'=>OpS.mkE (st:=⟨s',H⟩) hc he ho ha' hf hk
theorem Loud.mkC{ops:Array Oper}{s:List AV}{H:Heap}{q:Gam}(hc:RunCall P f args [] (copyQ q))(he:Enters P f)(ho:o.op= .call ⟨.value fo,xs,ts⟩)(ha:callArgs ⟨s,H⟩ fo xs=some (f,args))(hf:args.all frozenA=true)
 (hk:∀c3 c4 H' S3 S4,OwnE (H++H') c3 q.put S3→OwnE (H++H') c4 q.moves S4→(∀k∈S3,k∉S4)→(∀i∈S3,H.length≤i∧i<H.length+H'.length)→(∀i∈S4,H.length≤i∧i<H.length+H'.length)→
   K (.agg [.f (.int .i64 q.task.size), .f (fints q.task.given), .f (fsl eR q.task.rules),c3,c4]) (H++H')):Loud P ops o s H K:=
 Loud.call ho ha fun s' ha'=>OpS.mkC (st:=⟨s',H⟩) hc he ho ha' hf hk
end
set_option maxHeartbeats 4000000 in
theorem sGameLine_own(q:Gam)(l:List UInt8)(hx:smG q)(hl:l.length≤2^40)(hv:gameValid q=true):RunCall Try.prog 91 [aG q,txt l] [] (gamEQ (lineG q l) (txt (lineT q l))):=by
 have hgl:=game_grid_len hv
 have eG:lineG q l=if isPut l then gamePut q (chr l 4 -97) (chr l 5 -48)else if l=backT then gameBack q else q:=by unfold lineG;rw[if_pos hv]
 have eT:lineT q l=if isPut l then(if gamePutB q (chr l 4 -97) (chr l 5 -48)=true then okT else noT)else if l=backT then(if gameBackB q=true then okT else noT)else if l=hintT then(if hintB q.task (gameGrid q)=true then hintL (hintV q.task (gameGrid q))else noneT)else if l=checkT then checkA q else whatT:=by unfold lineT;rw[if_pos hv]
 refine RunCall.cw (c:=_) Try.func91 rfl (n:=113) Try.ntmps91 (rs:=[.cell 4 34, .tmp 5]) rfl ?_
 simp only[List.length_cons,List.length_nil,zA,zS,List.replicate,List.cons_append,List.nil_append]
 simp(maxSteps:=999999)(disch:=omega)only[go_sem,zA,zM,zS,zE,zL]
 intro g1 g2
 first|refine OpS.rd (sGameValid_run q hx) (⟨_,Try.func41,rfl,rfl⟩:Enters Try.prog 41) rfl rfl rfl rfl ?_|refine Loud.rd (sGameValid_run q hx) (⟨_,Try.func41,rfl,rfl⟩:Enters Try.prog 41) rfl rfl rfl rfl ?_
 simp(maxSteps:=999999)(disch:=omega)only[go_sem,zA,zM,zS,zE,zL]
 rw[hv]
 simp(maxSteps:=999999)(disch:=omega)only[go_sem,zA,zM,zS,zE,zL]
 first|refine OpS.mk (Reads.ownI (sGameGrid_own q hx)) (⟨_,Try.func15,rfl,rfl⟩:Enters Try.prog 15) rfl rfl rfl rfl rfl ?_|refine Loud.mk (Reads.ownI (sGameGrid_own q hx)) (⟨_,Try.func15,rfl,rfl⟩:Enters Try.prog 15) rfl rfl rfl rfl rfl ?_
 simp(maxSteps:=999999)(disch:=omega)only[go_sem,zA,zM,zS,zE,zL]
 by_cases hp:isPut l
 · obtain⟨h1,h2,⟨h3,h4⟩,h5,h6⟩:=id hp
   have d1:decide ((l.length:Int)=6)=true:=decide_eq_true (by omega)
   have hs:sub l 0 4=l.take 4:=rfl
   have d2:decide (sub l 0 4=[112,117,116,32])=true:=decide_eq_true (by rw[hs];exact h2)
   have d3:decide (97≤chr l 4)=true:=decide_eq_true h3
   have d4:decide (chr l 4≤122)=true:=decide_eq_true h4
   have d5:decide (48≤chr l 5)=true:=decide_eq_true h5
   have d6:decide (chr l 5≤57)=true:=decide_eq_true h6
   rw[eG,eT,if_pos hp,if_pos hp]
   simp(maxSteps:=999999)(disch:=omega)only[go_sem,zA,zM,zS,zE,zL,d1,d2,d3,d4,d5,d6]
   refine drawP_R [0,1,2,3,4,5,6,7,8,13,9,10,11,12] [] (some 13) [14,15] 12 [] foll (by kernel_rfl) ?_
   iterate 11 (rw[lwF_cons];simp(maxSteps:=999999)(disch:=omega)only[go_sem,zA,zM,zS,zE,zL])
   refine Loud.mkE (sGamePut_own q (chr l 4 -97) (chr l 5 -48) hx hv) (⟨_,Try.func32,rfl,rfl⟩:Enters Try.prog 32) rfl rfl rfl ?_
   intro c3 c4 H1 S3 S4 k3 k4 n3 m3 m4
   simp(maxSteps:=999999)(disch:=omega)only[go_sem,zA,zM,zS,zE,zL]
   iterate 3 (rw[lwF_cons];simp(maxSteps:=999999)(disch:=omega)only[go_sem,zA,zM,zS,zE,zL])
   simp only[List.length_cons,List.length_nil,List.cons_append,List.nil_append]at k3 k4 m3 m4
   have hD:∀(X1 X2 Y1 Y2:Option Blk) (M:Heap) (T:List Nat),(∀k∈T,2≤k∧k<2+H1.length)→∀k∈T,(Y1::Y2::(H1++M))[k]? =(X1::X2::H1)[k]? :=fun X1 X2 Y1 Y2 M T hT k hk=>by
    have:=hT k hk
    rw[cons2 (by omega),cons2 (by omega),List.getElem?_append_left (by omega)]
   have hF:∀(X1 X2 Y1 Y2:Option Blk) (T:List Nat),(∀k∈T,2≤k∧k<2+H1.length)→∀k∈T,(Y1::Y2::H1)[k]? =(X1::X2::H1)[k]? :=fun X1 X2 Y1 Y2 T hT k hk=>by
    have:=hT k hk
    rw[cons2 (by omega),cons2 (by omega)]
   have m3':∀k∈S3,2≤k∧k<2+H1.length:=fun k hk=>by have:=m3 k hk;omega
   have m4':∀k∈S4,2≤k∧k<2+H1.length:=fun k hk=>by have:=m4 k hk;omega
   intro g3
   refine swK2_go rfl (.inr rfl) ?_
   simp(maxSteps:=999999)(disch:=omega)only[go_sem,zA,zM,zS,zE,zL,look_last,set_last]
   refine swK2_go rfl (.inl rfl) ?_
   cases hb:gamePutB q (chr l 4 -97) (chr l 5 -48)with
   |true=>
    simp(maxSteps:=999999)(disch:=omega)only[go_sem,zA,zM,zS,zE,zL,look_last,set_last]
    exact own_fin2 rfl rfl (k3.same (hD _ _ _ _ _ _ m3')) (k4.same (hD _ _ _ _ _ _ m4')) n3
   |false=>
    simp(maxSteps:=999999)(disch:=omega)only[go_sem,zA,zM,zS,zE,zL,look_last,set_last]
    exact own_fin2 rfl rfl (k3.same (hD _ _ _ _ _ _ m3')) (k4.same (hD _ _ _ _ _ _ m4')) n3
 · by_cases hb:l=backT
   · subst hb
     rw[eG,eT,if_neg hp,if_neg hp,if_pos rfl,if_pos rfl]
     have d1:decide ((backT.length:Int)=6)=false:=rfl
     have d2:decide (backT=[98,97,99,107])=true:=rfl
     simp(maxSteps:=999999)(disch:=omega)only[go_sem,zA,zM,zS,zE,zL,d1,d2]
     refine OpS.mkE (sGameBack_own q hx hv) (⟨_,Try.func30,rfl,rfl⟩:Enters Try.prog 30) rfl rfl rfl ?_
     intro c3 c4 H1 S3 S4 k3 k4 n3 m3 m4
     simp only[List.length_cons,List.length_nil,List.cons_append,List.nil_append]at k3 k4 m3 m4
     have hD:∀(X1 X2 Y1 Y2:Option Blk) (M:Heap) (T:List Nat),(∀k∈T,2≤k∧k<2+H1.length)→∀k∈T,(Y1::Y2::(H1++M))[k]? =(X1::X2::H1)[k]? :=fun X1 X2 Y1 Y2 M T hT k hk=>by
      have:=hT k hk
      rw[cons2 (by omega),cons2 (by omega),List.getElem?_append_left (by omega)]
     have hF:∀(X1 X2 Y1 Y2:Option Blk) (T:List Nat),(∀k∈T,2≤k∧k<2+H1.length)→∀k∈T,(Y1::Y2::H1)[k]? =(X1::X2::H1)[k]? :=fun X1 X2 Y1 Y2 T hT k hk=>by
      have:=hT k hk
      rw[cons2 (by omega),cons2 (by omega)]
     have m3':∀k∈S3,2≤k∧k<2+H1.length:=fun k hk=>by have:=m3 k hk;omega
     have m4':∀k∈S4,2≤k∧k<2+H1.length:=fun k hk=>by have:=m4 k hk;omega
     simp(maxSteps:=999999)(disch:=omega)only[go_sem,zA,zM,zS,zE,zL]
     intro g3
     simp(maxSteps:=999999)(disch:=omega)only[go_sem,zA,zM,zS,zE,zL,look_last,set_last]
     cases hb:gameBackB q with
     |true=>
      simp(maxSteps:=999999)(disch:=omega)only[go_sem,zA,zM,zS,zE,zL,look_last,set_last]
      exact own_fin2 rfl rfl (k3.same (hD _ _ _ _ _ _ m3')) (k4.same (hD _ _ _ _ _ _ m4')) n3
     |false=>
      simp(maxSteps:=999999)(disch:=omega)only[go_sem,zA,zM,zS,zE,zL,look_last,set_last]
      exact own_fin2 rfl rfl (k3.same (hD _ _ _ _ _ _ m3')) (k4.same (hD _ _ _ _ _ _ m4')) n3
   by_cases hh:l=hintT
   · subst hh
     rw[eG,eT,if_neg hp,if_neg hp,if_neg hb,if_neg hb,if_pos rfl]
     have d1:decide ((hintT.length:Int)=6)=false:=rfl
     have d2:decide (hintT=[98,97,99,107])=false:=rfl
     have d3:decide (hintT=[104,105,110,116])=true:=rfl
     simp(maxSteps:=999999)(disch:=omega)only[go_sem,zA,zM,zS,zE,zL,d1,d2,d3]
     first|refine OpS.mk (sNextHint_run q.task (gameGrid q) hx.1 (by omega)) (⟨_,Try.func103,rfl,rfl⟩:Enters Try.prog 103) rfl rfl rfl rfl rfl ?_|refine Loud.mk (sNextHint_run q.task (gameGrid q) hx.1 (by omega)) (⟨_,Try.func103,rfl,rfl⟩:Enters Try.prog 103) rfl rfl rfl rfl rfl ?_
     simp(maxSteps:=999999)(disch:=omega)only[go_sem,zA,zM,zS,zE,zL]
     intro g3
     cases hhb:hintB q.task (gameGrid q)with
     |true=>
      simp(maxSteps:=999999)(disch:=omega)only[go_sem,zA,zM,zS,zE,zL]
      refine drawP_lM [0,2,1] [] none [3,4,5] [] [0,1,0,7,15,31] foll (by kernel_rfl) ?_
      iterate 2 (rw[lwF_cons];simp(maxSteps:=999999)(disch:=omega)only[go_sem,zA,zM,zS,zE,zL])
      rw[lwF_cons]
      simp(maxSteps:=999999)(disch:=omega)only[go_sem,zA,zM,zS,zE,zL]
      refine Loud.mkC (l25Copy_own q hx) (⟨_,Try.func60,rfl,rfl⟩:Enters Try.prog 60) rfl rfl rfl ?_
      intro c3 c4 H1 S3 S4 k3 k4 n3 m3 m4
      simp only[List.length_cons,List.length_nil,List.cons_append,List.nil_append]at k3 k4 m3 m4
      have hF3:∀(X1 X2 X3 Y1 Y2 Y3:Option Blk) (T:List Nat),(∀k∈T,3≤k∧k<3+H1.length)→∀k∈T,(Y1::Y2::Y3::H1)[k]? =(X1::X2::X3::H1)[k]? :=fun X1 X2 X3 Y1 Y2 Y3 T hT k hk=>by
       obtain⟨j,rfl⟩:∃j,k=j+3:=⟨k -3,by have:=hT k hk;omega⟩
       rfl
      have m3':∀k∈S3,3≤k∧k<3+H1.length:=fun k hk=>by have:=m3 k hk;omega
      have m4':∀k∈S4,3≤k∧k<3+H1.length:=fun k hk=>by have:=m4 k hk;omega
      simp(maxSteps:=999999)(disch:=omega)only[go_sem,zA,zM,zS,zE,zL]
      first|refine OpS.rd (sHintText_run (hintV q.task (gameGrid q))) (⟨_,Try.func104,rfl,rfl⟩:Enters Try.prog 104) rfl rfl rfl rfl ?_|refine Loud.rd (sHintText_run (hintV q.task (gameGrid q))) (⟨_,Try.func104,rfl,rfl⟩:Enters Try.prog 104) rfl rfl rfl rfl ?_
      simp(maxSteps:=999999)(disch:=omega)only[go_sem,zA,zM,zS,zE,zL]
      exact own_fin2 rfl rfl (k3.same (hF3 _ _ _ _ _ _ _ m3')) (k4.same (hF3 _ _ _ _ _ _ _ m4')) n3
     |false=>
      simp(maxSteps:=999999)(disch:=omega)only[go_sem,zA,zM,zS,zE,zL]
      refine OpS.mkC (l25Copy_own q hx) (⟨_,Try.func60,rfl,rfl⟩:Enters Try.prog 60) rfl rfl rfl ?_
      intro c3 c4 H1 S3 S4 k3 k4 n3 m3 m4
      simp only[List.length_cons,List.length_nil,List.cons_append,List.nil_append]at k3 k4 m3 m4
      have hF3:∀(X1 X2 X3 Y1 Y2 Y3:Option Blk) (T:List Nat),(∀k∈T,3≤k∧k<3+H1.length)→∀k∈T,(Y1::Y2::Y3::H1)[k]? =(X1::X2::X3::H1)[k]? :=fun X1 X2 X3 Y1 Y2 Y3 T hT k hk=>by
       obtain⟨j,rfl⟩:∃j,k=j+3:=⟨k -3,by have:=hT k hk;omega⟩
       rfl
      have m3':∀k∈S3,3≤k∧k<3+H1.length:=fun k hk=>by have:=m3 k hk;omega
      have m4':∀k∈S4,3≤k∧k<3+H1.length:=fun k hk=>by have:=m4 k hk;omega
      simp(maxSteps:=999999)(disch:=omega)only[go_sem,zA,zM,zS,zE,zL]
      exact own_fin2 rfl rfl (k3.same (hF3 _ _ _ _ _ _ _ m3')) (k4.same (hF3 _ _ _ _ _ _ _ m4')) n3
   by_cases hc:l=checkT
   · subst hc
     rw[eG,eT,if_neg hp,if_neg hp,if_neg hb,if_neg hb,if_neg hh,if_pos rfl]
     have d1:decide ((checkT.length:Int)=6)=false:=rfl
     have d2:decide (checkT=[98,97,99,107])=false:=rfl
     have d3:decide (checkT=[104,105,110,116])=false:=rfl
     have d4:decide (checkT=[99,104,101,99,107])=true:=rfl
     simp(maxSteps:=999999)(disch:=omega)only[go_sem,zA,zM,zS,zE,zL,d1,d2,d3,d4]
     first|refine OpS.rd (sPuzzleSolved_run q.task (gameGrid q) hx.1 (by omega)) (⟨_,Try.func86,rfl,rfl⟩:Enters Try.prog 86) rfl rfl rfl rfl ?_|refine Loud.rd (sPuzzleSolved_run q.task (gameGrid q) hx.1 (by omega)) (⟨_,Try.func86,rfl,rfl⟩:Enters Try.prog 86) rfl rfl rfl rfl ?_
     simp(maxSteps:=999999)(disch:=omega)only[go_sem,zA,zM,zS,zE,zL]
     unfold checkA
     cases hs:solvedV q.task (gameGrid q)with
     |true=>
      simp(maxSteps:=999999)(disch:=omega)only[go_sem,zA,zM,zS,zE,zL]
      refine OpS.mkC (l25Copy_own q hx) (⟨_,Try.func60,rfl,rfl⟩:Enters Try.prog 60) rfl rfl rfl ?_
      intro c3 c4 H1 S3 S4 k3 k4 n3 m3 m4
      simp only[List.length_cons,List.length_nil,List.cons_append,List.nil_append]at k3 k4 m3 m4
      have hD:∀(X1 X2 Y1 Y2:Option Blk) (M:Heap) (T:List Nat),(∀k∈T,2≤k∧k<2+H1.length)→∀k∈T,(Y1::Y2::(H1++M))[k]? =(X1::X2::H1)[k]? :=fun X1 X2 Y1 Y2 M T hT k hk=>by
       have:=hT k hk
       rw[cons2 (by omega),cons2 (by omega),List.getElem?_append_left (by omega)]
      have hF:∀(X1 X2 Y1 Y2:Option Blk) (T:List Nat),(∀k∈T,2≤k∧k<2+H1.length)→∀k∈T,(Y1::Y2::H1)[k]? =(X1::X2::H1)[k]? :=fun X1 X2 Y1 Y2 T hT k hk=>by
       have:=hT k hk
       rw[cons2 (by omega),cons2 (by omega)]
      have m3':∀k∈S3,2≤k∧k<2+H1.length:=fun k hk=>by have:=m3 k hk;omega
      have m4':∀k∈S4,2≤k∧k<2+H1.length:=fun k hk=>by have:=m4 k hk;omega
      simp(maxSteps:=999999)(disch:=omega)only[go_sem,zA,zM,zS,zE,zL]
      exact own_fin2 rfl rfl (k3.same (hF _ _ _ _ _ m3')) (k4.same (hF _ _ _ _ _ m4')) n3
     |false=>
      simp(maxSteps:=999999)(disch:=omega)only[go_sem,zA,zM,zS,zE,zL]
      first|refine OpS.rd (sCanFinish_run q.task (gameGrid q) hx.1 (by omega)) (⟨_,Try.func105,rfl,rfl⟩:Enters Try.prog 105) rfl rfl rfl rfl ?_|refine Loud.rd (sCanFinish_run q.task (gameGrid q) hx.1 (by omega)) (⟨_,Try.func105,rfl,rfl⟩:Enters Try.prog 105) rfl rfl rfl rfl ?_
      simp(maxSteps:=999999)(disch:=omega)only[go_sem,zA,zM,zS,zE,zL]
      cases hcf:canV q.task (gameGrid q)with
      |true=>
       simp(maxSteps:=999999)(disch:=omega)only[go_sem,zA,zM,zS,zE,zL]
       refine OpS.mkC (l25Copy_own q hx) (⟨_,Try.func60,rfl,rfl⟩:Enters Try.prog 60) rfl rfl rfl ?_
       intro c3 c4 H1 S3 S4 k3 k4 n3 m3 m4
       simp only[List.length_cons,List.length_nil,List.cons_append,List.nil_append]at k3 k4 m3 m4
       have hD:∀(X1 X2 Y1 Y2:Option Blk) (M:Heap) (T:List Nat),(∀k∈T,2≤k∧k<2+H1.length)→∀k∈T,(Y1::Y2::(H1++M))[k]? =(X1::X2::H1)[k]? :=fun X1 X2 Y1 Y2 M T hT k hk=>by
        have:=hT k hk
        rw[cons2 (by omega),cons2 (by omega),List.getElem?_append_left (by omega)]
       have hF:∀(X1 X2 Y1 Y2:Option Blk) (T:List Nat),(∀k∈T,2≤k∧k<2+H1.length)→∀k∈T,(Y1::Y2::H1)[k]? =(X1::X2::H1)[k]? :=fun X1 X2 Y1 Y2 T hT k hk=>by
        have:=hT k hk
        rw[cons2 (by omega),cons2 (by omega)]
       have m3':∀k∈S3,2≤k∧k<2+H1.length:=fun k hk=>by have:=m3 k hk;omega
       have m4':∀k∈S4,2≤k∧k<2+H1.length:=fun k hk=>by have:=m4 k hk;omega
       simp(maxSteps:=999999)(disch:=omega)only[go_sem,zA,zM,zS,zE,zL]
       exact own_fin2 rfl rfl (k3.same (hF _ _ _ _ _ m3')) (k4.same (hF _ _ _ _ _ m4')) n3
      |false=>
       simp(maxSteps:=999999)(disch:=omega)only[go_sem,zA,zM,zS,zE,zL]
       refine OpS.mkC (l25Copy_own q hx) (⟨_,Try.func60,rfl,rfl⟩:Enters Try.prog 60) rfl rfl rfl ?_
       intro c3 c4 H1 S3 S4 k3 k4 n3 m3 m4
       simp only[List.length_cons,List.length_nil,List.cons_append,List.nil_append]at k3 k4 m3 m4
       have hD:∀(X1 X2 Y1 Y2:Option Blk) (M:Heap) (T:List Nat),(∀k∈T,2≤k∧k<2+H1.length)→∀k∈T,(Y1::Y2::(H1++M))[k]? =(X1::X2::H1)[k]? :=fun X1 X2 Y1 Y2 M T hT k hk=>by
        have:=hT k hk
        rw[cons2 (by omega),cons2 (by omega),List.getElem?_append_left (by omega)]
       have hF:∀(X1 X2 Y1 Y2:Option Blk) (T:List Nat),(∀k∈T,2≤k∧k<2+H1.length)→∀k∈T,(Y1::Y2::H1)[k]? =(X1::X2::H1)[k]? :=fun X1 X2 Y1 Y2 T hT k hk=>by
        have:=hT k hk
        rw[cons2 (by omega),cons2 (by omega)]
       have m3':∀k∈S3,2≤k∧k<2+H1.length:=fun k hk=>by have:=m3 k hk;omega
       have m4':∀k∈S4,2≤k∧k<2+H1.length:=fun k hk=>by have:=m4 k hk;omega
       simp(maxSteps:=999999)(disch:=omega)only[go_sem,zA,zM,zS,zE,zL]
       exact own_fin2 rfl rfl (k3.same (hF _ _ _ _ _ m3')) (k4.same (hF _ _ _ _ _ m4')) n3
   have d2:decide (l=[98,97,99,107])=false:=decide_eq_false hb
   have d3:decide (l=[104,105,110,116])=false:=decide_eq_false hh
   have d4:decide (l=[99,104,101,99,107])=false:=decide_eq_false hc
   rw[eG,eT,if_neg hp,if_neg hp,if_neg hb,if_neg hb,if_neg hh,if_neg hc]
   have hs:sub l 0 4=l.take 4:=rfl
   by_cases p1:l.length=6
   rotate_left
   · have d1:decide ((l.length:Int)=6)=false:=decide_eq_false (by omega)
     simp(maxSteps:=999999)(disch:=omega)only[go_sem,zA,zM,zS,zE,zL,d1]
     simp(maxSteps:=999999)(disch:=omega)only[go_sem,zA,zM,zS,zE,zL,d2,d3,d4]
     refine OpS.mkC (l25Copy_own q hx) (⟨_,Try.func60,rfl,rfl⟩:Enters Try.prog 60) rfl rfl rfl ?_
     intro c3 c4 H1 S3 S4 k3 k4 n3 m3 m4
     simp only[List.length_cons,List.length_nil,List.cons_append,List.nil_append]at k3 k4 m3 m4
     have hD:∀(X1 X2 Y1 Y2:Option Blk) (M:Heap) (T:List Nat),(∀k∈T,2≤k∧k<2+H1.length)→∀k∈T,(Y1::Y2::(H1++M))[k]? =(X1::X2::H1)[k]? :=fun X1 X2 Y1 Y2 M T hT k hk=>by
      have:=hT k hk
      rw[cons2 (by omega),cons2 (by omega),List.getElem?_append_left (by omega)]
     have hF:∀(X1 X2 Y1 Y2:Option Blk) (T:List Nat),(∀k∈T,2≤k∧k<2+H1.length)→∀k∈T,(Y1::Y2::H1)[k]? =(X1::X2::H1)[k]? :=fun X1 X2 Y1 Y2 T hT k hk=>by
      have:=hT k hk
      rw[cons2 (by omega),cons2 (by omega)]
     have m3':∀k∈S3,2≤k∧k<2+H1.length:=fun k hk=>by have:=m3 k hk;omega
     have m4':∀k∈S4,2≤k∧k<2+H1.length:=fun k hk=>by have:=m4 k hk;omega
     simp(maxSteps:=999999)(disch:=omega)only[go_sem,zA,zM,zS,zE,zL]
     exact own_fin2 rfl rfl (k3.same (hF _ _ _ _ _ m3')) (k4.same (hF _ _ _ _ _ m4')) n3
   have d1:decide ((l.length:Int)=6)=true:=decide_eq_true (by omega)
   by_cases p2:l.take 4=[112,117,116,32]
   rotate_left
   · have e2:decide (sub l 0 4=[112,117,116,32])=false:=decide_eq_false (by rw[hs];exact p2)
     simp(maxSteps:=999999)(disch:=omega)only[go_sem,zA,zM,zS,zE,zL,d1,e2]
     simp(maxSteps:=999999)(disch:=omega)only[go_sem,zA,zM,zS,zE,zL,d2,d3,d4]
     refine OpS.mkC (l25Copy_own q hx) (⟨_,Try.func60,rfl,rfl⟩:Enters Try.prog 60) rfl rfl rfl ?_
     intro c3 c4 H1 S3 S4 k3 k4 n3 m3 m4
     simp only[List.length_cons,List.length_nil,List.cons_append,List.nil_append]at k3 k4 m3 m4
     have hD:∀(X1 X2 Y1 Y2:Option Blk) (M:Heap) (T:List Nat),(∀k∈T,2≤k∧k<2+H1.length)→∀k∈T,(Y1::Y2::(H1++M))[k]? =(X1::X2::H1)[k]? :=fun X1 X2 Y1 Y2 M T hT k hk=>by
      have:=hT k hk
      rw[cons2 (by omega),cons2 (by omega),List.getElem?_append_left (by omega)]
     have hF:∀(X1 X2 Y1 Y2:Option Blk) (T:List Nat),(∀k∈T,2≤k∧k<2+H1.length)→∀k∈T,(Y1::Y2::H1)[k]? =(X1::X2::H1)[k]? :=fun X1 X2 Y1 Y2 T hT k hk=>by
      have:=hT k hk
      rw[cons2 (by omega),cons2 (by omega)]
     have m3':∀k∈S3,2≤k∧k<2+H1.length:=fun k hk=>by have:=m3 k hk;omega
     have m4':∀k∈S4,2≤k∧k<2+H1.length:=fun k hk=>by have:=m4 k hk;omega
     simp(maxSteps:=999999)(disch:=omega)only[go_sem,zA,zM,zS,zE,zL]
     exact own_fin2 rfl rfl (k3.same (hF _ _ _ _ _ m3')) (k4.same (hF _ _ _ _ _ m4')) n3
   have e2:decide (sub l 0 4=[112,117,116,32])=true:=decide_eq_true (by rw[hs];exact p2)
   by_cases p3:97≤chr l 4
   rotate_left
   · simp(maxSteps:=999999)(disch:=omega)only[go_sem,zA,zM,zS,zE,zL,d1,e2,decide_eq_false p3]
     simp(maxSteps:=999999)(disch:=omega)only[go_sem,zA,zM,zS,zE,zL,d2,d3,d4]
     refine OpS.mkC (l25Copy_own q hx) (⟨_,Try.func60,rfl,rfl⟩:Enters Try.prog 60) rfl rfl rfl ?_
     intro c3 c4 H1 S3 S4 k3 k4 n3 m3 m4
     simp only[List.length_cons,List.length_nil,List.cons_append,List.nil_append]at k3 k4 m3 m4
     have hD:∀(X1 X2 Y1 Y2:Option Blk) (M:Heap) (T:List Nat),(∀k∈T,2≤k∧k<2+H1.length)→∀k∈T,(Y1::Y2::(H1++M))[k]? =(X1::X2::H1)[k]? :=fun X1 X2 Y1 Y2 M T hT k hk=>by
      have:=hT k hk
      rw[cons2 (by omega),cons2 (by omega),List.getElem?_append_left (by omega)]
     have hF:∀(X1 X2 Y1 Y2:Option Blk) (T:List Nat),(∀k∈T,2≤k∧k<2+H1.length)→∀k∈T,(Y1::Y2::H1)[k]? =(X1::X2::H1)[k]? :=fun X1 X2 Y1 Y2 T hT k hk=>by
      have:=hT k hk
      rw[cons2 (by omega),cons2 (by omega)]
     have m3':∀k∈S3,2≤k∧k<2+H1.length:=fun k hk=>by have:=m3 k hk;omega
     have m4':∀k∈S4,2≤k∧k<2+H1.length:=fun k hk=>by have:=m4 k hk;omega
     simp(maxSteps:=999999)(disch:=omega)only[go_sem,zA,zM,zS,zE,zL]
     exact own_fin2 rfl rfl (k3.same (hF _ _ _ _ _ m3')) (k4.same (hF _ _ _ _ _ m4')) n3
   by_cases p4:chr l 4≤122
   rotate_left
   · simp(maxSteps:=999999)(disch:=omega)only[go_sem,zA,zM,zS,zE,zL,d1,e2,decide_eq_true p3,decide_eq_false p4]
     simp(maxSteps:=999999)(disch:=omega)only[go_sem,zA,zM,zS,zE,zL,d2,d3,d4]
     refine OpS.mkC (l25Copy_own q hx) (⟨_,Try.func60,rfl,rfl⟩:Enters Try.prog 60) rfl rfl rfl ?_
     intro c3 c4 H1 S3 S4 k3 k4 n3 m3 m4
     simp only[List.length_cons,List.length_nil,List.cons_append,List.nil_append]at k3 k4 m3 m4
     have hD:∀(X1 X2 Y1 Y2:Option Blk) (M:Heap) (T:List Nat),(∀k∈T,2≤k∧k<2+H1.length)→∀k∈T,(Y1::Y2::(H1++M))[k]? =(X1::X2::H1)[k]? :=fun X1 X2 Y1 Y2 M T hT k hk=>by
      have:=hT k hk
      rw[cons2 (by omega),cons2 (by omega),List.getElem?_append_left (by omega)]
     have hF:∀(X1 X2 Y1 Y2:Option Blk) (T:List Nat),(∀k∈T,2≤k∧k<2+H1.length)→∀k∈T,(Y1::Y2::H1)[k]? =(X1::X2::H1)[k]? :=fun X1 X2 Y1 Y2 T hT k hk=>by
      have:=hT k hk
      rw[cons2 (by omega),cons2 (by omega)]
     have m3':∀k∈S3,2≤k∧k<2+H1.length:=fun k hk=>by have:=m3 k hk;omega
     have m4':∀k∈S4,2≤k∧k<2+H1.length:=fun k hk=>by have:=m4 k hk;omega
     simp(maxSteps:=999999)(disch:=omega)only[go_sem,zA,zM,zS,zE,zL]
     exact own_fin2 rfl rfl (k3.same (hF _ _ _ _ _ m3')) (k4.same (hF _ _ _ _ _ m4')) n3
   by_cases p5:48≤chr l 5
   rotate_left
   · simp(maxSteps:=999999)(disch:=omega)only[go_sem,zA,zM,zS,zE,zL,d1,e2,decide_eq_true p3,decide_eq_true p4,decide_eq_false p5]
     simp(maxSteps:=999999)(disch:=omega)only[go_sem,zA,zM,zS,zE,zL,d2,d3,d4]
     refine OpS.mkC (l25Copy_own q hx) (⟨_,Try.func60,rfl,rfl⟩:Enters Try.prog 60) rfl rfl rfl ?_
     intro c3 c4 H1 S3 S4 k3 k4 n3 m3 m4
     simp only[List.length_cons,List.length_nil,List.cons_append,List.nil_append]at k3 k4 m3 m4
     have hD:∀(X1 X2 Y1 Y2:Option Blk) (M:Heap) (T:List Nat),(∀k∈T,2≤k∧k<2+H1.length)→∀k∈T,(Y1::Y2::(H1++M))[k]? =(X1::X2::H1)[k]? :=fun X1 X2 Y1 Y2 M T hT k hk=>by
      have:=hT k hk
      rw[cons2 (by omega),cons2 (by omega),List.getElem?_append_left (by omega)]
     have hF:∀(X1 X2 Y1 Y2:Option Blk) (T:List Nat),(∀k∈T,2≤k∧k<2+H1.length)→∀k∈T,(Y1::Y2::H1)[k]? =(X1::X2::H1)[k]? :=fun X1 X2 Y1 Y2 T hT k hk=>by
      have:=hT k hk
      rw[cons2 (by omega),cons2 (by omega)]
     have m3':∀k∈S3,2≤k∧k<2+H1.length:=fun k hk=>by have:=m3 k hk;omega
     have m4':∀k∈S4,2≤k∧k<2+H1.length:=fun k hk=>by have:=m4 k hk;omega
     simp(maxSteps:=999999)(disch:=omega)only[go_sem,zA,zM,zS,zE,zL]
     exact own_fin2 rfl rfl (k3.same (hF _ _ _ _ _ m3')) (k4.same (hF _ _ _ _ _ m4')) n3
   have p6:¬chr l 5≤57:=fun p6=>hp ⟨p1,p2,⟨p3,p4⟩,p5,p6⟩
   simp(maxSteps:=999999)(disch:=omega)only[go_sem,zA,zM,zS,zE,zL,d1,e2,decide_eq_true p3,decide_eq_true p4,decide_eq_true p5,decide_eq_false p6]
   simp(maxSteps:=999999)(disch:=omega)only[go_sem,zA,zM,zS,zE,zL,d2,d3,d4]
   refine OpS.mkC (l25Copy_own q hx) (⟨_,Try.func60,rfl,rfl⟩:Enters Try.prog 60) rfl rfl rfl ?_
   intro c3 c4 H1 S3 S4 k3 k4 n3 m3 m4
   simp only[List.length_cons,List.length_nil,List.cons_append,List.nil_append]at k3 k4 m3 m4
   have hD:∀(X1 X2 Y1 Y2:Option Blk) (M:Heap) (T:List Nat),(∀k∈T,2≤k∧k<2+H1.length)→∀k∈T,(Y1::Y2::(H1++M))[k]? =(X1::X2::H1)[k]? :=fun X1 X2 Y1 Y2 M T hT k hk=>by
    have:=hT k hk
    rw[cons2 (by omega),cons2 (by omega),List.getElem?_append_left (by omega)]
   have hF:∀(X1 X2 Y1 Y2:Option Blk) (T:List Nat),(∀k∈T,2≤k∧k<2+H1.length)→∀k∈T,(Y1::Y2::H1)[k]? =(X1::X2::H1)[k]? :=fun X1 X2 Y1 Y2 T hT k hk=>by
    have:=hT k hk
    rw[cons2 (by omega),cons2 (by omega)]
   have m3':∀k∈S3,2≤k∧k<2+H1.length:=fun k hk=>by have:=m3 k hk;omega
   have m4':∀k∈S4,2≤k∧k<2+H1.length:=fun k hk=>by have:=m4 k hk;omega
   simp(maxSteps:=999999)(disch:=omega)only[go_sem,zA,zM,zS,zE,zL]
   exact own_fin2 rfl rfl (k3.same (hF _ _ _ _ _ m3')) (k4.same (hF _ _ _ _ _ m4')) n3
end Go.Lg

namespace Go.Lg
open Go.Proofs
attribute [-go_sem] appendM lwF_cons
structure OwnP0(H:Heap)(c r:CV)(p:Puz)(S1 S2:List Nat):Prop where
 g:OwnI H c p.given S1
 rr:(r= .f .nil∧p.rules=[]∧S2=[])∨OwnR H r p.rules S2
 nd:(S1++S2).Nodup
 l:limN r
theorem limN_shift{r:CV}{k:Nat}(h:limN r):limN (shiftC k r):=by
 cases r with
 |f v=>cases v<;>exact h
 |_=>exact h
section
variable{H H':Heap}{c r:CV}{p:Puz}{S1 S2:List Nat}
theorem OwnP0.same(h:OwnP0 H c r p S1 S2)(hs:∀i∈S1++S2,H'[i]? =H[i]?):OwnP0 H' c r p S1 S2:=
 ⟨h.g.same fun i hi=>hs i (by simp[hi]),h.rr.imp id fun k=>k.same fun i hi=>hs i (by simp[hi]),h.nd,h.l⟩
theorem OwnP0.lt(h:OwnP0 H c r p S1 S2):∀i∈S1++S2,i<H.length:=fun i hi=>by
 rcases List.mem_append.1 hi with hi|hi
 · exact h.g.lt i hi
 · rcases h.rr with⟨_,_,rfl⟩|k
   · simp at hi
   · exact k.lt i hi
theorem OwnP0.blk(h:OwnP0 H c r p S1 S2):(∀i∈S1++S2,∀b,H[i]? =some (some b)→∀x∈b.cs,scalC x=true)∧scalC c=true∧scalC r=true:=by
 refine⟨fun i hi=> ?_,h.g.scal1, ?_⟩
 · rcases List.mem_append.1 hi with hi|hi
   · exact h.g.blk i hi
   · rcases h.rr with⟨_,_,rfl⟩|k
     · simp at hi
     · exact k.blk i hi
 · rcases h.rr with⟨rfl,_,_⟩|k
   · rfl
   · exact k.scal1
theorem OwnP0.shift{H0:Heap}(h:OwnP0 H c r p S1 S2):OwnP0 (H0++shiftH H0.length H) (shiftC H0.length c) (shiftC H0.length r) p (S1.map (· +H0.length)) (S2.map (· +H0.length)):=by
 refine⟨h.g.shift, ?_, ?_,limN_shift h.l⟩
 · rcases h.rr with⟨rfl,h1,rfl⟩|k
   · exact .inl ⟨rfl,h1,rfl⟩
   · exact .inr k.shift
 · rw[←List.map_append]
   exact List.pairwise_map.2 (h.nd.imp fun h h'=>h (by omega))
theorem OwnP0.snap(h:OwnP0 H c r p S1 S2):[AV.agg [.f (.int .i64 p.size),c,r]].mapM (snapD H)=some [aP p]:=by
 have e1:∀x:Int,frzC H (.f (.int .i64 x))=some (.f (.int .i64 x)):=fun _=>rfl
 have e2:=h.g.frzC
 have e3:frzC H r=some (.f (fsl eR p.rules)):=by
  rcases h.rr with⟨rfl,h1,_⟩|k
  · rw[h1];exact(OwnL.n (E:=eR) (n:=3)).frzC
  · exact k.frzC
 simp only[snapD,List.mapM_cons,List.mapM_nil,e1,e2,e3,Option.bind_eq_bind,Option.pure_def,Option.bind_some,Option.map_some]
end
section
variable{P:Program}{o:Oper}{st:St}{K:KV}{fo:Operand}{xs:Array Operand}{ts:Array TypeId}{f:FuncId}{args args':List AV}{p:Puz}
end
end Go.Lg

namespace Go.Lg
open Go.Proofs
structure Lat(s:List Int)(n:Nat):Prop where
 hn:n=2∨n=3∨n=4
 full:Full n s
 nc:NC s n
theorem Lat.val{s:List Int}{n:Nat}(h:Lat s n){k:Nat}(hk:k<n*n):1≤(nth s k).toNat∧(nth s k).toNat≤n∧nth s k=((nth s k).toNat:Nat):=by
 have h1:=h.full.2 k hk
 have h2:=h.full.1.val k (by rw[h.full.1.len];exact hk)
 omega
theorem Lat.ne{s:List Int}{n:Nat}(h:Lat s n){a b:Nat}(ha:a<n*n)(hb:b<n*n)(hab:a≠b)(hl:a/n=b/n∨a%n=b%n):(nth s a).toNat≠(nth s b).toNat:=by
 have h1:=h.val ha
 have h2:=h.val hb
 rcases Nat.lt_or_ge a b with hlt|hge
 · have:=h.nc a b hlt hb hl (by omega)
   omega
 · have:=h.nc b a (by omega) ha (hl.imp Eq.symm Eq.symm) (by omega)
   omega
theorem ln_rel{n line i j:Nat}(hn:n=2∨n=3∨n=4)(hl:line<2*n)(hi:i<n)(hj:j<n):lnN n line i/n=lnN n line j/n∨lnN n line i%n=lnN n line j%n:=by
 unfold lnN
 rw[lineC_nth hi,lineC_nth hj]
 split
 · left;rcases hn with rfl|rfl|rfl<;>omega
 · right;rcases hn with rfl|rfl|rfl<;>omega
theorem Lat.line{s:List Int}{n:Nat}(h:Lat s n){line i j:Nat}(hl:line<2*n)(hi:i<n)(hj:j<n)(hij:i≠j):(nth s (lnN n line i)).toNat≠(nth s (lnN n line j)).toNat:=
 h.ne (lnN_lt h.hn hl hi).1 (lnN_lt h.hn hl hj).1 (fun e=>hij ((lnN_inj h.hn hl hi hj).1 e)) (ln_rel h.hn hl hi hj)
end Go.Lg

namespace Go.Lg
open Go.Proofs
def SubM(a b:List Nat):Prop:=∀k i:Nat,(mAt a k).testBit i=true→(mAt b k).testBit i=true
theorem SubM.refl(a:List Nat):SubM a a:=fun _ _ h=>h
theorem SubM.trans{a b c:List Nat}(h:SubM a b)(g:SubM b c):SubM a c:=fun k i x=>g k i (h k i x)
end Go.Lg
