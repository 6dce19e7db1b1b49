/- GpSB, GpFF, GpIA, cut to what is needed. -/
import Derived.Test.YtidekghnkifbjaaGreatDoorJac4
import Derived.Test.YtidekghnkifbjaaGreatDoorJad2
import Derived.Test.YtidekghnkifbjaaGreatDoorJad3
import Derived.Test.YtidekghnkifbjaaGreatDoorJad0
import Derived.Test.YtidekghnkifbjaaGreatDoorJad1
import Derived.Test.YtidekghnkifbjaaGreatDoorJab4
open List renaming cons_append → Ja, getElem?_append_left → Jb, nil_append → Jc, replicate → Jd, length_cons → Je, length_nil → Jf, length_append → Jk, append_nil → Ju, mem_map → Qh
open Nat renaming reduceAdd→zA,reduceMul→zM,reduceSub→zS,reduceEqDiff→zE,reduceLeDiff→zL
set_option linter.unusedSimpArgs false
set_option linter.unusedVariables false
set_option maxRecDepth 100000
namespace Go.Lg
open Go.Proofs
attribute [-go_sem] J9 JE
def okT:List UInt8:=[111,107]
def noT:List UInt8:=[110,111]
def Je4:List UInt8:=[110,111,110,101]
def FZ:List UInt8:=[115,111,108,118,101,100]
def Jfj:List UInt8:=[103,111,111,100]
def BE:List UInt8:=[119,114,111,110,103]
def RF:List UInt8:=[119,104,97,116]
def YJ:List UInt8:=[98,97,99,107]
def Kf:List UInt8:=[104,105,110,116]
def Un:List UInt8:=[99,104,101,99,107]
def Kd(l:List UInt8):Prop:=l.length=6∧l.take 4=[112,117,116,32]∧(97≤X4 l 4∧X4 l 4≤122)∧48≤X4 l 5∧X4 l 5≤57
instance(l:List UInt8):Decidable (Kd l):=by unfold Kd;infer_instance
def VJ(q:ZF)(l:List UInt8):ZF:=if Qo q=true then(if Kd l then ZM q (X4 l 4 -97) (X4 l 5 -48)else if l=YJ then QI q else q)else F9
def Ys(q:ZF):List UInt8:=if Uo q.task (JK q)=true then FZ else if XD q.task (JK q)=true then Jfj else BE
def WI(q:ZF)(l:List UInt8):List UInt8:=if Qo q=true then(if Kd l then(if Zg q (X4 l 4 -97) (X4 l 5 -48)=true then okT else noT)
 else if l=YJ then(if QT q=true then okT else noT)else if l=Kf then(if Vo q.task (JK q)=true then Wb (UK q.task (JK q))else Je4)else if l=Un then Ys q else RF)else[]
theorem Jd5{q:ZF}{n:Nat}(h:UJ q n)(l:List UInt8):UJ (VJ q l) n:=by
 unfold VJ
 rw[if_pos h.valid]
 split
 · exact JfS h
 · split
   · exact Jex h
   · exact h
theorem Wo{q:ZF}(hv:Qo q=true):(JK q).length≤16:=by
 obtain⟨n,h⟩:=UJ.of hv
 rw[h.grid,Uz]
 have:=h.len
 have:=h.ln
 omega
theorem Ul{H:Jm}{q q':ZF}{y y':AV}{c3 c4:CV}{S3 S4:List Nat}(hq:q'=q)(hy:y'=y)(k3:Z2 H c3 q.put S3)(k4:Z2 H c4 q.moves S4)(hd:∀k∈S3,k∉S4):
 Uy H (Xr q' y') (.tup [.agg [.f (.int .i64 q.task.size), .f (Qf q.task.given), .f (Va eR q.task.rules),c3,c4],y]):=by
 subst hq hy
 exact⟨H,J0.refl _,c3,c4,rfl,S3,S4,k3,k4,hd⟩
section
variable{P:Program}{o:Oper}{st:St}{K:KV}{fo:Operand}{xs:Array Operand}{ts:Array TypeId}{f:FuncId}{args args':List AV}
theorem JY.mkE{q:ZF}{b:Bool}(hc:Jn P f args [] (Xr q (bool b)))(he:Jh P f)(ho:o.op= .call ⟨.value fo,xs,ts⟩)(ha:Qa st fo xs=some (f,args))(hf:args.all Q0=true)
 (hk:∀c3 c4 H' S3 S4,Z2 (st.h++H') c3 q.put S3→Z2 (st.h++H') c4 q.moves S4→(∀k∈S3,k∉S4)→(∀i∈S3,st.h.length≤i∧i<st.h.length+H'.length)→(∀i∈S4,st.h.length≤i∧i<st.h.length+H'.length)→
   K (.tup [.agg [.f (.int .i64 q.task.size), .f (Qf q.task.given), .f (Va eR q.task.rules),c3,c4],bool b]) (st.h++H')):JY P o st K:=
 JY.mkQ hc he ho ha hf fun r H' ⟨c3,c4,h1,S3,S4,h3,h4,hd⟩=>by
  subst h1
  refine⟨rfl,hk _ _ _ _ _ h3.shift h4.shift (fun k hk hm=> ?_) (by rw[Q5];exact UF h3.lt) (by rw[Q5];exact UF h4.lt)⟩
  obtain⟨a,ha,rfl⟩:=Qh.1 hk
  obtain⟨b,hb,he⟩:=Qh.1 hm
  have:b=a:=by omega
  subst this
  exact hd b ha hb
theorem JM.mkE{ops:Array Oper}{s:List AV}{H:Jm}{q:ZF}{b:Bool}(hc:Jn P f args [] (Xr q (bool b)))(he:Jh P f)(ho:o.op= .call ⟨.value fo,xs,ts⟩)(ha:Qa ⟨s,H⟩ fo xs=some (f,args))(hf:args.all Q0=true)
 (hk:∀c3 c4 H' S3 S4,Z2 (H++H') c3 q.put S3→Z2 (H++H') c4 q.moves S4→(∀k∈S3,k∉S4)→(∀i∈S3,H.length≤i∧i<H.length+H'.length)→(∀i∈S4,H.length≤i∧i<H.length+H'.length)→
   K (.tup [.agg [.f (.int .i64 q.task.size), .f (Qf q.task.given), .f (Va eR q.task.rules),c3,c4],bool b]) (H++H')):JM P ops o s H K:=
 JM.call ho ha fun s' ha'=>JY.mkE (st:=⟨s',H⟩) hc he ho ha' hf hk
theorem JM.mkC{ops:Array Oper}{s:List AV}{H:Jm}{q:ZF}(hc:Jn P f args [] (JiL q))(he:Jh P f)(ho:o.op= .call ⟨.value fo,xs,ts⟩)(ha:Qa ⟨s,H⟩ fo xs=some (f,args))(hf:args.all Q0=true)
 (hk:∀c3 c4 H' S3 S4,Z2 (H++H') c3 q.put S3→Z2 (H++H') c4 q.moves S4→(∀k∈S3,k∉S4)→(∀i∈S3,H.length≤i∧i<H.length+H'.length)→(∀i∈S4,H.length≤i∧i<H.length+H'.length)→
   K (.agg [.f (.int .i64 q.task.size), .f (Qf q.task.given), .f (Va eR q.task.rules),c3,c4]) (H++H')):JM P ops o s H K:=
 JM.call ho ha fun s' ha'=>JY.mkC (st:=⟨s',H⟩) hc he ho ha' hf hk
end
set_option maxHeartbeats 4000000 in
theorem NN(q:ZF)(l:List UInt8)(hx:smG q)(hl:l.length≤2^40)(hv:Qo q=true):Jn Tryz.prog 31 [aG q,Ye l] [] (Xr (VJ q l) (Ye (WI q l))):=by
 have hgl:=Wo hv
 have eG:VJ q l=if Kd l then ZM q (X4 l 4 -97) (X4 l 5 -48)else if l=YJ then QI q else q:=by unfold VJ;rw[if_pos hv]
 have eT:WI q l=if Kd l then(if Zg q (X4 l 4 -97) (X4 l 5 -48)=true then okT else noT)else if l=YJ then(if QT q=true then okT else noT)else if l=Kf then(if Vo q.task (JK q)=true then Wb (UK q.task (JK q))else Je4)else if l=Un then Ys q else RF:=by unfold WI;rw[if_pos hv]
 refine Jn.cw (c:=_) Tryz.func31 rfl (n:=113) Tryz.ntmps31 (rs:=[.cell 4 28, .tmp 5]) rfl ?_
 simp only[Je,Jf,zA,zS,Jd,Ja,Jc]
 simp(maxSteps:=999999)(disch:=omega)only[go_sem,zA,zM,zS,zE,zL]
 intro g1 g2
 first|refine JY.rd (Zt q hx) (⟨_,Tryz.func12,rfl,rfl⟩:Jh Tryz.prog 12) rfl rfl rfl rfl ?_|refine JM.rd (Zt q hx) (⟨_,Tryz.func12,rfl,rfl⟩:Jh Tryz.prog 12) rfl rfl rfl rfl ?_
 simp(maxSteps:=999999)(disch:=omega)only[go_sem,zA,zM,zS,zE,zL]
 rw[hv]
 simp(maxSteps:=999999)(disch:=omega)only[go_sem,zA,zM,zS,zE,zL]
 first|refine JY.mk (JW.ownI (Vs q hx)) (⟨_,Tryz.func11,rfl,rfl⟩:Jh Tryz.prog 11) rfl rfl rfl rfl rfl ?_|refine JM.mk (JW.ownI (Vs q hx)) (⟨_,Tryz.func11,rfl,rfl⟩:Jh Tryz.prog 11) rfl rfl rfl rfl rfl ?_
 simp(maxSteps:=999999)(disch:=omega)only[go_sem,zA,zM,zS,zE,zL]
 by_cases hp:Kd l
 · obtain⟨h1,h2,⟨h3,h4⟩,h5,h6⟩:=id hp
   have d1:decide ((l.length:Int)=6)=true:=decide_eq_true (by omega)
   have hs:sub l 0 4=l.take 4:=rfl
   have d2:decide (sub l 0 4=[112,117,116,32])=true:=decide_eq_true (by rw[hs];exact h2)
   have d3:decide (97≤X4 l 4)=true:=decide_eq_true h3
   have d4:decide (X4 l 4≤122)=true:=decide_eq_true h4
   have d5:decide (48≤X4 l 5)=true:=decide_eq_true h5
   have d6:decide (X4 l 5≤57)=true:=decide_eq_true h6
   rw[eG,eT,if_pos hp,if_pos hp]
   simp(maxSteps:=999999)(disch:=omega)only[go_sem,zA,zM,zS,zE,zL,d1,d2,d3,d4,d5,d6]
   refine Jbw [0,1,2,3,4,5,6,7,8,13,9,10,11,12] [] (some 13) [14,15] 12 [] Zd (by kernel_rfl) ?_
   iterate 11 (rw[JE];simp(maxSteps:=999999)(disch:=omega)only[go_sem,zA,zM,zS,zE,zL])
   refine JM.mkE (Ja1 q (X4 l 4 -97) (X4 l 5 -48) hx hv) (⟨_,Tryz.func72,rfl,rfl⟩:Jh Tryz.prog 72) rfl rfl rfl ?_
   intro c3 c4 H1 S3 S4 k3 k4 n3 m3 m4
   simp(maxSteps:=999999)(disch:=omega)only[go_sem,zA,zM,zS,zE,zL]
   iterate 3 (rw[JE];simp(maxSteps:=999999)(disch:=omega)only[go_sem,zA,zM,zS,zE,zL])
   simp only[Je,Jf,Ja,Jc]at k3 k4 m3 m4
   have hD:∀(X1 X2 Y1 Y2:Option Zv) (M:Jm) (T:List Nat),(∀k∈T,2≤k∧k<2+H1.length)→∀k∈T,(Y1::Y2::(H1++M))[k]? =(X1::X2::H1)[k]? :=fun X1 X2 Y1 Y2 M T hT k hk=>by
    have:=hT k hk
    rw[QF (by omega),QF (by omega),Jb (by omega)]
   have hF:∀(X1 X2 Y1 Y2:Option Zv) (T:List Nat),(∀k∈T,2≤k∧k<2+H1.length)→∀k∈T,(Y1::Y2::H1)[k]? =(X1::X2::H1)[k]? :=fun X1 X2 Y1 Y2 T hT k hk=>by
    have:=hT k hk
    rw[QF (by omega),QF (by omega)]
   have m3':∀k∈S3,2≤k∧k<2+H1.length:=fun k hk=>by have:=m3 k hk;omega
   have m4':∀k∈S4,2≤k∧k<2+H1.length:=fun k hk=>by have:=m4 k hk;omega
   intro g3
   refine RI rfl (.inr rfl) ?_
   simp(maxSteps:=999999)(disch:=omega)only[go_sem,zA,zM,zS,zE,zL,JI,QP]
   refine RI rfl (.inl rfl) ?_
   cases hb:Zg q (X4 l 4 -97) (X4 l 5 -48)with
   |true=>
    simp(maxSteps:=999999)(disch:=omega)only[go_sem,zA,zM,zS,zE,zL,JI,QP]
    exact Ul rfl rfl (k3.same (hD _ _ _ _ _ _ m3')) (k4.same (hD _ _ _ _ _ _ m4')) n3
   |false=>
    simp(maxSteps:=999999)(disch:=omega)only[go_sem,zA,zM,zS,zE,zL,JI,QP]
    exact Ul rfl rfl (k3.same (hD _ _ _ _ _ _ m3')) (k4.same (hD _ _ _ _ _ _ m4')) n3
 · by_cases hb:l=YJ
   · subst hb
     rw[eG,eT,if_neg hp,if_neg hp,if_pos rfl,if_pos rfl]
     have d1:decide ((YJ.length:Int)=6)=false:=rfl
     have d2:decide (YJ=[98,97,99,107])=true:=rfl
     simp(maxSteps:=999999)(disch:=omega)only[go_sem,zA,zM,zS,zE,zL,d1,d2]
     refine JY.mkE (NO q hx hv) (⟨_,Tryz.func73,rfl,rfl⟩:Jh Tryz.prog 73) rfl rfl rfl ?_
     intro c3 c4 H1 S3 S4 k3 k4 n3 m3 m4
     simp only[Je,Jf,Ja,Jc]at k3 k4 m3 m4
     have hD:∀(X1 X2 Y1 Y2:Option Zv) (M:Jm) (T:List Nat),(∀k∈T,2≤k∧k<2+H1.length)→∀k∈T,(Y1::Y2::(H1++M))[k]? =(X1::X2::H1)[k]? :=fun X1 X2 Y1 Y2 M T hT k hk=>by
      have:=hT k hk
      rw[QF (by omega),QF (by omega),Jb (by omega)]
     have hF:∀(X1 X2 Y1 Y2:Option Zv) (T:List Nat),(∀k∈T,2≤k∧k<2+H1.length)→∀k∈T,(Y1::Y2::H1)[k]? =(X1::X2::H1)[k]? :=fun X1 X2 Y1 Y2 T hT k hk=>by
      have:=hT k hk
      rw[QF (by omega),QF (by omega)]
     have m3':∀k∈S3,2≤k∧k<2+H1.length:=fun k hk=>by have:=m3 k hk;omega
     have m4':∀k∈S4,2≤k∧k<2+H1.length:=fun k hk=>by have:=m4 k hk;omega
     simp(maxSteps:=999999)(disch:=omega)only[go_sem,zA,zM,zS,zE,zL]
     intro g3
     simp(maxSteps:=999999)(disch:=omega)only[go_sem,zA,zM,zS,zE,zL,JI,QP]
     cases hb:QT q with
     |true=>
      simp(maxSteps:=999999)(disch:=omega)only[go_sem,zA,zM,zS,zE,zL,JI,QP]
      exact Ul rfl rfl (k3.same (hD _ _ _ _ _ _ m3')) (k4.same (hD _ _ _ _ _ _ m4')) n3
     |false=>
      simp(maxSteps:=999999)(disch:=omega)only[go_sem,zA,zM,zS,zE,zL,JI,QP]
      exact Ul rfl rfl (k3.same (hD _ _ _ _ _ _ m3')) (k4.same (hD _ _ _ _ _ _ m4')) n3
   by_cases hh:l=Kf
   · subst hh
     rw[eG,eT,if_neg hp,if_neg hp,if_neg hb,if_neg hb,if_pos rfl]
     have d1:decide ((Kf.length:Int)=6)=false:=rfl
     have d2:decide (Kf=[98,97,99,107])=false:=rfl
     have d3:decide (Kf=[104,105,110,116])=true:=rfl
     simp(maxSteps:=999999)(disch:=omega)only[go_sem,zA,zM,zS,zE,zL,d1,d2,d3]
     first|refine JY.mk (Xx q.task (JK q) hx.1 (by omega)) (⟨_,Tryz.func74,rfl,rfl⟩:Jh Tryz.prog 74) rfl rfl rfl rfl rfl ?_|refine JM.mk (Xx q.task (JK q) hx.1 (by omega)) (⟨_,Tryz.func74,rfl,rfl⟩:Jh Tryz.prog 74) rfl rfl rfl rfl rfl ?_
     simp(maxSteps:=999999)(disch:=omega)only[go_sem,zA,zM,zS,zE,zL]
     intro g3
     cases hhb:Vo q.task (JK q)with
     |true=>
      simp(maxSteps:=999999)(disch:=omega)only[go_sem,zA,zM,zS,zE,zL]
      refine Q4 [0,2,1] [] none [3,4,5] [] [0,1,0,7,15,31] Zd (by kernel_rfl) ?_
      iterate 2 (rw[JE];simp(maxSteps:=999999)(disch:=omega)only[go_sem,zA,zM,zS,zE,zL])
      rw[JE]
      simp(maxSteps:=999999)(disch:=omega)only[go_sem,zA,zM,zS,zE,zL]
      refine JM.mkC (ZE q hx) (⟨_,Tryz.func58,rfl,rfl⟩:Jh Tryz.prog 58) rfl rfl rfl ?_
      intro c3 c4 H1 S3 S4 k3 k4 n3 m3 m4
      simp only[Je,Jf,Ja,Jc]at k3 k4 m3 m4
      have hF3:∀(X1 X2 X3 Y1 Y2 Y3:Option Zv) (T:List Nat),(∀k∈T,3≤k∧k<3+H1.length)→∀k∈T,(Y1::Y2::Y3::H1)[k]? =(X1::X2::X3::H1)[k]? :=fun X1 X2 X3 Y1 Y2 Y3 T hT k hk=>by
       obtain⟨j,rfl⟩:∃j,k=j+3:=⟨k -3,by have:=hT k hk;omega⟩
       rfl
      have m3':∀k∈S3,3≤k∧k<3+H1.length:=fun k hk=>by have:=m3 k hk;omega
      have m4':∀k∈S4,3≤k∧k<3+H1.length:=fun k hk=>by have:=m4 k hk;omega
      simp(maxSteps:=999999)(disch:=omega)only[go_sem,zA,zM,zS,zE,zL]
      first|refine JY.rd (KZ (UK q.task (JK q))) (⟨_,Tryz.func75,rfl,rfl⟩:Jh Tryz.prog 75) rfl rfl rfl rfl ?_|refine JM.rd (KZ (UK q.task (JK q))) (⟨_,Tryz.func75,rfl,rfl⟩:Jh Tryz.prog 75) rfl rfl rfl rfl ?_
      simp(maxSteps:=999999)(disch:=omega)only[go_sem,zA,zM,zS,zE,zL]
      exact Ul rfl rfl (k3.same (hF3 _ _ _ _ _ _ _ m3')) (k4.same (hF3 _ _ _ _ _ _ _ m4')) n3
     |false=>
      simp(maxSteps:=999999)(disch:=omega)only[go_sem,zA,zM,zS,zE,zL]
      refine JY.mkC (ZE q hx) (⟨_,Tryz.func58,rfl,rfl⟩:Jh Tryz.prog 58) rfl rfl rfl ?_
      intro c3 c4 H1 S3 S4 k3 k4 n3 m3 m4
      simp only[Je,Jf,Ja,Jc]at k3 k4 m3 m4
      have hF3:∀(X1 X2 X3 Y1 Y2 Y3:Option Zv) (T:List Nat),(∀k∈T,3≤k∧k<3+H1.length)→∀k∈T,(Y1::Y2::Y3::H1)[k]? =(X1::X2::X3::H1)[k]? :=fun X1 X2 X3 Y1 Y2 Y3 T hT k hk=>by
       obtain⟨j,rfl⟩:∃j,k=j+3:=⟨k -3,by have:=hT k hk;omega⟩
       rfl
      have m3':∀k∈S3,3≤k∧k<3+H1.length:=fun k hk=>by have:=m3 k hk;omega
      have m4':∀k∈S4,3≤k∧k<3+H1.length:=fun k hk=>by have:=m4 k hk;omega
      simp(maxSteps:=999999)(disch:=omega)only[go_sem,zA,zM,zS,zE,zL]
      exact Ul rfl rfl (k3.same (hF3 _ _ _ _ _ _ _ m3')) (k4.same (hF3 _ _ _ _ _ _ _ m4')) n3
   by_cases hc:l=Un
   · subst hc
     rw[eG,eT,if_neg hp,if_neg hp,if_neg hb,if_neg hb,if_neg hh,if_pos rfl]
     have d1:decide ((Un.length:Int)=6)=false:=rfl
     have d2:decide (Un=[98,97,99,107])=false:=rfl
     have d3:decide (Un=[104,105,110,116])=false:=rfl
     have d4:decide (Un=[99,104,101,99,107])=true:=rfl
     simp(maxSteps:=999999)(disch:=omega)only[go_sem,zA,zM,zS,zE,zL,d1,d2,d3,d4]
     first|refine JY.rd (VT q.task (JK q) hx.1 (by omega)) (⟨_,Tryz.func76,rfl,rfl⟩:Jh Tryz.prog 76) rfl rfl rfl rfl ?_|refine JM.rd (VT q.task (JK q) hx.1 (by omega)) (⟨_,Tryz.func76,rfl,rfl⟩:Jh Tryz.prog 76) rfl rfl rfl rfl ?_
     simp(maxSteps:=999999)(disch:=omega)only[go_sem,zA,zM,zS,zE,zL]
     unfold Ys
     cases hs:Uo q.task (JK q)with
     |true=>
      simp(maxSteps:=999999)(disch:=omega)only[go_sem,zA,zM,zS,zE,zL]
      refine JY.mkC (ZE q hx) (⟨_,Tryz.func58,rfl,rfl⟩:Jh Tryz.prog 58) rfl rfl rfl ?_
      intro c3 c4 H1 S3 S4 k3 k4 n3 m3 m4
      simp only[Je,Jf,Ja,Jc]at k3 k4 m3 m4
      have hD:∀(X1 X2 Y1 Y2:Option Zv) (M:Jm) (T:List Nat),(∀k∈T,2≤k∧k<2+H1.length)→∀k∈T,(Y1::Y2::(H1++M))[k]? =(X1::X2::H1)[k]? :=fun X1 X2 Y1 Y2 M T hT k hk=>by
       have:=hT k hk
       rw[QF (by omega),QF (by omega),Jb (by omega)]
      have hF:∀(X1 X2 Y1 Y2:Option Zv) (T:List Nat),(∀k∈T,2≤k∧k<2+H1.length)→∀k∈T,(Y1::Y2::H1)[k]? =(X1::X2::H1)[k]? :=fun X1 X2 Y1 Y2 T hT k hk=>by
       have:=hT k hk
       rw[QF (by omega),QF (by omega)]
      have m3':∀k∈S3,2≤k∧k<2+H1.length:=fun k hk=>by have:=m3 k hk;omega
      have m4':∀k∈S4,2≤k∧k<2+H1.length:=fun k hk=>by have:=m4 k hk;omega
      simp(maxSteps:=999999)(disch:=omega)only[go_sem,zA,zM,zS,zE,zL]
      exact Ul rfl rfl (k3.same (hF _ _ _ _ _ m3')) (k4.same (hF _ _ _ _ _ m4')) n3
     |false=>
      simp(maxSteps:=999999)(disch:=omega)only[go_sem,zA,zM,zS,zE,zL]
      first|refine JY.rd (YZ q.task (JK q) hx.1 (by omega)) (⟨_,Tryz.func77,rfl,rfl⟩:Jh Tryz.prog 77) rfl rfl rfl rfl ?_|refine JM.rd (YZ q.task (JK q) hx.1 (by omega)) (⟨_,Tryz.func77,rfl,rfl⟩:Jh Tryz.prog 77) rfl rfl rfl rfl ?_
      simp(maxSteps:=999999)(disch:=omega)only[go_sem,zA,zM,zS,zE,zL]
      cases hcf:XD q.task (JK q)with
      |true=>
       simp(maxSteps:=999999)(disch:=omega)only[go_sem,zA,zM,zS,zE,zL]
       refine JY.mkC (ZE q hx) (⟨_,Tryz.func58,rfl,rfl⟩:Jh Tryz.prog 58) rfl rfl rfl ?_
       intro c3 c4 H1 S3 S4 k3 k4 n3 m3 m4
       simp only[Je,Jf,Ja,Jc]at k3 k4 m3 m4
       have hD:∀(X1 X2 Y1 Y2:Option Zv) (M:Jm) (T:List Nat),(∀k∈T,2≤k∧k<2+H1.length)→∀k∈T,(Y1::Y2::(H1++M))[k]? =(X1::X2::H1)[k]? :=fun X1 X2 Y1 Y2 M T hT k hk=>by
        have:=hT k hk
        rw[QF (by omega),QF (by omega),Jb (by omega)]
       have hF:∀(X1 X2 Y1 Y2:Option Zv) (T:List Nat),(∀k∈T,2≤k∧k<2+H1.length)→∀k∈T,(Y1::Y2::H1)[k]? =(X1::X2::H1)[k]? :=fun X1 X2 Y1 Y2 T hT k hk=>by
        have:=hT k hk
        rw[QF (by omega),QF (by omega)]
       have m3':∀k∈S3,2≤k∧k<2+H1.length:=fun k hk=>by have:=m3 k hk;omega
       have m4':∀k∈S4,2≤k∧k<2+H1.length:=fun k hk=>by have:=m4 k hk;omega
       simp(maxSteps:=999999)(disch:=omega)only[go_sem,zA,zM,zS,zE,zL]
       exact Ul rfl rfl (k3.same (hF _ _ _ _ _ m3')) (k4.same (hF _ _ _ _ _ m4')) n3
      |false=>
       simp(maxSteps:=999999)(disch:=omega)only[go_sem,zA,zM,zS,zE,zL]
       refine JY.mkC (ZE q hx) (⟨_,Tryz.func58,rfl,rfl⟩:Jh Tryz.prog 58) rfl rfl rfl ?_
       intro c3 c4 H1 S3 S4 k3 k4 n3 m3 m4
       simp only[Je,Jf,Ja,Jc]at k3 k4 m3 m4
       have hD:∀(X1 X2 Y1 Y2:Option Zv) (M:Jm) (T:List Nat),(∀k∈T,2≤k∧k<2+H1.length)→∀k∈T,(Y1::Y2::(H1++M))[k]? =(X1::X2::H1)[k]? :=fun X1 X2 Y1 Y2 M T hT k hk=>by
        have:=hT k hk
        rw[QF (by omega),QF (by omega),Jb (by omega)]
       have hF:∀(X1 X2 Y1 Y2:Option Zv) (T:List Nat),(∀k∈T,2≤k∧k<2+H1.length)→∀k∈T,(Y1::Y2::H1)[k]? =(X1::X2::H1)[k]? :=fun X1 X2 Y1 Y2 T hT k hk=>by
        have:=hT k hk
        rw[QF (by omega),QF (by omega)]
       have m3':∀k∈S3,2≤k∧k<2+H1.length:=fun k hk=>by have:=m3 k hk;omega
       have m4':∀k∈S4,2≤k∧k<2+H1.length:=fun k hk=>by have:=m4 k hk;omega
       simp(maxSteps:=999999)(disch:=omega)only[go_sem,zA,zM,zS,zE,zL]
       exact Ul rfl rfl (k3.same (hF _ _ _ _ _ m3')) (k4.same (hF _ _ _ _ _ m4')) n3
   have d2:decide (l=[98,97,99,107])=false:=decide_eq_false hb
   have d3:decide (l=[104,105,110,116])=false:=decide_eq_false hh
   have d4:decide (l=[99,104,101,99,107])=false:=decide_eq_false hc
   rw[eG,eT,if_neg hp,if_neg hp,if_neg hb,if_neg hb,if_neg hh,if_neg hc]
   have hs:sub l 0 4=l.take 4:=rfl
   by_cases p1:l.length=6
   rotate_left
   · have d1:decide ((l.length:Int)=6)=false:=decide_eq_false (by omega)
     simp(maxSteps:=999999)(disch:=omega)only[go_sem,zA,zM,zS,zE,zL,d1]
     simp(maxSteps:=999999)(disch:=omega)only[go_sem,zA,zM,zS,zE,zL,d2,d3,d4]
     refine JY.mkC (ZE q hx) (⟨_,Tryz.func58,rfl,rfl⟩:Jh Tryz.prog 58) rfl rfl rfl ?_
     intro c3 c4 H1 S3 S4 k3 k4 n3 m3 m4
     simp only[Je,Jf,Ja,Jc]at k3 k4 m3 m4
     have hD:∀(X1 X2 Y1 Y2:Option Zv) (M:Jm) (T:List Nat),(∀k∈T,2≤k∧k<2+H1.length)→∀k∈T,(Y1::Y2::(H1++M))[k]? =(X1::X2::H1)[k]? :=fun X1 X2 Y1 Y2 M T hT k hk=>by
      have:=hT k hk
      rw[QF (by omega),QF (by omega),Jb (by omega)]
     have hF:∀(X1 X2 Y1 Y2:Option Zv) (T:List Nat),(∀k∈T,2≤k∧k<2+H1.length)→∀k∈T,(Y1::Y2::H1)[k]? =(X1::X2::H1)[k]? :=fun X1 X2 Y1 Y2 T hT k hk=>by
      have:=hT k hk
      rw[QF (by omega),QF (by omega)]
     have m3':∀k∈S3,2≤k∧k<2+H1.length:=fun k hk=>by have:=m3 k hk;omega
     have m4':∀k∈S4,2≤k∧k<2+H1.length:=fun k hk=>by have:=m4 k hk;omega
     simp(maxSteps:=999999)(disch:=omega)only[go_sem,zA,zM,zS,zE,zL]
     exact Ul rfl rfl (k3.same (hF _ _ _ _ _ m3')) (k4.same (hF _ _ _ _ _ m4')) n3
   have d1:decide ((l.length:Int)=6)=true:=decide_eq_true (by omega)
   by_cases p2:l.take 4=[112,117,116,32]
   rotate_left
   · have e2:decide (sub l 0 4=[112,117,116,32])=false:=decide_eq_false (by rw[hs];exact p2)
     simp(maxSteps:=999999)(disch:=omega)only[go_sem,zA,zM,zS,zE,zL,d1,e2]
     simp(maxSteps:=999999)(disch:=omega)only[go_sem,zA,zM,zS,zE,zL,d2,d3,d4]
     refine JY.mkC (ZE q hx) (⟨_,Tryz.func58,rfl,rfl⟩:Jh Tryz.prog 58) rfl rfl rfl ?_
     intro c3 c4 H1 S3 S4 k3 k4 n3 m3 m4
     simp only[Je,Jf,Ja,Jc]at k3 k4 m3 m4
     have hD:∀(X1 X2 Y1 Y2:Option Zv) (M:Jm) (T:List Nat),(∀k∈T,2≤k∧k<2+H1.length)→∀k∈T,(Y1::Y2::(H1++M))[k]? =(X1::X2::H1)[k]? :=fun X1 X2 Y1 Y2 M T hT k hk=>by
      have:=hT k hk
      rw[QF (by omega),QF (by omega),Jb (by omega)]
     have hF:∀(X1 X2 Y1 Y2:Option Zv) (T:List Nat),(∀k∈T,2≤k∧k<2+H1.length)→∀k∈T,(Y1::Y2::H1)[k]? =(X1::X2::H1)[k]? :=fun X1 X2 Y1 Y2 T hT k hk=>by
      have:=hT k hk
      rw[QF (by omega),QF (by omega)]
     have m3':∀k∈S3,2≤k∧k<2+H1.length:=fun k hk=>by have:=m3 k hk;omega
     have m4':∀k∈S4,2≤k∧k<2+H1.length:=fun k hk=>by have:=m4 k hk;omega
     simp(maxSteps:=999999)(disch:=omega)only[go_sem,zA,zM,zS,zE,zL]
     exact Ul rfl rfl (k3.same (hF _ _ _ _ _ m3')) (k4.same (hF _ _ _ _ _ m4')) n3
   have e2:decide (sub l 0 4=[112,117,116,32])=true:=decide_eq_true (by rw[hs];exact p2)
   by_cases p3:97≤X4 l 4
   rotate_left
   · simp(maxSteps:=999999)(disch:=omega)only[go_sem,zA,zM,zS,zE,zL,d1,e2,decide_eq_false p3]
     simp(maxSteps:=999999)(disch:=omega)only[go_sem,zA,zM,zS,zE,zL,d2,d3,d4]
     refine JY.mkC (ZE q hx) (⟨_,Tryz.func58,rfl,rfl⟩:Jh Tryz.prog 58) rfl rfl rfl ?_
     intro c3 c4 H1 S3 S4 k3 k4 n3 m3 m4
     simp only[Je,Jf,Ja,Jc]at k3 k4 m3 m4
     have hD:∀(X1 X2 Y1 Y2:Option Zv) (M:Jm) (T:List Nat),(∀k∈T,2≤k∧k<2+H1.length)→∀k∈T,(Y1::Y2::(H1++M))[k]? =(X1::X2::H1)[k]? :=fun X1 X2 Y1 Y2 M T hT k hk=>by
      have:=hT k hk
      rw[QF (by omega),QF (by omega),Jb (by omega)]
     have hF:∀(X1 X2 Y1 Y2:Option Zv) (T:List Nat),(∀k∈T,2≤k∧k<2+H1.length)→∀k∈T,(Y1::Y2::H1)[k]? =(X1::X2::H1)[k]? :=fun X1 X2 Y1 Y2 T hT k hk=>by
      have:=hT k hk
      rw[QF (by omega),QF (by omega)]
     have m3':∀k∈S3,2≤k∧k<2+H1.length:=fun k hk=>by have:=m3 k hk;omega
     have m4':∀k∈S4,2≤k∧k<2+H1.length:=fun k hk=>by have:=m4 k hk;omega
     simp(maxSteps:=999999)(disch:=omega)only[go_sem,zA,zM,zS,zE,zL]
     exact Ul rfl rfl (k3.same (hF _ _ _ _ _ m3')) (k4.same (hF _ _ _ _ _ m4')) n3
   by_cases p4:X4 l 4≤122
   rotate_left
   · simp(maxSteps:=999999)(disch:=omega)only[go_sem,zA,zM,zS,zE,zL,d1,e2,decide_eq_true p3,decide_eq_false p4]
     simp(maxSteps:=999999)(disch:=omega)only[go_sem,zA,zM,zS,zE,zL,d2,d3,d4]
     refine JY.mkC (ZE q hx) (⟨_,Tryz.func58,rfl,rfl⟩:Jh Tryz.prog 58) rfl rfl rfl ?_
     intro c3 c4 H1 S3 S4 k3 k4 n3 m3 m4
     simp only[Je,Jf,Ja,Jc]at k3 k4 m3 m4
     have hD:∀(X1 X2 Y1 Y2:Option Zv) (M:Jm) (T:List Nat),(∀k∈T,2≤k∧k<2+H1.length)→∀k∈T,(Y1::Y2::(H1++M))[k]? =(X1::X2::H1)[k]? :=fun X1 X2 Y1 Y2 M T hT k hk=>by
      have:=hT k hk
      rw[QF (by omega),QF (by omega),Jb (by omega)]
     have hF:∀(X1 X2 Y1 Y2:Option Zv) (T:List Nat),(∀k∈T,2≤k∧k<2+H1.length)→∀k∈T,(Y1::Y2::H1)[k]? =(X1::X2::H1)[k]? :=fun X1 X2 Y1 Y2 T hT k hk=>by
      have:=hT k hk
      rw[QF (by omega),QF (by omega)]
     have m3':∀k∈S3,2≤k∧k<2+H1.length:=fun k hk=>by have:=m3 k hk;omega
     have m4':∀k∈S4,2≤k∧k<2+H1.length:=fun k hk=>by have:=m4 k hk;omega
     simp(maxSteps:=999999)(disch:=omega)only[go_sem,zA,zM,zS,zE,zL]
     exact Ul rfl rfl (k3.same (hF _ _ _ _ _ m3')) (k4.same (hF _ _ _ _ _ m4')) n3
   by_cases p5:48≤X4 l 5
   rotate_left
   · simp(maxSteps:=999999)(disch:=omega)only[go_sem,zA,zM,zS,zE,zL,d1,e2,decide_eq_true p3,decide_eq_true p4,decide_eq_false p5]
     simp(maxSteps:=999999)(disch:=omega)only[go_sem,zA,zM,zS,zE,zL,d2,d3,d4]
     refine JY.mkC (ZE q hx) (⟨_,Tryz.func58,rfl,rfl⟩:Jh Tryz.prog 58) rfl rfl rfl ?_
     intro c3 c4 H1 S3 S4 k3 k4 n3 m3 m4
     simp only[Je,Jf,Ja,Jc]at k3 k4 m3 m4
     have hD:∀(X1 X2 Y1 Y2:Option Zv) (M:Jm) (T:List Nat),(∀k∈T,2≤k∧k<2+H1.length)→∀k∈T,(Y1::Y2::(H1++M))[k]? =(X1::X2::H1)[k]? :=fun X1 X2 Y1 Y2 M T hT k hk=>by
      have:=hT k hk
      rw[QF (by omega),QF (by omega),Jb (by omega)]
     have hF:∀(X1 X2 Y1 Y2:Option Zv) (T:List Nat),(∀k∈T,2≤k∧k<2+H1.length)→∀k∈T,(Y1::Y2::H1)[k]? =(X1::X2::H1)[k]? :=fun X1 X2 Y1 Y2 T hT k hk=>by
      have:=hT k hk
      rw[QF (by omega),QF (by omega)]
     have m3':∀k∈S3,2≤k∧k<2+H1.length:=fun k hk=>by have:=m3 k hk;omega
     have m4':∀k∈S4,2≤k∧k<2+H1.length:=fun k hk=>by have:=m4 k hk;omega
     simp(maxSteps:=999999)(disch:=omega)only[go_sem,zA,zM,zS,zE,zL]
     exact Ul rfl rfl (k3.same (hF _ _ _ _ _ m3')) (k4.same (hF _ _ _ _ _ m4')) n3
   have p6:¬X4 l 5≤57:=fun p6=>hp ⟨p1,p2,⟨p3,p4⟩,p5,p6⟩
   simp(maxSteps:=999999)(disch:=omega)only[go_sem,zA,zM,zS,zE,zL,d1,e2,decide_eq_true p3,decide_eq_true p4,decide_eq_true p5,decide_eq_false p6]
   simp(maxSteps:=999999)(disch:=omega)only[go_sem,zA,zM,zS,zE,zL,d2,d3,d4]
   refine JY.mkC (ZE q hx) (⟨_,Tryz.func58,rfl,rfl⟩:Jh Tryz.prog 58) rfl rfl rfl ?_
   intro c3 c4 H1 S3 S4 k3 k4 n3 m3 m4
   simp only[Je,Jf,Ja,Jc]at k3 k4 m3 m4
   have hD:∀(X1 X2 Y1 Y2:Option Zv) (M:Jm) (T:List Nat),(∀k∈T,2≤k∧k<2+H1.length)→∀k∈T,(Y1::Y2::(H1++M))[k]? =(X1::X2::H1)[k]? :=fun X1 X2 Y1 Y2 M T hT k hk=>by
    have:=hT k hk
    rw[QF (by omega),QF (by omega),Jb (by omega)]
   have hF:∀(X1 X2 Y1 Y2:Option Zv) (T:List Nat),(∀k∈T,2≤k∧k<2+H1.length)→∀k∈T,(Y1::Y2::H1)[k]? =(X1::X2::H1)[k]? :=fun X1 X2 Y1 Y2 T hT k hk=>by
    have:=hT k hk
    rw[QF (by omega),QF (by omega)]
   have m3':∀k∈S3,2≤k∧k<2+H1.length:=fun k hk=>by have:=m3 k hk;omega
   have m4':∀k∈S4,2≤k∧k<2+H1.length:=fun k hk=>by have:=m4 k hk;omega
   simp(maxSteps:=999999)(disch:=omega)only[go_sem,zA,zM,zS,zE,zL]
   exact Ul rfl rfl (k3.same (hF _ _ _ _ _ m3')) (k4.same (hF _ _ _ _ _ m4')) n3
end Go.Lg

namespace Go.Lg
open Go.Proofs
theorem Ru{H:Jm}{c:CV}{xs:List Int}{S:List Nat}(h:Qw H c xs S):Uy H (Wa xs) (.c c):=
 ⟨Kc S H,Kb _ _,c,S,rfl,h.same fun i hi=>XQ hi (h.lt i hi),W6 h.blk⟩
def WH(p:QV)(most:Int):Int:=if Jy p=true∧1≤most∧most≤600 then(UV p most.toNat).length else-1
def Rz(p:QV):List Int:=JA (UV p 1) 0
theorem JkM{p:QV}(h:¬Jy p=true)(most:Nat):UV p most=[]:=by unfold UV;rw[if_neg (fun h'=>h h'.1)]
theorem UQ(p:QV)(most:Int)(hx:YR p):JW Tryz.prog 13 [aP p,int most] (int (WH p most)):=by
 refine Jn.cw (c:=_) Tryz.func13 rfl (n:=22) Tryz.ntmps13 (rs:=[.tmp 4]) rfl ?_
 simp only[Je,Jf,zA,zS,Jd,Ja,Jc]
 simp(maxSteps:=999999)(disch:=omega)only[go_sem,zA,zM,zS,zE,zL]
 intro g
 first|refine JY.rd (Qb p hx) (⟨_,Tryz.func41,rfl,rfl⟩:Jh Tryz.prog 41) rfl rfl rfl rfl ?_|refine JM.rd (Qb p hx) (⟨_,Tryz.func41,rfl,rfl⟩:Jh Tryz.prog 41) rfl rfl rfl rfl ?_
 simp(maxSteps:=999999)(disch:=omega)only[go_sem,zA,zM,zS,zE,zL]
 ((with_reducible first|refine JH ?_ ?_|refine JD ?_ ?_|refine JP ?_ ?_|refine Jv ?_ ?_|refine JF ?_ ?_|refine JG ?_ ?_|refine JB ?_ ?_|refine JC ?_ ?_|refine JN ?_ ?_|refine JO ?_ ?_|refine Jw ?_ ?_|refine Jx ?_ ?_)<;>intro h1<;>simp(maxSteps:=999999)(disch:=omega)only[go_sem,zA,zM,zS,zE,zL,h1])
 rotate_left
 · unfold WH
   rw[if_neg (fun h=>by rw[h.1]at h1;cases h1)]
 ((with_reducible first|refine JH ?_ ?_|refine JD ?_ ?_|refine JP ?_ ?_|refine Jv ?_ ?_|refine JF ?_ ?_|refine JG ?_ ?_|refine JB ?_ ?_|refine JC ?_ ?_|refine JN ?_ ?_|refine JO ?_ ?_|refine Jw ?_ ?_|refine Jx ?_ ?_)<;>intro h2<;>simp(maxSteps:=999999)(disch:=omega)only[go_sem,zA,zM,zS,zE,zL,h2])
 · unfold WH
   rw[if_neg (by omega)]
 ((first|(with_reducible first|refine Jl ?_ ?_|refine Jj ?_ ?_|refine Jp ?_ ?_)|refine Jr ?_ ?_)<;>intro h3)
 · simp(maxSteps:=999999)(disch:=omega)only[go_sem,zA,zM,zS,zE,zL]
   unfold WH
   rw[if_neg (by omega)]
 obtain⟨k,rfl⟩:∃k:Nat,most=k:=⟨most.toNat,by omega⟩
 simp(maxSteps:=999999)(disch:=omega)only[go_sem,zA,zM,zS,zE,zL]
 first|refine JY.mk (KM h1 k (by omega)) (⟨_,Tryz.func42,rfl,rfl⟩:Jh Tryz.prog 42) rfl rfl rfl rfl rfl ?_|refine JM.mk (KM h1 k (by omega)) (⟨_,Tryz.func42,rfl,rfl⟩:Jh Tryz.prog 42) rfl rfl rfl rfl rfl ?_
 simp(maxSteps:=999999)(disch:=omega)only[go_sem,zA,zM,zS,zE,zL]
 unfold WH
 rw[if_pos ⟨h1,by omega,by omega⟩,Int.toNat_natCast]
theorem Fn(p:QV)(hx:YR p):JW Tryz.prog 53 [aP p] (bool (decide (WH p 2=1))):=by
 refine Jn.cw (c:=_) Tryz.func53 rfl (n:=6) Tryz.ntmps53 (rs:=[.tmp 2]) rfl ?_
 simp only[Je,Jf,zA,zS,Jd,Ja,Jc]
 simp(maxSteps:=999999)(disch:=omega)only[go_sem,zA,zM,zS,zE,zL]
 intro g
 first|refine JY.rd (UQ p 2 hx) (⟨_,Tryz.func13,rfl,rfl⟩:Jh Tryz.prog 13) rfl rfl rfl rfl ?_|refine JM.rd (UQ p 2 hx) (⟨_,Tryz.func13,rfl,rfl⟩:Jh Tryz.prog 13) rfl rfl rfl rfl ?_
 simp(maxSteps:=999999)(disch:=omega)only[go_sem,zA,zM,zS,zE,zL]
theorem Kx(p:QV)(hx:YR p):JW Tryz.prog 55 [aP p] (.tup [QG (Rz p),bool (decide (0<(UV p 1).length))]):=by
 refine JW.iced ?_
 refine Jn.cw (c:=_) Tryz.func55 rfl (n:=18) Tryz.ntmps55 (rs:=[.tmp 2, .tmp 3]) rfl ?_
 simp only[Je,Jf,zA,zS,Jd,Ja,Jc]
 simp(maxSteps:=999999)(disch:=omega)only[go_sem,zA,zM,zS,zE,zL]
 intro g
 first|refine JY.rd (Qb p hx) (⟨_,Tryz.func41,rfl,rfl⟩:Jh Tryz.prog 41) rfl rfl rfl rfl ?_|refine JM.rd (Qb p hx) (⟨_,Tryz.func41,rfl,rfl⟩:Jh Tryz.prog 41) rfl rfl rfl rfl ?_
 simp(maxSteps:=999999)(disch:=omega)only[go_sem,zA,zM,zS,zE,zL]
 ((first|(with_reducible first|refine Jl ?_ ?_|refine Jj ?_ ?_|refine Jp ?_ ?_)|refine Jr ?_ ?_)<;>intro h1)
 rotate_left
 · simp(maxSteps:=999999)(disch:=omega)only[go_sem,zA,zM,zS,zE,zL]
   unfold Rz
   rw[JkM (by rw[h1];simp)]
   exact Ui rfl
 simp(maxSteps:=999999)(disch:=omega)only[go_sem,zA,zM,zS,zE,zL]
 first|refine JY.mk (KM h1 1 (by omega)) (⟨_,Tryz.func42,rfl,rfl⟩:Jh Tryz.prog 42) rfl rfl rfl rfl rfl ?_|refine JM.mk (KM h1 1 (by omega)) (⟨_,Tryz.func42,rfl,rfl⟩:Jh Tryz.prog 42) rfl rfl rfl rfl rfl ?_
 simp(maxSteps:=999999)(disch:=omega)only[go_sem,zA,zM,zS,zE,zL]
 ((first|(with_reducible first|refine Jl ?_ ?_|refine Jj ?_ ?_|refine Jp ?_ ?_)|refine Jr ?_ ?_)<;>intro h2)
 · simp(maxSteps:=999999)(disch:=omega)only[go_sem,zA,zM,zS,zE,zL]
   have h2:UV p 1=[]:=List.eq_nil_of_length_eq_zero (by omega)
   unfold Rz
   rw[h2]
   exact Ui rfl
 · simp(maxSteps:=999999)(disch:=omega)only[go_sem,zA,zM,zS,zE,zL]
   unfold Rz
   rw[decide_eq_true (by omega)]
   exact Ui rfl
theorem Jaw{p:QV}(h:WH p 2=1):Jy p=true∧∃s,UV p 2=[s]∧Rz p=s∧s.length=p.given.length:=by
 unfold WH at h
 by_cases hv:Jy p=true
 · rw[if_pos ⟨hv,by omega,by omega⟩]at h
   have h:(UV p 2).length=1:=by have:((2:Int)).toNat=2:=rfl;rw[this]at h;omega
   obtain⟨s,hs⟩:=List.length_eq_one_iff.1 h
   refine⟨hv,s,hs, ?_,Jhc hv (most:=2) (by rw[hs];simp)⟩
   have e:UV p 1=[s]:=by
    have e2:UV p 1=(UV p 2).take 1:=by
     unfold UV
     split
     · rw[List.take_take];rfl
     · rfl
    rw[e2,hs];rfl
   unfold Rz
   rw[e];rfl
 · rw[if_neg (fun h'=>hv h'.1)]at h
   omega
theorem Jkd{p:QV}(h:¬WH p 2=1)(xs:List Int):Xw p xs=[]:=by
 unfold Xw
 split
 · rename_i hv
   unfold WH at h
   rw[if_pos ⟨hv.1,by omega,by omega⟩]at h
   have:((2:Int)).toNat=2:=rfl
   rw[this]at h
   match hL:UV p 2 with
   |[]=>rfl
   |[s]=>rw[hL]at h;simp at h
   |_::_::_=>rfl
 · rfl
theorem Kt(p:QV)(xs:List Int)(hx:YR p)(hl:xs.length≤2^40):Jn Tryz.prog 16 [aP p,QG xs] [] (Wa (Xw p xs)):=by
 refine Jn.nz ?_
 refine Jn.cw (c:=_) Tryz.func16 rfl (n:=49) Tryz.ntmps16 (rs:=[.tmp 4]) rfl ?_
 simp only[Je,Jf,zA,zS,Jd,Ja,Jc]
 simp(maxSteps:=999999)(disch:=omega)only[go_sem,zA,zM,zS,zE,zL]
 intro g0
 first|refine JY.rd (Fn p hx) (⟨_,Tryz.func53,rfl,rfl⟩:Jh Tryz.prog 53) rfl rfl rfl rfl ?_|refine JM.rd (Fn p hx) (⟨_,Tryz.func53,rfl,rfl⟩:Jh Tryz.prog 53) rfl rfl rfl rfl ?_
 simp(maxSteps:=999999)(disch:=omega)only[go_sem,zA,zM,zS,zE,zL]
 ((with_reducible first|refine JH ?_ ?_|refine JD ?_ ?_|refine JP ?_ ?_|refine Jv ?_ ?_|refine JF ?_ ?_|refine JG ?_ ?_|refine JB ?_ ?_|refine JC ?_ ?_|refine JN ?_ ?_|refine JO ?_ ?_|refine Jw ?_ ?_|refine Jx ?_ ?_)<;>intro h1<;>simp(maxSteps:=999999)(disch:=omega)only[go_sem,zA,zM,zS,zE,zL,h1])
 rotate_left
 · rw[Jkd h1]
   exact Ru .e
 first|refine JY.rd (Zb xs p.size (by omega)) (⟨_,Tryz.func54,rfl,rfl⟩:Jh Tryz.prog 54) rfl rfl rfl rfl ?_|refine JM.rd (Zb xs p.size (by omega)) (⟨_,Tryz.func54,rfl,rfl⟩:Jh Tryz.prog 54) rfl rfl rfl rfl ?_
 simp(maxSteps:=999999)(disch:=omega)only[go_sem,zA,zM,zS,zE,zL]
 ((first|(with_reducible first|refine Jl ?_ ?_|refine Jj ?_ ?_|refine Jp ?_ ?_)|refine Jr ?_ ?_)<;>intro h2)
 rotate_left
 · simp(maxSteps:=999999)(disch:=omega)only[go_sem,zA,zM,zS,zE,zL]
   unfold Xw
   rw[if_neg (fun h=>by rw[h.2]at h2;cases h2)]
   exact Ru .e
 obtain⟨hv,s,hs,hf,hsl⟩:=Jaw h1
 obtain⟨hp,hg,ha,hlen,hl4,hl16⟩:=W4 hv h2
 have hV:Xw p xs=UL s xs xs.length:=by unfold Xw;rw[if_pos ⟨hv,h2⟩,hs];rfl
 have hgv:=hg.val
 simp(maxSteps:=999999)(disch:=omega)only[go_sem,zA,zM,zS,zE,zL]
 first|refine JY.mk (Kx p hx) (⟨_,Tryz.func55,rfl,rfl⟩:Jh Tryz.prog 55) rfl rfl rfl rfl rfl ?_|refine JM.mk (Kx p hx) (⟨_,Tryz.func55,rfl,rfl⟩:Jh Tryz.prog 55) rfl rfl rfl rfl rfl ?_
 simp(maxSteps:=999999)(disch:=omega)only[go_sem,zA,zM,zS,zE,zL]
 rw[hf,hV]
 intro g1
 refine Qv (fun(k g:Nat)=>xs.length -k) (fun k g=>k≤xs.length) (fun k g=>[.a, .a, .a, .a, .a, .k, .a, .p (.c (.own 1 g 0 (UL s xs k).length none)), .a, .a, .a, .a, .a, .a, .a, .a, .a, .a, .a, .a, .a, .a, .a, .a, .a, .a, .k, .k, .p (int k), .a, .a, .a, .a, .a, .a, .a, .a, .a, .a, .a, .a, .a, .a, .a, .a, .a, .a, .a, .a]) (fun k g=>[some ⟨g0,1,cP p⟩,some ⟨g,1,cl (eI .i64) (UL s xs k)⟩]) 0 g1 (Nat.zero_le _) (by simp(maxSteps:=999999)(disch:=omega)only[go_sem,zA,zM,zS,zE,zL];simp[UL]) (J0.refl _) ?_
 intro k g hk
 have hwl:=Jdx s xs k
 simp(maxSteps:=999999)(disch:=omega)only[go_sem,zA,zM,zS,zE,zL]
 ((first|(with_reducible first|refine Jl ?_ ?_|refine Jj ?_ ?_|refine Jp ?_ ?_)|refine Jr ?_ ?_)<;>intro c1)
 · have c1:k<xs.length:=by omega
   have hsucc:=JbT (s:=s) c1
   simp(maxSteps:=999999)(disch:=omega)only[go_sem,zA,zM,zS,zE,zL]
   ((with_reducible first|refine JH ?_ ?_|refine JD ?_ ?_|refine JP ?_ ?_|refine Jv ?_ ?_|refine JF ?_ ?_|refine JG ?_ ?_|refine JB ?_ ?_|refine JC ?_ ?_|refine JN ?_ ?_|refine JO ?_ ?_|refine Jw ?_ ?_|refine Jx ?_ ?_)<;>intro a<;>simp(maxSteps:=999999)(disch:=omega)only[go_sem,zA,zM,zS,zE,zL,a])
   · ((first|(with_reducible first|refine Jl ?_ ?_|refine Jj ?_ ?_|refine Jp ?_ ?_)|refine Jr ?_ ?_)<;>intro b)
     · simp(maxSteps:=999999)(disch:=omega)only[go_sem,zA,zM,zS,zE,zL]
       rw[if_neg (fun h=>h.2 b),Ju]at hsucc
       refine⟨k+1,g,⟨by omega,by omega⟩,⟨by rw[hsucc];exact⟨rfl,rfl⟩,by push_cast;omega⟩,by rw[hsucc];exact J0.refl _⟩
     · simp(maxSteps:=999999)(disch:=omega)only[go_sem,zA,zM,zS,zE,zL]
       intro g2 g3
       rw[if_pos ⟨a,b⟩]at hsucc
       refine⟨k+1,g3,⟨by omega,by omega⟩,⟨by rw[hsucc,Jk];exact⟨rfl,rfl⟩,by push_cast;omega⟩,by rw[hsucc];exact J0.app [_,_] [_]⟩
   · rw[if_neg (fun h=>a h.1),Ju]at hsucc
     refine⟨k+1,g,⟨by omega,by omega⟩,⟨by rw[hsucc];exact⟨rfl,rfl⟩,by push_cast;omega⟩,by rw[hsucc];exact J0.refl _⟩
 · have hke:k=xs.length:=by omega
   subst hke
   simp(maxSteps:=999999)(disch:=omega)only[go_sem,zA,zM,zS,zE,zL]
   exact Ru (Qw.o (H:=[some ⟨g0,1,cP p⟩,some ⟨g,1,cl (eI .i64) (UL s xs xs.length)⟩]) 1 g none _ [] (by rw[Ju];simp only[go_sem]))
end Go.Lg

namespace Go.Lg
open Go.Proofs
theorem JbC{p:QV}(hv:Jy p=true){xs:List Int}(hx:Q9 xs p.size.toNat):XD p xs=decide (0<(Jeg p xs).length):=by
 have hz:((p.size.toNat:Nat):Int)=p.size:=(Ub.of hv).2
 unfold XD
 rw[if_pos ⟨hv,by have:=hx.valid (Ub.of hv).1.hn;rwa [hz]at this⟩,Jks hv hx,decide_eq_decide]
 omega
theorem Je6{p:QV}{xs s:List Int}:s∈Jeg p xs↔s∈FU p∧Xj xs s:=by
 unfold Jeg
 rw[List.mem_filter,decide_eq_true_eq]
theorem JiV{p:QV}(hv:Jy p=true){xs:List Int}(hx:Q9 xs p.size.toNat)(h:XD p xs=true):QK p xs p.size.toNat=true:=by
 rw[JbC hv hx,decide_eq_true_eq]at h
 obtain⟨s,hs⟩:=List.exists_mem_of_length_pos h
 rw[Je6,Nz hv]at hs
 exact XW (W0 hv).1 hx hs.1.1.1 hs.2 hs.1.2.2
end Go.Lg
