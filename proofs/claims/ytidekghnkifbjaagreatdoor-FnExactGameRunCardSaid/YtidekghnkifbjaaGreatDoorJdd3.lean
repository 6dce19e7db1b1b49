/- GpSB, GpD, GpIA, GpJC, GpNA, GpNE, GpSC, cut to what is needed. -/
import Derived.Test.YtidekghnkifbjaaGreatDoorJdc3
import Derived.Test.YtidekghnkifbjaaGreatDoorJdd1
import Derived.Test.YtidekghnkifbjaaGreatDoorJdc9
import Derived.Test.YtidekghnkifbjaaGreatDoorJdd2
import Derived.Test.YtidekghnkifbjaaGreatDoorJda9
import Derived.Test.YtidekghnkifbjaaGreatDoorJdb3
import Derived.Test.YtidekghnkifbjaaGreatDoorJdd0
import Derived.Test.YtidekghnkifbjaaGreatDoorJdb5
import Derived.Test.YtidekghnkifbjaaGreatDoorJdc2
import Derived.Test.YtidekghnkifbjaaGreatDoorJdb8
open List renaming length_cons → Ja, cons_append → Jb, getElem?_append_left → Jc, nil_append → Jd, length_nil → Je, replicate → Jf, getElem?_eq_some_iff → Jh, getElem?_set_self → JE, mem_append → JI, mapM_cons → J3, mem_map → Qg, map_append → Qo, mapM_nil → QB
open Nat renaming reduceAdd→zA,reduceMul→zM,reduceSub→zS,reduceEqDiff→zE,reduceLeDiff→zL
set_option linter.unusedSimpArgs false
set_option linter.unusedVariables false
set_option maxRecDepth 100000
namespace Go.Lg
open Go.Proofs
attribute [-go_sem] Qf J0
def okT:List UInt8:=[111,107]
def noT:List UInt8:=[110,111]
def Je0:List UInt8:=[110,111,110,101]
def FT:List UInt8:=[115,111,108,118,101,100]
def Jfh:List UInt8:=[103,111,111,100]
def F3:List UInt8:=[119,114,111,110,103]
def Rv:List UInt8:=[119,104,97,116]
def YE:List UInt8:=[98,97,99,107]
def Y6:List UInt8:=[104,105,110,116]
def UL:List UInt8:=[99,104,101,99,107]
def Y5(l:List UInt8):Prop:=l.length=6∧l.take 4=[112,117,116,32]∧(97≤XY l 4∧XY l 4≤122)∧48≤XY l 5∧XY l 5≤57
instance(l:List UInt8):Decidable (Y5 l):=by unfold Y5;infer_instance
def Zk(q:QU)(l:List UInt8):QU:=if Qp q=true then(if Y5 l then Zn q (XY l 4 -97) (XY l 5 -48)else if l=YE then Qz q else q)else ZQ
def Rq(q:QU):List UInt8:=if Ux q.task (JY q)=true then FT else if XZ q.task (JY q)=true then Jfh else F3
def UB(q:QU)(l:List UInt8):List UInt8:=if Qp q=true then(if Y5 l then(if Zc q (XY l 4 -97) (XY l 5 -48)=true then okT else noT)
 else if l=YE then(if QX q=true then okT else noT)else if l=Y6 then(if VZ q.task (JY q)=true then V8 (Vt q.task (JY q))else Je0)else if l=UL then Rq q else Rv)else[]
theorem GS{q:QU}{n:Nat}(h:UM q n)(l:List UInt8):UM (Zk q l) n:=by
 unfold Zk
 rw[if_pos h.valid]
 split
 · exact JfT h
 · split
   · exact Jet h
   · exact h
theorem KR{q:QU}(hv:Qp q=true):(JY q).length≤16:=by
 obtain⟨n,h⟩:=UM.of hv
 rw[h.grid,Vk]
 have:=h.len
 have:=h.ln
 omega
theorem Ud{H:Jn}{q q':QU}{y y':AV}{c3 c4:CV}{S3 S4:List Nat}(hq:q'=q)(hy:y'=y)(k3:Ua H c3 q.put S3)(k4:Ua H c4 q.moves S4)(hd:∀k∈S3,k∉S4):
 Uo H (YB q' y') (.tup [.agg [.f (.int .i64 q.task.size), .f (Ql q.task.given), .f (VN eR q.task.rules),c3,c4],y]):=by
 subst hq hy
 exact⟨H,J5.refl _,c3,c4,rfl,S3,S4,k3,k4,hd⟩
section
variable{P:Program}{o:Oper}{st:St}{K:KV}{fo:Operand}{xs:Array Operand}{ts:Array TypeId}{f:FuncId}{args args':List AV}
theorem JU.mkE{q:QU}{b:Bool}(hc:Jk P f args [] (YB q (bool b)))(he:Jg P f)(ho:o.op= .call ⟨.value fo,xs,ts⟩)(ha:Qb st fo xs=some (f,args))(hf:args.all Q2=true)
 (hk:∀c3 c4 H' S3 S4,Ua (st.h++H') c3 q.put S3→Ua (st.h++H') c4 q.moves S4→(∀k∈S3,k∉S4)→(∀i∈S3,st.h.length≤i∧i<st.h.length+H'.length)→(∀i∈S4,st.h.length≤i∧i<st.h.length+H'.length)→
   K (.tup [.agg [.f (.int .i64 q.task.size), .f (Ql q.task.given), .f (VN eR q.task.rules),c3,c4],bool b]) (st.h++H')):JU P o st K:=
 JU.mkQ hc he ho ha hf fun r H' ⟨c3,c4,h1,S3,S4,h3,h4,hd⟩=>by
  subst h1
  refine⟨rfl,hk _ _ _ _ _ h3.shift h4.shift (fun k hk hm=> ?_) (by rw[QI];exact ZX h3.lt) (by rw[QI];exact ZX h4.lt)⟩
  obtain⟨a,ha,rfl⟩:=Qg.1 hk
  obtain⟨b,hb,he⟩:=Qg.1 hm
  have:b=a:=by omega
  subst this
  exact hd b ha hb
theorem JG.mkE{ops:Array Oper}{s:List AV}{H:Jn}{q:QU}{b:Bool}(hc:Jk P f args [] (YB q (bool b)))(he:Jg P f)(ho:o.op= .call ⟨.value fo,xs,ts⟩)(ha:Qb ⟨s,H⟩ fo xs=some (f,args))(hf:args.all Q2=true)
 (hk:∀c3 c4 H' S3 S4,Ua (H++H') c3 q.put S3→Ua (H++H') c4 q.moves S4→(∀k∈S3,k∉S4)→(∀i∈S3,H.length≤i∧i<H.length+H'.length)→(∀i∈S4,H.length≤i∧i<H.length+H'.length)→
   K (.tup [.agg [.f (.int .i64 q.task.size), .f (Ql q.task.given), .f (VN eR q.task.rules),c3,c4],bool b]) (H++H')):JG P ops o s H K:=
 JG.call ho ha fun s' ha'=>JU.mkE (st:=⟨s',H⟩) hc he ho ha' hf hk
theorem JG.mkC{ops:Array Oper}{s:List AV}{H:Jn}{q:QU}(hc:Jk P f args [] (JiI q))(he:Jg P f)(ho:o.op= .call ⟨.value fo,xs,ts⟩)(ha:Qb ⟨s,H⟩ fo xs=some (f,args))(hf:args.all Q2=true)
 (hk:∀c3 c4 H' S3 S4,Ua (H++H') c3 q.put S3→Ua (H++H') c4 q.moves S4→(∀k∈S3,k∉S4)→(∀i∈S3,H.length≤i∧i<H.length+H'.length)→(∀i∈S4,H.length≤i∧i<H.length+H'.length)→
   K (.agg [.f (.int .i64 q.task.size), .f (Ql q.task.given), .f (VN eR q.task.rules),c3,c4]) (H++H')):JG P ops o s H K:=
 JG.call ho ha fun s' ha'=>JU.mkC (st:=⟨s',H⟩) hc he ho ha' hf hk
end
set_option maxHeartbeats 4000000 in
theorem NM(q:QU)(l:List UInt8)(hx:smG q)(hl:l.length≤2^40)(hv:Qp q=true):Jk Tryz.prog 31 [aG q,W0 l] [] (YB (Zk q l) (W0 (UB q l))):=by
 have hgl:=KR hv
 have eG:Zk q l=if Y5 l then Zn q (XY l 4 -97) (XY l 5 -48)else if l=YE then Qz q else q:=by unfold Zk;rw[if_pos hv]
 have eT:UB q l=if Y5 l then(if Zc q (XY l 4 -97) (XY l 5 -48)=true then okT else noT)else if l=YE then(if QX q=true then okT else noT)else if l=Y6 then(if VZ q.task (JY q)=true then V8 (Vt q.task (JY q))else Je0)else if l=UL then Rq q else Rv:=by unfold UB;rw[if_pos hv]
 refine Jk.cw (c:=_) Tryz.func31 rfl (n:=113) Tryz.ntmps31 (rs:=[.cell 4 28, .tmp 5]) rfl ?_
 simp only[Ja,Je,zA,zS,Jf,Jb,Jd]
 simp(maxSteps:=999999)(disch:=omega)only[go_sem,zA,zM,zS,zE,zL]
 intro g1 g2
 first|refine JU.rd (Q3 q hx) (⟨_,Tryz.func12,rfl,rfl⟩:Jg Tryz.prog 12) rfl rfl rfl rfl ?_|refine JG.rd (Q3 q hx) (⟨_,Tryz.func12,rfl,rfl⟩:Jg Tryz.prog 12) rfl rfl rfl rfl ?_
 simp(maxSteps:=999999)(disch:=omega)only[go_sem,zA,zM,zS,zE,zL]
 rw[hv]
 simp(maxSteps:=999999)(disch:=omega)only[go_sem,zA,zM,zS,zE,zL]
 first|refine JU.mk (JM.ownI (KL q hx)) (⟨_,Tryz.func11,rfl,rfl⟩:Jg Tryz.prog 11) rfl rfl rfl rfl rfl ?_|refine JG.mk (JM.ownI (KL q hx)) (⟨_,Tryz.func11,rfl,rfl⟩:Jg Tryz.prog 11) rfl rfl rfl rfl rfl ?_
 simp(maxSteps:=999999)(disch:=omega)only[go_sem,zA,zM,zS,zE,zL]
 by_cases hp:Y5 l
 · obtain⟨h1,h2,⟨h3,h4⟩,h5,h6⟩:=id hp
   have d1:decide ((l.length:Int)=6)=true:=decide_eq_true (by omega)
   have hs:sub l 0 4=l.take 4:=rfl
   have d2:decide (sub l 0 4=[112,117,116,32])=true:=decide_eq_true (by rw[hs];exact h2)
   have d3:decide (97≤XY l 4)=true:=decide_eq_true h3
   have d4:decide (XY l 4≤122)=true:=decide_eq_true h4
   have d5:decide (48≤XY l 5)=true:=decide_eq_true h5
   have d6:decide (XY l 5≤57)=true:=decide_eq_true h6
   rw[eG,eT,if_pos hp,if_pos hp]
   simp(maxSteps:=999999)(disch:=omega)only[go_sem,zA,zM,zS,zE,zL,d1,d2,d3,d4,d5,d6]
   refine JbD [0,1,2,3,4,5,6,7,8,13,9,10,11,12] [] (some 13) [14,15] 12 [] ZE (by kernel_rfl) ?_
   iterate 11 (rw[J0];simp(maxSteps:=999999)(disch:=omega)only[go_sem,zA,zM,zS,zE,zL])
   refine JG.mkE (Ja5 q (XY l 4 -97) (XY l 5 -48) hx hv) (⟨_,Tryz.func72,rfl,rfl⟩:Jg Tryz.prog 72) rfl rfl rfl ?_
   intro c3 c4 H1 S3 S4 k3 k4 n3 m3 m4
   simp(maxSteps:=999999)(disch:=omega)only[go_sem,zA,zM,zS,zE,zL]
   iterate 3 (rw[J0];simp(maxSteps:=999999)(disch:=omega)only[go_sem,zA,zM,zS,zE,zL])
   simp only[Ja,Je,Jb,Jd]at k3 k4 m3 m4
   have hD:∀(X1 X2 Y1 Y2:Option Zo) (M:Jn) (T:List Nat),(∀k∈T,2≤k∧k<2+H1.length)→∀k∈T,(Y1::Y2::(H1++M))[k]? =(X1::X2::H1)[k]? :=fun X1 X2 Y1 Y2 M T hT k hk=>by
    have:=hT k hk
    rw[QC (by omega),QC (by omega),Jc (by omega)]
   have hF:∀(X1 X2 Y1 Y2:Option Zo) (T:List Nat),(∀k∈T,2≤k∧k<2+H1.length)→∀k∈T,(Y1::Y2::H1)[k]? =(X1::X2::H1)[k]? :=fun X1 X2 Y1 Y2 T hT k hk=>by
    have:=hT k hk
    rw[QC (by omega),QC (by omega)]
   have m3':∀k∈S3,2≤k∧k<2+H1.length:=fun k hk=>by have:=m3 k hk;omega
   have m4':∀k∈S4,2≤k∧k<2+H1.length:=fun k hk=>by have:=m4 k hk;omega
   intro g3
   refine Kq rfl (.inr rfl) ?_
   simp(maxSteps:=999999)(disch:=omega)only[go_sem,zA,zM,zS,zE,zL,JF,Qy]
   refine Kq rfl (.inl rfl) ?_
   cases hb:Zc q (XY l 4 -97) (XY l 5 -48)with
   |true=>
    simp(maxSteps:=999999)(disch:=omega)only[go_sem,zA,zM,zS,zE,zL,JF,Qy]
    exact Ud rfl rfl (k3.same (hD _ _ _ _ _ _ m3')) (k4.same (hD _ _ _ _ _ _ m4')) n3
   |false=>
    simp(maxSteps:=999999)(disch:=omega)only[go_sem,zA,zM,zS,zE,zL,JF,Qy]
    exact Ud rfl rfl (k3.same (hD _ _ _ _ _ _ m3')) (k4.same (hD _ _ _ _ _ _ m4')) n3
 · by_cases hb:l=YE
   · subst hb
     rw[eG,eT,if_neg hp,if_neg hp,if_pos rfl,if_pos rfl]
     have d1:decide ((YE.length:Int)=6)=false:=rfl
     have d2:decide (YE=[98,97,99,107])=true:=rfl
     simp(maxSteps:=999999)(disch:=omega)only[go_sem,zA,zM,zS,zE,zL,d1,d2]
     refine JU.mkE (NN q hx hv) (⟨_,Tryz.func73,rfl,rfl⟩:Jg Tryz.prog 73) rfl rfl rfl ?_
     intro c3 c4 H1 S3 S4 k3 k4 n3 m3 m4
     simp only[Ja,Je,Jb,Jd]at k3 k4 m3 m4
     have hD:∀(X1 X2 Y1 Y2:Option Zo) (M:Jn) (T:List Nat),(∀k∈T,2≤k∧k<2+H1.length)→∀k∈T,(Y1::Y2::(H1++M))[k]? =(X1::X2::H1)[k]? :=fun X1 X2 Y1 Y2 M T hT k hk=>by
      have:=hT k hk
      rw[QC (by omega),QC (by omega),Jc (by omega)]
     have hF:∀(X1 X2 Y1 Y2:Option Zo) (T:List Nat),(∀k∈T,2≤k∧k<2+H1.length)→∀k∈T,(Y1::Y2::H1)[k]? =(X1::X2::H1)[k]? :=fun X1 X2 Y1 Y2 T hT k hk=>by
      have:=hT k hk
      rw[QC (by omega),QC (by omega)]
     have m3':∀k∈S3,2≤k∧k<2+H1.length:=fun k hk=>by have:=m3 k hk;omega
     have m4':∀k∈S4,2≤k∧k<2+H1.length:=fun k hk=>by have:=m4 k hk;omega
     simp(maxSteps:=999999)(disch:=omega)only[go_sem,zA,zM,zS,zE,zL]
     intro g3
     simp(maxSteps:=999999)(disch:=omega)only[go_sem,zA,zM,zS,zE,zL,JF,Qy]
     cases hb:QX q with
     |true=>
      simp(maxSteps:=999999)(disch:=omega)only[go_sem,zA,zM,zS,zE,zL,JF,Qy]
      exact Ud rfl rfl (k3.same (hD _ _ _ _ _ _ m3')) (k4.same (hD _ _ _ _ _ _ m4')) n3
     |false=>
      simp(maxSteps:=999999)(disch:=omega)only[go_sem,zA,zM,zS,zE,zL,JF,Qy]
      exact Ud rfl rfl (k3.same (hD _ _ _ _ _ _ m3')) (k4.same (hD _ _ _ _ _ _ m4')) n3
   by_cases hh:l=Y6
   · subst hh
     rw[eG,eT,if_neg hp,if_neg hp,if_neg hb,if_neg hb,if_pos rfl]
     have d1:decide ((Y6.length:Int)=6)=false:=rfl
     have d2:decide (Y6=[98,97,99,107])=false:=rfl
     have d3:decide (Y6=[104,105,110,116])=true:=rfl
     simp(maxSteps:=999999)(disch:=omega)only[go_sem,zA,zM,zS,zE,zL,d1,d2,d3]
     first|refine JU.mk (KI q.task (JY q) hx.1 (by omega)) (⟨_,Tryz.func74,rfl,rfl⟩:Jg Tryz.prog 74) rfl rfl rfl rfl rfl ?_|refine JG.mk (KI q.task (JY q) hx.1 (by omega)) (⟨_,Tryz.func74,rfl,rfl⟩:Jg Tryz.prog 74) rfl rfl rfl rfl rfl ?_
     simp(maxSteps:=999999)(disch:=omega)only[go_sem,zA,zM,zS,zE,zL]
     intro g3
     cases hhb:VZ q.task (JY q)with
     |true=>
      simp(maxSteps:=999999)(disch:=omega)only[go_sem,zA,zM,zS,zE,zL]
      refine Z5 [0,2,1] [] none [3,4,5] [] [0,1,0,7,15,31] ZE (by kernel_rfl) ?_
      iterate 2 (rw[J0];simp(maxSteps:=999999)(disch:=omega)only[go_sem,zA,zM,zS,zE,zL])
      rw[J0]
      simp(maxSteps:=999999)(disch:=omega)only[go_sem,zA,zM,zS,zE,zL]
      refine JG.mkC (Zm q hx) (⟨_,Tryz.func58,rfl,rfl⟩:Jg Tryz.prog 58) rfl rfl rfl ?_
      intro c3 c4 H1 S3 S4 k3 k4 n3 m3 m4
      simp only[Ja,Je,Jb,Jd]at k3 k4 m3 m4
      have hF3:∀(X1 X2 X3 Y1 Y2 Y3:Option Zo) (T:List Nat),(∀k∈T,3≤k∧k<3+H1.length)→∀k∈T,(Y1::Y2::Y3::H1)[k]? =(X1::X2::X3::H1)[k]? :=fun X1 X2 X3 Y1 Y2 Y3 T hT k hk=>by
       obtain⟨j,rfl⟩:∃j,k=j+3:=⟨k -3,by have:=hT k hk;omega⟩
       rfl
      have m3':∀k∈S3,3≤k∧k<3+H1.length:=fun k hk=>by have:=m3 k hk;omega
      have m4':∀k∈S4,3≤k∧k<3+H1.length:=fun k hk=>by have:=m4 k hk;omega
      simp(maxSteps:=999999)(disch:=omega)only[go_sem,zA,zM,zS,zE,zL]
      first|refine JU.rd (KK (Vt q.task (JY q))) (⟨_,Tryz.func75,rfl,rfl⟩:Jg Tryz.prog 75) rfl rfl rfl rfl ?_|refine JG.rd (KK (Vt q.task (JY q))) (⟨_,Tryz.func75,rfl,rfl⟩:Jg Tryz.prog 75) rfl rfl rfl rfl ?_
      simp(maxSteps:=999999)(disch:=omega)only[go_sem,zA,zM,zS,zE,zL]
      exact Ud rfl rfl (k3.same (hF3 _ _ _ _ _ _ _ m3')) (k4.same (hF3 _ _ _ _ _ _ _ m4')) n3
     |false=>
      simp(maxSteps:=999999)(disch:=omega)only[go_sem,zA,zM,zS,zE,zL]
      refine JU.mkC (Zm q hx) (⟨_,Tryz.func58,rfl,rfl⟩:Jg Tryz.prog 58) rfl rfl rfl ?_
      intro c3 c4 H1 S3 S4 k3 k4 n3 m3 m4
      simp only[Ja,Je,Jb,Jd]at k3 k4 m3 m4
      have hF3:∀(X1 X2 X3 Y1 Y2 Y3:Option Zo) (T:List Nat),(∀k∈T,3≤k∧k<3+H1.length)→∀k∈T,(Y1::Y2::Y3::H1)[k]? =(X1::X2::X3::H1)[k]? :=fun X1 X2 X3 Y1 Y2 Y3 T hT k hk=>by
       obtain⟨j,rfl⟩:∃j,k=j+3:=⟨k -3,by have:=hT k hk;omega⟩
       rfl
      have m3':∀k∈S3,3≤k∧k<3+H1.length:=fun k hk=>by have:=m3 k hk;omega
      have m4':∀k∈S4,3≤k∧k<3+H1.length:=fun k hk=>by have:=m4 k hk;omega
      simp(maxSteps:=999999)(disch:=omega)only[go_sem,zA,zM,zS,zE,zL]
      exact Ud rfl rfl (k3.same (hF3 _ _ _ _ _ _ _ m3')) (k4.same (hF3 _ _ _ _ _ _ _ m4')) n3
   by_cases hc:l=UL
   · subst hc
     rw[eG,eT,if_neg hp,if_neg hp,if_neg hb,if_neg hb,if_neg hh,if_pos rfl]
     have d1:decide ((UL.length:Int)=6)=false:=rfl
     have d2:decide (UL=[98,97,99,107])=false:=rfl
     have d3:decide (UL=[104,105,110,116])=false:=rfl
     have d4:decide (UL=[99,104,101,99,107])=true:=rfl
     simp(maxSteps:=999999)(disch:=omega)only[go_sem,zA,zM,zS,zE,zL,d1,d2,d3,d4]
     first|refine JU.rd (Xn q.task (JY q) hx.1 (by omega)) (⟨_,Tryz.func76,rfl,rfl⟩:Jg Tryz.prog 76) rfl rfl rfl rfl ?_|refine JG.rd (Xn q.task (JY q) hx.1 (by omega)) (⟨_,Tryz.func76,rfl,rfl⟩:Jg Tryz.prog 76) rfl rfl rfl rfl ?_
     simp(maxSteps:=999999)(disch:=omega)only[go_sem,zA,zM,zS,zE,zL]
     unfold Rq
     cases hs:Ux q.task (JY q)with
     |true=>
      simp(maxSteps:=999999)(disch:=omega)only[go_sem,zA,zM,zS,zE,zL]
      refine JU.mkC (Zm q hx) (⟨_,Tryz.func58,rfl,rfl⟩:Jg Tryz.prog 58) rfl rfl rfl ?_
      intro c3 c4 H1 S3 S4 k3 k4 n3 m3 m4
      simp only[Ja,Je,Jb,Jd]at k3 k4 m3 m4
      have hD:∀(X1 X2 Y1 Y2:Option Zo) (M:Jn) (T:List Nat),(∀k∈T,2≤k∧k<2+H1.length)→∀k∈T,(Y1::Y2::(H1++M))[k]? =(X1::X2::H1)[k]? :=fun X1 X2 Y1 Y2 M T hT k hk=>by
       have:=hT k hk
       rw[QC (by omega),QC (by omega),Jc (by omega)]
      have hF:∀(X1 X2 Y1 Y2:Option Zo) (T:List Nat),(∀k∈T,2≤k∧k<2+H1.length)→∀k∈T,(Y1::Y2::H1)[k]? =(X1::X2::H1)[k]? :=fun X1 X2 Y1 Y2 T hT k hk=>by
       have:=hT k hk
       rw[QC (by omega),QC (by omega)]
      have m3':∀k∈S3,2≤k∧k<2+H1.length:=fun k hk=>by have:=m3 k hk;omega
      have m4':∀k∈S4,2≤k∧k<2+H1.length:=fun k hk=>by have:=m4 k hk;omega
      simp(maxSteps:=999999)(disch:=omega)only[go_sem,zA,zM,zS,zE,zL]
      exact Ud rfl rfl (k3.same (hF _ _ _ _ _ m3')) (k4.same (hF _ _ _ _ _ m4')) n3
     |false=>
      simp(maxSteps:=999999)(disch:=omega)only[go_sem,zA,zM,zS,zE,zL]
      first|refine JU.rd (YV q.task (JY q) hx.1 (by omega)) (⟨_,Tryz.func77,rfl,rfl⟩:Jg Tryz.prog 77) rfl rfl rfl rfl ?_|refine JG.rd (YV q.task (JY q) hx.1 (by omega)) (⟨_,Tryz.func77,rfl,rfl⟩:Jg Tryz.prog 77) rfl rfl rfl rfl ?_
      simp(maxSteps:=999999)(disch:=omega)only[go_sem,zA,zM,zS,zE,zL]
      cases hcf:XZ q.task (JY q)with
      |true=>
       simp(maxSteps:=999999)(disch:=omega)only[go_sem,zA,zM,zS,zE,zL]
       refine JU.mkC (Zm q hx) (⟨_,Tryz.func58,rfl,rfl⟩:Jg Tryz.prog 58) rfl rfl rfl ?_
       intro c3 c4 H1 S3 S4 k3 k4 n3 m3 m4
       simp only[Ja,Je,Jb,Jd]at k3 k4 m3 m4
       have hD:∀(X1 X2 Y1 Y2:Option Zo) (M:Jn) (T:List Nat),(∀k∈T,2≤k∧k<2+H1.length)→∀k∈T,(Y1::Y2::(H1++M))[k]? =(X1::X2::H1)[k]? :=fun X1 X2 Y1 Y2 M T hT k hk=>by
        have:=hT k hk
        rw[QC (by omega),QC (by omega),Jc (by omega)]
       have hF:∀(X1 X2 Y1 Y2:Option Zo) (T:List Nat),(∀k∈T,2≤k∧k<2+H1.length)→∀k∈T,(Y1::Y2::H1)[k]? =(X1::X2::H1)[k]? :=fun X1 X2 Y1 Y2 T hT k hk=>by
        have:=hT k hk
        rw[QC (by omega),QC (by omega)]
       have m3':∀k∈S3,2≤k∧k<2+H1.length:=fun k hk=>by have:=m3 k hk;omega
       have m4':∀k∈S4,2≤k∧k<2+H1.length:=fun k hk=>by have:=m4 k hk;omega
       simp(maxSteps:=999999)(disch:=omega)only[go_sem,zA,zM,zS,zE,zL]
       exact Ud rfl rfl (k3.same (hF _ _ _ _ _ m3')) (k4.same (hF _ _ _ _ _ m4')) n3
      |false=>
       simp(maxSteps:=999999)(disch:=omega)only[go_sem,zA,zM,zS,zE,zL]
       refine JU.mkC (Zm q hx) (⟨_,Tryz.func58,rfl,rfl⟩:Jg Tryz.prog 58) rfl rfl rfl ?_
       intro c3 c4 H1 S3 S4 k3 k4 n3 m3 m4
       simp only[Ja,Je,Jb,Jd]at k3 k4 m3 m4
       have hD:∀(X1 X2 Y1 Y2:Option Zo) (M:Jn) (T:List Nat),(∀k∈T,2≤k∧k<2+H1.length)→∀k∈T,(Y1::Y2::(H1++M))[k]? =(X1::X2::H1)[k]? :=fun X1 X2 Y1 Y2 M T hT k hk=>by
        have:=hT k hk
        rw[QC (by omega),QC (by omega),Jc (by omega)]
       have hF:∀(X1 X2 Y1 Y2:Option Zo) (T:List Nat),(∀k∈T,2≤k∧k<2+H1.length)→∀k∈T,(Y1::Y2::H1)[k]? =(X1::X2::H1)[k]? :=fun X1 X2 Y1 Y2 T hT k hk=>by
        have:=hT k hk
        rw[QC (by omega),QC (by omega)]
       have m3':∀k∈S3,2≤k∧k<2+H1.length:=fun k hk=>by have:=m3 k hk;omega
       have m4':∀k∈S4,2≤k∧k<2+H1.length:=fun k hk=>by have:=m4 k hk;omega
       simp(maxSteps:=999999)(disch:=omega)only[go_sem,zA,zM,zS,zE,zL]
       exact Ud rfl rfl (k3.same (hF _ _ _ _ _ m3')) (k4.same (hF _ _ _ _ _ m4')) n3
   have d2:decide (l=[98,97,99,107])=false:=decide_eq_false hb
   have d3:decide (l=[104,105,110,116])=false:=decide_eq_false hh
   have d4:decide (l=[99,104,101,99,107])=false:=decide_eq_false hc
   rw[eG,eT,if_neg hp,if_neg hp,if_neg hb,if_neg hb,if_neg hh,if_neg hc]
   have hs:sub l 0 4=l.take 4:=rfl
   by_cases p1:l.length=6
   rotate_left
   · have d1:decide ((l.length:Int)=6)=false:=decide_eq_false (by omega)
     simp(maxSteps:=999999)(disch:=omega)only[go_sem,zA,zM,zS,zE,zL,d1]
     simp(maxSteps:=999999)(disch:=omega)only[go_sem,zA,zM,zS,zE,zL,d2,d3,d4]
     refine JU.mkC (Zm q hx) (⟨_,Tryz.func58,rfl,rfl⟩:Jg Tryz.prog 58) rfl rfl rfl ?_
     intro c3 c4 H1 S3 S4 k3 k4 n3 m3 m4
     simp only[Ja,Je,Jb,Jd]at k3 k4 m3 m4
     have hD:∀(X1 X2 Y1 Y2:Option Zo) (M:Jn) (T:List Nat),(∀k∈T,2≤k∧k<2+H1.length)→∀k∈T,(Y1::Y2::(H1++M))[k]? =(X1::X2::H1)[k]? :=fun X1 X2 Y1 Y2 M T hT k hk=>by
      have:=hT k hk
      rw[QC (by omega),QC (by omega),Jc (by omega)]
     have hF:∀(X1 X2 Y1 Y2:Option Zo) (T:List Nat),(∀k∈T,2≤k∧k<2+H1.length)→∀k∈T,(Y1::Y2::H1)[k]? =(X1::X2::H1)[k]? :=fun X1 X2 Y1 Y2 T hT k hk=>by
      have:=hT k hk
      rw[QC (by omega),QC (by omega)]
     have m3':∀k∈S3,2≤k∧k<2+H1.length:=fun k hk=>by have:=m3 k hk;omega
     have m4':∀k∈S4,2≤k∧k<2+H1.length:=fun k hk=>by have:=m4 k hk;omega
     simp(maxSteps:=999999)(disch:=omega)only[go_sem,zA,zM,zS,zE,zL]
     exact Ud rfl rfl (k3.same (hF _ _ _ _ _ m3')) (k4.same (hF _ _ _ _ _ m4')) n3
   have d1:decide ((l.length:Int)=6)=true:=decide_eq_true (by omega)
   by_cases p2:l.take 4=[112,117,116,32]
   rotate_left
   · have e2:decide (sub l 0 4=[112,117,116,32])=false:=decide_eq_false (by rw[hs];exact p2)
     simp(maxSteps:=999999)(disch:=omega)only[go_sem,zA,zM,zS,zE,zL,d1,e2]
     simp(maxSteps:=999999)(disch:=omega)only[go_sem,zA,zM,zS,zE,zL,d2,d3,d4]
     refine JU.mkC (Zm q hx) (⟨_,Tryz.func58,rfl,rfl⟩:Jg Tryz.prog 58) rfl rfl rfl ?_
     intro c3 c4 H1 S3 S4 k3 k4 n3 m3 m4
     simp only[Ja,Je,Jb,Jd]at k3 k4 m3 m4
     have hD:∀(X1 X2 Y1 Y2:Option Zo) (M:Jn) (T:List Nat),(∀k∈T,2≤k∧k<2+H1.length)→∀k∈T,(Y1::Y2::(H1++M))[k]? =(X1::X2::H1)[k]? :=fun X1 X2 Y1 Y2 M T hT k hk=>by
      have:=hT k hk
      rw[QC (by omega),QC (by omega),Jc (by omega)]
     have hF:∀(X1 X2 Y1 Y2:Option Zo) (T:List Nat),(∀k∈T,2≤k∧k<2+H1.length)→∀k∈T,(Y1::Y2::H1)[k]? =(X1::X2::H1)[k]? :=fun X1 X2 Y1 Y2 T hT k hk=>by
      have:=hT k hk
      rw[QC (by omega),QC (by omega)]
     have m3':∀k∈S3,2≤k∧k<2+H1.length:=fun k hk=>by have:=m3 k hk;omega
     have m4':∀k∈S4,2≤k∧k<2+H1.length:=fun k hk=>by have:=m4 k hk;omega
     simp(maxSteps:=999999)(disch:=omega)only[go_sem,zA,zM,zS,zE,zL]
     exact Ud rfl rfl (k3.same (hF _ _ _ _ _ m3')) (k4.same (hF _ _ _ _ _ m4')) n3
   have e2:decide (sub l 0 4=[112,117,116,32])=true:=decide_eq_true (by rw[hs];exact p2)
   by_cases p3:97≤XY l 4
   rotate_left
   · simp(maxSteps:=999999)(disch:=omega)only[go_sem,zA,zM,zS,zE,zL,d1,e2,decide_eq_false p3]
     simp(maxSteps:=999999)(disch:=omega)only[go_sem,zA,zM,zS,zE,zL,d2,d3,d4]
     refine JU.mkC (Zm q hx) (⟨_,Tryz.func58,rfl,rfl⟩:Jg Tryz.prog 58) rfl rfl rfl ?_
     intro c3 c4 H1 S3 S4 k3 k4 n3 m3 m4
     simp only[Ja,Je,Jb,Jd]at k3 k4 m3 m4
     have hD:∀(X1 X2 Y1 Y2:Option Zo) (M:Jn) (T:List Nat),(∀k∈T,2≤k∧k<2+H1.length)→∀k∈T,(Y1::Y2::(H1++M))[k]? =(X1::X2::H1)[k]? :=fun X1 X2 Y1 Y2 M T hT k hk=>by
      have:=hT k hk
      rw[QC (by omega),QC (by omega),Jc (by omega)]
     have hF:∀(X1 X2 Y1 Y2:Option Zo) (T:List Nat),(∀k∈T,2≤k∧k<2+H1.length)→∀k∈T,(Y1::Y2::H1)[k]? =(X1::X2::H1)[k]? :=fun X1 X2 Y1 Y2 T hT k hk=>by
      have:=hT k hk
      rw[QC (by omega),QC (by omega)]
     have m3':∀k∈S3,2≤k∧k<2+H1.length:=fun k hk=>by have:=m3 k hk;omega
     have m4':∀k∈S4,2≤k∧k<2+H1.length:=fun k hk=>by have:=m4 k hk;omega
     simp(maxSteps:=999999)(disch:=omega)only[go_sem,zA,zM,zS,zE,zL]
     exact Ud rfl rfl (k3.same (hF _ _ _ _ _ m3')) (k4.same (hF _ _ _ _ _ m4')) n3
   by_cases p4:XY l 4≤122
   rotate_left
   · simp(maxSteps:=999999)(disch:=omega)only[go_sem,zA,zM,zS,zE,zL,d1,e2,decide_eq_true p3,decide_eq_false p4]
     simp(maxSteps:=999999)(disch:=omega)only[go_sem,zA,zM,zS,zE,zL,d2,d3,d4]
     refine JU.mkC (Zm q hx) (⟨_,Tryz.func58,rfl,rfl⟩:Jg Tryz.prog 58) rfl rfl rfl ?_
     intro c3 c4 H1 S3 S4 k3 k4 n3 m3 m4
     simp only[Ja,Je,Jb,Jd]at k3 k4 m3 m4
     have hD:∀(X1 X2 Y1 Y2:Option Zo) (M:Jn) (T:List Nat),(∀k∈T,2≤k∧k<2+H1.length)→∀k∈T,(Y1::Y2::(H1++M))[k]? =(X1::X2::H1)[k]? :=fun X1 X2 Y1 Y2 M T hT k hk=>by
      have:=hT k hk
      rw[QC (by omega),QC (by omega),Jc (by omega)]
     have hF:∀(X1 X2 Y1 Y2:Option Zo) (T:List Nat),(∀k∈T,2≤k∧k<2+H1.length)→∀k∈T,(Y1::Y2::H1)[k]? =(X1::X2::H1)[k]? :=fun X1 X2 Y1 Y2 T hT k hk=>by
      have:=hT k hk
      rw[QC (by omega),QC (by omega)]
     have m3':∀k∈S3,2≤k∧k<2+H1.length:=fun k hk=>by have:=m3 k hk;omega
     have m4':∀k∈S4,2≤k∧k<2+H1.length:=fun k hk=>by have:=m4 k hk;omega
     simp(maxSteps:=999999)(disch:=omega)only[go_sem,zA,zM,zS,zE,zL]
     exact Ud rfl rfl (k3.same (hF _ _ _ _ _ m3')) (k4.same (hF _ _ _ _ _ m4')) n3
   by_cases p5:48≤XY l 5
   rotate_left
   · simp(maxSteps:=999999)(disch:=omega)only[go_sem,zA,zM,zS,zE,zL,d1,e2,decide_eq_true p3,decide_eq_true p4,decide_eq_false p5]
     simp(maxSteps:=999999)(disch:=omega)only[go_sem,zA,zM,zS,zE,zL,d2,d3,d4]
     refine JU.mkC (Zm q hx) (⟨_,Tryz.func58,rfl,rfl⟩:Jg Tryz.prog 58) rfl rfl rfl ?_
     intro c3 c4 H1 S3 S4 k3 k4 n3 m3 m4
     simp only[Ja,Je,Jb,Jd]at k3 k4 m3 m4
     have hD:∀(X1 X2 Y1 Y2:Option Zo) (M:Jn) (T:List Nat),(∀k∈T,2≤k∧k<2+H1.length)→∀k∈T,(Y1::Y2::(H1++M))[k]? =(X1::X2::H1)[k]? :=fun X1 X2 Y1 Y2 M T hT k hk=>by
      have:=hT k hk
      rw[QC (by omega),QC (by omega),Jc (by omega)]
     have hF:∀(X1 X2 Y1 Y2:Option Zo) (T:List Nat),(∀k∈T,2≤k∧k<2+H1.length)→∀k∈T,(Y1::Y2::H1)[k]? =(X1::X2::H1)[k]? :=fun X1 X2 Y1 Y2 T hT k hk=>by
      have:=hT k hk
      rw[QC (by omega),QC (by omega)]
     have m3':∀k∈S3,2≤k∧k<2+H1.length:=fun k hk=>by have:=m3 k hk;omega
     have m4':∀k∈S4,2≤k∧k<2+H1.length:=fun k hk=>by have:=m4 k hk;omega
     simp(maxSteps:=999999)(disch:=omega)only[go_sem,zA,zM,zS,zE,zL]
     exact Ud rfl rfl (k3.same (hF _ _ _ _ _ m3')) (k4.same (hF _ _ _ _ _ m4')) n3
   have p6:¬XY l 5≤57:=fun p6=>hp ⟨p1,p2,⟨p3,p4⟩,p5,p6⟩
   simp(maxSteps:=999999)(disch:=omega)only[go_sem,zA,zM,zS,zE,zL,d1,e2,decide_eq_true p3,decide_eq_true p4,decide_eq_true p5,decide_eq_false p6]
   simp(maxSteps:=999999)(disch:=omega)only[go_sem,zA,zM,zS,zE,zL,d2,d3,d4]
   refine JU.mkC (Zm q hx) (⟨_,Tryz.func58,rfl,rfl⟩:Jg Tryz.prog 58) rfl rfl rfl ?_
   intro c3 c4 H1 S3 S4 k3 k4 n3 m3 m4
   simp only[Ja,Je,Jb,Jd]at k3 k4 m3 m4
   have hD:∀(X1 X2 Y1 Y2:Option Zo) (M:Jn) (T:List Nat),(∀k∈T,2≤k∧k<2+H1.length)→∀k∈T,(Y1::Y2::(H1++M))[k]? =(X1::X2::H1)[k]? :=fun X1 X2 Y1 Y2 M T hT k hk=>by
    have:=hT k hk
    rw[QC (by omega),QC (by omega),Jc (by omega)]
   have hF:∀(X1 X2 Y1 Y2:Option Zo) (T:List Nat),(∀k∈T,2≤k∧k<2+H1.length)→∀k∈T,(Y1::Y2::H1)[k]? =(X1::X2::H1)[k]? :=fun X1 X2 Y1 Y2 T hT k hk=>by
    have:=hT k hk
    rw[QC (by omega),QC (by omega)]
   have m3':∀k∈S3,2≤k∧k<2+H1.length:=fun k hk=>by have:=m3 k hk;omega
   have m4':∀k∈S4,2≤k∧k<2+H1.length:=fun k hk=>by have:=m4 k hk;omega
   simp(maxSteps:=999999)(disch:=omega)only[go_sem,zA,zM,zS,zE,zL]
   exact Ud rfl rfl (k3.same (hF _ _ _ _ _ m3')) (k4.same (hF _ _ _ _ _ m4')) n3
end Go.Lg

namespace Go.Lg
open Go.Proofs
theorem Vw(xs ys:List (List UInt8))(hx:xs.length≤2^40):JM Tryz.prog 24 [Yf eS xs,Yf eS ys] (bool (decide (xs=ys))):=by
 refine Jk.cw (c:=_) Tryz.func24 rfl (n:=26) Tryz.ntmps24 (rs:=[.tmp 4]) rfl ?_
 simp only[Ja,Je,zA,zS,Jf,Jb,Jd]
 simp(maxSteps:=999999)(disch:=omega)only[go_sem,zA,zM,zS,zE,zL]
 refine QS (fun h=> ?_) (fun h=> ?_)<;>simp(maxSteps:=999999)(disch:=omega)only[go_sem,zA,zM,zS,zE,zL]
 · simp at h
   symm;simp;intro h2;exact h (by rw[h2])
 have hl:xs.length=ys.length:=by simp at h;omega
 refine JO (fun i:Nat=>xs.length -i) (fun i=>i≤xs.length∧∀j:Nat,j<i→Jy xs j=Jy ys j) (fun i=>[.k, .k, .a, .a, .a, .p (int i), .a, .a, .a, .a, .a, .a, .a, .a, .a, .a, .a, .a, .a, .a, .a, .a, .a, .a, .a, .a]) (fun i=>[]) 0
  ⟨Nat.zero_le _,fun j hj=>absurd hj (Nat.not_lt_zero _)⟩ (by simp(maxSteps:=999999)(disch:=omega)only[go_sem,zA,zM,zS,zE,zL];rfl) (J9 _) ?_
 rintro i ⟨hi,hall⟩
 simp(maxSteps:=999999)(disch:=omega)only[go_sem,zA,zM,zS,zE,zL]
 refine QS (fun h=> ?_) (fun h=> ?_)
 · have h:i<xs.length:=by simpa using h
   simp(maxSteps:=999999)(disch:=omega)only[go_sem,zA,zM,zS,zE,zL]
   refine Zi ZE (by kernel_rfl) ?_
   simp(maxSteps:=999999)(disch:=omega)only[go_sem,Nat.reduceBEq,Bool.true_or,zA,zM,zS,zE,zL]
   refine QS (fun h=> ?_) (fun h=> ?_)<;>simp(maxSteps:=999999)(disch:=omega)only[go_sem,zA,zM,zS,zE,zL]
   · simp at h
     symm;simp;intro h2;exact h (by rw[h2])
   simp at h
   refine⟨i+1,⟨⟨by omega,fun j hj=> ?_⟩,by omega⟩,by omega,J9 _⟩
   rcases Nat.lt_succ_iff_lt_or_eq.1 hj with hj|rfl
   · exact hall j hj
   · exact h
 have h:¬i<xs.length:=by simpa using h
 simp(maxSteps:=999999)(disch:=omega)only[go_sem,zA,zM,zS,zE,zL]
 have:=V0 hl fun j hj=>hall j (by omega)
 simp[this]
theorem Jlf(m:Nat):(m:Int).tmod 10=((m%10:Nat):Int):=rfl
theorem Jlh(m:Nat):(m:Int).tdiv 10=((m/10:Nat):Int):=rfl
theorem R6(k:Int)(hk:0≤k∧k≤2^51):JM Tryz.prog 65 [int k] (W0 (GJ k)):=by
 refine Jk.cw (c:=_) Tryz.func65 rfl (n:=20) Tryz.ntmps65 (rs:=[.tmp 2]) rfl ?_
 simp only[Ja,Je,zA,zS,Jf,Jb,Jd]
 simp(maxSteps:=999999)(disch:=omega)only[go_sem,zA,zM,zS,zE,zL]
 refine QS (fun h=> ?_) (fun h=> ?_)
 · simp(maxSteps:=999999)(disch:=omega)only[go_sem,zA,zM,zS,zE,zL]
   simp at h
   simp[GJ,h]
 simp at h
 simp(maxSteps:=999999)(disch:=omega)only[go_sem,zA,zM,zS,zE,zL]
 have hk0:k=(k.toNat:Int):=by omega
 refine Qx (fun(m:Nat) (out:List UInt8)=>m) (fun m out=>Jeh k.toNat []=Jeh m out∧out.length+m≤k.toNat) (fun m out=>[.p (int m), .a, .a, .p (W0 out), .a, .a, .a, .a, .a, .a, .a, .a, .a, .a, .a, .a, .a, .a, .a, .a]) (fun _ _=>[]) k.toNat []
  ⟨rfl,by simp⟩ (by simp(maxSteps:=999999)(disch:=omega)only[go_sem,zA,zM,zS,zE,zL];omega) (J9 _) ?_
 rintro m out ⟨h1,h2⟩
 simp(maxSteps:=999999)(disch:=omega)only[go_sem,zA,zM,zS,zE,zL]
 refine QS (fun h3=> ?_) (fun h3=> ?_)
 · have h3:0<m:=by simpa using h3
   have hm:m%10<10:=Nat.mod_lt _ (by omega)
   have hd:m/10<m:=Nat.div_lt_self h3 (by omega)
   simp(maxSteps:=999999)(disch:=omega)only[go_sem,zA,zM,zS,zE,zL,Jlf,Jlh]
   intro g
   refine⟨m/10,u8 (48+((m%10:Nat):Int))::out,⟨⟨?_,by simp only[Ja];omega⟩,hd⟩,⟨rfl,rfl⟩,J9 _⟩
   rw[h1,Jeh,dif_neg (by omega)]
 have h3:m=0:=by simpa using h3
 subst h3
 simp(maxSteps:=999999)(disch:=omega)only[go_sem,zA,zM,zS,zE,zL]
 have:Jeh 0 out=out:=by rw[Jeh];simp
 simp only[GJ]
 rw[if_neg (by omega),h1,this]
theorem FK(H:Jn)(id g:Nat)(xs:List (List UInt8))(k:Int)(hl:look H id g=some ⟨g,1,cl eS xs⟩)(hk:0≤k∧k≤2^50)(hx:xs.length≤2^40):
 Jk Tryz.prog 26 [.c (.own id g 0 xs.length none),int k] H (fun r H'=>r=int (k+xs.length)∧H'=H.set id (some ⟨g,1,cl eS (XQ k xs.length)⟩)):=by
 refine Jk.cw (c:=_) Tryz.func26 rfl (n:=20) Tryz.ntmps26 (rs:=[.tmp 4]) rfl ?_
 simp only[Ja,Je,zA,zS,Jf,Jb,Jd]
 simp(maxSteps:=999999)(disch:=omega)only[go_sem,zA,zM,zS,zE,zL]
 have hid:H[id]? =some (some ⟨g,1,cl eS xs⟩):=(JH hl).1
 have hlt:id<H.length:=(Jh.1 hid).1
 have hs:∀ys:List (List UInt8),look (H.set id (some ⟨g,1,cl eS ys⟩)) id g=some ⟨g,1,cl eS ys⟩:=fun ys=>Qj (b:=⟨g,1,cl eS ys⟩) (by rw[JE hlt])
 refine Qx (fun(i:Nat) (ys:List (List UInt8))=>xs.length -i) (fun i ys=>i≤xs.length∧ys.length=xs.length∧∀j:Nat,j<i→Jy ys j=GJ (k+j)) (fun i _=>[.k, .p (int (k+i)), .a, .a, .a, .p (int i), .a, .a, .a, .a, .a, .a, .a, .a, .a, .a, .a, .a, .a, .a]) (fun _ ys=>H.set id (some ⟨g,1,cl eS ys⟩)) 0 xs
  ⟨Nat.zero_le _,rfl,fun j hj=>absurd hj (Nat.not_lt_zero _)⟩ (by simp(maxSteps:=999999)(disch:=omega)only[go_sem,zA,zM,zS,zE,zL];simp) (Yo hid) ?_
 rintro i ys ⟨hi,hly,hall⟩
 simp(maxSteps:=999999)(disch:=omega)only[go_sem,zA,zM,zS,zE,zL,hs]
 refine QS (fun h=> ?_) (fun h=> ?_)
 · have h:i<xs.length:=by simpa using h
   simp(maxSteps:=999999)(disch:=omega)only[go_sem,zA,zM,zS,zE,zL,hs]
   refine JU.rd (R6 (k+i) (by omega)) (⟨_,Tryz.func65,rfl,rfl⟩:Jg Tryz.prog 65) rfl rfl rfl rfl ?_
   simp(maxSteps:=999999)(disch:=omega)only[go_sem,zA,zM,zS,zE,zL,hs]
   refine⟨i+1,ys.set i (GJ (k+i)),⟨⟨h,by simp[hly],fun j hj=> ?_⟩,by omega⟩,⟨by push_cast;omega,by push_cast;omega⟩,by rw[List.set_set];exact J5.refl _⟩
   rw[VU _ _ _ _ (by omega) (by omega)]
   split
   · rw[show(j:Int)=i by omega]
   · exact hall j (by omega)
 have h:i=xs.length:=by have:¬i<xs.length:=by simpa using h
                        omega
 subst h
 simp(maxSteps:=999999)(disch:=omega)only[go_sem,zA,zM,zS,zE,zL]
 have:ys=XQ k xs.length:=V0 (by rw[hly,Un]) fun j hj=>by rw[hall j (by omega),BL (by omega)]
 subst this
 exact⟨_,J5.refl _,rfl,rfl⟩
theorem R7(k:Int):JM Tryz.prog 26 [Yf eS [],int k] (int k):=by
 refine Jk.cw (c:=_) Tryz.func26 rfl (n:=20) Tryz.ntmps26 (rs:=[.tmp 4]) rfl ?_
 simp only[Ja,Je,zA,zS,Jf,Jb,Jd]
 simp(maxSteps:=999999)(disch:=omega)only[go_sem,zA,zM,zS,zE,zL]
 refine JO (fun _:Unit=>0) (fun _=>True) (fun _=>[.k, .p (int k), .a, .a, .a, .p (int 0), .a, .a, .a, .a, .a, .a, .a, .a, .a, .a, .a, .a, .a, .a]) (fun _=>[]) () trivial (by simp(maxSteps:=999999)(disch:=omega)only[go_sem,zA,zM,zS,zE,zL]) (J9 _) ?_
 intro _ _
 simp(maxSteps:=999999)(disch:=omega)only[go_sem,zA,zM,zS,zE,zL]
 simp only[show decide ((0:Int)<((0:Nat):Int))=false from rfl]
 simp(maxSteps:=999999)(disch:=omega)only[go_sem,zA,zM,zS,zE,zL]
theorem YA(n:Nat)(k:Int)(hk:0≤k∧k≤2^50)(hx:n≤2^40):JM Tryz.prog 28 [Yf eS (XQ k n),int k] (int (k+n)):=by
 refine Jk.cw (c:=_) Tryz.func28 rfl (n:=22) Tryz.ntmps28 (rs:=[.tmp 4]) rfl ?_
 simp only[Ja,Je,zA,zS,Jf,Jb,Jd]
 simp(maxSteps:=999999)(disch:=omega)only[go_sem,zA,zM,zS,zE,zL]
 have hm:=Un k n
 refine JO (fun(i:Nat)=>n -i) (fun i=>i≤n) (fun i=>[.k, .p (int (k+i)), .a, .a, .a, .p (int i), .a, .a, .a, .a, .a, .a, .a, .a, .a, .a, .a, .a, .a, .a, .a, .a]) (fun _=>[]) 0
  (Nat.zero_le _) (by simp(maxSteps:=999999)(disch:=omega)only[go_sem,zA,zM,zS,zE,zL];simp) (J9 _) ?_
 intro i hi
 simp(maxSteps:=999999)(disch:=omega)only[go_sem,zA,zM,zS,zE,zL,Un]
 refine QS (fun h=> ?_) (fun h=> ?_)
 · have h:i<n:=by simpa using h
   simp(maxSteps:=999999)(disch:=omega)only[go_sem,zA,zM,zS,zE,zL,Un,BL h]
   refine Zi ZE (by kernel_rfl) ?_
   simp(maxSteps:=999999)(disch:=omega)only[go_sem,Nat.reduceBEq,Bool.true_or,zA,zM,zS,zE,zL]
   refine QM.rd (R6 (k+i) (by omega)) (⟨_,Tryz.func65,rfl,rfl⟩:Jg Tryz.prog 65) rfl rfl rfl rfl ?_
   simp(maxSteps:=999999)(disch:=omega)only[go_sem,zA,zM,zS,zE,zL,BL h]
   exact⟨i+1,⟨h,by omega⟩,⟨by push_cast;omega,by push_cast;omega⟩,J9 _⟩
 have h:i=n:=by have:¬i<n:=by simpa using h
                omega
 subst h
 simp(maxSteps:=999999)(disch:=omega)only[go_sem,zA,zM,zS,zE,zL]
end Go.Lg

namespace Go.Lg
open Go.Proofs
theorem Jfp{p:QR}(hv:JA p=true){xs:List Int}(hx:Zd xs p.size.toNat):XZ p xs=decide (0<(JgE p xs).length):=by
 have hz:((p.size.toNat:Nat):Int)=p.size:=(Uq.of hv).2
 unfold XZ
 rw[if_pos ⟨hv,by have:=hx.valid (Uq.of hv).1.hn;rwa [hz]at this⟩,Jku hv hx,decide_eq_decide]
 omega
theorem Je4{p:QR}{xs s:List Int}:s∈JgE p xs↔s∈JeA p∧X6 xs s:=by
 unfold JgE
 rw[List.mem_filter,decide_eq_true_eq]
theorem JiR{p:QR}(hv:JA p=true){xs:List Int}(hx:Zd xs p.size.toNat)(h:XZ p xs=true):QJ p xs p.size.toNat=true:=by
 rw[Jfp hv hx,decide_eq_true_eq]at h
 obtain⟨s,hs⟩:=List.exists_mem_of_length_pos h
 rw[Je4,Nu hv]at hs
 exact XW (WX hv).1 hx hs.1.1.1 hs.2 hs.1.2.2
end Go.Lg

namespace Go.Lg
open Go.Proofs
attribute [-go_sem] Qf J0
structure YH(H:Jn)(c r:CV)(p:QR)(S1 S2:List Nat):Prop where
 g:Qr H c p.given S1
 rr:(r= .f .nil∧p.rules=[]∧S2=[])∨Ur H r p.rules S2
 nd:(S1++S2).Nodup
 l:Jkn r
theorem Jd6{r:CV}{k:Nat}(h:Jkn r):Jkn (ZT k r):=by
 cases r with
 |f v=>cases v<;>exact h
 |_=>exact h
section
variable{H H':Jn}{c r:CV}{p:QR}{S1 S2:List Nat}
theorem YH.same(h:YH H c r p S1 S2)(hs:∀i∈S1++S2,H'[i]? =H[i]?):YH H' c r p S1 S2:=
 ⟨h.g.same fun i hi=>hs i (by simp[hi]),h.rr.imp id fun k=>k.same fun i hi=>hs i (by simp[hi]),h.nd,h.l⟩
theorem YH.lt(h:YH H c r p S1 S2):∀i∈S1++S2,i<H.length:=fun i hi=>by
 rcases JI.1 hi with hi|hi
 · exact h.g.lt i hi
 · rcases h.rr with⟨_,_,rfl⟩|k
   · simp at hi
   · exact k.lt i hi
theorem YH.blk(h:YH H c r p S1 S2):(∀i∈S1++S2,∀b,H[i]? =some (some b)→∀x∈b.cs,UO x=true)∧UO c=true∧UO r=true:=by
 refine⟨fun i hi=> ?_,h.g.scal1, ?_⟩
 · rcases JI.1 hi with hi|hi
   · exact h.g.blk i hi
   · rcases h.rr with⟨_,_,rfl⟩|k
     · simp at hi
     · exact k.blk i hi
 · rcases h.rr with⟨rfl,_,_⟩|k
   · rfl
   · exact k.scal1
theorem YH.shift{H0:Jn}(h:YH H c r p S1 S2):YH (H0++Q1 H0.length H) (ZT H0.length c) (ZT H0.length r) p (S1.map (· +H0.length)) (S2.map (· +H0.length)):=by
 refine⟨h.g.shift, ?_, ?_,Jd6 h.l⟩
 · rcases h.rr with⟨rfl,h1,rfl⟩|k
   · exact .inl ⟨rfl,h1,rfl⟩
   · exact .inr k.shift
 · rw[←Qo]
   exact List.pairwise_map.2 (h.nd.imp fun h h'=>h (by omega))
theorem YH.snap(h:YH H c r p S1 S2):[AV.agg [.f (.int .i64 p.size),c,r]].mapM (Zs H)=some [aP p]:=by
 have e1:∀x:Int,frzC H (.f (.int .i64 x))=some (.f (.int .i64 x)):=fun _=>rfl
 have e2:=h.g.frzC
 have e3:frzC H r=some (.f (VN eR p.rules)):=by
  rcases h.rr with⟨rfl,h1,_⟩|k
  · rw[h1];exact(UE.n (E:=eR) (n:=3)).frzC
  · exact k.frzC
 simp only[Zs,J3,QB,e1,e2,e3,Option.bind_eq_bind,Option.pure_def,Option.bind_some,Option.map_some]
end
section
variable{P:Program}{o:Oper}{st:St}{K:KV}{fo:Operand}{xs:Array Operand}{ts:Array TypeId}{f:FuncId}{args args':List AV}{p:QR}
end
end Go.Lg

namespace Go.Lg
open Go.Proofs
structure Lat(s:List Int)(n:Nat):Prop where
 hn:n=2∨n=3∨n=4
 full:JkP n s
 nc:NC s n
theorem Lat.val{s:List Int}{n:Nat}(h:Lat s n){k:Nat}(hk:k<n*n):1≤(Jy s k).toNat∧(Jy s k).toNat≤n∧Jy s k=((Jy s k).toNat:Nat):=by
 have h1:=h.full.2 k hk
 have h2:=h.full.1.val k (by rw[h.full.1.len];exact hk)
 omega
theorem Lat.ne{s:List Int}{n:Nat}(h:Lat s n){a b:Nat}(ha:a<n*n)(hb:b<n*n)(hab:a≠b)(hl:a/n=b/n∨a%n=b%n):(Jy s a).toNat≠(Jy s b).toNat:=by
 have h1:=h.val ha
 have h2:=h.val hb
 rcases Nat.lt_or_ge a b with hlt|hge
 · have:=h.nc a b hlt hb hl (by omega)
   omega
 · have:=h.nc b a (by omega) ha (hl.imp Eq.symm Eq.symm) (by omega)
   omega
theorem JlO{n line i j:Nat}(hn:n=2∨n=3∨n=4)(hl:line<2*n)(hi:i<n)(hj:j<n):Vs n line i/n=Vs n line j/n∨Vs n line i%n=Vs n line j%n:=by
 unfold Vs
 rw[Wf hi,Wf hj]
 split
 · left;rcases hn with rfl|rfl|rfl<;>omega
 · right;rcases hn with rfl|rfl|rfl<;>omega
theorem Lat.line{s:List Int}{n:Nat}(h:Lat s n){line i j:Nat}(hl:line<2*n)(hi:i<n)(hj:j<n)(hij:i≠j):(Jy s (Vs n line i)).toNat≠(Jy s (Vs n line j)).toNat:=
 h.ne (Xb h.hn hl hi).1 (Xb h.hn hl hj).1 (fun e=>hij ((Jbm h.hn hl hi hj).1 e)) (JlO h.hn hl hi hj)
theorem Jed{p:QR}{n:Nat}{s:List Int}(h:QJ p s n=true):clear p s=true∧(∀r∈p.rules,Q9 r s n=true)∧Wy s n=false:=by
 simp only[QJ,Bool.and_eq_true,List.all_eq_true,Bool.not_eq_true']at h
 exact⟨h.1,h.2.1,h.2.2⟩
end Go.Lg

namespace Go.Lg
open Go.Proofs
def Jg4(a b:List Nat):Prop:=∀k i:Nat,(QH a k).testBit i=true→(QH b k).testBit i=true
theorem Jg4.refl(a:List Nat):Jg4 a a:=fun _ _ h=>h
theorem Jg4.trans{a b c:List Nat}(h:Jg4 a b)(g:Jg4 b c):Jg4 a c:=fun k i x=>g k i (h k i x)
theorem JgO{α:Type}{q:α→Bool}{L:List α}:L.countP q=L.length↔∀x∈L,q x=true:=by
 rw[List.countP_eq_length]
theorem JdC{p:QR}(hv:JA p=true){xs:List Int}(hg:Zd xs p.size.toNat):Ux p xs=true↔xs∈JeA p:=by
 obtain⟨hp,ha⟩:=WX hv
 have hz:((p.size.toNat:Nat):Int)=p.size:=(Uq.of hv).2
 have hgv:Qc xs p.size=true:=by have:=hg.valid hp.hn;rwa [hz]at this
 have hlen:p.given.length=xs.length:=by rw[ha.len,hg.len]
 have hpos:ZU xs p.size=xs.length↔∀k:Nat,k<xs.length→0<Jy xs k:=by
  unfold ZU
  rw[if_pos hgv]
  have e:(((xs.countP fun v=>decide (0<v):Nat):Int)=xs.length)↔(xs.countP fun v=>decide (0<v))=xs.length:=by omega
  rw[e,JgO]
  constructor
  · intro h k hk
    have:=h xs[k] (List.getElem_mem _)
    rw[Qe (by omega)]
    exact of_decide_eq_true this
  · intro h x hx
    obtain⟨i,hi,rfl⟩:=List.getElem_of_mem hx
    have:=h i hi
    rw[Qe (by omega)]at this
    exact decide_eq_true this
 rw[Nu hv]
 unfold Ux Jjn JkP
 rw[hv,hgv,Bool.true_and,Bool.true_and,Bool.and_eq_true,decide_eq_true_eq,hpos]
 constructor
 · rintro⟨h1,h2⟩
   refine⟨⟨hg,fun k hk=>h2 k (by rw[hg.len];exact hk)⟩,fun k hk=> ?_,h1⟩
   have hc:=(Jed h1).1
   simp only[clear,decide_eq_true_eq]at hc
   by_cases hkl:k<xs.length
   · have:=hc k hkl
     have:=h2 k hkl
     omega
   · rw[W9 (by omega)]at hk;omega
 · rintro⟨⟨_,h1⟩,_,h2⟩
   exact⟨h2,fun k hk=>h1 k (by rw[←hg.len];exact hk)⟩
end Go.Lg

namespace Go.Lg
open Go.Proofs
theorem N2:¬Y5 UL:=by decide
theorem Jd5{q:QU}{n:Nat}(h:UM q n):UB q UL=Rq q:=by
 unfold UB
 rw[if_pos h.valid,if_neg N2,if_neg (by decide),if_neg (by decide),if_pos rfl]
theorem Na{q:QU}{n:Nat}(h:UM q n):Zd (JY q) q.task.size.toNat:=by
 have hl:=h.ln
 have hz:q.task.size.toNat=n:=by have:=h.sz;omega
 rw[hz,h.grid]
 refine⟨by rw[Vk];exact h.gv.len,fun k hk=> ?_⟩
 rw[Vk]at hk
 rw[Ky hk]
 have a1:=h.gv.val k hk
 have a2:=h.pt.val k (by omega)
 omega
theorem JdD{p:QR}(hv:JA p=true){xs:List Int}(hx:Zd xs p.size.toNat)(h:Ux p xs=true):XZ p xs=true:=by
 rw[Jfp hv hx]
 refine decide_eq_true (List.length_pos_iff.2 fun h0=> ?_)
 have:=Je4.2 ⟨(JdC hv hx).1 h,X6.refl xs⟩
 rw[h0]at this
 cases this
theorem JiP{q:QU}{n:Nat}(h:UM q n):Rq q=if XZ q.task (JY q)=false then F3 else if Ux q.task (JY q)=true then FT else Jfh:=by
 unfold Rq
 cases hs:Ux q.task (JY q)with
 |true=>
  rw[JdD h.pv (Na h) hs]
  simp
 |false=>
  cases hc:XZ q.task (JY q)<;>simp
def VL(q:QU)(ls:List (List UInt8)):QU:=ls.foldl Zk q
def XL:QU→List (List UInt8)→List (List UInt8)
 |_,[]=>[]
 |q,l::ls=>UB q l::XL (Zk q l) ls
theorem RQ:∀(q:QU) (ls:List (List UInt8)),(XL q ls).length=ls.length
 |_,[]=>rfl
 |q,l::ls=>by simp[XL,RQ]
theorem Jhz(q:QU)(a b:List (List UInt8)):VL q (a++b)=VL (VL q a) b:=by simp[VL]
theorem Jcl:∀(q:QU) (a b:List (List UInt8)),XL q (a++b)=XL q a++XL (VL q a) b
 |q,[],b=>rfl
 |q,l::a,b=>by
  show UB q l::XL (Zk q l) (a++b)=UB q l::(XL (Zk q l) a++XL (VL (Zk q l) a) b)
  rw[Jcl]
theorem Ku{n:Nat}:∀{q:QU} (ls:List (List UInt8)),UM q n→UM (VL q ls) n
 |q,[],h=>h
 |q,l::ls,h=>Ku (q:=Zk q l) ls (GS h l)
end Go.Lg
