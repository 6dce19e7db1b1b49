/- GpSB, GpCF, GpIA, GpJC, GpNA, GpNE, GpSC, GpXS, cut to what is needed. -/
import Derived.Test.YtidekghnkifbjaaGreatDoorJec4
import Derived.Test.YtidekghnkifbjaaGreatDoorJed2
import Derived.Test.YtidekghnkifbjaaGreatDoorJed3
import Derived.Test.YtidekghnkifbjaaGreatDoorJed0
import Derived.Test.YtidekghnkifbjaaGreatDoorJeb7
import Derived.Test.YtidekghnkifbjaaGreatDoorJea9
import Derived.Test.YtidekghnkifbjaaGreatDoorJed1
import Derived.Test.YtidekghnkifbjaaGreatDoorJeb4
import Derived.Test.YtidekghnkifbjaaGreatDoorJec2
import Derived.Test.YtidekghnkifbjaaGreatDoorJeb3
import Derived.Shelf.Strconv.Itoa0
import Derived.Shelf.Strconv.Itoa1
import Derived.Shelf.LaysM
import Derived.Shelf.Strconv.Itoa2
import Derived.Shelf.Strconv.Itoa3
open List renaming getElem?_append_left → Ja, cons_append → Jb, nil_append → Jc, replicate → Jd, length_cons → Je, length_nil → Jf, mem_append → J2, mapM_cons → J4, mem_map → Qj, mapM_nil → Qw, map_append → QE
open Nat renaming reduceAdd→zA,reduceMul→zM,reduceSub→zS,reduceEqDiff→zE,reduceLeDiff→zL
set_option linter.unusedSimpArgs false
set_option linter.unusedVariables false
set_option maxRecDepth 100000
namespace Go.Lg
open Go.Proofs
attribute [-go_sem] J9 Jv
def okT:List UInt8:=[111,107]
def noT:List UInt8:=[110,111]
def Bu:List UInt8:=[110,111,110,101]
def Vs:List UInt8:=[115,111,108,118,101,100]
def Y8:List UInt8:=[103,111,111,100]
def WM:List UInt8:=[119,114,111,110,103]
def Wg:List UInt8:=[119,104,97,116]
def Yr:List UInt8:=[98,97,99,107]
def XN:List UInt8:=[104,105,110,116]
def U0:List UInt8:=[99,104,101,99,107]
def Yh(l:List UInt8):Prop:=l.length=6∧l.take 4=[112,117,116,32]∧(97≤Xy l 4∧Xy l 4≤122)∧48≤Xy l 5∧Xy l 5≤57
instance(l:List UInt8):Decidable (Yh l):=by unfold Yh;infer_instance
def QA(q:QZ)(l:List UInt8):QZ:=if Qd q=true then(if Yh l then Zt q (Xy l 4 -97) (Xy l 5 -48)else if l=Yr then QD q else q)else ZC
def Xz(q:QZ):List UInt8:=if Uj q.task (JN q)=true then Vs else if Yo q.task (JN q)=true then Y8 else WM
def Zl(q:QZ)(l:List UInt8):List UInt8:=if Qd q=true then(if Yh l then(if Zp q (Xy l 4 -97) (Xy l 5 -48)=true then okT else noT)
 else if l=Yr then(if QK q=true then okT else noT)else if l=XN then(if UK q.task (JN q)=true then VP (Z2 q.task (JN q))else Bu)else if l=U0 then Xz q else Wg)else[]
theorem Xs{q:QZ}{n:Nat}(h:Z1 q n)(l:List UInt8):Z1 (QA q l) n:=by
 unfold QA
 rw[if_pos h.valid]
 split
 · exact Jgp h
 · split
   · exact Je0 h
   · exact h
theorem Ww{q:QZ}(hv:Qd q=true):(JN q).length≤16:=by
 obtain⟨n,h⟩:=Z1.of hv
 rw[h.grid,Uo]
 have:=h.len
 have:=h.ln
 omega
theorem Uv{H:Jm}{q q':QZ}{y y':AV}{c3 c4:CV}{S3 S4:List Nat}(hq:q'=q)(hy:y'=y)(k3:Ub H c3 q.put S3)(k4:Ub H c4 q.moves S4)(hd:∀k∈S3,k∉S4):
 Uz H (XO q' y') (.tup [.agg [.f (.int .i64 q.task.size), .f (J5 q.task.given), .f (Uu eR q.task.rules),c3,c4],y]):=by
 subst hq hy
 exact⟨H,J0.refl _,c3,c4,rfl,S3,S4,k3,k4,hd⟩
section
variable{P:Program}{o:Oper}{st:St}{K:KV}{fo:Operand}{xs:Array Operand}{ts:Array TypeId}{f:FuncId}{args args':List AV}
theorem JZ.mkE{q:QZ}{b:Bool}(hc:Jn P f args [] (XO q (bool b)))(he:Ji P f)(ho:o.op= .call ⟨.value fo,xs,ts⟩)(ha:Qc st fo xs=some (f,args))(hf:args.all Q2=true)
 (hk:∀c3 c4 H' S3 S4,Ub (st.h++H') c3 q.put S3→Ub (st.h++H') c4 q.moves S4→(∀k∈S3,k∉S4)→(∀i∈S3,st.h.length≤i∧i<st.h.length+H'.length)→(∀i∈S4,st.h.length≤i∧i<st.h.length+H'.length)→
   K (.tup [.agg [.f (.int .i64 q.task.size), .f (J5 q.task.given), .f (Uu eR q.task.rules),c3,c4],bool b]) (st.h++H')):JZ P o st K:=
 JZ.mkQ hc he ho ha hf fun r H' ⟨c3,c4,h1,S3,S4,h3,h4,hd⟩=>by
  subst h1
  refine⟨rfl,hk _ _ _ _ _ h3.shift h4.shift (fun k hk hm=> ?_) (by rw[QQ];exact Ug h3.lt) (by rw[QQ];exact Ug h4.lt)⟩
  obtain⟨a,ha,rfl⟩:=Qj.1 hk
  obtain⟨b,hb,he⟩:=Qj.1 hm
  have:b=a:=by omega
  subst this
  exact hd b ha hb
theorem JK.mkE{ops:Array Oper}{s:List AV}{H:Jm}{q:QZ}{b:Bool}(hc:Jn P f args [] (XO q (bool b)))(he:Ji P f)(ho:o.op= .call ⟨.value fo,xs,ts⟩)(ha:Qc ⟨s,H⟩ fo xs=some (f,args))(hf:args.all Q2=true)
 (hk:∀c3 c4 H' S3 S4,Ub (H++H') c3 q.put S3→Ub (H++H') c4 q.moves S4→(∀k∈S3,k∉S4)→(∀i∈S3,H.length≤i∧i<H.length+H'.length)→(∀i∈S4,H.length≤i∧i<H.length+H'.length)→
   K (.tup [.agg [.f (.int .i64 q.task.size), .f (J5 q.task.given), .f (Uu eR q.task.rules),c3,c4],bool b]) (H++H')):JK P ops o s H K:=
 JK.call ho ha fun s' ha'=>JZ.mkE (st:=⟨s',H⟩) hc he ho ha' hf hk
theorem JK.mkC{ops:Array Oper}{s:List AV}{H:Jm}{q:QZ}(hc:Jn P f args [] (Jje q))(he:Ji P f)(ho:o.op= .call ⟨.value fo,xs,ts⟩)(ha:Qc ⟨s,H⟩ fo xs=some (f,args))(hf:args.all Q2=true)
 (hk:∀c3 c4 H' S3 S4,Ub (H++H') c3 q.put S3→Ub (H++H') c4 q.moves S4→(∀k∈S3,k∉S4)→(∀i∈S3,H.length≤i∧i<H.length+H'.length)→(∀i∈S4,H.length≤i∧i<H.length+H'.length)→
   K (.agg [.f (.int .i64 q.task.size), .f (J5 q.task.given), .f (Uu eR q.task.rules),c3,c4]) (H++H')):JK P ops o s H K:=
 JK.call ho ha fun s' ha'=>JZ.mkC (st:=⟨s',H⟩) hc he ho ha' hf hk
end
set_option maxHeartbeats 4000000 in
theorem Rn(q:QZ)(l:List UInt8)(hx:smG q)(hl:l.length≤2^40)(hv:Qd q=true):Jn Tryz.prog 31 [aG q,WU l] [] (XO (QA q l) (WU (Zl q l))):=by
 have hgl:=Ww hv
 have eG:QA q l=if Yh l then Zt q (Xy l 4 -97) (Xy l 5 -48)else if l=Yr then QD q else q:=by unfold QA;rw[if_pos hv]
 have eT:Zl q l=if Yh l then(if Zp q (Xy l 4 -97) (Xy l 5 -48)=true then okT else noT)else if l=Yr then(if QK q=true then okT else noT)else if l=XN then(if UK q.task (JN q)=true then VP (Z2 q.task (JN q))else Bu)else if l=U0 then Xz q else Wg:=by unfold Zl;rw[if_pos hv]
 refine Jn.cw (c:=_) Tryz.func31 rfl (n:=113) Tryz.ntmps31 (rs:=[.cell 4 28, .tmp 5]) rfl ?_
 simp only[Je,Jf,zA,zS,Jd,Jb,Jc]
 simp(maxSteps:=999999)(disch:=omega)only[go_sem,zA,zM,zS,zE,zL]
 intro g1 g2
 first|refine JZ.rd (QN q hx) (⟨_,Tryz.func12,rfl,rfl⟩:Ji Tryz.prog 12) rfl rfl rfl rfl ?_|refine JK.rd (QN q hx) (⟨_,Tryz.func12,rfl,rfl⟩:Ji Tryz.prog 12) rfl rfl rfl rfl ?_
 simp(maxSteps:=999999)(disch:=omega)only[go_sem,zA,zM,zS,zE,zL]
 rw[hv]
 simp(maxSteps:=999999)(disch:=omega)only[go_sem,zA,zM,zS,zE,zL]
 first|refine JZ.mk (JW.ownI (XW q hx)) (⟨_,Tryz.func11,rfl,rfl⟩:Ji Tryz.prog 11) rfl rfl rfl rfl rfl ?_|refine JK.mk (JW.ownI (XW q hx)) (⟨_,Tryz.func11,rfl,rfl⟩:Ji Tryz.prog 11) rfl rfl rfl rfl rfl ?_
 simp(maxSteps:=999999)(disch:=omega)only[go_sem,zA,zM,zS,zE,zL]
 by_cases hp:Yh l
 · obtain⟨h1,h2,⟨h3,h4⟩,h5,h6⟩:=id hp
   have d1:decide ((l.length:Int)=6)=true:=decide_eq_true (by omega)
   have hs:sub l 0 4=l.take 4:=rfl
   have d2:decide (sub l 0 4=[112,117,116,32])=true:=decide_eq_true (by rw[hs];exact h2)
   have d3:decide (97≤Xy l 4)=true:=decide_eq_true h3
   have d4:decide (Xy l 4≤122)=true:=decide_eq_true h4
   have d5:decide (48≤Xy l 5)=true:=decide_eq_true h5
   have d6:decide (Xy l 5≤57)=true:=decide_eq_true h6
   rw[eG,eT,if_pos hp,if_pos hp]
   simp(maxSteps:=999999)(disch:=omega)only[go_sem,zA,zM,zS,zE,zL,d1,d2,d3,d4,d5,d6]
   refine YO [0,1,2,3,4,5,6,7,8,13,9,10,11,12] [] (some 13) [14,15] 12 [] Zd (by kernel_rfl) ?_
   iterate 11 (rw[Jv];simp(maxSteps:=999999)(disch:=omega)only[go_sem,zA,zM,zS,zE,zL])
   refine JK.mkE (Jby q (Xy l 4 -97) (Xy l 5 -48) hx hv) (⟨_,Tryz.func72,rfl,rfl⟩:Ji Tryz.prog 72) rfl rfl rfl ?_
   intro c3 c4 H1 S3 S4 k3 k4 n3 m3 m4
   simp(maxSteps:=999999)(disch:=omega)only[go_sem,zA,zM,zS,zE,zL]
   iterate 3 (rw[Jv];simp(maxSteps:=999999)(disch:=omega)only[go_sem,zA,zM,zS,zE,zL])
   simp only[Je,Jf,Jb,Jc]at k3 k4 m3 m4
   have hD:∀(X1 X2 Y1 Y2:Option Zv) (M:Jm) (T:List Nat),(∀k∈T,2≤k∧k<2+H1.length)→∀k∈T,(Y1::Y2::(H1++M))[k]? =(X1::X2::H1)[k]? :=fun X1 X2 Y1 Y2 M T hT k hk=>by
    have:=hT k hk
    rw[QI (by omega),QI (by omega),Ja (by omega)]
   have hF:∀(X1 X2 Y1 Y2:Option Zv) (T:List Nat),(∀k∈T,2≤k∧k<2+H1.length)→∀k∈T,(Y1::Y2::H1)[k]? =(X1::X2::H1)[k]? :=fun X1 X2 Y1 Y2 T hT k hk=>by
    have:=hT k hk
    rw[QI (by omega),QI (by omega)]
   have m3':∀k∈S3,2≤k∧k<2+H1.length:=fun k hk=>by have:=m3 k hk;omega
   have m4':∀k∈S4,2≤k∧k<2+H1.length:=fun k hk=>by have:=m4 k hk;omega
   intro g3
   refine VJ rfl (.inr rfl) ?_
   simp(maxSteps:=999999)(disch:=omega)only[go_sem,zA,zM,zS,zE,zL,JC,QM]
   refine VJ rfl (.inl rfl) ?_
   cases hb:Zp q (Xy l 4 -97) (Xy l 5 -48)with
   |true=>
    simp(maxSteps:=999999)(disch:=omega)only[go_sem,zA,zM,zS,zE,zL,JC,QM]
    exact Uv rfl rfl (k3.same (hD _ _ _ _ _ _ m3')) (k4.same (hD _ _ _ _ _ _ m4')) n3
   |false=>
    simp(maxSteps:=999999)(disch:=omega)only[go_sem,zA,zM,zS,zE,zL,JC,QM]
    exact Uv rfl rfl (k3.same (hD _ _ _ _ _ _ m3')) (k4.same (hD _ _ _ _ _ _ m4')) n3
 · by_cases hb:l=Yr
   · subst hb
     rw[eG,eT,if_neg hp,if_neg hp,if_pos rfl,if_pos rfl]
     have d1:decide ((Yr.length:Int)=6)=false:=rfl
     have d2:decide (Yr=[98,97,99,107])=true:=rfl
     simp(maxSteps:=999999)(disch:=omega)only[go_sem,zA,zM,zS,zE,zL,d1,d2]
     refine JZ.mkE (Jaj q hx hv) (⟨_,Tryz.func73,rfl,rfl⟩:Ji Tryz.prog 73) rfl rfl rfl ?_
     intro c3 c4 H1 S3 S4 k3 k4 n3 m3 m4
     simp only[Je,Jf,Jb,Jc]at k3 k4 m3 m4
     have hD:∀(X1 X2 Y1 Y2:Option Zv) (M:Jm) (T:List Nat),(∀k∈T,2≤k∧k<2+H1.length)→∀k∈T,(Y1::Y2::(H1++M))[k]? =(X1::X2::H1)[k]? :=fun X1 X2 Y1 Y2 M T hT k hk=>by
      have:=hT k hk
      rw[QI (by omega),QI (by omega),Ja (by omega)]
     have hF:∀(X1 X2 Y1 Y2:Option Zv) (T:List Nat),(∀k∈T,2≤k∧k<2+H1.length)→∀k∈T,(Y1::Y2::H1)[k]? =(X1::X2::H1)[k]? :=fun X1 X2 Y1 Y2 T hT k hk=>by
      have:=hT k hk
      rw[QI (by omega),QI (by omega)]
     have m3':∀k∈S3,2≤k∧k<2+H1.length:=fun k hk=>by have:=m3 k hk;omega
     have m4':∀k∈S4,2≤k∧k<2+H1.length:=fun k hk=>by have:=m4 k hk;omega
     simp(maxSteps:=999999)(disch:=omega)only[go_sem,zA,zM,zS,zE,zL]
     intro g3
     simp(maxSteps:=999999)(disch:=omega)only[go_sem,zA,zM,zS,zE,zL,JC,QM]
     cases hb:QK q with
     |true=>
      simp(maxSteps:=999999)(disch:=omega)only[go_sem,zA,zM,zS,zE,zL,JC,QM]
      exact Uv rfl rfl (k3.same (hD _ _ _ _ _ _ m3')) (k4.same (hD _ _ _ _ _ _ m4')) n3
     |false=>
      simp(maxSteps:=999999)(disch:=omega)only[go_sem,zA,zM,zS,zE,zL,JC,QM]
      exact Uv rfl rfl (k3.same (hD _ _ _ _ _ _ m3')) (k4.same (hD _ _ _ _ _ _ m4')) n3
   by_cases hh:l=XN
   · subst hh
     rw[eG,eT,if_neg hp,if_neg hp,if_neg hb,if_neg hb,if_pos rfl]
     have d1:decide ((XN.length:Int)=6)=false:=rfl
     have d2:decide (XN=[98,97,99,107])=false:=rfl
     have d3:decide (XN=[104,105,110,116])=true:=rfl
     simp(maxSteps:=999999)(disch:=omega)only[go_sem,zA,zM,zS,zE,zL,d1,d2,d3]
     first|refine JZ.mk (XV q.task (JN q) hx.1 (by omega)) (⟨_,Tryz.func74,rfl,rfl⟩:Ji Tryz.prog 74) rfl rfl rfl rfl rfl ?_|refine JK.mk (XV q.task (JN q) hx.1 (by omega)) (⟨_,Tryz.func74,rfl,rfl⟩:Ji Tryz.prog 74) rfl rfl rfl rfl rfl ?_
     simp(maxSteps:=999999)(disch:=omega)only[go_sem,zA,zM,zS,zE,zL]
     intro g3
     cases hhb:UK q.task (JN q)with
     |true=>
      simp(maxSteps:=999999)(disch:=omega)only[go_sem,zA,zM,zS,zE,zL]
      refine Q3 [0,2,1] [] none [3,4,5] [] [0,1,0,7,15,31] Zd (by kernel_rfl) ?_
      iterate 2 (rw[Jv];simp(maxSteps:=999999)(disch:=omega)only[go_sem,zA,zM,zS,zE,zL])
      rw[Jv]
      simp(maxSteps:=999999)(disch:=omega)only[go_sem,zA,zM,zS,zE,zL]
      refine JK.mkC (ZA q hx) (⟨_,Tryz.func58,rfl,rfl⟩:Ji Tryz.prog 58) rfl rfl rfl ?_
      intro c3 c4 H1 S3 S4 k3 k4 n3 m3 m4
      simp only[Je,Jf,Jb,Jc]at k3 k4 m3 m4
      have hF3:∀(X1 X2 X3 Y1 Y2 Y3:Option Zv) (T:List Nat),(∀k∈T,3≤k∧k<3+H1.length)→∀k∈T,(Y1::Y2::Y3::H1)[k]? =(X1::X2::X3::H1)[k]? :=fun X1 X2 X3 Y1 Y2 Y3 T hT k hk=>by
       obtain⟨j,rfl⟩:∃j,k=j+3:=⟨k -3,by have:=hT k hk;omega⟩
       rfl
      have m3':∀k∈S3,3≤k∧k<3+H1.length:=fun k hk=>by have:=m3 k hk;omega
      have m4':∀k∈S4,3≤k∧k<3+H1.length:=fun k hk=>by have:=m4 k hk;omega
      simp(maxSteps:=999999)(disch:=omega)only[go_sem,zA,zM,zS,zE,zL]
      first|refine JZ.rd (Rl (Z2 q.task (JN q))) (⟨_,Tryz.func75,rfl,rfl⟩:Ji Tryz.prog 75) rfl rfl rfl rfl ?_|refine JK.rd (Rl (Z2 q.task (JN q))) (⟨_,Tryz.func75,rfl,rfl⟩:Ji Tryz.prog 75) rfl rfl rfl rfl ?_
      simp(maxSteps:=999999)(disch:=omega)only[go_sem,zA,zM,zS,zE,zL]
      exact Uv rfl rfl (k3.same (hF3 _ _ _ _ _ _ _ m3')) (k4.same (hF3 _ _ _ _ _ _ _ m4')) n3
     |false=>
      simp(maxSteps:=999999)(disch:=omega)only[go_sem,zA,zM,zS,zE,zL]
      refine JZ.mkC (ZA q hx) (⟨_,Tryz.func58,rfl,rfl⟩:Ji Tryz.prog 58) rfl rfl rfl ?_
      intro c3 c4 H1 S3 S4 k3 k4 n3 m3 m4
      simp only[Je,Jf,Jb,Jc]at k3 k4 m3 m4
      have hF3:∀(X1 X2 X3 Y1 Y2 Y3:Option Zv) (T:List Nat),(∀k∈T,3≤k∧k<3+H1.length)→∀k∈T,(Y1::Y2::Y3::H1)[k]? =(X1::X2::X3::H1)[k]? :=fun X1 X2 X3 Y1 Y2 Y3 T hT k hk=>by
       obtain⟨j,rfl⟩:∃j,k=j+3:=⟨k -3,by have:=hT k hk;omega⟩
       rfl
      have m3':∀k∈S3,3≤k∧k<3+H1.length:=fun k hk=>by have:=m3 k hk;omega
      have m4':∀k∈S4,3≤k∧k<3+H1.length:=fun k hk=>by have:=m4 k hk;omega
      simp(maxSteps:=999999)(disch:=omega)only[go_sem,zA,zM,zS,zE,zL]
      exact Uv rfl rfl (k3.same (hF3 _ _ _ _ _ _ _ m3')) (k4.same (hF3 _ _ _ _ _ _ _ m4')) n3
   by_cases hc:l=U0
   · subst hc
     rw[eG,eT,if_neg hp,if_neg hp,if_neg hb,if_neg hb,if_neg hh,if_pos rfl]
     have d1:decide ((U0.length:Int)=6)=false:=rfl
     have d2:decide (U0=[98,97,99,107])=false:=rfl
     have d3:decide (U0=[104,105,110,116])=false:=rfl
     have d4:decide (U0=[99,104,101,99,107])=true:=rfl
     simp(maxSteps:=999999)(disch:=omega)only[go_sem,zA,zM,zS,zE,zL,d1,d2,d3,d4]
     first|refine JZ.rd (V0 q.task (JN q) hx.1 (by omega)) (⟨_,Tryz.func76,rfl,rfl⟩:Ji Tryz.prog 76) rfl rfl rfl rfl ?_|refine JK.rd (V0 q.task (JN q) hx.1 (by omega)) (⟨_,Tryz.func76,rfl,rfl⟩:Ji Tryz.prog 76) rfl rfl rfl rfl ?_
     simp(maxSteps:=999999)(disch:=omega)only[go_sem,zA,zM,zS,zE,zL]
     unfold Xz
     cases hs:Uj q.task (JN q)with
     |true=>
      simp(maxSteps:=999999)(disch:=omega)only[go_sem,zA,zM,zS,zE,zL]
      refine JZ.mkC (ZA q hx) (⟨_,Tryz.func58,rfl,rfl⟩:Ji Tryz.prog 58) rfl rfl rfl ?_
      intro c3 c4 H1 S3 S4 k3 k4 n3 m3 m4
      simp only[Je,Jf,Jb,Jc]at k3 k4 m3 m4
      have hD:∀(X1 X2 Y1 Y2:Option Zv) (M:Jm) (T:List Nat),(∀k∈T,2≤k∧k<2+H1.length)→∀k∈T,(Y1::Y2::(H1++M))[k]? =(X1::X2::H1)[k]? :=fun X1 X2 Y1 Y2 M T hT k hk=>by
       have:=hT k hk
       rw[QI (by omega),QI (by omega),Ja (by omega)]
      have hF:∀(X1 X2 Y1 Y2:Option Zv) (T:List Nat),(∀k∈T,2≤k∧k<2+H1.length)→∀k∈T,(Y1::Y2::H1)[k]? =(X1::X2::H1)[k]? :=fun X1 X2 Y1 Y2 T hT k hk=>by
       have:=hT k hk
       rw[QI (by omega),QI (by omega)]
      have m3':∀k∈S3,2≤k∧k<2+H1.length:=fun k hk=>by have:=m3 k hk;omega
      have m4':∀k∈S4,2≤k∧k<2+H1.length:=fun k hk=>by have:=m4 k hk;omega
      simp(maxSteps:=999999)(disch:=omega)only[go_sem,zA,zM,zS,zE,zL]
      exact Uv rfl rfl (k3.same (hF _ _ _ _ _ m3')) (k4.same (hF _ _ _ _ _ m4')) n3
     |false=>
      simp(maxSteps:=999999)(disch:=omega)only[go_sem,zA,zM,zS,zE,zL]
      first|refine JZ.rd (Kq q.task (JN q) hx.1 (by omega)) (⟨_,Tryz.func77,rfl,rfl⟩:Ji Tryz.prog 77) rfl rfl rfl rfl ?_|refine JK.rd (Kq q.task (JN q) hx.1 (by omega)) (⟨_,Tryz.func77,rfl,rfl⟩:Ji Tryz.prog 77) rfl rfl rfl rfl ?_
      simp(maxSteps:=999999)(disch:=omega)only[go_sem,zA,zM,zS,zE,zL]
      cases hcf:Yo q.task (JN q)with
      |true=>
       simp(maxSteps:=999999)(disch:=omega)only[go_sem,zA,zM,zS,zE,zL]
       refine JZ.mkC (ZA q hx) (⟨_,Tryz.func58,rfl,rfl⟩:Ji Tryz.prog 58) rfl rfl rfl ?_
       intro c3 c4 H1 S3 S4 k3 k4 n3 m3 m4
       simp only[Je,Jf,Jb,Jc]at k3 k4 m3 m4
       have hD:∀(X1 X2 Y1 Y2:Option Zv) (M:Jm) (T:List Nat),(∀k∈T,2≤k∧k<2+H1.length)→∀k∈T,(Y1::Y2::(H1++M))[k]? =(X1::X2::H1)[k]? :=fun X1 X2 Y1 Y2 M T hT k hk=>by
        have:=hT k hk
        rw[QI (by omega),QI (by omega),Ja (by omega)]
       have hF:∀(X1 X2 Y1 Y2:Option Zv) (T:List Nat),(∀k∈T,2≤k∧k<2+H1.length)→∀k∈T,(Y1::Y2::H1)[k]? =(X1::X2::H1)[k]? :=fun X1 X2 Y1 Y2 T hT k hk=>by
        have:=hT k hk
        rw[QI (by omega),QI (by omega)]
       have m3':∀k∈S3,2≤k∧k<2+H1.length:=fun k hk=>by have:=m3 k hk;omega
       have m4':∀k∈S4,2≤k∧k<2+H1.length:=fun k hk=>by have:=m4 k hk;omega
       simp(maxSteps:=999999)(disch:=omega)only[go_sem,zA,zM,zS,zE,zL]
       exact Uv rfl rfl (k3.same (hF _ _ _ _ _ m3')) (k4.same (hF _ _ _ _ _ m4')) n3
      |false=>
       simp(maxSteps:=999999)(disch:=omega)only[go_sem,zA,zM,zS,zE,zL]
       refine JZ.mkC (ZA q hx) (⟨_,Tryz.func58,rfl,rfl⟩:Ji Tryz.prog 58) rfl rfl rfl ?_
       intro c3 c4 H1 S3 S4 k3 k4 n3 m3 m4
       simp only[Je,Jf,Jb,Jc]at k3 k4 m3 m4
       have hD:∀(X1 X2 Y1 Y2:Option Zv) (M:Jm) (T:List Nat),(∀k∈T,2≤k∧k<2+H1.length)→∀k∈T,(Y1::Y2::(H1++M))[k]? =(X1::X2::H1)[k]? :=fun X1 X2 Y1 Y2 M T hT k hk=>by
        have:=hT k hk
        rw[QI (by omega),QI (by omega),Ja (by omega)]
       have hF:∀(X1 X2 Y1 Y2:Option Zv) (T:List Nat),(∀k∈T,2≤k∧k<2+H1.length)→∀k∈T,(Y1::Y2::H1)[k]? =(X1::X2::H1)[k]? :=fun X1 X2 Y1 Y2 T hT k hk=>by
        have:=hT k hk
        rw[QI (by omega),QI (by omega)]
       have m3':∀k∈S3,2≤k∧k<2+H1.length:=fun k hk=>by have:=m3 k hk;omega
       have m4':∀k∈S4,2≤k∧k<2+H1.length:=fun k hk=>by have:=m4 k hk;omega
       simp(maxSteps:=999999)(disch:=omega)only[go_sem,zA,zM,zS,zE,zL]
       exact Uv rfl rfl (k3.same (hF _ _ _ _ _ m3')) (k4.same (hF _ _ _ _ _ m4')) n3
   have d2:decide (l=[98,97,99,107])=false:=decide_eq_false hb
   have d3:decide (l=[104,105,110,116])=false:=decide_eq_false hh
   have d4:decide (l=[99,104,101,99,107])=false:=decide_eq_false hc
   rw[eG,eT,if_neg hp,if_neg hp,if_neg hb,if_neg hb,if_neg hh,if_neg hc]
   have hs:sub l 0 4=l.take 4:=rfl
   by_cases p1:l.length=6
   rotate_left
   · have d1:decide ((l.length:Int)=6)=false:=decide_eq_false (by omega)
     simp(maxSteps:=999999)(disch:=omega)only[go_sem,zA,zM,zS,zE,zL,d1]
     simp(maxSteps:=999999)(disch:=omega)only[go_sem,zA,zM,zS,zE,zL,d2,d3,d4]
     refine JZ.mkC (ZA q hx) (⟨_,Tryz.func58,rfl,rfl⟩:Ji Tryz.prog 58) rfl rfl rfl ?_
     intro c3 c4 H1 S3 S4 k3 k4 n3 m3 m4
     simp only[Je,Jf,Jb,Jc]at k3 k4 m3 m4
     have hD:∀(X1 X2 Y1 Y2:Option Zv) (M:Jm) (T:List Nat),(∀k∈T,2≤k∧k<2+H1.length)→∀k∈T,(Y1::Y2::(H1++M))[k]? =(X1::X2::H1)[k]? :=fun X1 X2 Y1 Y2 M T hT k hk=>by
      have:=hT k hk
      rw[QI (by omega),QI (by omega),Ja (by omega)]
     have hF:∀(X1 X2 Y1 Y2:Option Zv) (T:List Nat),(∀k∈T,2≤k∧k<2+H1.length)→∀k∈T,(Y1::Y2::H1)[k]? =(X1::X2::H1)[k]? :=fun X1 X2 Y1 Y2 T hT k hk=>by
      have:=hT k hk
      rw[QI (by omega),QI (by omega)]
     have m3':∀k∈S3,2≤k∧k<2+H1.length:=fun k hk=>by have:=m3 k hk;omega
     have m4':∀k∈S4,2≤k∧k<2+H1.length:=fun k hk=>by have:=m4 k hk;omega
     simp(maxSteps:=999999)(disch:=omega)only[go_sem,zA,zM,zS,zE,zL]
     exact Uv rfl rfl (k3.same (hF _ _ _ _ _ m3')) (k4.same (hF _ _ _ _ _ m4')) n3
   have d1:decide ((l.length:Int)=6)=true:=decide_eq_true (by omega)
   by_cases p2:l.take 4=[112,117,116,32]
   rotate_left
   · have e2:decide (sub l 0 4=[112,117,116,32])=false:=decide_eq_false (by rw[hs];exact p2)
     simp(maxSteps:=999999)(disch:=omega)only[go_sem,zA,zM,zS,zE,zL,d1,e2]
     simp(maxSteps:=999999)(disch:=omega)only[go_sem,zA,zM,zS,zE,zL,d2,d3,d4]
     refine JZ.mkC (ZA q hx) (⟨_,Tryz.func58,rfl,rfl⟩:Ji Tryz.prog 58) rfl rfl rfl ?_
     intro c3 c4 H1 S3 S4 k3 k4 n3 m3 m4
     simp only[Je,Jf,Jb,Jc]at k3 k4 m3 m4
     have hD:∀(X1 X2 Y1 Y2:Option Zv) (M:Jm) (T:List Nat),(∀k∈T,2≤k∧k<2+H1.length)→∀k∈T,(Y1::Y2::(H1++M))[k]? =(X1::X2::H1)[k]? :=fun X1 X2 Y1 Y2 M T hT k hk=>by
      have:=hT k hk
      rw[QI (by omega),QI (by omega),Ja (by omega)]
     have hF:∀(X1 X2 Y1 Y2:Option Zv) (T:List Nat),(∀k∈T,2≤k∧k<2+H1.length)→∀k∈T,(Y1::Y2::H1)[k]? =(X1::X2::H1)[k]? :=fun X1 X2 Y1 Y2 T hT k hk=>by
      have:=hT k hk
      rw[QI (by omega),QI (by omega)]
     have m3':∀k∈S3,2≤k∧k<2+H1.length:=fun k hk=>by have:=m3 k hk;omega
     have m4':∀k∈S4,2≤k∧k<2+H1.length:=fun k hk=>by have:=m4 k hk;omega
     simp(maxSteps:=999999)(disch:=omega)only[go_sem,zA,zM,zS,zE,zL]
     exact Uv rfl rfl (k3.same (hF _ _ _ _ _ m3')) (k4.same (hF _ _ _ _ _ m4')) n3
   have e2:decide (sub l 0 4=[112,117,116,32])=true:=decide_eq_true (by rw[hs];exact p2)
   by_cases p3:97≤Xy l 4
   rotate_left
   · simp(maxSteps:=999999)(disch:=omega)only[go_sem,zA,zM,zS,zE,zL,d1,e2,decide_eq_false p3]
     simp(maxSteps:=999999)(disch:=omega)only[go_sem,zA,zM,zS,zE,zL,d2,d3,d4]
     refine JZ.mkC (ZA q hx) (⟨_,Tryz.func58,rfl,rfl⟩:Ji Tryz.prog 58) rfl rfl rfl ?_
     intro c3 c4 H1 S3 S4 k3 k4 n3 m3 m4
     simp only[Je,Jf,Jb,Jc]at k3 k4 m3 m4
     have hD:∀(X1 X2 Y1 Y2:Option Zv) (M:Jm) (T:List Nat),(∀k∈T,2≤k∧k<2+H1.length)→∀k∈T,(Y1::Y2::(H1++M))[k]? =(X1::X2::H1)[k]? :=fun X1 X2 Y1 Y2 M T hT k hk=>by
      have:=hT k hk
      rw[QI (by omega),QI (by omega),Ja (by omega)]
     have hF:∀(X1 X2 Y1 Y2:Option Zv) (T:List Nat),(∀k∈T,2≤k∧k<2+H1.length)→∀k∈T,(Y1::Y2::H1)[k]? =(X1::X2::H1)[k]? :=fun X1 X2 Y1 Y2 T hT k hk=>by
      have:=hT k hk
      rw[QI (by omega),QI (by omega)]
     have m3':∀k∈S3,2≤k∧k<2+H1.length:=fun k hk=>by have:=m3 k hk;omega
     have m4':∀k∈S4,2≤k∧k<2+H1.length:=fun k hk=>by have:=m4 k hk;omega
     simp(maxSteps:=999999)(disch:=omega)only[go_sem,zA,zM,zS,zE,zL]
     exact Uv rfl rfl (k3.same (hF _ _ _ _ _ m3')) (k4.same (hF _ _ _ _ _ m4')) n3
   by_cases p4:Xy l 4≤122
   rotate_left
   · simp(maxSteps:=999999)(disch:=omega)only[go_sem,zA,zM,zS,zE,zL,d1,e2,decide_eq_true p3,decide_eq_false p4]
     simp(maxSteps:=999999)(disch:=omega)only[go_sem,zA,zM,zS,zE,zL,d2,d3,d4]
     refine JZ.mkC (ZA q hx) (⟨_,Tryz.func58,rfl,rfl⟩:Ji Tryz.prog 58) rfl rfl rfl ?_
     intro c3 c4 H1 S3 S4 k3 k4 n3 m3 m4
     simp only[Je,Jf,Jb,Jc]at k3 k4 m3 m4
     have hD:∀(X1 X2 Y1 Y2:Option Zv) (M:Jm) (T:List Nat),(∀k∈T,2≤k∧k<2+H1.length)→∀k∈T,(Y1::Y2::(H1++M))[k]? =(X1::X2::H1)[k]? :=fun X1 X2 Y1 Y2 M T hT k hk=>by
      have:=hT k hk
      rw[QI (by omega),QI (by omega),Ja (by omega)]
     have hF:∀(X1 X2 Y1 Y2:Option Zv) (T:List Nat),(∀k∈T,2≤k∧k<2+H1.length)→∀k∈T,(Y1::Y2::H1)[k]? =(X1::X2::H1)[k]? :=fun X1 X2 Y1 Y2 T hT k hk=>by
      have:=hT k hk
      rw[QI (by omega),QI (by omega)]
     have m3':∀k∈S3,2≤k∧k<2+H1.length:=fun k hk=>by have:=m3 k hk;omega
     have m4':∀k∈S4,2≤k∧k<2+H1.length:=fun k hk=>by have:=m4 k hk;omega
     simp(maxSteps:=999999)(disch:=omega)only[go_sem,zA,zM,zS,zE,zL]
     exact Uv rfl rfl (k3.same (hF _ _ _ _ _ m3')) (k4.same (hF _ _ _ _ _ m4')) n3
   by_cases p5:48≤Xy l 5
   rotate_left
   · simp(maxSteps:=999999)(disch:=omega)only[go_sem,zA,zM,zS,zE,zL,d1,e2,decide_eq_true p3,decide_eq_true p4,decide_eq_false p5]
     simp(maxSteps:=999999)(disch:=omega)only[go_sem,zA,zM,zS,zE,zL,d2,d3,d4]
     refine JZ.mkC (ZA q hx) (⟨_,Tryz.func58,rfl,rfl⟩:Ji Tryz.prog 58) rfl rfl rfl ?_
     intro c3 c4 H1 S3 S4 k3 k4 n3 m3 m4
     simp only[Je,Jf,Jb,Jc]at k3 k4 m3 m4
     have hD:∀(X1 X2 Y1 Y2:Option Zv) (M:Jm) (T:List Nat),(∀k∈T,2≤k∧k<2+H1.length)→∀k∈T,(Y1::Y2::(H1++M))[k]? =(X1::X2::H1)[k]? :=fun X1 X2 Y1 Y2 M T hT k hk=>by
      have:=hT k hk
      rw[QI (by omega),QI (by omega),Ja (by omega)]
     have hF:∀(X1 X2 Y1 Y2:Option Zv) (T:List Nat),(∀k∈T,2≤k∧k<2+H1.length)→∀k∈T,(Y1::Y2::H1)[k]? =(X1::X2::H1)[k]? :=fun X1 X2 Y1 Y2 T hT k hk=>by
      have:=hT k hk
      rw[QI (by omega),QI (by omega)]
     have m3':∀k∈S3,2≤k∧k<2+H1.length:=fun k hk=>by have:=m3 k hk;omega
     have m4':∀k∈S4,2≤k∧k<2+H1.length:=fun k hk=>by have:=m4 k hk;omega
     simp(maxSteps:=999999)(disch:=omega)only[go_sem,zA,zM,zS,zE,zL]
     exact Uv rfl rfl (k3.same (hF _ _ _ _ _ m3')) (k4.same (hF _ _ _ _ _ m4')) n3
   have p6:¬Xy l 5≤57:=fun p6=>hp ⟨p1,p2,⟨p3,p4⟩,p5,p6⟩
   simp(maxSteps:=999999)(disch:=omega)only[go_sem,zA,zM,zS,zE,zL,d1,e2,decide_eq_true p3,decide_eq_true p4,decide_eq_true p5,decide_eq_false p6]
   simp(maxSteps:=999999)(disch:=omega)only[go_sem,zA,zM,zS,zE,zL,d2,d3,d4]
   refine JZ.mkC (ZA q hx) (⟨_,Tryz.func58,rfl,rfl⟩:Ji Tryz.prog 58) rfl rfl rfl ?_
   intro c3 c4 H1 S3 S4 k3 k4 n3 m3 m4
   simp only[Je,Jf,Jb,Jc]at k3 k4 m3 m4
   have hD:∀(X1 X2 Y1 Y2:Option Zv) (M:Jm) (T:List Nat),(∀k∈T,2≤k∧k<2+H1.length)→∀k∈T,(Y1::Y2::(H1++M))[k]? =(X1::X2::H1)[k]? :=fun X1 X2 Y1 Y2 M T hT k hk=>by
    have:=hT k hk
    rw[QI (by omega),QI (by omega),Ja (by omega)]
   have hF:∀(X1 X2 Y1 Y2:Option Zv) (T:List Nat),(∀k∈T,2≤k∧k<2+H1.length)→∀k∈T,(Y1::Y2::H1)[k]? =(X1::X2::H1)[k]? :=fun X1 X2 Y1 Y2 T hT k hk=>by
    have:=hT k hk
    rw[QI (by omega),QI (by omega)]
   have m3':∀k∈S3,2≤k∧k<2+H1.length:=fun k hk=>by have:=m3 k hk;omega
   have m4':∀k∈S4,2≤k∧k<2+H1.length:=fun k hk=>by have:=m4 k hk;omega
   simp(maxSteps:=999999)(disch:=omega)only[go_sem,zA,zM,zS,zE,zL]
   exact Uv rfl rfl (k3.same (hF _ _ _ _ _ m3')) (k4.same (hF _ _ _ _ _ m4')) n3
end Go.Lg

namespace Go.Lg
open Go.Proofs
theorem Jcu{v:Int}(h:0≤v∧v≤255):((u8 v).toNat:Int)=v:=by
 unfold u8
 rw[UInt8.toNat_ofNat']
 omega
end Go.Lg

namespace Go.Lg
open Go.Proofs
theorem JfS{p:Q4}(hv:JB p=true){xs:List Int}(hx:Zk xs p.size.toNat):Yo p xs=decide (0<(Jhf p xs).length):=by
 have hz:((p.size.toNat:Nat):Int)=p.size:=(Ux.of hv).2
 unfold Yo
 rw[if_pos ⟨hv,by have:=hx.valid (Ux.of hv).1.hn;rwa [hz]at this⟩,Jk0 hv hx,decide_eq_decide]
 omega
theorem Jfx{p:Q4}{xs s:List Int}:s∈Jhf p xs↔s∈Je6 p∧Yv xs s:=by
 unfold Jhf
 rw[List.mem_filter,decide_eq_true_eq]
theorem Jjo{p:Q4}(hv:JB p=true){xs:List Int}(hx:Zk xs p.size.toNat)(h:Yo p xs=true):QT p xs p.size.toNat=true:=by
 rw[JfS hv hx,decide_eq_true_eq]at h
 obtain⟨s,hs⟩:=List.exists_mem_of_length_pos h
 rw[Jfx,N5 hv]at hs
 exact Yl (Xb hv).1 hx hs.1.1.1 hs.2 hs.1.2.2
end Go.Lg

namespace Go.Lg
open Go.Proofs
attribute [-go_sem] J9 Jv
structure Kd(H:Jm)(c r:CV)(p:Q4)(S1 S2:List Nat):Prop where
 g:Qy H c p.given S1
 rr:(r= .f .nil∧p.rules=[]∧S2=[])∨U8 H r p.rules S2
 nd:(S1++S2).Nodup
 l:JkT r
theorem JeD{r:CV}{k:Nat}(h:JkT r):JkT (Uf k r):=by
 cases r with
 |f v=>cases v<;>exact h
 |_=>exact h
section
variable{H H':Jm}{c r:CV}{p:Q4}{S1 S2:List Nat}
theorem Kd.same(h:Kd H c r p S1 S2)(hs:∀i∈S1++S2,H'[i]? =H[i]?):Kd H' c r p S1 S2:=
 ⟨h.g.same fun i hi=>hs i (by simp[hi]),h.rr.imp id fun k=>k.same fun i hi=>hs i (by simp[hi]),h.nd,h.l⟩
theorem Kd.lt(h:Kd H c r p S1 S2):∀i∈S1++S2,i<H.length:=fun i hi=>by
 rcases J2.1 hi with hi|hi
 · exact h.g.lt i hi
 · rcases h.rr with⟨_,_,rfl⟩|k
   · simp at hi
   · exact k.lt i hi
theorem Kd.blk(h:Kd H c r p S1 S2):(∀i∈S1++S2,∀b,H[i]? =some (some b)→∀x∈b.cs,Vk x=true)∧Vk c=true∧Vk r=true:=by
 refine⟨fun i hi=> ?_,h.g.scal1, ?_⟩
 · rcases J2.1 hi with hi|hi
   · exact h.g.blk i hi
   · rcases h.rr with⟨_,_,rfl⟩|k
     · simp at hi
     · exact k.blk i hi
 · rcases h.rr with⟨rfl,_,_⟩|k
   · rfl
   · exact k.scal1
theorem Kd.shift{H0:Jm}(h:Kd H c r p S1 S2):Kd (H0++Q7 H0.length H) (Uf H0.length c) (Uf H0.length r) p (S1.map (· +H0.length)) (S2.map (· +H0.length)):=by
 refine⟨h.g.shift, ?_, ?_,JeD h.l⟩
 · rcases h.rr with⟨rfl,h1,rfl⟩|k
   · exact .inl ⟨rfl,h1,rfl⟩
   · exact .inr k.shift
 · rw[←QE]
   exact List.pairwise_map.2 (h.nd.imp fun h h'=>h (by omega))
theorem Kd.snap(h:Kd H c r p S1 S2):[AV.agg [.f (.int .i64 p.size),c,r]].mapM (Zx H)=some [aP p]:=by
 have e1:∀x:Int,frzC H (.f (.int .i64 x))=some (.f (.int .i64 x)):=fun _=>rfl
 have e2:=h.g.frzC
 have e3:frzC H r=some (.f (Uu eR p.rules)):=by
  rcases h.rr with⟨rfl,h1,_⟩|k
  · rw[h1];exact(Zq.n (E:=eR) (n:=3)).frzC
  · exact k.frzC
 simp only[Zx,J4,Qw,e1,e2,e3,Option.bind_eq_bind,Option.pure_def,Option.bind_some,Option.map_some]
end
section
variable{P:Program}{o:Oper}{st:St}{K:KV}{fo:Operand}{xs:Array Operand}{ts:Array TypeId}{f:FuncId}{args args':List AV}{p:Q4}
end
end Go.Lg

namespace Go.Lg
open Go.Proofs
structure Lat(s:List Int)(n:Nat):Prop where
 hn:n=2∨n=3∨n=4
 full:Jll n s
 nc:NC s n
theorem Lat.val{s:List Int}{n:Nat}(h:Lat s n){k:Nat}(hk:k<n*n):1≤(JA s k).toNat∧(JA s k).toNat≤n∧JA s k=((JA s k).toNat:Nat):=by
 have h1:=h.full.2 k hk
 have h2:=h.full.1.val k (by rw[h.full.1.len];exact hk)
 omega
theorem Lat.ne{s:List Int}{n:Nat}(h:Lat s n){a b:Nat}(ha:a<n*n)(hb:b<n*n)(hab:a≠b)(hl:a/n=b/n∨a%n=b%n):(JA s a).toNat≠(JA s b).toNat:=by
 have h1:=h.val ha
 have h2:=h.val hb
 rcases Nat.lt_or_ge a b with hlt|hge
 · have:=h.nc a b hlt hb hl (by omega)
   omega
 · have:=h.nc b a (by omega) ha (hl.imp Eq.symm Eq.symm) (by omega)
   omega
theorem Jmh{n line i j:Nat}(hn:n=2∨n=3∨n=4)(hl:line<2*n)(hi:i<n)(hj:j<n):VG n line i/n=VG n line j/n∨VG n line i%n=VG n line j%n:=by
 unfold VG
 rw[Wo hi,Wo hj]
 split
 · left;rcases hn with rfl|rfl|rfl<;>omega
 · right;rcases hn with rfl|rfl|rfl<;>omega
theorem Lat.line{s:List Int}{n:Nat}(h:Lat s n){line i j:Nat}(hl:line<2*n)(hi:i<n)(hj:j<n)(hij:i≠j):(JA s (VG n line i)).toNat≠(JA s (VG n line j)).toNat:=
 h.ne (Xr h.hn hl hi).1 (Xr h.hn hl hj).1 (fun e=>hij ((JbN h.hn hl hi hj).1 e)) (Jmh h.hn hl hi hj)
theorem JeL{p:Q4}{n:Nat}{s:List Int}(h:QT p s n=true):clear p s=true∧(∀r∈p.rules,Zn r s n=true)∧UL s n=false:=by
 simp only[QT,Bool.and_eq_true,List.all_eq_true,Bool.not_eq_true']at h
 exact⟨h.1,h.2.1,h.2.2⟩
end Go.Lg

namespace Go.Lg
open Go.Proofs
def JhG(a b:List Nat):Prop:=∀k i:Nat,(QL a k).testBit i=true→(QL b k).testBit i=true
theorem JhG.refl(a:List Nat):JhG a a:=fun _ _ h=>h
theorem JhG.trans{a b c:List Nat}(h:JhG a b)(g:JhG b c):JhG a c:=fun k i x=>g k i (h k i x)
theorem Jhp{α:Type}{q:α→Bool}{L:List α}:L.countP q=L.length↔∀x∈L,q x=true:=by
 rw[List.countP_eq_length]
theorem Jea{p:Q4}(hv:JB p=true){xs:List Int}(hg:Zk xs p.size.toNat):Uj p xs=true↔xs∈Je6 p:=by
 obtain⟨hp,ha⟩:=Xb hv
 have hz:((p.size.toNat:Nat):Int)=p.size:=(Ux.of hv).2
 have hgv:Qe xs p.size=true:=by have:=hg.valid hp.hn;rwa [hz]at this
 have hlen:p.given.length=xs.length:=by rw[ha.len,hg.len]
 have hpos:ZT xs p.size=xs.length↔∀k:Nat,k<xs.length→0<JA xs k:=by
  unfold ZT
  rw[if_pos hgv]
  have e:(((xs.countP fun v=>decide (0<v):Nat):Int)=xs.length)↔(xs.countP fun v=>decide (0<v))=xs.length:=by omega
  rw[e,Jhp]
  constructor
  · intro h k hk
    have:=h xs[k] (List.getElem_mem _)
    rw[Qt (by omega)]
    exact of_decide_eq_true this
  · intro h x hx
    obtain⟨i,hi,rfl⟩:=List.getElem_of_mem hx
    have:=h i hi
    rw[Qt (by omega)]at this
    exact decide_eq_true this
 rw[N5 hv]
 unfold Uj JjW Jll
 rw[hv,hgv,Bool.true_and,Bool.true_and,Bool.and_eq_true,decide_eq_true_eq,hpos]
 constructor
 · rintro⟨h1,h2⟩
   refine⟨⟨hg,fun k hk=>h2 k (by rw[hg.len];exact hk)⟩,fun k hk=> ?_,h1⟩
   have hc:=(JeL h1).1
   simp only[clear,decide_eq_true_eq]at hc
   by_cases hkl:k<xs.length
   · have:=hc k hkl
     have:=h2 k hkl
     omega
   · rw[Xp (by omega)]at hk;omega
 · rintro⟨⟨_,h1⟩,_,h2⟩
   exact⟨h2,fun k hk=>h1 k (by rw[←hg.len];exact hk)⟩
end Go.Lg

namespace Go.Lg
open Go.Proofs
theorem Jbd(h:Hnt):(BL h).length=16:=by simp[BL]
theorem Jaz:¬Yh U0:=by decide
theorem BT(q:QZ):Xz q=Vs∨Xz q=Y8∨Xz q=WM:=by
 unfold Xz
 split
 · exact .inl rfl
 · split
   · exact .inr (.inl rfl)
   · exact .inr (.inr rfl)
theorem Jha{q:QZ}{n:Nat}(h:Z1 q n){k:Nat}(hk:k<q.put.length)(h0:JA (JN q) k=0):JA q.put k=0:=by
 have hl:=h.ln
 rw[h.grid,Xg (by omega)]at h0
 have:=(h.pt.val k hk).1
 omega
theorem Fn{q:QZ}{n:Nat}(h:Z1 q n)(hb:UK q.task (JN q)=true):∃k v:Nat,k<q.put.length∧(Z2 q.task (JN q)).cell=k∧(Z2 q.task (JN q)).val=v∧1≤v∧v≤n∧JA q.put k=0∧JA q.task.given k=0:=by
 obtain⟨_,k,v,h1,h2,h3,h4,h5,h6,h7⟩:=RW hb
 have hl:=h.ln
 have hz:=h.sz
 have hk:k<q.put.length:=by rw[h.grid,Uo]at h1;omega
 exact⟨k,v,hk,h2,h3,h4,by omega,Jha h hk h6,h7⟩
theorem Jlp{q:Q4}:∀(f:Nat) (ms:List Nat) (h:Hnt),V6 q f ms=some h→0≤h.tech∧h.tech≤4
 |0,ms,h,hh=>by simp[V6]at hh
 |f+1,ms,h,hh=>by
  unfold V6 at hh
  split at hh
  · cases hh
  · split at hh
    · cases hh
      have:=(Jc9 q ms)
      simp only
      omega
    · exact Jlp f _ h hh
theorem JgR{p:Q4}{xs:List Int}(h:UK p xs=true):0≤(Z2 p xs).tech∧(Z2 p xs).tech≤4:=by
 unfold UK at h
 obtain⟨hh,he⟩:=Option.isSome_iff_exists.1 h
 have hv:Z2 p xs=hh:=by unfold Z2;rw[he];rfl
 rw[hv]
 unfold WD at he
 split at he
 · exact Jlp _ _ _ he
 · cases he
theorem Jbc{q:QZ}{n:Nat}(h:Z1 q n)(hb:UK q.task (JN q)=true):VP (Z2 q.task (JN q))=BL (Z2 q.task (JN q)):=by
 obtain⟨k,v,h1,h2,h3,h4,h5,_⟩:=Fn h hb
 have hl:=h.len
 have hn:n≤4:=by rcases h.pz.hn with e|e|e<;>omega
 unfold VP
 rw[if_pos ⟨JgR hb,by omega,by omega⟩]
theorem JeB{q:QZ}{n:Nat}(h:Z1 q n)(l:List UInt8):Zl q l=okT∨Zl q l=noT∨Zl q l=Bu∨Zl q l=WM∨Zl q l=Y8∨Zl q l=Vs∨Zl q l=Wg∨(l=XN∧(Zl q l).length=16∧Zl q l=BL (Z2 q.task (JN q))):=by
 unfold Zl
 rw[if_pos h.valid]
 split
 · split
   · exact .inl rfl
   · exact .inr (.inl rfl)
 split
 · split
   · exact .inl rfl
   · exact .inr (.inl rfl)
 split
 · rename_i hl
   split
   · rename_i hb
     rw[Jbc h hb]
     simp[hl,Jbd]
   · simp
 split
 · rcases BT q with e|e|e<;>rw[e]<;>simp
 · simp
theorem JlX{q:QZ}{n:Nat}{c v:Int}(h:Z1 q n)(ok:UR q c v):Zt q c v≠q:=fun he=>by
 rw[(K3 h ok).1]at he
 have:=congrArg (fun g:QZ=>g.moves.length) he
 simp at this
theorem JkS{q:QZ}{n:Nat}(h:Z1 q n)(l:List UInt8):decide (Zl q l=okT)= !decide (QA q l=q):=by
 unfold Zl QA
 rw[if_pos h.valid,if_pos h.valid]
 by_cases h1:Yh l
 · rw[if_pos h1,if_pos h1]
   by_cases ok:UR q (Xy l 4 -97) (Xy l 5 -48)
   · rw[(K3 h ok).2,if_pos rfl,decide_eq_true rfl,decide_eq_false (JlX h ok)]
     rfl
   · rw[(Jep h ok).2,(Jep h ok).1,if_neg (by simp),decide_eq_true rfl]
     decide
 rw[if_neg h1,if_neg h1]
 by_cases h2:l=Yr
 · rw[if_pos h2,if_pos h2]
   by_cases hm:q.moves=[]
   · rw[(JfW h hm).2,(JfW h hm).1,if_neg (by simp),decide_eq_true rfl]
     decide
   · rw[Jmz h hm,if_pos rfl,decide_eq_true rfl,decide_eq_false (fun he=>by
      obtain⟨_,i,_,_,_,_,e⟩:=N2 h hm
      rw[he]at e
      omega)]
     rfl
 rw[if_neg h2,if_neg h2,decide_eq_true (rfl:q=q)]
 show decide _=false
 refine decide_eq_false fun he=> ?_
 split at he
 · split at he
   · rename_i hb
     rw[Jbc h hb]at he
     have:=congrArg List.length he
     rw[Jbd]at this
     exact absurd this (by decide)
   · exact absurd he (by decide)
 split at he
 · rcases BT q with e|e|e<;>rw[e]at he<;>exact absurd he (by decide)
 · exact absurd he (by decide)
def G3(c v:Int):List UInt8:=[112,117,116,32]++[u8 (97+c),u8 (48+v)]
theorem JlY{c v:Nat}(hc:c≤15)(hv:v≤9):Yh (G3 c v)∧Xy (G3 c v) 4 -97=c∧Xy (G3 c v) 5 -48=v:=by
 have e1:Xy (G3 c v) 4=97+(c:Int):=by
  show((u8 (97+(c:Int))).toNat:Int)=_
  rw[Jcu (by omega)]
 have e2:Xy (G3 c v) 5=48+(v:Int):=by
  show((u8 (48+(v:Int))).toNat:Int)=_
  rw[Jcu (by omega)]
 refine⟨⟨rfl,rfl, ?_, ?_⟩,by omega,by omega⟩<;>omega
theorem Jdu{q:QZ}{n:Nat}(h:Z1 q n)(hb:UK q.task (JN q)=true):Zl q (G3 (Z2 q.task (JN q)).cell (Z2 q.task (JN q)).val)=okT:=by
 obtain⟨k,v,h1,h2,h3,h4,h5,h6,h7⟩:=Fn h hb
 have hl:=h.len
 have hn:n≤4:=by rcases h.pz.hn with e|e|e<;>omega
 rw[h2,h3]
 obtain⟨p1,p2,p3⟩:=JlY (c:=k) (v:=v) (by omega) (by omega)
 have ok:UR q k v:=JcY h h1 h6 (by omega) ⟨by omega,by omega⟩
 unfold Zl
 rw[if_pos h.valid,if_pos p1,p2,p3,(K3 h ok).2,if_pos rfl]
theorem JeC{q:QZ}{n:Nat}(h:Z1 q n):Zl q U0=Xz q:=by
 unfold Zl
 rw[if_pos h.valid,if_neg Jaz,if_neg (by decide),if_neg (by decide),if_pos rfl]
theorem NH{q:QZ}{n:Nat}(h:Z1 q n):Zk (JN q) q.task.size.toNat:=by
 have hl:=h.ln
 have hz:q.task.size.toNat=n:=by have:=h.sz;omega
 rw[hz,h.grid]
 refine⟨by rw[Uo];exact h.gv.len,fun k hk=> ?_⟩
 rw[Uo]at hk
 rw[Xg hk]
 have a1:=h.gv.val k hk
 have a2:=h.pt.val k (by omega)
 omega
theorem Jeb{p:Q4}(hv:JB p=true){xs:List Int}(hx:Zk xs p.size.toNat)(h:Uj p xs=true):Yo p xs=true:=by
 rw[JfS hv hx]
 refine decide_eq_true (List.length_pos_iff.2 fun h0=> ?_)
 have:=Jfx.2 ⟨(Jea hv hx).1 h,Yv.refl xs⟩
 rw[h0]at this
 cases this
theorem Jjm{q:QZ}{n:Nat}(h:Z1 q n):Xz q=if Yo q.task (JN q)=false then WM else if Uj q.task (JN q)=true then Vs else Y8:=by
 unfold Xz
 cases hs:Uj q.task (JN q)with
 |true=>
  rw[Jeb h.pv (NH h) hs]
  simp
 |false=>
  cases hc:Yo q.task (JN q)<;>simp
def VS(q:QZ)(ls:List (List UInt8)):QZ:=ls.foldl QA q
def Xm:QZ→List (List UInt8)→List (List UInt8)
 |_,[]=>[]
 |q,l::ls=>Zl q l::Xm (QA q l) ls
theorem Bk:∀(q:QZ) (ls:List (List UInt8)),(Xm q ls).length=ls.length
 |_,[]=>rfl
 |q,l::ls=>by simp[Xm,Bk]
theorem JcP(q:QZ)(a b:List (List UInt8)):VS q (a++b)=VS (VS q a) b:=by simp[VS]
theorem GY:∀(q:QZ) (a b:List (List UInt8)),Xm q (a++b)=Xm q a++Xm (VS q a) b
 |q,[],b=>rfl
 |q,l::a,b=>by
  show Zl q l::Xm (QA q l) (a++b)=Zl q l::(Xm (QA q l) a++Xm (VS (QA q l) a) b)
  rw[GY]
theorem Xa{n:Nat}:∀{q:QZ} (ls:List (List UInt8)),Z1 q n→Z1 (VS q ls) n
 |q,[],h=>h
 |q,l::ls,h=>Xa (q:=QA q l) ls (Xs h l)
end Go.Lg

namespace Go.Lg
open Go.Proofs Go.Shelf
def JbQ:Go.Shelf.Ren:=⟨fun|171=>92|243=>123|246=>147|283=>160|284=>161|285=>162|286=>163|129=>168|317=>167|318=>169|319=>170|320=>171|337=>173|338=>174|n=>n,fun|3=>3|9=>9|2=>2|4=>4|171=>146|0=>0|53=>147|37=>22|5=>5|173=>150|212=>156|51=>154|20=>20|213=>157|46=>143|232=>158|233=>159|n=>n,fun|17=>0|18=>1|19=>2|n=>n⟩
theorem Ji1:Go.Proofs.LaysM.n171 Tryz.prog JbQ:={
 mixed:=by kernel_rfl
 f129:=Tryz.func168.trans (congrArg some (by kernel_rfl))
 f171:=Tryz.func92.trans (congrArg some (by kernel_rfl))
 f243:=Tryz.func123.trans (congrArg some (by kernel_rfl))
 f246:=Tryz.func147.trans (congrArg some (by kernel_rfl))
 f283:=Tryz.func160.trans (congrArg some (by kernel_rfl))
 f284:=Tryz.func161.trans (congrArg some (by kernel_rfl))
 f285:=Tryz.func162.trans (congrArg some (by kernel_rfl))
 f286:=Tryz.func163.trans (congrArg some (by kernel_rfl))
 f317:=Tryz.func167.trans (congrArg some (by kernel_rfl))
 f318:=Tryz.func169.trans (congrArg some (by kernel_rfl))
 f319:=Tryz.func170.trans (congrArg some (by kernel_rfl))
 f320:=Tryz.func171.trans (congrArg some (by kernel_rfl))
 f337:=Tryz.func173.trans (congrArg some (by kernel_rfl))
 f338:=Tryz.func174.trans (congrArg some (by kernel_rfl))
 t0:=Tryz.underlying0
 a0:=Tryz.isAgg0
 z0:=Tryz.sizeOf0
 v0:=Tryz.zeroValue0
 t2:=Tryz.underlying2
 a2:=Tryz.isAgg2
 z2:=Tryz.sizeOf2
 v2:=Tryz.zeroValue2
 t3:=Tryz.underlying3
 a3:=Tryz.isAgg3
 z3:=Tryz.sizeOf3
 v3:=Tryz.zeroValue3
 t4:=Tryz.underlying4
 a4:=Tryz.isAgg4
 z4:=Tryz.sizeOf4
 v4:=Tryz.zeroValue4
 t5:=Tryz.underlying5
 a5:=Tryz.isAgg5
 z5:=Tryz.sizeOf5
 v5:=Tryz.zeroValue5
 t9:=Tryz.underlying9
 a9:=Tryz.isAgg9
 z9:=Tryz.sizeOf9
 v9:=Tryz.zeroValue9
 t20:=Tryz.underlying20
 a20:=Tryz.isAgg20
 z20:=Tryz.sizeOf20
 v20:=Tryz.zeroValue20
 t37:=Tryz.underlying22
 a37:=Tryz.isAgg22
 z37:=Tryz.sizeOf22
 v37:=Tryz.zeroValue22
 t46:=Tryz.underlying143
 a46:=Tryz.isAgg143
 z46:=Tryz.sizeOf143
 v46:=Tryz.zeroValue143
 t51:=Tryz.underlying154
 a51:=Tryz.isAgg154
 z51:=Tryz.sizeOf154
 v51:=Tryz.zeroValue154
 t53:=Tryz.underlying147
 a53:=Tryz.isAgg147
 z53:=Tryz.sizeOf147
 v53:=Tryz.zeroValue147
 t171:=Tryz.underlying146
 a171:=Tryz.isAgg146
 z171:=Tryz.sizeOf146
 v171:=Tryz.zeroValue146
 t173:=Tryz.underlying150
 a173:=Tryz.isAgg150
 z173:=Tryz.sizeOf150
 v173:=Tryz.zeroValue150
 t212:=Tryz.underlying156
 a212:=Tryz.isAgg156
 z212:=Tryz.sizeOf156
 v212:=Tryz.zeroValue156
 t213:=Tryz.underlying157
 a213:=Tryz.isAgg157
 z213:=Tryz.sizeOf157
 t232:=Tryz.underlying158
 a232:=Tryz.isAgg158
 z232:=Tryz.sizeOf158
 v232:=Tryz.zeroValue158
 t233:=Tryz.underlying159
 a233:=Tryz.isAgg159
 z233:=Tryz.sizeOf159
 v233:=Tryz.zeroValue159
 g17:=by kernel_rfl
 g18:=by kernel_rfl
 g19:=by kernel_rfl
 i0:=by kernel_rfl
 i2:=by kernel_rfl
 i3:=by kernel_rfl
 i4:=by kernel_rfl
 i5:=by kernel_rfl
 i9:=by kernel_rfl
 i20:=by kernel_rfl
 i37:=by kernel_rfl
 i46:=by kernel_rfl
 i51:=by kernel_rfl
 i53:=by kernel_rfl
 i171:=by kernel_rfl
 i173:=by kernel_rfl
 i212:=by kernel_rfl
 i232:=by kernel_rfl
 i233:=by kernel_rfl
 m17:=by kernel_rfl
 m18:=by kernel_rfl
 m19:=by kernel_rfl}
theorem JeG(n:Int)(h0: -9223372036854775808≤n)(h1:n≤9223372036854775807)(w:World)(htab:Go.Lib.TabIs Tryz.prog w "internal/strconv.uint64pow10" .u64 Go.Lib.pow10Tab):
 Calls Tryz.prog 92 #[.int .i64 n] w fun e w'=>e= .returned (.string ⟨(Go.Lib.itoa n).toArray⟩)∧∃k os,w'=Go.Sort.grow (w.drewN k) os:=Any.strconv_Itoa Ji1 n h0 h1 w htab
theorem JgP:Program.globalNamed Tryz.prog "internal/strconv.uint64pow10" =some 0:=by kernel_rfl
theorem JiZ{w:World}{I:Nat→Prop}(h:N8 w I):Go.Lib.TabIs Tryz.prog w "internal/strconv.uint64pow10" .u64 Go.Lib.pow10Tab:=by
 obtain⟨_,_,cc,t,o,h1,h2⟩:=h.1 0 _ rfl
 unfold Go.Lib.TabIs World.var?
 rw[JgP]
 simp only[Option.bind_some,h1]
 have e:cc=(Go.Lib.pow10Tab.map fun z=>Value.int .u64 z).toArray:=by
  apply Array.ext'
  rw[h2]
  rfl
 rw[e]
theorem Jg3(w:World)(k:Nat)(os:Array Obj):Z6 w (Go.Sort.grow (w.drewN k) os):=by
 refine⟨fun b hb=> ?_, ?_,rfl,rfl,rfl⟩
 · show(w.heap++os)[b]? =w.heap[b]?
   rw[Array.getElem?_append_left hb]
 · show w.heap.size≤(w.heap++os).size
   simp
theorem JjV(i:Int)(h0: -9223372036854775808≤i)(h1:i≤9223372036854775807):JW Tryz.prog 92 [int i] (WU (Go.Lib.itoa i)):=by
 intro w X vs hH hvs
 obtain⟨hs,hv⟩:=hvs
 obtain⟨u,hu1,hu2⟩:=hv 0 (by simp)
 have e:vs= #[.int .i64 i]:=by
  have hu:u= .int .i64 i:=Vy hu2
  subst hu
  apply Array.ext'
  have hl:vs.toList.length=1:=by simpa using hs
  obtain⟨x,hx⟩:=List.length_eq_one_iff.1 hl
  have:vs.toList[0]? =some (.int .i64 i):=by rw[Array.getElem?_toList];exact hu1
  rw[hx]at this⊢
  simpa using this
 subst e
 refine(JeG i h0 h1 w (JiZ hH.tab)).mono fun e w' ⟨he,k,os,hw⟩=> ?_
 subst hw
 have hg:=Jg3 w k os
 exact⟨WU (Go.Lib.itoa i),_,X,[],he, .c _ _ (VF.str _),hg.rel hH,hg.ev hH,rfl⟩
end Go.Lg
