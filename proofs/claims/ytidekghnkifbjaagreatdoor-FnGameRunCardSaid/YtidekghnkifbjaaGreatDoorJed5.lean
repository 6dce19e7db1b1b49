/- GpVH, GpUA, GpYA, cut to what is needed. -/
import Derived.Test.YtidekghnkifbjaaGreatDoorJed4
import Derived.Test.YtidekghnkifbjaaGreatDoorJed3
import Derived.Test.YtidekghnkifbjaaGreatDoorJeb5
import Derived.Test.YtidekghnkifbjaaGreatDoorJed2
import Derived.Test.YtidekghnkifbjaaGreatDoorJed1
import Derived.Test.YtidekghnkifbjaaGreatDoorJeb7
open List renaming getElem?_append_left → Ja, cons_append → Jb, nil_append → Jc, replicate → Jd, length_cons → Je, length_nil → Jf, getElem?_set_ne → Jg, length_append → Jk, length_set → Jo, append_nil → Ju, mapM_cons → J4, mem_map → Qj, mapM_nil → Qw, length_replicate → QG, all_cons → VI, all_nil → W3
open Nat renaming reduceAdd→zA,reduceMul→zM,reduceSub→zS,reduceEqDiff→zE,reduceLeDiff→zL
set_option linter.unusedSimpArgs false
set_option linter.unusedVariables false
set_option maxRecDepth 100000
namespace Go.Lg
open Go.Proofs
theorem Ji0{v:Int}(h0:0≤v)(h9:v≤9):Go.Lib.itoa v=[u8 (48+v)]:=by
 unfold Go.Lib.itoa
 rw[if_neg (by omega),Go.Lib.decDigits,dif_pos (by omega)]
 unfold u8
 rw[show 48+v.toNat=(48+v).toNat by omega]
theorem Jbn(i:Int)(h0:0≤i)(h9:i≤9):JW Tryz.prog 92 [int i] (WU [u8 (48+i)]):=by
 rw[←Ji0 h0 h9]
 exact JjV i (by omega) (by omega)
theorem Jcj(h:Hnt):JW Tryz.prog 49 [aH h] (WU (VP h)):=by
 refine Jn.cw (c:=_) Tryz.func49 rfl (n:=48) Tryz.ntmps49 (rs:=[.tmp 2]) rfl ?_
 simp only[Je,Jf,zA,zS,Jd,Jb,Jc]
 simp(maxSteps:=999999)(disch:=omega)only[go_sem,zA,zM,zS,zE,zL]
 intro g
 have no:¬JbU h→VP h=[]:=fun hk=>by unfold VP;rw[if_neg hk]
 by_cases k1:h.tech<0
 · have d:decide (h.tech<0)=true:=decide_eq_true k1
   rw[no fun hk=>by have:=hk.1;omega]
   simp(maxSteps:=999999)(disch:=omega)only[go_sem,zA,zM,zS,zE,zL,d]
 have d1:decide (h.tech<0)=false:=decide_eq_false k1
 by_cases k2:4<h.tech
 · have d:decide (4<h.tech)=true:=decide_eq_true k2
   rw[no fun hk=>by have:=hk.1;omega]
   simp(maxSteps:=999999)(disch:=omega)only[go_sem,zA,zM,zS,zE,zL,d1,d]
 have d2:decide (4<h.tech)=false:=decide_eq_false k2
 by_cases k3:h.cell<0
 · have d:decide (h.cell<0)=true:=decide_eq_true k3
   rw[no fun hk=>by have:=hk.2.1;omega]
   simp(maxSteps:=999999)(disch:=omega)only[go_sem,zA,zM,zS,zE,zL,d1,d2,d]
 have d3:decide (h.cell<0)=false:=decide_eq_false k3
 by_cases k4:15<h.cell
 · have d:decide (15<h.cell)=true:=decide_eq_true k4
   rw[no fun hk=>by have:=hk.2.1;omega]
   simp(maxSteps:=999999)(disch:=omega)only[go_sem,zA,zM,zS,zE,zL,d1,d2,d3,d]
 have d4:decide (15<h.cell)=false:=decide_eq_false k4
 by_cases k5:h.val<1
 · have d:decide (h.val<1)=true:=decide_eq_true k5
   rw[no fun hk=>by have:=hk.2.2;omega]
   simp(maxSteps:=999999)(disch:=omega)only[go_sem,zA,zM,zS,zE,zL,d1,d2,d3,d4,d]
 have d5:decide (h.val<1)=false:=decide_eq_false k5
 by_cases k6:4<h.val
 · have d:decide (4<h.val)=true:=decide_eq_true k6
   rw[no fun hk=>by have:=hk.2.2;omega]
   simp(maxSteps:=999999)(disch:=omega)only[go_sem,zA,zM,zS,zE,zL,d1,d2,d3,d4,d5,d]
 have d6:decide (4<h.val)=false:=decide_eq_false k6
 have e:VP h=BL h:=by unfold VP;rw[if_pos ⟨by omega,by omega,by omega⟩]
 rw[e]
 unfold BL
 simp(maxSteps:=999999)(disch:=omega)only[go_sem,zA,zM,zS,zE,zL,d1,d2,d3,d4,d5,d6]
 refine Zj Zd (by kernel_rfl) ?_
 simp(maxSteps:=999999)(disch:=omega)only[go_sem,Nat.reduceBEq,Bool.true_or,zA,zM,zS,zE,zL]
 refine Q0.rd (Jbn h.val (by omega) (by omega)) (⟨_,Tryz.func92,rfl,rfl⟩:Ji Tryz.prog 92) rfl rfl rfl rfl ?_
 simp(maxSteps:=999999)(disch:=omega)only[go_sem,zA,zM,zS,zE,zL]
 refine Q0.rd (Jbn h.tech (by omega) (by omega)) (⟨_,Tryz.func92,rfl,rfl⟩:Ji Tryz.prog 92) rfl rfl rfl rfl ?_
 simp(maxSteps:=999999)(disch:=omega)only[go_sem,zA,zM,zS,zE,zL]
end Go.Lg

namespace Go.Lg
open Go.Proofs
attribute [-go_sem] J9 Jv
def Yy(t:List UInt8):AV→AV:=fun v=> .tup [v,WU t]
theorem NK{H:Jm}{q q':QZ}{t t':List UInt8}{cs:List CV}{S:List Nat}(hq:q'=q)(ht:t'=t)(h:Vx H cs q S):Uz H (WE (Yy t') q') (.tup [.agg cs,WU t]):=by
 subst hq ht
 exact⟨H,J0.refl _,cs,S,rfl,h⟩
theorem Jhb{H:Jm}{q':QZ}{t':List UInt8}(hq:q'=ZC)(ht:t'=[]):Uz H (nzQ (WE (Yy t') q')) (.tup [.agg [.f (.int .i64 0), .f .nil, .f .nil, .f .nil, .f .nil],WU []]):=by
 subst hq ht
 exact⟨H,J0.refl _,_,[],rfl,⟨⟨_,_,_,_,[],[],[],[],rfl,rfl, .e, .e, .e, .e⟩,by simp⟩⟩
section
variable{P:Program}{o:Oper}{st:St}{K:KV}{fo:Operand}{xs:Array Operand}{ts:Array TypeId}{f:FuncId}{args args':List AV}
theorem JZ.mkDGT{q:QZ}{t:List UInt8}(hc:Jn P f args' [] (WE (Yy t) q))(he:Ji P f)(ho:o.op= .call ⟨.value fo,xs,ts⟩)(ha:Qc st fo xs=some (f,args))(hs:args.mapM (Zx st.h)=some args')
 (hk:∀cs H' S,Vx (st.h++H') cs q S→(∀i∈S,st.h.length≤i∧i<st.h.length+H'.length)→K (.tup [.agg cs,WU t]) (st.h++H')):JZ P o st K:=
 JZ.mkD (Jn.gamS hc) he ho ha hs fun r H' ⟨cs,S,h1,h2,h3,h4⟩=>by
  subst h1
  exact⟨⟨rfl,by simp only[Yy,Lg.scal1,VI,W3,JcL,h4,Bool.true_and,Bool.and_true];rfl,h3⟩,hk _ _ _ h2.shift (by rw[QQ];exact Ug h2.lt)⟩
theorem JK.mkW{ops:Array Oper}{s:List AV}{H:Jm}{q:QZ}{b:Bool}(hc:Jn P f args' [] (WE (YU b) q))(he:Ji P f)(ho:o.op= .call ⟨.value fo,xs,ts⟩)(ha:Qc ⟨s,H⟩ fo xs=some (f,args))(hs:args.mapM (Zx H)=some args')
 (hk:∀cs H' S,Vx (H++H') cs q S→(∀i∈S,H.length≤i∧i<H.length+H'.length)→K (.tup [.agg cs,bool b]) (H++H')):JK P ops o s H K:=
 JK.call ho ha fun s' ha'=>JZ.mkDGB (st:=⟨s',H⟩) hc he ho ha' hs hk
theorem JW.ownGT{q:QZ}{t:List UInt8}(h:Jn P f args [] (WE (Yy t) q)):JW P f args (.tup [aG q,WU t]):=
 JW.ice h fun r H' ⟨c,S,h1,h2⟩=>by
  subst h1
  have:=h2.snap
  simp only[Zx]at this
  simp only[Yy,Vu,J4,Qw,Xw,this,Option.pure_def,Option.bind_eq_bind,Option.bind_some,Option.map_some,frzC,frz]
end
theorem Jaw{q:QZ}{n:Nat}(h:Z1 q n)(hf:WF q.task (JN q)=false):Yo q.task (JN q)=false:=by
 cases hc:Yo q.task (JN q)with
 |false=>rfl
 |true=>
  have h1:=Jjo h.pv (NH h) hc
  have hgv:Qe (JN q) q.task.size=true:=by
   have hz:q.task.size.toNat=n:=by have:=h.sz;omega
   have h2:=NH h
   rw[hz]at h2
   rw[h.sz]
   exact h2.valid h.pz.hn
  unfold WF at hf
  rw[h.pv,hgv,h1]at hf
  cases hf
theorem JdI(b:Bool):JW Tryz.prog 47 [bool b] (WU (if b=true then okT else noT)):=by
 refine Jn.cw (c:=_) Tryz.func47 rfl (n:=4) Tryz.ntmps47 (rs:=[.tmp 2]) rfl ?_
 simp only[Je,Jf,zA,zS,Jd,Jb,Jc]
 cases b with
 |true=>
  simp(maxSteps:=999999)(disch:=omega)only[go_sem,zA,zM,zS,zE,zL]
  rfl
 |false=>
  simp(maxSteps:=999999)(disch:=omega)only[go_sem,zA,zM,zS,zE,zL]
  rfl
theorem Kp(s:List UInt8)(hs:s.length≤2^40)(h6:s.length=6):JW Tryz.prog 90 [WU s,WU [112,117,116,32]] (bool (decide (s.take 4=[112,117,116,32]))):=by
 have d:decide (((4:Nat):Int)≤(s.length:Int))=true:=decide_eq_true (by omega)
 have e:sub s 0 ((4:Nat):Int)=s.take 4:=rfl
 refine Jn.cw (c:=_) Tryz.func90 rfl (n:=18) Tryz.ntmps90 (rs:=[.tmp 4]) rfl ?_
 simp only[Je,Jf,zA,zS,Jd,Jb,Jc]
 simp(maxSteps:=999999)(disch:=omega)only[go_sem,zA,zM,zS,zE,zL,d,e]
theorem Wy(s:List UInt8)(hs:s.length≤2^40)(h6:s.length=6):JW Tryz.prog 45 [WU s,WU [112,117,116,32]] (bool (decide (s.take 4=[112,117,116,32]))):=by
 refine Jn.cw (c:=_) Tryz.func45 rfl (n:=8) Tryz.ntmps45 (rs:=[.tmp 4]) rfl ?_
 simp only[Je,Jf,zA,zS,Jd,Jb,Jc]
 simp(maxSteps:=999999)(disch:=omega)only[go_sem,zA,zM,zS,zE,zL]
 first|refine JZ.rd (Kp s hs h6) (⟨_,Tryz.func90,rfl,rfl⟩:Ji Tryz.prog 90) rfl rfl rfl rfl ?_|refine JK.rd (Kp s hs h6) (⟨_,Tryz.func90,rfl,rfl⟩:Ji Tryz.prog 90) rfl rfl rfl rfl ?_
 simp(maxSteps:=999999)(disch:=omega)only[go_sem,zA,zM,zS,zE,zL]
set_option maxHeartbeats 4000000 in
theorem We(q:QZ)(l:List UInt8)(hx:smG q)(hl:l.length≤2^40):Jn Tryz.prog 15 [aG q,WU l] [] (WE (Yy (Zl q l)) (QA q l)):=by
 cases hv:Qd q with
 |false=>
  have e1:QA q l=ZC:=by unfold QA;rw[hv];rfl
  have e2:Zl q l=[]:=by unfold Zl;rw[hv];rfl
  rw[e1,e2]
  refine Jn.nz ?_
  refine Jn.cw (c:=_) Tryz.func15 rfl (n:=118) Tryz.ntmps15 (rs:=[.cell 4 28, .tmp 5]) rfl ?_
  simp only[Je,Jf,zA,zS,Jd,Jb,Jc]
  simp(maxSteps:=999999)(disch:=omega)only[go_sem,zA,zM,zS,zE,zL]
  intro g1 g2
  first|refine JZ.rd (QU q hx) (⟨_,Tryz.func34,rfl,rfl⟩:Ji Tryz.prog 34) rfl rfl rfl rfl ?_|refine JK.rd (QU q hx) (⟨_,Tryz.func34,rfl,rfl⟩:Ji Tryz.prog 34) rfl rfl rfl rfl ?_
  simp(maxSteps:=999999)(disch:=omega)only[go_sem,zA,zM,zS,zE,zL]
  rw[hv]
  simp(maxSteps:=999999)(disch:=omega)only[go_sem,zA,zM,zS,zE,zL]
  exact Jhb rfl rfl
 |true=>
 refine Jn.cw (c:=_) Tryz.func15 rfl (n:=118) Tryz.ntmps15 (rs:=[.cell 4 28, .tmp 5]) rfl ?_
 simp only[Je,Jf,zA,zS,Jd,Jb,Jc]
 simp(maxSteps:=999999)(disch:=omega)only[go_sem,zA,zM,zS,zE,zL]
 intro g1 g2
 first|refine JZ.rd (QU q hx) (⟨_,Tryz.func34,rfl,rfl⟩:Ji Tryz.prog 34) rfl rfl rfl rfl ?_|refine JK.rd (QU q hx) (⟨_,Tryz.func34,rfl,rfl⟩:Ji Tryz.prog 34) rfl rfl rfl rfl ?_
 simp(maxSteps:=999999)(disch:=omega)only[go_sem,zA,zM,zS,zE,zL]
 rw[hv]
 have hgl:=Ww hv
 have eG:QA q l=if Yh l then Zt q (Xy l 4 -97) (Xy l 5 -48)else if l=Yr then QD q else q:=by unfold QA;rw[if_pos hv]
 have eT:Zl q l=if Yh l then(if Zp q (Xy l 4 -97) (Xy l 5 -48)=true then okT else noT)else if l=Yr then(if QK q=true then okT else noT)else if l=XN then(if UK q.task (JN q)=true then VP (Z2 q.task (JN q))else Bu)else if l=U0 then Xz q else Wg:=by unfold Zl;rw[if_pos hv]
 simp(maxSteps:=999999)(disch:=omega)only[go_sem,zA,zM,zS,zE,zL]
 refine JZ.mkG (BP q hx) (⟨_,Tryz.func44,rfl,rfl⟩:Ji Tryz.prog 44) rfl rfl rfl ?_
 intro cs H1 S1 hG1 hS1
 obtain⟨c1,c2,c3,c4,T1,T2,T3,T4,rfl,eS,k1,k2,k3,k4⟩:=hG1.ex
 simp only[Je,Jf,Jb,Jc]at hS1 hG1
 clear k1 k2 k3 k4 eS
 simp(maxSteps:=999999)(disch:=omega)only[go_sem,zA,zM,zS,zE,zL]
 intro g3
 simp(maxSteps:=999999)(disch:=omega)only[go_sem,zA,zM,zS,zE,zL,JC,QM]
 obtain⟨HA,hHA⟩:∃HA:Jm,HA=some ⟨g1,1,cG q⟩::some ⟨g2,5,[.f (.int .i64 0), .f .nil, .f .nil, .f .nil, .f .nil]⟩::(H1++[some ⟨g3,5,[.f (.int .i64 q.task.size),c1,c2,c3,c4]⟩]):=⟨_,rfl⟩
 have b0:look HA 0 g1=some ⟨g1,1,cG q⟩:=by rw[hHA];simp only[go_sem]
 have b1:look HA 1 g2=some ⟨g2,5,[.f (.int .i64 0), .f .nil, .f .nil, .f .nil, .f .nil]⟩:=by rw[hHA];simp only[go_sem]
 have bs:look HA (H1.length+1+1) g3=some ⟨g3,5,[.f (.int .i64 q.task.size),c1,c2,c3,c4]⟩:=by rw[hHA];simp only[go_sem];exact JC
 have hlA:HA.length=H1.length+3:=by rw[hHA];simp
 have hG:Vx HA [.f (.int .i64 q.task.size),c1,c2,c3,c4] q S1:=by
  rw[hHA]
  exact hG1.app (H':=[some ⟨g3,5,[.f (.int .i64 q.task.size),c1,c2,c3,c4]⟩])
 have hm:∀k∈S1,2≤k:=fun k hk=>by have:=hS1 k hk;omega
 first|refine JZ.mk (JW.ownI (Wf q hx)) (⟨_,Tryz.func9,rfl,rfl⟩:Ji Tryz.prog 9) rfl rfl rfl rfl rfl ?_|refine JK.mk (JW.ownI (Wf q hx)) (⟨_,Tryz.func9,rfl,rfl⟩:Ji Tryz.prog 9) rfl rfl rfl rfl rfl ?_
 simp(maxSteps:=999999)(disch:=omega)only[go_sem,zA,zM,zS,zE,zL]
 rw[←hHA]
 clear hHA hG1
 have hSk:∀(b:Option Zv),∀k∈S1,(HA.set 1 b)[k]? =HA[k]? :=fun b k hk=>Jg (by have:=hm k hk;omega)
 have hSet:∀b,look (HA.set 1 (some ⟨g2,5,b⟩)) 1 g2=some ⟨g2,5,b⟩:=fun b=>JM (by omega)
 have finS:∀(H2:Jm) (t:List UInt8),(∀k∈S1,H2[k]? =HA[k]?)→QA q l=q→Zl q l=t→Uz H2 (WE (Yy (Zl q l)) (QA q l)) (.tup [.agg [.f (.int .i64 q.task.size),c1,c2,c3,c4],WU t]):=fun H2 t hk e1 e2=>NK e1 e2 (hG.same hk)
 by_cases hp:Yh l
 · obtain⟨h1,h2,⟨h3,h4⟩,h5,h6⟩:=id hp
   have d1:decide ((l.length:Int)=6)=true:=decide_eq_true (by omega)
   have d2:decide (l.take 4=[112,117,116,32])=true:=decide_eq_true h2
   have d3:decide (97≤Xy l 4)=true:=decide_eq_true h3
   have d4:decide (Xy l 4≤122)=true:=decide_eq_true h4
   have d5:decide (48≤Xy l 5)=true:=decide_eq_true h5
   have d6:decide (Xy l 5≤57)=true:=decide_eq_true h6
   rw[eG,eT,if_pos hp,if_pos hp]
   simp(maxSteps:=999999)(disch:=omega)only[go_sem,zA,zM,zS,zE,zL,d1]
   first|refine JZ.rd (Wy l hl h1) (⟨_,Tryz.func45,rfl,rfl⟩:Ji Tryz.prog 45) rfl rfl rfl rfl ?_|refine JK.rd (Wy l hl h1) (⟨_,Tryz.func45,rfl,rfl⟩:Ji Tryz.prog 45) rfl rfl rfl rfl ?_
   simp(maxSteps:=999999)(disch:=omega)only[go_sem,zA,zM,zS,zE,zL]
   simp(maxSteps:=999999)(disch:=omega)only[go_sem,zA,zM,zS,zE,zL,d2,d3,d4,d5,d6]
   refine YO [0,1,2,3,4,5,6,7,8,13,9,10,11,12] [] (some 13) [14,15] 12 [] Zd (by kernel_rfl) ?_
   iterate 11 (rw[Jv];simp(maxSteps:=999999)(disch:=omega)only[go_sem,zA,zM,zS,zE,zL,b0])
   refine JK.mkW (JdY q (Xy l 4 -97) (Xy l 5 -48) hx) (⟨_,Tryz.func46,rfl,rfl⟩:Ji Tryz.prog 46) rfl rfl (Xj JcA rfl rfl) ?_
   intro cs2 H2 S2 hG2 hS2
   obtain⟨e1,e2,e3,e4,U1,U2,U3,U4,rfl,eU,m1,m2,m3,m4⟩:=hG2.ex
   clear m1 m2 m3 m4 eU
   obtain⟨HB,hHB⟩:∃HB:Jm,HB=HA++H2:=⟨_,rfl⟩
   have hlB:HB.length=HA.length+H2.length:=by rw[hHB];simp
   have c1':look HB 1 g2=some ⟨g2,5,[.f (.int .i64 0), .f .nil, .f .nil, .f .nil, .f .nil]⟩:=by rw[hHB];exact JO b1
   rw[←hHB]at hG2
   simp(maxSteps:=999999)(disch:=omega)only[go_sem,zA,zM,zS,zE,zL]
   rw[←hHB]
   clear hHB
   iterate 3 (rw[Jv];simp(maxSteps:=999999)(disch:=omega)only[go_sem,zA,zM,zS,zE,zL])
   intro g4
   refine VJ rfl (.inr rfl) ?_
   simp(maxSteps:=999999)(disch:=omega)only[go_sem,zA,zM,zS,zE,zL,JC,QM]
   refine VJ rfl (.inl rfl) ?_
   simp(maxSteps:=999999)(disch:=omega)only[go_sem,zA,zM,zS,zE,zL]
   refine Q3 [0,1,2] [] none [3,4] [] [0,0,2,7,15] Zd (by kernel_rfl) ?_
   iterate 2 (rw[Jv];simp(maxSteps:=999999)(disch:=omega)only[go_sem,zA,zM,zS,zE,zL,JC])
   rw[Jv]
   simp(maxSteps:=999999)(disch:=omega)only[go_sem,zA,zM,zS,zE,zL]
   refine JK.rd (JdI (Zp q (Xy l 4 -97) (Xy l 5 -48))) (⟨_,Tryz.func47,rfl,rfl⟩:Ji Tryz.prog 47) rfl rfl rfl rfl ?_
   have hSet3:∀x b,look ((HB++[x]).set 1 (some ⟨g2,5,b⟩)) 1 g2=some ⟨g2,5,b⟩:=fun x b=>JM (by simp;omega)
   have c2':∀b,look (HB++[b]) 1 g2=some ⟨g2,5,[.f (.int .i64 0), .f .nil, .f .nil, .f .nil, .f .nil]⟩:=fun b=>JO c1'
   simp(maxSteps:=999999)(disch:=omega)only[go_sem,zA,zM,zS,zE,zL,c2',hSet3]
   exact NK rfl rfl ((hG2.app (H':=[_])).same fun i hi=>Jg (by have:=hS2 i hi;omega))
 · by_cases hb:l=Yr
   · subst hb
     have d1:decide ((Yr.length:Int)=6)=false:=rfl
     have d2:decide (Yr=[98,97,99,107])=true:=rfl
     rw[eG,eT,if_neg hp,if_neg hp,if_pos rfl,if_pos rfl]
     simp(maxSteps:=999999)(disch:=omega)only[go_sem,zA,zM,zS,zE,zL,d1,d2,b0]
     refine JZ.mkDGB (Jcl q hx) (⟨_,Tryz.func48,rfl,rfl⟩:Ji Tryz.prog 48) rfl rfl (Jcz JcA) ?_
     intro cs2 H2 S2 hG2 hS2
     obtain⟨e1,e2,e3,e4,U1,U2,U3,U4,rfl,eU,m1,m2,m3,m4⟩:=hG2.ex
     clear m1 m2 m3 m4 eU
     obtain⟨HB,hHB⟩:∃HB:Jm,HB=HA++H2:=⟨_,rfl⟩
     have hlB:HB.length=HA.length+H2.length:=by rw[hHB];simp
     have c1':look HB 1 g2=some ⟨g2,5,[.f (.int .i64 0), .f .nil, .f .nil, .f .nil, .f .nil]⟩:=by rw[hHB];exact JO b1
     simp only at hG2 hS2⊢
     rw[←hHB]at hG2⊢
     clear hHB
     simp(maxSteps:=999999)(disch:=omega)only[go_sem,zA,zM,zS,zE,zL]
     intro g4
     simp(maxSteps:=999999)(disch:=omega)only[go_sem,zA,zM,zS,zE,zL,JC,QM]
     refine Q3 [0,1,2] [] none [3,4] [] [0,0,2,7,15] Zd (by kernel_rfl) ?_
     iterate 2 (rw[Jv];simp(maxSteps:=999999)(disch:=omega)only[go_sem,zA,zM,zS,zE,zL,JC])
     rw[Jv]
     simp(maxSteps:=999999)(disch:=omega)only[go_sem,zA,zM,zS,zE,zL]
     refine JK.rd (JdI (QK q)) (⟨_,Tryz.func47,rfl,rfl⟩:Ji Tryz.prog 47) rfl rfl rfl rfl ?_
     have hSet3:∀x b,look ((HB++[x]).set 1 (some ⟨g2,5,b⟩)) 1 g2=some ⟨g2,5,b⟩:=fun x b=>JM (by simp;omega)
     have c2':∀b,look (HB++[b]) 1 g2=some ⟨g2,5,[.f (.int .i64 0), .f .nil, .f .nil, .f .nil, .f .nil]⟩:=fun b=>JO c1'
     simp(maxSteps:=999999)(disch:=omega)only[go_sem,zA,zM,zS,zE,zL,c2',hSet3]
     exact NK rfl rfl ((hG2.app (H':=[_])).same fun i hi=>Jg (by have:=hS2 i hi;omega))
   by_cases hh:l=XN
   · subst hh
     have d1:decide ((XN.length:Int)=6)=false:=rfl
     have d2:decide (XN=[98,97,99,107])=false:=rfl
     have d3:decide (XN=[104,105,110,116])=true:=rfl
     simp(maxSteps:=999999)(disch:=omega)only[go_sem,zA,zM,zS,zE,zL,d1,d2,d3,b0]
     first|refine JZ.mk (YT q.task (JN q) hx.1 (by omega)) (⟨_,Tryz.func33,rfl,rfl⟩:Ji Tryz.prog 33) rfl rfl rfl rfl rfl ?_|refine JK.mk (YT q.task (JN q) hx.1 (by omega)) (⟨_,Tryz.func33,rfl,rfl⟩:Ji Tryz.prog 33) rfl rfl rfl rfl rfl ?_
     simp(maxSteps:=999999)(disch:=omega)only[go_sem,zA,zM,zS,zE,zL]
     intro g4
     simp(maxSteps:=999999)(disch:=omega)only[go_sem,zA,zM,zS,zE,zL,JC,QM]
     have c1':∀b,look (HA++[b]) 1 g2=some ⟨g2,5,[.f (.int .i64 0), .f .nil, .f .nil, .f .nil, .f .nil]⟩:=fun b=>JO b1
     have cs':∀b,look (HA++[b]) (H1.length+1+1) g3=some ⟨g3,5,[.f (.int .i64 q.task.size),c1,c2,c3,c4]⟩:=fun b=>JO bs
     have hSet2:∀x b,look ((HA++[x]).set 1 (some ⟨g2,5,b⟩)) 1 g2=some ⟨g2,5,b⟩:=fun x b=>JM (by simp;omega)
     have hSk2:∀(x b:Option Zv),∀k∈S1,((HA++[x]).set 1 b)[k]? =HA[k]? :=fun x b k hk=>by
      rw[Jg (by have:=hm k hk;omega),Ja (hG.lt k hk)]
     cases hhb:UK q.task (JN q)with
     |false=>
      simp(maxSteps:=999999)(disch:=omega)only[go_sem,zA,zM,zS,zE,zL,c1',cs',hSet2]
      exact finS _ Bu (hSk2 _ _) (by rw[eG,if_neg hp,if_neg hb]) (by rw[eT,if_neg hp,if_neg hb,if_pos rfl,hhb];rfl)
     |true=>
      simp(maxSteps:=999999)(disch:=omega)only[go_sem,zA,zM,zS,zE,zL,c1',cs',hSet2]
      refine Q3 [0,1,2] [] none [3,4] [] [0,0,2,7,15] Zd (by kernel_rfl) ?_
      iterate 2 (rw[Jv];simp(maxSteps:=999999)(disch:=omega)only[go_sem,zA,zM,zS,zE,zL,cs',JC])
      rw[Jv]
      simp(maxSteps:=999999)(disch:=omega)only[go_sem,zA,zM,zS,zE,zL]
      refine JK.rd (Jcj (Z2 q.task (JN q))) (⟨_,Tryz.func49,rfl,rfl⟩:Ji Tryz.prog 49) rfl rfl rfl rfl ?_
      simp(maxSteps:=999999)(disch:=omega)only[go_sem,zA,zM,zS,zE,zL,c1',hSet2]
      exact finS _ (VP (Z2 q.task (JN q))) (hSk2 _ _) (by rw[eG,if_neg hp,if_neg hb]) (by rw[eT,if_neg hp,if_neg hb,if_pos rfl,hhb];rfl)
   by_cases hc:l=U0
   · subst hc
     have d1:decide ((U0.length:Int)=6)=false:=rfl
     have d2:decide (U0=[98,97,99,107])=false:=rfl
     have d3:decide (U0=[104,105,110,116])=false:=rfl
     have d4:decide (U0=[99,104,101,99,107])=true:=rfl
     simp(maxSteps:=999999)(disch:=omega)only[go_sem,zA,zM,zS,zE,zL,d1,d2,d3,d4,b0]
     first|refine JZ.rd (UU q.task (JN q) hx.1 (by omega)) (⟨_,Tryz.func50,rfl,rfl⟩:Ji Tryz.prog 50) rfl rfl rfl rfl ?_|refine JK.rd (UU q.task (JN q) hx.1 (by omega)) (⟨_,Tryz.func50,rfl,rfl⟩:Ji Tryz.prog 50) rfl rfl rfl rfl ?_
     simp(maxSteps:=999999)(disch:=omega)only[go_sem,zA,zM,zS,zE,zL]
     obtain⟨n,hN⟩:=Z1.of hv
     have eC:Zl q U0=if Yo q.task (JN q)=false then WM else if Uj q.task (JN q)=true then Vs else Y8:=by
      rw[JeC hN,Jjm hN]
     have eg:QA q U0=q:=by rw[eG,if_neg hp,if_neg hb]
     have wr:∀(H2:Jm),(∀k∈S1,H2[k]? =HA[k]?)→Yo q.task (JN q)=false→Uz H2 (WE (Yy (Zl q U0)) (QA q U0)) (.tup [.agg [.f (.int .i64 q.task.size),c1,c2,c3,c4],WU WM]):=fun H2 hk h=>finS H2 WM hk eg (by rw[eC,h];rfl)
     cases hf:WF q.task (JN q)with
     |false=>
      simp(maxSteps:=999999)(disch:=omega)only[go_sem,zA,zM,zS,zE,zL,b1,bs,hSet]
      exact wr _ (hSk _) (Jaw hN hf)
     |true=>
      simp(maxSteps:=999999)(disch:=omega)only[go_sem,zA,zM,zS,zE,zL,b0]
      first|refine JZ.rd (RE q.task (JN q) hx.1 (by omega)) (⟨_,Tryz.func51,rfl,rfl⟩:Ji Tryz.prog 51) rfl rfl rfl rfl ?_|refine JK.rd (RE q.task (JN q) hx.1 (by omega)) (⟨_,Tryz.func51,rfl,rfl⟩:Ji Tryz.prog 51) rfl rfl rfl rfl ?_
      simp(maxSteps:=999999)(disch:=omega)only[go_sem,zA,zM,zS,zE,zL]
      cases hcf:Yo q.task (JN q)with
      |false=>
       simp(maxSteps:=999999)(disch:=omega)only[go_sem,zA,zM,zS,zE,zL,b1,bs,hSet]
       exact wr _ (hSk _) hcf
      |true=>
       simp(maxSteps:=999999)(disch:=omega)only[go_sem,zA,zM,zS,zE,zL,b0]
       first|refine JZ.rd (Yt q.task (JN q) hx.1 (by omega)) (⟨_,Tryz.func52,rfl,rfl⟩:Ji Tryz.prog 52) rfl rfl rfl rfl ?_|refine JK.rd (Yt q.task (JN q) hx.1 (by omega)) (⟨_,Tryz.func52,rfl,rfl⟩:Ji Tryz.prog 52) rfl rfl rfl rfl ?_
       simp(maxSteps:=999999)(disch:=omega)only[go_sem,zA,zM,zS,zE,zL]
       cases hso:Uj q.task (JN q)with
       |true=>
        simp(maxSteps:=999999)(disch:=omega)only[go_sem,zA,zM,zS,zE,zL,b1,bs,hSet]
        exact finS _ Vs (hSk _) eg (by rw[eC,hcf,hso];rfl)
       |false=>
        simp(maxSteps:=999999)(disch:=omega)only[go_sem,zA,zM,zS,zE,zL,b1,bs,hSet]
        exact finS _ Y8 (hSk _) eg (by rw[eC,hcf,hso];rfl)
   have d2:decide (l=[98,97,99,107])=false:=decide_eq_false hb
   have d3:decide (l=[104,105,110,116])=false:=decide_eq_false hh
   have d4:decide (l=[99,104,101,99,107])=false:=decide_eq_false hc
   by_cases p1:l.length=6
   rotate_left
   · have p2:decide ((l.length:Int)=6)=false:=decide_eq_false (by omega)
     simp(maxSteps:=999999)(disch:=omega)only[go_sem,zA,zM,zS,zE,zL,p2,d2,d3,d4,b1,bs,hSet]
     exact finS _ Wg (hSk _) (by rw[eG,if_neg hp,if_neg hb]) (by rw[eT,if_neg hp,if_neg hb,if_neg hh,if_neg hc])
   have d1:decide ((l.length:Int)=6)=true:=decide_eq_true (by omega)
   simp(maxSteps:=999999)(disch:=omega)only[go_sem,zA,zM,zS,zE,zL,d1]
   first|refine JZ.rd (Wy l hl p1) (⟨_,Tryz.func45,rfl,rfl⟩:Ji Tryz.prog 45) rfl rfl rfl rfl ?_|refine JK.rd (Wy l hl p1) (⟨_,Tryz.func45,rfl,rfl⟩:Ji Tryz.prog 45) rfl rfl rfl rfl ?_
   simp(maxSteps:=999999)(disch:=omega)only[go_sem,zA,zM,zS,zE,zL]
   by_cases q2:l.take 4=[112,117,116,32]
   rotate_left
   · have p2:=decide_eq_false q2
     simp(maxSteps:=999999)(disch:=omega)only[go_sem,zA,zM,zS,zE,zL,p2,d2,d3,d4,b1,bs,hSet]
     exact finS _ Wg (hSk _) (by rw[eG,if_neg hp,if_neg hb]) (by rw[eT,if_neg hp,if_neg hb,if_neg hh,if_neg hc])
   have e2:=decide_eq_true q2
   by_cases p3:97≤Xy l 4
   rotate_left
   · have p2:=decide_eq_false p3
     simp(maxSteps:=999999)(disch:=omega)only[go_sem,zA,zM,zS,zE,zL,e2]
     simp(maxSteps:=999999)(disch:=omega)only[go_sem,zA,zM,zS,zE,zL,p2,d2,d3,d4,b1,bs,hSet]
     exact finS _ Wg (hSk _) (by rw[eG,if_neg hp,if_neg hb]) (by rw[eT,if_neg hp,if_neg hb,if_neg hh,if_neg hc])
   have e3:=decide_eq_true p3
   by_cases p4:Xy l 4≤122
   rotate_left
   · have p2:=decide_eq_false p4
     simp(maxSteps:=999999)(disch:=omega)only[go_sem,zA,zM,zS,zE,zL,e2,e3]
     simp(maxSteps:=999999)(disch:=omega)only[go_sem,zA,zM,zS,zE,zL,p2,d2,d3,d4,b1,bs,hSet]
     exact finS _ Wg (hSk _) (by rw[eG,if_neg hp,if_neg hb]) (by rw[eT,if_neg hp,if_neg hb,if_neg hh,if_neg hc])
   have e4:=decide_eq_true p4
   by_cases p5:48≤Xy l 5
   rotate_left
   · have p2:=decide_eq_false p5
     simp(maxSteps:=999999)(disch:=omega)only[go_sem,zA,zM,zS,zE,zL,e2,e3,e4]
     simp(maxSteps:=999999)(disch:=omega)only[go_sem,zA,zM,zS,zE,zL,p2,d2,d3,d4,b1,bs,hSet]
     exact finS _ Wg (hSk _) (by rw[eG,if_neg hp,if_neg hb]) (by rw[eT,if_neg hp,if_neg hb,if_neg hh,if_neg hc])
   have e5:=decide_eq_true p5
   have p6:¬Xy l 5≤57:=fun p6=>hp ⟨p1,q2,⟨p3,p4⟩,p5,p6⟩
   have p2:=decide_eq_false p6
   simp(maxSteps:=999999)(disch:=omega)only[go_sem,zA,zM,zS,zE,zL,e2,e3,e4,e5]
   simp(maxSteps:=999999)(disch:=omega)only[go_sem,zA,zM,zS,zE,zL,p2,d2,d3,d4,b1,bs,hSet]
   exact finS _ Wg (hSk _) (by rw[eG,if_neg hp,if_neg hb]) (by rw[eT,if_neg hp,if_neg hb,if_neg hh,if_neg hc])
end Go.Lg

namespace Go.Lg
open Go.Proofs
attribute [-go_sem] J9 Kx Jv
def N7(n:Nat)(xs:List Int):Prop:=∀k:Nat,k<xs.length→1≤JA xs k∧JA xs k≤n
theorem JaM(n:Nat):∀(m:Nat) (xs:List Int) (l:Nat),m≤xs.length→(∀k:Nat,k<xs.length -m→1≤JA xs k∧JA xs k≤n)→(VL n m xs l).1≠[]→N7 n (VL n m xs l).1
 |0,xs,l,hm,hv,hne=>by
  unfold VL at hne⊢
  split at hne
  · rename_i h
    rw[if_pos h]
    intro k hk
    exact hv k (by simpa using hk)
  · simp at hne
 |m+1,xs,l,hm,hv,hne=>by
  have key:∀(vs:List Nat),(∀v∈vs,1≤v∧v≤n)→∀l,(Wh n (VL n m) xs (xs.length -(m+1)) vs l).1≠[]→N7 n (Wh n (VL n m) xs (xs.length -(m+1)) vs l).1:=by
   intro vs
   induction vs with
   |nil=>intro _ l h;simp[Wh]at h
   |cons v vs ih=>
    intro hvs l h
    have hv1:=hvs v (by simp)
    have ih:=ih fun w hw=>hvs w (by simp[hw])
    rw[Wh]at h⊢
    split at h
    · rename_i hc
      rw[if_pos hc]
      exact ih l h
    · rename_i hc
      rw[if_neg hc]
      split at h
      · rename_i hs
        rw[if_pos hs]
        refine JaM n m _ l (by rw[Jo];omega) (fun k hk=> ?_) hs
        rw[Jo]at hk
        rw[Za _ _ _ _ (by omega)]
        split
        · omega
        · exact hv k (by omega)
      · rename_i hs
        rw[if_neg hs]
        exact ih _ h
  unfold VL at hne⊢
  exact key _ (fun v hv=>by
   obtain⟨w,hw,rfl⟩:=Qj.1 hv
   have:=List.mem_range.1 hw
   omega) l hne
section
variable{P:Program}{o:Oper}{st:St}{K:KV}{fo:Operand}{xs:Array Operand}{ts:Array TypeId}{f:FuncId}{args:List AV}
def Jlx(n k:Nat):KV:=fun v H=>∃xs id g,v= .c (.own id g 0 k none)∧look H id g=some ⟨g,1,cl (eI .i64) xs⟩∧xs.length=k∧N7 n xs
theorem JZ.mkLV{n k:Nat}(hc:Jn P f args [] (Jlx n k))(he:Ji P f)(ho:o.op= .call ⟨.value fo,xs,ts⟩)(ha:Qc st fo xs=some (f,args))(hf:args.all Q2=true)
 (hk:∀(xs:List Int) id g H',look (st.h++H') id g=some ⟨g,1,cl (eI .i64) xs⟩→xs.length=k→st.h.length≤id→N7 n xs→K (.c (.own id g 0 k none)) (st.h++H')):JZ P o st K:=
 JZ.mkQ hc he ho ha hf fun r H' ⟨xs,id,g,h1,h2,h3,h4⟩=>by
  subst h1
  refine⟨rfl,hk xs (id+st.h.length) g _ ?_ h3 (by omega) h4⟩
  rw[Up h2]
  simp only[ZJ,VZ]
end
theorem BX{n:Nat}(hn:n=2∨n=3∨n=4)(number:Nat)(hm:number<XJ n):Jn Tryz.prog 141 [int n,int number] [] (Jlx n (n*n)):=by
 have hn4:2≤n∧n≤4:=by omega
 have hm6:XJ n≤576:=by unfold XJ;split<;>(try split)<;>omega
 have hsq:4≤n*n∧n*n≤16:=by rcases hn with rfl|rfl|rfl<;>omega
 have hsi:(n:Int)*n=((n*n:Nat):Int):=by push_cast;rfl
 refine Jn.cw (c:=_) Tryz.func141 rfl (n:=27) Tryz.ntmps141 (rs:=[.tmp 4]) rfl ?_
 simp only[Je,Jf,zA,zS,Jd,Jb,Jc]
 simp(maxSteps:=999999)(disch:=omega)only[go_sem,zA,zM,zS,zE,zL]
 first|refine JZ.rd (Qz _ _ _) (⟨_,Tryz.func40,rfl,rfl⟩:Ji Tryz.prog 40) rfl rfl rfl rfl ?_|refine JK.rd (Qz _ _ _) (⟨_,Tryz.func40,rfl,rfl⟩:Ji Tryz.prog 40) rfl rfl rfl rfl ?_
 simp(maxSteps:=999999)(disch:=omega)only[go_sem,zA,zM,zS,zE,zL]
 ((with_reducible first|refine JJ ?_ ?_|refine JF ?_ ?_|refine JU ?_ ?_|refine Jw ?_ ?_|refine JH ?_ ?_|refine JI ?_ ?_|refine JD ?_ ?_|refine JE ?_ ?_|refine JS ?_ ?_|refine JT ?_ ?_|refine Jy ?_ ?_|refine Jz ?_ ?_)<;>intro h1<;>simp(maxSteps:=999999)(disch:=omega)only[go_sem,zA,zM,zS,zE,zL,h1])
 rotate_left
 · exfalso;omega
 ((first|(with_reducible first|refine Jl ?_ ?_|refine Jj ?_ ?_|refine Jp ?_ ?_)|refine Jr ?_ ?_)<;>intro h2)
 · exfalso;omega
 simp(maxSteps:=999999)(disch:=omega)only[go_sem,zA,zM,zS,zE,zL]
 intro g1
 simp(maxSteps:=999999)(disch:=omega)only[go_sem,zA,zM,zS,zE,zL,hsi]
 intro g2
 have hown:Qy [some ⟨g1,1,[.f (.int .i64 (number:Int))]⟩,some ⟨g2,1,cl (eI .i64) (Jd (n*n) 0)⟩] (.own 1 g2 0 (n*n) none) (Jd (n*n) 0) [1]:=by
  have:=Qy.o (H:=[some ⟨g1,1,[.f (.int .i64 (number:Int))]⟩,some ⟨g2,1,cl (eI .i64) (Jd (n*n) 0)⟩]) 1 g2 none (Jd (n*n) 0) [] (by rw[Ju];simp only[go_sem])
  rwa [QG]at this
 have hr:=BB hn (n*n) _ _ _ _ 0 g1 number (Nat.le_refl _) hown (by simp) (fun k _=>by rw[Xc];omega) US (by simp) (by omega)
 rw[Nat.sub_self]at hr
 refine JZ.run hr (⟨_,Tryz.func159,rfl,rfl⟩:Ji Tryz.prog 159) rfl rfl ?_
 rintro _ H2 ⟨c2,S2,rfl,o2,k2,n2,len2,f2⟩
 have hne0:Jd (n*n) (0:Int)≠[]:=by intro h0;have:=congrArg List.length h0;simp at this;omega
 obtain⟨hf,_⟩:=GP n (n*n) (Jd (n*n) 0) number hne0
 rw[Jji hn]at hf
 obtain⟨hfl,_⟩:=hf hm
 rw[QG]at hfl
 obtain⟨id,g,lim,ys,rfl,rfl,hlk⟩:=o2.inv' (by omega)
 simp(maxSteps:=999999)(disch:=omega)only[go_sem,zA,zM,zS,zE,zL]
 intro g3
 refine YQ (Qb UE rfl Kh) ⟨rfl,rfl,rfl⟩ (by omega) hlk ?_
 intro g4
 simp(maxSteps:=999999)(disch:=omega)only[go_sem,zA,zM,zS,zE,zL]
 rw[hfl]
 exact⟨_,J0.refl _,_,_,_,rfl,JC,hfl,JaM n (n*n) _ number (by simp) (fun k hk=>by simp at hk) (hf hm).2⟩
def Jh2(n:Nat)(H:Jm)(id g:Nat)(B:Int):KV:=fun v H'=>∃cid cg,v= .c (.own cid cg 0 (n*n) none)∧Yu H H' id g (B+2) cid cg (n*n)∧∃zs:List Int,look H' cid cg=some ⟨cg,1,cl (eI .i64) zs⟩∧zs.length=n*n∧N7 n zs
theorem Nu{n:Nat}(hn:n=2∨n=3∨n=4)(H:Jm)(id g:Nat)(B:Int)(hr:Zm H id g B)(hB:B≤2^39):Jn Tryz.prog 116 [.c (.ptr id g 0),int n] H (Jh2 n H id g B):=by
 have hlt:=hr.lt
 have hsq:4≤n*n∧n*n≤16:=by rcases hn with rfl|rfl|rfl<;>omega
 refine Jn.cw (c:=_) Tryz.func116 rfl (n:=21) Tryz.ntmps116 (rs:=[.tmp 4]) rfl ?_
 simp only[Je,Jf,zA,zS,Jd,Jb,Jc]
 simp(maxSteps:=999999)(disch:=omega)only[go_sem,zA,zM,zS,zE,zL]
 intro g1
 have hix:ldP (some ⟨g1,1,[.f (.int .i64 2), .f (.int .i64 12), .f (.int .i64 576)]⟩) (0+((n:Int) -2).toNat*1)=some (int (XJ n)):=by
  rcases hn with rfl|rfl|rfl<;>rfl
 simp(maxSteps:=999999)(disch:=omega)only[go_sem,zA,zM,zS,zE,zL,JC,hix]
 have hm:=show XJ n=2∨XJ n=12∨XJ n=576 by rcases hn with rfl|rfl|rfl<;>simp[XJ]
 refine JZ.run (QR _ id g B 256 hr.app (by omega)) (⟨_,Tryz.func68,rfl,rfl⟩:Ji Tryz.prog 68) rfl rfl ?_
 rintro _ H2 ⟨⟨y1,rfl,y10,y11⟩,r2,f2⟩
 simp(maxSteps:=999999)(disch:=omega)only[go_sem,zA,zM,zS,zE,zL]
 refine JZ.run (QR _ id g (B+1) 3 r2 (by omega)) (⟨_,Tryz.func68,rfl,rfl⟩:Ji Tryz.prog 68) rfl rfl ?_
 rintro _ H3 ⟨⟨y2,rfl,y20,y21⟩,r3,f3⟩
 have y11:=y11 (by omega)
 have y21:=y21 (by omega)
 simp(maxSteps:=999999)(disch:=omega)only[go_sem,zA,zM,zS,zE,zL]
 obtain⟨number,hnum,hnl⟩:∃number:Nat,(y1*3+y2).tmod (XJ n:Int)=number∧number<XJ n:=by
  rw[VW (by omega)]
  have h1:=Int.emod_nonneg (y1*3+y2) (show(XJ n:Int)≠0 by omega)
  have h2:=Int.emod_lt_of_pos (y1*3+y2) (show(0:Int)<(XJ n:Int) by omega)
  exact⟨((y1*3+y2)%(XJ n:Int)).toNat,by omega,by omega⟩
 rw[hnum]
 refine JZ.mkLV (BX hn number hnl) (⟨_,Tryz.func141,rfl,rfl⟩:Ji Tryz.prog 141) rfl rfl rfl ?_
 intro xs cid cg H4 hlk hl4 hc hvs
 have l3:H3.length=H.length+1:=by rw[f3.1,f2.1,Jk];rfl
 simp(maxSteps:=999999)(disch:=omega)only[go_sem,zA,zM,zS,zE,zL]
 refine⟨_,J0.refl _,cid,cg,rfl,⟨⟨xs,hlk,by omega⟩,(r3.app (X:=H4)).mono (by omega),hlt,by simp at hc;omega,by simp;omega,fun k hk hne=> ?_⟩,xs,hlk,hl4,hvs⟩
 rw[Ja (by omega),f3.2 k (by simp;exact hne),f2.2 k (by simp;exact hne),Ja hk]
end Go.Lg
