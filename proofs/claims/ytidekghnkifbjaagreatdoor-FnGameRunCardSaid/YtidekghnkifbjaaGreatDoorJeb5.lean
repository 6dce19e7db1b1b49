/- GpY, GpZ, GpBA, LgY, GpBB, cut to what is needed. -/
import Derived.Test.YtidekghnkifbjaaGreatDoorJeb4
import Derived.Test.YtidekghnkifbjaaGreatDoorJeb0
open List renaming getElem?_append_left → Ja, cons_append → Jb, nil_append → Jc, replicate → Jd, length_cons → Je, length_nil → Jf, getElem?_set_ne → Jg, length_append → Jk, length_set → Jo, length_singleton → JL, length_take → JP, getElem?_set_self → JX, mem_map → Qj, mem_cons → Qn, map_cons → Qr, take_append_drop → Q8, not_mem_nil → Zh, map_nil → ZV
open Nat renaming reduceAdd→zA,reduceMul→zM,reduceSub→zS,reduceEqDiff→zE,reduceLeDiff→zL
set_option linter.unusedSimpArgs false
set_option linter.unusedVariables false
set_option maxRecDepth 100000
namespace Go.Lg
open Go.Proofs
attribute [-go_sem] J9
def ZC:QZ:=⟨⟨0,[],[]⟩,[],[]⟩
def UR(q:QZ)(cell value:Int):Prop:=0≤cell∧cell<q.put.length∧JA (JN q) cell≤0∧1≤value∧value≤q.task.size
instance(q:QZ)(cell value:Int):Decidable (UR q cell value):=by unfold UR;infer_instance
def Zt(q:QZ)(cell value:Int):QZ:=if Qd q=true then(if UR q cell value then⟨q.task,q.put.set cell.toNat value,q.moves++[cell]⟩else q)else ZC
def Zp(q:QZ)(cell value:Int):Bool:=Qd q&&decide (UR q cell value)
theorem JdY(q:QZ)(cell value:Int)(hx:smG q):Jn Tryz.prog 46 [aG q,int cell,int value] [] (WE (YU (Zp q cell value)) (Zt q cell value)):=by
 refine Jn.nz ?_
 refine Jn.cw (c:=_) Tryz.func46 rfl (n:=56) Tryz.ntmps46 (rs:=[.cell 6 28, .tmp 7]) rfl ?_
 simp only[Je,Jf,zA,zS,Jd,Jb,Jc]
 simp(maxSteps:=999999)(disch:=omega)only[go_sem,zA,zM,zS,zE,zL]
 intro g1 g2
 first|refine JZ.rd (QU q hx) (⟨_,Tryz.func34,rfl,rfl⟩:Ji Tryz.prog 34) rfl rfl rfl rfl ?_|refine JK.rd (QU q hx) (⟨_,Tryz.func34,rfl,rfl⟩:Ji Tryz.prog 34) rfl rfl rfl rfl ?_
 simp(maxSteps:=999999)(disch:=omega)only[go_sem,zA,zM,zS,zE,zL]
 ((first|(with_reducible first|refine Jl ?_ ?_|refine Jj ?_ ?_|refine Jp ?_ ?_)|refine Jr ?_ ?_)<;>intro h)
 · simp(maxSteps:=999999)(disch:=omega)only[go_sem,zA,zM,zS,zE,zL]
   obtain⟨h1,h2,h3,h4,h5,h6⟩:=Zs h
   have hl:=WQ h
   refine JZ.mkGA (Ry q hx) (⟨_,Tryz.func44,rfl,rfl⟩:Ji Tryz.prog 44) rfl rfl rfl ?_
   rintro _ H1 _ ⟨⟨c1,c2,c3,c4,S1,S2,S3,S4,rfl,rfl,k1,k2,k3,k4⟩,kn⟩ hS
   simp(maxSteps:=999999)(disch:=omega)only[go_sem,zA,zM,zS,zE,zL]
   intro g3
   simp(maxSteps:=999999)(disch:=omega)only[go_sem,zA,zM,zS,zE,zL,JC,QM]
   simp only[Je,Jf,Jb,Jc]at k1 k2 k3 k4 hS
   have mv:∀{X1 X2 Y1 Y2:Option Zv} {Z:Jm},∀k,2≤k∧k<2+H1.length→(X1::Y1::(H1++Z))[k]? =(X2::Y2::H1)[k]? :=fun k hk=>by
    rw[QI hk.1,QI hk.1,Ja (by omega)]
   have m1:∀k∈S1,2≤k∧k<2+H1.length:=fun k hk=>by have:=hS k (by simp[hk]);omega
   have m2:∀k∈S2,2≤k∧k<2+H1.length:=fun k hk=>by have:=hS k (by simp[hk]);omega
   have m3:∀k∈S3,2≤k∧k<2+H1.length:=fun k hk=>by have:=hS k (by simp[hk]);omega
   have m4:∀k∈S4,2≤k∧k<2+H1.length:=fun k hk=>by have:=hS k (by simp[hk]);omega
   have no:¬UR q cell value→Zt q cell value=q∧Zp q cell value=false:=fun hn=>by simp[Zt,Zp,h,hn]
   have fin:∀{X1 Y1:Option Zv} {Z:Jm},¬UR q cell value→Uz (X1::Y1::(H1++Z)) (nzQ (WE (YU (Zp q cell value)) (Zt q cell value))) (.tup [.agg [.f (.int .i64 q.task.size),c1,c2,c3,c4], .c (.f (.bool false))]):=fun hn=>
    JbZ (no hn).1 (no hn).2 (k1.same fun k hk=>mv k (m1 k hk)) (k2.same fun k hk=>mv k (m2 k hk)) (k3.same fun k hk=>mv k (m3 k hk)) (k4.same fun k hk=>mv k (m4 k hk)) kn
   ((with_reducible first|refine JJ ?_ ?_|refine JF ?_ ?_|refine JU ?_ ?_|refine Jw ?_ ?_|refine JH ?_ ?_|refine JI ?_ ?_|refine JD ?_ ?_|refine JE ?_ ?_|refine JS ?_ ?_|refine JT ?_ ?_|refine Jy ?_ ?_|refine Jz ?_ ?_)<;>intro a1<;>simp(maxSteps:=999999)(disch:=omega)only[go_sem,zA,zM,zS,zE,zL,a1])
   · simp(maxSteps:=999999)(disch:=omega)only[go_sem,zA,zM,zS,zE,zL,JC]
     exact(fin fun hn=>by unfold UR at hn;omega)
   ((with_reducible first|refine JJ ?_ ?_|refine JF ?_ ?_|refine JU ?_ ?_|refine Jw ?_ ?_|refine JH ?_ ?_|refine JI ?_ ?_|refine JD ?_ ?_|refine JE ?_ ?_|refine JS ?_ ?_|refine JT ?_ ?_|refine Jy ?_ ?_|refine Jz ?_ ?_)<;>intro a2<;>simp(maxSteps:=999999)(disch:=omega)only[go_sem,zA,zM,zS,zE,zL,a2])
   · simp(maxSteps:=999999)(disch:=omega)only[go_sem,zA,zM,zS,zE,zL,JC]
     exact(fin fun hn=>by unfold UR at hn;omega)
   first|refine JZ.mk (JW.ownI (Wf q hx)) (⟨_,Tryz.func9,rfl,rfl⟩:Ji Tryz.prog 9) rfl rfl rfl rfl rfl ?_|refine JK.mk (JW.ownI (Wf q hx)) (⟨_,Tryz.func9,rfl,rfl⟩:Ji Tryz.prog 9) rfl rfl rfl rfl rfl ?_
   simp(maxSteps:=999999)(disch:=omega)only[go_sem,zA,zM,zS,zE,zL]
   obtain⟨i,rfl⟩:∃i:Nat,cell=i:=⟨cell.toNat,by omega⟩
   ((with_reducible first|refine JJ ?_ ?_|refine JF ?_ ?_|refine JU ?_ ?_|refine Jw ?_ ?_|refine JH ?_ ?_|refine JI ?_ ?_|refine JD ?_ ?_|refine JE ?_ ?_|refine JS ?_ ?_|refine JT ?_ ?_|refine Jy ?_ ?_|refine Jz ?_ ?_)<;>intro a3<;>simp(maxSteps:=999999)(disch:=omega)only[go_sem,zA,zM,zS,zE,zL,a3])
   · simp(maxSteps:=999999)(disch:=omega)only[go_sem,zA,zM,zS,zE,zL,JC]
     exact(fin fun hn=>by unfold UR at hn;omega)
   ((with_reducible first|refine JJ ?_ ?_|refine JF ?_ ?_|refine JU ?_ ?_|refine Jw ?_ ?_|refine JH ?_ ?_|refine JI ?_ ?_|refine JD ?_ ?_|refine JE ?_ ?_|refine JS ?_ ?_|refine JT ?_ ?_|refine Jy ?_ ?_|refine Jz ?_ ?_)<;>intro a4<;>simp(maxSteps:=999999)(disch:=omega)only[go_sem,zA,zM,zS,zE,zL,a4])
   · simp(maxSteps:=999999)(disch:=omega)only[go_sem,zA,zM,zS,zE,zL,JC]
     exact(fin fun hn=>by unfold UR at hn;omega)
   ((first|(with_reducible first|refine Jl ?_ ?_|refine Jj ?_ ?_|refine Jp ?_ ?_)|refine Jr ?_ ?_)<;>intro a5)
   · simp(maxSteps:=999999)(disch:=omega)only[go_sem,zA,zM,zS,zE,zL,JC]
     exact(fin fun hn=>by unfold UR at hn;omega)
   have ok:UR q i value:=⟨by omega,by omega,by omega,by omega,by omega⟩
   have r1:Zt q i value=⟨q.task,q.put.set i value,q.moves++[(i:Int)]⟩:=by simp[Zt,h,ok]
   have r2:Zp q i value=true:=by simp[Zp,h,ok]
   have hne:q.put≠[]:=by intro h0;rw[h0]at a2;simp at a2
   obtain⟨HA,hHA⟩:∃HA:Jm,HA=some ⟨g1,1,cG q⟩::some ⟨g2,5,[.f (.int .i64 0), .f .nil, .f .nil, .f .nil, .f .nil]⟩::(H1++[some ⟨g3,5,[.f (.int .i64 q.task.size),c1,c2,c3,c4]⟩]):=⟨_,rfl⟩
   have e1:=k1.same (H':=HA) fun k hk=>by rw[hHA];exact mv k (m1 k hk)
   have e2:=k2.same (H':=HA) fun k hk=>by rw[hHA];exact mv k (m2 k hk)
   have e3:=k3.same (H':=HA) fun k hk=>by rw[hHA];exact mv k (m3 k hk)
   have e4:=k4.same (H':=HA) fun k hk=>by rw[hHA];exact mv k (m4 k hk)
   have b1:look HA 1 g2=some ⟨g2,5,[.f (.int .i64 0), .f .nil, .f .nil, .f .nil, .f .nil]⟩:=by rw[hHA];simp only[go_sem]
   have b2:look HA (H1.length+1+1) g3=some ⟨g3,5,[.f (.int .i64 q.task.size),c1,c2,c3,c4]⟩:=by rw[hHA];simp only[go_sem];exact JC
   have hlA:HA.length=H1.length+3:=by rw[hHA];simp
   rw[←hHA]
   clear hHA
   obtain⟨id3,g4,lim3,ys,rfl,rfl,l3⟩:=e3.inv hne
   have hi3:=m3 id3 (by simp)
   have hil:i<q.put.length:=by omega
   have hil2:i<(q.put++ys).length:=by simp;omega
   simp(maxSteps:=999999)(disch:=omega)only[go_sem,zA,zM,zS,zE,zL,b2,l3]
   rw[Int.toNat_natCast,List.set_append_left _ _ hil]
   have hlt3:id3<HA.length:=by omega
   obtain⟨n1,n2,n3,n12⟩:=Ng kn
   obtain⟨HB,hHB⟩:∃HB:Jm,HB=HA.set id3 (some ⟨g4,1,cl (eI .i64) (q.put.set i value++ys)⟩):=⟨_,rfl⟩
   have hB:∀k,k≠id3→HB[k]? =HA[k]? :=fun k hk=>by rw[hHB,Jg (Ne.symm hk)]
   have hlB:HB.length=H1.length+3:=by rw[hHB,Jo,hlA]
   have f1:=e1.same (H':=HB) fun k hk=>hB k fun he=>(n1 k hk).1 (by simp[he])
   have f2:=e2.same (H':=HB) fun k hk=>hB k fun he=>(n2 k hk).1 (by simp[he])
   have f4:=e4.same (H':=HB) fun k hk=>hB k fun he=>n3 id3 (by simp) (he▸hk)
   have f3:Qy HB (.own id3 g4 0 q.put.length lim3) (q.put.set i value) [id3]:=by
    have:=Qy.o (H:=HB) id3 g4 lim3 (q.put.set i value) ys (by rw[hHB];exact J8 (b:=⟨g4,1,cl (eI .i64) (q.put.set i value++ys)⟩) (by rw[JX hlt3]))
    rwa [Jo]at this
   have b3:look HB 1 g2=some ⟨g2,5,[.f (.int .i64 0), .f .nil, .f .nil, .f .nil, .f .nil]⟩:=by unfold look;rw[hB 1 (by omega)];exact b1
   have b4:look HB (H1.length+1+1) g3=some ⟨g3,5,[.f (.int .i64 q.task.size),c1,c2, .own id3 g4 0 q.put.length lim3,c4]⟩:=by unfold look;rw[hB _ (by omega)];exact b2
   rw[←hHB]
   clear hHB e1 e2 e3 e4 b1 b2 l3
   simp(maxSteps:=999999)(disch:=omega)only[go_sem,zA,zM,zS,zE,zL,b4]
   intro g5
   have hlt8:H1.length+1+1<HB.length:=by omega
   refine JhB (Wk UE rfl Kh) ⟨rfl,rfl,rfl⟩ (f4.same fun k hk=>Ja (f4.lt k hk)) (by omega) JC ?_
   intro c5 HC S5 hA hC hS5 hlC
   rw[Jk,JL]at hlC hS5
   have hC':∀k,k<HB.length→k∉S4→HC[k]? =HB[k]? :=fun k hk hn=>by rw[hC k (by rw[Jk];omega) hn,Ja hk]
   have b5:look HC 1 g2=some ⟨g2,5,[.f (.int .i64 0), .f .nil, .f .nil, .f .nil, .f .nil]⟩:=by unfold look;rw[hC' 1 (by omega) fun hm=>by have:=m4 _ hm;omega];exact b3
   have b6:look HC (H1.length+1+1) g3=some ⟨g3,5,[.f (.int .i64 q.task.size),c1,c2, .own id3 g4 0 q.put.length lim3,c4]⟩:=by unfold look;rw[hC' _ hlt8 fun hm=>by have:=m4 _ hm;omega];exact b4
   simp(maxSteps:=999999)(disch:=omega)only[go_sem,zA,zM,zS,zE,zL,b6]
   rw[Q1 (by omega)]
   simp(maxSteps:=999999)(disch:=omega)only[go_sem,zA,zM,zS,zE,zL]
   rw[Zz (by omega),b5]
   simp(maxSteps:=999999)(disch:=omega)only[go_sem,zA,zM,zS,zE,zL]
   rw[Q1 (by rw[Jo];omega)]
   simp(maxSteps:=999999)(disch:=omega)only[go_sem,zA,zM,zS,zE,zL]
   have hD:∀{X Y:Option Zv},∀k,2≤k∧k<2+H1.length∨HB.length+1≤k→((HC.set (H1.length+1+1) X).set 1 Y)[k]? =HC[k]? :=fun k hk=>by
    rw[Jg (by omega),Jg (by omega)]
   have hD4:∀{X Y:Option Zv},∀k∈S5,((HC.set (H1.length+1+1) X).set 1 Y)[k]? =HC[k]? :=fun k hk=>hD k (by
    rcases hS5 k hk with h5|h5
    · exact .inl (m4 k h5)
    · exact .inr (by omega))
   have hD':∀{X Y:Option Zv},∀k,2≤k∧k<2+H1.length→k∉S4→((HC.set (H1.length+1+1) X).set 1 Y)[k]? =HB[k]? :=fun k hk hn=>by rw[hD k (.inl hk),hC' k (by omega) hn]
   refine JbZ (q:=⟨q.task,q.put.set i value,q.moves++[(i:Int)]⟩) r1 r2 (f1.same fun k hk=>hD' k (m1 k hk) (n1 k hk).2) (f2.same fun k hk=>hD' k (m2 k hk) (n2 k hk).2) (f3.same fun k hk=>hD' k (m3 k hk) (n3 k hk)) (hA.same hD4)
    (Jet (N:=HB.length+1) kn hA.nd hS5 (fun k hk=>by have:=m1 k hk;omega) (fun k hk=>by have:=m2 k hk;omega) (fun k hk=>by have:=m3 k hk;omega))
 · simp(maxSteps:=999999)(disch:=omega)only[go_sem,zA,zM,zS,zE,zL]
   refine Jdw ?_ ?_
   · simp[Zt,h,ZC]
   · simp[Zp,h]
end Go.Lg

namespace Go.Lg
open Go.Proofs
attribute [-go_sem] J9
def QD(q:QZ):QZ:=if Qd q=true then(if q.moves=[]then q else⟨q.task,q.put.set (JA q.moves ((q.moves.length:Int) -1)).toNat 0,q.moves.take (q.moves.length -1)⟩)else ZC
def QK(q:QZ):Bool:=Qd q&&decide (q.moves≠[])
theorem Ji8{H:Jm}{q q':QZ}{b b':Bool}{c1 c2 c3 c4:CV}{S1 S2 S3 S4:List Nat}(hq:q'=q)(hb:b'=b)(k1:Qy H c1 q.task.given S1)(k2:U8 H c2 q.task.rules S2)(k3:Qy H c3 q.put S3)(k4:Qy H c4 q.moves S4)
 (kn:(S1++(S2++(S3++S4))).Nodup):Uz H (nzQ (WE (YU b') q')) (.tup [.agg [.f (.int .i64 q.task.size),c1,c2,c3,c4], .c (.f (.bool b))]):=by
 subst hq hb
 refine⟨H,J0.refl _,[.f (.int .i64 q'.task.size),c1,c2,c3,c4],_, ?_,⟨⟨_,_,_,_,_,_,_,_,rfl,rfl,k1,k2,k3,k4⟩,kn⟩⟩
 simp only[nzA,nz1,YU,Qr,ZV,k1.nzc,k2.nzc,k3.nzc,k4.nzc]
 rfl
theorem WL.inv{H:Jm}{c:CV}{xs:List Int}{S:List Nat}(h:WL H c xs S)(hn:xs≠[]):∃id g,c= .own id g 0 xs.length none∧S=[id]∧look H id g=some ⟨g,1,cl (eI .i64) xs⟩:=by
 cases h with
 |n=>exact absurd rfl hn
 |o id g xs h=>exact⟨id,g,rfl,rfl,h⟩
theorem WL.inv0{H:Jm}{c:CV}{xs:List Int}{S:List Nat}(h:WL H c xs S)(hn:xs=[]):c= .f .nil∨∃id g,c= .own id g 0 0 none∧look H id g=some ⟨g,1,[]⟩:=by
 cases h with
 |n=>exact .inl rfl
 |o id g xs h=>subst hn;exact .inr ⟨id,g,rfl,h⟩
theorem Ja8{q:QZ}(h:Wq q)(hn:q.moves≠[]):0≤JA q.moves ((q.moves.length:Int) -1)∧JA q.moves ((q.moves.length:Int) -1)<q.put.length:=by
 have hp:0<q.moves.length:=List.length_pos_iff.2 hn
 have e:(q.moves.length:Int) -1=((q.moves.length -1:Nat):Int):=by omega
 have hm:=h.2.1 _ (ZP (xs:=q.moves) (i:=q.moves.length -1) (by omega))
 rw[e]
 have:=QB.1 hm
 omega
theorem JcC{P:Program}{H:Jm}{t e:TypeId}{ti ei:TI}{id g n:Nat}{b:Zv}(ht:JV P t=some ti)(hk:ti.k= .slice e)(he:JV P e=some ei)(hs:ei.size=1)(hl:look H id g=some b)(hb:b.sz=1)(hn:n≤b.cs.length):
 UI P H t (.c (.own id g 0 n none)) none (some n) (some n)=some (.c (.own id g 0 n (some n))):=by
 simp only[UI,ht,hk,he,hl,Option.getD_none,Option.getD_some,hb,hs]
 rw[if_pos ⟨by omega,by omega,by omega,fun _=>rfl,trivial,by omega,by omega⟩]
 simp
theorem FO{P:Program}{H:Jm}{t e:TypeId}{ti ei:TI}{id g n m:Nat}{b:Zv}(ht:JV P t=some ti)(hk:ti.k= .slice e)(he:JV P e=some ei)(hs:ei.size=1)(hl:look H id g=some b)(hb:b.sz=1)(hn:m≤b.cs.length):
 UI P H t (.c (.own id g 0 n none)) none (some m) none=some (.c (.own id g 0 m none)):=by
 simp only[UI,ht,hk,he,hl,Option.getD_none,Option.getD_some,hb,hs]
 rw[if_pos ⟨by omega,by omega,by omega,by simp,trivial,by omega,by omega⟩]
 simp
theorem Jj1(H:Jm)(id g n:Nat)(b:Zv)(hl:look H id g=some b)(hb:b.sz=1∧n≤b.cs.length∧n≤2^40):
 Jn Tryz.prog 91 [.c (.own id g 0 n none)] H (fun v H'=>v= .c (.own id g 0 n (some n))∧H'=H):=by
 obtain⟨b1,b2,b3⟩:=hb
 refine Jn.cw (c:=_) Tryz.func91 rfl (n:=9) Tryz.ntmps91 (rs:=[.tmp 2]) rfl ?_
 simp only[Je,Jf,zA,zS,Jd,Jb,Jc]
 simp(maxSteps:=999999)(disch:=omega)only[go_sem,zA,zM,zS,zE,zL,hl]
 rw[Int.toNat_natCast,JcC UE rfl Kh rfl hl b1 b2]
 simp(maxSteps:=999999)(disch:=omega)only[go_sem,zA,zM,zS,zE,zL]
 exact⟨_,J0.refl _,rfl,rfl⟩
theorem Jcl(q:QZ)(hx:smG q):Jn Tryz.prog 48 [aG q] [] (WE (YU (QK q)) (QD q)):=by
 refine Jn.nz ?_
 refine Jn.cw (c:=_) Tryz.func48 rfl (n:=34) Tryz.ntmps48 (rs:=[.cell 2 28, .tmp 3]) rfl ?_
 simp only[Je,Jf,zA,zS,Jd,Jb,Jc]
 simp(maxSteps:=999999)(disch:=omega)only[go_sem,zA,zM,zS,zE,zL]
 intro g1 g2
 first|refine JZ.rd (QU q hx) (⟨_,Tryz.func34,rfl,rfl⟩:Ji Tryz.prog 34) rfl rfl rfl rfl ?_|refine JK.rd (QU q hx) (⟨_,Tryz.func34,rfl,rfl⟩:Ji Tryz.prog 34) rfl rfl rfl rfl ?_
 simp(maxSteps:=999999)(disch:=omega)only[go_sem,zA,zM,zS,zE,zL]
 ((first|(with_reducible first|refine Jl ?_ ?_|refine Jj ?_ ?_|refine Jp ?_ ?_)|refine Jr ?_ ?_)<;>intro h)
 · simp(maxSteps:=999999)(disch:=omega)only[go_sem,zA,zM,zS,zE,zL]
   obtain⟨h1,h2,h3,h4,h5,h6⟩:=Zs h
   refine JZ.mkGA (Ry q hx) (⟨_,Tryz.func44,rfl,rfl⟩:Ji Tryz.prog 44) rfl rfl rfl ?_
   rintro _ H1 _ ⟨⟨c1,c2,c3,c4,S1,S2,S3,S4,rfl,rfl,k1,k2,k3,k4⟩,kn⟩ hS
   simp(maxSteps:=999999)(disch:=omega)only[go_sem,zA,zM,zS,zE,zL]
   intro g3
   simp(maxSteps:=999999)(disch:=omega)only[go_sem,zA,zM,zS,zE,zL,JC,QM]
   simp only[Je,Jf,Jb,Jc]at k1 k2 k3 k4 hS
   have mv:∀{X1 X2 Y1 Y2:Option Zv} {Z:Jm},∀k,2≤k∧k<2+H1.length→(X1::Y1::(H1++Z))[k]? =(X2::Y2::H1)[k]? :=fun k hk=>by
    rw[QI hk.1,QI hk.1,Ja (by omega)]
   have m1:∀k∈S1,2≤k∧k<2+H1.length:=fun k hk=>by have:=hS k (by simp[hk]);omega
   have m2:∀k∈S2,2≤k∧k<2+H1.length:=fun k hk=>by have:=hS k (by simp[hk]);omega
   have m3:∀k∈S3,2≤k∧k<2+H1.length:=fun k hk=>by have:=hS k (by simp[hk]);omega
   have m4:∀k∈S4,2≤k∧k<2+H1.length:=fun k hk=>by have:=hS k (by simp[hk]);omega
   obtain⟨HA,hHA⟩:∃HA:Jm,HA=some ⟨g1,1,cG q⟩::some ⟨g2,5,[.f (.int .i64 0), .f .nil, .f .nil, .f .nil, .f .nil]⟩::(H1++[some ⟨g3,5,[.f (.int .i64 q.task.size),c1,c2,c3,c4]⟩]):=⟨_,rfl⟩
   have e1:=k1.same (H':=HA) fun k hk=>by rw[hHA];exact mv k (m1 k hk)
   have e2:=k2.same (H':=HA) fun k hk=>by rw[hHA];exact mv k (m2 k hk)
   have e3:=k3.same (H':=HA) fun k hk=>by rw[hHA];exact mv k (m3 k hk)
   have e4:=k4.same (H':=HA) fun k hk=>by rw[hHA];exact mv k (m4 k hk)
   have b1:look HA 1 g2=some ⟨g2,5,[.f (.int .i64 0), .f .nil, .f .nil, .f .nil, .f .nil]⟩:=by rw[hHA];simp only[go_sem]
   have b2:look HA (H1.length+1+1) g3=some ⟨g3,5,[.f (.int .i64 q.task.size),c1,c2,c3,c4]⟩:=by rw[hHA];simp only[go_sem];exact JC
   have hlA:HA.length=H1.length+3:=by rw[hHA];simp
   rw[←hHA]
   clear hHA k1 k2 k3 k4
   obtain⟨n1,n2,n3,n12⟩:=Ng kn
   by_cases hm:q.moves=[]
   · have r1:QD q=q:=by simp[QD,h,hm]
     have r2:QK q=false:=by simp[QK,hm]
     have fin:∀{X:Option Zv},Uz (HA.set 1 X) (nzQ (WE (YU (QK q)) (QD q))) (.tup [.agg [.f (.int .i64 q.task.size),c1,c2,c3,c4], .c (.f (.bool false))]):=fun{X}=>
      have hX:∀k,2≤k∧k<2+H1.length→(HA.set 1 X)[k]? =HA[k]? :=fun k hk=>by rw[Jg (by omega)]
      JbZ r1 r2 (e1.same fun k hk=>hX k (m1 k hk)) (e2.same fun k hk=>hX k (m2 k hk)) (e3.same fun k hk=>hX k (m3 k hk)) (e4.same fun k hk=>hX k (m4 k hk)) kn
     rcases e4.inv0 hm with rfl|⟨id4,g4,rfl,l4⟩
     · simp(maxSteps:=999999)(disch:=omega)only[go_sem,zA,zM,zS,zE,zL,XZ,Y6,b2]
       rw[b1]
       simp(maxSteps:=999999)(disch:=omega)only[go_sem,zA,zM,zS,zE,zL]
       rw[Q1 (by omega)]
       simp(maxSteps:=999999)(disch:=omega)only[go_sem,zA,zM,zS,zE,zL]
       exact fin
     · simp(maxSteps:=999999)(disch:=omega)only[go_sem,zA,zM,zS,zE,zL,XZ,Y6,b2,l4]
       rw[b1]
       simp(maxSteps:=999999)(disch:=omega)only[go_sem,zA,zM,zS,zE,zL]
       rw[Q1 (by omega)]
       simp(maxSteps:=999999)(disch:=omega)only[go_sem,zA,zM,zS,zE,zL]
       exact fin
   obtain⟨hl0,hl1⟩:=Ja8 h4 hm
   obtain⟨mi,hmi⟩:∃mi:Nat,JA q.moves ((q.moves.length:Int) -1)=mi:=⟨(JA q.moves ((q.moves.length:Int) -1)).toNat,by omega⟩
   have r1:QD q=⟨q.task,q.put.set mi 0,q.moves.take (q.moves.length -1)⟩:=by simp[QD,h,hm,hmi]
   have r2:QK q=true:=by simp[QK,h,hm]
   have hne:q.put≠[]:=by intro h0;rw[h0]at hl1;simp at hl1;omega
   have hmp:0<q.moves.length:=List.length_pos_iff.2 hm
   obtain⟨id3,g4,lim3,ys,rfl,rfl,l3⟩:=e3.inv hne
   obtain⟨id4,g5,rfl,rfl,l4⟩:=e4.inv hm
   have hi3:=m3 id3 (by simp)
   have hi4:=m4 id4 (by simp)
   have hni:id3≠id4:=fun he=>n3 id3 (by simp) (by simp[he])
   have hml:mi<q.put.length:=by omega
   have hml2:mi<(q.put++ys).length:=by simp;omega
   have hix:∀zs:List Int,0<zs.length→((zs.length:Int) -1).toNat=zs.length -1:=fun zs hz=>by omega
   simp(maxSteps:=999999)(disch:=omega)only[go_sem,zA,zM,zS,zE,zL,XZ,Y6,b2,l4]
   refine Ui [0,1,2,3,4,5,6] [] none [7,8] [] Zd (by kernel_rfl) ?_
   simp(maxSteps:=999999)(disch:=omega)only[go_sem,Nat.reduceBEq,Bool.true_or,zA,zM,zS,zE,zL]
   simp(maxSteps:=999999)(disch:=omega)only[go_sem,zA,zM,zS,zE,zL,b2,l3,l4,hmi]
   rw[Int.toNat_natCast,List.set_append_left _ _ hml]
   have hlt3:id3<HA.length:=by omega
   obtain⟨HB,hHB⟩:∃HB:Jm,HB=HA.set id3 (some ⟨g4,1,cl (eI .i64) (q.put.set mi 0++ys)⟩):=⟨_,rfl⟩
   have hB:∀k,k≠id3→HB[k]? =HA[k]? :=fun k hk=>by rw[hHB,Jg (Ne.symm hk)]
   have hlB:HB.length=H1.length+3:=by rw[hHB,Jo,hlA]
   have f1:=e1.same (H':=HB) fun k hk=>hB k fun he=>(n1 k hk).1 (by simp[he])
   have f2:=e2.same (H':=HB) fun k hk=>hB k fun he=>(n2 k hk).1 (by simp[he])
   have l5:look HB id4 g5=some ⟨g5,1,cl (eI .i64) q.moves⟩:=by unfold look;rw[hB _ (Ne.symm hni)];exact l4
   have f3:Qy HB (.own id3 g4 0 q.put.length lim3) (q.put.set mi 0) [id3]:=by
    have:=Qy.o (H:=HB) id3 g4 lim3 (q.put.set mi 0) ys (by rw[hHB];exact J8 (b:=⟨g4,1,cl (eI .i64) (q.put.set mi 0++ys)⟩) (by rw[JX hlt3]))
    rwa [Jo]at this
   have f4:Qy HB (.own id4 g5 0 (q.moves.length -1) (some (q.moves.length -1))) (q.moves.take (q.moves.length -1)) [id4]:=by
    have:=Qy.o (H:=HB) id4 g5 (some (q.moves.length -1)) (q.moves.take (q.moves.length -1)) (q.moves.drop (q.moves.length -1)) (by rw[Q8];exact l5)
    rwa [JP,Nat.min_eq_left (by omega)]at this
   have b3:look HB 1 g2=some ⟨g2,5,[.f (.int .i64 0), .f .nil, .f .nil, .f .nil, .f .nil]⟩:=by unfold look;rw[hB 1 (by omega)];exact b1
   have b4:look HB (H1.length+1+1) g3=some ⟨g3,5,[.f (.int .i64 q.task.size),c1,c2, .own id3 g4 0 q.put.length lim3, .own id4 g5 0 q.moves.length none]⟩:=by unfold look;rw[hB _ (by omega)];exact b2
   rw[←hHB]
   clear hHB e1 e2 e3 e4 b1 b2 l3 l4
   simp(maxSteps:=999999)(disch:=omega)only[go_sem,zA,zM,zS,zE,zL,b4,l5]
   rw[hix _ hmp,FO UE rfl Kh rfl l5 rfl (by simp only[Qa];omega)]
   simp(maxSteps:=999999)(disch:=omega)only[go_sem,zA,zM,zS,zE,zL]
   refine JZ.run (Jj1 HB id4 g5 (q.moves.length -1) _ l5 ⟨rfl,by simp only[Qa];omega,by omega⟩) (⟨_,Tryz.func91,rfl,rfl⟩:Ji Tryz.prog 91) rfl rfl ?_
   rintro _ H9 ⟨rfl,h9⟩
   rw[h9]
   simp(maxSteps:=999999)(disch:=omega)only[go_sem,zA,zM,zS,zE,zL,b4]
   rw[Q1 (by omega)]
   simp(maxSteps:=999999)(disch:=omega)only[go_sem,zA,zM,zS,zE,zL]
   rw[Zz (by omega),b3]
   simp(maxSteps:=999999)(disch:=omega)only[go_sem,zA,zM,zS,zE,zL]
   rw[Q1 (by rw[Jo];omega)]
   simp(maxSteps:=999999)(disch:=omega)only[go_sem,zA,zM,zS,zE,zL]
   have hD:∀{X Y:Option Zv},∀k,2≤k∧k<2+H1.length→((HB.set (H1.length+1+1) X).set 1 Y)[k]? =HB[k]? :=fun k hk=>by
    rw[Jg (by omega),Jg (by omega)]
   refine Ji8 (q:=⟨q.task,q.put.set mi 0,q.moves.take (q.moves.length -1)⟩) r1 r2 (f1.same fun k hk=>hD k (m1 k hk)) (f2.same fun k hk=>hD k (m2 k hk)) (f3.same fun k hk=>hD k (m3 k hk)) (f4.same fun k hk=>hD k (m4 k hk)) kn
 · simp(maxSteps:=999999)(disch:=omega)only[go_sem,zA,zM,zS,zE,zL]
   refine Jdw ?_ ?_
   · simp[QD,h,ZC]
   · simp[QK,h]
end Go.Lg

namespace Go.Lg
open Go.Proofs
attribute [-go_sem] Jv J9
def Jje(q:QZ):KV:=fun v H=>∃c3 c4 S3 S4,v= .agg [.f (.int .i64 q.task.size), .f (J5 q.task.given), .f (Uu eR q.task.rules),c3,c4]∧Ub H c3 q.put S3∧Ub H c4 q.moves S4∧∀k∈S3,k∉S4
theorem ZA(q:QZ)(hx:smG q):Jn Tryz.prog 58 [aG q] [] (Jje q):=by
 refine Jn.cw (c:=_) Tryz.func58 rfl (n:=15) Tryz.ntmps58 (rs:=[.cell 2 28]) rfl ?_
 simp only[Je,Jf,zA,zS,Jd,Jb,Jc]
 simp(maxSteps:=999999)(disch:=omega)only[go_sem,zA,zM,zS,zE,zL]
 intro g1 g2
 refine Ui [0,1,3,4,5,7,8,9,2,6] [3,7,2] none [10,11,12] [] Zd (by kernel_rfl) ?_
 rw[Jv]
 simp(maxSteps:=999999)(disch:=omega)only[go_sem,zA,zM,zS,zE,zL]
 rw[Jv]
 simp(maxSteps:=999999)(disch:=omega)only[go_sem,zA,zM,zS,zE,zL]
 rw[Jv]
 simp(maxSteps:=999999)(disch:=omega)only[go_sem,zA,zM,zS,zE,zL]
 rw[Jv]
 simp(maxSteps:=999999)(disch:=omega)only[go_sem,zA,zM,zS,zE,zL]
 rw[Jv]
 simp(maxSteps:=999999)(disch:=omega)only[go_sem,zA,zM,zS,zE,zL]
 rw[Jv]
 simp(maxSteps:=999999)(disch:=omega)only[go_sem,zA,zM,zS,zE,zL]
 rw[Jv]
 simp(maxSteps:=999999)(disch:=omega)only[go_sem,zA,zM,zS,zE,zL]
 rw[Jv]
 simp(maxSteps:=999999)(disch:=omega)only[go_sem,zA,zM,zS,zE,zL]
 rw[Jv]
 simp(maxSteps:=999999)(disch:=omega)only[go_sem,zA,zM,zS,zE,zL]
 refine Xi (Y7 q.task hx.1) (⟨_,Tryz.func98,rfl,rfl⟩:Ji Tryz.prog 98) rfl rfl (by
  intro x hm
  simp only[Call.operands,List.mem_toArray,Array.mem_append,Qn,Zh,or_false]at hm
  rcases hm with rfl|rfl<;>rfl) rfl ⟨rfl,rfl,rfl,rfl⟩ ?_
 simp(maxSteps:=999999)(disch:=omega)only[go_sem,zA,zM,zS,zE,zL]
 rw[Jv]
 simp(maxSteps:=999999)(disch:=omega)only[go_sem,zA,zM,zS,zE,zL]
 refine Gf (Wk UE rfl Kh) ⟨rfl,rfl,rfl⟩ hx.2.1 ?_
 intro c3 H3 S3 k3 hS3
 simp(maxSteps:=999999)(disch:=omega)only[go_sem,zA,zM,zS,zE,zL]
 refine Gf (Wk UE rfl Kh) ⟨rfl,rfl,rfl⟩ hx.2.2 ?_
 intro c4 H4 S4 k4 hS4
 simp(maxSteps:=999999)(disch:=omega)only[go_sem,zA,zM,zS,zE,zL]
 simp only[Je,Jk,Jf]at hS3 hS4
 refine⟨_,J0.refl _,c3,c4,S3,S4,rfl,k3.same fun k hk=> ?_,k4.same fun k hk=> ?_,fun k hk hm=> ?_⟩
 · have:=hS3 k hk
   simp only[Jb,Jc]
   rw[QI (by omega),QI (by omega),Ja (by omega)]
 · have:=hS4 k hk
   simp only[Jb,Jc]
   rw[QI (by omega),QI (by omega)]
 · have:=hS3 k hk
   have:=hS4 k hm
   omega
end Go.Lg

namespace Go.Lg
def Jev(W:List Nat)(o:Oper):Nat:=o.after.toList.foldl (fun m e=>if Region.binds .any e=true then m|||2^e.on|||W.getD e.on 0 else m) 0
def fixB(ops:Array Oper)(W:List Nat):Bool:=(List.range ops.size).all fun i=>match ops[i]? with|some o=>W.getD i 0==Jev W o|none=>true
theorem Nn(W:List Nat)(j:Nat):∀(l:List Edge) (m:Nat),(l.foldl (fun m e=>if Region.binds .any e=true then m|||2^e.on|||W.getD e.on 0 else m) m).testBit j=
 (m.testBit j||l.any fun e=>Region.binds .any e&&(e.on==j||(W.getD e.on 0).testBit j))
 |[],m=>by simp
 |e::l,m=>by
  rw[List.foldl_cons,Nn W j l]
  simp only[List.any_cons]
  by_cases hb:Region.binds .any e=true
  · simp only[hb,if_true,Bool.true_and,Nat.testBit_or,Nat.testBit_two_pow]
    have:decide (e.on=j)=(e.on==j):=by by_cases h:e.on=j<;>simp[h]
    rw[this]
    cases m.testBit j<;>cases(e.on==j)<;>cases(W.getD e.on 0).testBit j<;>simp
  · simp only[hb,Bool.false_and,Bool.false_or]
    simp
theorem GC{ops:Array Oper}{W:List Nat}(hf:fixB ops W=true)(hb:∀i o,ops[i]? =some o→∀e∈o.after,Region.binds .any e=true→e.on<i):∀(f i j:Nat),i<f→i<ops.size→Zb ops f i j=(W.getD i 0).testBit j
 |0,_,_,h,_=>by omega
 |f+1,i,j,h,hi=>by
  have ho:ops[i]? =some ops[i]:=Array.getElem?_eq_getElem hi
  have hw:W.getD i 0=Jev W ops[i]:=by
   have:=List.all_eq_true.1 hf i (List.mem_range.2 hi)
   simp only[ho]at this
   simpa using this
  rw[hw,Jev,Nn]
  simp only[Zb,ho,Nat.zero_testBit,Bool.false_or]
  have e1:∀e∈ops[i].after,Region.binds .any e=true→Zb ops f e.on j=(W.getD e.on 0).testBit j:=fun e he hbe=>by
   have:=hb i _ ho e he hbe
   exact GC hf hb f e.on j (by omega) (by omega)
  rw[←Array.any_toList,←Array.any_toList]
  have hm:∀l:List Edge,(∀e∈l,e∈ops[i].after)→((l.any fun e=>Region.binds .any e&&e.on==j)||l.any fun e=>Region.binds .any e&&Zb ops f e.on j)=l.any fun e=>Region.binds .any e&&(e.on==j||(W.getD e.on 0).testBit j):=by
   intro l hl
   induction l with
   |nil=>rfl
   |cons e l ih=>
    have ih:=ih fun x hx=>hl x (by simp[hx])
    have:=e1 e (hl e (by simp))
    simp only[List.any_cons,←ih]
    by_cases hbe:Region.binds .any e=true
    · rw[this hbe]
      simp only[hbe,Bool.true_and]
      cases(e.on==j)<;>cases(W.getD e.on 0).testBit j<;>simp
    · simp only[hbe,Bool.false_and,Bool.false_or]
  exact hm _ fun e he=>by simpa using he
theorem YF{f g:Nat→Nat→Bool}:∀(l:List Nat),(∀i∈l,∀j∈l,f i j=g i j)→Wi.pairsB f l=Wi.pairsB g l
 |[],_=>rfl
 |i::r,h=>by
  simp only[Wi.pairsB]
  rw[YF r fun a ha b hb=>h a (by simp[ha]) b (by simp[hb])]
  congr 1
  rw[Bool.eq_iff_iff]
  simp only[List.all_eq_true]
  exact⟨fun k x hx=>by rw[←h i (by simp) x (by simp[hx])];exact k x hx,fun k x hx=>by rw[h i (by simp) x (by simp[hx])];exact k x hx⟩
def Jii(ops:Array Oper)(π:List Nat)(F:List Nat)(D:Option Nat)(σ:List Nat)(W:List Nat):Bool:=
 fixB ops W&&(((List.range ops.size).all fun i=>match ops[i]? with|some o=>o.after.all fun e=> !Region.binds .any e||decide (e.on<i)|none=>true)&&
 ((List.range ops.size).all fun i=>π.contains i||σ.contains i)&&(π++σ).all (fun i=>decide (i<ops.size))&&decide (π++σ).Nodup&&
 Wi.pairsB (fun i j=> !((W.getD i 0).testBit j)&&(!(U6 ops i j||U6 ops j i)||(W.getD j 0).testBit i)&&(YJ ops F D i||(W.getD j 0).testBit i)) π&&
 (match D with|some d=>(match ops[d]? with|some o=>o.guard.isNone&&(match o.op with| .alloc _=>true| .makeSlice .. =>true|_=>false)|none=>false)&&π.all (fun i=>decide (i=d)|| !U6 ops i d)|none=>true)&&
 σ.all (fun i=>π.all fun j=>(W.getD i 0).testBit j)&&Wi.pairsB (fun i j=>(W.getD j 0).testBit i) σ)
theorem Jij{ops:Array Oper}{π F:List Nat}{D:Option Nat}{σ W:List Nat}(h:Jii ops π F D σ W=true):Wi ops π F D σ=true:=by
 simp only[Jii,Bool.and_eq_true]at h
 obtain⟨hf,⟨⟨⟨⟨⟨⟨h1,h2⟩,h3⟩,h4⟩,h5⟩,h6⟩,h7⟩,h8⟩:=h
 have hb:∀i o,ops[i]? =some o→∀e∈o.after,Region.binds .any e=true→e.on<i:=fun i o ho e he hbe=>by
  have hi:i<ops.size:=(Array.getElem?_eq_some_iff.1 ho).1
  have:=List.all_eq_true.1 h1 i (List.mem_range.2 hi)
  simp only[ho]at this
  have:=Array.all_eq_true_iff_forall_mem.1 this e he
  simpa[hbe]using this
 have key:∀i j,i<ops.size→Zb ops ops.size i j=(W.getD i 0).testBit j:=fun i j hi=>GC hf hb _ i j hi hi
 have hlt:∀i∈π++σ,i<ops.size:=fun i hi=>by simpa using List.all_eq_true.1 h3 i hi
 have lp:∀i∈π,i<ops.size:=fun i hi=>hlt i (by simp[hi])
 have ls:∀i∈σ,i<ops.size:=fun i hi=>hlt i (by simp[hi])
 simp only[Wi,Bool.and_eq_true]
 refine⟨⟨⟨⟨⟨⟨⟨h1,h2⟩,h3⟩,h4⟩, ?_⟩,h6⟩, ?_⟩, ?_⟩
 · rw[YF π fun i hi j hj=>by rw[key i j (lp i hi),key j i (lp j hj)]];exact h5
 · rw[List.all_eq_true]at h7⊢
   intro i hi
   have:=h7 i hi
   rw[List.all_eq_true]at this⊢
   intro j hj
   rw[key i j (ls i hi)];exact this j hj
 · rw[YF σ fun i hi j hj=>by rw[key j i (ls j hj)]];exact h8
theorem Q3{P:Program}{ops:Array Oper}{s:List AV}{H:Jm}{K:KS}(π:List Nat)(F:List Nat)(D:Option Nat)(σ:List Nat)(m:List Bool)(W:List Nat)(hm:P.follows .mixedOrders=true)(hB:Jii ops π F D σ W=true)
 (h:Rq P ops m F D π none s H (swK P ops σ K)):KJ P ops s H K:=Ui π F D σ m hm (Jij hB) h
end Go.Lg

namespace Go.Lg
open Go.Proofs
attribute [-go_sem] J9
section
variable{P:Program}{o:Oper}{st:St}{K:KV}{fo:Operand}{xs:Array Operand}{ts:Array TypeId}{f:FuncId}{args args':List AV}
theorem JZ.mkC{q:QZ}(hc:Jn P f args [] (Jje q))(he:Ji P f)(ho:o.op= .call ⟨.value fo,xs,ts⟩)(ha:Qc st fo xs=some (f,args))(hf:args.all Q2=true)
 (hk:∀c3 c4 H' S3 S4,Ub (st.h++H') c3 q.put S3→Ub (st.h++H') c4 q.moves S4→(∀k∈S3,k∉S4)→(∀i∈S3,st.h.length≤i∧i<st.h.length+H'.length)→(∀i∈S4,st.h.length≤i∧i<st.h.length+H'.length)→
   K (.agg [.f (.int .i64 q.task.size), .f (J5 q.task.given), .f (Uu eR q.task.rules),c3,c4]) (st.h++H')):JZ P o st K:=
 JZ.mkQ hc he ho ha hf fun r H' ⟨c3,c4,S3,S4,h1,h3,h4,hd⟩=>by
  subst h1
  refine⟨rfl,hk _ _ _ _ _ h3.shift h4.shift (fun k hk hm=> ?_) (by rw[QQ];exact Ug h3.lt) (by rw[QQ];exact Ug h4.lt)⟩
  obtain⟨a,ha,rfl⟩:=Qj.1 hk
  obtain⟨b,hb,he⟩:=Qj.1 hm
  have:b=a:=by omega
  subst this
  exact hd b ha hb
end
theorem JbY{q:QZ}(h:Qd q=true){i:Nat}(hi:i<q.put.length):(JA (JN q) i≤0↔JA q.put i+JA q.task.given i≤0)∧0≤JA q.put i∧0≤JA q.task.given i∧JA q.put i≤4∧JA q.task.given i≤4:=by
 have hsz:=(QC (Zs h).2.1).2.1
 obtain⟨h1,h2,h3,h4,h5,h6⟩:=Zs h
 have hg:JN q=Yq q.task.given q.put:=by simp[JN,h]
 have hb1:=(QC h2).2.2.2.2 i hi
 have hb2:=(QC (UQ h1)).2.2.2.2 i (by omega)
 rw[hg,Xg (by omega)]
 omega
end Go.Lg
