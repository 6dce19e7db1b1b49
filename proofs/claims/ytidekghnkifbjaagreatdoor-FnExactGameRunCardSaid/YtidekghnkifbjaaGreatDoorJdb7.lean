/- GpZ, GpBA, LgY, GpBB, LgZ3, GpCA, GpCC, cut to what is needed. -/
import Derived.Test.YtidekghnkifbjaaGreatDoorJdb6
import Derived.Test.YtidekghnkifbjaaGreatDoorJdb5
import Derived.Test.YtidekghnkifbjaaGreatDoorJdb0
import Derived.Test.YtidekghnkifbjaaGreatDoorJdb4
import Derived.Test.YtidekghnkifbjaaGreatDoorJdb1
import Derived.KernelRfl
open List renaming length_cons → Ja, cons_append → Jb, getElem?_append_left → Jc, nil_append → Jd, length_nil → Je, replicate → Jf, getElem?_eq_some_iff → Jh, getElem?_set_ne → Ji, getElem?_eq_getElem → Jl, length_set → Jp, length_append → Jq, getElem?_take_of_lt → Jz, getElem?_set_self → JE, length_take → JX, drop_zero → J1, mapM_cons → J3, mem_map → Qg, map_cons → Qh, mem_cons → Qn, take_append_drop → QD, map_nil → ZJ, not_mem_nil → Ub
open Nat renaming reduceAdd→zA,reduceMul→zM,reduceSub→zS,reduceEqDiff→zE,reduceLeDiff→zL
set_option linter.unusedSimpArgs false
set_option linter.unusedVariables false
set_option maxRecDepth 100000
namespace Go.Lg
open Go.Proofs
attribute [-go_sem] Qf
def Qz(q:QU):QU:=if Qp q=true then(if q.moves=[]then q else⟨q.task,q.put.set (Jy q.moves ((q.moves.length:Int) -1)).toNat 0,q.moves.take (q.moves.length -1)⟩)else ZQ
def QX(q:QU):Bool:=Qp q&&decide (q.moves≠[])
theorem JiB{H:Jn}{q q':QU}{b b':Bool}{c1 c2 c3 c4:CV}{S1 S2 S3 S4:List Nat}(hq:q'=q)(hb:b'=b)(k1:Qr H c1 q.task.given S1)(k2:Ur H c2 q.task.rules S2)(k3:Qr H c3 q.put S3)(k4:Qr H c4 q.moves S4)
 (kn:(S1++(S2++(S3++S4))).Nodup):Uo H (nzQ (Wv (Yu b') q')) (.tup [.agg [.f (.int .i64 q.task.size),c1,c2,c3,c4], .c (.f (.bool b))]):=by
 subst hq hb
 refine⟨H,J5.refl _,[.f (.int .i64 q'.task.size),c1,c2,c3,c4],_, ?_,⟨⟨_,_,_,_,_,_,_,_,rfl,rfl,k1,k2,k3,k4⟩,kn⟩⟩
 simp only[nzA,nz1,Yu,Qh,ZJ,k1.nzc,k2.nzc,k3.nzc,k4.nzc]
 rfl
theorem Wz.inv{H:Jn}{c:CV}{xs:List Int}{S:List Nat}(h:Wz H c xs S)(hn:xs≠[]):∃id g,c= .own id g 0 xs.length none∧S=[id]∧look H id g=some ⟨g,1,cl (eI .i64) xs⟩:=by
 cases h with
 |n=>exact absurd rfl hn
 |o id g xs h=>exact⟨id,g,rfl,rfl,h⟩
theorem Wz.inv0{H:Jn}{c:CV}{xs:List Int}{S:List Nat}(h:Wz H c xs S)(hn:xs=[]):c= .f .nil∨∃id g,c= .own id g 0 0 none∧look H id g=some ⟨g,1,[]⟩:=by
 cases h with
 |n=>exact .inl rfl
 |o id g xs h=>subst hn;exact .inr ⟨id,g,rfl,h⟩
theorem JaG{q:QU}(h:Wg q)(hn:q.moves≠[]):0≤Jy q.moves ((q.moves.length:Int) -1)∧Jy q.moves ((q.moves.length:Int) -1)<q.put.length:=by
 have hp:0<q.moves.length:=List.length_pos_iff.2 hn
 have e:(q.moves.length:Int) -1=((q.moves.length -1:Nat):Int):=by omega
 have hm:=h.2.1 _ (Q8 (xs:=q.moves) (i:=q.moves.length -1) (by omega))
 rw[e]
 have:=Qs.1 hm
 omega
theorem Jb8{P:Program}{H:Jn}{t e:TypeId}{ti ei:TI}{id g n:Nat}{b:Zo}(ht:JP P t=some ti)(hk:ti.k= .slice e)(he:JP P e=some ei)(hs:ei.size=1)(hl:look H id g=some b)(hb:b.sz=1)(hn:n≤b.cs.length):
 Vy P H t (.c (.own id g 0 n none)) none (some n) (some n)=some (.c (.own id g 0 n (some n))):=by
 simp only[Vy,ht,hk,he,hl,Option.getD_none,Option.getD_some,hb,hs]
 rw[if_pos ⟨by omega,by omega,by omega,fun _=>rfl,trivial,by omega,by omega⟩]
 simp
theorem Fg{P:Program}{H:Jn}{t e:TypeId}{ti ei:TI}{id g n m:Nat}{b:Zo}(ht:JP P t=some ti)(hk:ti.k= .slice e)(he:JP P e=some ei)(hs:ei.size=1)(hl:look H id g=some b)(hb:b.sz=1)(hn:m≤b.cs.length):
 Vy P H t (.c (.own id g 0 n none)) none (some m) none=some (.c (.own id g 0 m none)):=by
 simp only[Vy,ht,hk,he,hl,Option.getD_none,Option.getD_some,hb,hs]
 rw[if_pos ⟨by omega,by omega,by omega,by simp,trivial,by omega,by omega⟩]
 simp
theorem Jjt(H:Jn)(id g n:Nat)(b:Zo)(hl:look H id g=some b)(hb:b.sz=1∧n≤b.cs.length∧n≤2^40):
 Jk Tryz.prog 91 [.c (.own id g 0 n none)] H (fun v H'=>v= .c (.own id g 0 n (some n))∧H'=H):=by
 obtain⟨b1,b2,b3⟩:=hb
 refine Jk.cw (c:=_) Tryz.func91 rfl (n:=9) Tryz.ntmps91 (rs:=[.tmp 2]) rfl ?_
 simp only[Ja,Je,zA,zS,Jf,Jb,Jd]
 simp(maxSteps:=999999)(disch:=omega)only[go_sem,zA,zM,zS,zE,zL,hl]
 rw[Int.toNat_natCast,Jb8 WG rfl ti3 rfl hl b1 b2]
 simp(maxSteps:=999999)(disch:=omega)only[go_sem,zA,zM,zS,zE,zL]
 exact⟨_,J5.refl _,rfl,rfl⟩
theorem JbS(q:QU)(hx:smG q):Jk Tryz.prog 48 [aG q] [] (Wv (Yu (QX q)) (Qz q)):=by
 refine Jk.nz ?_
 refine Jk.cw (c:=_) Tryz.func48 rfl (n:=34) Tryz.ntmps48 (rs:=[.cell 2 28, .tmp 3]) rfl ?_
 simp only[Ja,Je,zA,zS,Jf,Jb,Jd]
 simp(maxSteps:=999999)(disch:=omega)only[go_sem,zA,zM,zS,zE,zL]
 intro g1 g2
 first|refine JU.rd (Zg q hx) (⟨_,Tryz.func34,rfl,rfl⟩:Jg Tryz.prog 34) rfl rfl rfl rfl ?_|refine JG.rd (Zg q hx) (⟨_,Tryz.func34,rfl,rfl⟩:Jg Tryz.prog 34) rfl rfl rfl rfl ?_
 simp(maxSteps:=999999)(disch:=omega)only[go_sem,zA,zM,zS,zE,zL]
 ((first|(with_reducible first|refine Jm ?_ ?_|refine Jj ?_ ?_|refine Jo ?_ ?_)|refine Jr ?_ ?_)<;>intro h)
 · simp(maxSteps:=999999)(disch:=omega)only[go_sem,zA,zM,zS,zE,zL]
   obtain⟨h1,h2,h3,h4,h5,h6⟩:=Zf h
   refine JU.mkGA (KZ q hx) (⟨_,Tryz.func44,rfl,rfl⟩:Jg Tryz.prog 44) rfl rfl rfl ?_
   rintro _ H1 _ ⟨⟨c1,c2,c3,c4,S1,S2,S3,S4,rfl,rfl,k1,k2,k3,k4⟩,kn⟩ hS
   simp(maxSteps:=999999)(disch:=omega)only[go_sem,zA,zM,zS,zE,zL]
   intro g3
   simp(maxSteps:=999999)(disch:=omega)only[go_sem,zA,zM,zS,zE,zL,JF,Qy]
   simp only[Ja,Je,Jb,Jd]at k1 k2 k3 k4 hS
   have mv:∀{X1 X2 Y1 Y2:Option Zo} {Z:Jn},∀k,2≤k∧k<2+H1.length→(X1::Y1::(H1++Z))[k]? =(X2::Y2::H1)[k]? :=fun k hk=>by
    rw[QC hk.1,QC hk.1,Jc (by omega)]
   have m1:∀k∈S1,2≤k∧k<2+H1.length:=fun k hk=>by have:=hS k (by simp[hk]);omega
   have m2:∀k∈S2,2≤k∧k<2+H1.length:=fun k hk=>by have:=hS k (by simp[hk]);omega
   have m3:∀k∈S3,2≤k∧k<2+H1.length:=fun k hk=>by have:=hS k (by simp[hk]);omega
   have m4:∀k∈S4,2≤k∧k<2+H1.length:=fun k hk=>by have:=hS k (by simp[hk]);omega
   obtain⟨HA,hHA⟩:∃HA:Jn,HA=some ⟨g1,1,cG q⟩::some ⟨g2,5,[.f (.int .i64 0), .f .nil, .f .nil, .f .nil, .f .nil]⟩::(H1++[some ⟨g3,5,[.f (.int .i64 q.task.size),c1,c2,c3,c4]⟩]):=⟨_,rfl⟩
   have e1:=k1.same (H':=HA) fun k hk=>by rw[hHA];exact mv k (m1 k hk)
   have e2:=k2.same (H':=HA) fun k hk=>by rw[hHA];exact mv k (m2 k hk)
   have e3:=k3.same (H':=HA) fun k hk=>by rw[hHA];exact mv k (m3 k hk)
   have e4:=k4.same (H':=HA) fun k hk=>by rw[hHA];exact mv k (m4 k hk)
   have b1:look HA 1 g2=some ⟨g2,5,[.f (.int .i64 0), .f .nil, .f .nil, .f .nil, .f .nil]⟩:=by rw[hHA];simp only[go_sem]
   have b2:look HA (H1.length+1+1) g3=some ⟨g3,5,[.f (.int .i64 q.task.size),c1,c2,c3,c4]⟩:=by rw[hHA];simp only[go_sem];exact JF
   have hlA:HA.length=H1.length+3:=by rw[hHA];simp
   rw[←hHA]
   clear hHA k1 k2 k3 k4
   obtain⟨n1,n2,n3,n12⟩:=GE kn
   by_cases hm:q.moves=[]
   · have r1:Qz q=q:=by simp[Qz,h,hm]
     have r2:QX q=false:=by simp[QX,hm]
     have fin:∀{X:Option Zo},Uo (HA.set 1 X) (nzQ (Wv (Yu (QX q)) (Qz q))) (.tup [.agg [.f (.int .i64 q.task.size),c1,c2,c3,c4], .c (.f (.bool false))]):=fun{X}=>
      have hX:∀k,2≤k∧k<2+H1.length→(HA.set 1 X)[k]? =HA[k]? :=fun k hk=>by rw[Ji (by omega)]
      Jby r1 r2 (e1.same fun k hk=>hX k (m1 k hk)) (e2.same fun k hk=>hX k (m2 k hk)) (e3.same fun k hk=>hX k (m3 k hk)) (e4.same fun k hk=>hX k (m4 k hk)) kn
     rcases e4.inv0 hm with rfl|⟨id4,g4,rfl,l4⟩
     · simp(maxSteps:=999999)(disch:=omega)only[go_sem,zA,zM,zS,zE,zL,Z6,U7,b2]
       rw[b1]
       simp(maxSteps:=999999)(disch:=omega)only[go_sem,zA,zM,zS,zE,zL]
       rw[QP (by omega)]
       simp(maxSteps:=999999)(disch:=omega)only[go_sem,zA,zM,zS,zE,zL]
       exact fin
     · simp(maxSteps:=999999)(disch:=omega)only[go_sem,zA,zM,zS,zE,zL,Z6,U7,b2,l4]
       rw[b1]
       simp(maxSteps:=999999)(disch:=omega)only[go_sem,zA,zM,zS,zE,zL]
       rw[QP (by omega)]
       simp(maxSteps:=999999)(disch:=omega)only[go_sem,zA,zM,zS,zE,zL]
       exact fin
   obtain⟨hl0,hl1⟩:=JaG h4 hm
   obtain⟨mi,hmi⟩:∃mi:Nat,Jy q.moves ((q.moves.length:Int) -1)=mi:=⟨(Jy q.moves ((q.moves.length:Int) -1)).toNat,by omega⟩
   have r1:Qz q=⟨q.task,q.put.set mi 0,q.moves.take (q.moves.length -1)⟩:=by simp[Qz,h,hm,hmi]
   have r2:QX q=true:=by simp[QX,h,hm]
   have hne:q.put≠[]:=by intro h0;rw[h0]at hl1;simp at hl1;omega
   have hmp:0<q.moves.length:=List.length_pos_iff.2 hm
   obtain⟨id3,g4,lim3,ys,rfl,rfl,l3⟩:=e3.inv hne
   obtain⟨id4,g5,rfl,rfl,l4⟩:=e4.inv hm
   have hi3:=m3 id3 (by simp)
   have hi4:=m4 id4 (by simp)
   have hni:id3≠id4:=fun he=>n3 id3 (by simp) (by simp[he])
   have hml:mi<q.put.length:=by omega
   have hml2:mi<(q.put++ys).length:=by simp;omega
   have hix:∀zs:List Int,0<zs.length→((zs.length:Int) -1).toNat=zs.length -1:=fun zs hz=>by omega
   simp(maxSteps:=999999)(disch:=omega)only[go_sem,zA,zM,zS,zE,zL,Z6,U7,b2,l4]
   refine Ug [0,1,2,3,4,5,6] [] none [7,8] [] ZE (by kernel_rfl) ?_
   simp(maxSteps:=999999)(disch:=omega)only[go_sem,Nat.reduceBEq,Bool.true_or,zA,zM,zS,zE,zL]
   simp(maxSteps:=999999)(disch:=omega)only[go_sem,zA,zM,zS,zE,zL,b2,l3,l4,hmi]
   rw[Int.toNat_natCast,List.set_append_left _ _ hml]
   have hlt3:id3<HA.length:=by omega
   obtain⟨HB,hHB⟩:∃HB:Jn,HB=HA.set id3 (some ⟨g4,1,cl (eI .i64) (q.put.set mi 0++ys)⟩):=⟨_,rfl⟩
   have hB:∀k,k≠id3→HB[k]? =HA[k]? :=fun k hk=>by rw[hHB,Ji (Ne.symm hk)]
   have hlB:HB.length=H1.length+3:=by rw[hHB,Jp,hlA]
   have f1:=e1.same (H':=HB) fun k hk=>hB k fun he=>(n1 k hk).1 (by simp[he])
   have f2:=e2.same (H':=HB) fun k hk=>hB k fun he=>(n2 k hk).1 (by simp[he])
   have l5:look HB id4 g5=some ⟨g5,1,cl (eI .i64) q.moves⟩:=by unfold look;rw[hB _ (Ne.symm hni)];exact l4
   have f3:Qr HB (.own id3 g4 0 q.put.length lim3) (q.put.set mi 0) [id3]:=by
    have:=Qr.o (H:=HB) id3 g4 lim3 (q.put.set mi 0) ys (by rw[hHB];exact Qj (b:=⟨g4,1,cl (eI .i64) (q.put.set mi 0++ys)⟩) (by rw[JE hlt3]))
    rwa [Jp]at this
   have f4:Qr HB (.own id4 g5 0 (q.moves.length -1) (some (q.moves.length -1))) (q.moves.take (q.moves.length -1)) [id4]:=by
    have:=Qr.o (H:=HB) id4 g5 (some (q.moves.length -1)) (q.moves.take (q.moves.length -1)) (q.moves.drop (q.moves.length -1)) (by rw[QD];exact l5)
    rwa [JX,Nat.min_eq_left (by omega)]at this
   have b3:look HB 1 g2=some ⟨g2,5,[.f (.int .i64 0), .f .nil, .f .nil, .f .nil, .f .nil]⟩:=by unfold look;rw[hB 1 (by omega)];exact b1
   have b4:look HB (H1.length+1+1) g3=some ⟨g3,5,[.f (.int .i64 q.task.size),c1,c2, .own id3 g4 0 q.put.length lim3, .own id4 g5 0 q.moves.length none]⟩:=by unfold look;rw[hB _ (by omega)];exact b2
   rw[←hHB]
   clear hHB e1 e2 e3 e4 b1 b2 l3 l4
   simp(maxSteps:=999999)(disch:=omega)only[go_sem,zA,zM,zS,zE,zL,b4,l5]
   rw[hix _ hmp,Fg WG rfl ti3 rfl l5 rfl (by simp only[Qu];omega)]
   simp(maxSteps:=999999)(disch:=omega)only[go_sem,zA,zM,zS,zE,zL]
   refine JU.run (Jjt HB id4 g5 (q.moves.length -1) _ l5 ⟨rfl,by simp only[Qu];omega,by omega⟩) (⟨_,Tryz.func91,rfl,rfl⟩:Jg Tryz.prog 91) rfl rfl ?_
   rintro _ H9 ⟨rfl,h9⟩
   rw[h9]
   simp(maxSteps:=999999)(disch:=omega)only[go_sem,zA,zM,zS,zE,zL,b4]
   rw[QP (by omega)]
   simp(maxSteps:=999999)(disch:=omega)only[go_sem,zA,zM,zS,zE,zL]
   rw[ZC (by omega),b3]
   simp(maxSteps:=999999)(disch:=omega)only[go_sem,zA,zM,zS,zE,zL]
   rw[QP (by rw[Jp];omega)]
   simp(maxSteps:=999999)(disch:=omega)only[go_sem,zA,zM,zS,zE,zL]
   have hD:∀{X Y:Option Zo},∀k,2≤k∧k<2+H1.length→((HB.set (H1.length+1+1) X).set 1 Y)[k]? =HB[k]? :=fun k hk=>by
    rw[Ji (by omega),Ji (by omega)]
   refine JiB (q:=⟨q.task,q.put.set mi 0,q.moves.take (q.moves.length -1)⟩) r1 r2 (f1.same fun k hk=>hD k (m1 k hk)) (f2.same fun k hk=>hD k (m2 k hk)) (f3.same fun k hk=>hD k (m3 k hk)) (f4.same fun k hk=>hD k (m4 k hk)) kn
 · simp(maxSteps:=999999)(disch:=omega)only[go_sem,zA,zM,zS,zE,zL]
   refine JcX ?_ ?_
   · simp[Qz,h,ZQ]
   · simp[QX,h]
end Go.Lg

namespace Go.Lg
open Go.Proofs
attribute [-go_sem] J0 Qf
def JiI(q:QU):KV:=fun v H=>∃c3 c4 S3 S4,v= .agg [.f (.int .i64 q.task.size), .f (Ql q.task.given), .f (VN eR q.task.rules),c3,c4]∧Ua H c3 q.put S3∧Ua H c4 q.moves S4∧∀k∈S3,k∉S4
theorem Zm(q:QU)(hx:smG q):Jk Tryz.prog 58 [aG q] [] (JiI q):=by
 refine Jk.cw (c:=_) Tryz.func58 rfl (n:=15) Tryz.ntmps58 (rs:=[.cell 2 28]) rfl ?_
 simp only[Ja,Je,zA,zS,Jf,Jb,Jd]
 simp(maxSteps:=999999)(disch:=omega)only[go_sem,zA,zM,zS,zE,zL]
 intro g1 g2
 refine Ug [0,1,3,4,5,7,8,9,2,6] [3,7,2] none [10,11,12] [] ZE (by kernel_rfl) ?_
 rw[J0]
 simp(maxSteps:=999999)(disch:=omega)only[go_sem,zA,zM,zS,zE,zL]
 rw[J0]
 simp(maxSteps:=999999)(disch:=omega)only[go_sem,zA,zM,zS,zE,zL]
 rw[J0]
 simp(maxSteps:=999999)(disch:=omega)only[go_sem,zA,zM,zS,zE,zL]
 rw[J0]
 simp(maxSteps:=999999)(disch:=omega)only[go_sem,zA,zM,zS,zE,zL]
 rw[J0]
 simp(maxSteps:=999999)(disch:=omega)only[go_sem,zA,zM,zS,zE,zL]
 rw[J0]
 simp(maxSteps:=999999)(disch:=omega)only[go_sem,zA,zM,zS,zE,zL]
 rw[J0]
 simp(maxSteps:=999999)(disch:=omega)only[go_sem,zA,zM,zS,zE,zL]
 rw[J0]
 simp(maxSteps:=999999)(disch:=omega)only[go_sem,zA,zM,zS,zE,zL]
 rw[J0]
 simp(maxSteps:=999999)(disch:=omega)only[go_sem,zA,zM,zS,zE,zL]
 refine JdE (FN q.task hx.1) (⟨_,Tryz.func98,rfl,rfl⟩:Jg Tryz.prog 98) rfl rfl (by
  intro x hm
  simp only[Call.operands,List.mem_toArray,Array.mem_append,Qn,Ub,or_false]at hm
  rcases hm with rfl|rfl<;>rfl) rfl ⟨rfl,rfl,rfl,rfl⟩ ?_
 simp(maxSteps:=999999)(disch:=omega)only[go_sem,zA,zM,zS,zE,zL]
 rw[J0]
 simp(maxSteps:=999999)(disch:=omega)only[go_sem,zA,zM,zS,zE,zL]
 refine FD (Wa WG rfl ti3) ⟨rfl,rfl,rfl⟩ hx.2.1 ?_
 intro c3 H3 S3 k3 hS3
 simp(maxSteps:=999999)(disch:=omega)only[go_sem,zA,zM,zS,zE,zL]
 refine FD (Wa WG rfl ti3) ⟨rfl,rfl,rfl⟩ hx.2.2 ?_
 intro c4 H4 S4 k4 hS4
 simp(maxSteps:=999999)(disch:=omega)only[go_sem,zA,zM,zS,zE,zL]
 simp only[Ja,Jq,Je]at hS3 hS4
 refine⟨_,J5.refl _,c3,c4,S3,S4,rfl,k3.same fun k hk=> ?_,k4.same fun k hk=> ?_,fun k hk hm=> ?_⟩
 · have:=hS3 k hk
   simp only[Jb,Jd]
   rw[QC (by omega),QC (by omega),Jc (by omega)]
 · have:=hS4 k hk
   simp only[Jb,Jd]
   rw[QC (by omega),QC (by omega)]
 · have:=hS3 k hk
   have:=hS4 k hm
   omega
end Go.Lg

namespace Go.Lg
def JdZ(W:List Nat)(o:Oper):Nat:=o.after.toList.foldl (fun m e=>if Region.binds .any e=true then m|||2^e.on|||W.getD e.on 0 else m) 0
def fixB(ops:Array Oper)(W:List Nat):Bool:=(List.range ops.size).all fun i=>match ops[i]? with|some o=>W.getD i 0==JdZ W o|none=>true
theorem GN(W:List Nat)(j:Nat):∀(l:List Edge) (m:Nat),(l.foldl (fun m e=>if Region.binds .any e=true then m|||2^e.on|||W.getD e.on 0 else m) m).testBit j=
 (m.testBit j||l.any fun e=>Region.binds .any e&&(e.on==j||(W.getD e.on 0).testBit j))
 |[],m=>by simp
 |e::l,m=>by
  rw[List.foldl_cons,GN W j l]
  simp only[List.any_cons]
  by_cases hb:Region.binds .any e=true
  · simp only[hb,if_true,Bool.true_and,Nat.testBit_or,Nat.testBit_two_pow]
    have:decide (e.on=j)=(e.on==j):=by by_cases h:e.on=j<;>simp[h]
    rw[this]
    cases m.testBit j<;>cases(e.on==j)<;>cases(W.getD e.on 0).testBit j<;>simp
  · simp only[hb,Bool.false_and,Bool.false_or]
    simp
theorem F4{ops:Array Oper}{W:List Nat}(hf:fixB ops W=true)(hb:∀i o,ops[i]? =some o→∀e∈o.after,Region.binds .any e=true→e.on<i):∀(f i j:Nat),i<f→i<ops.size→QY ops f i j=(W.getD i 0).testBit j
 |0,_,_,h,_=>by omega
 |f+1,i,j,h,hi=>by
  have ho:ops[i]? =some ops[i]:=Array.getElem?_eq_getElem hi
  have hw:W.getD i 0=JdZ W ops[i]:=by
   have:=List.all_eq_true.1 hf i (List.mem_range.2 hi)
   simp only[ho]at this
   simpa using this
  rw[hw,JdZ,GN]
  simp only[QY,ho,Nat.zero_testBit,Bool.false_or]
  have e1:∀e∈ops[i].after,Region.binds .any e=true→QY ops f e.on j=(W.getD e.on 0).testBit j:=fun e he hbe=>by
   have:=hb i _ ho e he hbe
   exact F4 hf hb f e.on j (by omega) (by omega)
  rw[←Array.any_toList,←Array.any_toList]
  have hm:∀l:List Edge,(∀e∈l,e∈ops[i].after)→((l.any fun e=>Region.binds .any e&&e.on==j)||l.any fun e=>Region.binds .any e&&QY ops f e.on j)=l.any fun e=>Region.binds .any e&&(e.on==j||(W.getD e.on 0).testBit j):=by
   intro l hl
   induction l with
   |nil=>rfl
   |cons e l ih=>
    have ih:=ih fun x hx=>hl x (by simp[hx])
    have:=e1 e (hl e (by simp))
    simp only[List.any_cons,←ih]
    by_cases hbe:Region.binds .any e=true
    · rw[this hbe]
      simp only[hbe,Bool.true_and]
      cases(e.on==j)<;>cases(W.getD e.on 0).testBit j<;>simp
    · simp only[hbe,Bool.false_and,Bool.false_or]
  exact hm _ fun e he=>by simpa using he
theorem Yi{f g:Nat→Nat→Bool}:∀(l:List Nat),(∀i∈l,∀j∈l,f i j=g i j)→V7.pairsB f l=V7.pairsB g l
 |[],_=>rfl
 |i::r,h=>by
  simp only[V7.pairsB]
  rw[Yi r fun a ha b hb=>h a (by simp[ha]) b (by simp[hb])]
  congr 1
  rw[Bool.eq_iff_iff]
  simp only[List.all_eq_true]
  exact⟨fun k x hx=>by rw[←h i (by simp) x (by simp[hx])];exact k x hx,fun k x hx=>by rw[h i (by simp) x (by simp[hx])];exact k x hx⟩
def JhO(ops:Array Oper)(π:List Nat)(F:List Nat)(D:Option Nat)(σ:List Nat)(W:List Nat):Bool:=
 fixB ops W&&(((List.range ops.size).all fun i=>match ops[i]? with|some o=>o.after.all fun e=> !Region.binds .any e||decide (e.on<i)|none=>true)&&
 ((List.range ops.size).all fun i=>π.contains i||σ.contains i)&&(π++σ).all (fun i=>decide (i<ops.size))&&decide (π++σ).Nodup&&
 V7.pairsB (fun i j=> !((W.getD i 0).testBit j)&&(!(UP ops i j||UP ops j i)||(W.getD j 0).testBit i)&&(Ym ops F D i||(W.getD j 0).testBit i)) π&&
 (match D with|some d=>(match ops[d]? with|some o=>o.guard.isNone&&(match o.op with| .alloc _=>true| .makeSlice .. =>true|_=>false)|none=>false)&&π.all (fun i=>decide (i=d)|| !UP ops i d)|none=>true)&&
 σ.all (fun i=>π.all fun j=>(W.getD i 0).testBit j)&&V7.pairsB (fun i j=>(W.getD j 0).testBit i) σ)
theorem JhP{ops:Array Oper}{π F:List Nat}{D:Option Nat}{σ W:List Nat}(h:JhO ops π F D σ W=true):V7 ops π F D σ=true:=by
 simp only[JhO,Bool.and_eq_true]at h
 obtain⟨hf,⟨⟨⟨⟨⟨⟨h1,h2⟩,h3⟩,h4⟩,h5⟩,h6⟩,h7⟩,h8⟩:=h
 have hb:∀i o,ops[i]? =some o→∀e∈o.after,Region.binds .any e=true→e.on<i:=fun i o ho e he hbe=>by
  have hi:i<ops.size:=(Array.getElem?_eq_some_iff.1 ho).1
  have:=List.all_eq_true.1 h1 i (List.mem_range.2 hi)
  simp only[ho]at this
  have:=Array.all_eq_true_iff_forall_mem.1 this e he
  simpa[hbe]using this
 have key:∀i j,i<ops.size→QY ops ops.size i j=(W.getD i 0).testBit j:=fun i j hi=>F4 hf hb _ i j hi hi
 have hlt:∀i∈π++σ,i<ops.size:=fun i hi=>by simpa using List.all_eq_true.1 h3 i hi
 have lp:∀i∈π,i<ops.size:=fun i hi=>hlt i (by simp[hi])
 have ls:∀i∈σ,i<ops.size:=fun i hi=>hlt i (by simp[hi])
 simp only[V7,Bool.and_eq_true]
 refine⟨⟨⟨⟨⟨⟨⟨h1,h2⟩,h3⟩,h4⟩, ?_⟩,h6⟩, ?_⟩, ?_⟩
 · rw[Yi π fun i hi j hj=>by rw[key i j (lp i hi),key j i (lp j hj)]];exact h5
 · rw[List.all_eq_true]at h7⊢
   intro i hi
   have:=h7 i hi
   rw[List.all_eq_true]at this⊢
   intro j hj
   rw[key i j (ls i hi)];exact this j hj
 · rw[Yi σ fun i hi j hj=>by rw[key j i (ls j hj)]];exact h8
theorem Z5{P:Program}{ops:Array Oper}{s:List AV}{H:Jn}{K:KS}(π:List Nat)(F:List Nat)(D:Option Nat)(σ:List Nat)(m:List Bool)(W:List Nat)(hm:P.follows .mixedOrders=true)(hB:JhO ops π F D σ W=true)
 (h:KO P ops m F D π none s H (swK P ops σ K)):Kf P ops s H K:=Ug π F D σ m hm (JhP hB) h
end Go.Lg

namespace Go.Lg
open Go.Proofs
attribute [-go_sem] Qf
section
variable{P:Program}{o:Oper}{st:St}{K:KV}{fo:Operand}{xs:Array Operand}{ts:Array TypeId}{f:FuncId}{args args':List AV}
theorem JU.mkC{q:QU}(hc:Jk P f args [] (JiI q))(he:Jg P f)(ho:o.op= .call ⟨.value fo,xs,ts⟩)(ha:Qb st fo xs=some (f,args))(hf:args.all Q2=true)
 (hk:∀c3 c4 H' S3 S4,Ua (st.h++H') c3 q.put S3→Ua (st.h++H') c4 q.moves S4→(∀k∈S3,k∉S4)→(∀i∈S3,st.h.length≤i∧i<st.h.length+H'.length)→(∀i∈S4,st.h.length≤i∧i<st.h.length+H'.length)→
   K (.agg [.f (.int .i64 q.task.size), .f (Ql q.task.given), .f (VN eR q.task.rules),c3,c4]) (st.h++H')):JU P o st K:=
 JU.mkQ hc he ho ha hf fun r H' ⟨c3,c4,S3,S4,h1,h3,h4,hd⟩=>by
  subst h1
  refine⟨rfl,hk _ _ _ _ _ h3.shift h4.shift (fun k hk hm=> ?_) (by rw[QI];exact ZX h3.lt) (by rw[QI];exact ZX h4.lt)⟩
  obtain⟨a,ha,rfl⟩:=Qg.1 hk
  obtain⟨b,hb,he⟩:=Qg.1 hm
  have:b=a:=by omega
  subst this
  exact hd b ha hb
end
theorem Jbx{q:QU}(h:Qp q=true){i:Nat}(hi:i<q.put.length):(Jy (JY q) i≤0↔Jy q.put i+Jy q.task.given i≤0)∧0≤Jy q.put i∧0≤Jy q.task.given i∧Jy q.put i≤4∧Jy q.task.given i≤4:=by
 have hsz:=(Qv (Zf h).2.1).2.1
 obtain⟨h1,h2,h3,h4,h5,h6⟩:=Zf h
 have hg:JY q=Kl q.task.given q.put:=by simp[JY,h]
 have hb1:=(Qv h2).2.2.2.2 i hi
 have hb2:=(Qv (UA h1)).2.2.2.2 i (by omega)
 rw[hg,Ky (by omega)]
 omega
end Go.Lg

namespace Go.Lg
mutual
def nzF:FV→FV
 | .nil=> .sl 0 []
 | .sl n cs=> .sl n (nzL cs)
 | .int k n=> .int k n
 | .bool b=> .bool b
 | .str s=> .str s
def nzL:List FV→List FV
 |[]=>[]
 |x::l=>nzF x::nzL l
end
theorem JeY:∀l:List FV,nzL l=l.map nzF
 |[]=>rfl
 |x::l=>by rw[nzL,JeY l];rfl
theorem GC(n:Nat)(cs:List FV):nzF (.sl n cs)= .sl n (cs.map nzF):=by rw[nzF,JeY]
theorem Jax{w:World}{I:Nat→Prop}{x:FV}{v:Value}(h:VF w I x v):VF w I (nzF x) v:=by
 induction h with
 |int k n=>exact .int k n
 |bool b=>exact .bool b
 |str s=>exact .str s
 |nil=>exact .sl0 none 0
 |sl0 a cap=>rw[GC];exact .sl0 a cap
 |sl n cs b o cap u hc hI hu hv ih=>
  rw[GC]
  refine .sl n _ b o cap u hc hI (fun j hj=>hu j (by simpa using hj)) fun j hj=> ?_
  rw[List.getElem_map]
  exact ih j (by simpa using hj)
def frzS(S:Nat→Bool)(H:Jn):Nat→CV→Option FV
 |_, .f x=>some (nzF x)
 |_, .emp=>some (.sl 0 [])
 |n+1, .own id g off k _=>if S id then match look H id g with
  |some b=>(((b.cs.drop off).take (k*b.sz)).mapM (frzS S H n)).map (.sl k)
  |none=>none else none
 |_,_=>none
def Cx.iceS(X:Cx)(S:Nat→Bool)(H:Jn):Cx:={X with I:=fun b=>X.I b∨∃(id:Nat) (blk:Zo),S id=true∧H[id]? =some (some blk)∧X.mu blk.g=b}
def Jjo(S:Nat→Bool)(H:Jn)(c c':CV):Prop:=c'=c∨∃y,frzS S H 6 c=some y∧c'= .f y
def FS(S:Nat→Bool)(H H':Jn):Prop:=∀(id:Nat) (b':Zo),H'[id]? =some (some b')→S id=false∧∃b,H[id]? =some (some b)∧b'.g=b.g∧b'.sz=b.sz∧b'.cs.length=b.cs.length∧∀j (h:j<b.cs.length),∃c',b'.cs[j]? =some c'∧Jjo S H b.cs[j] c'
inductive Jg6(S:Nat→Bool)(H:Jn):AV→AV→Prop where
 |c (x y:CV) (h:Jjo S H x y):Jg6 S H (.c x) (.c y)
 |agg (xs ys:List CV) (hl:ys.length=xs.length) (h:∀j (h:j<xs.length),∃y,ys[j]? =some y∧Jjo S H xs[j] y):Jg6 S H (.agg xs) (.agg ys)
 |s (x:AV):Jg6 S H x x
inductive JeG(S:Nat→Bool)(H:Jn):AV→AV→Prop where
 |o (x y:AV) (h:Jg6 S H x y):JeG S H x y
 |tup (xs ys:List AV) (hl:ys.length=xs.length) (h:∀j (h:j<xs.length),∃y,ys[j]? =some y∧Jg6 S H xs[j] y):JeG S H (.tup xs) (.tup ys)
section
variable{w:World}{X:Cx}{S:Nat→Bool}{H H':Jn}
theorem Bc(hh:FS S H H'):Ev w X H w (X.iceS S H) H':=
 ⟨fun b hb=>⟨.inl hb,rfl⟩,Nat.le_refl _,fun _ _=>⟨rfl,rfl⟩,Nat.le_refl _,rfl,rfl,rfl,
  fun id g b' _ h=>by
   obtain⟨h1,h2⟩:=JH h
   obtain⟨_,b,k1,k2,k3,k4,_⟩:=hh id b' h1
   have hg:b.g=g:=by rw[←k2];exact h2
   refine⟨b, ?_,k4.symm,k3.symm⟩
   subst hg
   exact Qj k1,
  fun _ _ _=>rfl,
  fun b ⟨id,blk,h1,h2⟩=>by
   obtain⟨_,b0,k1,k2,_⟩:=hh id blk h1
   exact .inl ⟨id,b0,k1,by rw[←k2];exact h2⟩,
  fun b hb=>hb.elim .inl fun⟨id,blk,_,h1,h2⟩=> .inr (.inl ⟨id,blk,h1,h2⟩)⟩
theorem Jec(R:ZA w X H):∀(n:Nat) (x:CV) (y:FV) (v:Value),frzS S H n x=some y→VC w X H x v→VF w (X.iceS S H).I y v:=by
 intro n
 induction n with
 |zero=>
  intro x y v h hv
  cases x with
  |f x=>simp only[frzS,Option.some.injEq]at h;subst h;exact Jax (VF.wide (fun b hb=> .inl hb) hv)
  |emp=>simp only[frzS,Option.some.injEq]at h;subst h;obtain⟨a,rfl⟩:=hv;exact .sl0 _ _
  |_=>simp[frzS]at h
 |succ n ih=>
  intro x y v h hv
  cases x with
  |f x=>simp only[frzS,Option.some.injEq]at h;subst h;exact Jax (VF.wide (fun b hb=> .inl hb) hv)
  |emp=>simp only[frzS,Option.some.injEq]at h;subst h;obtain⟨a,rfl⟩:=hv;exact .sl0 _ _
  |own id g off k lim=>
   simp only[frzS]at h
   split at h
   rotate_left
   · cases h
   rename_i hS
   split at h
   · rename_i b hl
     cases hf:((b.cs.drop off).take (k*b.sz)).mapM (frzS S H n)with
     |none=>simp[hf]at h
     |some xs=>
      simp[hf]at h
      subst h
      obtain⟨hl1,hl2⟩:=Z4 hf
      obtain⟨hgt,_,hall⟩:=hv
      obtain⟨c1,a0,cap,rfl,c2,c3,c4,c5⟩:=hall b hl
      obtain⟨hid,hgg⟩:=JH hl
      subst hgg
      obtain⟨_,_,cc,t,g3,g4,g5,g6⟩:=R.blk id b hid
      have hlen:xs.length=k*b.sz:=by rw[hl1];simp;omega
      have hI:(X.iceS S H).I (X.mu b.g):= .inr ⟨id,b,hS,hid,rfl⟩
      by_cases h0:k*b.sz=0
      · have hx0:xs=[]:=List.eq_nil_of_length_eq_zero (by omega)
        subst hx0
        by_cases hn:k=0
        · subst hn;exact VF.sl0 _ _
        · by_cases hcap:cap=0
          · omega
          · have:=c3 hcap
            subst this
            exact VF.sl k [] (X.mu b.g) off cap (fun _=>undef) c2 hI (fun j hj=>absurd hj (by simp)) (fun j hj=>absurd hj (by simp))
      · have hn:k≠0:=fun h=>h0 (by rw[h];simp)
        have:=c3 (by omega)
        subst this
        have hget:∀j,j<xs.length→∃u,cc[off+j]? =some u∧∀h:j<xs.length,VF w (X.iceS S H).I xs[j] u:=fun j hj=>by
         obtain⟨u,h7,h8⟩:=g6 (off+j) (by omega)
         refine⟨u,h7,fun hj=> ?_⟩
         obtain⟨y,e1,e2⟩:=hl2 j (by rw[←hl1];exact hj)
         have e3:xs[j]=y:=by simpa[Jl hj]using e1
         rw[e3]
         refine ih _ _ _ e2 ?_
         simp only[List.getElem_take,List.getElem_drop]
         exact h8
        refine VF.sl k xs (X.mu b.g) off cap (fun j=>cc.getD (off+j) undef) c2 hI (fun j hj=> ?_) (fun j hj=> ?_)
        · obtain⟨u,h7,h8⟩:=hget j hj
          simp[World.cell?,g3,Array.getD_eq_getD_getElem?,h7]
        · obtain⟨u,h7,h8⟩:=hget j hj
          simp only[Array.getD_eq_getD_getElem?,h7,Option.getD_some]
          exact h8 hj
   · cases h
  |_=>simp[frzS]at h
theorem Rm(R:ZA w X H)(hh:FS S H H'){x y:CV}{v:Value}(h:Jjo S H x y)(hv:VC w X H x v):VC w (X.iceS S H) H' y v:=by
 rcases h with rfl|⟨z,h1,rfl⟩
 · exact hv.mono (Bc hh)
 · exact Jec R 6 x z v h1 hv
theorem G1(R:ZA w X H)(hh:FS S H H'):ZA w (X.iceS S H) H':=
 ⟨fun b hb=>hb.elim (R.imm b) fun⟨id,blk,_,h1,h2⟩=>by
   obtain⟨_,_,cc,t,h3,_⟩:=R.blk id blk h1
   rw[←h2]
   exact(Array.getElem?_eq_some_iff.1 h3).1,
  fun id b' hb=>by
   obtain⟨k0,b,k1,k2,k3,k4,k5⟩:=hh id b' hb
   obtain⟨h1,h2,cc,t,h3,h4,h5,h6⟩:=R.blk id b k1
   rw[k2]
   refine⟨h1,fun hI=>hI.elim h2 fun⟨id2,b2,e1,e2,e3⟩=> ?_,cc,t,h3,h4,by rw[k4];exact h5,fun j hj=> ?_⟩
   · have:=R.inj id2 id b2 b e2 k1 e3
     rw[this,k0]at e1
     cases e1
   · rw[k4]at hj
     obtain⟨u,u1,u2⟩:=h6 j hj
     obtain⟨c',e1,e2⟩:=k5 j hj
     refine⟨u,u1, ?_⟩
     have e3:b'.cs[j]=c':=by
      have:=Jh.1 e1
      exact this.2
     rw[e3]
     exact Rm R hh e2 u2,
  fun id id' b b' h1 h2 he=>by
   obtain⟨_,a,k1,k2,_⟩:=hh id b h1
   obtain⟨_,a',k1',k2',_⟩:=hh id' b' h2
   exact R.inj id id' a a' k1 k1' (by rw[←k2,←k2'];exact he),R.tab.mono fun b hb=>⟨.inl hb,rfl⟩⟩
theorem G3(R:ZA w X H)(hh:FS S H H'){x y:AV}{v:Value}(h:Jg6 S H x y)(hv:VA w X H x v):VA w (X.iceS S H) H' y v:=by
 cases h with
 |c x y h=>exact .c _ _ (Rm R hh h (Ui hv))
 |agg xs ys hl h=>
  cases hv with
  |agg cs vs hsz hc=>
   refine .agg _ _ (by omega) fun j hj=> ?_
   obtain⟨y,h3,h4⟩:=h j (by omega)
   obtain⟨u,h5,h6⟩:=hc j (by omega)
   have:ys[j]=y:=by simpa[Jl hj]using h3
   rw[this]
   exact⟨u,h5,Rm R hh h4 h6⟩
 |s x=>exact hv.mono (Bc hh)
theorem Yn(R:ZA w X H)(hh:FS S H H'){x y:AV}{v:Value}(h:JeG S H x y)(hv:VA w X H x v):VA w (X.iceS S H) H' y v:=by
 cases h with
 |o x y h=>exact G3 R hh h hv
 |tup xs ys hl h=>
  cases hv with
  |tup vs us hus=>
   rw[←hl]
   refine .tup ys us fun j hj=> ?_
   obtain⟨y,h3,h4⟩:=h j (by omega)
   have:ys[j]=y:=by simpa[Jl hj]using h3
   rw[this]
   exact G3 R hh h4 (hus j (by omega))
end
theorem Jk.iceS{P:Program}{f:FuncId}{args:List AV}{H:Jn}{Q Q':KV}(h:Jk P f args H Q')(hq:∀v H',Q' v H'→∃S H'' v',FS S H' H''∧JeG S H' v v'∧Q v' H''):Jk P f args H Q:=
 fun w X vs hH hvs=>(h w X vs hH hvs).mono fun _ w' ⟨v,u,X',H',h1,h2,h3,h4,h5⟩=>by
  obtain⟨S,H'',v',k1,k2,k3⟩:=hq v H' h5
  exact⟨v',u,X'.iceS S H',H'',h1,Yn h3 k1 k2 h2,G1 h3 k1,h4.trans (Bc k1),k3⟩
theorem QN.ice{P:Program}{c:Code}{s:List AV}{H H':Jn}{Q:Exit→St→Prop}(S:Nat→Bool)(hh:FS S H H')(h:QN P c ⟨s,H'⟩ Q):QN P c ⟨s,H⟩ Q:=by
 intro w X a R
 have R':Xk w (X.iceS S H) a ⟨s,H'⟩:=by
  refine⟨R.defs,R.size,fun i hi=> ?_,G1 R.heap hh⟩
  obtain⟨u,h1,h2⟩:=R.slot i hi
  exact⟨u,h1,Yn R.heap hh (.o _ _ (.s _)) h2⟩
 exact wp_mono (h w _ a R') fun e a' w' ⟨X',st',h1,h2,h3⟩=>⟨X',st',h1,(Bc hh).trans h2,h3⟩
theorem JgH{P:Program}{ops:Array Oper}{s:List AV}{H H':Jn}{K:KS}(S:Nat→Bool)(hh:FS S H H')(h:Kf P ops s H' K):Kf P ops s H K:=
 Jfo h.1 fun _=>QN.ice S hh (Fv (Q:=nrm K) h)
def YP(n:Nat):Nat→Bool:=fun i=>decide (n≤i)
def Fz(S:Nat→Bool)(H:Jn)(n:Nat)(c:CV)(x:FV):Prop:=∀H':Jn,(∀i,S i=true→i<H.length→H'[i]? =H[i]?)→∀m,n≤m→frzS S H' m c=some x
theorem Fz.frz{S:Nat→Bool}{H:Jn}{n:Nat}{c:CV}{x:FV}(h:Fz S H n c x){m:Nat}(hm:n≤m):frzS S H m c=some x:=h H (fun _ _ _=>rfl) m hm
theorem Fz.f{S:Nat→Bool}{H:Jn}{x:FV}(n:Nat):Fz S H n (.f x) (nzF x):=fun H' _ m _=>by cases m<;>rfl
theorem Fz.emp{S:Nat→Bool}{H:Jn}(n:Nat):Fz S H n .emp (.sl 0 []):=fun H' _ m _=>by cases m<;>rfl
theorem Fz.mono{S:Nat→Bool}{H H1:Jn}{n:Nat}{c:CV}{x:FV}(h:Fz S H n c x)(hs:∀i,S i=true→i<H.length→H1[i]? =H[i]?)(hl:H.length≤H1.length):Fz S H1 n c x:=
 fun H' k m hm=>h H' (fun i hi hil=>(k i hi (Nat.lt_of_lt_of_le hil hl)).trans (hs i hi hil)) m hm
theorem Fz.own{S:Nat→Bool}{H:Jn}{n:Nat}{id g k:Nat}{b:Zo}{xs:List FV}{lim:Option Nat}(hS:S id=true)(hl:look H id g=some b)(hlen:xs.length=k*b.sz)(hle:k*b.sz≤b.cs.length)
 (hc:∀j (h:j<xs.length),∃c,b.cs[j]? =some c∧Fz S H n c xs[j]):Fz S H (n+1) (.own id g 0 k lim) (.sl k xs):=fun H' hh m hm=>by
 obtain⟨m,rfl⟩:∃m',m=m'+1:=⟨m -1,by omega⟩
 have hlt:id<H.length:=(Jh.1 (JH hl).1).1
 have hl':look H' id g=some b:=by unfold look at*;rw[hh id hS hlt];exact hl
 simp only[frzS,hS,if_true,hl',J1]
 have:∀(cs:List CV) (ys:List FV),cs.length=ys.length→(∀j (h:j<ys.length),∃c,cs[j]? =some c∧frzS S H' m c=some ys[j])→cs.mapM (frzS S H' m)=some ys:=by
  intro cs
  induction cs with
  |nil=>intro ys h _;have:ys=[]:=List.eq_nil_of_length_eq_zero h.symm;subst this;rfl
  |cons c cs ih=>
   intro ys h hall
   cases ys with
   |nil=>simp at h
   |cons y ys=>
    obtain⟨c0,h0,h1⟩:=hall 0 (by simp)
    have:c=c0:=by simpa using h0
    subst this
    rw[J3,h1,ih ys (by simpa using h) fun j hj=>by
     obtain⟨c',q1,q2⟩:=hall (j+1) (by simpa using hj)
     exact⟨c',by simpa using q1,by simpa using q2⟩]
    rfl
 rw[this _ xs (by rw[JX];omega) fun j hj=> ?_]
 · rfl
 · obtain⟨c,h1,h2⟩:=hc j hj
   exact⟨c,by rw[Jz (by omega)];exact h1,h2 H' hh m (by omega)⟩
def JcV:Nat→Code→Code
 |n+1, .seq x y=> .seq x (JcV n y)
 |_,_=> .skip
def Jb2:Nat→Code→Code
 |n+1, .seq _ y=>Jb2 n y
 |_,c=>c
theorem G7(c:Code):JcV 0 c= .skip:=by cases c<;>rfl
theorem Jgj(n:Nat)(x y:Code):JcV (n+1) (.seq x y)= .seq x (JcV n y):=rfl
theorem Gb(c:Code):Jb2 0 c=c:=by cases c<;>rfl
theorem JfH(n:Nat)(x y:Code):Jb2 (n+1) (.seq x y)=Jb2 n y:=rfl
def Jkh(R:KS)(K:KT):KT:=fun e s H=>match e with
 | .normal=>R s H
 |e=>K e s H
theorem JcF(R:KS)(K:KT)(s:List AV)(H:Jn):Jkh R K .normal s H=R s H:=propext Iff.rfl
theorem Jh9(R:KS)(K:KT)(s:List AV)(H:Jn):Jkh R K .ret s H=K .ret s H:=propext Iff.rfl
theorem Jf8(R:KS)(K:KT)(i:Nat)(s:List AV)(H:Jn):Jkh R K (.exit i) s H=K (.exit i) s H:=propext Iff.rfl
theorem QN.split{P:Program}{R:KS}{K:KT}:∀(n:Nat) (c:Code) (s:List AV) (H:Jn),cw P (JcV n c) s H (Jkh R K)→(∀s H,R s H→QN P (Jb2 n c) ⟨s,H⟩ (stK K))→QN P c ⟨s,H⟩ (stK K)
 |0,c,s,H,h,k=>by
  rw[G7]at h
  rw[←Gb c]
  exact k s H h
 |n+1,c,s,H,h,k=>by
  cases c with
  |seq x y=>
   refine QN.seq ((UR x s H _ h).mono fun e st hq=> ?_)
   cases e with
   |normal=>exact QN.split n y st.s st.h hq k
   |_=>exact hq
  |_=>exact k s H h
attribute [go_sem] G7 Jgj Gb JfH JcF Jh9 Jf8
theorem JU.clear{P:Program}{o:Oper}{st:St}{K:AV→Jn→Prop}{t e:TypeId}{ti ei:TI}{x:Operand}{id g off n:Nat}{lim:Option Nat}{b:Zo}
 (ho:o.op= .call ⟨.builtin .clear,#[x],#[t]⟩) (ht:JP P t=some ti) (hk:ti.k= .slice e) (he:JP P e=some ei) (hz:ei.zero.length=ei.size)
 (hs:QO st.s x= .c (.own id g off n lim)) (hl:look st.h id g=some b) (hbs:b.sz=ei.size) (hn0:0<n) (hfit:off+n*ei.size≤b.cs.length)
 (hK:K (.tup []) (st.h.set id (some ⟨b.g,b.sz,J6 b.cs off (QL (n*ei.size) ei.zero)⟩))):JU P o st K:=by
 intro w X a R next Q hn
 obtain⟨inf,d,z',i1,i2,i3,i4,i5,i6,i7⟩:=Qd ht
 rw[i5]at hk;cases Zj hk
 obtain⟨z,hz1,hz2,hz3⟩:=V9 he
 have hsv:=J4 R x
 rw[hs]at hsv
 obtain⟨hgt,_,hall⟩:=Ui hsv
 obtain⟨c1,a0,cap,hse,c2,c3,c4,c5⟩:=hall b hl
 have ha0:=c3 (by omega)
 subst ha0
 have hz0:n*ei.size≠0→ei.zero.length≠0:=fun h=>by rw[hz];intro h0;rw[h0]at h;exact h (Nat.mul_zero _)
 obtain⟨q1,q2⟩:=X8 (w:=w) (X:=X) (H:=st.h) hz2 (hz3 w X st.h) (n*ei.size) hz0
 have hone:∀y∈z.cells.toList,y.oneCell'=true:=fun y hy=>by
  obtain⟨j,hj,rfl⟩:=List.mem_iff_getElem.1 hy
  obtain⟨u,h1,h2⟩:=hz3 w X st.h j (by rw[←hz2];simpa using hj)
  have:z.cells.toList[j]=u:=by
   have:=Array.getElem?_eq_some_iff.1 h1
   simpa using this.2
  rw[this]
  exact h2.one
 have hvs:(Builtin.zeroCells z.cells n).toList=((Array.range (n*ei.size)).map (z.cells[· %z.cells.size]!)).toList:=by
  unfold Builtin.zeroCells
  rw[show n*z.cells.size=n*ei.size by rw[hz2,hz]]
 have hlen:((Array.range (n*ei.size)).map (z.cells[· %z.cells.size]!)).toList.length=(QL (n*ei.size) ei.zero).length:=by simpa using q1
 have hzl:(QL (n*ei.size) ei.zero).length=n*ei.size:=by simp[QL]
 obtain⟨w',h4,h5,h6⟩:=BF R.heap hl (o:=off) (cs:=QL (n*ei.size) ei.zero) (vs:=((Array.range (n*ei.size)).map (z.cells[· %z.cells.size]!)).toList) hlen (by omega)
  (fun j hj=>by obtain⟨u,u1,u2⟩:=q2 j hj;exact⟨u,by rw[Array.getElem?_toList];exact u1,u2⟩) (fun y hy=>by
    obtain⟨j,hj,rfl⟩:=List.mem_iff_getElem.1 hy
    have hj':j<(QL (n*ei.size) ei.zero).length:=by rw[←hlen];exact hj
    obtain⟨u,u1,u2⟩:=q2 j hj'
    have:((Array.range (n*ei.size)).map (z.cells[· %z.cells.size]!)).toList[j]=u:=by
     have:=Array.getElem?_eq_some_iff.1 u1
     simpa using this.2
    rw[this]
    exact u2.one)
 have hrun:(execOp a.eval o).run P w= .ok (.value (.tuple #[])) w':=by
  have hm:∀k:Nat,n=k+1→(Builtin.clear_ #[t] o.type #[.slice (some ⟨X.mu g,off,none⟩) n cap]).run P w= .ok (.tuple #[]) w':=fun k hk=>by
   subst hk
   have h4':=h4 P
   simp only[Array.toList_map,Array.toList_range]at h4'
   simp[Builtin.clear_,run_underlying i2,hz1,hvs,h4']
  simp only[execOp,ho,resolve,Sem.run_bind,Sem.run_pure,Result.andThen_ok,invoke,builtin,List.map_toArray,Qh,ZJ,hse]
  rw[hm (n -1) (by omega)]
  rfl
 have hv:VA w' X (st.h.set id (some ⟨b.g,b.sz,J6 b.cs off (QL (n*ei.size) ei.zero)⟩)) (.tup []) (.tuple #[]):= .tup [] (fun _=>undef) fun j hj=>absurd hj (Nat.not_lt_zero _)
 exact ZW hrun (hn _ _ _ _ _ hv h5 h6 hK)
end Go.Lg

namespace Go.Lg
open Go.Proofs
def Uh(H:Jn)(id g:Nat)(B:Int):Prop:=∃(sz:Nat) (b:List Int) (p:Int),look H id g=some ⟨g,sz,[.f (.sl b.length (fl (eI .u8) b)), .f (.int .i64 p)]⟩∧b.length≤2000∧(∀x∈b,0≤x∧x≤255)∧0≤p∧p≤B
theorem Uh.mono{H:Jn}{id g:Nat}{B B':Int}(h:Uh H id g B)(hb:B≤B'):Uh H id g B':=by
 obtain⟨sz,b,p,h1,h2,h3,h4,h5⟩:=h
 exact⟨sz,b,p,h1,h2,h3,h4,by omega⟩
theorem Uh.same{H H':Jn}{id g:Nat}{B:Int}(h:Uh H id g B)(hs:H'[id]? =H[id]?):Uh H' id g B:=by
 obtain⟨sz,b,p,h1,h2⟩:=h
 exact⟨sz,b,p,by unfold look at*;rw[hs];exact h1,h2⟩
theorem Uh.lt{H:Jn}{id g:Nat}{B:Int}(h:Uh H id g B):id<H.length:=by
 obtain⟨sz,b,p,h1,_⟩:=h
 exact(Jh.1 (JH h1).1).1
theorem J7{H:Jn}{id g sz:Nat}{cs:List CV}(h:id<H.length):look (H.set id (some ⟨g,sz,cs⟩)) id g=some ⟨g,sz,cs⟩:=Qj (b:=⟨g,sz,cs⟩) (by rw[JE h])
theorem JaY{a b:Int}(h:0≤a):a.tmod b=a%b:=Int.tmod_eq_emod_of_nonneg h
theorem Wu{H:Jn}{id g off:Nat}{b:Zo}(h:look H id g=some b):YL H (.c (.ptr id g off))=some (.c (.ptr id g off)):=by simp[YL,h]
theorem Uh.take{H:Jn}{id g n:Nat}{B:Int}(h:Uh H id g B)(hn:id<n):Uh (H.take n) id g B:=h.same (by rw[Jz hn])
theorem Uh.app{H X:Jn}{id g:Nat}{B:Int}(h:Uh H id g B):Uh (H++X) id g B:=h.same (by rw[Jc h.lt])
theorem WA.last{H H2:Jn}{id sz gb:Nat}{cs:List CV}(f:WA (H++[some ⟨gb,sz,cs⟩]) H2 [id])(hid:id<H.length):Lg.look H2 H.length gb=some ⟨gb,sz,cs⟩:=by
 rw[f.look (by simp;omega)];exact JF
end Go.Lg

namespace Go.Lg
open Go.Proofs
def Zb(n line:Nat):List Int:=(List.range n).map fun k=>if line<n then((line*n+k:Nat):Int)else((k*n+line -n:Nat):Int)
def Vg(xs:List Int):List Int→Nat→Bool
 |[],_=>false
 |c::cs,seen=>if 0<Jy xs c&&seen.testBit (Jy xs c).toNat then true else Vg xs cs (seen|||2^(Jy xs c).toNat)
def Wy(xs:List Int)(n:Nat):Bool:=(List.range (2*n)).any fun line=>Vg xs (Zb n line) 0
theorem Za(l:List Int)(i:Nat)(v:Int)(k:Nat)(h:i<l.length):Jy (l.set i v) (k:Int)=if k=i then v else Jy l k:=by
 rw[VU _ _ _ _ h (by omega)]
 by_cases hk:k=i
 · rw[if_pos (by omega),if_pos hk]
 · rw[if_neg (by omega),if_neg hk]
theorem WO{ys:List Int}(h0:∀c:Int,0≤Jy ys c):∀(cells:List Int) (seen:Nat),Vg ys cells seen=false↔(∀c∈cells,0<Jy ys c→seen.testBit (Jy ys c).toNat=false)∧cells.Pairwise (fun c d=>0<Jy ys c→Jy ys c≠Jy ys d)
 |[],seen=>by simp[Vg]
 |c::cs,seen=>by
  have ih:=WO h0 cs (seen|||2^(Jy ys c).toNat)
  have hc:=h0 c
  unfold Vg
  by_cases hs:(decide (0<Jy ys c)&&seen.testBit (Jy ys c).toNat)=true
  · rw[if_pos hs]
    simp only[Bool.and_eq_true,decide_eq_true_eq]at hs
    refine⟨fun h=>(by cases h),fun h=> ?_⟩
    have:=h.1 c (by simp) hs.1
    rw[hs.2]at this
    cases this
  · rw[if_neg hs,ih]
    simp only[Bool.and_eq_true,decide_eq_true_eq,not_and,Bool.not_eq_true]at hs
    simp only[Nat.testBit_or,Nat.testBit_two_pow,Bool.or_eq_false_iff,decide_eq_false_iff_not,List.pairwise_cons,Qn]
    constructor
    · rintro⟨h1,h2⟩
      refine⟨fun d hd=> ?_,fun d hd hp he=> ?_,h2⟩
      · rcases hd with rfl|hd
        · exact hs
        · exact fun hp=>(h1 d hd hp).1
      · have:=(h1 d hd (by omega)).2
        omega
    · rintro⟨h1,h2,h3⟩
      refine⟨fun d hd hp=>⟨h1 d (.inr hd) hp,fun he=> ?_⟩,h3⟩
      have:=h0 d
      have:=h2 d hd (by omega)
      omega
def NC(ys:List Int)(n:Nat):Prop:=∀p q:Nat,p<q→q<n*n→(p/n=q/n∨p%n=q%n)→0<Jy ys p→Jy ys p≠Jy ys q
theorem W7{n:Nat}{f:Nat→Int}{R:Int→Int→Prop}:((List.range n).map f).Pairwise R↔∀a b:Nat,a<b→b<n→R (f a) (f b):=by
 rw[List.pairwise_map,List.pairwise_iff_getElem]
 simp only[List.length_range,List.getElem_range]
 exact⟨fun h a b hab hb=>h a b (by omega) hb hab,fun h a b ha hb hab=>h a b hab hb⟩
theorem Bn{ys:List Int}{n:Nat}(hn:n=2∨n=3∨n=4)(h0:∀c:Int,0≤Jy ys c):Wy ys n=false↔NC ys n:=by
 unfold Wy Zb
 rw[List.any_eq_false]
 simp only[List.mem_range,Bool.not_eq_true]
 constructor
 · intro h p q hpq hq hl hp
   rcases hl with hl|hl
   · have h1:=((WO h0 _ 0).1 (h (p/n) (by rcases hn with rfl|rfl|rfl<;>omega))).2
     rw[W7]at h1
     have hr:p/n<n:=by rcases hn with rfl|rfl|rfl<;>omega
     have:=h1 (p%n) (q%n) (by rcases hn with rfl|rfl|rfl<;>omega) (by rcases hn with rfl|rfl|rfl<;>omega)
     rw[if_pos hr,if_pos hr]at this
     have e1:p/n*n+p%n=p:=by rcases hn with rfl|rfl|rfl<;>omega
     have e2:p/n*n+q%n=q:=by rcases hn with rfl|rfl|rfl<;>omega
     rw[e1,e2]at this
     exact this hp
   · have hc:p%n<n:=by rcases hn with rfl|rfl|rfl<;>omega
     have h1:=((WO h0 _ 0).1 (h (n+p%n) (by omega))).2
     rw[W7]at h1
     have:=h1 (p/n) (q/n) (by rcases hn with rfl|rfl|rfl<;>omega) (by rcases hn with rfl|rfl|rfl<;>omega)
     rw[if_neg (by omega),if_neg (by omega)]at this
     have e1:p/n*n+(n+p%n) -n=p:=by rcases hn with rfl|rfl|rfl<;>omega
     have e2:q/n*n+(n+p%n) -n=q:=by rcases hn with rfl|rfl|rfl<;>omega
     rw[e1,e2]at this
     exact this hp
 · intro h line hl
   rw[WO h0]
   refine⟨fun c _ _=>Nat.zero_testBit _, ?_⟩
   rw[W7]
   intro a b hab hb
   split
   · refine h (line*n+a) (line*n+b) (by omega) ?_ (.inl ?_)
     · rcases hn with rfl|rfl|rfl<;>omega
     · rcases hn with rfl|rfl|rfl<;>omega
   · refine h (a*n+line -n) (b*n+line -n) ?_ ?_ (.inr ?_)
     · rcases hn with rfl|rfl|rfl<;>omega
     · rcases hn with rfl|rfl|rfl<;>omega
     · rcases hn with rfl|rfl|rfl<;>omega
theorem VH(xs:List Int)(c:Int):Jy xs c=Jy xs ((c.toNat:Nat):Int):=by unfold Jy;rw[Int.toNat_natCast]
end Go.Lg
