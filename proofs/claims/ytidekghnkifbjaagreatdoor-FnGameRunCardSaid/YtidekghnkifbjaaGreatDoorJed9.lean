/- GpCG, GpSD, GpSG, cut to what is needed. -/
import Derived.Test.YtidekghnkifbjaaGreatDoorJed4
import Derived.Test.YtidekghnkifbjaaGreatDoorJed8
import Derived.Test.YtidekghnkifbjaaGreatDoorJeb4
import Derived.Test.YtidekghnkifbjaaGreatDoorJed3
import Derived.Test.YtidekghnkifbjaaGreatDoorJec4
open List renaming getElem?_append_left → Ja, cons_append → Jb, nil_append → Jc, replicate → Jd, length_cons → Je, length_nil → Jf, getElem?_set_ne → Jg, getElem?_eq_some_iff → Jh, length_append → Jk, length_set → Jo, getElem?_eq_getElem → Jq, take_of_length_le → Js, append_assoc → Jt, getElem?_eq_none → Jx, length_singleton → JL, drop_zero → JR, getElem?_set_self → JX, getElem?_take_of_lt → J1, mem_cons → Qn, not_mem_nil → Zh, getElem?_cons_succ → Ue
open Nat renaming reduceAdd→zA,reduceMul→zM,reduceSub→zS,reduceEqDiff→zE,reduceLeDiff→zL
set_option linter.unusedSimpArgs false
set_option linter.unusedVariables false
set_option maxRecDepth 100000
namespace Go.Lg
open Go.Proofs
attribute [-go_sem] Jv
theorem Jde:∀(n:Nat) (H:Jm),H.length≤n→∀(i:Nat) (b:Zv),(Zg (Jd n true) H)[i]?≠some (some b)
 |0,H,h,i,b=>by
  have:H=[]:=List.eq_nil_of_length_eq_zero (by omega)
  subst this
  simp[Zg]
 |n+1,[],h,i,b=>by simp[Zg,List.replicate_succ]
 |n+1,x::H,h,i,b=>by
  rw[List.replicate_succ]
  cases i with
  |zero=>simp[Zg]
  |succ i=>
   simp only[Zg,Ue]
   exact Jde n H (by simpa using h) i b
theorem JkF(H H':Jm):RM (Jd H.length true) H H':=fun i b h=>absurd h (Jde _ H (Nat.le_refl _) i b)
end Go.Lg

namespace Go.Lg
open Go.Proofs
attribute [-go_sem] J9 Jv
def Jlt(H:Jm)(id g:Nat)(B:Int):KV:=fun v H'=>(∃l:List UInt8,v=WU l∧l.length≤6)∧Zm H' id g (B+10)∧Vi H H' [id]
structure PtI(H HI:Jm)(id g:Nat)(B:Int)(g4:Nat)(q:QZ):Prop where
 box:look HI H.length g4=some ⟨g4,1,cG q⟩
 rd:Zm HI id g B
 lt:id<H.length
 ln:H.length<HI.length
 frm:∀k,k<H.length→k≠id→HI[k]? =H[k]?
section
variable{H HI H2:Jm}{id g g4:Nat}{B B':Int}{q:QZ}
theorem PtI.mono(h:PtI H HI id g B g4 q)(hb:B≤B'):PtI H HI id g B' g4 q:={h with rd:=h.rd.mono hb}
theorem PtI.pick(h:PtI H HI id g B g4 q)(hr:Zm H2 id g B')(hf:Vi HI H2 [id]):PtI H H2 id g B' g4 q:=by
 have hl:=h.lt
 exact{box:=by rw[hf.look (by simp;omega)];exact h.box
       rd:=hr,lt:=hl,ln:=by rw[hf.1];exact h.ln
       frm:=fun k hk hn=>by rw[hf.2 k (by simpa using hn)];exact h.frm k hk hn}
theorem PtI.app{X:Jm}(h:PtI H HI id g B g4 q):PtI H (HI++X) id g B g4 q:=by
 have hn:=h.ln
 exact{box:=JO h.box,rd:=h.rd.app,lt:=h.lt,ln:=by simp;omega
       frm:=fun k hk hne=>by rw[Ja (by omega)];exact h.frm k hk hne}
theorem PtI.step(h:PtI H HI id g B g4 q)(hs:∀i,i<H.length+1→H2[i]? =HI[i]?)(hl:HI.length≤H2.length):PtI H H2 id g B g4 q:=by
 have hn:=h.ln
 have ht:=h.lt
 exact{box:=by have:=h.box;unfold look at*;rw[hs _ (by omega)];exact this
       rd:=h.rd.same (hs _ (by omega)),lt:=ht,ln:=by omega
       frm:=fun k hk hne=>by rw[hs _ (by omega)];exact h.frm k hk hne}
theorem PtI.done(h:PtI H HI id g B g4 q)(hb:B≤B'+10){l:List UInt8}(hl:l.length≤6):Uz HI (Jlt H id g B') (WU l):=by
 have hn:=h.ln
 refine⟨HI.take H.length,fun i b hb=> ?_,⟨l,rfl,hl⟩,(h.rd.mono hb).take h.lt,by simp;omega,fun i hi=> ?_⟩
 · by_cases hi:i<H.length
   · rwa [J1 hi]at hb
   · rw[List.getElem?_take_eq_none (by omega)]at hb;cases hb
 · by_cases hi':i<H.length
   · rw[J1 hi',h.frm i hi' (by simpa using hi)]
   · rw[List.getElem?_take_eq_none (by omega),Jx (by omega)]
end
theorem JcN(p:Q4)(hx:Rf p)(h:JB p=true):Jn Tryz.prog 83 [aP p] [] (fun v H=>∃i g,v= .agg [.f (.int .i64 p.size), .f (J5 p.given), .f (Uu eR p.rules), .own i g 0 p.given.length none, .f .nil]∧look H i g=some ⟨g,1,cl (eI .i64) (Jd p.given.length 0)⟩):=by
 have hg:=hx.1
 have hr:=hx.2.1
 refine Jn.cw (c:=_) Tryz.func83 rfl (n:=25) Tryz.ntmps83 (rs:=[.cell 2 28]) rfl ?_
 simp only[Je,Jf,zA,zS,Jd,Jb,Jc]
 simp(maxSteps:=999999)(disch:=omega)only[go_sem,zA,zM,zS,zE,zL]
 intro g1 g2
 refine JZ.mk (Y7 p hx) (⟨_,Tryz.func98,rfl,rfl⟩:Ji Tryz.prog 98) rfl rfl rfl rfl rfl ?_
 simp(maxSteps:=999999)(disch:=omega)only[go_sem,zA,zM,zS,zE,zL]
 refine JZ.rd (Qh p hx) (⟨_,Tryz.func38,rfl,rfl⟩:Ji Tryz.prog 38) rfl rfl rfl rfl ?_
 rw[h]
 simp(maxSteps:=999999)(disch:=omega)only[go_sem,zA,zM,zS,zE,zL]
 refine Ui [0,1,2,3,4,5,6,7,8,9,11,12,13,14,10] [2,5,6,9] (some 14) [15,16] [] Zd (by kernel_rfl) ?_
 iterate 15 (rw[Jv];simp(maxSteps:=999999)(disch:=omega)only[go_sem,zA,zM,zS,zE,zL])
 refine⟨⟨UD _,by omega,by omega⟩,⟨UD _,by omega,by omega⟩,fun g=> ?_⟩
 have et:List.take (p.given.length*1) (cl (eI .i64) (Jd p.given.length (0:Int)))=cl (eI .i64) (Jd p.given.length 0):=Js (by rw[Qa];simp)
 exact⟨_,J0.refl _,2,g,rfl,by simp only[go_sem]⟩
set_option maxHeartbeats 4000000 in
theorem RS(H:Jm)(id g:Nat)(B kk:Int)(q:QZ)(hr:Zm H id g B)(hB:B≤2^36)(hkk:kk≤1000)(hx:smG q)(hp:q.put.length≤16):Jn Tryz.prog 69 [.c (.ptr id g 0),aG q,int kk] H (Jlt H id g B):=by
 have hlt:=hr.lt
 have hgl:(JN q).length≤16:=by
  cases hv:Qd q with
  |true=>exact Ww hv
  |false=>unfold JN;rw[hv];simp
 refine Jn.ofR (c:=_) Tryz.func69 rfl (n:=67) Tryz.ntmps69 (rs:=[.tmp 6]) rfl ?_
 simp only[Je,Jf,zA,zS,Jd,Jb,Jc]
 refine QH.cutN 4 (fun a:List UInt8×Nat×Jm=>a.1.length≤6∧PtI H a.2.2 id g (B+4) a.2.1 q) (fun a=>[.k, .a, .k, .a, .a, .a, .a, .a, .p (WU a.1), .a, .a, .a, .a, .a, .a, .a, .a, .a, .a, .a, .a, .a, .a, .a, .a, .a, .a, .a, .a, .a, .a, .a, .a, .a, .a, .a, .a, .a, .a, .a, .a, .a, .a, .a, .a, .a, .a, .a, .a, .a, .a, .a, .a, .a, .a, .a, .a, .a, .a, .a, .a, .a, .a, .a, .a, .a, .a]) (fun a=>a.2.2) ?_ ?_
 · simp(maxSteps:=999999)(disch:=omega)only[go_sem,zA,zM,zS,zE,zL,Qf,Qm,QS,QF,Jt,Jb,Jc,Jk]
   intro g4
   have q0:PtI H (H++[some ⟨g4,1,cG q⟩]) id g B g4 q:={box:=JC,rd:=hr.app,lt:=hlt,ln:=by simp,frm:=fun k hk _=>Ja hk}
   refine JZ.run (QR _ id g B _ q0.rd (by omega)) (⟨_,Tryz.func68,rfl,rfl⟩:Ji Tryz.prog 68) rfl rfl ?_
   rintro _ H1 ⟨⟨y,rfl,y0,y1⟩,r1,f1⟩
   have y1:=y1 (by omega)
   replace f1:Vi (H++[some ⟨g4,1,cG q⟩]) H1 [id]:=f1
   have q1:=q0.pick r1 f1
   have l1:=q1.ln
   simp(maxSteps:=999999)(disch:=omega)only[go_sem,zA,zM,zS,zE,zL]
   refine Q3 [0,1,2,3,4,5,6,7,8,9,10,11] [3,10] none [12,13] (Jd H1.length true) [0,1,3,7,15,31,0,64,192,448,960,1984,4095,8191] Zd (by kernel_rfl) ?_
   iterate 7 (rw[Jv];simp(maxSteps:=999999)(disch:=omega)only[go_sem,zA,zM,zS,zE,zL])
   rw[Jv]
   simp(maxSteps:=999999)(disch:=omega)only[go_sem,zA,zM,zS,zE,zL]
   refine JK.run (QR _ id g _ 4 q1.rd (by omega)) (⟨_,Tryz.func68,rfl,rfl⟩:Ji Tryz.prog 68) rfl rfl ?_
   rintro _ H2 ⟨⟨u,rfl,u0,u1⟩,r2,f2⟩
   have u1:=u1 (by omega)
   replace f2:Vi H1 H2 [id]:=f2
   have q2:=q1.pick r2 f2
   refine⟨JkF _ _, ?_⟩
   simp(maxSteps:=999999)(disch:=omega)only[go_sem,zA,zM,zS,zE,zL]
   iterate 4 (rw[Jv];simp(maxSteps:=999999)(disch:=omega)only[go_sem,zA,zM,zS,zE,zL])
   have l2:=q2.ln
   have b2:=q2.box
   have hMb:look (Zg (ZS H2.length H2.length (H2.length+1)) H2) H.length g4=some ⟨g4,1,cG q⟩:=by rw[Ur (U7 (by omega) (by omega))];exact b2
   have hvis:∀{j:Nat},(ZS H2.length H2.length (H2.length+1)).getD j false=false→∀{X:Jm},X.length≤H2.length+1→j<X.length→j<H2.length:=fun hj X hX hl=>(Vt hj (by omega)).2
   have hk1:∀x,RM (ZS H2.length H2.length (H2.length+1)) H2 (H2++[x])=True:=fun x=>eq_true (ZR fun j b hj hb=>by
    have:=(Jh.1 hb).1
    rw[Ja this];exact hb)
   have hk2:∀x y,RM (ZS H2.length H2.length (H2.length+1)) (H2++[x]) (H2++[y])=True:=fun x y=>eq_true (ZR fun j b hj hb=>by
    have h1:=(Jh.1 hb).1
    have:=hvis hj (by simp) h1
    rw[Ja this]at hb⊢;exact hb)
   refine Q3 [0,1,2,3,4,5,6,7,8,9] [3,4] none [10] (ZS H2.length H2.length (H2.length+1)) [0,1,0,4,15,31,63,63,0,383,1023] Zd (by kernel_rfl) ?_
   rw[Jv]
   simp(maxSteps:=999999)(disch:=omega)only[go_sem,zA,zM,zS,zE,zL,hMb]
   rw[Jv]
   simp(maxSteps:=999999)(disch:=omega)only[go_sem,zA,zM,zS,zE,zL,hMb]
   rw[Jv]
   simp(maxSteps:=999999)(disch:=omega)only[go_sem,zA,zM,zS,zE,zL,hMb]
   rw[Jv]
   simp(maxSteps:=999999)(disch:=omega)only[go_sem,zA,zM,zS,zE,zL,hMb]
   refine Xi (JW.ownI (XW q hx)) (⟨_,Tryz.func11,rfl,rfl⟩:Ji Tryz.prog 11) rfl rfl (by
    intro x hm
    simp only[Call.operands,List.mem_toArray,Array.mem_append,Qn,Zh,or_false]at hm
    rcases hm with rfl|rfl<;>rfl) rfl ⟨rfl,rfl,rfl,rfl⟩ ?_
   simp(maxSteps:=999999)(disch:=omega)only[go_sem,zA,zM,zS,zE,zL]
   rw[Jv]
   simp(maxSteps:=999999)(disch:=omega)only[go_sem,zA,zM,zS,zE,zL,hMb]
   refine Xi (XV q.task (JN q) hx.1 (by omega)) (⟨_,Tryz.func74,rfl,rfl⟩:Ji Tryz.prog 74) rfl rfl (by
    intro x hm
    simp only[Call.operands,List.mem_toArray,Array.mem_append,Qn,Zh,or_false]at hm
    rcases hm with rfl|rfl|rfl<;>rfl) rfl ⟨rfl,rfl,rfl,rfl⟩ ?_
   simp(maxSteps:=999999)(disch:=omega)only[go_sem,zA,zM,zS,zE,zL]
   iterate 3 (rw[Jv];simp(maxSteps:=999999)(disch:=omega)only[go_sem,zA,zM,zS,zE,zL])
   rw[Jv]
   simp(maxSteps:=999999)(disch:=omega)only[go_sem,zA,zM,zS,zE,zL,hk1]
   intro g9
   rw[Jv]
   simp(maxSteps:=999999)(disch:=omega)only[go_sem,zA,zM,zS,zE,zL,JC,QM,hk2]
   obtain⟨h,hh⟩:∃h,h=Z2 q.task (JN q):=⟨_,rfl⟩
   rw[←hh]
   have q3:PtI H (H2++[some ⟨g9,3,[.f (.int .i64 h.tech), .f (.int .i64 h.cell), .f (.int .i64 h.val)]⟩]) id g (B+2) g4 q:=(q2.mono (by omega)).app
   cases hb:UK q.task (JN q)with
   |false=>
    simp(maxSteps:=999999)(disch:=omega)only[go_sem,zA,zM,zS,zE,zL]
    exact⟨([112,117,116,32,u8 (97+y),u8 (49+u)],g4,_),⟨by simp,q3.mono (by omega)⟩,by simp,J0.refl _⟩
   |true=>
    simp(maxSteps:=999999)(disch:=omega)only[go_sem,zA,zM,zS,zE,zL]
    refine JZ.run (QR _ id g (B+2) 2 q3.rd (by omega)) (⟨_,Tryz.func68,rfl,rfl⟩:Ji Tryz.prog 68) rfl rfl ?_
    rintro _ H4 ⟨⟨z,rfl,z0,z1⟩,r4,f4⟩
    replace f4:Vi (H2++[some ⟨g9,3,[.f (.int .i64 h.tech), .f (.int .i64 h.cell), .f (.int .i64 h.val)]⟩]) H4 [id]:=f4
    have q4:=q3.pick r4 f4
    simp(maxSteps:=999999)(disch:=omega)only[go_sem,zA,zM,zS,zE,zL]
    ((first|(with_reducible first|refine Jl ?_ ?_|refine Jj ?_ ?_|refine Jp ?_ ?_)|refine Jr ?_ ?_)<;>intro c1)
    rotate_left
    · simp(maxSteps:=999999)(disch:=omega)only[go_sem,zA,zM,zS,zE,zL]
      exact⟨([112,117,116,32,u8 (97+y),u8 (49+u)],g4,_),⟨by simp,q4.mono (by omega)⟩,by simp,J0.refl _⟩
    have b4:look H4 H2.length g9=some ⟨g9,3,[.f (.int .i64 h.tech), .f (.int .i64 h.cell), .f (.int .i64 h.val)]⟩:=f4.last q2.rd.lt
    obtain⟨_,k,v,h1,h2,h3,h4,h5,_⟩:=RW hb
    rw[←hh]at h2 h3
    have hsz:q.task.size≤4:=by
     obtain⟨n,hz,hpn,_⟩:=XQ (RW hb).1
     have:=hpn.hn
     omega
    have b5:∀X:Jm,look (H4++X) H2.length g9=some ⟨g9,3,[.f (.int .i64 h.tech), .f (.int .i64 h.cell), .f (.int .i64 h.val)]⟩:=fun X=>JO b4
    simp(maxSteps:=999999)(disch:=omega)only[go_sem,zA,zM,zS,zE,zL,b4,h2,h3]
    intro g5
    simp(maxSteps:=999999)(disch:=omega)only[go_sem,zA,zM,zS,zE,zL,JC,QM,b5,h2,h3]
    intro g6
    have e6:=JC (H:=H4++[some ⟨g5,1,[.f (.int .u8 (97+k))]⟩]) (g:=g6) (sz:=1) (cs:=[.f (.int .u8 (48+v))])
    rw[Jk,JL]at e6
    simp(maxSteps:=999999)(disch:=omega)only[go_sem,zA,zM,zS,zE,zL,e6]
    exact⟨([112,117,116,32,u8 (97+k),u8 (48+v)],g4,_),⟨by simp,(q4.mono (by omega)).app.app⟩,by simp,J0.refl _⟩
 · rintro⟨l,g4,HF⟩ ⟨hl,q5⟩
   simp only at hl q5
   refine Ua _ _ _ _ ?_
   simp(maxSteps:=999999)(disch:=omega)only[go_sem,zA,zM,zS,zE,zL]
   refine JZ.run (K4 _ id g (B+4) kk q5.rd (by omega) (by omega)) (⟨_,Tryz.func70,rfl,rfl⟩:Ji Tryz.prog 70) rfl rfl ?_
   rintro _ H6 ⟨⟨b,rfl,_⟩,r6,f6⟩
   replace f6:Vi HF H6 [id]:=f6
   have q6:=q5.pick r6 f6
   simp(maxSteps:=999999)(disch:=omega)only[go_sem,zA,zM,zS,zE,zL]
   ((first|(with_reducible first|refine Jl ?_ ?_|refine Jj ?_ ?_|refine Jp ?_ ?_)|refine Jr ?_ ?_)<;>intro c2)
   · simp(maxSteps:=999999)(disch:=omega)only[go_sem,zA,zM,zS,zE,zL]
     intro g8
     have q7:=q6.app (X:=[some ⟨g8,1,cl eS [[98,97,99,107],[104,105,110,116],[99,104,101,99,107],[112,117,116,32,122,49],[112,117,116,32,97,48],[112,117,116,32,97],[66,97,99,107],[]]⟩])
     refine JZ.run (QR _ id g (B+4+1) 8 q7.rd (by omega)) (⟨_,Tryz.func68,rfl,rfl⟩:Ji Tryz.prog 68) rfl rfl ?_
     rintro _ H8 ⟨⟨u,rfl,u0,u1⟩,r8,f8⟩
     have u1:=u1 (by omega)
     replace f8:Vi (H6++[some ⟨g8,1,cl eS [[98,97,99,107],[104,105,110,116],[99,104,101,99,107],[112,117,116,32,122,49],[112,117,116,32,97,48],[112,117,116,32,97],[66,97,99,107],[]]⟩]) H8 [id]:=f8
     have q8:=q7.pick r8 f8
     have b8:look H8 H6.length g8=some ⟨g8,1,[.f (.str (bs [98,97,99,107])), .f (.str (bs [104,105,110,116])), .f (.str (bs [99,104,101,99,107])), .f (.str (bs [112,117,116,32,122,49])), .f (.str (bs [112,117,116,32,97,48])), .f (.str (bs [112,117,116,32,97])), .f (.str (bs [66,97,99,107])), .f (.str (bs []))]⟩:=f8.last q6.rd.lt
     obtain rfl|rfl|rfl|rfl|rfl|rfl|rfl|rfl:u=0∨u=1∨u=2∨u=3∨u=4∨u=5∨u=6∨u=7:=by omega
     all_goals
      simp(maxSteps:=999999)(disch:=omega)only[go_sem,zA,zM,zS,zE,zL,b8,Int.reduceToNat]
      exact q8.done (by omega) (by simp)
   · simp(maxSteps:=999999)(disch:=omega)only[go_sem,zA,zM,zS,zE,zL]
     exact q6.done (by omega) hl
end Go.Lg

namespace Go.Lg
open Go.Proofs
attribute [-go_sem] J9 Jv
def Rg(q:QZ):Prop:=smD q.task∧q.put.length≤16∧q.moves.length≤40
theorem Rg.sm{q:QZ}(h:Rg q):smG q:=⟨h.1.sm,by have:=h.2.1;omega,by have:=h.2.2;omega⟩
def gamDQ(H:Jm)(id g:Nat)(B:Int):KV:=fun v H'=>(∃q:QZ,v=aG q∧Rg q)∧Zm H' id g (B+700)∧Vi H H' [id]
theorem Fi{q:QZ}(hv:Qd q=true)(l:List UInt8):(QA q l).task=q.task:=by
 unfold QA
 rw[if_pos hv]
 split
 · unfold Zt;rw[if_pos hv];split<;>rfl
 · split
   · unfold QD;rw[if_pos hv];split<;>rfl
   · rfl
theorem Ub.toL{H:Jm}{c:CV}{xs:List Int}{S:List Nat}(h:Ub H c xs S):Zq (eI .i64) 1 H c xs∧∀k,QJ c k→k∈S:=by
 cases h with
 |m=>exact⟨.m,fun k h=>h.elim⟩
 |o id g xs h=>exact⟨.o id g xs h,fun k hk=>by have:k=id:=hk;simp[this]⟩
def JkW:CV→Nat→Bool
 | .own id _ _ _ _,k=>decide (k=id)
 |_,_=>false
theorem Ny{c:CV}{k:Nat}:JkW c k=true↔QJ c k:=by
 cases c<;>simp[JkW,QJ]
def KI(S:Nat→Bool)(H:Jm):Jm:=(List.range H.length).map fun i=>if S i=true then none else H[i]?.join
theorem Wr(S:Nat→Bool)(H:Jm):(KI S H).length=H.length:=by simp[KI]
theorem Fx{S:Nat→Bool}{H:Jm}{i:Nat}(h:S i=false):(KI S H)[i]? =H[i]? :=by
 by_cases hl:i<H.length
 · simp[KI,hl,h,Jq hl]
 · rw[Jx (by rw[Wr];omega),Jx (by omega)]
theorem NT{S:Nat→Bool}{H:Jm}{i:Nat}{b:Zv}(h:(KI S H)[i]? =some (some b)):S i=false∧H[i]? =some (some b):=by
 cases hs:S i with
 |false=>exact⟨rfl,by rw[←Fx hs];exact h⟩
 |true=>
  have hl:=(Jh.1 h).1
  rw[Wr]at hl
  simp[KI,hl,hs]at h
theorem Zq.frzI{S:Nat→Bool}{H:Jm}{c:CV}{xs:List Int}(h:Zq (eI .i64) 1 H c xs)(hs:∀k,QJ c k→S k=true):Lg.frzS S H 6 c=some (J5 xs):=by
 cases h with
 |n=>rfl
 |m=>rfl
 |o id g xs h=>
  have:=Rb (S:=S) (lim:=none) (n:=xs.length) (off:=0) h (hs id rfl) (by omega) 5
  rwa [JR,List.take_length]at this
structure GmI(H HI:Jm)(id g:Nat)(B:Int)(g4 J gJ:Nat)(q:QZ)(c3 c4:CV):Prop where
 out:look HI H.length g4=some ⟨g4,5,[.f (.int .i64 0), .f .nil, .f .nil, .f .nil, .f .nil]⟩
 cell:look HI J gJ=some ⟨gJ,5,[.f (.int .i64 q.task.size), .f (J5 q.task.given), .f (Uu eR q.task.rules),c3,c4]⟩
 k3:Zq (eI .i64) 1 HI c3 q.put
 k4:Zq (eI .i64) 1 HI c4 q.moves
 d34:∀k,QJ c3 k→¬QJ c4 k
 i3:∀k,QJ c3 k→H.length<k∧k≠J
 i4:∀k,QJ c4 k→H.length<k∧k≠J
 rd:Zm HI id g B
 lt:id<H.length
 ln:H.length<J∧J<HI.length
 frm:∀k,k<H.length→k≠id→HI[k]? =H[k]?
structure GmF(H HI:Jm)(id g:Nat)(B:Int)(g4 J gJ:Nat)(q:QZ):Prop where
 out:look HI H.length g4=some ⟨g4,5,[.f (.int .i64 0), .f .nil, .f .nil, .f .nil, .f .nil]⟩
 cell:look HI J gJ=some ⟨gJ,5,cG q⟩
 rd:Zm HI id g B
 lt:id<H.length
 ln:H.length<J∧J<HI.length
 frm:∀k,k<H.length→k≠id→HI[k]? =H[k]?
section
variable{H HI H2:Jm}{id g g4 J gJ:Nat}{B B':Int}{q:QZ}{c3 c4:CV}
theorem GmI.mono(h:GmI H HI id g B g4 J gJ q c3 c4)(hb:B≤B'):GmI H HI id g B' g4 J gJ q c3 c4:={h with rd:=h.rd.mono hb}
theorem GmI.step(h:GmI H HI id g B g4 J gJ q c3 c4)(hs:∀i,H.length≤i→i<HI.length→H2[i]? =HI[i]?)(hl:HI.length≤H2.length)(hr:Zm H2 id g B')(hf:∀k,k<H.length→k≠id→H2[k]? =HI[k]?):GmI H H2 id g B' g4 J gJ q c3 c4:=by
 have hn:=h.ln
 have ho:=h.out
 have hc:=h.cell
 have e:∀{i gg:Nat},H.length≤i→i<HI.length→look H2 i gg=look HI i gg:=fun h1 h2=>by unfold look;rw[hs _ h1 h2]
 exact{out:=by rw[e (Nat.le_refl _) (by omega)];exact ho
       cell:=by rw[e (by omega) (by omega)];exact hc
       k3:=h.k3.same fun i hi hl'=>hs i (by have:=h.i3 i hi;omega) hl'
       k4:=h.k4.same fun i hi hl'=>hs i (by have:=h.i4 i hi;omega) hl'
       d34:=h.d34,i3:=h.i3,i4:=h.i4,rd:=hr,lt:=h.lt,ln:=by omega
       frm:=fun k hk hne=>by rw[hf k hk hne];exact h.frm k hk hne}
theorem GmI.pick(h:GmI H HI id g B g4 J gJ q c3 c4)(hr:Zm H2 id g B')(hf:Vi HI H2 [id]):GmI H H2 id g B' g4 J gJ q c3 c4:=
 h.step (fun i hi _=>hf.2 i (by have:=h.lt;simp;omega)) (by rw[hf.1];omega) hr fun k _ hne=>hf.2 k (by simpa using hne)
theorem GmI.app{X:Jm}(h:GmI H HI id g B g4 J gJ q c3 c4):GmI H (HI++X) id g B g4 J gJ q c3 c4:=
 h.step (fun i _ hi=>Ja hi) (by simp) h.rd.app fun k hk _=>Ja (by have:=h.ln;omega)
theorem GmI.ice(h:GmI H HI id g B g4 J gJ q c3 c4):∃S HX,B0 S HI HX∧HX.length=HI.length∧GmF H HX id g B g4 J gJ q:=by
 have hn:=h.ln
 have ht:=h.lt
 have hi3:=h.i3
 have hi4:=h.i4
 obtain⟨S,hS⟩:∃S:Nat→Bool,S=fun k=>JkW c3 k||JkW c4 k:=⟨_,rfl⟩
 have hS1:∀k,S k=true→H.length<k∧k≠J:=fun k hk=>by
  rw[hS]at hk
  simp only[Bool.or_eq_true,Ny]at hk
  rcases hk with hk|hk
  · exact hi3 k hk
  · exact hi4 k hk
 have hS0:∀k,k≤H.length∨k=J→S k=false:=fun k hk=>by
  cases hs:S k with
  |false=>rfl
  |true=>
   have:=hS1 k hs
   omega
 have f3:frzS S HI 6 c3=some (J5 q.put):=h.k3.frzI fun k hk=>by rw[hS];simp[Ny.2 hk]
 have f4:frzS S HI 6 c4=some (J5 q.moves):=h.k4.frzI fun k hk=>by rw[hS];simp[Ny.2 hk]
 have hlt:J<(KI S HI).length:=by rw[Wr];omega
 have hget:∀k,k≠J→S k=false→((KI S HI).set J (some ⟨gJ,5,cG q⟩))[k]? =HI[k]? :=fun k hk hs=>by
  rw[Jg (Ne.symm hk),Fx hs]
 refine⟨S,(KI S HI).set J (some ⟨gJ,5,cG q⟩),fun i b hb=> ?_,by rw[Jo,Wr], ?_⟩
 · by_cases hi:i=J
   · subst hi
     rw[JX hlt]at hb
     cases hb
     refine⟨hS0 i (.inr rfl),_,(JG h.cell).1,rfl,rfl,rfl,fun j hj=> ?_⟩
     have hj:j<5:=hj
     match j,hj with
     |0,_=>exact⟨_,rfl, .inl rfl⟩
     |1,_=>exact⟨_,rfl, .inl rfl⟩
     |2,_=>exact⟨_,rfl, .inl rfl⟩
     |3,_=>exact⟨_,rfl, .inr ⟨_,f3,rfl⟩⟩
     |4,_=>exact⟨_,rfl, .inr ⟨_,f4,rfl⟩⟩
   · rw[Jg (Ne.symm hi)]at hb
     obtain⟨h1,h2⟩:=NT hb
     exact⟨h1,b,h2,rfl,rfl,rfl,fun j hj=>⟨b.cs[j],by rw[Jq hj], .inl rfl⟩⟩
 · have ho:=h.out
   exact{out:=by unfold look at*;rw[hget _ (by omega) (hS0 _ (by omega))];exact ho
         cell:=JM hlt
         rd:=h.rd.same (hget _ (by omega) (hS0 _ (by omega)))
         lt:=ht,ln:=by rw[Jo,Wr];exact hn
         frm:=fun k hk hne=>by rw[hget _ (by omega) (hS0 _ (by omega))];exact h.frm k hk hne}
end
end Go.Lg
