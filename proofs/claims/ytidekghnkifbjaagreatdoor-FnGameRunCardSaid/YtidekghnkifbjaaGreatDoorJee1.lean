/- GpUF, GpTG, GpTH, cut to what is needed. -/
import Derived.Test.YtidekghnkifbjaaGreatDoorJee0
import Derived.Test.YtidekghnkifbjaaGreatDoorJeb6
import Derived.Test.YtidekghnkifbjaaGreatDoorJed2
import Derived.Test.YtidekghnkifbjaaGreatDoorJec2
import Derived.Test.YtidekghnkifbjaaGreatDoorJeb9
import Derived.Test.YtidekghnkifbjaaGreatDoorJec9
open List renaming getElem?_append_left → Ja, cons_append → Jb, nil_append → Jc, replicate → Jd, length_cons → Je, length_nil → Jf, getElem?_set_ne → Jg, getElem?_eq_getElem → Jq, getElem?_eq_none → Jx, getElem?_set_self → JX, getElem?_take_of_lt → J1, mem_cons → Qn, not_mem_nil → Zh
open Nat renaming reduceAdd→zA,reduceMul→zM,reduceSub→zS,reduceEqDiff→zE,reduceLeDiff→zL
set_option linter.unusedSimpArgs false
set_option linter.unusedVariables false
set_option maxRecDepth 100000
namespace Go.Lg
open Go.Proofs
attribute [-go_sem] J9 Jv
set_option maxHeartbeats 4000000 in
theorem Nr(code:List Int)(hl:code.length≤9223372036854775807)(hw:∀x∈code,(Lit.int .u8 x).wf=true):JW Tryz.prog 7 [Bl (eI .u8) code] (bool true):=by
 refine Jn.ofR (c:=_) Tryz.func7 rfl (n:=137) Tryz.ntmps7 (rs:=[.tmp 2]) rfl ?_
 simp only[Je,Jf,zA,zS,Jd,Jb,Jc]
 refine QH.cutN 8 (fun a:QZ×List UInt8×List UInt8×Nat×Nat×Nat=>Rg a.1∧a.2.1.length≤6∧Qd a.1=true∧a.2.2.1=Zl a.1 a.2.1) (fun a=>[.a, .a, .a, .p (.c (.ptr 0 a.2.2.2.1 0)), .a, .p (.c (.ptr 1 a.2.2.2.2.1 0)), .p (WU a.2.2.1), .a, .a, .p (bool true), .a, .a, .a, .a, .a, .a, .a, .a, .a, .a, .a, .a, .a, .a, .a, .a, .a, .a, .a, .a, .a, .a, .a, .a, .a, .a, .a, .a, .a, .a, .a, .a, .a, .a, .a, .a, .a, .a, .a, .a, .a, .a, .a, .a, .a, .a, .a, .a, .a, .a, .a, .a, .a, .a, .a, .a, .a, .a, .a, .a, .a, .a, .a, .a, .a, .a, .a, .a, .a, .a, .a, .a, .a, .a, .a, .a, .a, .a, .a, .a, .a, .a, .a, .a, .a, .a, .a, .a, .a, .a, .a, .a, .a, .a, .a, .a, .a, .a, .a, .a, .a, .a, .a, .a, .a, .a, .a, .a, .a, .a, .a, .a, .a, .a, .a, .a, .a, .a, .a, .a, .a, .a, .a, .a, .a, .a, .a]) (fun a=>[some ⟨a.2.2.2.1,5,cG a.1⟩,some ⟨a.2.2.2.2.1,5,cG (QA a.1 a.2.1)⟩,some ⟨a.2.2.2.2.2,5,cG (QA a.1 a.2.1)⟩]) ?_ ?_
 · simp(maxSteps:=999999)(disch:=omega)only[go_sem,zA,zM,zS,zE,zL]
   ((first|(with_reducible first|refine Jl ?_ ?_|refine Jj ?_ ?_|refine Jp ?_ ?_)|refine Jr ?_ ?_)<;>intro h1)
   · simp(maxSteps:=999999)(disch:=omega)only[go_sem,zA,zM,zS,zE,zL]
   simp(maxSteps:=999999)(disch:=omega)only[go_sem,zA,zM,zS,zE,zL]
   refine JZ.mkF (FG code (JhO hw) (by omega)) (⟨_,Tryz.func32,rfl,rfl⟩:Ji Tryz.prog 32) rfl rfl rfl ?_
   rintro _ ⟨q,l,rfl,hq,hll⟩
   refine⟨rfl,rfl, ?_⟩
   have hs:=hq.sm
   simp(maxSteps:=999999)(disch:=omega)only[go_sem,zA,zM,zS,zE,zL]
   intro g
   first|refine JZ.mk (JW.ownGT (We q l hs (by omega))) (⟨_,Tryz.func15,rfl,rfl⟩:Ji Tryz.prog 15) rfl rfl rfl rfl rfl ?_|refine JK.mk (JW.ownGT (We q l hs (by omega))) (⟨_,Tryz.func15,rfl,rfl⟩:Ji Tryz.prog 15) rfl rfl rfl rfl rfl ?_
   simp(maxSteps:=999999)(disch:=omega)only[go_sem,zA,zM,zS,zE,zL]
   intro g2
   first|refine JZ.mk (Rm q l hs (by omega)) (⟨_,Tryz.func31,rfl,rfl⟩:Ji Tryz.prog 31) rfl rfl rfl rfl rfl ?_|refine JK.mk (Rm q l hs (by omega)) (⟨_,Tryz.func31,rfl,rfl⟩:Ji Tryz.prog 31) rfl rfl rfl rfl rfl ?_
   simp(maxSteps:=999999)(disch:=omega)only[go_sem,zA,zM,zS,zE,zL]
   intro g3
   obtain⟨hr,_⟩:=JfH hs l
   have hbb:decide (QA q l=QA q l)=true:=decide_eq_true rfl
   have hbt:decide (Zl q l=Zl q l)=true:=decide_eq_true rfl
   first|refine JZ.rd (Z5 (QA q l) (QA q l) hr) (⟨_,Tryz.func30,rfl,rfl⟩:Ji Tryz.prog 30) rfl rfl rfl rfl ?_|refine JK.rd (Z5 (QA q l) (QA q l) hr) (⟨_,Tryz.func30,rfl,rfl⟩:Ji Tryz.prog 30) rfl rfl rfl rfl ?_
   simp(maxSteps:=999999)(disch:=omega)only[go_sem,zA,zM,zS,zE,zL]
   first|refine JZ.rd (QN q hs) (⟨_,Tryz.func12,rfl,rfl⟩:Ji Tryz.prog 12) rfl rfl rfl rfl ?_|refine JK.rd (QN q hs) (⟨_,Tryz.func12,rfl,rfl⟩:Ji Tryz.prog 12) rfl rfl rfl rfl ?_
   simp(maxSteps:=999999)(disch:=omega)only[go_sem,zA,zM,zS,zE,zL]
   cases hv:Qd q with
   |false=>
    have e1:QA q l=ZC:=by unfold QA;rw[hv];rfl
    have e2:Zl q l=[]:=by unfold Zl;rw[hv];rfl
    have d0:decide ((QA q l).task.size=0)=true:=by rw[e1];rfl
    have d1:decide (Zl q l=[])=true:=decide_eq_true e2
    simp(maxSteps:=999999)(disch:=omega)only[go_sem,zA,zM,zS,zE,zL,d0,d1]
    first|refine JZ.rd (Wt) (⟨_,Tryz.func14,rfl,rfl⟩:Ji Tryz.prog 14) rfl rfl rfl rfl ?_|refine JK.rd (Wt) (⟨_,Tryz.func14,rfl,rfl⟩:Ji Tryz.prog 14) rfl rfl rfl rfl ?_
    simp(maxSteps:=999999)(disch:=omega)only[go_sem,zA,zM,zS,zE,zL]
   |true=>
   obtain⟨n,hN⟩:=Z1.of hv
   simp(maxSteps:=999999)(disch:=omega)only[go_sem,zA,zM,zS,zE,zL]
   have hkn:=JeB hN l
   obtain⟨T,hT⟩:∃T,T=Zl q l:=⟨_,rfl⟩
   rw[←hT]at hkn hbt⊢
   rcases hkn with rfl|rfl|rfl|rfl|rfl|rfl|rfl|⟨rfl,h16,_⟩
   · simp(maxSteps:=999999)(disch:=omega)only[go_sem,zA,zM,zS,zE,zL,show decide (okT=[111,107])=true from rfl]
     exact⟨(q,l,okT,g,g2,g3),⟨hq,hll,hv,hT⟩,by simp,J0.refl _⟩
   · simp(maxSteps:=999999)(disch:=omega)only[go_sem,zA,zM,zS,zE,zL,show decide (noT=[111,107])=false from rfl,show decide (noT=[110,111])=true from rfl]
     exact⟨(q,l,noT,g,g2,g3),⟨hq,hll,hv,hT⟩,by simp,J0.refl _⟩
   · simp(maxSteps:=999999)(disch:=omega)only[go_sem,zA,zM,zS,zE,zL,show decide (Bu=[111,107])=false from rfl,show decide (Bu=[110,111])=false from rfl,show decide (Bu=[110,111,110,101])=true from rfl]
     exact⟨(q,l,Bu,g,g2,g3),⟨hq,hll,hv,hT⟩,by simp,J0.refl _⟩
   · simp(maxSteps:=999999)(disch:=omega)only[go_sem,zA,zM,zS,zE,zL,show decide (WM=[111,107])=false from rfl,show decide (WM=[110,111])=false from rfl,show decide (WM=[110,111,110,101])=false from rfl,show decide (WM=[119,114,111,110,103])=true from rfl]
     exact⟨(q,l,WM,g,g2,g3),⟨hq,hll,hv,hT⟩,by simp,J0.refl _⟩
   · simp(maxSteps:=999999)(disch:=omega)only[go_sem,zA,zM,zS,zE,zL,show decide (Y8=[111,107])=false from rfl,show decide (Y8=[110,111])=false from rfl,show decide (Y8=[110,111,110,101])=false from rfl,show decide (Y8=[119,114,111,110,103])=false from rfl,show decide (Y8=[103,111,111,100])=true from rfl]
     exact⟨(q,l,Y8,g,g2,g3),⟨hq,hll,hv,hT⟩,by simp,J0.refl _⟩
   · simp(maxSteps:=999999)(disch:=omega)only[go_sem,zA,zM,zS,zE,zL,show decide (Vs=[111,107])=false from rfl,show decide (Vs=[110,111])=false from rfl,show decide (Vs=[110,111,110,101])=false from rfl,show decide (Vs=[119,114,111,110,103])=false from rfl,show decide (Vs=[103,111,111,100])=false from rfl,show decide (Vs=[115,111,108,118,101,100])=true from rfl]
     exact⟨(q,l,Vs,g,g2,g3),⟨hq,hll,hv,hT⟩,by simp,J0.refl _⟩
   · simp(maxSteps:=999999)(disch:=omega)only[go_sem,zA,zM,zS,zE,zL,show decide (Wg=[111,107])=false from rfl,show decide (Wg=[110,111])=false from rfl,show decide (Wg=[110,111,110,101])=false from rfl,show decide (Wg=[119,114,111,110,103])=false from rfl,show decide (Wg=[103,111,111,100])=false from rfl,show decide (Wg=[115,111,108,118,101,100])=false from rfl,show decide (Wg=[119,104,97,116])=true from rfl]
     exact⟨(q,l,Wg,g,g2,g3),⟨hq,hll,hv,hT⟩,by simp,J0.refl _⟩
   · have nf:∀X:List UInt8,X.length≠16→decide (T=X)=false:=fun X hX=>decide_eq_false fun he=>hX (by rw[←he];exact h16)
     simp(maxSteps:=999999)(disch:=omega)only[go_sem,zA,zM,zS,zE,zL,nf [111,107] (by decide),nf [110,111] (by decide),nf [110,111,110,101] (by decide),nf [119,114,111,110,103] (by decide),nf [103,111,111,100] (by decide),nf [115,111,108,118,101,100] (by decide),nf [119,104,97,116] (by decide),show decide (XN=[104,105,110,116])=true from rfl,show decide ((T.length:Int)=16)=true from decide_eq_true (by omega)]
     exact⟨(q,XN,T,g,g2,g3),⟨hq,hll,hv,hT⟩,by simp,J0.refl _⟩
 · rintro⟨q,l,T,g,g2,g3⟩ ⟨hq,hll,hv,hT⟩
   simp only at hq hll hv hT
   obtain⟨n,hN⟩:=Z1.of hv
   have hs:=hq.sm
   have hgl:=Jg4 hq
   obtain⟨hr,_⟩:=JfH hs l
   have hok:decide (T=[111,107])= !decide (QA q l=q):=by rw[hT];exact JkS hN l
   have hK:=(Xs hN l).valid
   clear hT
   refine Ua _ _ _ _ ?_
   simp(maxSteps:=999999)(disch:=omega)only[go_sem,zA,zM,zS,zE,zL]
   refine Q3 [0,1,2,3,4,5,6,7,8,9] [3,4] none [10] [false,false,false,true] [0,1,0,4,15,31,63,63,0,383,1023] Zd (by kernel_rfl) ?_
   iterate 3 (rw[Jv];simp(maxSteps:=999999)(disch:=omega)only[go_sem,zA,zM,zS,zE,zL])
   rw[Jv]
   simp(maxSteps:=999999)(disch:=omega)only[go_sem,zA,zM,zS,zE,zL]
   refine Xi (JW.ownI (Wf q hs)) (⟨_,Tryz.func9,rfl,rfl⟩:Ji Tryz.prog 9) rfl rfl (by
    intro x hm
    simp only[Call.operands,List.mem_toArray,Array.mem_append,Qn,Zh,or_false]at hm
    rcases hm with rfl|rfl<;>rfl) rfl ⟨rfl,rfl,rfl,rfl⟩ ?_
   simp(maxSteps:=999999)(disch:=omega)only[go_sem,zA,zM,zS,zE,zL]
   rw[Jv]
   simp(maxSteps:=999999)(disch:=omega)only[go_sem,zA,zM,zS,zE,zL]
   refine Xi (YT q.task (JN q) hs.1 (by omega)) (⟨_,Tryz.func33,rfl,rfl⟩:Ji Tryz.prog 33) rfl rfl (by
    intro x hm
    simp only[Call.operands,List.mem_toArray,Array.mem_append,Qn,Zh,or_false]at hm
    rcases hm with rfl|rfl|rfl<;>rfl) rfl ⟨rfl,rfl,rfl,rfl⟩ ?_
   simp(maxSteps:=999999)(disch:=omega)only[go_sem,zA,zM,zS,zE,zL]
   iterate 3 (rw[Jv];simp(maxSteps:=999999)(disch:=omega)only[go_sem,zA,zM,zS,zE,zL])
   rw[Jv]
   simp(maxSteps:=999999)(disch:=omega)only[go_sem,zA,zM,zS,zE,zL]
   intro g4
   rw[Jv]
   simp(maxSteps:=999999)(disch:=omega)only[go_sem,zA,zM,zS,zE,zL]
   cases hb:UK q.task (JN q)with
   |false=>
    simp(maxSteps:=999999)(disch:=omega)only[go_sem,zA,zM,zS,zE,zL]
    first|refine JZ.rd (QU (QA q l) hr) (⟨_,Tryz.func34,rfl,rfl⟩:Ji Tryz.prog 34) rfl rfl rfl rfl ?_|refine JK.rd (QU (QA q l) hr) (⟨_,Tryz.func34,rfl,rfl⟩:Ji Tryz.prog 34) rfl rfl rfl rfl ?_
    simp(maxSteps:=999999)(disch:=omega)only[go_sem,zA,zM,zS,zE,zL]
    rw[hK]
    simp(maxSteps:=999999)(disch:=omega)only[go_sem,zA,zM,zS,zE,zL]
    first|refine JZ.rd (Z5 (QA q l) q hr) (⟨_,Tryz.func30,rfl,rfl⟩:Ji Tryz.prog 30) rfl rfl rfl rfl ?_|refine JK.rd (Z5 (QA q l) q hr) (⟨_,Tryz.func30,rfl,rfl⟩:Ji Tryz.prog 30) rfl rfl rfl rfl ?_
    simp(maxSteps:=999999)(disch:=omega)only[go_sem,zA,zM,zS,zE,zL]
    rw[hok]
    cases hd:decide (QA q l=q)with
    |false=>simp(maxSteps:=999999)(disch:=omega)only[go_sem,zA,zM,zS,zE,zL,show decide (([111,107]:List UInt8)=[111,107])=true from rfl]
    |true=>simp(maxSteps:=999999)(disch:=omega)only[go_sem,zA,zM,zS,zE,zL,show decide (([111,107]:List UInt8)=[111,107])=true from rfl]
   |true=>
    have hfo:=Jdu hN hb
    obtain⟨k,v,z1,z2,z3,z4,z5,z6,z7⟩:=Fn hN hb
    have hl4:=hN.len
    have hn4:n≤4:=by rcases hN.pz.hn with e|e|e<;>omega
    rw[z2,z3]at hfo
    have hff:decide (Zl q (G3 k v)=[111,107])=true:=decide_eq_true hfo
    rw[z2,z3]
    simp(maxSteps:=999999)(disch:=omega)only[go_sem,zA,zM,zS,zE,zL]
    intro g5
    first|refine JZ.mk (JW.ownGT (We q (G3 k v) hs (by simp[G3]))) (⟨_,Tryz.func15,rfl,rfl⟩:Ji Tryz.prog 15) rfl rfl rfl rfl rfl ?_|refine JK.mk (JW.ownGT (We q (G3 k v) hs (by simp[G3]))) (⟨_,Tryz.func15,rfl,rfl⟩:Ji Tryz.prog 15) rfl rfl rfl rfl rfl ?_
    simp(maxSteps:=999999)(disch:=omega)only[go_sem,zA,zM,zS,zE,zL]
    intro g6
    first|refine JZ.rd (QU (QA q l) hr) (⟨_,Tryz.func34,rfl,rfl⟩:Ji Tryz.prog 34) rfl rfl rfl rfl ?_|refine JK.rd (QU (QA q l) hr) (⟨_,Tryz.func34,rfl,rfl⟩:Ji Tryz.prog 34) rfl rfl rfl rfl ?_
    simp(maxSteps:=999999)(disch:=omega)only[go_sem,zA,zM,zS,zE,zL]
    rw[hK]
    simp(maxSteps:=999999)(disch:=omega)only[go_sem,zA,zM,zS,zE,zL]
    first|refine JZ.rd (Z5 (QA q l) q hr) (⟨_,Tryz.func30,rfl,rfl⟩:Ji Tryz.prog 30) rfl rfl rfl rfl ?_|refine JK.rd (Z5 (QA q l) q hr) (⟨_,Tryz.func30,rfl,rfl⟩:Ji Tryz.prog 30) rfl rfl rfl rfl ?_
    simp(maxSteps:=999999)(disch:=omega)only[go_sem,zA,zM,zS,zE,zL]
    rw[hok]
    cases hd:decide (QA q l=q)with
    |false=>simp(maxSteps:=999999)(disch:=omega)only[go_sem,zA,zM,zS,zE,zL,hff]
    |true=>simp(maxSteps:=999999)(disch:=omega)only[go_sem,zA,zM,zS,zE,zL,hff]
end Go.Lg

namespace Go.Lg
open Go.Proofs
attribute [-go_sem] J9 Jv
def Jio(ms:List Nat):Nat:=((List.range ms.length).find? fun k=>decide (Zi (QL ms k)=0)).getD 0
def mkF(p:Q4):Nat→List Nat→List Brn→List Brn
 |0,_,out=>out
 |f+1,ms,out=>if 200<out.length then out else match endM p ms with
  |some _=>out
  |none=>if ZZ p ms≠0 then mkF p f (Uk p (ZZ p ms) ms) (out++[⟨ZZ p ms,0⟩])else(Z9 (QL ms (Jio ms)) 4).foldl (fun o v=>mkF p f (ms.set (Jio ms) (2^v.toNat)) o) (out++[⟨0,Jio ms⟩])
abbrev Jjq (g:Nat) (b:Brn):Jm:=[some ⟨g,2,cB b⟩]
def mkQ(H:Jm)(id:Nat)(R:List Brn):KV:=fun v H'=>∃g',v= .c (.own id g' 0 R.length none)∧look H' id g'=some ⟨g',2,cl eB R⟩∧Vi H H' [id]
structure MkI(H HI:Jm)(id g gb:Nat)(p:Q4)(out:List Brn):Prop where
 cells:look HI id g=some ⟨g,2,cl eB out⟩
 box:look HI H.length gb=some ⟨gb,1,cP p⟩
 lt:id<H.length
 ln:H.length+1≤HI.length
 frm:∀i,i<H.length→i≠id→HI[i]? =H[i]?
theorem MkI.done{H HI:Jm}{id g gb:Nat}{p:Q4}{out:List Brn}(h:MkI H HI id g gb p out):Uz HI (mkQ H id out) (.c (.own id g 0 out.length none)):=by
 have hl:=h.lt
 have hn:=h.ln
 refine⟨HI.take H.length,fun i b hb=> ?_,g,rfl, ?_,by simp;omega,fun i hi=> ?_⟩
 · by_cases hi:i<H.length
   · rwa [J1 hi]at hb
   · rw[List.getElem?_take_eq_none (by omega)]at hb;cases hb
 · have hc:=h.cells
   unfold look at hc⊢
   rw[J1 hl]
   exact hc
 · by_cases h2:i<H.length
   · rw[J1 h2,h.frm i h2 (by simpa using hi)]
   · rw[List.getElem?_take_eq_none (by omega),Jx (by omega)]
theorem MkI.app{H HI H':Jm}{id g gb:Nat}{p:Q4}{out:List Brn}(h:MkI H HI id g gb p out):MkI H (HI++H') id g gb p out:=
 ⟨JO h.cells,JO h.box,h.lt,by have:=h.ln;simp;omega,fun i h1 h2=>by rw[Ja (by have:=h.ln;omega)];exact h.frm i h1 h2⟩
theorem MkI.put{H HI:Jm}{id g gb:Nat}{p:Q4}{out R:List Brn}(h:MkI H HI id g gb p out)(g':Nat):MkI H (HI.set id (some ⟨g',2,cl eB R⟩)) id g' gb p R:=by
 have hl:=h.lt
 have hn:=h.ln
 refine⟨?_, ?_,hl,by simp;omega,fun i h1 h2=>by rw[Jg (Ne.symm h2)];exact h.frm i h1 h2⟩
 · unfold look
   rw[JX (by omega)]
   simp
 · have hb:=h.box
   unfold look at hb⊢
   rw[Jg (by omega)]
   exact hb
theorem MkI.step{H HI H':Jm}{id g g' gb:Nat}{p:Q4}{out R:List Brn}(h:MkI H HI id g gb p out)(hf:Vi HI H' [id])(hc:look H' id g'=some ⟨g',2,cl eB R⟩):MkI H H' id g' gb p R:=by
 have hl:=h.lt
 have hn:=h.ln
 refine⟨hc, ?_,hl,by rw[hf.1];exact hn,fun i h1 h2=>by rw[hf.2 i (by simpa using h2)];exact h.frm i h1 h2⟩
 have hb:=h.box
 unfold look at hb⊢
 rw[hf.2 _ (by simp;omega)]
 exact hb
end Go.Lg

namespace Go.Lg
open Go.Proofs
attribute [-go_sem] J9 Jv
theorem JZ.iceOne{P:Program}{o:Oper}{s:List AV}{H H':Jm}{K:KV}(j0:Nat)(y:AV)(S:Nat→Bool)(hh:B0 S H H')(hy:Jch S H (s.getD j0 .void) y)(h:JZ P o ⟨s.set j0 y,H'⟩ K):JZ P o ⟨s,H⟩ K:=by
 intro w X a R next Q hn
 have R':XC w (X.iceS S H) a ⟨s.set j0 y,H'⟩:=by
  refine⟨R.defs,by rw[R.size];simp,fun i hi=> ?_,Nz R.heap hh⟩
  have hi':i<s.length:=by simpa using hi
  obtain⟨u,h1,h2⟩:=R.slot i hi'
  refine⟨u,h1, ?_⟩
  show VA w (X.iceS S H) H' ((s.set j0 y)[i]) u
  rw[List.getElem_set]
  split
  · rename_i e
    subst e
    have e2:s.getD j0 .void=s[j0]:=by simp[List.getD,Jq hi']
    rw[e2]at hy
    exact YK R.heap hh hy h2
  · exact YK R.heap hh (.o _ _ (.s _)) h2
 exact h w _ a R' next Q fun v u X' H'' w' h1 h2 h3 h4=>hn v u X' H'' w' h1 h2 ((BI hh).trans h3) h4
structure MkJ(H HI:Jm)(id pid g pg gb:Nat)(p:Q4)(out:List Brn):Prop where
 cells:look HI id g=some ⟨g,2,cl eB out⟩
 cell:look HI pid pg=some ⟨pg,1,[.own id g 0 out.length none]⟩
 box:look HI H.length gb=some ⟨gb,1,cP p⟩
 lt:id<H.length
 lt2:pid<H.length
 ne:id≠pid
 ln:H.length+1≤HI.length
 frm:∀i,i<H.length→i≠id→i≠pid→HI[i]? =H[i]?
def mkQ2(H:Jm)(id pid pg:Nat)(R:List Brn):KV:=fun v H'=>v= .tup []∧∃g',look H' id g'=some ⟨g',2,cl eB R⟩∧look H' pid pg=some ⟨pg,1,[.own id g' 0 R.length none]⟩∧Vi H H' [id,pid]
theorem MkJ.done{H HI:Jm}{id pid g pg gb:Nat}{p:Q4}{out:List Brn}(h:MkJ H HI id pid g pg gb p out):Uz HI (mkQ2 H id pid pg out) (.tup []):=by
 have hl:=h.lt
 have hl2:=h.lt2
 have hn:=h.ln
 refine⟨HI.take H.length,fun i b hb=> ?_,rfl,g, ?_, ?_,by simp;omega,fun i hi=> ?_⟩
 · by_cases hi:i<H.length
   · rwa [J1 hi]at hb
   · rw[List.getElem?_take_eq_none (by omega)]at hb;cases hb
 · have hc:=h.cells
   unfold look at hc⊢
   rw[J1 hl]
   exact hc
 · have hc:=h.cell
   unfold look at hc⊢
   rw[J1 hl2]
   exact hc
 · simp only[Qn,Zh,or_false,not_or]at hi
   by_cases h2:i<H.length
   · rw[J1 h2,h.frm i h2 hi.1 hi.2]
   · rw[List.getElem?_take_eq_none (by omega),Jx (by omega)]
theorem MkJ.app{H HI H':Jm}{id pid g pg gb:Nat}{p:Q4}{out:List Brn}(h:MkJ H HI id pid g pg gb p out):MkJ H (HI++H') id pid g pg gb p out:=
 ⟨JO h.cells,JO h.cell,JO h.box,h.lt,h.lt2,h.ne,by have:=h.ln;simp;omega,fun i h1 h2 h3=>by rw[Ja (by have:=h.ln;omega)];exact h.frm i h1 h2 h3⟩
theorem MkJ.step{H HI H':Jm}{id pid g g' pg gb:Nat}{p:Q4}{out R:List Brn}(h:MkJ H HI id pid g pg gb p out)(hf:∀i,i<HI.length→i≠id→i≠pid→i≤H.length→H'[i]? =HI[i]?)(hln:HI.length≤H'.length)(hc:look H' id g'=some ⟨g',2,cl eB R⟩)(hc2:look H' pid pg=some ⟨pg,1,[.own id g' 0 R.length none]⟩):MkJ H H' id pid g' pg gb p R:=by
 have hl:=h.lt
 have hl2:=h.lt2
 have hn:=h.ln
 refine⟨hc,hc2, ?_,hl,hl2,h.ne,by omega,fun i h1 h2 h3=>by rw[hf i (by omega) h2 h3 (by omega)];exact h.frm i h1 h2 h3⟩
 have hb:=h.box
 unfold look at hb⊢
 rw[hf _ (by omega) (by omega) (by omega) (Nat.le_refl _)]
 exact hb
theorem MkJ.push{H HI:Jm}{id pid g pg gb:Nat}{p:Q4}{out:List Brn}(h:MkJ H HI id pid g pg gb p out)(b:Brn)(g1 g':Nat):
 look ((HI++Jjq g1 b).set id (some ⟨g',2,cl eB (out++[b])⟩)) pid pg=some ⟨pg,1,[.own id g 0 out.length none]⟩∧
 MkJ H (((HI++Jjq g1 b).set id (some ⟨g',2,cl eB (out++[b])⟩)).set pid (some ⟨pg,1,[.own id g' 0 (out.length+1) none]⟩)) id pid g' pg gb p (out++[b]):=by
 have hl:=h.lt
 have hl2:=h.lt2
 have hn:=h.ln
 have hne:=h.ne
 have h1:=(h.app (H':=Jjq g1 b)).cell
 have hlen:(HI++Jjq g1 b).length=HI.length+1:=by simp
 refine⟨?_,(h.app (H':=Jjq g1 b)).step (fun i h2 h3 h4 _=> ?_) (by simp) ?_ ?_⟩
 · unfold look at h1⊢
   rw[Jg hne]
   exact h1
 · rw[Jg (Ne.symm h4),Jg (Ne.symm h3)]
 · unfold look
   rw[Jg (Ne.symm hne),JX (by omega)]
   simp
 · unfold look
   rw[JX (by simp;omega)]
   simp
end Go.Lg
