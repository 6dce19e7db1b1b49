/- GpSG, GpV, GpW, GpBD, GpUB, GpUE, GpTG, GpTH, cut to what is needed. -/
import Derived.Test.YtidekghnkifbjaaGreatDoorJdd4
import Derived.Test.YtidekghnkifbjaaGreatDoorJdc3
import Derived.Test.YtidekghnkifbjaaGreatDoorJdb5
import Derived.Test.YtidekghnkifbjaaGreatDoorJdb6
import Derived.Test.YtidekghnkifbjaaGreatDoorJdb7
import Derived.Test.YtidekghnkifbjaaGreatDoorJdd1
import Derived.Test.YtidekghnkifbjaaGreatDoorJdc2
import Derived.Test.YtidekghnkifbjaaGreatDoorJdc0
import Derived.Test.YtidekghnkifbjaaGreatDoorJdc8
open List renaming length_cons → Ja, cons_append → Jb, getElem?_append_left → Jc, nil_append → Jd, length_nil → Je, replicate → Jf, getElem?_eq_some_iff → Jh, getElem?_set_ne → Ji, getElem?_eq_getElem → Jl, length_set → Jp, length_append → Jq, getElem?_eq_none → Ju, getElem?_take_of_lt → Jz, getElem?_set_self → JE, length_singleton → JQ, drop_zero → J1, mapM_cons → J3, mem_cons → Qn, mapM_nil → QB, not_mem_nil → Ub
open Nat renaming reduceAdd→zA,reduceMul→zM,reduceSub→zS,reduceEqDiff→zE,reduceLeDiff→zL
set_option linter.unusedSimpArgs false
set_option linter.unusedVariables false
set_option maxRecDepth 100000
namespace Go.Lg
open Go.Proofs
attribute [-go_sem] Qf J0
def smGD(q:QU):Prop:=smD q.task∧q.put.length≤16∧q.moves.length≤40
theorem smGD.sm{q:QU}(h:smGD q):smG q:=⟨h.1.sm,by have:=h.2.1;omega,by have:=h.2.2;omega⟩
theorem Jgg{q:QU}(hv:Qp q=true)(l:List UInt8):(Zk q l).task=q.task:=by
 unfold Zk
 rw[if_pos hv]
 split
 · unfold Zn;rw[if_pos hv];split<;>rfl
 · split
   · unfold Qz;rw[if_pos hv];split<;>rfl
   · rfl
theorem Ua.toL{H:Jn}{c:CV}{xs:List Int}{S:List Nat}(h:Ua H c xs S):UE (eI .i64) 1 H c xs∧∀k,Q6 c k→k∈S:=by
 cases h with
 |m=>exact⟨.m,fun k h=>h.elim⟩
 |o id g xs h=>exact⟨.o id g xs h,fun k hk=>by have:k=id:=hk;simp[this]⟩
def Jkr:CV→Nat→Bool
 | .own id _ _ _ _,k=>decide (k=id)
 |_,_=>false
theorem G0{c:CV}{k:Nat}:Jkr c k=true↔Q6 c k:=by
 cases c<;>simp[Jkr,Q6]
def Ke(S:Nat→Bool)(H:Jn):Jn:=(List.range H.length).map fun i=>if S i=true then none else H[i]?.join
theorem Wi(S:Nat→Bool)(H:Jn):(Ke S H).length=H.length:=by simp[Ke]
theorem B0{S:Nat→Bool}{H:Jn}{i:Nat}(h:S i=false):(Ke S H)[i]? =H[i]? :=by
 by_cases hl:i<H.length
 · simp[Ke,hl,h,Jl hl]
 · rw[Ju (by rw[Wi];omega),Ju (by omega)]
theorem Nk{S:Nat→Bool}{H:Jn}{i:Nat}{b:Zo}(h:(Ke S H)[i]? =some (some b)):S i=false∧H[i]? =some (some b):=by
 cases hs:S i with
 |false=>exact⟨rfl,by rw[←B0 hs];exact h⟩
 |true=>
  have hl:=(Jh.1 h).1
  rw[Wi]at hl
  simp[Ke,hl,hs]at h
theorem UE.frzI{S:Nat→Bool}{H:Jn}{c:CV}{xs:List Int}(h:UE (eI .i64) 1 H c xs)(hs:∀k,Q6 c k→S k=true):Lg.frzS S H 6 c=some (Ql xs):=by
 cases h with
 |n=>rfl
 |m=>rfl
 |o id g xs h=>
  have:=BY (S:=S) (lim:=none) (n:=xs.length) (off:=0) h (hs id rfl) (by omega) 5
  rwa [J1,List.take_length]at this
structure GmI(H HI:Jn)(id g:Nat)(B:Int)(g4 J gJ:Nat)(q:QU)(c3 c4:CV):Prop where
 out:look HI H.length g4=some ⟨g4,5,[.f (.int .i64 0), .f .nil, .f .nil, .f .nil, .f .nil]⟩
 cell:look HI J gJ=some ⟨gJ,5,[.f (.int .i64 q.task.size), .f (Ql q.task.given), .f (VN eR q.task.rules),c3,c4]⟩
 k3:UE (eI .i64) 1 HI c3 q.put
 k4:UE (eI .i64) 1 HI c4 q.moves
 d34:∀k,Q6 c3 k→¬Q6 c4 k
 i3:∀k,Q6 c3 k→H.length<k∧k≠J
 i4:∀k,Q6 c4 k→H.length<k∧k≠J
 rd:Uh HI id g B
 lt:id<H.length
 ln:H.length<J∧J<HI.length
 frm:∀k,k<H.length→k≠id→HI[k]? =H[k]?
structure GmF(H HI:Jn)(id g:Nat)(B:Int)(g4 J gJ:Nat)(q:QU):Prop where
 out:look HI H.length g4=some ⟨g4,5,[.f (.int .i64 0), .f .nil, .f .nil, .f .nil, .f .nil]⟩
 cell:look HI J gJ=some ⟨gJ,5,cG q⟩
 rd:Uh HI id g B
 lt:id<H.length
 ln:H.length<J∧J<HI.length
 frm:∀k,k<H.length→k≠id→HI[k]? =H[k]?
section
variable{H HI H2:Jn}{id g g4 J gJ:Nat}{B B':Int}{q:QU}{c3 c4:CV}
theorem GmI.mono(h:GmI H HI id g B g4 J gJ q c3 c4)(hb:B≤B'):GmI H HI id g B' g4 J gJ q c3 c4:={h with rd:=h.rd.mono hb}
theorem GmI.step(h:GmI H HI id g B g4 J gJ q c3 c4)(hs:∀i,H.length≤i→i<HI.length→H2[i]? =HI[i]?)(hl:HI.length≤H2.length)(hr:Uh H2 id g B')(hf:∀k,k<H.length→k≠id→H2[k]? =HI[k]?):GmI H H2 id g B' g4 J gJ q c3 c4:=by
 have hn:=h.ln
 have ho:=h.out
 have hc:=h.cell
 have e:∀{i gg:Nat},H.length≤i→i<HI.length→look H2 i gg=look HI i gg:=fun h1 h2=>by unfold look;rw[hs _ h1 h2]
 exact{out:=by rw[e (Nat.le_refl _) (by omega)];exact ho
       cell:=by rw[e (by omega) (by omega)];exact hc
       k3:=h.k3.same fun i hi hl'=>hs i (by have:=h.i3 i hi;omega) hl'
       k4:=h.k4.same fun i hi hl'=>hs i (by have:=h.i4 i hi;omega) hl'
       d34:=h.d34,i3:=h.i3,i4:=h.i4,rd:=hr,lt:=h.lt,ln:=by omega
       frm:=fun k hk hne=>by rw[hf k hk hne];exact h.frm k hk hne}
theorem GmI.pick(h:GmI H HI id g B g4 J gJ q c3 c4)(hr:Uh H2 id g B')(hf:WA HI H2 [id]):GmI H H2 id g B' g4 J gJ q c3 c4:=
 h.step (fun i hi _=>hf.2 i (by have:=h.lt;simp;omega)) (by rw[hf.1];omega) hr fun k _ hne=>hf.2 k (by simpa using hne)
theorem GmI.app{X:Jn}(h:GmI H HI id g B g4 J gJ q c3 c4):GmI H (HI++X) id g B g4 J gJ q c3 c4:=
 h.step (fun i _ hi=>Jc hi) (by simp) h.rd.app fun k hk _=>Jc (by have:=h.ln;omega)
theorem GmI.ice(h:GmI H HI id g B g4 J gJ q c3 c4):∃S HX,FS S HI HX∧HX.length=HI.length∧GmF H HX id g B g4 J gJ q:=by
 have hn:=h.ln
 have ht:=h.lt
 have hi3:=h.i3
 have hi4:=h.i4
 obtain⟨S,hS⟩:∃S:Nat→Bool,S=fun k=>Jkr c3 k||Jkr c4 k:=⟨_,rfl⟩
 have hS1:∀k,S k=true→H.length<k∧k≠J:=fun k hk=>by
  rw[hS]at hk
  simp only[Bool.or_eq_true,G0]at hk
  rcases hk with hk|hk
  · exact hi3 k hk
  · exact hi4 k hk
 have hS0:∀k,k≤H.length∨k=J→S k=false:=fun k hk=>by
  cases hs:S k with
  |false=>rfl
  |true=>
   have:=hS1 k hs
   omega
 have f3:frzS S HI 6 c3=some (Ql q.put):=h.k3.frzI fun k hk=>by rw[hS];simp[G0.2 hk]
 have f4:frzS S HI 6 c4=some (Ql q.moves):=h.k4.frzI fun k hk=>by rw[hS];simp[G0.2 hk]
 have hlt:J<(Ke S HI).length:=by rw[Wi];omega
 have hget:∀k,k≠J→S k=false→((Ke S HI).set J (some ⟨gJ,5,cG q⟩))[k]? =HI[k]? :=fun k hk hs=>by
  rw[Ji (Ne.symm hk),B0 hs]
 refine⟨S,(Ke S HI).set J (some ⟨gJ,5,cG q⟩),fun i b hb=> ?_,by rw[Jp,Wi], ?_⟩
 · by_cases hi:i=J
   · subst hi
     rw[JE hlt]at hb
     cases hb
     refine⟨hS0 i (.inr rfl),_,(JH h.cell).1,rfl,rfl,rfl,fun j hj=> ?_⟩
     have hj:j<5:=hj
     match j,hj with
     |0,_=>exact⟨_,rfl, .inl rfl⟩
     |1,_=>exact⟨_,rfl, .inl rfl⟩
     |2,_=>exact⟨_,rfl, .inl rfl⟩
     |3,_=>exact⟨_,rfl, .inr ⟨_,f3,rfl⟩⟩
     |4,_=>exact⟨_,rfl, .inr ⟨_,f4,rfl⟩⟩
   · rw[Ji (Ne.symm hi)]at hb
     obtain⟨h1,h2⟩:=Nk hb
     exact⟨h1,b,h2,rfl,rfl,rfl,fun j hj=>⟨b.cs[j],by rw[Jl hj], .inl rfl⟩⟩
 · have ho:=h.out
   exact{out:=by unfold look at*;rw[hget _ (by omega) (hS0 _ (by omega))];exact ho
         cell:=J7 hlt
         rd:=h.rd.same (hget _ (by omega) (hS0 _ (by omega)))
         lt:=ht,ln:=by rw[Jp,Wi];exact hn
         frm:=fun k hk hne=>by rw[hget _ (by omega) (hS0 _ (by omega))];exact h.frm k hk hne}
end
end Go.Lg

namespace Go.Lg
open Go.Proofs
theorem KQ(rs:List Zq)(k:Int)(hk:0≤k∧k+wM rs≤2^50)(hx:JdH rs):JM Tryz.prog 102 [Yf eR (mrk k rs),int k] (int (k+wM rs)):=by
 have hlen:=hx.1
 have hml:(mrk k rs).length=rs.length:=VD k rs
 refine Jk.cw (c:=_) Tryz.func102 rfl (n:=40) Tryz.ntmps102 (rs:=[.tmp 4]) rfl ?_
 simp only[Ja,Je,zA,zS,Jf,Jb,Jd]
 simp(maxSteps:=999999)(disch:=omega)only[go_sem,zA,zM,zS,zE,zL]
 refine JO (fun i:Nat=>rs.length -i) (fun i=>i≤rs.length) (fun i=>[.k, .p (int (k+wM (rs.take i))), .a, .a, .a, .p (int i), .a, .a, .a, .a, .a, .a, .a, .a, .a, .a, .a, .a, .a, .a, .a, .a, .a, .a, .a, .a, .a, .a, .a, .a, .a, .a, .a, .a, .a, .a, .a, .a, .a, .a]) (fun _=>[]) 0 (Nat.zero_le _) (by simp(maxSteps:=999999)(disch:=omega)only[go_sem,zA,zM,zS,zE,zL];simp[wM]) (J9 _) ?_
 intro i hi
 have hle:=Ya rs i
 simp(maxSteps:=999999)(disch:=omega)only[go_sem,zA,zM,zS,zE,zL,VD]
 ((first|(with_reducible first|refine Jm ?_ ?_|refine Jj ?_ ?_|refine Jo ?_ ?_)|refine Jr ?_ ?_)<;>intro h)
 · have h:i<rs.length:=by omega
   have hw1:wM (rs.take (i+1))=wM (rs.take i)+(2+(Jy rs i).cells.length):=by rw[Qa h,Jdt,Jhd]
   have hle2:=Ya rs (i+1)
   have hc:=hx.2 _ (Q8 h)
   simp(maxSteps:=999999)(disch:=omega)only[go_sem,zA,zM,zS,zE,zL,VD,Je2 h]
   first|refine JU.rd (Up (Jy rs i).cells.length (k+wM (rs.take i)+1) (by omega) (by omega)) (⟨_,Tryz.func67,rfl,rfl⟩:Jg Tryz.prog 67) rfl rfl rfl rfl ?_|refine JG.rd (Up (Jy rs i).cells.length (k+wM (rs.take i)+1) (by omega) (by omega)) (⟨_,Tryz.func67,rfl,rfl⟩:Jg Tryz.prog 67) rfl rfl rfl rfl ?_
   simp(maxSteps:=999999)(disch:=omega)only[go_sem,zA,zM,zS,zE,zL]
   simp(maxSteps:=999999)(disch:=omega)only[go_sem,zA,zM,zS,zE,zL,U7,Z6,Xs,VW,Vv,Ut,VD,Je2 h]
   exact⟨i+1,⟨h,by omega⟩,⟨by push_cast;omega,by omega⟩,J9 _⟩
 have h:i=rs.length:=by omega
 subst h
 simp(maxSteps:=999999)(disch:=omega)only[go_sem,zA,zM,zS,zE,zL]
 rw[List.take_length]
theorem Y7(p:QR)(k:Int)(hk:0≤k∧k+FG p≤2^50)(hx:RC p):JM Tryz.prog 66 [aP (Jf7 k p),int k] (int (k+FG p)):=by
 have h1:=hx.1
 unfold FG at hk
 refine Jk.cw (c:=_) Tryz.func66 rfl (n:=18) Tryz.ntmps66 (rs:=[.tmp 4]) rfl ?_
 simp only[Ja,Je,zA,zS,Jf,Jb,Jd]
 simp(maxSteps:=999999)(disch:=omega)only[go_sem,zA,zM,zS,zE,zL]
 intro g
 first|refine JU.rd (Up p.given.length k (by omega) h1) (⟨_,Tryz.func67,rfl,rfl⟩:Jg Tryz.prog 67) rfl rfl rfl rfl ?_|refine JG.rd (Up p.given.length k (by omega) h1) (⟨_,Tryz.func67,rfl,rfl⟩:Jg Tryz.prog 67) rfl rfl rfl rfl ?_
 simp(maxSteps:=999999)(disch:=omega)only[go_sem,zA,zM,zS,zE,zL]
 simp(maxSteps:=1000000) (disch:=omega)only[go_sem,U7,Z6,Xs,VW,Vv,Ut,Nat.reduceAdd,Nat.reduceMul,Nat.reduceSub,Nat.reduceEqDiff,Nat.reduceLeDiff]
 first|refine JU.rd (KQ p.rules (k+p.given.length) (by omega) hx.2) (⟨_,Tryz.func102,rfl,rfl⟩:Jg Tryz.prog 102) rfl rfl rfl rfl ?_|refine JG.rd (KQ p.rules (k+p.given.length) (by omega) hx.2) (⟨_,Tryz.func102,rfl,rfl⟩:Jg Tryz.prog 102) rfl rfl rfl rfl ?_
 simp(maxSteps:=999999)(disch:=omega)only[go_sem,zA,zM,zS,zE,zL]
 simp(maxSteps:=1000000) (disch:=omega)only[go_sem,U7,Z6,Xs,VW,Vv,Ut,Nat.reduceAdd,Nat.reduceMul,Nat.reduceSub,Nat.reduceEqDiff,Nat.reduceLeDiff]
 unfold FG
 push_cast
 omega
theorem WK(q:QU)(k:Int)(hk:0≤k∧k+Rw q≤2^50)(hx:smG q):JM Tryz.prog 27 [aG (mrkG k q),int k] (int (k+Rw q)):=by
 obtain⟨h1,h2,h3⟩:=hx
 unfold Rw at hk
 refine Jk.cw (c:=_) Tryz.func27 rfl (n:=24) Tryz.ntmps27 (rs:=[.tmp 4]) rfl ?_
 simp only[Ja,Je,zA,zS,Jf,Jb,Jd]
 simp(maxSteps:=999999)(disch:=omega)only[go_sem,zA,zM,zS,zE,zL]
 intro g
 first|refine JU.rd (Y7 q.task k (by omega) h1) (⟨_,Tryz.func66,rfl,rfl⟩:Jg Tryz.prog 66) rfl rfl rfl rfl ?_|refine JG.rd (Y7 q.task k (by omega) h1) (⟨_,Tryz.func66,rfl,rfl⟩:Jg Tryz.prog 66) rfl rfl rfl rfl ?_
 simp(maxSteps:=999999)(disch:=omega)only[go_sem,zA,zM,zS,zE,zL]
 simp(maxSteps:=1000000) (disch:=omega)only[go_sem,U7,Z6,Xs,VW,Vv,Ut,Nat.reduceAdd,Nat.reduceMul,Nat.reduceSub,Nat.reduceEqDiff,Nat.reduceLeDiff]
 first|refine JU.rd (Up q.put.length (k+FG q.task) (by omega) h2) (⟨_,Tryz.func67,rfl,rfl⟩:Jg Tryz.prog 67) rfl rfl rfl rfl ?_|refine JG.rd (Up q.put.length (k+FG q.task) (by omega) h2) (⟨_,Tryz.func67,rfl,rfl⟩:Jg Tryz.prog 67) rfl rfl rfl rfl ?_
 simp(maxSteps:=999999)(disch:=omega)only[go_sem,zA,zM,zS,zE,zL]
 simp(maxSteps:=1000000) (disch:=omega)only[go_sem,U7,Z6,Xs,VW,Vv,Ut,Nat.reduceAdd,Nat.reduceMul,Nat.reduceSub,Nat.reduceEqDiff,Nat.reduceLeDiff]
 first|refine JU.rd (Up q.moves.length (k+FG q.task+q.put.length) (by omega) h3) (⟨_,Tryz.func67,rfl,rfl⟩:Jg Tryz.prog 67) rfl rfl rfl rfl ?_|refine JG.rd (Up q.moves.length (k+FG q.task+q.put.length) (by omega) h3) (⟨_,Tryz.func67,rfl,rfl⟩:Jg Tryz.prog 67) rfl rfl rfl rfl ?_
 simp(maxSteps:=999999)(disch:=omega)only[go_sem,zA,zM,zS,zE,zL]
 simp(maxSteps:=1000000) (disch:=omega)only[go_sem,U7,Z6,Xs,VW,Vv,Ut,Nat.reduceAdd,Nat.reduceMul,Nat.reduceSub,Nat.reduceEqDiff,Nat.reduceLeDiff]
 unfold Rw
 push_cast
 omega
end Go.Lg

namespace Go.Lg
open Go.Proofs
theorem JaF{A B:Jn}{x:Option Zo}{g sz:Nat}{cs:List CV}:look (A++[x]++B++[some ⟨g,sz,cs⟩]) (A.length+1+B.length) g=some ⟨g,sz,cs⟩:=by
 have:=JF (H:=A++[x]++B) (g:=g) (sz:=sz) (cs:=cs)
 simpa only[Jq,JQ]using this
theorem Jhv{A B:Jn}{x y z:Option Zo}:(A++[x]++B++[y]).set (A.length+1+B.length) z=A++[x]++B++[z]:=by
 have:=Qy (H:=A++[x]++B) (x:=y) (y:=z)
 simpa only[Jq,JQ]using this
theorem JaE{A B C:Jn}{g sz:Nat}{cs:List CV}:look (A++[some ⟨g,sz,cs⟩]++B++C) A.length g=some ⟨g,sz,cs⟩:=by
 rw[Vd (by simp),Vd (by simp),JF]
end Go.Lg

namespace Go.Lg
open Go.Proofs
theorem N0{q:QU}{cell value:Int}(hx:smG q):smG (Zn q cell value)∧Rw (Zn q cell value)≤Rw q+1:=by
 unfold Zn
 split
 · rename_i h
   obtain⟨h1,h2,h3,h4,h5,h6⟩:=Zf h
   split
   · exact⟨⟨hx.1,by simpa using hx.2.1,by simp;omega⟩,by simp[Rw,FG];omega⟩
   · exact⟨hx,by omega⟩
 · exact⟨⟨⟨by simp[ZQ],by simp[ZQ],by simp[ZQ]⟩,by simp[ZQ],by simp[ZQ]⟩,by simp[Rw,FG,wM,ZQ]⟩
theorem Nc{q:QU}(hx:smG q):smG (Qz q)∧Rw (Qz q)≤Rw q+1:=by
 unfold Qz
 split
 · split
   · exact⟨hx,by omega⟩
   · have:=hx.2.2
     exact⟨⟨hx.1,by simpa using hx.2.1,by simp;omega⟩,by simp[Rw,FG];omega⟩
 · exact⟨⟨⟨by simp[ZQ],by simp[ZQ],by simp[ZQ]⟩,by simp[ZQ],by simp[ZQ]⟩,by simp[Rw,FG,wM,ZQ]⟩
end Go.Lg

namespace Go.Lg
open Go.Proofs
attribute [-go_sem] Qf J0
inductive WQ(H:Jn):CV→List Int→List Nat→Prop where
 |z (xs:List Int):WQ H (.f (Ql xs)) xs []
 |e (c:CV) (xs:List Int) (S:List Nat) (h:Ua H c xs S):WQ H c xs S
theorem WQ.frzC{H:Jn}{c:CV}{xs:List Int}{S:List Nat}(h:WQ H c xs S):Lg.frzC H c=some (.f (Ql xs)):=by
 cases h with
 |z xs=>rfl
 |e c xs S h=>exact h.frzC
theorem WQ.same{H H':Jn}{c:CV}{xs:List Int}{S:List Nat}(h:WQ H c xs S)(hs:∀i∈S,H'[i]? =H[i]?):WQ H' c xs S:=by
 cases h with
 |z xs=>exact .z _
 |e c xs S h=>exact .e _ _ _ (h.same hs)
theorem WQ.shift{H0 H:Jn}{c:CV}{xs:List Int}{S:List Nat}(h:WQ H c xs S):WQ (H0++Q1 H0.length H) (ZT H0.length c) xs (S.map (· +H0.length)):=by
 cases h with
 |z xs=>exact .z _
 |e c xs S h=>exact .e _ _ _ h.shift
theorem WQ.lt{H:Jn}{c:CV}{xs:List Int}{S:List Nat}(h:WQ H c xs S):∀i∈S,i<H.length:=by
 cases h with
 |z xs=>simp
 |e c xs S h=>exact h.lt
theorem WQ.frzI{S:Nat→Bool}{H:Jn}{c:CV}{xs:List Int}{T:List Nat}(h:WQ H c xs T)(hs:∀k∈T,S k=true):Lg.frzS S H 6 c=some (Ql xs):=by
 cases h with
 |z xs=>
  show some (nzF (.sl xs.length (fl (eI .i64) xs)))=_
  rw[GC,RZ]
 |e c xs S h=>
  obtain⟨t,t'⟩:=h.toL
  exact t.frzI fun k hk=>hs k (t' k hk)
def Jfj(q:QU)(t:List UInt8):KV:=fun v H=>∃c3 c4,v= .tup [aE q c3 c4,W0 t]∧∃S3 S4,WQ H c3 q.put S3∧WQ H c4 q.moves S4
section
variable{P:Program}{o:Oper}{st:St}{K:KV}{fo:Operand}{xs:Array Operand}{ts:Array TypeId}{f:FuncId}{args args':List AV}
theorem JM.ownX{q:QU}{t:List UInt8}(h:Jk P f args [] (Jfj q t)):JM P f args (.tup [aG q,W0 t]):=
 JM.ice h fun r H' ⟨c3,c4,h1,S3,S4,h3,h4⟩=>by
  subst h1
  have e1:∀x,frzC H' (.f (.int .i64 x))=some (.f (.int .i64 x)):=fun x=>rfl
  have e2:∀x,frzC H' (.f (Ql x))=some (.f (Ql x)):=fun x=>rfl
  have e3:∀x,frzC H' (.f (VN eR x))=some (.f (VN eR x)):=fun x=>rfl
  have e4:∀x,frzC H' (.f (.str x))=some (.f (.str x)):=fun x=>rfl
  simp only[aE,Vu,J3,QB,XA,h3.frzC,h4.frzC,e1,e2,e3,e4,Option.pure_def,Option.bind_eq_bind,Option.bind_some,Option.map_some]
end
theorem YU(q:QU)(l:List UInt8)(hx:smG q)(hl:l.length≤2^40):Jk Tryz.prog 31 [aG q,W0 l] [] (Jfj (Zk q l) (UB q l)):=by
 cases hv:Qp q with
 |true=>
  refine(NM q l hx hl hv).weaker fun v H' ⟨c3,c4,h1,S3,S4,h3,h4,hd⟩=>⟨H',J5.refl _,c3,c4,h1,S3,S4, .e _ _ _ h3, .e _ _ _ h4⟩
 |false=>
  have e1:Zk q l=ZQ:=by unfold Zk;rw[hv];rfl
  have e2:UB q l=[]:=by unfold UB;rw[hv];rfl
  rw[e1,e2]
  refine Jk.nz ?_
  refine Jk.cw (c:=_) Tryz.func31 rfl (n:=113) Tryz.ntmps31 (rs:=[.cell 4 28, .tmp 5]) rfl ?_
  simp only[Ja,Je,zA,zS,Jf,Jb,Jd]
  simp(maxSteps:=999999)(disch:=omega)only[go_sem,zA,zM,zS,zE,zL]
  intro g1 g2
  first|refine JU.rd (Q3 q hx) (⟨_,Tryz.func12,rfl,rfl⟩:Jg Tryz.prog 12) rfl rfl rfl rfl ?_|refine JG.rd (Q3 q hx) (⟨_,Tryz.func12,rfl,rfl⟩:Jg Tryz.prog 12) rfl rfl rfl rfl ?_
  simp(maxSteps:=999999)(disch:=omega)only[go_sem,zA,zM,zS,zE,zL]
  rw[hv]
  simp(maxSteps:=999999)(disch:=omega)only[go_sem,zA,zM,zS,zE,zL]
  exact⟨_,J5.refl _,_,_,rfl,[],[], .z [], .z []⟩
theorem NL(q:QU)(l:List UInt8)(hx:smG q)(hl:l.length≤2^40):JM Tryz.prog 31 [aG q,W0 l] (.tup [aG (Zk q l),W0 (UB q l)]):=JM.ownX (YU q l hx hl)
theorem Jfc{q:QU}(h:smG q)(l:List UInt8):smG (Zk q l)∧Rw (Zk q l)≤Rw q+1:=by
 unfold Zk
 split
 · split
   · exact N0 h
   · split
     · exact Nc h
     · exact⟨h,by omega⟩
 · exact⟨⟨⟨by simp[ZQ],by simp[ZQ],by simp[ZQ]⟩,by simp[ZQ],by simp[ZQ]⟩,by simp[Rw,FG,wM,ZQ]⟩
end Go.Lg

namespace Go.Lg
open Go.Proofs
set_option maxHeartbeats 4000000 in
theorem KC(q:QU)(l:List UInt8)(h1:okG q)(hll:l.length≤9223372036854775807):JM Tryz.prog 6 [aG q,W0 l] (bool true):=by
 refine Jk.cw (c:=_) Tryz.func6 rfl (n:=104) Tryz.ntmps6 (rs:=[.tmp 4]) rfl ?_
 simp only[Ja,Je,zA,zS,Jf,Jb,Jd]
 simp(maxSteps:=999999)(disch:=omega)only[go_sem,zA,zM,zS,zE,zL]
 intro g
 ((first|(with_reducible first|refine Jm ?_ ?_|refine Jj ?_ ?_|refine Jo ?_ ?_)|refine Jr ?_ ?_)<;>intro h0)
 · simp(maxSteps:=999999)(disch:=omega)only[go_sem,zA,zM,zS,zE,zL]
 simp(maxSteps:=999999)(disch:=omega)only[go_sem,zA,zM,zS,zE,zL]
 first|refine JU.rd (Yc q 1048576 (by omega) h1) (⟨_,Tryz.func17,rfl,rfl⟩:Jg Tryz.prog 17) rfl rfl rfl rfl ?_|refine JG.rd (Yc q 1048576 (by omega) h1) (⟨_,Tryz.func17,rfl,rfl⟩:Jg Tryz.prog 17) rfl rfl rfl rfl ?_
 simp(maxSteps:=999999)(disch:=omega)only[go_sem,zA,zM,zS,zE,zL]
 ((first|(with_reducible first|refine Jm ?_ ?_|refine Jj ?_ ?_|refine Jo ?_ ?_)|refine Jr ?_ ?_)<;>intro h)
 · simp(maxSteps:=999999)(disch:=omega)only[go_sem,zA,zM,zS,zE,zL]
 obtain⟨hw,_⟩:=JdA h
 have hs:smG q:=Jhq (n:=1048576) (by omega) (by omega)
 have hwm:=Jae q
 obtain⟨hsg,hwg⟩:=Jfc hs l
 obtain⟨q2,hq2⟩:∃q2,q2=Zk q l:=⟨_,rfl⟩
 obtain⟨rb,hrb⟩:∃rb,rb=UB q l:=⟨_,rfl⟩
 have hspec:=NL q l hs (by omega)
 have himpl:=Bu q l hs (by omega)
 rw[←hq2]at hsg hwg hspec himpl
 rw[←hrb]at hspec himpl
 clear hq2 hrb
 have hbb:decide (rb=rb)=true:=decide_eq_true rfl
 simp(maxSteps:=999999)(disch:=omega)only[go_sem,zA,zM,zS,zE,zL]
 first|refine JU.mk (Us q hs) (⟨_,Tryz.func20,rfl,rfl⟩:Jg Tryz.prog 20) rfl rfl rfl rfl rfl ?_|refine JG.mk (Us q hs) (⟨_,Tryz.func20,rfl,rfl⟩:Jg Tryz.prog 20) rfl rfl rfl rfl rfl ?_
 simp(maxSteps:=999999)(disch:=omega)only[go_sem,zA,zM,zS,zE,zL]
 first|refine JU.mk (hspec) (⟨_,Tryz.func31,rfl,rfl⟩:Jg Tryz.prog 31) rfl rfl rfl rfl rfl ?_|refine JG.mk (hspec) (⟨_,Tryz.func31,rfl,rfl⟩:Jg Tryz.prog 31) rfl rfl rfl rfl rfl ?_
 simp(maxSteps:=999999)(disch:=omega)only[go_sem,zA,zM,zS,zE,zL]
 intro gw
 refine JU.mkG (B9 q hs) (⟨_,Tryz.func20,rfl,rfl⟩:Jg Tryz.prog 20) rfl rfl rfl ?_
 intro cs H1 S1 hP1 hS1
 simp only[Ja,Je]at hS1
 obtain⟨c1,c2,c3,c4,T1,T2,T3,T4,rfl,eS,k1,k2,k3,k4⟩:=hP1.ex
 simp(maxSteps:=999999)(disch:=omega)only[go_sem,zA,zM,zS,zE,zL,JF,Qy]
 intro g2
 have hP2:=hP1.app (H':=[some ⟨g2,5,[.f (.int .i64 q.task.size),c1,c2,c3,c4]⟩])
 refine JU.mkDGT himpl (⟨_,Tryz.func15,rfl,rfl⟩:Jg Tryz.prog 15) rfl rfl (QW hP2.snap rfl) ?_
 intro cs H2 S2 hG1 hS2
 simp only[Ja,Jq,Je]at hS2
 obtain⟨d1,d2,d3,d4,U1,U2,U3,U4,rfl,eU,m1,m2,m3,m4⟩:=hG1.ex
 simp(maxSteps:=999999)(disch:=omega)only[go_sem,zA,zM,zS,zE,zL,JF,Qy]
 intro g3
 simp(maxSteps:=999999)(disch:=omega)only[go_sem,zA,zM,zS,zE,zL,JaF,Jhv]
 have hG2:=hG1.app (H':=[some ⟨g3,5,[.f (.int .i64 q2.task.size),d1,d2,d3,d4]⟩])
 refine JU.rdD (Uu q2 q2 hsg) (⟨_,Tryz.func23,rfl,rfl⟩:Jg Tryz.prog 23) rfl rfl (QW hG2.snap Wr) rfl ?_
 simp(maxSteps:=999999)(disch:=omega)only[go_sem,zA,zM,zS,zE,zL]
 have hP3:=(hP2.app (H':=H2)).app (H':=[some ⟨g3,5,[.f (.int .i64 q2.task.size),d1,d2,d3,d4]⟩])
 refine Z5 [0,1,2] [] none [3,4] [] [0,0,2,7,15] ZE (by kernel_rfl) ?_
 simp(maxSteps:=999999)(disch:=omega)only[go_sem,Nat.reduceBEq,Bool.true_or,zA,zM,zS,zE,zL]
 rw[JaE]
 simp(maxSteps:=999999)(disch:=omega)only[go_sem,zA,zM,zS,zE,zL]
 refine JG.mk (Us q hs) (⟨_,Tryz.func20,rfl,rfl⟩:Jg Tryz.prog 20) rfl rfl rfl rfl rfl ?_
 simp(maxSteps:=999999)(disch:=omega)only[go_sem,zA,zM,zS,zE,zL]
 refine JU.rdD (Uu q q hs) (⟨_,Tryz.func23,rfl,rfl⟩:Jg Tryz.prog 23) rfl rfl (QW hP3.snap Wr) rfl ?_
 simp(maxSteps:=999999)(disch:=omega)only[go_sem,zA,zM,zS,zE,zL]
 rw[JaE]
 simp(maxSteps:=999999)(disch:=omega)only[go_sem,zA,zM,zS,zE,zL]
 refine JU.run (Wo _ _ q S1 1 hP3 (by omega) hs) (⟨_,Tryz.func25,rfl,rfl⟩:Jg Tryz.prog 25) rfl rfl ?_
 rintro _ H3 ⟨rfl,hp1,f3⟩
 have hG3:=hG2.frm f3 fun i hi hm=>by
  have:=hS2 i hi
  have:=hS1 i hm
  omega
 have hb0:look H3 0 g=some ⟨g,1,cG q⟩:=by
  rw[f3.look fun hm=>by have:=hS1 0 hm;omega]
  exact XR
 have hb1:look H3 1 gw=some ⟨gw,5,cG q2⟩:=by
  rw[f3.look fun hm=>by have:=hS1 1 hm;omega]
  simp only[go_sem]
 have hb3:look H3 (H1.length+1+H2.length+1+1) g3=some ⟨g3,5,[.f (.int .i64 q2.task.size),d1,d2,d3,d4]⟩:=by
  rw[f3.look fun hm=>by have:=hS1 _ hm;omega]
  simp only[go_sem]
  exact JaF
 simp(maxSteps:=1000000) (disch:=omega)only[go_sem,U7,Z6,Xs,VW,Vv,Ut,Nat.reduceAdd,Nat.reduceMul,Nat.reduceSub,Nat.reduceEqDiff,Nat.reduceLeDiff]
 rw[hb3]
 simp(maxSteps:=999999)(disch:=omega)only[go_sem,zA,zM,zS,zE,zL]
 rw[hb1]
 simp(maxSteps:=999999)(disch:=omega)only[go_sem,zA,zM,zS,zE,zL]
 refine JU.rdD (Uu q2 q2 hsg) (⟨_,Tryz.func23,rfl,rfl⟩:Jg Tryz.prog 23) rfl rfl (QW hG3.snap Wr) rfl ?_
 simp(maxSteps:=999999)(disch:=omega)only[go_sem,zA,zM,zS,zE,zL]
 rw[hb3]
 simp(maxSteps:=999999)(disch:=omega)only[go_sem,zA,zM,zS,zE,zL]
 refine JU.run (Wo _ _ q2 S2 1 hG3 (by omega) hsg) (⟨_,Tryz.func25,rfl,rfl⟩:Jg Tryz.prog 25) rfl rfl ?_
 rintro _ H4 ⟨rfl,hG4,f4⟩
 have hb40:look H4 0 g=some ⟨g,1,cG q⟩:=by
  rw[f4.look fun hm=>by have:=hS2 0 hm;omega]
  exact hb0
 have hb41:look H4 1 gw=some ⟨gw,5,cG q2⟩:=by
  rw[f4.look fun hm=>by have:=hS2 1 hm;omega]
  exact hb1
 have hb43:look H4 (H1.length+1+H2.length+1+1) g3=some ⟨g3,5,[.f (.int .i64 q2.task.size),d1,d2,d3,d4]⟩:=by
  rw[f4.look fun hm=>by have:=hS2 _ hm;omega]
  exact hb3
 simp(maxSteps:=999999)(disch:=omega)only[go_sem,zA,zM,zS,zE,zL]
 rw[hb43]
 simp(maxSteps:=999999)(disch:=omega)only[go_sem,zA,zM,zS,zE,zL]
 refine JU.rdD (WK q2 1 (by omega) hsg) (⟨_,Tryz.func27,rfl,rfl⟩:Jg Tryz.prog 27) rfl rfl (QW hG4.snap UU) rfl ?_
 simp(maxSteps:=1000000) (disch:=omega)only[go_sem,U7,Z6,Xs,VW,Vv,Ut,Nat.reduceAdd,Nat.reduceMul,Nat.reduceSub,Nat.reduceEqDiff,Nat.reduceLeDiff]
 rw[hb40]
 simp(maxSteps:=999999)(disch:=omega)only[go_sem,zA,zM,zS,zE,zL]
 first|refine JU.mk (Us q hs) (⟨_,Tryz.func20,rfl,rfl⟩:Jg Tryz.prog 20) rfl rfl rfl rfl rfl ?_|refine JG.mk (Us q hs) (⟨_,Tryz.func20,rfl,rfl⟩:Jg Tryz.prog 20) rfl rfl rfl rfl rfl ?_
 simp(maxSteps:=999999)(disch:=omega)only[go_sem,zA,zM,zS,zE,zL]
 first|refine JU.mk (JM.ownGT himpl) (⟨_,Tryz.func15,rfl,rfl⟩:Jg Tryz.prog 15) rfl rfl rfl rfl rfl ?_|refine JG.mk (JM.ownGT himpl) (⟨_,Tryz.func15,rfl,rfl⟩:Jg Tryz.prog 15) rfl rfl rfl rfl rfl ?_
 simp(maxSteps:=999999)(disch:=omega)only[go_sem,zA,zM,zS,zE,zL]
 intro g4
 have hlen4:H4.length=H1.length+1+H2.length+1+1+1:=by
  rw[f4.1,f3.1]
  simp
  omega
 simp(maxSteps:=999999)(disch:=omega)only[go_sem,zA,zM,zS,zE,zL,JF,Qy]
 rw[Vd (by omega),hb41]
 simp(maxSteps:=999999)(disch:=omega)only[go_sem,zA,zM,zS,zE,zL]
 first|refine JU.rd (Uu q2 q2 hsg) (⟨_,Tryz.func23,rfl,rfl⟩:Jg Tryz.prog 23) rfl rfl rfl rfl ?_|refine JG.rd (Uu q2 q2 hsg) (⟨_,Tryz.func23,rfl,rfl⟩:Jg Tryz.prog 23) rfl rfl rfl rfl ?_
 simp(maxSteps:=999999)(disch:=omega)only[go_sem,zA,zM,zS,zE,zL]
 rw[Vd (by omega),hb43]
 simp(maxSteps:=999999)(disch:=omega)only[go_sem,zA,zM,zS,zE,zL]
 refine JU.rdD (WK q2 1 (by omega) hsg) (⟨_,Tryz.func27,rfl,rfl⟩:Jg Tryz.prog 27) rfl rfl (QW (hG4.app (H':=[some ⟨g4,5,cG q2⟩])).snap UU) rfl ?_
 simp(maxSteps:=1000000) (disch:=omega)only[go_sem,U7,Z6,Xs,VW,Vv,Ut,Nat.reduceAdd,Nat.reduceMul,Nat.reduceSub,Nat.reduceEqDiff,Nat.reduceLeDiff]
end Go.Lg

namespace Go.Lg
open Go.Proofs
attribute [-go_sem] Qf J0
abbrev JiS (g:Nat) (b:Brn):Jn:=[some ⟨g,2,cB b⟩]
def mkQ(H:Jn)(id:Nat)(R:List Brn):KV:=fun v H'=>∃g',v= .c (.own id g' 0 R.length none)∧look H' id g'=some ⟨g',2,cl eB R⟩∧WA H H' [id]
structure MkI(H HI:Jn)(id g gb:Nat)(p:QR)(out:List Brn):Prop where
 cells:look HI id g=some ⟨g,2,cl eB out⟩
 box:look HI H.length gb=some ⟨gb,1,cP p⟩
 lt:id<H.length
 ln:H.length+1≤HI.length
 frm:∀i,i<H.length→i≠id→HI[i]? =H[i]?
theorem MkI.done{H HI:Jn}{id g gb:Nat}{p:QR}{out:List Brn}(h:MkI H HI id g gb p out):Uo HI (mkQ H id out) (.c (.own id g 0 out.length none)):=by
 have hl:=h.lt
 have hn:=h.ln
 refine⟨HI.take H.length,fun i b hb=> ?_,g,rfl, ?_,by simp;omega,fun i hi=> ?_⟩
 · by_cases hi:i<H.length
   · rwa [Jz hi]at hb
   · rw[List.getElem?_take_eq_none (by omega)]at hb;cases hb
 · have hc:=h.cells
   unfold look at hc⊢
   rw[Jz hl]
   exact hc
 · by_cases h2:i<H.length
   · rw[Jz h2,h.frm i h2 (by simpa using hi)]
   · rw[List.getElem?_take_eq_none (by omega),Ju (by omega)]
theorem MkI.app{H HI H':Jn}{id g gb:Nat}{p:QR}{out:List Brn}(h:MkI H HI id g gb p out):MkI H (HI++H') id g gb p out:=
 ⟨J2 h.cells,J2 h.box,h.lt,by have:=h.ln;simp;omega,fun i h1 h2=>by rw[Jc (by have:=h.ln;omega)];exact h.frm i h1 h2⟩
theorem MkI.put{H HI:Jn}{id g gb:Nat}{p:QR}{out R:List Brn}(h:MkI H HI id g gb p out)(g':Nat):MkI H (HI.set id (some ⟨g',2,cl eB R⟩)) id g' gb p R:=by
 have hl:=h.lt
 have hn:=h.ln
 refine⟨?_, ?_,hl,by simp;omega,fun i h1 h2=>by rw[Ji (Ne.symm h2)];exact h.frm i h1 h2⟩
 · unfold look
   rw[JE (by omega)]
   simp
 · have hb:=h.box
   unfold look at hb⊢
   rw[Ji (by omega)]
   exact hb
theorem MkI.step{H HI H':Jn}{id g g' gb:Nat}{p:QR}{out R:List Brn}(h:MkI H HI id g gb p out)(hf:WA HI H' [id])(hc:look H' id g'=some ⟨g',2,cl eB R⟩):MkI H H' id g' gb p R:=by
 have hl:=h.lt
 have hn:=h.ln
 refine⟨hc, ?_,hl,by rw[hf.1];exact hn,fun i h1 h2=>by rw[hf.2 i (by simpa using h2)];exact h.frm i h1 h2⟩
 have hb:=h.box
 unfold look at hb⊢
 rw[hf.2 _ (by simp;omega)]
 exact hb
end Go.Lg

namespace Go.Lg
open Go.Proofs
attribute [-go_sem] Qf J0
theorem JU.iceOne{P:Program}{o:Oper}{s:List AV}{H H':Jn}{K:KV}(j0:Nat)(y:AV)(S:Nat→Bool)(hh:FS S H H')(hy:JeG S H (s.getD j0 .void) y)(h:JU P o ⟨s.set j0 y,H'⟩ K):JU P o ⟨s,H⟩ K:=by
 intro w X a R next Q hn
 have R':Xk w (X.iceS S H) a ⟨s.set j0 y,H'⟩:=by
  refine⟨R.defs,by rw[R.size];simp,fun i hi=> ?_,G1 R.heap hh⟩
  have hi':i<s.length:=by simpa using hi
  obtain⟨u,h1,h2⟩:=R.slot i hi'
  refine⟨u,h1, ?_⟩
  show VA w (X.iceS S H) H' ((s.set j0 y)[i]) u
  rw[List.getElem_set]
  split
  · rename_i e
    subst e
    have e2:s.getD j0 .void=s[j0]:=by simp[List.getD,Jl hi']
    rw[e2]at hy
    exact Yn R.heap hh hy h2
  · exact Yn R.heap hh (.o _ _ (.s _)) h2
 exact h w _ a R' next Q fun v u X' H'' w' h1 h2 h3 h4=>hn v u X' H'' w' h1 h2 ((Bc hh).trans h3) h4
structure MkJ(H HI:Jn)(id pid g pg gb:Nat)(p:QR)(out:List Brn):Prop where
 cells:look HI id g=some ⟨g,2,cl eB out⟩
 cell:look HI pid pg=some ⟨pg,1,[.own id g 0 out.length none]⟩
 box:look HI H.length gb=some ⟨gb,1,cP p⟩
 lt:id<H.length
 lt2:pid<H.length
 ne:id≠pid
 ln:H.length+1≤HI.length
 frm:∀i,i<H.length→i≠id→i≠pid→HI[i]? =H[i]?
def mkQ2(H:Jn)(id pid pg:Nat)(R:List Brn):KV:=fun v H'=>v= .tup []∧∃g',look H' id g'=some ⟨g',2,cl eB R⟩∧look H' pid pg=some ⟨pg,1,[.own id g' 0 R.length none]⟩∧WA H H' [id,pid]
theorem MkJ.done{H HI:Jn}{id pid g pg gb:Nat}{p:QR}{out:List Brn}(h:MkJ H HI id pid g pg gb p out):Uo HI (mkQ2 H id pid pg out) (.tup []):=by
 have hl:=h.lt
 have hl2:=h.lt2
 have hn:=h.ln
 refine⟨HI.take H.length,fun i b hb=> ?_,rfl,g, ?_, ?_,by simp;omega,fun i hi=> ?_⟩
 · by_cases hi:i<H.length
   · rwa [Jz hi]at hb
   · rw[List.getElem?_take_eq_none (by omega)]at hb;cases hb
 · have hc:=h.cells
   unfold look at hc⊢
   rw[Jz hl]
   exact hc
 · have hc:=h.cell
   unfold look at hc⊢
   rw[Jz hl2]
   exact hc
 · simp only[Qn,Ub,or_false,not_or]at hi
   by_cases h2:i<H.length
   · rw[Jz h2,h.frm i h2 hi.1 hi.2]
   · rw[List.getElem?_take_eq_none (by omega),Ju (by omega)]
theorem MkJ.app{H HI H':Jn}{id pid g pg gb:Nat}{p:QR}{out:List Brn}(h:MkJ H HI id pid g pg gb p out):MkJ H (HI++H') id pid g pg gb p out:=
 ⟨J2 h.cells,J2 h.cell,J2 h.box,h.lt,h.lt2,h.ne,by have:=h.ln;simp;omega,fun i h1 h2 h3=>by rw[Jc (by have:=h.ln;omega)];exact h.frm i h1 h2 h3⟩
theorem MkJ.step{H HI H':Jn}{id pid g g' pg gb:Nat}{p:QR}{out R:List Brn}(h:MkJ H HI id pid g pg gb p out)(hf:∀i,i<HI.length→i≠id→i≠pid→i≤H.length→H'[i]? =HI[i]?)(hln:HI.length≤H'.length)(hc:look H' id g'=some ⟨g',2,cl eB R⟩)(hc2:look H' pid pg=some ⟨pg,1,[.own id g' 0 R.length none]⟩):MkJ H H' id pid g' pg gb p R:=by
 have hl:=h.lt
 have hl2:=h.lt2
 have hn:=h.ln
 refine⟨hc,hc2, ?_,hl,hl2,h.ne,by omega,fun i h1 h2 h3=>by rw[hf i (by omega) h2 h3 (by omega)];exact h.frm i h1 h2 h3⟩
 have hb:=h.box
 unfold look at hb⊢
 rw[hf _ (by omega) (by omega) (by omega) (Nat.le_refl _)]
 exact hb
theorem MkJ.push{H HI:Jn}{id pid g pg gb:Nat}{p:QR}{out:List Brn}(h:MkJ H HI id pid g pg gb p out)(b:Brn)(g1 g':Nat):
 look ((HI++JiS g1 b).set id (some ⟨g',2,cl eB (out++[b])⟩)) pid pg=some ⟨pg,1,[.own id g 0 out.length none]⟩∧
 MkJ H (((HI++JiS g1 b).set id (some ⟨g',2,cl eB (out++[b])⟩)).set pid (some ⟨pg,1,[.own id g' 0 (out.length+1) none]⟩)) id pid g' pg gb p (out++[b]):=by
 have hl:=h.lt
 have hl2:=h.lt2
 have hn:=h.ln
 have hne:=h.ne
 have h1:=(h.app (H':=JiS g1 b)).cell
 have hlen:(HI++JiS g1 b).length=HI.length+1:=by simp
 refine⟨?_,(h.app (H':=JiS g1 b)).step (fun i h2 h3 h4 _=> ?_) (by simp) ?_ ?_⟩
 · unfold look at h1⊢
   rw[Ji hne]
   exact h1
 · rw[Ji (Ne.symm h4),Ji (Ne.symm h3)]
 · unfold look
   rw[Ji (Ne.symm hne),JE (by omega)]
   simp
 · unfold look
   rw[JE (by simp;omega)]
   simp
end Go.Lg
