/- GpGC, GpGD, GpGE, GpFA, GpGF, GpGG, GpVG, GpA, GpB, GpD, GpK, GpL, cut to what is needed. -/
import Derived.Test.YtiahmfdabpafoaaDoorHac0
import Derived.Test.YtiahmfdabpafoaaDoorHac1
import Derived.Test.YtiahmfdabpafoaaDoorHab5
import Derived.Test.YtiahmfdabpafoaaDoorHac2
import Derived.Test.YtiahmfdabpafoaaDoorHab2
import Derived.Test.YtiahmfdabpafoaaDoorHab6
open Nat renaming reduceAdd→zA,reduceMul→zM,reduceSub→zS,reduceEqDiff→zE,reduceLeDiff→zL
set_option linter.unusedSimpArgs false
set_option linter.unusedVariables false
set_option maxRecDepth 100000
namespace Go.Lg
open Go.Proofs
def ruleSm(rs:List Rul)(a b:Nat):Prop:=rs.length≤a∧∀r∈rs,r.cells.length≤b
end Go.Lg

namespace Go.Lg
open Go.Proofs
def solvedV(p:Puz)(xs:List Int):Bool:=(puzzleValid p&&(gridValid xs p.size&&fitsL p xs p.size.toNat))&&decide (gridFilled xs p.size=xs.length)
attribute [-go_sem] appendM lwF_cons
theorem resV_ct(P:Program)(s:List AV)(H:Heap)(t u:Nat)(ty:TypeId):resV P s H [.cell t ty, .tmp u]=(loadV P H ty (s.getD t .void)).map fun v=> .tup [v,s.getD u .void]:=by
 simp only[resV,resAll,resOne]
 cases loadV P H ty (s.getD t .void)<;>rfl
attribute [go_sem] resV_ct
def PzO(H:Heap)(n0:Nat)(z:Int)(gc rc:CV)(zs:List Int)(rs:List Rul):Prop:=∃gid gg,gc= .own gid gg 0 zs.length none∧look H gid gg=some ⟨gg,1,cl (eI .i64) zs⟩∧n0≤gid∧OwnL eR 3 H rc rs∧(∀i,idsC rc i→n0≤i∧i≠gid)
theorem PzO.snap{H:Heap}{n0:Nat}{z:Int}{gc rc:CV}{zs:List Int}{rs:List Rul}(h:PzO H n0 z gc rc zs rs):snapD H (.agg [.f (.int .i64 z),gc,rc])=some (aP ⟨z,zs,rs⟩):=by
 obtain⟨gid,gg,rfl,h1,_,h2,_⟩:=h
 have e1:∀x:Int,frzC H (.f (.int .i64 x))=some (.f (.int .i64 x)):=fun _=>rfl
 have e2:=(OwnI.o (H:=H) gid gg none zs [] (by rw[List.append_nil];exact h1)).frzC
 simp only[snapD,List.mapM_cons,List.mapM_nil,e1,e2,h2.frzC,Option.bind_eq_bind,Option.pure_def,Option.bind_some,Option.map_some]
theorem PzO.same{H H':Heap}{n0:Nat}{z:Int}{gc rc:CV}{zs:List Int}{rs:List Rul}(h:PzO H n0 z gc rc zs rs)(hs:∀i,n0≤i→(idsC gc i∨idsC rc i)→i<H.length→H'[i]? =H[i]?):PzO H' n0 z gc rc zs rs:=by
 obtain⟨gid,gg,rfl,h1,h2,h3,h4⟩:=h
 exact⟨gid,gg,rfl,by unfold look at*;rw[hs gid h2 (.inl rfl) (List.getElem?_eq_some_iff.1 (look_some h1).1).1];exact h1,h2,h3.same fun i hi hl=>hs i (h4 i hi).1 (.inr hi) hl,h4⟩
theorem PzO.n0{H:Heap}{n0 n1:Nat}{z:Int}{gc rc:CV}{zs:List Int}{rs:List Rul}(h:PzO H n0 z gc rc zs rs)(hn:n1≤n0):PzO H n1 z gc rc zs rs:=by
 obtain⟨gid,gg,rfl,h1,h2,h3,h4⟩:=h
 exact⟨gid,gg,rfl,h1,by omega,h3,fun i hi=>⟨by have:=(h4 i hi).1;omega,(h4 i hi).2⟩⟩
end Go.Lg

namespace Go.Lg
open Go.Proofs
attribute [-go_sem] appendM lwF_cons
structure PzI(H HI:Heap)(id g:Nat)(B:Int)(R n g4 cid cg J g7:Nat):Prop where
 out:look HI H.length g4=some ⟨g4,3,[.f (.int .i64 0), .f .nil, .f .nil]⟩
 grid:∃zs:List Int,look HI cid cg=some ⟨cg,1,cl (eI .i64) zs⟩∧n*n≤zs.length
 ex:∃z gc rc zs rs,look HI J g7=some ⟨g7,3,[.f (.int .i64 z),gc,rc]⟩∧PzO HI (H.length+1) z gc rc zs rs∧¬idsC gc J∧¬idsC rc J∧¬idsC gc cid∧¬idsC rc cid∧zs.length=n*n∧ruleSm rs R 5
 rd:RdAt HI id g B
 lt:id<H.length
 ln:H.length<cid∧cid<HI.length∧H.length<J∧J<HI.length∧cid≠J
 frm:∀k,k<H.length→k≠id→HI[k]? =H[k]?
section
variable{H HI H2:Heap}{id g R R' n g4 cid cg J g7:Nat}{B B':Int}
theorem PzI.mono(h:PzI H HI id g B R n g4 cid cg J g7)(hb:B≤B'):PzI H HI id g B' R n g4 cid cg J g7:={h with rd:=h.rd.mono hb}
theorem PzI.wid(h:PzI H HI id g B R n g4 cid cg J g7)(hb:R≤R'):PzI H HI id g B R' n g4 cid cg J g7:=by
 obtain⟨z,gc,rc,zs,rs,h1,h2,h3,h4,h5,h6,h7,h8,h9⟩:=h.ex
 exact{h with ex:=⟨z,gc,rc,zs,rs,h1,h2,h3,h4,h5,h6,h7,by omega,h9⟩}
theorem PzI.step(h:PzI H HI id g B R n g4 cid cg J g7)(hs:∀i,H.length≤i→i<HI.length→H2[i]? =HI[i]?)(hl:HI.length≤H2.length)(hr:RdAt H2 id g B')(hf:∀k,k<H.length→k≠id→H2[k]? =HI[k]?):PzI H H2 id g B' R n g4 cid cg J g7:=by
 have hn:=h.ln
 have hL:∀i g,H.length≤i→i<HI.length→look H2 i g=look HI i g:=fun i g h1 h2=>by unfold look;rw[hs i h1 h2]
 obtain⟨ys,g1,g2⟩:=h.grid
 obtain⟨z,gc,rc,zs,rs,h1,h2,h3⟩:=h.ex
 exact{out:=by rw[hL _ _ (Nat.le_refl _) (by omega)];exact h.out
       grid:=⟨ys,by rw[hL _ _ (by omega) (by omega)];exact g1,g2⟩
       ex:=⟨z,gc,rc,zs,rs,by rw[hL _ _ (by omega) (by omega)];exact h1,h2.same fun i hi _ hl=>hs i (by omega) hl,h3⟩
       rd:=hr,lt:=h.lt,ln:=by omega
       frm:=fun k hk hne=>by rw[hf k hk hne];exact h.frm k hk hne}
theorem PzI.pick(h:PzI H HI id g B R n g4 cid cg J g7)(hr:RdAt H2 id g B')(hf:Frm HI H2 [id]):PzI H H2 id g B' R n g4 cid cg J g7:=by
 have hl:=h.lt
 exact h.step (fun i hi _=>hf.2 i (by simp;omega)) (by rw[hf.1];exact Nat.le_refl _) hr fun k hk hne=>hf.2 k (by simpa using hne)
theorem PzI.app{X:Heap}(h:PzI H HI id g B R n g4 cid cg J g7):PzI H (HI++X) id g B R n g4 cid cg J g7:=by
 have hn:=h.ln
 exact h.step (fun i _ hi=>List.getElem?_append_left hi) (by simp) h.rd.app fun k hk _=>List.getElem?_append_left (by omega)
end
theorem PzI.put{H HI H6:Heap}{id g R n g4 cid cg J g7 R':Nat}{B B' z:Int}{gc rc:CV}{zs:List Int}{rs:List Rul}(h:PzI H HI id g B R n g4 cid cg J g7)
 (w2:PzO H6 HI.length z gc rc zs rs) (w7:zs.length=n*n)
 (hs:∀i,H.length≤i→i<HI.length→H6[i]? =HI[i]?) (hlow:∀k,k<H.length→k≠id→H6[k]? =HI[k]?) (hrd:RdAt H6 id g B') (hl:HI.length≤H6.length) (hsm:ruleSm rs R' 5):
 PzI H (H6.set J (some ⟨g7,3,[.f (.int .i64 z),gc,rc]⟩)) id g B' R' n g4 cid cg J g7:=by
 have hln:=h.ln
 have hlt:=h.lt
 have hS:∀i g,H.length≤i→i<HI.length→i≠J→look (H6.set J (some ⟨g7,3,[.f (.int .i64 z),gc,rc]⟩)) i g=look HI i g:=fun i g a b d=>by
  unfold look
  rw[List.getElem?_set_ne (Ne.symm d),hs i a b]
 obtain⟨gz,gz1,gz2⟩:=h.grid
 have hno:∀i,i<HI.length→¬idsC gc i∧¬idsC rc i:=fun i hi=>by
  obtain⟨gid,gg,rfl,p1,p2,p3,p4⟩:=w2
  exact⟨fun hh=>by simp only[idsC]at hh;omega,fun hh=>by have:=(p4 i hh).1;omega⟩
 exact{out:=by rw[hS _ _ (Nat.le_refl _) (by omega) (by omega)];exact h.out
       grid:=⟨gz,by rw[hS _ _ (by omega) (by omega) (by omega)];exact gz1,gz2⟩
       ex:=⟨z,gc,rc,zs,rs,look_set_eq' (by omega),(w2.same fun i hi _ _=>by rw[List.getElem?_set_ne (by omega)]).n0 (by omega),(hno _ (by omega)).1,(hno _ (by omega)).2,(hno _ (by omega)).1,(hno _ (by omega)).2,w7,hsm⟩
       rd:=hrd.same (by rw[List.getElem?_set_ne (by omega)])
       lt:=hlt
       ln:=by rw[List.length_set];omega
       frm:=fun k hk hne=>by rw[List.getElem?_set_ne (by omega),hlow k hk hne];exact h.frm k hk hne}
theorem PzI.giv{H HI:Heap}{id g R n g4 cid cg J g7 gid gg:Nat}{B z:Int}{rc:CV}{zs:List Int}{rs:List Rul}(h:PzI H HI id g B R n g4 cid cg J g7)
 (w1:look HI J g7=some ⟨g7,3,[.f (.int .i64 z), .own gid gg 0 zs.length none,rc]⟩) (w2:PzO HI (H.length+1) z (.own gid gg 0 zs.length none) rc zs rs) (w3:¬idsC (.own gid gg 0 zs.length none) J) (w4:¬idsC rc J) (w5:¬idsC (.own gid gg 0 zs.length none) cid) (w6:¬idsC rc cid) (w7:zs.length=n*n) (w8:ruleSm rs R 5) (k:Nat) (v:Int):
 PzI H (HI.set gid (some ⟨gg,1,cl (eI .i64) (zs.set k v)⟩)) id g B R n g4 cid cg J g7:=by
 have hln:=h.ln
 have hlt:=h.lt
 obtain⟨gid',gg',he,p1,p2,p3,p4⟩:=w2
 cases he
 have hgl:gid<HI.length:=(List.getElem?_eq_some_iff.1 (look_some p1).1).1
 simp only[idsC]at w3 w5
 have hS:∀i g,i≠gid→look (HI.set gid (some ⟨gg,1,cl (eI .i64) (zs.set k v)⟩)) i g=look HI i g:=fun i g d=>look_set_ne' (Ne.symm d)
 obtain⟨gz,gz1,gz2⟩:=h.grid
 exact{out:=by rw[hS _ _ (by omega)];exact h.out
       grid:=⟨gz,by rw[hS _ _ (by omega)];exact gz1,gz2⟩
       ex:=⟨z,_,rc,zs.set k v,rs,by rw[hS _ _ (by omega)];exact w1,⟨gid,gg,by rw[List.length_set],look_set_eq' hgl,p2,p3.same fun i hi _=>by rw[List.getElem?_set_ne (Ne.symm (p4 i hi).2)],p4⟩,fun hh=>by simp only[idsC]at hh;omega,w4,fun hh=>by simp only[idsC]at hh;omega,w6,by rw[List.length_set];exact w7,w8⟩
       rd:=h.rd.same (by rw[List.getElem?_set_ne (by omega)])
       lt:=hlt
       ln:=by rw[List.length_set];omega
       frm:=fun k hk hne=>by rw[List.getElem?_set_ne (by omega)];exact h.frm k hk hne}
structure PzF(H HI:Heap)(id g:Nat)(B:Int)(g4 J g7:Nat):Prop where
 out:look HI H.length g4=some ⟨g4,3,[.f (.int .i64 0), .f .nil, .f .nil]⟩
 ex:∃z gc rc zs rs,look HI J g7=some ⟨g7,3,[.f (.int .i64 z),gc,rc]⟩∧(∀H':Heap,(∀i,H.length<i→i<HI.length→H'[i]? =HI[i]?)→frzS (tailS H.length) H' 6 gc=some (fints zs)∧frzS (tailS H.length) H' 6 rc=some (fsl eR rs))∧zs.length≤16∧ruleSm rs 30 5
 rd:RdAt HI id g B
 lt:id<H.length
 ln:H.length<J∧J<HI.length
 frm:∀k,k<H.length→k≠id→HI[k]? =H[k]?
theorem frz_own{H H' HI:Heap}{gid gg:Nat}{zs:List Int}(p1:look HI gid gg=some ⟨gg,1,cl (eI .i64) zs⟩)(h0:H.length<gid)(hs:∀i,H.length<i→i<HI.length→H'[i]? =HI[i]?){off k:Nat}(hk:off+k≤zs.length):frzS (tailS H.length) H' 6 (.own gid gg off k none)=some (fints ((zs.drop off).take k)):=
 frzS_view (by unfold look at p1⊢;rw[hs gid h0 (List.getElem?_eq_some_iff.1 (look_some p1).1).1];exact p1) (by simp[tailS];omega) hk 5
theorem frz_ownL{H H' HI:Heap}{rc:CV}{rs:List Rul}(p3:OwnL eR 3 HI rc rs)(h0:∀i,idsC rc i→H.length<i)(hs:∀i,H.length<i→i<HI.length→H'[i]? =HI[i]?):frzS (tailS H.length) H' 6 rc=some (fsl eR rs):=
 (p3.same fun i hi hl=>hs i (h0 i hi) hl).frzS (fun i hi=>by have:=h0 i hi;simp[tailS];omega) 5
theorem PzI.fin{H HI:Heap}{id g R n g4 cid cg J g7:Nat}{B B':Int}(h:PzI H HI id g B R n g4 cid cg J g7)(hn:n*n≤16)(hR:R≤30)(hb:B≤B'):PzF H HI id g B' g4 J g7:=by
 obtain⟨z,gc,rc,zs,rs,w1,⟨gid,gg,rfl,p1,p2,p3,p4⟩,w3,w4,w5,w6,w7,w8,w9⟩:=h.ex
 have hln:=h.ln
 exact{out:=h.out
       ex:=⟨z,_,rc,zs,rs,w1,fun H' hs=>⟨by have:=frz_own p1 (by omega) hs (off:=0) (k:=zs.length) (by omega);rwa [List.drop_zero,List.take_length]at this,frz_ownL p3 (fun i hi=>by have:=(p4 i hi).1;omega) hs⟩,by omega,by omega,w9⟩
       rd:=h.rd.mono hb,lt:=h.lt,ln:=by omega,frm:=h.frm}
end Go.Lg

namespace Go.Lg
open Go.Proofs
theorem GrdN.set{xs:List Int}{n i v:Nat}(hg:GrdN xs n)(hi:i<xs.length)(hv:v≤n):GrdN (xs.set i (v:Int)) n:=⟨by rw[List.length_set];exact hg.len,fun k hk=>by
 rw[List.length_set]at hk
 rw[nth_setN _ _ _ _ hi]
 split
 · omega
 · exact hg.val k hk⟩
def LeB(o o':List Nat):Prop:=o.length=o'.length∧∀k b:Nat,(o.getD k 0).testBit b=true→(o'.getD k 0).testBit b=true
theorem LeB.refl(o:List Nat):LeB o o:=⟨rfl,fun _ _ h=>h⟩
theorem LeB.trans{a b c:List Nat}(h1:LeB a b)(h2:LeB b c):LeB a c:=⟨h1.1.trans h2.1,fun k x h=>h2.2 k x (h1.2 k x h)⟩
def Has(p:Puz)(xs:List Int):Prop:=∀k:Nat,0<nth p.given k→nth xs k=nth p.given k
theorem Has.clear{p:Puz}{xs:List Int}(h:Has p xs):Lg.clear p xs=true:=by
 simp only[Lg.clear,decide_eq_true_eq]
 exact fun k hk ⟨a,b,c⟩=>c (h k a)
theorem Has.set{p:Puz}{xs:List Int}(h:Has p xs){i:Nat}{v:Int}(hi:i<xs.length)(h0:¬0<nth xs i):Has p (xs.set i v):=fun k hk=>by
 rw[nth_setN _ _ _ _ hi]
 have:=h k hk
 split
 · rename_i hki
   subst hki
   omega
 · exact this
theorem nth_over{xs:List Int}{k:Nat}(h:xs.length≤k):nth xs (k:Int)=0:=by
 unfold nth
 rw[Int.toNat_natCast,List.getD_eq_getElem?_getD,List.getElem?_eq_none h]
 rfl
end Go.Lg

namespace Go.Lg
open Go.Proofs
attribute [-go_sem] appendM lwF_cons
def LstO(H:Heap)(c:CV)(ls:List (List Int)):Prop:=∃oid og cs,c= .own oid og 0 ls.length none∧look H oid og=some ⟨og,1,cs⟩∧cs.length=ls.length∧∀i (h:i<ls.length),∃id g,cs[i]? =some (.own id g 0 ls[i].length none)∧look H id g=some ⟨g,1,cl (eI .i64) ls[i]⟩
theorem LstO.shift{H0 H:Heap}{c:CV}{ls:List (List Int)}(h:LstO H c ls):LstO (H0++shiftH H0.length H) (shiftC H0.length c) ls:=by
 obtain⟨oid,og,cs,rfl,k1,k2,k3⟩:=h
 refine⟨oid+H0.length,og,cs.map (shiftC H0.length),rfl,look_shiftH k1,by rw[List.length_map];exact k2,fun i hi=> ?_⟩
 obtain⟨id,g,q1,q2⟩:=k3 i hi
 refine⟨id+H0.length,g,by rw[List.getElem?_map,q1];rfl, ?_⟩
 rw[look_shiftH q2]
 simp only[shiftB,shift_cl]
section
variable{P:Program}{o:Oper}{st:St}{K:KV}{fo:Operand}{xs:Array Operand}{ts:Array TypeId}{f:FuncId}{args:List AV}
end
structure TrI(H HI:Heap)(id g:Nat)(B:Int)(g4 J g6:Nat)(p:Puz)(c:CV)(zs:List Int):Prop where
 out:look HI H.length g4=some ⟨g4,3,[.f (.int .i64 0), .f .nil, .f .nil]⟩
 puz:look HI J g6=some ⟨g6,3,cP p⟩
 grid:∃gid gg,c= .own gid gg 0 zs.length none∧look HI gid gg=some ⟨gg,1,cl (eI .i64) zs⟩∧H.length<gid∧gid≠J
 rd:RdAt HI id g B
 lt:id<H.length
 ln:H.length<J∧J<HI.length
 frm:∀k,k<H.length→k≠id→HI[k]? =H[k]?
section
variable{H HI H2:Heap}{id g g4 J g6:Nat}{B B':Int}{p:Puz}{c:CV}{zs:List Int}
theorem TrI.mono(h:TrI H HI id g B g4 J g6 p c zs)(hb:B≤B'):TrI H HI id g B' g4 J g6 p c zs:={h with rd:=h.rd.mono hb}
theorem TrI.step(h:TrI H HI id g B g4 J g6 p c zs)(hs:∀i,H.length≤i→i<HI.length→H2[i]? =HI[i]?)(hl:HI.length≤H2.length)(hr:RdAt H2 id g B')(hf:∀k,k<H.length→k≠id→H2[k]? =HI[k]?):TrI H H2 id g B' g4 J g6 p c zs:=by
 have hn:=h.ln
 have hL:∀i g,H.length≤i→i<HI.length→look H2 i g=look HI i g:=fun i g h1 h2=>by unfold look;rw[hs i h1 h2]
 obtain⟨gid,gg,g1,g2,g3,g4⟩:=h.grid
 have hgl:gid<HI.length:=(List.getElem?_eq_some_iff.1 (look_some g2).1).1
 exact{out:=by rw[hL _ _ (Nat.le_refl _) (by omega)];exact h.out
       puz:=by rw[hL _ _ (by omega) (by omega)];exact h.puz
       grid:=⟨gid,gg,g1,by rw[hL _ _ (by omega) hgl];exact g2,g3,g4⟩
       rd:=hr,lt:=h.lt,ln:=by omega
       frm:=fun k hk hne=>by rw[hf k hk hne];exact h.frm k hk hne}
theorem TrI.pick(h:TrI H HI id g B g4 J g6 p c zs)(hr:RdAt H2 id g B')(hf:Frm HI H2 [id]):TrI H H2 id g B' g4 J g6 p c zs:=by
 have hl:=h.lt
 exact h.step (fun i hi _=>hf.2 i (by simp;omega)) (by rw[hf.1];exact Nat.le_refl _) hr fun k hk hne=>hf.2 k (by simpa using hne)
theorem TrI.app{X:Heap}(h:TrI H HI id g B g4 J g6 p c zs):TrI H (HI++X) id g B g4 J g6 p c zs:=by
 have hn:=h.ln
 exact h.step (fun i _ hi=>List.getElem?_append_left hi) (by simp) h.rd.app fun k hk _=>List.getElem?_append_left (by omega)
theorem TrI.set(h:TrI H HI id g B g4 J g6 p c zs){gid gg:Nat}(hc:c= .own gid gg 0 zs.length none)(k:Nat)(v:Int):TrI H (HI.set gid (some ⟨gg,1,cl (eI .i64) (zs.set k v)⟩)) id g B g4 J g6 p c (zs.set k v):=by
 have hn:=h.ln
 have hl:=h.lt
 obtain⟨gid',gg',g1,g2,g3,g4⟩:=h.grid
 rw[hc]at g1
 cases g1
 have hgl:gid<HI.length:=(List.getElem?_eq_some_iff.1 (look_some g2).1).1
 exact{out:=by rw[look_set_ne' (by omega)];exact h.out
       puz:=by rw[look_set_ne' (by omega)];exact h.puz
       grid:=⟨gid,gg,by rw[hc,List.length_set],look_set_eq' hgl,g3,g4⟩
       rd:=h.rd.same (by rw[List.getElem?_set_ne (by omega)])
       lt:=hl,ln:=by rw[List.length_set];exact hn
       frm:=fun k hk hne=>by rw[List.getElem?_set_ne (by omega)];exact h.frm k hk hne}
end
theorem wf_u8'{xs:List Int}(h:∀x∈xs,(Lit.int .u8 x).wf=true):∀x∈xs,0≤x∧x≤255:=fun x hx=>by
 have:=h x hx
 simp[Lit.wf]at this
 have e1:IntKind.u8.min=0:=by decide
 have e2:IntKind.u8.max=255:=by decide
 omega
theorem RdAt.shift{H0 H:Heap}{id g:Nat}{B:Int}(h:RdAt H id g B):RdAt (H0++shiftH H0.length H) (id+H0.length) g B:=by
 obtain⟨sz,b,p,h1,h2⟩:=h
 exact⟨sz,b,p,by rw[look_shiftH h1];rfl,h2⟩
theorem OpS.mkRd{P:Program}{o:Oper}{st:St}{K:KV}{fo:Operand}{xs:Array Operand}{ts:Array TypeId}{f:FuncId}{args:List AV}(hc:RunCall P f args [] (fun v H'=>∃g,v= .c (.ptr 0 g 0)∧RdAt H' 0 g 0∧H'.length=1))(he:Enters P f)(ho:o.op= .call ⟨.value fo,xs,ts⟩)(ha:callArgs st fo xs=some (f,args))(hf:args.all frozenA=true)
 (hk:∀g H',RdAt (st.h++H') st.h.length g 0→H'.length=1→K (.c (.ptr st.h.length g 0)) (st.h++H')):OpS P o st K:=
 OpS.mkQ hc he ho ha hf fun r H' ⟨g,h1,h2,h3⟩=>by
  subst h1
  refine⟨rfl, ?_⟩
  have:=hk g (shiftH st.h.length H') (by have:=h2.shift (H0:=st.h);rwa [Nat.zero_add]at this) (by rw[shiftH_length];exact h3)
  show K (.c (.ptr (0+st.h.length) g 0)) _
  rw[Nat.zero_add]
  exact this
end Go.Lg

namespace Go.Lg
open Go.Proofs
attribute [-go_sem] appendM lwF_cons
theorem resV_ctt(P:Program)(s:List AV)(H:Heap)(t u w:Nat)(ty:TypeId):resV P s H [.cell t ty, .tmp u, .tmp w]=(loadV P H ty (s.getD t .void)).map fun v=> .tup [v,s.getD u .void,s.getD w .void]:=by
 simp only[resV,resAll,resOne]
 cases loadV P H ty (s.getD t .void)<;>rfl
attribute [go_sem] resV_ctt
theorem aliveF_run:Reads Tryd.prog 22 [] (bool true):=by
 refine RunCall.cw (c:=_) Tryd.func22 rfl (n:=4) Tryd.ntmps22 (rs:=[.tmp 0]) rfl ?_
 simp only[List.length_cons,List.length_nil,zA,zS,List.replicate,List.cons_append,List.nil_append]
 simp(maxSteps:=999999)(disch:=omega)only[go_sem,zA,zM,zS,zE,zL]
 intro g
 have hown:OwnI [some ⟨g,1,[.f (.int .i64 1), .f (.int .i64 0), .f (.int .i64 0), .f (.int .i64 2)]⟩] (.own 0 g 0 4 none) [1,0,0,2] [0]:=OwnI.o 0 g none [1,0,0,2] [] (by rw[look_zero];rfl)
 refine OpS.rdD (GridFilled_run [1,0,0,2] 2 (by simp)) (⟨_,Tryd.func52,rfl,rfl⟩:Enters Tryd.prog 52) rfl rfl (snap_two hown.snap snapD_int) rfl ?_
 have e:gridFilled [1,0,0,2] 2=2:=by decide
 rw[e]
 simp(maxSteps:=999999)(disch:=omega)only[go_sem,zA,zM,zS,zE,zL]
end Go.Lg

namespace Go.Lg
open Go.Proofs
def hintOk(h:Hnt):Prop:=(0≤h.tech∧h.tech≤4)∧(0≤h.cell∧h.cell≤15)∧(1≤h.val∧h.val≤4)
instance(h:Hnt):Decidable (hintOk h):=by unfold hintOk;infer_instance
end Go.Lg

namespace Go.Lg
open Go.Proofs
theorem markNil_run(k:Int):Reads Tryd.prog 35 [ints [],int k] (int k):=by
 refine RunCall.cw (c:=_) Tryd.func35 rfl (n:=19) Tryd.ntmps35 (rs:=[.tmp 4]) rfl ?_
 simp only[List.length_cons,List.length_nil,zA,zS,List.replicate,List.cons_append,List.nil_append]
 simp(maxSteps:=999999)(disch:=omega)only[go_sem,zA,zM,zS,zE,zL]
 refine loop_rule (fun _:Unit=>0) (fun _=>True) (fun _=>[.k, .p (int k), .a, .a, .a, .p (int 0), .a, .a, .a, .a, .a, .a, .a, .a, .a, .a, .a, .a, .a]) (fun _=>[]) () trivial (by simp(maxSteps:=999999)(disch:=omega)only[go_sem,zA,zM,zS,zE,zL]) (hle_nil _) ?_
 intro _ _
 simp(maxSteps:=999999)(disch:=omega)only[go_sem,zA,zM,zS,zE,zL]
 simp only[show decide ((0:Int)<((0:Nat):Int))=false from rfl]
 simp(maxSteps:=999999)(disch:=omega)only[go_sem,zA,zM,zS,zE,zL]
theorem heldIntS_run(n:Nat)(k:Int)(hk:0≤k∧k≤2^50)(hx:n≤2^40):Reads Tryd.prog 36 [ints (marks k n),int k] (int (k+n)):=by
 refine RunCall.cw (c:=_) Tryd.func36 rfl (n:=21) Tryd.ntmps36 (rs:=[.tmp 4]) rfl ?_
 simp only[List.length_cons,List.length_nil,zA,zS,List.replicate,List.cons_append,List.nil_append]
 simp(maxSteps:=999999)(disch:=omega)only[go_sem,zA,zM,zS,zE,zL]
 have hm:=marks_length k n
 refine loop_rule (fun(i:Nat)=>n -i) (fun i=>i≤n) (fun i=>[.k, .p (int (k+i)), .a, .a, .a, .p (int i), .a, .a, .a, .a, .a, .a, .a, .a, .a, .a, .a, .a, .a, .a, .a]) (fun _=>[]) 0
  (Nat.zero_le _) (by simp(maxSteps:=999999)(disch:=omega)only[go_sem,zA,zM,zS,zE,zL];simp) (hle_nil _) ?_
 intro i hi
 simp(maxSteps:=999999)(disch:=omega)only[go_sem,zA,zM,zS,zE,zL,marks_length]
 refine condK_split (fun h=> ?_) (fun h=> ?_)
 · have h:i<n:=by simpa using h
   simp(maxSteps:=999999)(disch:=omega)only[go_sem,zA,zM,zS,zE,zL,marks_length,marks_nth h]
   exact⟨i+1,⟨h,by omega⟩,⟨by push_cast;omega,by push_cast;omega⟩,hle_nil _⟩
 have h:i=n:=by have:¬i<n:=by simpa using h
                omega
 subst h
 simp(maxSteps:=999999)(disch:=omega)only[go_sem,zA,zM,zS,zE,zL]
end Go.Lg

namespace Go.Lg
open Go.Proofs
theorem chr_bound(s:List UInt8)(e:Int):0≤chr s e∧chr s e≤255:=by
 unfold chr
 have:=(s.getD e.toNat 0).toNat_lt
 omega
end Go.Lg

namespace Go.Lg
open Go.Proofs
theorem tmod10(m:Nat):(m:Int).tmod 10=((m%10:Nat):Int):=rfl
theorem tdiv10(m:Nat):(m:Int).tdiv 10=((m/10:Nat):Int):=rfl
end Go.Lg

namespace Go.Lg
open Go.Proofs
def filledAt(xs:List Int):List Int:=((List.range xs.length).filter fun i:Nat=>decide (0<nth xs i)).map fun i:Nat=>(i:Int)
def gameOk(g:Gam):Prop:=g.moves.Nodup∧(∀c∈g.moves,c∈filledAt g.put)∧∀c∈filledAt g.put,c∈g.moves∧nth g.task.given c≤0
instance(g:Gam):Decidable (gameOk g):=by unfold gameOk;infer_instance
def gameValid(g:Gam):Bool:=puzzleValid g.task&&(gridValid g.put g.task.size&&(decide (g.moves.length≤40)&&decide (gameOk g)))
def eBo(b:Bool):List FV:=[.bool b]
instance:HSz eBo 1:=⟨fun _=>rfl⟩
theorem eBo_0(b:Bool)(d:FV):(eBo b).getD 0 d= .bool b:=rfl
theorem zerosBo(n:Nat):zerosL (n*1) [.f (.bool false)]=cl eBo (List.replicate n false):=by
 simp only[zerosL,Nat.mul_one,List.length_singleton,Nat.mod_one]
 induction n with
 |zero=>rfl
 |succ n ih=>rw[List.range_succ,List.map_append,ih,List.replicate_succ',cl_append];rfl
theorem setBo{xs:List Bool}{e:Int}{v:Bool}(h:0≤e∧e<(xs.length:Int)):setRange (cl eBo xs) (0+e.toNat*1) [.f (.bool v)]=cl eBo (xs.set e.toNat v):=
 setRange_cl (E:=eBo) (by omega)
attribute [go_sem] eBo_0 zerosBo setBo
end Go.Lg

namespace Go.Lg
open Go.Proofs
theorem markIntS_view(H:Heap)(id g:Nat)(lim:Option Nat)(xs ys:List Int)(k:Int)(hl:look H id g=some ⟨g,1,cl (eI .i64) (xs++ys)⟩)(hk:0≤k∧k≤2^50)(hx:xs.length≤2^40):
 RunCall Tryd.prog 35 [.c (.own id g 0 xs.length lim),int k] H (fun r H'=>r=int (k+xs.length)∧H'=H.set id (some ⟨g,1,cl (eI .i64) (marks k xs.length++ys)⟩)):=by
 refine RunCall.cw (c:=_) Tryd.func35 rfl (n:=19) Tryd.ntmps35 (rs:=[.tmp 4]) rfl ?_
 simp only[List.length_cons,List.length_nil,zA,zS,List.replicate,List.cons_append,List.nil_append]
 simp(maxSteps:=999999)(disch:=omega)only[go_sem,zA,zM,zS,zE,zL]
 have hid:H[id]? =some (some ⟨g,1,cl (eI .i64) (xs++ys)⟩):=(look_some hl).1
 have hlt:id<H.length:=(List.getElem?_eq_some_iff.1 hid).1
 have hs:∀ys:List Int,look (H.set id (some ⟨g,1,cl (eI .i64) ys⟩)) id g=some ⟨g,1,cl (eI .i64) ys⟩:=fun ys=>look_of (b:=⟨g,1,cl (eI .i64) ys⟩) (by rw[List.getElem?_set_self hlt])
 refine loop_rule2 (fun(i:Nat) (zs:List Int)=>xs.length -i) (fun i zs=>i≤xs.length∧zs.length=xs.length+ys.length∧(∀j:Nat,j<i→nth zs j=k+j)∧∀j:Nat,xs.length≤j→nth zs j=nth (xs++ys) j) (fun i _=>[.k, .p (int (k+i)), .a, .a, .a, .p (int i), .a, .a, .a, .a, .a, .a, .a, .a, .a, .a, .a, .a, .a]) (fun _ zs=>H.set id (some ⟨g,1,cl (eI .i64) zs⟩)) 0 (xs++ys)
  ⟨Nat.zero_le _,by simp,fun j hj=>absurd hj (Nat.not_lt_zero _),fun j hj=>rfl⟩ (by simp(maxSteps:=999999)(disch:=omega)only[go_sem,zA,zM,zS,zE,zL];simp) (hle_set_same hid) ?_
 rintro i zs ⟨hi,hly,hall,hkeep⟩
 simp(maxSteps:=999999)(disch:=omega)only[go_sem,zA,zM,zS,zE,zL,hs]
 ((first|(with_reducible first|refine condK_dec ?_ ?_|refine condK_ndec ?_ ?_|refine condK_nb ?_ ?_)|refine condK_b ?_ ?_)<;>intro h)
 · have h:i<xs.length:=by omega
   simp(maxSteps:=999999)(disch:=omega)only[go_sem,zA,zM,zS,zE,zL,hs]
   refine⟨i+1,zs.set i (k+i),⟨⟨h,by simp[hly],fun j hj=> ?_,fun j hj=> ?_⟩,by omega⟩,⟨by push_cast;omega,by push_cast;omega⟩,by rw[List.set_set];exact HLe.refl _⟩
   · rw[nth_set _ _ _ _ (by omega) (by omega)]
     split
     · omega
     · exact hall j (by omega)
   · rw[nth_set _ _ _ _ (by omega) (by omega),if_neg (by omega)]
     exact hkeep j hj
 have h:i=xs.length:=by omega
 subst h
 simp(maxSteps:=999999)(disch:=omega)only[go_sem,zA,zM,zS,zE,zL]
 have:zs=marks k xs.length++ys:=ext_nth (by rw[hly,List.length_append,marks_length]) fun j hj=>by
  by_cases hj2:j<xs.length
  · rw[hall j hj2,nth_eq (xs:=marks k xs.length++ys) (by simp[marks_length];omega)]
    have:=marks_nth (k:=k) hj2
    rw[nth_eq (by rw[marks_length];omega)]at this
    rw[←this,List.getElem_append_left]
  · rw[hkeep j (by omega),nth_eq (by simp;omega),nth_eq (by simp[marks_length];omega)]
    simp only[Int.toNat_natCast]
    rw[List.getElem_append_right (by omega),List.getElem_append_right (by rw[marks_length];omega)]
    simp only[marks_length]
 subst this
 exact⟨_,HLe.refl _,rfl,rfl⟩
theorem markIntS_deep(H:Heap)(c:CV)(xs:List Int)(S:List Nat)(k:Int)(h:OwnI H c xs S)(hk:0≤k∧k≤2^50)(hx:xs.length≤2^40):
 RunCall Tryd.prog 35 [.c c,int k] H (fun r H'=>r=int (k+xs.length)∧OwnI H' c (marks k xs.length) S∧Frm H H' S):=by
 cases h with
 |e=>
  refine(RunCall.frame rfl (markNil_run k) fun r H' h=>by rw[h];rfl).weaker ?_
  rintro r H2 ⟨r',H',rfl,rfl,rfl⟩
  refine⟨H,HLe.app _ _, ?_, .e,Frm.refl _ _⟩
  simp[shiftA,shift1,shiftC]
 |o id g lim xs ys h=>
  refine(markIntS_view H id g lim xs ys k h hk hx).weaker ?_
  rintro r H2 ⟨rfl,rfl⟩
  have hlt:id<H.length:=(List.getElem?_eq_some_iff.1 (look_some h).1).1
  refine⟨_,HLe.refl _,rfl, ?_,Frm.set _ _ _⟩
  have:=OwnI.o (H:=H.set id (some ⟨g,1,cl (eI .i64) (marks k xs.length++ys)⟩)) id g lim (marks k xs.length) ys (look_of (b:=⟨g,1,cl (eI .i64) (marks k xs.length++ys)⟩) (by rw[List.getElem?_set_self hlt]))
  rw[marks_length]at this
  exact this
end Go.Lg
