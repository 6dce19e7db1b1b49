/- GpGE, GpFA, GpFB, GpGF, cut to what is needed. -/
import Derived.Test.YtpdaalgdkdpihaaXad0
import Derived.Test.YtpdaalgdkdpihaaXad2
open Nat renaming reduceAdd→zA,reduceMul→zM,reduceSub→zS,reduceEqDiff→zE,reduceLeDiff→zL
set_option linter.unusedSimpArgs false
set_option linter.unusedVariables false
set_option maxRecDepth 100000
namespace Go.Lg
open Go.Proofs
attribute [-go_sem] appendM lwF_cons
structure PzI(H HI:Heap)(id g:Nat)(B:Int)(R n g4 cid cg J g7:Nat):Prop where
 out:look HI H.length g4=some ⟨g4,3,[.f (.int .i64 0), .f .nil, .f .nil]⟩
 grid:∃zs:List Int,look HI cid cg=some ⟨cg,1,cl (eI .i64) zs⟩∧n*n≤zs.length
 ex:∃z gc rc zs rs,look HI J g7=some ⟨g7,3,[.f (.int .i64 z),gc,rc]⟩∧PzO HI (H.length+1) z gc rc zs rs∧¬idsC gc J∧¬idsC rc J∧¬idsC gc cid∧¬idsC rc cid∧zs.length=n*n∧ruleSm rs R 5
 rd:RdAt HI id g B
 lt:id<H.length
 ln:H.length<cid∧cid<HI.length∧H.length<J∧J<HI.length∧cid≠J
 frm:∀k,k<H.length→k≠id→HI[k]? =H[k]?
section
variable{H HI H2:Heap}{id g R R' n g4 cid cg J g7:Nat}{B B':Int}
theorem PzI.mono(h:PzI H HI id g B R n g4 cid cg J g7)(hb:B≤B'):PzI H HI id g B' R n g4 cid cg J g7:={h with rd:=h.rd.mono hb}
theorem PzI.wid(h:PzI H HI id g B R n g4 cid cg J g7)(hb:R≤R'):PzI H HI id g B R' n g4 cid cg J g7:=by
 obtain⟨z,gc,rc,zs,rs,h1,h2,h3,h4,h5,h6,h7,h8,h9⟩:=h.ex
 exact{h with ex:=⟨z,gc,rc,zs,rs,h1,h2,h3,h4,h5,h6,h7,by omega,h9⟩}
theorem PzI.step(h:PzI H HI id g B R n g4 cid cg J g7)(hs:∀i,H.length≤i→i<HI.length→H2[i]? =HI[i]?)(hl:HI.length≤H2.length)(hr:RdAt H2 id g B')(hf:∀k,k<H.length→k≠id→H2[k]? =HI[k]?):PzI H H2 id g B' R n g4 cid cg J g7:=by
 have hn:=h.ln
 have hL:∀i g,H.length≤i→i<HI.length→look H2 i g=look HI i g:=fun i g h1 h2=>by unfold look;rw[hs i h1 h2]
 obtain⟨ys,g1,g2⟩:=h.grid
 obtain⟨z,gc,rc,zs,rs,h1,h2,h3⟩:=h.ex
 exact{out:=by rw[hL _ _ (Nat.le_refl _) (by omega)];exact h.out
       grid:=⟨ys,by rw[hL _ _ (by omega) (by omega)];exact g1,g2⟩
       ex:=⟨z,gc,rc,zs,rs,by rw[hL _ _ (by omega) (by omega)];exact h1,h2.same fun i hi _ hl=>hs i (by omega) hl,h3⟩
       rd:=hr,lt:=h.lt,ln:=by omega
       frm:=fun k hk hne=>by rw[hf k hk hne];exact h.frm k hk hne}
theorem PzI.pick(h:PzI H HI id g B R n g4 cid cg J g7)(hr:RdAt H2 id g B')(hf:Frm HI H2 [id]):PzI H H2 id g B' R n g4 cid cg J g7:=by
 have hl:=h.lt
 exact h.step (fun i hi _=>hf.2 i (by simp;omega)) (by rw[hf.1];exact Nat.le_refl _) hr fun k hk hne=>hf.2 k (by simpa using hne)
theorem PzI.app{X:Heap}(h:PzI H HI id g B R n g4 cid cg J g7):PzI H (HI++X) id g B R n g4 cid cg J g7:=by
 have hn:=h.ln
 exact h.step (fun i _ hi=>List.getElem?_append_left hi) (by simp) h.rd.app fun k hk _=>List.getElem?_append_left (by omega)
end
theorem PzI.rule{H HI H6:Heap}{id g R n g4 cid cg J g7 R':Nat}{B B' z:Int}{gc rc c':CV}{zs:List Int}{rs rs':List Rul}(h:PzI H HI id g B R n g4 cid cg J g7)
 (w1:look HI J g7=some ⟨g7,3,[.f (.int .i64 z),gc,rc]⟩) (w2:PzO HI (H.length+1) z gc rc zs rs) (w3:¬idsC gc J) (w4:¬idsC rc J) (w5:¬idsC gc cid) (w6:¬idsC rc cid) (w7:zs.length=n*n)
 (hs:∀i,H.length≤i→i<HI.length→¬idsC rc i→H6[i]? =HI[i]?) (hlow:∀k,k<H.length→k≠id→H6[k]? =HI[k]?) (hrd:RdAt H6 id g B') (hl:HI.length≤H6.length) (hL:OwnL eR 3 H6 c' rs') (hids:∀k,idsC c' k→idsC rc k∨HI.length≤k) (hsm:ruleSm rs' R' 5):
 PzI H (H6.set J (some ⟨g7,3,[.f (.int .i64 z),gc,c']⟩)) id g B' R' n g4 cid cg J g7:=by
 have hln:=h.ln
 have hlt:=h.lt
 obtain⟨gid,gg,rfl,p1,p2,p3,p4⟩:=w2
 have hgl:gid<HI.length:=(List.getElem?_eq_some_iff.1 (look_some p1).1).1
 have hS:∀i g,H.length≤i→i<HI.length→¬idsC rc i→i≠J→look (H6.set J (some ⟨g7,3,[.f (.int .i64 z), .own gid gg 0 zs.length none,c']⟩)) i g=look HI i g:=fun i g a b c d=>by
  unfold look
  rw[List.getElem?_set_ne (Ne.symm d),hs i a b c]
 have hrcl:∀k,idsC rc k→k<HI.length:=p3.lt
 obtain⟨gz,gz1,gz2⟩:=h.grid
 exact{out:=by rw[hS _ _ (Nat.le_refl _) (by omega) (fun hh=>by have:=(p4 _ hh).1;omega) (by omega)];exact h.out
       grid:=⟨gz,by rw[hS _ _ (by omega) (by omega) w6 (by omega)];exact gz1,gz2⟩
       ex:=⟨z, .own gid gg 0 zs.length none,c',zs,rs',look_set_eq' (by omega),⟨gid,gg,rfl,by rw[hS _ _ (by omega) hgl (fun hh=>(p4 _ hh).2 rfl) (fun hh=>w3 (by rw[←hh];rfl))];exact p1,p2,
        hL.same (fun i hi _=>by
         rw[List.getElem?_set_ne (fun hh=>by
          subst hh
          rcases hids _ hi with hh|hh
          · exact w4 hh
          · omega)]),fun i hi=>by
         rcases hids i hi with hh|hh
         · exact p4 i hh
         · omega⟩,w3,fun hh=>by
        rcases hids _ hh with hh|hh
        · exact w4 hh
        · omega,w5,fun hh=>by
        rcases hids _ hh with hh|hh
        · exact w6 hh
        · omega,w7,hsm⟩
       rd:=hrd.same (by rw[List.getElem?_set_ne (by omega)])
       lt:=hlt
       ln:=by rw[List.length_set];omega
       frm:=fun k hk hne=>by rw[List.getElem?_set_ne (by omega),hlow k hk hne];exact h.frm k hk hne}
theorem PzI.put{H HI H6:Heap}{id g R n g4 cid cg J g7 R':Nat}{B B' z:Int}{gc rc:CV}{zs:List Int}{rs:List Rul}(h:PzI H HI id g B R n g4 cid cg J g7)
 (w2:PzO H6 HI.length z gc rc zs rs) (w7:zs.length=n*n)
 (hs:∀i,H.length≤i→i<HI.length→H6[i]? =HI[i]?) (hlow:∀k,k<H.length→k≠id→H6[k]? =HI[k]?) (hrd:RdAt H6 id g B') (hl:HI.length≤H6.length) (hsm:ruleSm rs R' 5):
 PzI H (H6.set J (some ⟨g7,3,[.f (.int .i64 z),gc,rc]⟩)) id g B' R' n g4 cid cg J g7:=by
 have hln:=h.ln
 have hlt:=h.lt
 have hS:∀i g,H.length≤i→i<HI.length→i≠J→look (H6.set J (some ⟨g7,3,[.f (.int .i64 z),gc,rc]⟩)) i g=look HI i g:=fun i g a b d=>by
  unfold look
  rw[List.getElem?_set_ne (Ne.symm d),hs i a b]
 obtain⟨gz,gz1,gz2⟩:=h.grid
 have hno:∀i,i<HI.length→¬idsC gc i∧¬idsC rc i:=fun i hi=>by
  obtain⟨gid,gg,rfl,p1,p2,p3,p4⟩:=w2
  exact⟨fun hh=>by simp only[idsC]at hh;omega,fun hh=>by have:=(p4 i hh).1;omega⟩
 exact{out:=by rw[hS _ _ (Nat.le_refl _) (by omega) (by omega)];exact h.out
       grid:=⟨gz,by rw[hS _ _ (by omega) (by omega) (by omega)];exact gz1,gz2⟩
       ex:=⟨z,gc,rc,zs,rs,look_set_eq' (by omega),(w2.same fun i hi _ _=>by rw[List.getElem?_set_ne (by omega)]).n0 (by omega),(hno _ (by omega)).1,(hno _ (by omega)).2,(hno _ (by omega)).1,(hno _ (by omega)).2,w7,hsm⟩
       rd:=hrd.same (by rw[List.getElem?_set_ne (by omega)])
       lt:=hlt
       ln:=by rw[List.length_set];omega
       frm:=fun k hk hne=>by rw[List.getElem?_set_ne (by omega),hlow k hk hne];exact h.frm k hk hne}
theorem PzI.giv{H HI:Heap}{id g R n g4 cid cg J g7 gid gg:Nat}{B z:Int}{rc:CV}{zs:List Int}{rs:List Rul}(h:PzI H HI id g B R n g4 cid cg J g7)
 (w1:look HI J g7=some ⟨g7,3,[.f (.int .i64 z), .own gid gg 0 zs.length none,rc]⟩) (w2:PzO HI (H.length+1) z (.own gid gg 0 zs.length none) rc zs rs) (w3:¬idsC (.own gid gg 0 zs.length none) J) (w4:¬idsC rc J) (w5:¬idsC (.own gid gg 0 zs.length none) cid) (w6:¬idsC rc cid) (w7:zs.length=n*n) (w8:ruleSm rs R 5) (k:Nat) (v:Int):
 PzI H (HI.set gid (some ⟨gg,1,cl (eI .i64) (zs.set k v)⟩)) id g B R n g4 cid cg J g7:=by
 have hln:=h.ln
 have hlt:=h.lt
 obtain⟨gid',gg',he,p1,p2,p3,p4⟩:=w2
 cases he
 have hgl:gid<HI.length:=(List.getElem?_eq_some_iff.1 (look_some p1).1).1
 simp only[idsC]at w3 w5
 have hS:∀i g,i≠gid→look (HI.set gid (some ⟨gg,1,cl (eI .i64) (zs.set k v)⟩)) i g=look HI i g:=fun i g d=>look_set_ne' (Ne.symm d)
 obtain⟨gz,gz1,gz2⟩:=h.grid
 exact{out:=by rw[hS _ _ (by omega)];exact h.out
       grid:=⟨gz,by rw[hS _ _ (by omega)];exact gz1,gz2⟩
       ex:=⟨z,_,rc,zs.set k v,rs,by rw[hS _ _ (by omega)];exact w1,⟨gid,gg,by rw[List.length_set],look_set_eq' hgl,p2,p3.same fun i hi _=>by rw[List.getElem?_set_ne (Ne.symm (p4 i hi).2)],p4⟩,fun hh=>by simp only[idsC]at hh;omega,w4,fun hh=>by simp only[idsC]at hh;omega,w6,by rw[List.length_set];exact w7,w8⟩
       rd:=h.rd.same (by rw[List.getElem?_set_ne (by omega)])
       lt:=hlt
       ln:=by rw[List.length_set];omega
       frm:=fun k hk hne=>by rw[List.getElem?_set_ne (by omega)];exact h.frm k hk hne}
structure PzF(H HI:Heap)(id g:Nat)(B:Int)(g4 J g7:Nat):Prop where
 out:look HI H.length g4=some ⟨g4,3,[.f (.int .i64 0), .f .nil, .f .nil]⟩
 ex:∃z gc rc zs rs,look HI J g7=some ⟨g7,3,[.f (.int .i64 z),gc,rc]⟩∧(∀H':Heap,(∀i,H.length<i→i<HI.length→H'[i]? =HI[i]?)→frzS (tailS H.length) H' 6 gc=some (fints zs)∧frzS (tailS H.length) H' 6 rc=some (fsl eR rs))∧zs.length≤16∧ruleSm rs 30 5
 rd:RdAt HI id g B
 lt:id<H.length
 ln:H.length<J∧J<HI.length
 frm:∀k,k<H.length→k≠id→HI[k]? =H[k]?
theorem frz_own{H H' HI:Heap}{gid gg:Nat}{zs:List Int}(p1:look HI gid gg=some ⟨gg,1,cl (eI .i64) zs⟩)(h0:H.length<gid)(hs:∀i,H.length<i→i<HI.length→H'[i]? =HI[i]?){off k:Nat}(hk:off+k≤zs.length):frzS (tailS H.length) H' 6 (.own gid gg off k none)=some (fints ((zs.drop off).take k)):=
 frzS_view (by unfold look at p1⊢;rw[hs gid h0 (List.getElem?_eq_some_iff.1 (look_some p1).1).1];exact p1) (by simp[tailS];omega) hk 5
theorem frz_ownL{H H' HI:Heap}{rc:CV}{rs:List Rul}(p3:OwnL eR 3 HI rc rs)(h0:∀i,idsC rc i→H.length<i)(hs:∀i,H.length<i→i<HI.length→H'[i]? =HI[i]?):frzS (tailS H.length) H' 6 rc=some (fsl eR rs):=
 (p3.same fun i hi hl=>hs i (h0 i hi) hl).frzS (fun i hi=>by have:=h0 i hi;simp[tailS];omega) 5
theorem nzF_eRo(k:Nat):(fl eRo (List.replicate k none)).map nzF=fl eR (List.replicate k ⟨0,[],0⟩):=by
 induction k with
 |zero=>rfl
 |succ k ih=>
  rw[List.replicate_succ,List.replicate_succ]
  show[nzF _,nzF _,nzF _]++(fl eRo (List.replicate k none)).map nzF=_
  rw[ih]
  rfl
theorem frz_eRo{S:Nat→Bool}{H:Heap}{id g k:Nat}(h:look H id g=some ⟨g,3,cl eRo (List.replicate k none)⟩)(hS:S id=true):frzS S H 6 (.own id g 0 k none)=some (fsl eR (List.replicate k ⟨0,[],0⟩)):=by
 have hl:(cl eRo (List.replicate k (none:Option Rul))).length=k*3:=by rw[cl_length];simp
 simp only[Lg.frzS,hS,if_true,h,List.drop_zero,List.take_of_length_le (Nat.le_of_eq hl)]
 rw[show cl eRo (List.replicate k (none:Option Rul))=(fl eRo (List.replicate k none)).map CV.f from rfl,frzS_cells,nzF_eRo,Option.map_some]
 rw[fsl,List.length_replicate]
theorem PzI.fin{H HI:Heap}{id g R n g4 cid cg J g7:Nat}{B B':Int}(h:PzI H HI id g B R n g4 cid cg J g7)(hn:n*n≤16)(hR:R≤30)(hb:B≤B'):PzF H HI id g B' g4 J g7:=by
 obtain⟨z,gc,rc,zs,rs,w1,⟨gid,gg,rfl,p1,p2,p3,p4⟩,w3,w4,w5,w6,w7,w8,w9⟩:=h.ex
 have hln:=h.ln
 exact{out:=h.out
       ex:=⟨z,_,rc,zs,rs,w1,fun H' hs=>⟨by have:=frz_own p1 (by omega) hs (off:=0) (k:=zs.length) (by omega);rwa [List.drop_zero,List.take_length]at this,frz_ownL p3 (fun i hi=>by have:=(p4 i hi).1;omega) hs⟩,by omega,by omega,w9⟩
       rd:=h.rd.mono hb,lt:=h.lt,ln:=by omega,frm:=h.frm}
theorem elems_pre{H:Heap}{id g k:Nat}{lim:Option Nat}{zs:List Int}(h:look H id g=some ⟨g,1,cl (eI .i64) zs⟩)(hk:k≤zs.length):elems H 1 (.c (.own id g 0 k lim))=some (k,cl (eI .i64) (zs.take k)):=by
 have e:(cl (eI .i64) zs).take (k*1)=cl (eI .i64) (zs.take k):=by
  rw[Nat.mul_one]
  have:=List.take_append_drop k zs
  conv=>lhs;rw[←this,cl_append]
  rw[List.take_append_of_le_length (by rw[cl_length];simp;omega),List.take_of_length_le (by rw[cl_length];simp;omega)]
 simp only[elems,h,if_true,List.drop_zero,e]
end Go.Lg

namespace Go.Lg
open Go.Proofs
theorem GrdN.nn'{xs:List Int}{n:Nat}(h:GrdN xs n)(c:Int):0≤nth xs c:=by
 rw[nth_toNat]
 by_cases hk:c.toNat<xs.length
 · exact(h.val _ hk).1
 · unfold nth
   rw[Int.toNat_natCast,List.getD_eq_getElem?_getD,List.getElem?_eq_none (by omega)]
   exact Int.le_refl _
theorem GrdN.set{xs:List Int}{n i v:Nat}(hg:GrdN xs n)(hi:i<xs.length)(hv:v≤n):GrdN (xs.set i (v:Int)) n:=⟨by rw[List.length_set];exact hg.len,fun k hk=>by
 rw[List.length_set]at hk
 rw[nth_setN _ _ _ _ hi]
 split
 · omega
 · exact hg.val k hk⟩
theorem sols_succ(p:Puz)(n m:Nat)(xs:List Int){i:Nat}(hi:xs.length -(m+1)=i):sols p n (m+1) xs=if 0<nth xs i then sols p n m xs else(vals n 1).flatMap fun(v:Nat)=>if fitsL p (xs.set i (v:Int)) n=true then sols p n m (xs.set i (v:Int))else[]:=by
 conv=>lhs;rw[sols,hi]
 rfl
def LeB(o o':List Nat):Prop:=o.length=o'.length∧∀k b:Nat,(o.getD k 0).testBit b=true→(o'.getD k 0).testBit b=true
theorem LeB.refl(o:List Nat):LeB o o:=⟨rfl,fun _ _ h=>h⟩
theorem LeB.trans{a b c:List Nat}(h1:LeB a b)(h2:LeB b c):LeB a c:=⟨h1.1.trans h2.1,fun k x h=>h2.2 k x (h1.2 k x h)⟩
theorem orV_getD{o:List Nat}{vs:List Int}(h:vs.length=o.length)(k:Nat):(orV o vs).getD k 0=if k<o.length then(o.getD k 0|||2^(nth vs k).toNat)else 0:=by
 by_cases hk:k<o.length
 · rw[if_pos hk]
   have h1:k<(orV o vs).length:=by rw[orV_length];omega
   rw[List.getD_eq_getElem?_getD,List.getElem?_eq_getElem h1,List.getD_eq_getElem?_getD,List.getElem?_eq_getElem hk,nth_eq (by omega)]
   simp[orV]
 · rw[if_neg hk,List.getD_eq_getElem?_getD,List.getElem?_eq_none (by rw[orV_length];omega)]
   rfl
theorem orV_le{o:List Nat}{vs:List Int}(h:vs.length=o.length):LeB o (orV o vs):=⟨by rw[orV_length];omega,fun k b hb=>by
 rw[orV_getD h]
 split
 · rw[Nat.testBit_or,hb,Bool.true_or]
 · rename_i hk
   rw[List.getD_eq_getElem?_getD,List.getElem?_eq_none (by omega)]at hb
   simp at hb⟩
theorem orV_mono{o o':List Nat}{vs:List Int}(h:vs.length=o.length)(hl:LeB o o'):LeB (orV o vs) (orV o' vs):=⟨by rw[orV_length,orV_length,hl.1],fun k b hb=>by
 rw[orV_getD h]at hb
 rw[orV_getD (h.trans hl.1),←hl.1]
 split at hb
 · rename_i hk
   rw[if_pos hk]
   rw[Nat.testBit_or,Bool.or_eq_true]at hb⊢
   exact hb.imp (hl.2 k b) id
 · simp at hb⟩
theorem ways_le(r:Rul):∀(ms:List Nat) (pre:List Int) (o:List Nat),pre.length+ms.length=o.length→LeB o (ways r ms pre o)
 |[],pre,o,h=>by
  unfold ways
  split
  · exact orV_le (by simpa using h)
  · exact .refl _
 |m::ms,pre,o,h=>by
  rw[ways_cons]
  have:∀(l:List Int) (o:List Nat),pre.length+1+ms.length=o.length→LeB o (l.foldl (fun o v=>ways r ms (pre++[v]) o) o):=by
   intro l
   induction l with
   |nil=>exact fun o _=> .refl _
   |cons v l ih=>
    intro o h
    rw[List.foldl_cons]
    have h1:=ways_le r ms (pre++[v]) o (by simp;omega)
    exact h1.trans (ih _ (by rw[←h1.1];exact h))
  exact this _ _ (by simp at h;omega)
theorem ways_mono(r:Rul):∀(ms ms':List Nat) (pre:List Int) (o o':List Nat),pre.length+ms.length=o.length→ms.length=ms'.length→(∀k v:Nat,1≤v→v≤4→(ms.getD k 0).testBit v=true→(ms'.getD k 0).testBit v=true)→LeB o o'→LeB (ways r ms pre o) (ways r ms' pre o')
 |[],[],pre,o,o',h,_,_,ho=>by
  unfold ways
  split
  · exact orV_mono (by simpa using h) ho
  · exact ho
 |[],_::_,_,_,_,_,h,_,_=>by simp at h
 |_::_,[],_,_,_,_,h,_,_=>by simp at h
 |m::ms,m'::ms',pre,o,o',h,hl,hb,ho=>by
  have hstep:∀(v:Nat),1≤v→v≤4→∀(o o':List Nat),pre.length+1+ms.length=o.length→LeB o o'→
   LeB (if m.testBit v=true then ways r ms (pre++[(v:Int)]) o else o) (if m'.testBit v=true then ways r ms' (pre++[(v:Int)]) o' else o')∧pre.length+1+ms.length=(if m.testBit v=true then ways r ms (pre++[(v:Int)]) o else o).length:=by
   intro v hv1 hv4 o o' hlen ho
   have hlen':(pre++[(v:Int)]).length+ms.length=o.length:=by simp;omega
   by_cases hm:m.testBit v=true
   · have hm':m'.testBit v=true:=by simpa using hb 0 v hv1 hv4 (by simpa using hm)
     rw[if_pos hm,if_pos hm']
     exact⟨ways_mono r ms ms' _ o o' hlen' (by simpa using hl) (fun k v h1 h2 h3=>by simpa using hb (k+1) v h1 h2 (by simpa using h3)) ho,by rw[ways_len r ms _ _ hlen'];exact hlen⟩
   · rw[if_neg hm]
     refine⟨?_,hlen⟩
     split
     · exact ho.trans (ways_le r ms' _ o' (by rw[←ho.1];simp at hl⊢;omega))
     · exact ho
  have e:∀(M:Nat) (MS:List Nat) (O:List Nat),ways r (M::MS) pre O=[1,2,3,4].foldl (fun o (v:Nat)=>if M.testBit v=true then ways r MS (pre++[(v:Int)]) o else o) O:=fun _ _ _=>rfl
  rw[e,e]
  simp only[List.foldl_cons,List.foldl_nil]
  have h0:pre.length+1+ms.length=o.length:=by simp at h;omega
  obtain⟨a1,b1⟩:=hstep 1 (by omega) (by omega) o o' h0 ho
  obtain⟨a2,b2⟩:=hstep 2 (by omega) (by omega) _ _ b1 a1
  obtain⟨a3,b3⟩:=hstep 3 (by omega) (by omega) _ _ b2 a2
  exact(hstep 4 (by omega) (by omega) _ _ b3 a3).1
theorem maskAt_mono{xs ys:List Int}{n:Nat}(hn:n=2∨n=3∨n=4){c:Int}(h:0<nth xs c→nth ys c=nth xs c)(hy:0≤nth ys c∧nth ys c≤n){v:Nat}(hv:1≤v∧v≤4)(hb:(maskAt ys n c).testBit v=true):(maskAt xs n c).testBit v=true:=by
 unfold maskAt at hb⊢
 by_cases hx:0<nth xs c
 · rw[if_pos hx]
   rw[h hx,if_pos hx]at hb
   exact hb
 · rw[if_neg hx]
   by_cases hy0:0<nth ys c
   · rw[if_pos hy0,Nat.testBit_two_pow]at hb
     have hv':v≤n:=by simp at hb;omega
     clear hb
     have:v=1∨v=2∨v=3∨v=4:=by omega
     rcases hn with rfl|rfl|rfl<;>rcases this with rfl|rfl|rfl|rfl<;>first|omega|decide
   · rw[if_neg hy0]at hb
     exact hb
theorem canHold_mono{xs ys:List Int}{n:Nat}(hn:n=2∨n=3∨n=4){r:Rul}(h:∀c∈r.cells,0<nth xs c→nth ys c=nth xs c)(hy:∀c∈r.cells,0≤nth ys c∧nth ys c≤n)(hc:canHold r ys n=true):canHold r xs n=true:=by
 unfold canHold at hc⊢
 have hle:=ways_mono r (r.cells.map (maskAt ys n)) (r.cells.map (maskAt xs n)) [] (List.replicate r.cells.length 0) (List.replicate r.cells.length 0) (by simp) (by simp) (fun k v h1 h2 h3=>by
  by_cases hk:k<r.cells.length
  · have e:∀zs:List Int,(r.cells.map (maskAt zs n)).getD k 0=maskAt zs n r.cells[k]:=fun zs=>by
     rw[List.getD_eq_getElem?_getD,List.getElem?_map,List.getElem?_eq_getElem hk];rfl
    rw[e]at h3⊢
    have hm:r.cells[k]∈r.cells:=List.getElem_mem _
    exact maskAt_mono hn (h _ hm) (hy _ hm) ⟨h1,h2⟩ h3
  · rw[List.getD_eq_getElem?_getD,List.getElem?_eq_none (by simp;omega)]at h3
    simp at h3) (.refl _)
 generalize ways r (r.cells.map (maskAt ys n)) [] (List.replicate r.cells.length 0)=A at hc hle
 generalize ways r (r.cells.map (maskAt xs n)) [] (List.replicate r.cells.length 0)=B at hle⊢
 have hA:A.getD 0 0≠0:=by simpa using hc
 obtain⟨b,hb⟩:=Nat.exists_testBit_of_ne_zero hA
 have:=hle.2 0 b hb
 have hB:B.getD 0 0≠0:=fun h=>by rw[h]at this;simp at this
 simpa using hB
theorem cells_grd{r:Rul}{n:Nat}{ys:List Int}(hr:ruleValid r n=true)(hg:GrdN ys n):∀c∈r.cells,0≤nth ys c∧nth ys c≤n:=fun c hc=>by
 have h3:=(ruleValid_facts hr).2.2.1 c hc
 have hl:=hg.len
 obtain⟨k,rfl⟩:∃k:Nat,c=k:=⟨c.toNat,by omega⟩
 exact hg.val k (by omega)
theorem fits_mono{p:Puz}{n:Nat}(hp:PuzN p n){xs ys:List Int}(hx:GrdN xs n)(hy:GrdN ys n)(h:∀k:Nat,0<nth xs k→nth ys k=nth xs k)(hf:fitsL p ys n=true):fitsL p xs n=true:=by
 have hn:=hp.hn
 simp only[fitsL,Bool.and_eq_true,clear,decide_eq_true_eq,Bool.not_eq_true',List.all_eq_true]at hf⊢
 obtain⟨h1,h2,h3⟩:=hf
 have hc:∀c:Int,0<nth xs c→nth ys c=nth xs c:=fun c hc=>by
  rw[nth_toNat]at hc
  rw[nth_toNat ys,nth_toNat xs]
  exact h _ hc
 refine⟨fun k hk=> ?_,fun r hr=>canHold_mono hn (fun c _=>hc c) (cells_grd (hp.rv r hr) hy) (h2 r hr), ?_⟩
 · rintro⟨a,b,d⟩
   have:=h k b
   exact h1 k (by rw[hy.len,←hx.len];exact hk) ⟨a,by omega,by omega⟩
 · rw[clash_nc hn hy.nn']at h3
   rw[clash_nc hn hx.nn']
   intro a b hab hb hl h0 he
   have e1:=h a h0
   have e2:=h b (by omega)
   exact h3 a b hab hb hl (by omega) (by omega)
def Has(p:Puz)(xs:List Int):Prop:=∀k:Nat,0<nth p.given k→nth xs k=nth p.given k
theorem Has.clear{p:Puz}{xs:List Int}(h:Has p xs):Lg.clear p xs=true:=by
 simp only[Lg.clear,decide_eq_true_eq]
 exact fun k hk ⟨a,b,c⟩=>c (h k a)
theorem Has.set{p:Puz}{xs:List Int}(h:Has p xs){i:Nat}{v:Int}(hi:i<xs.length)(h0:¬0<nth xs i):Has p (xs.set i v):=fun k hk=>by
 rw[nth_setN _ _ _ _ hi]
 have:=h k hk
 split
 · rename_i hki
   subst hki
   omega
 · exact this
theorem fitsL_has{p q:Puz}(hr:p.rules=q.rules){n:Nat}{xs:List Int}(hp:Has p xs)(hq:Has q xs):fitsL p xs n=fitsL q xs n:=by
 unfold fitsL
 rw[hp.clear,hq.clear,hr]
theorem sols_congr{p q:Puz}(hr:p.rules=q.rules){n:Nat}:∀(m:Nat) (xs:List Int),m≤xs.length→Has p xs→Has q xs→sols p n m xs=sols q n m xs
 |0,xs,_,_,_=>rfl
 |m+1,xs,hm,hp,hq=>by
  obtain⟨i,hi⟩:∃i,i=xs.length -(m+1):=⟨_,rfl⟩
  rw[sols_succ p n m xs hi.symm,sols_succ q n m xs hi.symm,sols_congr hr m xs (by omega) hp hq]
  split
  · rfl
  · rename_i h0
    have hil:i<xs.length:=by omega
    congr 1
    funext v
    rw[fitsL_has hr (hp.set hil h0) (hq.set hil h0),sols_congr hr m (xs.set i (v:Int)) (by rw[List.length_set];omega) (hp.set hil h0) (hq.set hil h0)]
def withL(a b:List Int):List Int:=(List.range a.length).map fun(k:Nat)=>if 0<nth b k then nth b k else nth a k
theorem withL_len(a b:List Int):(withL a b).length=a.length:=by simp[withL]
theorem withL_nth{a b:List Int}{k:Nat}(h:k<a.length):nth (withL a b) k=if 0<nth b k then nth b k else nth a k:=by
 rw[nth_eq (by rw[withL_len];omega)]
 simp[withL]
def withP(p:Puz)(xs:List Int):Puz:=⟨p.size,withL p.given xs,p.rules⟩
theorem withL_grd{a b:List Int}{n:Nat}(ha:GrdN a n)(hb:GrdN b n):GrdN (withL a b) n:=⟨by rw[withL_len];exact ha.len,fun k hk=>by
 rw[withL_len]at hk
 rw[withL_nth hk]
 split
 · exact hb.val k (by rw[hb.len,←ha.len];exact hk)
 · exact ha.val k hk⟩
theorem nth_over{xs:List Int}{k:Nat}(h:xs.length≤k):nth xs (k:Int)=0:=by
 unfold nth
 rw[Int.toNat_natCast,List.getD_eq_getElem?_getD,List.getElem?_eq_none h]
 rfl
def finL(p:Puz)(n:Nat)(xs:List Int)(most:Nat):List (List Int):=if fitsL p (withL p.given xs) n=true∧clear p xs=true then(sols p n (n*n) (withL p.given xs)).take most else[]
theorem clear_with{p:Puz}{n:Nat}{xs:List Int}(ha:GrdN p.given n)(hb:GrdN xs n)(h:clear p xs=true):Has p (withL p.given xs):=fun k hk=>by
 have hkl:k<p.given.length:=by
  by_cases hkl:k<p.given.length
  · exact hkl
  · rw[nth_over (by omega)]at hk;omega
 rw[withL_nth hkl]
 split
 · rename_i hx
   simp only[clear,decide_eq_true_eq]at h
   have:=h k (by rw[hb.len,←ha.len];exact hkl)
   by_cases he:nth xs k=nth p.given k
   · exact he
   · exact absurd ⟨hk,hx,he⟩ this
 · rfl
theorem has_self(p:Puz):Has p p.given:=fun _ _=>rfl
theorem finL_spec{p:Puz}{n:Nat}(hp:PuzN p n)(hv:puzzleValid p=true){xs:List Int}(hb:GrdN xs n)(most:Nat):finL p n xs most=if fitsL p xs n=true then allS (withP p xs) most else[]:=by
 have hn:=hp.hn
 have hs:((p.size.toNat:Nat):Int)=p.size:=(PuzN.of hv).2
 have hsn:p.size.toNat=n:=by have:=hp.size;omega
 have ha:GrdN p.given n:=by
  have:=GrdN.of hn (xs:=p.given) (n:=n) (by rw[←hp.size];exact puzzleValid_grid' hv)
  exact this
 have hg:=withL_grd ha hb
 have hxw:∀k:Nat,0<nth xs k→nth (withL p.given xs) k=nth xs k:=fun k hk=>by
  have hkl:k<xs.length:=by
   by_cases hkl:k<xs.length
   · exact hkl
   · rw[nth_over (by omega)]at hk;omega
  rw[withL_nth (by rw[ha.len,←hb.len];exact hkl),if_pos hk]
 have hqv:puzzleValid (withP p xs)=true:=by
  simp only[puzzleValid,Bool.and_eq_true,decide_eq_true_eq]at hv⊢
  refine⟨?_,hv.2⟩
  show gridValid (withL p.given xs) p.size=true
  rw[hp.size]
  exact hg.valid hn
 unfold finL
 by_cases hc:clear p xs=true
 · have hP:=clear_with ha hb hc
   have hQ:=has_self (withP p xs)
   have hfq:fitsL (withP p xs) (withP p xs).given n=fitsL p (withL p.given xs) n:=(fitsL_has (p:=p) (q:=withP p xs) rfl hP hQ).symm
   have hsq:sols (withP p xs) n (n*n) (withP p xs).given=sols p n (n*n) (withL p.given xs):=(sols_congr (p:=p) (q:=withP p xs) rfl (n*n) _ (by rw[hg.len];exact Nat.le_refl _) hP hQ).symm
   by_cases hf:fitsL p (withL p.given xs) n=true
   · rw[if_pos ⟨hf,hc⟩,if_pos (fits_mono hp hb hg hxw hf)]
     unfold allS
     have e:(withP p xs).size.toNat=n:=hsn
     rw[e,if_pos ⟨hqv,by rw[hfq];exact hf⟩,hsq]
   · rw[if_neg (fun h=>hf h.1)]
     split
     · unfold allS
       have e:(withP p xs).size.toNat=n:=hsn
       rw[e,if_neg (fun h=>hf (by rw[←hfq];exact h.2))]
     · rfl
 · rw[if_neg (fun h=>hc h.2)]
   have:fitsL p xs n=false:=by
    have:clear p xs=false:=by simpa using hc
    simp[fitsL,this]
   rw[this]
   rfl
end Go.Lg

namespace Go.Lg
open Go.Proofs
theorem allS_len(p:Puz)(most:Nat):(allS p most).length≤most:=by
 unfold allS
 split
 · rw[List.length_take];omega
 · simp
attribute [-go_sem] appendM
def withT(a b:List Int)(k:Nat):List Int:=(withL a b).take k++a.drop k
theorem withT_0(a b:List Int):withT a b 0=a:=by simp[withT]
theorem withT_len{a b:List Int}{k:Nat}:(withT a b k).length=a.length:=by simp[withT,withL_len];omega
theorem withT_all{a b:List Int}{k:Nat}(h:a.length≤k):withT a b k=withL a b:=by
 unfold withT
 rw[List.take_of_length_le (by rw[withL_len];exact h),List.drop_of_length_le h,List.append_nil]
theorem withT_pos{a b:List Int}{k:Nat}(h:k<a.length)(h0:0<nth b k):(withT a b k).set k (nth b k)=withT a b (k+1):=by
 have e:(withL a b).take (k+1)=(withL a b).take k++[nth b k]:=by rw[take_succ_nth (by rw[withL_len];exact h),withL_nth h,if_pos h0]
 unfold withT
 rw[e,List.set_append_right _ _ (by rw[List.length_take,withL_len];omega),List.length_take,withL_len,Nat.min_eq_left (by omega),Nat.sub_self,List.drop_eq_getElem_cons h,List.set_cons_zero,List.append_assoc]
 rfl
theorem withT_neg{a b:List Int}{k:Nat}(h:k<a.length)(h0:¬0<nth b k):withT a b (k+1)=withT a b k:=by
 have e:(withL a b).take (k+1)=(withL a b).take k++[nth a k]:=by rw[take_succ_nth (by rw[withL_len];exact h),withL_nth h,if_neg h0]
 unfold withT
 rw[e,List.append_assoc]
 congr 1
 rw[List.drop_eq_getElem_cons h,nth_eq (by omega)]
 simp
theorem l23With_run(p:Puz)(xs:List Int)(hx:p.given.length≤2^40)(hl:p.given.length≤xs.length)(h0:0<p.given.length):Reads Try.prog 111 [aP p,ints xs] (aP (withP p xs)):=by
 refine Reads.iced ?_
 refine RunCall.cw (c:=_) Try.func111 rfl (n:=35) Try.ntmps111 (rs:=[.cell 4 32]) rfl ?_
 simp only[List.length_cons,List.length_nil,zA,zS,List.replicate,List.cons_append,List.nil_append]
 simp(maxSteps:=999999)(disch:=omega)only[go_sem,zA,zM,zS,zE,zL]
 intro g0 g1 g2
 refine appendM_copyF (HI:=[_,_]) (sliceOf_of' ti22 rfl ti3) ⟨rfl,rfl,rfl⟩ ⟨h0,hx⟩ ?_
 intro g3
 simp(maxSteps:=999999)(disch:=omega)only[go_sem,zA,zM,zS,zE,zL]
 refine loop_rule (fun k:Nat=>p.given.length -k) (fun k=>k≤p.given.length) (fun k=>[.a, .k, .k, .a, .k, .k, .p (int k), .a, .a, .a, .a, .a, .a, .a, .a, .a, .a, .a, .a, .a, .a, .a, .a, .a, .a, .a, .a, .a, .a, .a, .a, .a, .a, .a, .a]) (fun k=>[some ⟨g0,1,cP p⟩,some ⟨g1,3,[CV.f (FV.int IntKind.i64 0),CV.f FV.nil,CV.f FV.nil]⟩,some ⟨g3,1,cl (eI .i64) (withT p.given xs k)⟩]) 0 (Nat.zero_le _) (by simp(maxSteps:=999999)(disch:=omega)only[go_sem,zA,zM,zS,zE,zL];rfl) (by rw[withT_0];exact HLe.refl _) ?_
 intro k hk
 have hwl:=withT_len (a:=p.given) (b:=xs) (k:=k)
 simp(maxSteps:=999999)(disch:=omega)only[go_sem,zA,zM,zS,zE,zL]
 ((first|(with_reducible first|refine condK_dec ?_ ?_|refine condK_ndec ?_ ?_|refine condK_nb ?_ ?_)|refine condK_b ?_ ?_)<;>intro c1)
 · have c1:k<p.given.length:=by omega
   simp(maxSteps:=999999)(disch:=omega)only[go_sem,zA,zM,zS,zE,zL]
   ((first|(with_reducible first|refine condK_dec ?_ ?_|refine condK_ndec ?_ ?_|refine condK_nb ?_ ?_)|refine condK_b ?_ ?_)<;>intro c2)
   · simp(maxSteps:=999999)(disch:=omega)only[go_sem,zA,zM,zS,zE,zL]
     rw[Int.toNat_natCast,withT_pos c1 c2]
     exact⟨k+1,⟨by omega,by omega⟩,by push_cast;omega,HLe.refl _⟩
   · simp(maxSteps:=999999)(disch:=omega)only[go_sem,zA,zM,zS,zE,zL]
     refine⟨k+1,⟨by omega,by omega⟩,by push_cast;omega, ?_⟩
     rw[withT_neg c1 c2]
     exact HLe.refl _
 · simp(maxSteps:=999999)(disch:=omega)only[go_sem,zA,zM,zS,zE,zL]
   rw[withT_all (by omega)]
   have hown:OwnI [some ⟨g0,1,cP p⟩,some ⟨g1,3,[CV.f (FV.int IntKind.i64 p.size),CV.own 2 g3 0 p.given.length none,CV.f (fsl eR p.rules)]⟩,some ⟨g3,1,cl (eI .i64) (withL p.given xs)⟩] (.own 2 g3 0 p.given.length none) (withL p.given xs) [2]:=by
    have:=OwnI.o (H:=[some ⟨g0,1,cP p⟩,some ⟨g1,3,[CV.f (FV.int IntKind.i64 p.size),CV.own 2 g3 0 p.given.length none,CV.f (fsl eR p.rules)]⟩,some ⟨g3,1,cl (eI .i64) (withL p.given xs)⟩]) 2 g3 none (withL p.given xs) [] (by rw[List.append_nil];simp only[go_sem])
    rwa [withL_len]at this
   refine lessQ_ice ?_
   have hf:=hown.frzC
   show(([_,_,_]:List CV).mapM (Lg.frzC _)).map AV.agg=_
   simp only[List.mapM_cons,List.mapM_nil,hf,Option.bind_eq_bind,Option.pure_def]
   rfl
end Go.Lg

namespace Go.Lg
open Go.Proofs
attribute [-go_sem] appendM lwF_cons
def LstO(H:Heap)(c:CV)(ls:List (List Int)):Prop:=∃oid og cs,c= .own oid og 0 ls.length none∧look H oid og=some ⟨og,1,cs⟩∧cs.length=ls.length∧∀i (h:i<ls.length),∃id g,cs[i]? =some (.own id g 0 ls[i].length none)∧look H id g=some ⟨g,1,cl (eI .i64) ls[i]⟩
theorem LstO.shift{H0 H:Heap}{c:CV}{ls:List (List Int)}(h:LstO H c ls):LstO (H0++shiftH H0.length H) (shiftC H0.length c) ls:=by
 obtain⟨oid,og,cs,rfl,k1,k2,k3⟩:=h
 refine⟨oid+H0.length,og,cs.map (shiftC H0.length),rfl,look_shiftH k1,by rw[List.length_map];exact k2,fun i hi=> ?_⟩
 obtain⟨id,g,q1,q2⟩:=k3 i hi
 refine⟨id+H0.length,g,by rw[List.getElem?_map,q1];rfl, ?_⟩
 rw[look_shiftH q2]
 simp only[shiftB,shift_cl]
section
variable{P:Program}{o:Oper}{st:St}{K:KV}{fo:Operand}{xs:Array Operand}{ts:Array TypeId}{f:FuncId}{args:List AV}
end
def smD(p:Puz):Prop:=p.given.length≤16∧ruleSm p.rules 30 5
theorem smD.sm{p:Puz}(h:smD p):smP p:=⟨by have:=h.1;omega,by have:=h.2.1;omega,fun r hr=>by have:=h.2.2 r hr;omega⟩
structure TrI(H HI:Heap)(id g:Nat)(B:Int)(g4 J g6:Nat)(p:Puz)(c:CV)(zs:List Int):Prop where
 out:look HI H.length g4=some ⟨g4,3,[.f (.int .i64 0), .f .nil, .f .nil]⟩
 puz:look HI J g6=some ⟨g6,3,cP p⟩
 grid:∃gid gg,c= .own gid gg 0 zs.length none∧look HI gid gg=some ⟨gg,1,cl (eI .i64) zs⟩∧H.length<gid∧gid≠J
 rd:RdAt HI id g B
 lt:id<H.length
 ln:H.length<J∧J<HI.length
 frm:∀k,k<H.length→k≠id→HI[k]? =H[k]?
section
variable{H HI H2:Heap}{id g g4 J g6:Nat}{B B':Int}{p:Puz}{c:CV}{zs:List Int}
theorem TrI.mono(h:TrI H HI id g B g4 J g6 p c zs)(hb:B≤B'):TrI H HI id g B' g4 J g6 p c zs:={h with rd:=h.rd.mono hb}
theorem TrI.step(h:TrI H HI id g B g4 J g6 p c zs)(hs:∀i,H.length≤i→i<HI.length→H2[i]? =HI[i]?)(hl:HI.length≤H2.length)(hr:RdAt H2 id g B')(hf:∀k,k<H.length→k≠id→H2[k]? =HI[k]?):TrI H H2 id g B' g4 J g6 p c zs:=by
 have hn:=h.ln
 have hL:∀i g,H.length≤i→i<HI.length→look H2 i g=look HI i g:=fun i g h1 h2=>by unfold look;rw[hs i h1 h2]
 obtain⟨gid,gg,g1,g2,g3,g4⟩:=h.grid
 have hgl:gid<HI.length:=(List.getElem?_eq_some_iff.1 (look_some g2).1).1
 exact{out:=by rw[hL _ _ (Nat.le_refl _) (by omega)];exact h.out
       puz:=by rw[hL _ _ (by omega) (by omega)];exact h.puz
       grid:=⟨gid,gg,g1,by rw[hL _ _ (by omega) hgl];exact g2,g3,g4⟩
       rd:=hr,lt:=h.lt,ln:=by omega
       frm:=fun k hk hne=>by rw[hf k hk hne];exact h.frm k hk hne}
theorem TrI.pick(h:TrI H HI id g B g4 J g6 p c zs)(hr:RdAt H2 id g B')(hf:Frm HI H2 [id]):TrI H H2 id g B' g4 J g6 p c zs:=by
 have hl:=h.lt
 exact h.step (fun i hi _=>hf.2 i (by simp;omega)) (by rw[hf.1];exact Nat.le_refl _) hr fun k hk hne=>hf.2 k (by simpa using hne)
theorem TrI.app{X:Heap}(h:TrI H HI id g B g4 J g6 p c zs):TrI H (HI++X) id g B g4 J g6 p c zs:=by
 have hn:=h.ln
 exact h.step (fun i _ hi=>List.getElem?_append_left hi) (by simp) h.rd.app fun k hk _=>List.getElem?_append_left (by omega)
theorem TrI.set(h:TrI H HI id g B g4 J g6 p c zs){gid gg:Nat}(hc:c= .own gid gg 0 zs.length none)(k:Nat)(v:Int):TrI H (HI.set gid (some ⟨gg,1,cl (eI .i64) (zs.set k v)⟩)) id g B g4 J g6 p c (zs.set k v):=by
 have hn:=h.ln
 have hl:=h.lt
 obtain⟨gid',gg',g1,g2,g3,g4⟩:=h.grid
 rw[hc]at g1
 cases g1
 have hgl:gid<HI.length:=(List.getElem?_eq_some_iff.1 (look_some g2).1).1
 exact{out:=by rw[look_set_ne' (by omega)];exact h.out
       puz:=by rw[look_set_ne' (by omega)];exact h.puz
       grid:=⟨gid,gg,by rw[hc,List.length_set],look_set_eq' hgl,g3,g4⟩
       rd:=h.rd.same (by rw[List.getElem?_set_ne (by omega)])
       lt:=hl,ln:=by rw[List.length_set];exact hn
       frm:=fun k hk hne=>by rw[List.getElem?_set_ne (by omega)];exact h.frm k hk hne}
end
theorem wf_u8'{xs:List Int}(h:∀x∈xs,(Lit.int .u8 x).wf=true):∀x∈xs,0≤x∧x≤255:=fun x hx=>by
 have:=h x hx
 simp[Lit.wf]at this
 have e1:IntKind.u8.min=0:=by decide
 have e2:IntKind.u8.max=255:=by decide
 omega
theorem RdAt.shift{H0 H:Heap}{id g:Nat}{B:Int}(h:RdAt H id g B):RdAt (H0++shiftH H0.length H) (id+H0.length) g B:=by
 obtain⟨sz,b,p,h1,h2⟩:=h
 exact⟨sz,b,p,by rw[look_shiftH h1];rfl,h2⟩
theorem OpS.mkRd{P:Program}{o:Oper}{st:St}{K:KV}{fo:Operand}{xs:Array Operand}{ts:Array TypeId}{f:FuncId}{args:List AV}(hc:RunCall P f args [] (fun v H'=>∃g,v= .c (.ptr 0 g 0)∧RdAt H' 0 g 0∧H'.length=1))(he:Enters P f)(ho:o.op= .call ⟨.value fo,xs,ts⟩)(ha:callArgs st fo xs=some (f,args))(hf:args.all frozenA=true)
 (hk:∀g H',RdAt (st.h++H') st.h.length g 0→H'.length=1→K (.c (.ptr st.h.length g 0)) (st.h++H')):OpS P o st K:=
 OpS.mkQ hc he ho ha hf fun r H' ⟨g,h1,h2,h3⟩=>by
  subst h1
  refine⟨rfl, ?_⟩
  have:=hk g (shiftH st.h.length H') (by have:=h2.shift (H0:=st.h);rwa [Nat.zero_add]at this) (by rw[shiftH_length];exact h3)
  show K (.c (.ptr (0+st.h.length) g 0)) _
  rw[Nat.zero_add]
  exact this
end Go.Lg
