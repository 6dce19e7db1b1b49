/- GpGE, cut to what is needed. -/
import Derived.Test.YtiahmfdabpafoaaGreatDoorKac8
import Derived.Test.YtiahmfdabpafoaaGreatDoorKad0
open List renaming getElem?_eq_some_iff → Ja, getElem?_append_left → Jb, cons_append → Jc, nil_append → Jd, length_append → Je, length_cons → Jf, replicate → Jg, getElem?_set_ne → Jj, length_nil → Jl, take_of_length_le → Jn, append_assoc → Js, length_set → Jt, getElem?_eq_none → Ju, mapM_cons → Jz, length_take → JA, drop_zero → JB, mem_append → JF, getElem?_take_of_lt → JG, length_singleton → JW, mapM_nil → Qa, take_append_drop → QU, length_replicate → QV
open Nat renaming reduceAdd→zA,reduceMul→zM,reduceSub→zS,reduceEqDiff→zE,reduceLeDiff→zL
set_option linter.unusedSimpArgs false
set_option linter.unusedVariables false
set_option maxRecDepth 100000
namespace Go.Lg
open Go.Proofs
attribute [-go_sem] Qg JP
structure WM(H HI:Ji)(id g:Nat)(B:Int)(R n g4 cid cg J g7:Nat):Prop where
 out:look HI H.length g4=some ⟨g4,3,[.f (.int .i64 0), .f .nil, .f .nil]⟩
 grid:∃zs:List Int,look HI cid cg=some ⟨cg,1,cl (eI .i64) zs⟩∧n*n≤zs.length
 ex:∃z gc rc zs rs,look HI J g7=some ⟨g7,3,[.f (.int .i64 z),gc,rc]⟩∧PzO HI (H.length+1) z gc rc zs rs∧¬Q1 gc J∧¬Q1 rc J∧¬Q1 gc cid∧¬Q1 rc cid∧zs.length=n*n∧U6 rs R 5
 rd:Zj HI id g B
 lt:id<H.length
 ln:H.length<cid∧cid<HI.length∧H.length<J∧J<HI.length∧cid≠J
 frm:∀k,k<H.length→k≠id→HI[k]? =H[k]?
section
variable{H HI H2:Ji}{id g R R' n g4 cid cg J g7:Nat}{B B':Int}
theorem WM.mono(h:WM H HI id g B R n g4 cid cg J g7)(hb:B≤B'):WM H HI id g B' R n g4 cid cg J g7:={h with rd:=h.rd.mono hb}
theorem WM.wid(h:WM H HI id g B R n g4 cid cg J g7)(hb:R≤R'):WM H HI id g B R' n g4 cid cg J g7:=by
 obtain⟨z,gc,rc,zs,rs,h1,h2,h3,h4,h5,h6,h7,h8,h9⟩:=h.ex
 exact{h with ex:=⟨z,gc,rc,zs,rs,h1,h2,h3,h4,h5,h6,h7,by omega,h9⟩}
theorem WM.step(h:WM H HI id g B R n g4 cid cg J g7)(hs:∀i,H.length≤i→i<HI.length→H2[i]? =HI[i]?)(hl:HI.length≤H2.length)(hr:Zj H2 id g B')(hf:∀k,k<H.length→k≠id→H2[k]? =HI[k]?):WM H H2 id g B' R n g4 cid cg J g7:=by
 have hn:=h.ln
 have hL:∀i g,H.length≤i→i<HI.length→look H2 i g=look HI i g:=fun i g h1 h2=>by unfold look;rw[hs i h1 h2]
 obtain⟨ys,g1,g2⟩:=h.grid
 obtain⟨z,gc,rc,zs,rs,h1,h2,h3⟩:=h.ex
 exact{out:=by rw[hL _ _ (Nat.le_refl _) (by omega)];exact h.out
       grid:=⟨ys,by rw[hL _ _ (by omega) (by omega)];exact g1,g2⟩
       ex:=⟨z,gc,rc,zs,rs,by rw[hL _ _ (by omega) (by omega)];exact h1,h2.same fun i hi _ hl=>hs i (by omega) hl,h3⟩
       rd:=hr,lt:=h.lt,ln:=by omega
       frm:=fun k hk hne=>by rw[hf k hk hne];exact h.frm k hk hne}
theorem WM.pick(h:WM H HI id g B R n g4 cid cg J g7)(hr:Zj H2 id g B')(hf:UH HI H2 [id]):WM H H2 id g B' R n g4 cid cg J g7:=by
 have hl:=h.lt
 exact h.step (fun i hi _=>hf.2 i (by simp;omega)) (by rw[hf.1];exact Nat.le_refl _) hr fun k hk hne=>hf.2 k (by simpa using hne)
theorem WM.app{X:Ji}(h:WM H HI id g B R n g4 cid cg J g7):WM H (HI++X) id g B R n g4 cid cg J g7:=by
 have hn:=h.ln
 exact h.step (fun i _ hi=>Jb hi) (by simp) h.rd.app fun k hk _=>Jb (by omega)
end
theorem WM.rule{H HI H6:Ji}{id g R n g4 cid cg J g7 R':Nat}{B B' z:Int}{gc rc c':CV}{zs:List Int}{rs rs':List Q2}(h:WM H HI id g B R n g4 cid cg J g7)
 (w1:look HI J g7=some ⟨g7,3,[.f (.int .i64 z),gc,rc]⟩) (w2:PzO HI (H.length+1) z gc rc zs rs) (w3:¬Q1 gc J) (w4:¬Q1 rc J) (w5:¬Q1 gc cid) (w6:¬Q1 rc cid) (w7:zs.length=n*n)
 (hs:∀i,H.length≤i→i<HI.length→¬Q1 rc i→H6[i]? =HI[i]?) (hlow:∀k,k<H.length→k≠id→H6[k]? =HI[k]?) (hrd:Zj H6 id g B') (hl:HI.length≤H6.length) (hL:Zt eR 3 H6 c' rs') (hids:∀k,Q1 c' k→Q1 rc k∨HI.length≤k) (hsm:U6 rs' R' 5):
 WM H (H6.set J (some ⟨g7,3,[.f (.int .i64 z),gc,c']⟩)) id g B' R' n g4 cid cg J g7:=by
 have hln:=h.ln
 have hlt:=h.lt
 obtain⟨gid,gg,rfl,p1,p2,p3,p4⟩:=w2
 have hgl:gid<HI.length:=(Ja.1 (Jw p1).1).1
 have hS:∀i g,H.length≤i→i<HI.length→¬Q1 rc i→i≠J→look (H6.set J (some ⟨g7,3,[.f (.int .i64 z), .own gid gg 0 zs.length none,c']⟩)) i g=look HI i g:=fun i g a b c d=>by
  unfold look
  rw[Jj (Ne.symm d),hs i a b c]
 have hrcl:∀k,Q1 rc k→k<HI.length:=p3.lt
 obtain⟨gz,gz1,gz2⟩:=h.grid
 exact{out:=by rw[hS _ _ (Nat.le_refl _) (by omega) (fun hh=>by have:=(p4 _ hh).1;omega) (by omega)];exact h.out
       grid:=⟨gz,by rw[hS _ _ (by omega) (by omega) w6 (by omega)];exact gz1,gz2⟩
       ex:=⟨z, .own gid gg 0 zs.length none,c',zs,rs',JK (by omega),⟨gid,gg,rfl,by rw[hS _ _ (by omega) hgl (fun hh=>(p4 _ hh).2 rfl) (fun hh=>w3 (by rw[←hh];rfl))];exact p1,p2,
        hL.same (fun i hi _=>by
         rw[Jj (fun hh=>by
          subst hh
          rcases hids _ hi with hh|hh
          · exact w4 hh
          · omega)]),fun i hi=>by
         rcases hids i hi with hh|hh
         · exact p4 i hh
         · omega⟩,w3,fun hh=>by
        rcases hids _ hh with hh|hh
        · exact w4 hh
        · omega,w5,fun hh=>by
        rcases hids _ hh with hh|hh
        · exact w6 hh
        · omega,w7,hsm⟩
       rd:=hrd.same (by rw[Jj (by omega)])
       lt:=hlt
       ln:=by rw[Jt];omega
       frm:=fun k hk hne=>by rw[Jj (by omega),hlow k hk hne];exact h.frm k hk hne}
theorem WM.put{H HI H6:Ji}{id g R n g4 cid cg J g7 R':Nat}{B B' z:Int}{gc rc:CV}{zs:List Int}{rs:List Q2}(h:WM H HI id g B R n g4 cid cg J g7)
 (w2:PzO H6 HI.length z gc rc zs rs) (w7:zs.length=n*n)
 (hs:∀i,H.length≤i→i<HI.length→H6[i]? =HI[i]?) (hlow:∀k,k<H.length→k≠id→H6[k]? =HI[k]?) (hrd:Zj H6 id g B') (hl:HI.length≤H6.length) (hsm:U6 rs R' 5):
 WM H (H6.set J (some ⟨g7,3,[.f (.int .i64 z),gc,rc]⟩)) id g B' R' n g4 cid cg J g7:=by
 have hln:=h.ln
 have hlt:=h.lt
 have hS:∀i g,H.length≤i→i<HI.length→i≠J→look (H6.set J (some ⟨g7,3,[.f (.int .i64 z),gc,rc]⟩)) i g=look HI i g:=fun i g a b d=>by
  unfold look
  rw[Jj (Ne.symm d),hs i a b]
 obtain⟨gz,gz1,gz2⟩:=h.grid
 have hno:∀i,i<HI.length→¬Q1 gc i∧¬Q1 rc i:=fun i hi=>by
  obtain⟨gid,gg,rfl,p1,p2,p3,p4⟩:=w2
  exact⟨fun hh=>by simp only[Q1]at hh;omega,fun hh=>by have:=(p4 i hh).1;omega⟩
 exact{out:=by rw[hS _ _ (Nat.le_refl _) (by omega) (by omega)];exact h.out
       grid:=⟨gz,by rw[hS _ _ (by omega) (by omega) (by omega)];exact gz1,gz2⟩
       ex:=⟨z,gc,rc,zs,rs,JK (by omega),(w2.same fun i hi _ _=>by rw[Jj (by omega)]).n0 (by omega),(hno _ (by omega)).1,(hno _ (by omega)).2,(hno _ (by omega)).1,(hno _ (by omega)).2,w7,hsm⟩
       rd:=hrd.same (by rw[Jj (by omega)])
       lt:=hlt
       ln:=by rw[Jt];omega
       frm:=fun k hk hne=>by rw[Jj (by omega),hlow k hk hne];exact h.frm k hk hne}
theorem WM.giv{H HI:Ji}{id g R n g4 cid cg J g7 gid gg:Nat}{B z:Int}{rc:CV}{zs:List Int}{rs:List Q2}(h:WM H HI id g B R n g4 cid cg J g7)
 (w1:look HI J g7=some ⟨g7,3,[.f (.int .i64 z), .own gid gg 0 zs.length none,rc]⟩) (w2:PzO HI (H.length+1) z (.own gid gg 0 zs.length none) rc zs rs) (w3:¬Q1 (.own gid gg 0 zs.length none) J) (w4:¬Q1 rc J) (w5:¬Q1 (.own gid gg 0 zs.length none) cid) (w6:¬Q1 rc cid) (w7:zs.length=n*n) (w8:U6 rs R 5) (k:Nat) (v:Int):
 WM H (HI.set gid (some ⟨gg,1,cl (eI .i64) (zs.set k v)⟩)) id g B R n g4 cid cg J g7:=by
 have hln:=h.ln
 have hlt:=h.lt
 obtain⟨gid',gg',he,p1,p2,p3,p4⟩:=w2
 cases he
 have hgl:gid<HI.length:=(Ja.1 (Jw p1).1).1
 simp only[Q1]at w3 w5
 have hS:∀i g,i≠gid→look (HI.set gid (some ⟨gg,1,cl (eI .i64) (zs.set k v)⟩)) i g=look HI i g:=fun i g d=>J7 (Ne.symm d)
 obtain⟨gz,gz1,gz2⟩:=h.grid
 exact{out:=by rw[hS _ _ (by omega)];exact h.out
       grid:=⟨gz,by rw[hS _ _ (by omega)];exact gz1,gz2⟩
       ex:=⟨z,_,rc,zs.set k v,rs,by rw[hS _ _ (by omega)];exact w1,⟨gid,gg,by rw[Jt],JK hgl,p2,p3.same fun i hi _=>by rw[Jj (Ne.symm (p4 i hi).2)],p4⟩,fun hh=>by simp only[Q1]at hh;omega,w4,fun hh=>by simp only[Q1]at hh;omega,w6,by rw[Jt];exact w7,w8⟩
       rd:=h.rd.same (by rw[Jj (by omega)])
       lt:=hlt
       ln:=by rw[Jt];omega
       frm:=fun k hk hne=>by rw[Jj (by omega)];exact h.frm k hk hne}
structure PzF(H HI:Ji)(id g:Nat)(B:Int)(g4 J g7:Nat):Prop where
 out:look HI H.length g4=some ⟨g4,3,[.f (.int .i64 0), .f .nil, .f .nil]⟩
 ex:∃z gc rc zs rs,look HI J g7=some ⟨g7,3,[.f (.int .i64 z),gc,rc]⟩∧(∀H':Ji,(∀i,H.length<i→i<HI.length→H'[i]? =HI[i]?)→frzS (Z0 H.length) H' 6 gc=some (QD zs)∧frzS (Z0 H.length) H' 6 rc=some (WR eR rs))∧zs.length≤16∧U6 rs 30 5
 rd:Zj HI id g B
 lt:id<H.length
 ln:H.length<J∧J<HI.length
 frm:∀k,k<H.length→k≠id→HI[k]? =H[k]?
theorem Gv{H H' HI:Ji}{gid gg:Nat}{zs:List Int}(p1:look HI gid gg=some ⟨gg,1,cl (eI .i64) zs⟩)(h0:H.length<gid)(hs:∀i,H.length<i→i<HI.length→H'[i]? =HI[i]?){off k:Nat}(hk:off+k≤zs.length):frzS (Z0 H.length) H' 6 (.own gid gg off k none)=some (QD ((zs.drop off).take k)):=
 Kw (by unfold look at p1⊢;rw[hs gid h0 (Ja.1 (Jw p1).1).1];exact p1) (by simp[Z0];omega) hk 5
theorem N2{H H' HI:Ji}{rc:CV}{rs:List Q2}(p3:Zt eR 3 HI rc rs)(h0:∀i,Q1 rc i→H.length<i)(hs:∀i,H.length<i→i<HI.length→H'[i]? =HI[i]?):frzS (Z0 H.length) H' 6 rc=some (WR eR rs):=
 (p3.same fun i hi hl=>hs i (h0 i hi) hl).frzS (fun i hi=>by have:=h0 i hi;simp[Z0];omega) 5
theorem JgB(k:Nat):(fl eRo (Jg k none)).map RR=fl eR (Jg k ⟨0,[],0⟩):=by
 induction k with
 |zero=>rfl
 |succ k ih=>
  rw[List.replicate_succ,List.replicate_succ]
  show[RR _,RR _,RR _]++(fl eRo (Jg k none)).map RR=_
  rw[ih]
  rfl
theorem JgP{S:Nat→Bool}{H:Ji}{id g k:Nat}(h:look H id g=some ⟨g,3,cl eRo (Jg k none)⟩)(hS:S id=true):frzS S H 6 (.own id g 0 k none)=some (WR eR (Jg k ⟨0,[],0⟩)):=by
 have hl:(cl eRo (Jg k (none:Option Q2))).length=k*3:=by rw[Qb];simp
 simp only[Lg.frzS,hS,if_true,h,JB,Jn (Nat.le_of_eq hl)]
 rw[show cl eRo (Jg k (none:Option Q2))=(fl eRo (Jg k none)).map CV.f from rfl,Wv,JgB,Option.map_some]
 rw[WR,QV]
theorem WM.fin{H HI:Ji}{id g R n g4 cid cg J g7:Nat}{B B':Int}(h:WM H HI id g B R n g4 cid cg J g7)(hn:n*n≤16)(hR:R≤30)(hb:B≤B'):PzF H HI id g B' g4 J g7:=by
 obtain⟨z,gc,rc,zs,rs,w1,⟨gid,gg,rfl,p1,p2,p3,p4⟩,w3,w4,w5,w6,w7,w8,w9⟩:=h.ex
 have hln:=h.ln
 exact{out:=h.out
       ex:=⟨z,_,rc,zs,rs,w1,fun H' hs=>⟨by have:=Gv p1 (by omega) hs (off:=0) (k:=zs.length) (by omega);rwa [JB,List.take_length]at this,N2 p3 (fun i hi=>by have:=(p4 i hi).1;omega) hs⟩,by omega,by omega,w9⟩
       rd:=h.rd.mono hb,lt:=h.lt,ln:=by omega,frm:=h.frm}
def puzDQ(H:Ji)(id g:Nat)(B:Int):KV:=fun v H'=>(∃p:Zk,v=aP p∧p.given.length≤16∧U6 p.rules 30 5)∧Zj H' id g (B+400)∧UH H H' [id]
theorem Jdn{H:Ji}{id g k:Nat}{lim:Option Nat}{zs:List Int}(h:look H id g=some ⟨g,1,cl (eI .i64) zs⟩)(hk:k≤zs.length):elems H 1 (.c (.own id g 0 k lim))=some (k,cl (eI .i64) (zs.take k)):=by
 have e:(cl (eI .i64) zs).take (k*1)=cl (eI .i64) (zs.take k):=by
  rw[Nat.mul_one]
  have:=QU k zs
  conv=>lhs;rw[←this,QP]
  rw[List.take_append_of_le_length (by rw[Qb];simp;omega),Jn (by rw[Qb];simp;omega)]
 simp only[elems,h,if_true,JB,e]
set_option maxHeartbeats 4000000 in
theorem XE(H:Ji)(id g:Nat)(B kk:Int)(hr:Zj H id g B)(hB:B≤2^37)(hkk:kk≤1000):Jq Tryz.prog 15 [.c (.ptr id g 0),int kk] H (puzDQ H id g B):=by
 have hlt:=hr.lt
 refine Jq.iceS (Q':=fun v H'=>∃z gc rc zs rs,v= .agg [.f (.int .i64 z),gc,rc]∧frzS (Z0 H.length) H' 6 gc=some (QD zs)∧frzS (Z0 H.length) H' 6 rc=some (WR eR rs)∧zs.length≤16∧U6 rs 30 5∧Zj H' id g (B+400)∧H.length≤H'.length∧∀k,k<H.length→k≠id→H'[k]? =H[k]?) ?_ ?_
 rotate_left
 · rintro v H' ⟨z,gc,rc,zs,rs,rfl,h1,h2,h3,h4,h5,h6,h7⟩
   refine⟨Z0 H.length,H'.take H.length,aP ⟨z,zs,rs⟩,Xr _ _,FI X6 (Kn h1) (Kn h2),⟨_,rfl,h3,h4⟩,h5.take hlt,by simp;omega,fun i hi=> ?_⟩
   by_cases hi':i<H.length
   · rw[JG hi',h7 i hi' (by simpa using hi)]
   · rw[List.getElem?_take_eq_none (by omega),Ju (by omega)]
 refine Jq.ofR (c:=_) Tryz.func15 rfl (n:=130) Tryz.ntmps15 (rs:=[.cell 4 26]) rfl ?_
 simp only[Jf,Jl,zA,zS,Jg,Jc,Jd]
 refine QM.cutN 5 (fun a:Nat×Nat×Nat×Nat×Nat×Nat×Ji=>(a.1=2∨a.1=3∨a.1=4)∧WM H a.2.2.2.2.2.2 id g (B+250) 4 a.1 a.2.1 a.2.2.1 a.2.2.2.1 a.2.2.2.2.1 a.2.2.2.2.2.1) (fun a=>[.k, .k, .a, .a, .p (.c (.ptr H.length a.2.1 0)), .p (int a.1), .p (.c (.own a.2.2.1 a.2.2.2.1 0 (a.1*a.1) none)), .p (.c (.ptr a.2.2.2.2.1 a.2.2.2.2.2.1 0)), .a, .a, .a, .a, .a, .a, .a, .a, .a, .a, .a, .a, .a, .a, .a, .a, .a, .a, .a, .a, .a, .a, .a, .a, .a, .a, .a, .a, .a, .a, .a, .a, .a, .a, .a, .a, .a, .a, .a, .a, .a, .a, .a, .a, .a, .a, .a, .a, .a, .a, .a, .a, .a, .a, .a, .a, .a, .a, .a, .a, .a, .a, .a, .a, .a, .a, .a, .a, .a, .a, .a, .a, .a, .a, .a, .a, .a, .a, .a, .a, .a, .a, .a, .a, .a, .a, .a, .a, .a, .a, .a, .a, .a, .a, .a, .a, .a, .a, .a, .a, .a, .a, .a, .a, .a, .a, .a, .a, .a, .a, .a, .a, .a, .a, .a, .a, .a, .a, .a, .a, .a, .a]) (fun a=>a.2.2.2.2.2.2) ?_ ?_
 · simp(maxSteps:=999999)(disch:=omega)only[go_sem,zA,zM,zS,zE,zL,J3,Qi,QE,Qr,Js,Jc,Jd,Je]
   intro g4
   refine Qh.run (NR _ id g B 0 hr.app (by omega) (by omega)) (⟨_,Tryz.func33,rfl,rfl⟩:Jm Tryz.prog 33) rfl rfl ?_
   rintro _ H1 ⟨⟨sz,rfl,_,_,hsz⟩,r1,f1⟩
   have hsz:=hsz (by omega)
   obtain⟨n,rfl⟩:∃n:Nat,sz=n:=⟨sz.toNat,by omega⟩
   have hn:n=2∨n=3∨n=4:=by omega
   have hsq:4≤n*n∧n*n≤16:=by rcases hn with rfl|rfl|rfl<;>omega
   have l1:H1.length=H.length+1:=by rw[f1.1];simp
   simp(maxSteps:=999999)(disch:=omega)only[go_sem,zA,zM,zS,zE,zL]
   refine Qh.run (BS hn H1 id g (B+2) r1 (by omega)) (⟨_,Tryz.func34,rfl,rfl⟩:Jm Tryz.prog 34) rfl rfl ?_
   rintro _ H2 ⟨cid,cg,rfl,q2⟩
   obtain⟨⟨ys,y1,y2⟩,r2,_,c1,c2,c3⟩:=q2
   have hcl:cid<H2.length:=(Ja.1 (Jw y1).1).1
   have hyX:∀L,look (H2++L) cid cg=some ⟨cg,1,cl (eI .i64) ys⟩:=fun L=>JR y1
   simp(maxSteps:=999999)(disch:=omega)only[go_sem,zA,zM,zS,zE,zL,J3,Qi,QE,Qr,Js,Jc,Jd,Je]
   intro g5
   refine Uk (E:=eI .i64) (xs:=[]) (ys:=ys.take (n*n)) (JZ UW rfl Ru) ⟨rfl,rfl,by decide,by decide⟩ rfl (by rw[Qi];exact Qq (b:=⟨g5,1,cl (eI .i64) []⟩) rfl) ⟨by simp,by simp;omega⟩ (by have:=Jdn (lim:=none) (hyX [some ⟨g5,1,[]⟩]) y2;rw[JA,Nat.min_eq_left y2];exact this) ?_
   intro g6
   have htl:(ys.take (n*n)).length=n*n:=by rw[JA];omega
   rw[Jl,Nat.zero_add,Jd,htl]
   simp(maxSteps:=999999)(disch:=omega)only[go_sem,zA,zM,zS,zE,zL,J3,Qi,QE,Qr,Js,Jc,Jd,Je]
   intro g7
   obtain⟨HI,hHI⟩:∃HI:Ji,HI=H2++[some ⟨g6,1,cl (eI .i64) (ys.take (n*n))⟩,some ⟨g7,3,[.f (.int .i64 n), .own H2.length g6 0 (n*n) none, .f .nil]⟩]:=⟨_,rfl⟩
   have q0:WM H HI id g (B+4) 0 n g4 cid cg (H2.length+1) g7:=
    {out:=by rw[hHI];refine JR ?_;unfold look;rw[c3 _ (by omega) (by omega),f1.2 _ (by simp;omega)];exact JY
     grid:=⟨ys,by rw[hHI];exact hyX _,y2⟩
     ex:=⟨n, .own H2.length g6 0 (n*n) none, .f .nil,ys.take (n*n),[],by rw[hHI,J3];exact Qq (b:=⟨g7,3,[.f (.int .i64 n), .own H2.length g6 0 (n*n) none, .f .nil]⟩) rfl,
      ⟨H2.length,g6,by rw[htl],by rw[hHI,Qi];exact Qq (b:=⟨g6,1,cl (eI .i64) (ys.take (n*n))⟩) rfl,by omega, .n,fun i h=>h.elim⟩,fun h=>by simp only[Q1]at h;omega,fun h=>h,fun h=>by simp only[Q1]at h;omega,fun h=>h,htl,by simp[U6]⟩
     rd:=by rw[hHI];exact(r2.app).mono (by omega)
     lt:=hlt
     ln:=by rw[hHI];simp;omega
     frm:=fun k hk hne=>by rw[hHI,Jb (by omega),c3 k (by omega) hne,f1.2 k (by simpa using hne),Jb hk]}
   rw[←hHI]
   clear hHI
   refine Qh.run (QQ HI id g _ _ q0.rd (by omega)) (⟨_,Tryz.func35,rfl,rfl⟩:Jm Tryz.prog 35) rfl rfl ?_
   rintro _ H3 ⟨⟨y,rfl,k0,k1⟩,r3,f3⟩
   have k1:=k1 (by omega)
   replace f3:UH HI H3 [id]:=f3
   have q1:=q0.pick r3 f3
   obtain⟨yn,rfl⟩:∃yn:Nat,y=yn:=⟨y.toNat,by omega⟩
   simp(maxSteps:=999999)(disch:=omega)only[go_sem,zA,zM,zS,zE,zL]
   refine Qj (fun(k:Nat) (HI:Ji)=>k) (fun k HI=>k≤4∧WM H HI id g (B+5+60*(4 -k)) (4 -k) n g4 cid cg (H2.length+1) g7) (fun k HI=>[.k, .k, .a, .a, .k, .k, .k, .k, .p (int k), .a, .a, .a, .a, .a, .a, .a, .a, .a, .a, .a, .a, .a, .a, .a, .a, .a, .a, .a, .a, .a, .a, .a, .a, .a, .a, .a, .a, .a, .a, .a, .a, .a, .a, .a, .a, .a, .a, .a, .a, .a, .a, .a, .a, .a, .a, .a, .a, .a, .a, .a, .a, .a, .a, .a, .a, .a, .a, .a, .a, .a, .a, .a, .a, .a, .a, .a, .a, .a, .a, .a, .a, .a, .a, .a, .a, .a, .a, .a, .a, .a, .a, .a, .a, .a, .a, .a, .a, .a, .a, .a, .a, .a, .a, .a, .a, .a, .a, .a, .a, .a, .a, .a, .a, .a, .a, .a, .a, .a, .a, .a, .a, .a, .a, .a, .a, .a, .a, .a, .a, .a]) (fun _ HI=>HI) yn H3 ⟨by omega,(q1.mono (by omega)).wid (by omega)⟩ (by simp(maxSteps:=999999)(disch:=omega)only[go_sem,zA,zM,zS,zE,zL]) (Qc.refl _) ?_
   rintro k HI ⟨hk,q⟩
   simp(maxSteps:=999999)(disch:=omega)only[go_sem,zA,zM,zS,zE,zL]
   ((first|(with_reducible first|refine Jo ?_ ?_|refine Jk ?_ ?_|refine Jp ?_ ?_)|refine Jr ?_ ?_)<;>intro c1)
   · simp(maxSteps:=999999)(disch:=omega)only[go_sem,zA,zM,zS,zE,zL]
     obtain⟨z,gc,rc,zs,rs,w1,w2,w3,w4,w5,w6,w7,w8,w9⟩:=q.ex
     have hln:=q.ln
     have hlt:=q.lt
     obtain⟨gz,gz1,gz2⟩:=q.grid
     have hM:look (QT (Z3 id HI.length (HI.length+1)) HI) (H2.length+1) g7=some ⟨g7,3,[.f (.int .i64 z),gc,rc]⟩:=by rw[UN (VB (by omega) (by omega))];exact w1
     refine Zg [0,1,2,3,4,5,6] [] none [7,8,9] (Z3 id HI.length (HI.length+1)) [0,1,0,0,0,28,60,127,255,511] Zr (by kernel_rfl) ?_
     iterate 5 (rw[JP];simp(maxSteps:=999999)(disch:=omega)only[go_sem,zA,zM,zS,zE,zL,hM])
     rw[JP]
     simp(maxSteps:=999999)(disch:=omega)only[go_sem,zA,zM,zS,zE,zL]
     refine Qe.run (KY hn HI id g _ 0 q.rd (by omega) (by omega) cid cg gz gz1 gz2 (by omega)) (⟨_,Tryz.func36,rfl,rfl⟩:Jm Tryz.prog 36) rfl rfl ?_
     rintro _ H4 ⟨⟨r,rfl,hrc⟩,r4,f4⟩
     replace f4:UH HI H4 [id]:=f4
     refine⟨ZX fun j b hj hb=>by
      have hjl:=(Ja.1 hb).1
      obtain⟨h1,_⟩:=Vn hj (by omega)
      rw[f4.2 j (by simpa using h1)]
      exact hb, ?_⟩
     rw[JP]
     simp(maxSteps:=999999)(disch:=omega)only[go_sem,zA,zM,zS,zE,zL]
     intro gt
     refine⟨ZX fun j b hj hb=>by
      rw[Jb (Ja.1 hb).1]
      exact hb, ?_⟩
     have hs4:∀i,H.length≤i→H4[i]? =HI[i]? :=fun i hi=>f4.2 i (by simp;omega)
     have hrc4:Zt eR 3 H4 rc rs:=by
      obtain⟨_,_,_,_,_,p3,p4⟩:=w2
      exact p3.same fun i hi _=>hs4 i (by have:=(p4 i hi).1;omega)
     have hrn:∀i,Q1 rc i→H.length<i:=fun i hi=>by
      obtain⟨_,_,_,_,_,p3,p4⟩:=w2
      exact(p4 i hi).1
     refine Xw (E:=eR) (v:=r) (JZ Rv rfl Rt) ⟨rfl,rfl,by decide,by decide⟩ (hrc4.app) (by omega) JY ?_
     intro c' H6 hL6 hf6 hi6 hl6 hb6
     rw[Je,JW]at hl6
     have hs6:∀i,H.length≤i→i<HI.length→¬Q1 rc i→H6[i]? =HI[i]? :=fun i a b c=>by
      rw[hf6 i (by rw[Je,f4.1];omega) c,Jb (by rw[f4.1];omega),hs4 i a]
     have hl4:H4.length=HI.length:=f4.1
     have hlow6:∀k,k<H.length→H6[k]? =H4[k]? :=fun k hk=>by
      rw[hf6 k (by rw[Je];omega) (fun hh=>by have:=hrn k hh;omega),Jb (by omega)]
     have hJ6:look H6 (H2.length+1) g7=some ⟨g7,3,[.f (.int .i64 z),gc,rc]⟩:=by unfold look at w1⊢;rw[hs6 _ (by omega) (by omega) w4];exact w1
     simp(maxSteps:=999999)(disch:=omega)only[go_sem,zA,zM,zS,zE,zL,hJ6]
     have hq:=WM.rule q w1 w2 w3 w4 w5 w6 w7 hs6 (fun k hk hne=>by rw[hlow6 k hk,f4.2 k (by simpa using hne)]) (r4.same (hlow6 id hlt)) (by omega) hL6 (fun k hk=>by
      rcases hi6 k hk with hh|hh
      · exact .inl hh
      · rw[Je]at hh;exact .inr (by omega)) (R':=(4 -k)+1) ⟨by simp;omega,fun r' hr'=>by
      rcases JF.1 hr' with hh|hh
      · exact w9 r' hh
      · simp at hh;subst hh;exact hrc⟩
     exact⟨k -1,_,⟨⟨by omega,(hq.mono (by omega)).wid (by omega)⟩,by omega⟩,by omega,Qc.refl _⟩
   · simp(maxSteps:=999999)(disch:=omega)only[go_sem,zA,zM,zS,zE,zL]
     exact⟨(n,g4,cid,cg,H2.length+1,g7,HI),⟨hn,(q.mono (by omega)).wid (by omega)⟩,by simp,Qc.refl _⟩
 · rintro⟨n,g4,cid,cg,J,g7,HI⟩ ⟨hn,q⟩
   simp only at hn q
   have hsq:4≤n*n∧n*n≤16:=by rcases hn with rfl|rfl|rfl<;>omega
   have hln:=q.ln
   simp(maxSteps:=999999)(disch:=omega)only[go_sem,zA,zM,zS,zE,zL]
   refine QM.cutN 1 (fun a:Ji=>WM H a id g (B+251) 8 n g4 cid cg J g7) (fun a=>[.k, .k, .a, .a, .k, .k, .k, .k, .a, .a, .a, .a, .a, .a, .a, .a, .a, .a, .a, .a, .a, .a, .a, .a, .a, .a, .a, .a, .a, .a, .a, .a, .a, .a, .a, .a, .a, .a, .a, .a, .a, .a, .a, .a, .a, .a, .a, .a, .a, .a, .a, .a, .a, .a, .a, .a, .a, .a, .a, .a, .a, .a, .a, .a, .a, .a, .a, .a, .a, .a, .a, .a, .a, .a, .a, .a, .a, .a, .a, .a, .a, .a, .a, .a, .a, .a, .a, .a, .a, .a, .a, .a, .a, .a, .a, .a, .a, .a, .a, .a, .a, .a, .a, .a, .a, .a, .a, .a, .a, .a, .a, .a, .a, .a, .a, .a, .a, .a, .a, .a, .a, .a, .a, .a, .a, .a, .a, .a, .a, .a]) (fun a=>a) ?_ ?_
   · simp(maxSteps:=999999)(disch:=omega)only[go_sem,zA,zM,zS,zE,zL]
     ((with_reducible first|refine JU ?_ ?_|refine JJ ?_ ?_|refine J6 ?_ ?_|refine Jx ?_ ?_|refine JS ?_ ?_|refine JT ?_ ?_|refine JH ?_ ?_|refine JI ?_ ?_|refine J4 ?_ ?_|refine J5 ?_ ?_|refine JC ?_ ?_|refine JD ?_ ?_)<;>intro c1<;>simp(maxSteps:=999999)(disch:=omega)only[go_sem,zA,zM,zS,zE,zL,c1])
     rotate_left
     · exact⟨HI,(q.mono (by omega)).wid (by omega),Qc.refl _⟩
     obtain rfl:n=4:=by omega
     refine Qh.run (QQ HI id g _ _ q.rd (by omega)) (⟨_,Tryz.func35,rfl,rfl⟩:Jm Tryz.prog 35) rfl rfl ?_
     rintro _ H1 ⟨⟨y,rfl,k0,k1⟩,r1,f1⟩
     replace f1:UH HI H1 [id]:=f1
     have q1:=q.pick r1 f1
     simp(maxSteps:=999999)(disch:=omega)only[go_sem,zA,zM,zS,zE,zL]
     ((first|(with_reducible first|refine Jo ?_ ?_|refine Jk ?_ ?_|refine Jp ?_ ?_)|refine Jr ?_ ?_)<;>intro c2)
     rotate_left
     · simp(maxSteps:=999999)(disch:=omega)only[go_sem,zA,zM,zS,zE,zL]
       exact⟨H1,(q1.mono (by omega)).wid (by omega),Qc.refl _⟩
     simp(maxSteps:=999999)(disch:=omega)only[go_sem,zA,zM,zS,zE,zL]
     first|refine Qh.mk (Xe) (⟨_,Tryz.func38,rfl,rfl⟩:Jm Tryz.prog 38) rfl rfl rfl rfl rfl ?_|refine Qe.mk (Xe) (⟨_,Tryz.func38,rfl,rfl⟩:Jm Tryz.prog 38) rfl rfl rfl rfl rfl ?_
     simp(maxSteps:=999999)(disch:=omega)only[go_sem,zA,zM,zS,zE,zL]
     refine Qh.mkF (Y6 Jal 4 (by rw[Bq];omega) (by omega)) (⟨_,Tryz.func37,rfl,rfl⟩:Jm Tryz.prog 37) rfl rfl rfl ?_
     rintro _ ⟨qs,b,rfl,hqs⟩
     refine⟨rfl,rfl, ?_⟩
     simp(maxSteps:=999999)(disch:=omega)only[go_sem,zA,zM,zS,zE,zL]
     obtain⟨gz,gz1,gz2⟩:=q1.grid
     have hsg:∀x,frzC H1 (.f (.int .i64 x))=some (.f (.int .i64 x)):=fun _=>rfl
     have hsr:frzC H1 (.f (WR eR qs))=some (.f (WR eR qs)):=rfl
     have hgv:frzC H1 (.own cid cg 0 (4*4) none)=some (.f (QD (gz.take (4*4)))):=by have:=N1 (off:=0) (n:=4*4) (lim:=none) gz1 (by omega);rwa [JB]at this
     have hs1:QS H1 (.agg [.f (.int .i64 4), .own cid cg 0 (4*4) none, .f (WR eR qs)])=some (aP ⟨4,gz.take (4*4),qs⟩):=by
      simp only[QS,Jz,Qa,hsg,hgv,hsr,Option.bind_eq_bind,Option.pure_def,Option.bind_some,Option.map_some]
     have hs2:QS H1 (.c (.own cid cg 0 (4*4) none))=some (ZY (gz.take (4*4))):=by simp only[QS,hgv,Option.map_some]
     have hgl:(gz.take (4*4)).length=16:=by rw[JA];omega
     refine Qh.rdD (Yr ⟨4,gz.take (4*4),qs⟩ (gz.take (4*4)) ⟨by show(gz.take (4*4)).length≤_;omega,by have:=hqs.1;show qs.length≤_;omega,fun r hr=>by have:=hqs.2 r hr;omega⟩ (by omega)) (⟨_,Tryz.func39,rfl,rfl⟩:Jm Tryz.prog 39) rfl rfl (UX hs1 hs2) rfl ?_
     simp(maxSteps:=999999)(disch:=omega)only[go_sem,zA,zM,zS,zE,zL]
     obtain⟨z,gc,rc,zs,rs,w1,w2,w3,w4,w5,w6,w7,w8,w9⟩:=q1.ex
     have hln1:=q1.ln
     ((first|(with_reducible first|refine Jo ?_ ?_|refine Jk ?_ ?_|refine Jp ?_ ?_)|refine Jr ?_ ?_)<;>intro c3)
     rotate_left
     · simp(maxSteps:=999999)(disch:=omega)only[go_sem,zA,zM,zS,zE,zL]
       exact⟨H1,(q1.mono (by omega)).wid (by omega),Qc.refl _⟩
     simp(maxSteps:=999999)(disch:=omega)only[go_sem,zA,zM,zS,zE,zL,w1]
     have hrn:∀i,Q1 rc i→H.length<i:=fun i hi=>by
      obtain⟨_,_,_,_,_,p3,p4⟩:=w2
      exact(p4 i hi).1
     have hL:=w2
     obtain⟨_,_,_,_,_,p3,_⟩:=hL
     have hq1:=hqs.1
     refine VH (E:=eR) (ys:=qs) (JZ Rv rfl Rt) ⟨rfl,rfl,by decide,by decide⟩ p3 ⟨by omega,by omega⟩ Xt ?_
     intro c' H6 hL6 hf6 hi6 hl6 hb6
     have hJ6:look H6 J g7=some ⟨g7,3,[.f (.int .i64 z),gc,rc]⟩:=by unfold look at w1⊢;rw[hf6 _ (by omega) w4];exact w1
     simp(maxSteps:=999999)(disch:=omega)only[go_sem,zA,zM,zS,zE,zL,hJ6]
     have hlt:=q1.lt
     have hq:=WM.rule q1 w1 w2 w3 w4 w5 w6 w7 (fun i _ b c=>hf6 i b c) (fun k hk hne=>hf6 k (by omega) (fun hh=>by have:=hrn k hh;omega)) (q1.rd.same (hf6 id (by omega) (fun hh=>by have:=hrn id hh;omega))) hl6 hL6 (fun k hk=>by
      rcases hi6 k hk with hh|hh
      · exact .inl hh
      · exact .inr (by omega)) (R':=8) ⟨by simp;omega,fun r' hr'=>by
      rcases JF.1 hr' with hh|hh
      · exact w9 r' hh
      · have:=hqs.2 r' hh;omega⟩
     exact⟨_,hq.mono (by omega),Qc.refl _⟩
   · intro HI q
     have hln:=q.ln
     simp(maxSteps:=999999)(disch:=omega)only[go_sem,zA,zM,zS,zE,zL]
     refine QM.cutN 1 (fun a:Ji=>WM H a id g (B+280) 8 n g4 cid cg J g7) (fun a=>[.k, .k, .a, .a, .k, .k, .k, .k, .a, .a, .a, .a, .a, .a, .a, .a, .a, .a, .a, .a, .a, .a, .a, .a, .a, .a, .a, .a, .a, .a, .a, .a, .a, .a, .a, .a, .a, .a, .a, .a, .a, .a, .a, .a, .a, .a, .a, .a, .a, .a, .a, .a, .a, .a, .a, .a, .a, .a, .a, .a, .a, .a, .a, .a, .a, .a, .a, .a, .a, .a, .a, .a, .a, .a, .a, .a, .a, .a, .a, .a, .a, .a, .a, .a, .a, .a, .a, .a, .a, .a, .a, .a, .a, .a, .a, .a, .a, .a, .a, .a, .a, .a, .a, .a, .a, .a, .a, .a, .a, .a, .a, .a, .a, .a, .a, .a, .a, .a, .a, .a, .a, .a, .a, .a, .a, .a, .a, .a, .a, .a]) (fun a=>a) ?_ ?_
     · simp(maxSteps:=999999)(disch:=omega)only[go_sem,zA,zM,zS,zE,zL]
       refine Qh.run (QQ HI id g _ _ q.rd (by omega)) (⟨_,Tryz.func35,rfl,rfl⟩:Jm Tryz.prog 35) rfl rfl ?_
       rintro _ H1 ⟨⟨y,rfl,k0,k1⟩,r1,f1⟩
       replace f1:UH HI H1 [id]:=f1
       have q1:=q.pick r1 f1
       simp(maxSteps:=999999)(disch:=omega)only[go_sem,zA,zM,zS,zE,zL]
       ((first|(with_reducible first|refine Jo ?_ ?_|refine Jk ?_ ?_|refine Jp ?_ ?_)|refine Jr ?_ ?_)<;>intro c1)
       · obtain⟨z,gc,rc,zs,rs,w1,w2,w3,w4,w5,w6,w7,w8,w9⟩:=q1.ex
         have hln1:=q1.ln
         have hlt:=q1.lt
         have hw2:=w2
         obtain⟨gid,gg,rfl,p1,p2,p3,p4⟩:=hw2
         simp(maxSteps:=999999)(disch:=omega)only[go_sem,zA,zM,zS,zE,zL,w1]
         refine Qh.run (Y7 H1 z gid gg zs rc rs p1 p3 (by omega) ⟨by omega,fun r hr=>by have:=w9 r hr;omega⟩) (⟨_,Tryz.func40,rfl,rfl⟩:Jm Tryz.prog 40) rfl rfl ?_
         rintro _ H5 ⟨m1,m2,m3⟩
         rcases m3 with⟨c1,c2,c3,rfl⟩|⟨gc',rc',zs',rfl,z1,z2⟩
         · have hst:∀X:Ji,WM H (H5++X) id g (B+280) 8 n g4 cid cg J g7:=fun X=>
            (q1.mono (B':=B+280) (by omega)).step (fun i hi hl=>by rw[Jb (by omega),m2 i hl]) (by rw[Je];omega) ((q1.rd.mono (B':=B+280) (by omega)).same (by rw[Jb (by omega),m2 id (by omega)])) fun k hk _=>by rw[Jb (by omega),m2 k (by omega)]
           simp(maxSteps:=999999)(disch:=omega)only[go_sem,zA,zM,zS,zE,zL,J3,Qi,QE,Qr,Js,Jc,Jd,Je]
           intro g11
           exact⟨_,hst _,Qc.refl _⟩
         · simp(maxSteps:=999999)(disch:=omega)only[go_sem,zA,zM,zS,zE,zL,J3,Qi,QE,Qr,Js,Jc,Jd,Je]
           intro g11
           have hJX:∀X,look (H5++X) J g7=some ⟨g7,3,[.f (.int .i64 z), .own gid gg 0 zs.length none,rc]⟩:=fun X=>JR (by unfold look at w1⊢;rw[m2 _ (by omega)];exact w1)
           simp(maxSteps:=999999)(disch:=omega)only[go_sem,zA,zM,zS,zE,zL,hJX]
           have w9s:U6 rs 8 5:=⟨w8,w9⟩
           have hq:=WM.put (H6:=H5++[some ⟨g11,3,[.f (.int .i64 z),gc',rc']⟩]) (B':=B+280) (R':=8) q1 (z2.same fun i _ _ hl=>Jb hl) (by omega) (fun i hi hl=>by rw[Jb (by omega),m2 i hl]) (fun k hk _=>by rw[Jb (by omega),m2 k (by omega)]) ((q1.rd.mono (by omega)).same (by rw[Jb (by omega),m2 id (by omega)])) (by rw[Je];omega) w9s
           exact⟨_,hq,Qc.refl _⟩
       · simp(maxSteps:=999999)(disch:=omega)only[go_sem,zA,zM,zS,zE,zL]
         refine Qh.run (QQ H1 id g _ _ q1.rd (by omega)) (⟨_,Tryz.func35,rfl,rfl⟩:Jm Tryz.prog 35) rfl rfl ?_
         rintro _ H2 ⟨⟨t,rfl,t0,t1⟩,r2,f2⟩
         replace f2:UH H1 H2 [id]:=f2
         have t1:=t1 (by omega)
         have q2:=q1.pick r2 f2
         simp(maxSteps:=999999)(disch:=omega)only[go_sem,zA,zM,zS,zE,zL]
         refine Qj (fun(k:Nat) (HI:Ji)=>n*n -k) (fun k HI=>k≤n*n∧WM H HI id g (B+251+2+k) 8 n g4 cid cg J g7) (fun k HI=>[.k, .k, .a, .a, .k, .k, .k, .k, .a, .a, .a, .a, .a, .k, .p (int k), .a, .a, .a, .a, .a, .a, .a, .a, .a, .a, .a, .a, .a, .a, .a, .a, .a, .a, .a, .a, .a, .a, .a, .a, .a, .a, .a, .a, .a, .a, .a, .a, .a, .a, .a, .a, .a, .a, .a, .a, .a, .a, .a, .a, .a, .a, .a, .a, .a, .a, .a, .a, .a, .a, .a, .a, .a, .a, .a, .a, .a, .a, .a, .a, .a, .a, .a, .a, .a, .a, .a, .a, .a, .a, .a, .a, .a, .a, .a, .a, .a, .a, .a, .a, .a, .a, .a, .a, .a, .a, .a, .a, .a, .a, .a, .a, .a, .a, .a, .a, .a, .a, .a, .a, .a, .a, .a, .a, .a, .a, .a, .a, .a, .a, .a]) (fun _ HI=>HI) 0 H2 ⟨Nat.zero_le _,q2.mono (by omega)⟩ (by simp(maxSteps:=999999)(disch:=omega)only[go_sem,zA,zM,zS,zE,zL];rfl) (Qc.refl _) ?_
         rintro k HI ⟨hk,q⟩
         obtain⟨z,gc,rc,zs,rs,w1,w2,w3,w4,w5,w6,w7,w8⟩:=q.ex
         have hw2:=w2
         obtain⟨gid,gg,rfl,p1,p2,p3,p4⟩:=hw2
         simp(maxSteps:=999999)(disch:=omega)only[go_sem,zA,zM,zS,zE,zL,w1,p1]
         ((first|(with_reducible first|refine Jo ?_ ?_|refine Jk ?_ ?_|refine Jp ?_ ?_)|refine Jr ?_ ?_)<;>intro c2)
         · have c2:k<n*n:=by omega
           simp(maxSteps:=999999)(disch:=omega)only[go_sem,zA,zM,zS,zE,zL]
           refine Qh.run (QQ HI id g _ _ q.rd (by omega)) (⟨_,Tryz.func35,rfl,rfl⟩:Jm Tryz.prog 35) rfl rfl ?_
           rintro _ H3 ⟨⟨t,rfl,t0,t1⟩,r3,f3⟩
           replace f3:UH HI H3 [id]:=f3
           have q3:=q.pick r3 f3
           simp(maxSteps:=999999)(disch:=omega)only[go_sem,zA,zM,zS,zE,zL]
           ((first|(with_reducible first|refine Jo ?_ ?_|refine Jk ?_ ?_|refine Jp ?_ ?_)|refine Jr ?_ ?_)<;>intro c3)
           · obtain⟨z,gc,rc,zs,rs,w1,w2,w3,w4,w5,w6,w7,w8⟩:=q3.ex
             have hw2:=w2
             obtain⟨gid,gg,rfl,p1,p2,p3,p4⟩:=hw2
             simp(maxSteps:=999999)(disch:=omega)only[go_sem,zA,zM,zS,zE,zL,w1,p1]
             rw[Int.toNat_natCast]
             exact⟨k+1,_,⟨⟨by omega,(q3.giv w1 w2 w3 w4 w5 w6 w7 w8 k 0).mono (by push_cast;omega)⟩,by omega⟩,by push_cast;omega,Qc.refl _⟩
           · simp(maxSteps:=999999)(disch:=omega)only[go_sem,zA,zM,zS,zE,zL]
             exact⟨k+1,_,⟨⟨by omega,q3.mono (by push_cast;omega)⟩,by omega⟩,by push_cast;omega,Qc.refl _⟩
         · simp(maxSteps:=999999)(disch:=omega)only[go_sem,zA,zM,zS,zE,zL]
           exact⟨_,q.mono (by omega),Qc.refl _⟩
     · intro HI q
       simp(maxSteps:=999999)(disch:=omega)only[go_sem,zA,zM,zS,zE,zL]
       refine QM.cutN 1 (fun a:Ji=>WM H a id g (B+283) 8 n g4 cid cg J g7) (fun a=>[.k, .k, .a, .a, .k, .k, .k, .k, .a, .a, .a, .a, .a, .a, .a, .a, .a, .a, .a, .a, .a, .a, .a, .a, .a, .a, .a, .a, .a, .a, .a, .a, .a, .a, .a, .a, .a, .a, .a, .a, .a, .a, .a, .a, .a, .a, .a, .a, .a, .a, .a, .a, .a, .a, .a, .a, .a, .a, .a, .a, .a, .a, .a, .a, .a, .a, .a, .a, .a, .a, .a, .a, .a, .a, .a, .a, .a, .a, .a, .a, .a, .a, .a, .a, .a, .a, .a, .a, .a, .a, .a, .a, .a, .a, .a, .a, .a, .a, .a, .a, .a, .a, .a, .a, .a, .a, .a, .a, .a, .a, .a, .a, .a, .a, .a, .a, .a, .a, .a, .a, .a, .a, .a, .a, .a, .a, .a, .a, .a, .a]) (fun a=>a) ?_ ?_
       · simp(maxSteps:=999999)(disch:=omega)only[go_sem,zA,zM,zS,zE,zL]
         refine Qh.run (QQ HI id g _ _ q.rd (by omega)) (⟨_,Tryz.func35,rfl,rfl⟩:Jm Tryz.prog 35) rfl rfl ?_
         rintro _ H1 ⟨⟨y,rfl,k0,k1⟩,r1,f1⟩
         replace f1:UH HI H1 [id]:=f1
         have q1:=q.pick r1 f1
         simp(maxSteps:=999999)(disch:=omega)only[go_sem,zA,zM,zS,zE,zL]
         ((first|(with_reducible first|refine Jo ?_ ?_|refine Jk ?_ ?_|refine Jp ?_ ?_)|refine Jr ?_ ?_)<;>intro c1)
         · have hln:=q1.ln
           have hlt:=q1.lt
           obtain⟨z,gc,rc,zs,rs,w1,w2,w3,w4,w5,w6,w7,w8⟩:=q1.ex
           have hw2:=w2
           obtain⟨gid,gg,rfl,p1,p2,p3,p4⟩:=hw2
           have hgl:gid<H1.length:=(Ja.1 (Jw p1).1).1
           have hM:look (QT (Z3 id H1.length (H1.length+1)) H1) J g7=some ⟨g7,3,[.f (.int .i64 z), .own gid gg 0 zs.length none,rc]⟩:=by rw[UN (VB (by omega) (by omega))];exact w1
           have hMg:∀X:Ji,X[gid]? =H1[gid]?→look (QT (Z3 id H1.length (H1.length+1)) X) gid gg=some ⟨gg,1,cl (eI .i64) zs⟩:=fun X hX=>by
            rw[UN (VB (by omega) (by omega))]
            unfold look at p1⊢
            rw[hX]
            exact p1
           have hMg0:=hMg H1 rfl
           refine Zg [0,1,2,3,4,5,7,8,6,9,10] [] none [11,12] (Z3 id H1.length (H1.length+1)) [0,1,0,0,8,24,60,0,0,508,1020,2047,4095] Zr (by kernel_rfl) ?_
           iterate 8 (rw[JP];simp(maxSteps:=999999)(disch:=omega)only[go_sem,zA,zM,zS,zE,zL,hM,hMg0])
           rw[JP]
           simp(maxSteps:=999999)(disch:=omega)only[go_sem,zA,zM,zS,zE,zL]
           refine Qe.run (QQ H1 id g _ _ q1.rd (by omega)) (⟨_,Tryz.func35,rfl,rfl⟩:Jm Tryz.prog 35) rfl rfl ?_
           rintro _ H2 ⟨⟨a,rfl,a0,a1⟩,r2,f2⟩
           have a1:=a1 (by omega)
           replace f2:UH H1 H2 [id]:=f2
           have hok:∀X Y:Ji,UH X Y [id]→X.length=H1.length→KO (Z3 id H1.length (H1.length+1)) X Y:=fun X Y hf hX=>ZX fun j b hj hb=>by
            have hjl:=(Ja.1 hb).1
            obtain⟨h1,_⟩:=Vn hj (by omega)
            rw[hf.2 j (by simpa using h1)]
            exact hb
           refine⟨hok _ _ f2 rfl, ?_⟩
           rw[JP]
           simp(maxSteps:=999999)(disch:=omega)only[go_sem,zA,zM,zS,zE,zL]
           refine Qe.run (QQ H2 id g _ _ r2 (by omega)) (⟨_,Tryz.func35,rfl,rfl⟩:Jm Tryz.prog 35) rfl rfl ?_
           rintro _ H3 ⟨⟨e,rfl,e0,e1⟩,r3,f3⟩
           have e1:=e1 (by omega)
           replace f3:UH H2 H3 [id]:=f3
           refine⟨hok _ _ f3 f2.1, ?_⟩
           have q3:=(q1.pick r2 f2).pick r3 f3
           have hl3:H3.length=H1.length:=by rw[f3.1,f2.1]
           have he3:∀i,H.length≤i→H3[i]? =H1[i]? :=fun i hi=>by rw[f3.2 i (by simp;omega),f2.2 i (by simp;omega)]
           have w1':look H3 J g7=some ⟨g7,3,[.f (.int .i64 z), .own gid gg 0 zs.length none,rc]⟩:=by unfold look at w1⊢;rw[he3 _ (by omega)];exact w1
           have p1':look H3 gid gg=some ⟨gg,1,cl (eI .i64) zs⟩:=by unfold look at p1⊢;rw[he3 _ (by omega)];exact p1
           have w2':=w2.same (H':=H3) fun i hi _ _=>he3 i (by omega)
           obtain⟨an,rfl⟩:∃an:Nat,a=an:=⟨a.toNat,by omega⟩
           rw[JP]
           simp(maxSteps:=999999)(disch:=omega)only[go_sem,zA,zM,zS,zE,zL,p1']
           rw[Int.toNat_natCast]
           exact⟨_,(q3.giv w1' w2' w3 w4 w5 w6 w7 w8 an (1+e)).mono (by omega),Qc.refl _⟩
         · simp(maxSteps:=999999)(disch:=omega)only[go_sem,zA,zM,zS,zE,zL]
           exact⟨H1,q1.mono (by omega),Qc.refl _⟩
       · intro HI q
         have hln:=q.ln
         have hlt:=q.lt
         simp(maxSteps:=999999)(disch:=omega)only[go_sem,zA,zM,zS,zE,zL]
         refine QM.cutN 1 (fun a:Ji=>PzF H a id g (B+400) g4 J g7) (fun a=>[.a, .a, .a, .a, .k, .a, .a, .k, .a, .a, .a, .a, .a, .a, .a, .a, .a, .a, .a, .a, .a, .a, .a, .a, .a, .a, .a, .a, .a, .a, .a, .a, .a, .a, .a, .a, .a, .a, .a, .a, .a, .a, .a, .a, .a, .a, .a, .a, .a, .a, .a, .a, .a, .a, .a, .a, .a, .a, .a, .a, .a, .a, .a, .a, .a, .a, .a, .a, .a, .a, .a, .a, .a, .a, .a, .a, .a, .a, .a, .a, .a, .a, .a, .a, .a, .a, .a, .a, .a, .a, .a, .a, .a, .a, .a, .a, .a, .a, .a, .a, .a, .a, .a, .a, .a, .a, .a, .a, .a, .a, .a, .a, .a, .a, .a, .a, .a, .a, .a, .a, .a, .a, .a, .a, .a, .a, .a, .a, .a, .a]) (fun a=>a) ?_ ?_
         · simp(maxSteps:=999999)(disch:=omega)only[go_sem,zA,zM,zS,zE,zL]
           refine Qh.run (Rk HI id g _ kk q.rd (by omega) hkk) (⟨_,Tryz.func41,rfl,rfl⟩:Jm Tryz.prog 41) rfl rfl ?_
           rintro _ H1 ⟨⟨b,rfl,_⟩,r1,f1⟩
           replace f1:UH HI H1 [id]:=f1
           have q1:=q.pick r1 f1
           simp(maxSteps:=999999)(disch:=omega)only[go_sem,zA,zM,zS,zE,zL]
           ((first|(with_reducible first|refine Jo ?_ ?_|refine Jk ?_ ?_|refine Jp ?_ ?_)|refine Jr ?_ ?_)<;>intro e0)
           rotate_left
           · simp(maxSteps:=999999)(disch:=omega)only[go_sem,zA,zM,zS,zE,zL]
             exact⟨_,q1.fin hsq.2 (by omega) (by omega),Qc.refl _⟩
           simp(maxSteps:=999999)(disch:=omega)only[go_sem,zA,zM,zS,zE,zL]
           refine Qh.run (QQ H1 id g _ _ q1.rd (by omega)) (⟨_,Tryz.func35,rfl,rfl⟩:Jm Tryz.prog 35) rfl rfl ?_
           rintro _ H2 ⟨⟨a,rfl,a0,a1⟩,r2,f2⟩
           replace f2:UH H1 H2 [id]:=f2
           have q2:=q1.pick r2 f2
           simp(maxSteps:=999999)(disch:=omega)only[go_sem,zA,zM,zS,zE,zL]
           ((first|(with_reducible first|refine Jo ?_ ?_|refine Jk ?_ ?_|refine Jp ?_ ?_)|refine Jr ?_ ?_)<;>intro e1)
           · simp(maxSteps:=999999)(disch:=omega)only[go_sem,zA,zM,zS,zE,zL]
             obtain⟨HI,hHI⟩:∃HI,HI=H2:=⟨_,rfl⟩
             rw[←hHI]at q2⊢
             clear hHI
             have q:=q2
             obtain⟨z,gc,rc,zs,rs,w1,w2,w3,w4,w5,w6,w7,w8,w9⟩:=q.ex
             have hln:=q.ln
             have hlt:=q.lt
             obtain⟨gz,gz1,gz2⟩:=q.grid
             have hM:look (QT (Z3 id HI.length (HI.length+1)) HI) (J) g7=some ⟨g7,3,[.f (.int .i64 z),gc,rc]⟩:=by rw[UN (VB (by omega) (by omega))];exact w1
             refine Zg [0,1,2,3,4,5,6] [] none [7,8,9] (Z3 id HI.length (HI.length+1)) [0,1,0,0,0,28,60,127,255,511] Zr (by kernel_rfl) ?_
             iterate 5 (rw[JP];simp(maxSteps:=999999)(disch:=omega)only[go_sem,zA,zM,zS,zE,zL,hM])
             rw[JP]
             simp(maxSteps:=999999)(disch:=omega)only[go_sem,zA,zM,zS,zE,zL]
             refine Qe.run (KY hn HI id g _ 1 q.rd (by omega) (by omega) cid cg gz gz1 gz2 (by omega)) (⟨_,Tryz.func36,rfl,rfl⟩:Jm Tryz.prog 36) rfl rfl ?_
             rintro _ H4 ⟨⟨r,rfl,hrc⟩,r4,f4⟩
             replace f4:UH HI H4 [id]:=f4
             refine⟨ZX fun j b hj hb=>by
              have hjl:=(Ja.1 hb).1
              obtain⟨h1,_⟩:=Vn hj (by omega)
              rw[f4.2 j (by simpa using h1)]
              exact hb, ?_⟩
             rw[JP]
             simp(maxSteps:=999999)(disch:=omega)only[go_sem,zA,zM,zS,zE,zL]
             intro gt
             refine⟨ZX fun j b hj hb=>by
              rw[Jb (Ja.1 hb).1]
              exact hb, ?_⟩
             have hs4:∀i,H.length≤i→H4[i]? =HI[i]? :=fun i hi=>f4.2 i (by simp;omega)
             have hrc4:Zt eR 3 H4 rc rs:=by
              obtain⟨_,_,_,_,_,p3,p4⟩:=w2
              exact p3.same fun i hi _=>hs4 i (by have:=(p4 i hi).1;omega)
             have hrn:∀i,Q1 rc i→H.length<i:=fun i hi=>by
              obtain⟨_,_,_,_,_,p3,p4⟩:=w2
              exact(p4 i hi).1
             refine Xw (E:=eR) (v:=r) (JZ Rv rfl Rt) ⟨rfl,rfl,by decide,by decide⟩ (hrc4.app) (by omega) JY ?_
             intro c' H6 hL6 hf6 hi6 hl6 hb6
             rw[Je,JW]at hl6
             have hs6:∀i,H.length≤i→i<HI.length→¬Q1 rc i→H6[i]? =HI[i]? :=fun i a b c=>by
              rw[hf6 i (by rw[Je,f4.1];omega) c,Jb (by rw[f4.1];omega),hs4 i a]
             have hl4:H4.length=HI.length:=f4.1
             have hlow6:∀k,k<H.length→H6[k]? =H4[k]? :=fun k hk=>by
              rw[hf6 k (by rw[Je];omega) (fun hh=>by have:=hrn k hh;omega),Jb (by omega)]
             have hJ6:look H6 (J) g7=some ⟨g7,3,[.f (.int .i64 z),gc,rc]⟩:=by unfold look at w1⊢;rw[hs6 _ (by omega) (by omega) w4];exact w1
             simp(maxSteps:=999999)(disch:=omega)only[go_sem,zA,zM,zS,zE,zL,hJ6]
             have hq:=WM.rule q w1 w2 w3 w4 w5 w6 w7 hs6 (fun k hk hne=>by rw[hlow6 k hk,f4.2 k (by simpa using hne)]) (r4.same (hlow6 id hlt)) (by omega) hL6 (fun k hk=>by
              rcases hi6 k hk with hh|hh
              · exact .inl hh
              · rw[Je]at hh;exact .inr (by omega)) (R':=8+1) ⟨by simp;omega,fun r' hr'=>by
              rcases JF.1 hr' with hh|hh
              · exact w9 r' hh
              · simp at hh;subst hh;exact hrc⟩
             exact⟨_,hq.fin hsq.2 (by omega) (by omega),Qc.refl _⟩
           simp(maxSteps:=999999)(disch:=omega)only[go_sem,zA,zM,zS,zE,zL]
           obtain⟨z,gc,rc,zs,rs,w1,w2,w3,w4,w5,w6,w7,w8,w9⟩:=q2.ex
           obtain⟨gid,gg,rfl,p1,p2,p3,p4⟩:=w2
           have hgl:gid<H2.length:=(Ja.1 (Jw p1).1).1
           have hout:=q2.out
           have hln2:=q2.ln
           simp only[Q1]at w3
           ((first|(with_reducible first|refine Jo ?_ ?_|refine Jk ?_ ?_|refine Jp ?_ ?_)|refine Jr ?_ ?_)<;>intro e2)
           · simp(maxSteps:=999999)(disch:=omega)only[go_sem,zA,zM,zS,zE,zL,w1]
             have hsl:Uf Tryz.prog H2 23 (.c (.own gid gg 0 zs.length none)) (some (Int.toNat 1)) none none=some (.c (.own gid gg 1 (zs.length -1) none)):=by
              simp only[Uf,UW,Ru,p1,Option.getD_none,Option.getD_some,Int.reduceToNat]
              rw[if_pos ⟨by omega,by omega,by rw[Qb];omega,by simp,trivial,by omega,by omega⟩]
             simp(maxSteps:=999999)(disch:=omega)only[go_sem,zA,zM,zS,zE,zL,hsl,w1]
             refine⟨_, ?_,Qc.refl _⟩
             exact{out:=by rw[J7 (by omega)];exact hout
                   ex:=⟨z, .own gid gg 1 (zs.length -1) none,rc,(zs.drop 1).take (zs.length -1),rs,JK (by omega),fun H' hs=>⟨Gv (HI:=H2.set J (some ⟨g7,3,[.f (.int .i64 z), .own gid gg 1 (zs.length -1) none,rc]⟩)) (by rw[J7 w3];exact p1) (by omega) hs (by omega),
                    N2 (p3.same fun i hi _=>by rw[Jj (fun hh=>w4 (by rw[hh];exact hi))]) (fun i hi=>by have:=(p4 i hi).1;omega) hs⟩,by simp;omega,by omega,w9⟩
                   rd:=(q2.rd.mono (by omega)).same (by rw[Jj (by omega)])
                   lt:=hlt,ln:=by rw[Jt];omega
                   frm:=fun k hk hne=>by rw[Jj (by omega)];exact q2.frm k hk hne}
           · have hJX:∀X,look (H2++X) J g7=some ⟨g7,3,[.f (.int .i64 z), .own gid gg 0 zs.length none,rc]⟩:=fun X=>JR w1
             simp(maxSteps:=999999)(disch:=omega)only[go_sem,zA,zM,zS,zE,zL,hJX]
             intro g9
             refine⟨_, ?_,Qc.refl _⟩
             exact{out:=by rw[J7 (by omega)];exact JR hout
                   ex:=⟨z, .own gid gg 0 zs.length none, .own H2.length g9 0 (cnt 21) none,zs,Jg (cnt 21) ⟨0,[],0⟩,JK (by rw[Je];omega),fun H' hs=>⟨by
                      have:=Gv (H:=H) (HI:=(H2++([some ⟨g9,3,cl eRo (Jg (cnt 21) none)⟩]:Ji)).set J (some ⟨g7,3,[.f (.int .i64 z), .own gid gg 0 zs.length none, .own H2.length g9 0 (cnt 21) none]⟩)) (by rw[J7 w3];exact JR p1) (by omega) hs (off:=0) (k:=zs.length) (by omega)
                      rwa [JB,List.take_length]at this,JgP (by
                      have hlk:look ((H2++([some ⟨g9,3,cl eRo (Jg (cnt 21) none)⟩]:Ji)).set J (some ⟨g7,3,[.f (.int .i64 z), .own gid gg 0 zs.length none, .own H2.length g9 0 (cnt 21) none]⟩)) H2.length g9=some ⟨g9,3,cl eRo (Jg (cnt 21) none)⟩:=by rw[J7 (by omega)];exact JY
                      unfold look at hlk⊢
                      rw[hs H2.length (by omega) (by rw[Jt];simp)]
                      exact hlk) (by simp[Z0];omega)⟩,by omega,by rw[QV];decide,fun r hr=>by rw[List.eq_of_mem_replicate hr];simp⟩
                   rd:=(q2.rd.mono (by omega)).same (by rw[Jj (by omega),Jb (by omega)])
                   lt:=hlt,ln:=by rw[Jt,Je];omega
                   frm:=fun k hk hne=>by rw[Jj (by omega),Jb (by omega)];exact q2.frm k hk hne}
         · intro HF o
           obtain⟨z,gc,rc,zs,rs,w1,w2,w3,w4⟩:=o.ex
           have ho:=o.out
           have hln:=o.ln
           have hS:∀b,look (HF.set H.length (some ⟨g4,3,b⟩)) H.length g4=some ⟨g4,3,b⟩:=fun b=>JK (by omega)
           refine ZU _ _ _ _ ?_
           simp(maxSteps:=999999)(disch:=omega)only[go_sem,zA,zM,zS,zE,zL,w1,ho,hS]
           have hf:=w2 (HF.set H.length (some ⟨g4,3,[.f (.int .i64 z),gc,rc]⟩)) (fun i hi _=>by rw[Jj (by omega)])
           refine⟨_,Qc.refl _,z,gc,rc,zs,rs,rfl,hf.1,hf.2,w3,w4,o.rd.same (by rw[Jj (by omega)]),by rw[Jt];omega,fun k hk hn=> ?_⟩
           rw[Jj (by omega)]
           exact o.frm k hk hn
end Go.Lg
