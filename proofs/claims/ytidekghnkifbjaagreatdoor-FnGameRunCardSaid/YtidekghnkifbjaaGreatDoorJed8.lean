/- GpYE, cut to what is needed. -/
import Derived.Test.YtidekghnkifbjaaGreatDoorJed6
import Derived.Test.YtidekghnkifbjaaGreatDoorJed7
import Derived.Test.YtidekghnkifbjaaGreatDoorJec2
open List renaming getElem?_append_left → Ja, cons_append → Jb, nil_append → Jc, replicate → Jd, length_cons → Je, length_nil → Jf, getElem?_set_ne → Jg, getElem?_eq_some_iff → Jh, length_append → Jk, length_set → Jo, append_assoc → Jt, getElem?_eq_none → Jx, length_singleton → JL, length_take → JP, drop_zero → JR, getElem?_take_of_lt → J1, mem_append → J2, mapM_cons → J4, mapM_nil → Qw, length_replicate → QG
open Nat renaming reduceAdd→zA,reduceMul→zM,reduceSub→zS,reduceEqDiff→zE,reduceLeDiff→zL
set_option linter.unusedSimpArgs false
set_option linter.unusedVariables false
set_option maxRecDepth 100000
namespace Go.Lg
open Go.Proofs
attribute [-go_sem] J9 Jv
def Jab(n:Nat)(z:Int)(zs:List Int):Prop:=zs.length=n*n∧z=n∧∀k:Nat,k<zs.length→0≤JA zs k∧JA zs k≤n
def RsV(V:Prop)(n:Nat)(rs:List Z0)(R:Nat):Prop:=rs.length≤R∧∀r∈rs,r.cells.length≤5∧(V→Ql r n=true)
theorem Jab.set{n k:Nat}{z v:Int}{zs:List Int}(h:Jab n z zs)(hv:0≤v∧v≤n):Jab n z (zs.set k v):=by
 obtain⟨h1,h2,h3⟩:=h
 refine⟨by rw[Jo];exact h1,h2,fun j hj=> ?_⟩
 rw[Jo]at hj
 by_cases hk:k<zs.length
 · rw[Za _ _ _ _ hk]
   split
   · exact hv
   · exact h3 j hj
 · rw[List.set_eq_of_length_le (by omega)]
   exact h3 j hj
theorem Jab.sub{n:Nat}{z:Int}{zs0 zs:List Int}(h:Jab n z zs0)(hs:zs.length=zs0.length∧JhF zs0 zs):Jab n z zs:=by
 obtain⟨h1,h2,h3⟩:=h
 refine⟨by rw[hs.1];exact h1,h2,fun j hj=> ?_⟩
 have:=h3 j (by omega)
 rcases hs.2 j with h|h<;>omega
theorem Jg6{n:Nat}{z:Int}{zs:List Int}{rs:List Z0}(hn:n=2∨n=3∨n=4)(h:Jab n z zs)(hr:rs.length≤20)(hv:∀r∈rs,Ql r n=true):JB ⟨z,zs,rs⟩=true:=by
 obtain⟨h1,rfl,h3⟩:=h
 simp only[JB,Bool.and_eq_true,decide_eq_true_eq,List.all_eq_true]
 exact⟨Zk.valid hn ⟨h1,h3⟩,hr,hv⟩
theorem Jbu{xs:List Int}{rs:List Z0}{zs:List Int}(h:Uj ⟨4,zs,rs⟩ xs=true):∀r∈rs,Ql r 4=true:=by
 simp only[Uj,JB,Bool.and_eq_true,decide_eq_true_eq,List.all_eq_true]at h
 exact h.1.1.2.2
def puzVQ(kk:Int)(H:Jm)(id g:Nat)(B:Int):KV:=fun v H'=>(∃p:Q4,v=aP p∧p.given.length≤16∧WP p.rules 30 5∧(kk≤0→JB p=true))∧Zm H' id g (B+400)∧Vi H H' [id]
structure Ys(V:Prop)(H HI:Jm)(id g:Nat)(B:Int)(R n g4 cid cg J g7:Nat):Prop where
 out:look HI H.length g4=some ⟨g4,3,[.f (.int .i64 0), .f .nil, .f .nil]⟩
 grid:∃zs:List Int,look HI cid cg=some ⟨cg,1,cl (eI .i64) zs⟩∧n*n≤zs.length∧N7 n zs
 ex:∃z gc rc zs rs,look HI J g7=some ⟨g7,3,[.f (.int .i64 z),gc,rc]⟩∧PzO HI (H.length+1) z gc rc zs rs∧¬QJ gc J∧¬QJ rc J∧¬QJ gc cid∧¬QJ rc cid∧Jab n z zs∧RsV V n rs R
 rd:Zm HI id g B
 lt:id<H.length
 ln:H.length<cid∧cid<HI.length∧H.length<J∧J<HI.length∧cid≠J
 frm:∀k,k<H.length→k≠id→HI[k]? =H[k]?
section
variable{V:Prop}{H HI H2:Jm}{id g R R' n g4 cid cg J g7:Nat}{B B':Int}
theorem Ys.mono(h:Ys V H HI id g B R n g4 cid cg J g7)(hb:B≤B'):Ys V H HI id g B' R n g4 cid cg J g7:={h with rd:=h.rd.mono hb}
theorem Ys.weak{V':Prop}(h:Ys V H HI id g B R n g4 cid cg J g7)(hv:V'→V):Ys V' H HI id g B R n g4 cid cg J g7:=by
 obtain⟨z,gc,rc,zs,rs,h1,h2,h3,h4,h5,h6,h7,h8,h9⟩:=h.ex
 exact{h with ex:=⟨z,gc,rc,zs,rs,h1,h2,h3,h4,h5,h6,h7,h8,fun r hr=>⟨(h9 r hr).1,fun v=>(h9 r hr).2 (hv v)⟩⟩}
theorem Ys.wid(h:Ys V H HI id g B R n g4 cid cg J g7)(hb:R≤R'):Ys V H HI id g B R' n g4 cid cg J g7:=by
 obtain⟨z,gc,rc,zs,rs,h1,h2,h3,h4,h5,h6,h7,h8,h9⟩:=h.ex
 exact{h with ex:=⟨z,gc,rc,zs,rs,h1,h2,h3,h4,h5,h6,h7,by omega,h9⟩}
theorem Ys.step(h:Ys V H HI id g B R n g4 cid cg J g7)(hs:∀i,H.length≤i→i<HI.length→H2[i]? =HI[i]?)(hl:HI.length≤H2.length)(hr:Zm H2 id g B')(hf:∀k,k<H.length→k≠id→H2[k]? =HI[k]?):Ys V H H2 id g B' R n g4 cid cg J g7:=by
 have hn:=h.ln
 have hL:∀i g,H.length≤i→i<HI.length→look H2 i g=look HI i g:=fun i g h1 h2=>by unfold look;rw[hs i h1 h2]
 obtain⟨ys,g1,g2⟩:=h.grid
 obtain⟨z,gc,rc,zs,rs,h1,h2,h3⟩:=h.ex
 exact{out:=by rw[hL _ _ (Nat.le_refl _) (by omega)];exact h.out
       grid:=⟨ys,by rw[hL _ _ (by omega) (by omega)];exact g1,g2⟩
       ex:=⟨z,gc,rc,zs,rs,by rw[hL _ _ (by omega) (by omega)];exact h1,h2.same fun i hi _ hl=>hs i (by omega) hl,h3⟩
       rd:=hr,lt:=h.lt,ln:=by omega
       frm:=fun k hk hne=>by rw[hf k hk hne];exact h.frm k hk hne}
theorem Ys.pick(h:Ys V H HI id g B R n g4 cid cg J g7)(hr:Zm H2 id g B')(hf:Vi HI H2 [id]):Ys V H H2 id g B' R n g4 cid cg J g7:=by
 have hl:=h.lt
 exact h.step (fun i hi _=>hf.2 i (by simp;omega)) (by rw[hf.1];exact Nat.le_refl _) hr fun k hk hne=>hf.2 k (by simpa using hne)
theorem Ys.app{X:Jm}(h:Ys V H HI id g B R n g4 cid cg J g7):Ys V H (HI++X) id g B R n g4 cid cg J g7:=by
 have hn:=h.ln
 exact h.step (fun i _ hi=>Ja hi) (by simp) h.rd.app fun k hk _=>Ja (by omega)
end
theorem Ys.rule{V:Prop}{H HI H6:Jm}{id g R n g4 cid cg J g7 R':Nat}{B B' z:Int}{gc rc c':CV}{zs:List Int}{rs rs':List Z0}(h:Ys V H HI id g B R n g4 cid cg J g7)
 (w1:look HI J g7=some ⟨g7,3,[.f (.int .i64 z),gc,rc]⟩) (w2:PzO HI (H.length+1) z gc rc zs rs) (w3:¬QJ gc J) (w4:¬QJ rc J) (w5:¬QJ gc cid) (w6:¬QJ rc cid) (w7:Jab n z zs)
 (hs:∀i,H.length≤i→i<HI.length→¬QJ rc i→H6[i]? =HI[i]?) (hlow:∀k,k<H.length→k≠id→H6[k]? =HI[k]?) (hrd:Zm H6 id g B') (hl:HI.length≤H6.length) (hL:Zq eR 3 H6 c' rs') (hids:∀k,QJ c' k→QJ rc k∨HI.length≤k) (hsm:RsV V n rs' R'):
 Ys V H (H6.set J (some ⟨g7,3,[.f (.int .i64 z),gc,c']⟩)) id g B' R' n g4 cid cg J g7:=by
 have hln:=h.ln
 have hlt:=h.lt
 obtain⟨gid,gg,rfl,p1,p2,p3,p4⟩:=w2
 have hgl:gid<HI.length:=(Jh.1 (JG p1).1).1
 have hS:∀i g,H.length≤i→i<HI.length→¬QJ rc i→i≠J→look (H6.set J (some ⟨g7,3,[.f (.int .i64 z), .own gid gg 0 zs.length none,c']⟩)) i g=look HI i g:=fun i g a b c d=>by
  unfold look
  rw[Jg (Ne.symm d),hs i a b c]
 have hrcl:∀k,QJ rc k→k<HI.length:=p3.lt
 obtain⟨gz,gz1,gz2⟩:=h.grid
 exact{out:=by rw[hS _ _ (Nat.le_refl _) (by omega) (fun hh=>by have:=(p4 _ hh).1;omega) (by omega)];exact h.out
       grid:=⟨gz,by rw[hS _ _ (by omega) (by omega) w6 (by omega)];exact gz1,gz2⟩
       ex:=⟨z, .own gid gg 0 zs.length none,c',zs,rs',JM (by omega),⟨gid,gg,rfl,by rw[hS _ _ (by omega) hgl (fun hh=>(p4 _ hh).2 rfl) (fun hh=>w3 (by rw[←hh];rfl))];exact p1,p2,
        hL.same (fun i hi _=>by
         rw[Jg (fun hh=>by
          subst hh
          rcases hids _ hi with hh|hh
          · exact w4 hh
          · omega)]),fun i hi=>by
         rcases hids i hi with hh|hh
         · exact p4 i hh
         · omega⟩,w3,fun hh=>by
        rcases hids _ hh with hh|hh
        · exact w4 hh
        · omega,w5,fun hh=>by
        rcases hids _ hh with hh|hh
        · exact w6 hh
        · omega,w7,hsm⟩
       rd:=hrd.same (by rw[Jg (by omega)])
       lt:=hlt
       ln:=by rw[Jo];omega
       frm:=fun k hk hne=>by rw[Jg (by omega),hlow k hk hne];exact h.frm k hk hne}
theorem Ys.put{V:Prop}{H HI H6:Jm}{id g R n g4 cid cg J g7 R':Nat}{B B' z:Int}{gc rc:CV}{zs:List Int}{rs:List Z0}(h:Ys V H HI id g B R n g4 cid cg J g7)
 (w2:PzO H6 HI.length z gc rc zs rs) (w7:Jab n z zs)
 (hs:∀i,H.length≤i→i<HI.length→H6[i]? =HI[i]?) (hlow:∀k,k<H.length→k≠id→H6[k]? =HI[k]?) (hrd:Zm H6 id g B') (hl:HI.length≤H6.length) (hsm:RsV V n rs R'):
 Ys V H (H6.set J (some ⟨g7,3,[.f (.int .i64 z),gc,rc]⟩)) id g B' R' n g4 cid cg J g7:=by
 have hln:=h.ln
 have hlt:=h.lt
 have hS:∀i g,H.length≤i→i<HI.length→i≠J→look (H6.set J (some ⟨g7,3,[.f (.int .i64 z),gc,rc]⟩)) i g=look HI i g:=fun i g a b d=>by
  unfold look
  rw[Jg (Ne.symm d),hs i a b]
 obtain⟨gz,gz1,gz2⟩:=h.grid
 have hno:∀i,i<HI.length→¬QJ gc i∧¬QJ rc i:=fun i hi=>by
  obtain⟨gid,gg,rfl,p1,p2,p3,p4⟩:=w2
  exact⟨fun hh=>by simp only[QJ]at hh;omega,fun hh=>by have:=(p4 i hh).1;omega⟩
 exact{out:=by rw[hS _ _ (Nat.le_refl _) (by omega) (by omega)];exact h.out
       grid:=⟨gz,by rw[hS _ _ (by omega) (by omega) (by omega)];exact gz1,gz2⟩
       ex:=⟨z,gc,rc,zs,rs,JM (by omega),(w2.same fun i hi _ _=>by rw[Jg (by omega)]).n0 (by omega),(hno _ (by omega)).1,(hno _ (by omega)).2,(hno _ (by omega)).1,(hno _ (by omega)).2,w7,hsm⟩
       rd:=hrd.same (by rw[Jg (by omega)])
       lt:=hlt
       ln:=by rw[Jo];omega
       frm:=fun k hk hne=>by rw[Jg (by omega),hlow k hk hne];exact h.frm k hk hne}
theorem Ys.giv{V:Prop}{H HI:Jm}{id g R n g4 cid cg J g7 gid gg:Nat}{B z:Int}{rc:CV}{zs:List Int}{rs:List Z0}(h:Ys V H HI id g B R n g4 cid cg J g7)
 (w1:look HI J g7=some ⟨g7,3,[.f (.int .i64 z), .own gid gg 0 zs.length none,rc]⟩) (w2:PzO HI (H.length+1) z (.own gid gg 0 zs.length none) rc zs rs) (w3:¬QJ (.own gid gg 0 zs.length none) J) (w4:¬QJ rc J) (w5:¬QJ (.own gid gg 0 zs.length none) cid) (w6:¬QJ rc cid) (w7:Jab n z zs) (w8:RsV V n rs R) (k:Nat) (v:Int) (hkv:0≤v∧v≤n):
 Ys V H (HI.set gid (some ⟨gg,1,cl (eI .i64) (zs.set k v)⟩)) id g B R n g4 cid cg J g7:=by
 have hln:=h.ln
 have hlt:=h.lt
 obtain⟨gid',gg',he,p1,p2,p3,p4⟩:=w2
 cases he
 have hgl:gid<HI.length:=(Jh.1 (JG p1).1).1
 simp only[QJ]at w3 w5
 have hS:∀i g,i≠gid→look (HI.set gid (some ⟨gg,1,cl (eI .i64) (zs.set k v)⟩)) i g=look HI i g:=fun i g d=>J6 (Ne.symm d)
 obtain⟨gz,gz1,gz2⟩:=h.grid
 exact{out:=by rw[hS _ _ (by omega)];exact h.out
       grid:=⟨gz,by rw[hS _ _ (by omega)];exact gz1,gz2⟩
       ex:=⟨z,_,rc,zs.set k v,rs,by rw[hS _ _ (by omega)];exact w1,⟨gid,gg,by rw[Jo],JM hgl,p2,p3.same fun i hi _=>by rw[Jg (Ne.symm (p4 i hi).2)],p4⟩,fun hh=>by simp only[QJ]at hh;omega,w4,fun hh=>by simp only[QJ]at hh;omega,w6,w7.set hkv,w8⟩
       rd:=h.rd.same (by rw[Jg (by omega)])
       lt:=hlt
       ln:=by rw[Jo];omega
       frm:=fun k hk hne=>by rw[Jg (by omega)];exact h.frm k hk hne}
structure PzG(W:Prop)(H HI:Jm)(id g:Nat)(B:Int)(g4 J g7:Nat):Prop where
 out:look HI H.length g4=some ⟨g4,3,[.f (.int .i64 0), .f .nil, .f .nil]⟩
 ex:∃z gc rc zs rs,look HI J g7=some ⟨g7,3,[.f (.int .i64 z),gc,rc]⟩∧(∀H':Jm,(∀i,H.length<i→i<HI.length→H'[i]? =HI[i]?)→frzS (Z8 H.length) H' 6 gc=some (J5 zs)∧frzS (Z8 H.length) H' 6 rc=some (Uu eR rs))∧zs.length≤16∧WP rs 30 5∧(W→JB ⟨z,zs,rs⟩=true)
 rd:Zm HI id g B
 lt:id<H.length
 ln:H.length<J∧J<HI.length
 frm:∀k,k<H.length→k≠id→HI[k]? =H[k]?
theorem Ys.fin{V W:Prop}{H HI:Jm}{id g R n g4 cid cg J g7:Nat}{B B':Int}(h:Ys V H HI id g B R n g4 cid cg J g7)(hn:n=2∨n=3∨n=4)(hR:R≤20)(hw:W→V)(hb:B≤B'):PzG W H HI id g B' g4 J g7:=by
 obtain⟨z,gc,rc,zs,rs,w1,⟨gid,gg,rfl,p1,p2,p3,p4⟩,w3,w4,w5,w6,w7,w8,w9⟩:=h.ex
 have hln:=h.ln
 have hsq:n*n≤16:=by rcases hn with rfl|rfl|rfl<;>omega
 have hz7:=w7.1
 exact{out:=h.out
       ex:=⟨z,_,rc,zs,rs,w1,fun H' hs=>⟨by have:=Ra p1 (by omega) hs (off:=0) (k:=zs.length) (by omega);rwa [JR,List.take_length]at this,NL p3 (fun i hi=>by have:=(p4 i hi).1;omega) hs⟩,by omega,⟨by omega,fun r hr=>(w9 r hr).1⟩,fun h=>Jg6 hn w7 (by omega) fun r hr=>(w9 r hr).2 (hw h)⟩
       rd:=h.rd.mono hb,lt:=h.lt,ln:=by omega,frm:=h.frm}
set_option maxHeartbeats 4000000 in
theorem Nv(H:Jm)(id g:Nat)(B kk:Int)(hr:Zm H id g B)(hB:B≤2^37)(hkk:kk≤1000):Jn Tryz.prog 84 [.c (.ptr id g 0),int kk] H (puzVQ kk H id g B):=by
 have hlt:=hr.lt
 refine Jn.iceS (Q':=fun v H'=>∃z gc rc zs rs,v= .agg [.f (.int .i64 z),gc,rc]∧frzS (Z8 H.length) H' 6 gc=some (J5 zs)∧frzS (Z8 H.length) H' 6 rc=some (Uu eR rs)∧zs.length≤16∧WP rs 30 5∧(kk≤0→JB ⟨z,zs,rs⟩=true)∧Zm H' id g (B+400)∧H.length≤H'.length∧∀k,k<H.length→k≠id→H'[k]? =H[k]?) ?_ ?_
 rotate_left
 · rintro v H' ⟨z,gc,rc,zs,rs,rfl,h1,h2,h3,h4,hva,h5,h6,h7⟩
   refine⟨Z8 H.length,H'.take H.length,aP ⟨z,zs,rs⟩,Xf _ _,Jba KA (KB h1) (KB h2),⟨_,rfl,h3,h4,hva⟩,h5.take hlt,by simp;omega,fun i hi=> ?_⟩
   by_cases hi':i<H.length
   · rw[J1 hi',h7 i hi' (by simpa using hi)]
   · rw[List.getElem?_take_eq_none (by omega),Jx (by omega)]
 refine Jn.ofR (c:=_) Tryz.func84 rfl (n:=130) Tryz.ntmps84 (rs:=[.cell 4 26]) rfl ?_
 simp only[Je,Jf,zA,zS,Jd,Jb,Jc]
 refine QH.cutN 5 (fun a:Nat×Nat×Nat×Nat×Nat×Nat×Jm=>(a.1=2∨a.1=3∨a.1=4)∧Ys True H a.2.2.2.2.2.2 id g (B+250) 4 a.1 a.2.1 a.2.2.1 a.2.2.2.1 a.2.2.2.2.1 a.2.2.2.2.2.1) (fun a=>[.k, .k, .a, .a, .p (.c (.ptr H.length a.2.1 0)), .p (int a.1), .p (.c (.own a.2.2.1 a.2.2.2.1 0 (a.1*a.1) none)), .p (.c (.ptr a.2.2.2.2.1 a.2.2.2.2.2.1 0)), .a, .a, .a, .a, .a, .a, .a, .a, .a, .a, .a, .a, .a, .a, .a, .a, .a, .a, .a, .a, .a, .a, .a, .a, .a, .a, .a, .a, .a, .a, .a, .a, .a, .a, .a, .a, .a, .a, .a, .a, .a, .a, .a, .a, .a, .a, .a, .a, .a, .a, .a, .a, .a, .a, .a, .a, .a, .a, .a, .a, .a, .a, .a, .a, .a, .a, .a, .a, .a, .a, .a, .a, .a, .a, .a, .a, .a, .a, .a, .a, .a, .a, .a, .a, .a, .a, .a, .a, .a, .a, .a, .a, .a, .a, .a, .a, .a, .a, .a, .a, .a, .a, .a, .a, .a, .a, .a, .a, .a, .a, .a, .a, .a, .a, .a, .a, .a, .a, .a, .a, .a, .a]) (fun a=>a.2.2.2.2.2.2) ?_ ?_
 · simp(maxSteps:=999999)(disch:=omega)only[go_sem,zA,zM,zS,zE,zL,Qf,Qm,QS,QF,Jt,Jb,Jc,Jk]
   intro g4
   refine JZ.run (Jdp _ id g B 0 hr.app (by omega) (by omega)) (⟨_,Tryz.func115,rfl,rfl⟩:Ji Tryz.prog 115) rfl rfl ?_
   rintro _ H1 ⟨⟨sz,rfl,_,_,hsz⟩,r1,f1⟩
   have hsz:=hsz (by omega)
   obtain⟨n,rfl⟩:∃n:Nat,sz=n:=⟨sz.toNat,by omega⟩
   have hn:n=2∨n=3∨n=4:=by omega
   have hsq:4≤n*n∧n*n≤16:=by rcases hn with rfl|rfl|rfl<;>omega
   have l1:H1.length=H.length+1:=by rw[f1.1];simp
   simp(maxSteps:=999999)(disch:=omega)only[go_sem,zA,zM,zS,zE,zL]
   refine JZ.run (Nu hn H1 id g (B+2) r1 (by omega)) (⟨_,Tryz.func116,rfl,rfl⟩:Ji Tryz.prog 116) rfl rfl ?_
   rintro _ H2 ⟨cid,cg,rfl,q2,ys,y1,y2',y3⟩
   obtain⟨_,r2,_,c1,c2,c3⟩:=q2
   have y2:n*n≤ys.length:=by omega
   have hcl:cid<H2.length:=(Jh.1 (JG y1).1).1
   have hyX:∀L,look (H2++L) cid cg=some ⟨cg,1,cl (eI .i64) ys⟩:=fun L=>JO y1
   simp(maxSteps:=999999)(disch:=omega)only[go_sem,zA,zM,zS,zE,zL,Qf,Qm,QS,QF,Jt,Jb,Jc,Jk]
   intro g5
   refine UV (E:=eI .i64) (xs:=[]) (ys:=ys.take (n*n)) (Qb UE rfl Kh) ⟨rfl,rfl,by decide,by decide⟩ rfl (by rw[Qm];exact J8 (b:=⟨g5,1,cl (eI .i64) []⟩) rfl) ⟨by simp,by simp;omega⟩ (by have:=Jhg (lim:=none) (hyX [some ⟨g5,1,[]⟩]) y2;rw[JP,Nat.min_eq_left y2];exact this) ?_
   intro g6
   have htl:(ys.take (n*n)).length=n*n:=by rw[JP];omega
   rw[Jf,Nat.zero_add,Jc,htl]
   simp(maxSteps:=999999)(disch:=omega)only[go_sem,zA,zM,zS,zE,zL,Qf,Qm,QS,QF,Jt,Jb,Jc,Jk]
   intro g7
   obtain⟨HI,hHI⟩:∃HI:Jm,HI=H2++[some ⟨g6,1,cl (eI .i64) (ys.take (n*n))⟩,some ⟨g7,3,[.f (.int .i64 n), .own H2.length g6 0 (n*n) none, .f .nil]⟩]:=⟨_,rfl⟩
   have q0:Ys True H HI id g (B+4) 0 n g4 cid cg (H2.length+1) g7:=
    {out:=by rw[hHI];refine JO ?_;unfold look;rw[c3 _ (by omega) (by omega),f1.2 _ (by simp;omega)];exact JC
     grid:=⟨ys,by rw[hHI];exact hyX _,y2,y3⟩
     ex:=⟨n, .own H2.length g6 0 (n*n) none, .f .nil,ys.take (n*n),[],by rw[hHI,Qf];exact J8 (b:=⟨g7,3,[.f (.int .i64 n), .own H2.length g6 0 (n*n) none, .f .nil]⟩) rfl,
      ⟨H2.length,g6,by rw[htl],by rw[hHI,Qm];exact J8 (b:=⟨g6,1,cl (eI .i64) (ys.take (n*n))⟩) rfl,by omega, .n,fun i h=>h.elim⟩,fun h=>by simp only[QJ]at h;omega,fun h=>h,fun h=>by simp only[QJ]at h;omega,fun h=>h,⟨htl,rfl,fun k hk=>by rw[htl]at hk;rw[WC hk];have:=y3 k (by omega);omega⟩,by simp,by simp⟩
     rd:=by rw[hHI];exact(r2.app).mono (by omega)
     lt:=hlt
     ln:=by rw[hHI];simp;omega
     frm:=fun k hk hne=>by rw[hHI,Ja (by omega),c3 k (by omega) hne,f1.2 k (by simpa using hne),Ja hk]}
   rw[←hHI]
   clear hHI
   refine JZ.run (QR HI id g _ _ q0.rd (by omega)) (⟨_,Tryz.func68,rfl,rfl⟩:Ji Tryz.prog 68) rfl rfl ?_
   rintro _ H3 ⟨⟨y,rfl,k0,k1⟩,r3,f3⟩
   have k1:=k1 (by omega)
   replace f3:Vi HI H3 [id]:=f3
   have q1:=q0.pick r3 f3
   obtain⟨yn,rfl⟩:∃yn:Nat,y=yn:=⟨y.toNat,by omega⟩
   simp(maxSteps:=999999)(disch:=omega)only[go_sem,zA,zM,zS,zE,zL]
   refine Qp (fun(k:Nat) (HI:Jm)=>k) (fun k HI=>k≤4∧Ys True H HI id g (B+5+60*(4 -k)) (4 -k) n g4 cid cg (H2.length+1) g7) (fun k HI=>[.k, .k, .a, .a, .k, .k, .k, .k, .p (int k), .a, .a, .a, .a, .a, .a, .a, .a, .a, .a, .a, .a, .a, .a, .a, .a, .a, .a, .a, .a, .a, .a, .a, .a, .a, .a, .a, .a, .a, .a, .a, .a, .a, .a, .a, .a, .a, .a, .a, .a, .a, .a, .a, .a, .a, .a, .a, .a, .a, .a, .a, .a, .a, .a, .a, .a, .a, .a, .a, .a, .a, .a, .a, .a, .a, .a, .a, .a, .a, .a, .a, .a, .a, .a, .a, .a, .a, .a, .a, .a, .a, .a, .a, .a, .a, .a, .a, .a, .a, .a, .a, .a, .a, .a, .a, .a, .a, .a, .a, .a, .a, .a, .a, .a, .a, .a, .a, .a, .a, .a, .a, .a, .a, .a, .a, .a, .a, .a, .a, .a, .a]) (fun _ HI=>HI) yn H3 ⟨by omega,(q1.mono (by omega)).wid (by omega)⟩ (by simp(maxSteps:=999999)(disch:=omega)only[go_sem,zA,zM,zS,zE,zL]) (J0.refl _) ?_
   rintro k HI ⟨hk,q⟩
   simp(maxSteps:=999999)(disch:=omega)only[go_sem,zA,zM,zS,zE,zL]
   ((first|(with_reducible first|refine Jl ?_ ?_|refine Jj ?_ ?_|refine Jp ?_ ?_)|refine Jr ?_ ?_)<;>intro c1)
   · simp(maxSteps:=999999)(disch:=omega)only[go_sem,zA,zM,zS,zE,zL]
     obtain⟨z,gc,rc,zs,rs,w1,w2,w3,w4,w5,w6,w7,w8,w9⟩:=q.ex
     have hln:=q.ln
     have hlt:=q.lt
     obtain⟨gz,gz1,gz2⟩:=q.grid
     have hM:look (Zg (ZS id HI.length (HI.length+1)) HI) (H2.length+1) g7=some ⟨g7,3,[.f (.int .i64 z),gc,rc]⟩:=by rw[Ur (U7 (by omega) (by omega))];exact w1
     refine Q3 [0,1,2,3,4,5,6] [] none [7,8,9] (ZS id HI.length (HI.length+1)) [0,1,0,0,0,28,60,127,255,511] Zd (by kernel_rfl) ?_
     iterate 5 (rw[Jv];simp(maxSteps:=999999)(disch:=omega)only[go_sem,zA,zM,zS,zE,zL,hM])
     rw[Jv]
     simp(maxSteps:=999999)(disch:=omega)only[go_sem,zA,zM,zS,zE,zL]
     refine JK.run (BC hn HI id g _ 0 q.rd (by omega) (by omega) cid cg gz gz1 gz2.1 gz2.2 (by omega)) (⟨_,Tryz.func117,rfl,rfl⟩:Ji Tryz.prog 117) rfl rfl ?_
     rintro _ H4 ⟨⟨r,rfl,hrc⟩,r4,f4⟩
     replace f4:Vi HI H4 [id]:=f4
     refine⟨ZR fun j b hj hb=>by
      have hjl:=(Jh.1 hb).1
      obtain⟨h1,_⟩:=Vt hj (by omega)
      rw[f4.2 j (by simpa using h1)]
      exact hb, ?_⟩
     rw[Jv]
     simp(maxSteps:=999999)(disch:=omega)only[go_sem,zA,zM,zS,zE,zL]
     intro gt
     refine⟨ZR fun j b hj hb=>by
      rw[Ja (Jh.1 hb).1]
      exact hb, ?_⟩
     have hs4:∀i,H.length≤i→H4[i]? =HI[i]? :=fun i hi=>f4.2 i (by simp;omega)
     have hrc4:Zq eR 3 H4 rc rs:=by
      obtain⟨_,_,_,_,_,p3,p4⟩:=w2
      exact p3.same fun i hi _=>hs4 i (by have:=(p4 i hi).1;omega)
     have hrn:∀i,QJ rc i→H.length<i:=fun i hi=>by
      obtain⟨_,_,_,_,_,p3,p4⟩:=w2
      exact(p4 i hi).1
     refine Xh (E:=eR) (v:=r) (Qb Jd5 rfl GI) ⟨rfl,rfl,by decide,by decide⟩ (hrc4.app) (by omega) JC ?_
     intro c' H6 hL6 hf6 hi6 hl6 hb6
     rw[Jk,JL]at hl6
     have hs6:∀i,H.length≤i→i<HI.length→¬QJ rc i→H6[i]? =HI[i]? :=fun i a b c=>by
      rw[hf6 i (by rw[Jk,f4.1];omega) c,Ja (by rw[f4.1];omega),hs4 i a]
     have hl4:H4.length=HI.length:=f4.1
     have hlow6:∀k,k<H.length→H6[k]? =H4[k]? :=fun k hk=>by
      rw[hf6 k (by rw[Jk];omega) (fun hh=>by have:=hrn k hh;omega),Ja (by omega)]
     have hJ6:look H6 (H2.length+1) g7=some ⟨g7,3,[.f (.int .i64 z),gc,rc]⟩:=by unfold look at w1⊢;rw[hs6 _ (by omega) (by omega) w4];exact w1
     simp(maxSteps:=999999)(disch:=omega)only[go_sem,zA,zM,zS,zE,zL,hJ6]
     have hq:=Ys.rule q w1 w2 w3 w4 w5 w6 w7 hs6 (fun k hk hne=>by rw[hlow6 k hk,f4.2 k (by simpa using hne)]) (r4.same (hlow6 id hlt)) (by omega) hL6 (fun k hk=>by
      rcases hi6 k hk with hh|hh
      · exact .inl hh
      · rw[Jk]at hh;exact .inr (by omega)) (R':=(4 -k)+1) ⟨by simp;omega,fun r' hr'=>by
      rcases J2.1 hr' with hh|hh
      · exact w9 r' hh
      · simp at hh;subst hh;exact⟨hrc.1,fun v=>hrc.2 ((fun _=>Int.le_refl 0) v)⟩⟩
     exact⟨k -1,_,⟨⟨by omega,(hq.mono (by omega)).wid (by omega)⟩,by omega⟩,by omega,J0.refl _⟩
   · simp(maxSteps:=999999)(disch:=omega)only[go_sem,zA,zM,zS,zE,zL]
     exact⟨(n,g4,cid,cg,H2.length+1,g7,HI),⟨hn,(q.mono (by omega)).wid (by omega)⟩,by simp,J0.refl _⟩
 · rintro⟨n,g4,cid,cg,J,g7,HI⟩ ⟨hn,q⟩
   simp only at hn q
   have hsq:4≤n*n∧n*n≤16:=by rcases hn with rfl|rfl|rfl<;>omega
   have hln:=q.ln
   simp(maxSteps:=999999)(disch:=omega)only[go_sem,zA,zM,zS,zE,zL]
   refine QH.cutN 1 (fun a:Jm=>Ys True H a id g (B+251) 8 n g4 cid cg J g7) (fun a=>[.k, .k, .a, .a, .k, .k, .k, .k, .a, .a, .a, .a, .a, .a, .a, .a, .a, .a, .a, .a, .a, .a, .a, .a, .a, .a, .a, .a, .a, .a, .a, .a, .a, .a, .a, .a, .a, .a, .a, .a, .a, .a, .a, .a, .a, .a, .a, .a, .a, .a, .a, .a, .a, .a, .a, .a, .a, .a, .a, .a, .a, .a, .a, .a, .a, .a, .a, .a, .a, .a, .a, .a, .a, .a, .a, .a, .a, .a, .a, .a, .a, .a, .a, .a, .a, .a, .a, .a, .a, .a, .a, .a, .a, .a, .a, .a, .a, .a, .a, .a, .a, .a, .a, .a, .a, .a, .a, .a, .a, .a, .a, .a, .a, .a, .a, .a, .a, .a, .a, .a, .a, .a, .a, .a, .a, .a, .a, .a, .a, .a]) (fun a=>a) ?_ ?_
   · simp(maxSteps:=999999)(disch:=omega)only[go_sem,zA,zM,zS,zE,zL]
     ((with_reducible first|refine JJ ?_ ?_|refine JF ?_ ?_|refine JU ?_ ?_|refine Jw ?_ ?_|refine JH ?_ ?_|refine JI ?_ ?_|refine JD ?_ ?_|refine JE ?_ ?_|refine JS ?_ ?_|refine JT ?_ ?_|refine Jy ?_ ?_|refine Jz ?_ ?_)<;>intro c1<;>simp(maxSteps:=999999)(disch:=omega)only[go_sem,zA,zM,zS,zE,zL,c1])
     rotate_left
     · exact⟨HI,(q.mono (by omega)).wid (by omega),J0.refl _⟩
     obtain rfl:n=4:=by omega
     refine JZ.run (QR HI id g _ _ q.rd (by omega)) (⟨_,Tryz.func68,rfl,rfl⟩:Ji Tryz.prog 68) rfl rfl ?_
     rintro _ H1 ⟨⟨y,rfl,k0,k1⟩,r1,f1⟩
     replace f1:Vi HI H1 [id]:=f1
     have q1:=q.pick r1 f1
     simp(maxSteps:=999999)(disch:=omega)only[go_sem,zA,zM,zS,zE,zL]
     ((first|(with_reducible first|refine Jl ?_ ?_|refine Jj ?_ ?_|refine Jp ?_ ?_)|refine Jr ?_ ?_)<;>intro c2)
     rotate_left
     · simp(maxSteps:=999999)(disch:=omega)only[go_sem,zA,zM,zS,zE,zL]
       exact⟨H1,(q1.mono (by omega)).wid (by omega),J0.refl _⟩
     simp(maxSteps:=999999)(disch:=omega)only[go_sem,zA,zM,zS,zE,zL]
     first|refine JZ.mk (KW) (⟨_,Tryz.func119,rfl,rfl⟩:Ji Tryz.prog 119) rfl rfl rfl rfl rfl ?_|refine JK.mk (KW) (⟨_,Tryz.func119,rfl,rfl⟩:Ji Tryz.prog 119) rfl rfl rfl rfl rfl ?_
     simp(maxSteps:=999999)(disch:=omega)only[go_sem,zA,zM,zS,zE,zL]
     refine JZ.mkF (B6 JdT 4 (by rw[NZ];omega) (by omega)) (⟨_,Tryz.func118,rfl,rfl⟩:Ji Tryz.prog 118) rfl rfl rfl ?_
     rintro _ ⟨qs,b,rfl,hqs⟩
     refine⟨rfl,rfl, ?_⟩
     simp(maxSteps:=999999)(disch:=omega)only[go_sem,zA,zM,zS,zE,zL]
     obtain⟨gz,gz1,gz2⟩:=q1.grid
     have hsg:∀x,frzC H1 (.f (.int .i64 x))=some (.f (.int .i64 x)):=fun _=>rfl
     have hsr:frzC H1 (.f (Uu eR qs))=some (.f (Uu eR qs)):=rfl
     have hgv:frzC H1 (.own cid cg 0 (4*4) none)=some (.f (J5 (gz.take (4*4)))):=by have:=Jdx (off:=0) (n:=4*4) (lim:=none) gz1 (by omega);rwa [JR]at this
     have hs1:Zx H1 (.agg [.f (.int .i64 4), .own cid cg 0 (4*4) none, .f (Uu eR qs)])=some (aP ⟨4,gz.take (4*4),qs⟩):=by
      simp only[Zx,J4,Qw,hsg,hgv,hsr,Option.bind_eq_bind,Option.pure_def,Option.bind_some,Option.map_some]
     have hs2:Zx H1 (.c (.own cid cg 0 (4*4) none))=some (QO (gz.take (4*4))):=by simp only[Zx,hgv,Option.map_some]
     have hgl:(gz.take (4*4)).length=16:=by rw[JP];omega
     refine JZ.rdD (V0 ⟨4,gz.take (4*4),qs⟩ (gz.take (4*4)) ⟨by show(gz.take (4*4)).length≤_;omega,by have:=hqs.1;show qs.length≤_;omega,fun r hr=>by have:=hqs.2 r hr;omega⟩ (by omega)) (⟨_,Tryz.func76,rfl,rfl⟩:Ji Tryz.prog 76) rfl rfl (UO hs1 hs2) rfl ?_
     simp(maxSteps:=999999)(disch:=omega)only[go_sem,zA,zM,zS,zE,zL]
     obtain⟨z,gc,rc,zs,rs,w1,w2,w3,w4,w5,w6,w7,w8,w9⟩:=q1.ex
     have hln1:=q1.ln
     have hz71:=w7.1
     ((first|(with_reducible first|refine Jl ?_ ?_|refine Jj ?_ ?_|refine Jp ?_ ?_)|refine Jr ?_ ?_)<;>intro c3)
     rotate_left
     · simp(maxSteps:=999999)(disch:=omega)only[go_sem,zA,zM,zS,zE,zL]
       exact⟨H1,(q1.mono (by omega)).wid (by omega),J0.refl _⟩
     simp(maxSteps:=999999)(disch:=omega)only[go_sem,zA,zM,zS,zE,zL,w1]
     have hrn:∀i,QJ rc i→H.length<i:=fun i hi=>by
      obtain⟨_,_,_,_,_,p3,p4⟩:=w2
      exact(p4 i hi).1
     have hL:=w2
     obtain⟨_,_,_,_,_,p3,_⟩:=hL
     have hq1:=hqs.1
     refine Ws (E:=eR) (ys:=qs) (Qb Jd5 rfl GI) ⟨rfl,rfl,by decide,by decide⟩ p3 ⟨by omega,by omega⟩ XR ?_
     intro c' H6 hL6 hf6 hi6 hl6 hb6
     have hJ6:look H6 J g7=some ⟨g7,3,[.f (.int .i64 z),gc,rc]⟩:=by unfold look at w1⊢;rw[hf6 _ (by omega) w4];exact w1
     simp(maxSteps:=999999)(disch:=omega)only[go_sem,zA,zM,zS,zE,zL,hJ6]
     have hlt:=q1.lt
     have hq:=Ys.rule q1 w1 w2 w3 w4 w5 w6 w7 (fun i _ b c=>hf6 i b c) (fun k hk hne=>hf6 k (by omega) (fun hh=>by have:=hrn k hh;omega)) (q1.rd.same (hf6 id (by omega) (fun hh=>by have:=hrn id hh;omega))) hl6 hL6 (fun k hk=>by
      rcases hi6 k hk with hh|hh
      · exact .inl hh
      · exact .inr (by omega)) (R':=8) ⟨by simp;omega,fun r' hr'=>by
      rcases J2.1 hr' with hh|hh
      · exact w9 r' hh
      · exact⟨by have:=hqs.2 r' hh;omega,fun _=>Jbu c3 r' hh⟩⟩
     exact⟨_,hq.mono (by omega),J0.refl _⟩
   · intro HI q
     have hln:=q.ln
     simp(maxSteps:=999999)(disch:=omega)only[go_sem,zA,zM,zS,zE,zL]
     refine QH.cutN 1 (fun a:Jm=>Ys True H a id g (B+280) 8 n g4 cid cg J g7) (fun a=>[.k, .k, .a, .a, .k, .k, .k, .k, .a, .a, .a, .a, .a, .a, .a, .a, .a, .a, .a, .a, .a, .a, .a, .a, .a, .a, .a, .a, .a, .a, .a, .a, .a, .a, .a, .a, .a, .a, .a, .a, .a, .a, .a, .a, .a, .a, .a, .a, .a, .a, .a, .a, .a, .a, .a, .a, .a, .a, .a, .a, .a, .a, .a, .a, .a, .a, .a, .a, .a, .a, .a, .a, .a, .a, .a, .a, .a, .a, .a, .a, .a, .a, .a, .a, .a, .a, .a, .a, .a, .a, .a, .a, .a, .a, .a, .a, .a, .a, .a, .a, .a, .a, .a, .a, .a, .a, .a, .a, .a, .a, .a, .a, .a, .a, .a, .a, .a, .a, .a, .a, .a, .a, .a, .a, .a, .a, .a, .a, .a, .a]) (fun a=>a) ?_ ?_
     · simp(maxSteps:=999999)(disch:=omega)only[go_sem,zA,zM,zS,zE,zL]
       refine JZ.run (QR HI id g _ _ q.rd (by omega)) (⟨_,Tryz.func68,rfl,rfl⟩:Ji Tryz.prog 68) rfl rfl ?_
       rintro _ H1 ⟨⟨y,rfl,k0,k1⟩,r1,f1⟩
       replace f1:Vi HI H1 [id]:=f1
       have q1:=q.pick r1 f1
       simp(maxSteps:=999999)(disch:=omega)only[go_sem,zA,zM,zS,zE,zL]
       ((first|(with_reducible first|refine Jl ?_ ?_|refine Jj ?_ ?_|refine Jp ?_ ?_)|refine Jr ?_ ?_)<;>intro c1)
       · obtain⟨z,gc,rc,zs,rs,w1,w2,w3,w4,w5,w6,w7,w8,w9⟩:=q1.ex
         have hln1:=q1.ln
         have hlt:=q1.lt
         have hw2:=w2
         obtain⟨gid,gg,rfl,p1,p2,p3,p4⟩:=hw2
         have hz71:=w7.1
         simp(maxSteps:=999999)(disch:=omega)only[go_sem,zA,zM,zS,zE,zL,w1]
         refine JZ.run (Bg H1 z gid gg zs rc rs p1 p3 (by omega) ⟨by omega,fun r hr=>by have:=(w9 r hr).1;omega⟩) (⟨_,Tryz.func120,rfl,rfl⟩:Ji Tryz.prog 120) rfl rfl ?_
         rintro _ H5 ⟨m1,m2,m3⟩
         rcases m3 with⟨c1,c2,c3,rfl⟩|⟨gc',rc',zs',rfl,z1,z2⟩
         · have hst:∀X:Jm,Ys True H (H5++X) id g (B+280) 8 n g4 cid cg J g7:=fun X=>
            (q1.mono (B':=B+280) (by omega)).step (fun i hi hl=>by rw[Ja (by omega),m2 i hl]) (by rw[Jk];omega) ((q1.rd.mono (B':=B+280) (by omega)).same (by rw[Ja (by omega),m2 id (by omega)])) fun k hk _=>by rw[Ja (by omega),m2 k (by omega)]
           simp(maxSteps:=999999)(disch:=omega)only[go_sem,zA,zM,zS,zE,zL,Qf,Qm,QS,QF,Jt,Jb,Jc,Jk]
           intro g11
           exact⟨_,hst _,J0.refl _⟩
         · simp(maxSteps:=999999)(disch:=omega)only[go_sem,zA,zM,zS,zE,zL,Qf,Qm,QS,QF,Jt,Jb,Jc,Jk]
           intro g11
           have hJX:∀X,look (H5++X) J g7=some ⟨g7,3,[.f (.int .i64 z), .own gid gg 0 zs.length none,rc]⟩:=fun X=>JO (by unfold look at w1⊢;rw[m2 _ (by omega)];exact w1)
           simp(maxSteps:=999999)(disch:=omega)only[go_sem,zA,zM,zS,zE,zL,hJX]
           have w9s:RsV True n rs 8:=⟨w8,w9⟩
           have hq:=Ys.put (H6:=H5++[some ⟨g11,3,[.f (.int .i64 z),gc',rc']⟩]) (B':=B+280) (R':=8) q1 (z2.same fun i _ _ hl=>Ja hl) (w7.sub z1) (fun i hi hl=>by rw[Ja (by omega),m2 i hl]) (fun k hk _=>by rw[Ja (by omega),m2 k (by omega)]) ((q1.rd.mono (by omega)).same (by rw[Ja (by omega),m2 id (by omega)])) (by rw[Jk];omega) w9s
           exact⟨_,hq,J0.refl _⟩
       · simp(maxSteps:=999999)(disch:=omega)only[go_sem,zA,zM,zS,zE,zL]
         refine JZ.run (QR H1 id g _ _ q1.rd (by omega)) (⟨_,Tryz.func68,rfl,rfl⟩:Ji Tryz.prog 68) rfl rfl ?_
         rintro _ H2 ⟨⟨t,rfl,t0,t1⟩,r2,f2⟩
         replace f2:Vi H1 H2 [id]:=f2
         have t1:=t1 (by omega)
         have q2:=q1.pick r2 f2
         simp(maxSteps:=999999)(disch:=omega)only[go_sem,zA,zM,zS,zE,zL]
         refine Qp (fun(k:Nat) (HI:Jm)=>n*n -k) (fun k HI=>k≤n*n∧Ys True H HI id g (B+251+2+k) 8 n g4 cid cg J g7) (fun k HI=>[.k, .k, .a, .a, .k, .k, .k, .k, .a, .a, .a, .a, .a, .k, .p (int k), .a, .a, .a, .a, .a, .a, .a, .a, .a, .a, .a, .a, .a, .a, .a, .a, .a, .a, .a, .a, .a, .a, .a, .a, .a, .a, .a, .a, .a, .a, .a, .a, .a, .a, .a, .a, .a, .a, .a, .a, .a, .a, .a, .a, .a, .a, .a, .a, .a, .a, .a, .a, .a, .a, .a, .a, .a, .a, .a, .a, .a, .a, .a, .a, .a, .a, .a, .a, .a, .a, .a, .a, .a, .a, .a, .a, .a, .a, .a, .a, .a, .a, .a, .a, .a, .a, .a, .a, .a, .a, .a, .a, .a, .a, .a, .a, .a, .a, .a, .a, .a, .a, .a, .a, .a, .a, .a, .a, .a, .a, .a, .a, .a, .a, .a]) (fun _ HI=>HI) 0 H2 ⟨Nat.zero_le _,q2.mono (by omega)⟩ (by simp(maxSteps:=999999)(disch:=omega)only[go_sem,zA,zM,zS,zE,zL];rfl) (J0.refl _) ?_
         rintro k HI ⟨hk,q⟩
         obtain⟨z,gc,rc,zs,rs,w1,w2,w3,w4,w5,w6,w7,w8⟩:=q.ex
         have hw2:=w2
         obtain⟨gid,gg,rfl,p1,p2,p3,p4⟩:=hw2
         have hz71:=w7.1
         simp(maxSteps:=999999)(disch:=omega)only[go_sem,zA,zM,zS,zE,zL,w1,p1]
         ((first|(with_reducible first|refine Jl ?_ ?_|refine Jj ?_ ?_|refine Jp ?_ ?_)|refine Jr ?_ ?_)<;>intro c2)
         · have c2:k<n*n:=by omega
           simp(maxSteps:=999999)(disch:=omega)only[go_sem,zA,zM,zS,zE,zL]
           refine JZ.run (QR HI id g _ _ q.rd (by omega)) (⟨_,Tryz.func68,rfl,rfl⟩:Ji Tryz.prog 68) rfl rfl ?_
           rintro _ H3 ⟨⟨t,rfl,t0,t1⟩,r3,f3⟩
           replace f3:Vi HI H3 [id]:=f3
           have q3:=q.pick r3 f3
           simp(maxSteps:=999999)(disch:=omega)only[go_sem,zA,zM,zS,zE,zL]
           ((first|(with_reducible first|refine Jl ?_ ?_|refine Jj ?_ ?_|refine Jp ?_ ?_)|refine Jr ?_ ?_)<;>intro c3)
           · obtain⟨z,gc,rc,zs,rs,w1,w2,w3,w4,w5,w6,w7,w8⟩:=q3.ex
             have hw2:=w2
             obtain⟨gid,gg,rfl,p1,p2,p3,p4⟩:=hw2
             have hz71:=w7.1
             simp(maxSteps:=999999)(disch:=omega)only[go_sem,zA,zM,zS,zE,zL,w1,p1]
             rw[Int.toNat_natCast]
             exact⟨k+1,_,⟨⟨by omega,(q3.giv w1 w2 w3 w4 w5 w6 w7 w8 k 0 (by omega)).mono (by push_cast;omega)⟩,by omega⟩,by push_cast;omega,J0.refl _⟩
           · simp(maxSteps:=999999)(disch:=omega)only[go_sem,zA,zM,zS,zE,zL]
             exact⟨k+1,_,⟨⟨by omega,q3.mono (by push_cast;omega)⟩,by omega⟩,by push_cast;omega,J0.refl _⟩
         · simp(maxSteps:=999999)(disch:=omega)only[go_sem,zA,zM,zS,zE,zL]
           exact⟨_,q.mono (by omega),J0.refl _⟩
     · intro HI q
       simp(maxSteps:=999999)(disch:=omega)only[go_sem,zA,zM,zS,zE,zL]
       refine QH.cutN 1 (fun a:Jm=>Ys True H a id g (B+283) 8 n g4 cid cg J g7) (fun a=>[.k, .k, .a, .a, .k, .k, .k, .k, .a, .a, .a, .a, .a, .a, .a, .a, .a, .a, .a, .a, .a, .a, .a, .a, .a, .a, .a, .a, .a, .a, .a, .a, .a, .a, .a, .a, .a, .a, .a, .a, .a, .a, .a, .a, .a, .a, .a, .a, .a, .a, .a, .a, .a, .a, .a, .a, .a, .a, .a, .a, .a, .a, .a, .a, .a, .a, .a, .a, .a, .a, .a, .a, .a, .a, .a, .a, .a, .a, .a, .a, .a, .a, .a, .a, .a, .a, .a, .a, .a, .a, .a, .a, .a, .a, .a, .a, .a, .a, .a, .a, .a, .a, .a, .a, .a, .a, .a, .a, .a, .a, .a, .a, .a, .a, .a, .a, .a, .a, .a, .a, .a, .a, .a, .a, .a, .a, .a, .a, .a, .a]) (fun a=>a) ?_ ?_
       · simp(maxSteps:=999999)(disch:=omega)only[go_sem,zA,zM,zS,zE,zL]
         refine JZ.run (QR HI id g _ _ q.rd (by omega)) (⟨_,Tryz.func68,rfl,rfl⟩:Ji Tryz.prog 68) rfl rfl ?_
         rintro _ H1 ⟨⟨y,rfl,k0,k1⟩,r1,f1⟩
         replace f1:Vi HI H1 [id]:=f1
         have q1:=q.pick r1 f1
         simp(maxSteps:=999999)(disch:=omega)only[go_sem,zA,zM,zS,zE,zL]
         ((first|(with_reducible first|refine Jl ?_ ?_|refine Jj ?_ ?_|refine Jp ?_ ?_)|refine Jr ?_ ?_)<;>intro c1)
         · have hln:=q1.ln
           have hlt:=q1.lt
           obtain⟨z,gc,rc,zs,rs,w1,w2,w3,w4,w5,w6,w7,w8⟩:=q1.ex
           have hw2:=w2
           obtain⟨gid,gg,rfl,p1,p2,p3,p4⟩:=hw2
           have hz71:=w7.1
           have hgl:gid<H1.length:=(Jh.1 (JG p1).1).1
           have hM:look (Zg (ZS id H1.length (H1.length+1)) H1) J g7=some ⟨g7,3,[.f (.int .i64 z), .own gid gg 0 zs.length none,rc]⟩:=by rw[Ur (U7 (by omega) (by omega))];exact w1
           have hMg:∀X:Jm,X[gid]? =H1[gid]?→look (Zg (ZS id H1.length (H1.length+1)) X) gid gg=some ⟨gg,1,cl (eI .i64) zs⟩:=fun X hX=>by
            rw[Ur (U7 (by omega) (by omega))]
            unfold look at p1⊢
            rw[hX]
            exact p1
           have hMg0:=hMg H1 rfl
           refine Q3 [0,1,2,3,4,5,7,8,6,9,10] [] none [11,12] (ZS id H1.length (H1.length+1)) [0,1,0,0,8,24,60,0,0,508,1020,2047,4095] Zd (by kernel_rfl) ?_
           iterate 8 (rw[Jv];simp(maxSteps:=999999)(disch:=omega)only[go_sem,zA,zM,zS,zE,zL,hM,hMg0])
           rw[Jv]
           simp(maxSteps:=999999)(disch:=omega)only[go_sem,zA,zM,zS,zE,zL]
           refine JK.run (QR H1 id g _ _ q1.rd (by omega)) (⟨_,Tryz.func68,rfl,rfl⟩:Ji Tryz.prog 68) rfl rfl ?_
           rintro _ H2 ⟨⟨a,rfl,a0,a1⟩,r2,f2⟩
           have a1:=a1 (by omega)
           replace f2:Vi H1 H2 [id]:=f2
           have hok:∀X Y:Jm,Vi X Y [id]→X.length=H1.length→RM (ZS id H1.length (H1.length+1)) X Y:=fun X Y hf hX=>ZR fun j b hj hb=>by
            have hjl:=(Jh.1 hb).1
            obtain⟨h1,_⟩:=Vt hj (by omega)
            rw[hf.2 j (by simpa using h1)]
            exact hb
           refine⟨hok _ _ f2 rfl, ?_⟩
           rw[Jv]
           simp(maxSteps:=999999)(disch:=omega)only[go_sem,zA,zM,zS,zE,zL]
           refine JK.run (QR H2 id g _ _ r2 (by omega)) (⟨_,Tryz.func68,rfl,rfl⟩:Ji Tryz.prog 68) rfl rfl ?_
           rintro _ H3 ⟨⟨e,rfl,e0,e1⟩,r3,f3⟩
           have e1:=e1 (by omega)
           replace f3:Vi H2 H3 [id]:=f3
           refine⟨hok _ _ f3 f2.1, ?_⟩
           have q3:=(q1.pick r2 f2).pick r3 f3
           have hl3:H3.length=H1.length:=by rw[f3.1,f2.1]
           have he3:∀i,H.length≤i→H3[i]? =H1[i]? :=fun i hi=>by rw[f3.2 i (by simp;omega),f2.2 i (by simp;omega)]
           have w1':look H3 J g7=some ⟨g7,3,[.f (.int .i64 z), .own gid gg 0 zs.length none,rc]⟩:=by unfold look at w1⊢;rw[he3 _ (by omega)];exact w1
           have p1':look H3 gid gg=some ⟨gg,1,cl (eI .i64) zs⟩:=by unfold look at p1⊢;rw[he3 _ (by omega)];exact p1
           have w2':=w2.same (H':=H3) fun i hi _ _=>he3 i (by omega)
           obtain⟨an,rfl⟩:∃an:Nat,a=an:=⟨a.toNat,by omega⟩
           rw[Jv]
           simp(maxSteps:=999999)(disch:=omega)only[go_sem,zA,zM,zS,zE,zL,p1']
           rw[Int.toNat_natCast]
           exact⟨_,(q3.giv w1' w2' w3 w4 w5 w6 w7 w8 an (1+e) (by omega)).mono (by omega),J0.refl _⟩
         · simp(maxSteps:=999999)(disch:=omega)only[go_sem,zA,zM,zS,zE,zL]
           exact⟨H1,q1.mono (by omega),J0.refl _⟩
       · intro HI q
         have hln:=q.ln
         have hlt:=q.lt
         simp(maxSteps:=999999)(disch:=omega)only[go_sem,zA,zM,zS,zE,zL]
         refine QH.cutN 1 (fun a:Jm=>PzG (kk≤0) H a id g (B+400) g4 J g7) (fun a=>[.a, .a, .a, .a, .k, .a, .a, .k, .a, .a, .a, .a, .a, .a, .a, .a, .a, .a, .a, .a, .a, .a, .a, .a, .a, .a, .a, .a, .a, .a, .a, .a, .a, .a, .a, .a, .a, .a, .a, .a, .a, .a, .a, .a, .a, .a, .a, .a, .a, .a, .a, .a, .a, .a, .a, .a, .a, .a, .a, .a, .a, .a, .a, .a, .a, .a, .a, .a, .a, .a, .a, .a, .a, .a, .a, .a, .a, .a, .a, .a, .a, .a, .a, .a, .a, .a, .a, .a, .a, .a, .a, .a, .a, .a, .a, .a, .a, .a, .a, .a, .a, .a, .a, .a, .a, .a, .a, .a, .a, .a, .a, .a, .a, .a, .a, .a, .a, .a, .a, .a, .a, .a, .a, .a, .a, .a, .a, .a, .a, .a]) (fun a=>a) ?_ ?_
         · simp(maxSteps:=999999)(disch:=omega)only[go_sem,zA,zM,zS,zE,zL]
           refine JZ.run (K4 HI id g _ kk q.rd (by omega) hkk) (⟨_,Tryz.func70,rfl,rfl⟩:Ji Tryz.prog 70) rfl rfl ?_
           rintro _ H1 ⟨⟨b,rfl,hb0⟩,r1,f1⟩
           replace f1:Vi HI H1 [id]:=f1
           have q1:=q.pick r1 f1
           simp(maxSteps:=999999)(disch:=omega)only[go_sem,zA,zM,zS,zE,zL]
           ((first|(with_reducible first|refine Jl ?_ ?_|refine Jj ?_ ?_|refine Jp ?_ ?_)|refine Jr ?_ ?_)<;>intro e0)
           rotate_left
           · simp(maxSteps:=999999)(disch:=omega)only[go_sem,zA,zM,zS,zE,zL]
             exact⟨_,q1.fin hn (by omega) (fun _=>trivial) (by omega),J0.refl _⟩
           have hno:¬kk≤0:=fun h=>by
            have:=hb0 h
            rw[this]at e0
            cases e0
           simp(maxSteps:=999999)(disch:=omega)only[go_sem,zA,zM,zS,zE,zL]
           refine JZ.run (QR H1 id g _ _ q1.rd (by omega)) (⟨_,Tryz.func68,rfl,rfl⟩:Ji Tryz.prog 68) rfl rfl ?_
           rintro _ H2 ⟨⟨a,rfl,a0,a1⟩,r2,f2⟩
           replace f2:Vi H1 H2 [id]:=f2
           have q2:=(q1.weak (V':=False) False.elim).pick r2 f2
           simp(maxSteps:=999999)(disch:=omega)only[go_sem,zA,zM,zS,zE,zL]
           ((first|(with_reducible first|refine Jl ?_ ?_|refine Jj ?_ ?_|refine Jp ?_ ?_)|refine Jr ?_ ?_)<;>intro e1)
           · simp(maxSteps:=999999)(disch:=omega)only[go_sem,zA,zM,zS,zE,zL]
             obtain⟨HI,hHI⟩:∃HI,HI=H2:=⟨_,rfl⟩
             rw[←hHI]at q2⊢
             clear hHI
             have q:=q2
             obtain⟨z,gc,rc,zs,rs,w1,w2,w3,w4,w5,w6,w7,w8,w9⟩:=q.ex
             have hln:=q.ln
             have hlt:=q.lt
             obtain⟨gz,gz1,gz2⟩:=q.grid
             have hM:look (Zg (ZS id HI.length (HI.length+1)) HI) (J) g7=some ⟨g7,3,[.f (.int .i64 z),gc,rc]⟩:=by rw[Ur (U7 (by omega) (by omega))];exact w1
             refine Q3 [0,1,2,3,4,5,6] [] none [7,8,9] (ZS id HI.length (HI.length+1)) [0,1,0,0,0,28,60,127,255,511] Zd (by kernel_rfl) ?_
             iterate 5 (rw[Jv];simp(maxSteps:=999999)(disch:=omega)only[go_sem,zA,zM,zS,zE,zL,hM])
             rw[Jv]
             simp(maxSteps:=999999)(disch:=omega)only[go_sem,zA,zM,zS,zE,zL]
             refine JK.run (BC hn HI id g _ 1 q.rd (by omega) (by omega) cid cg gz gz1 gz2.1 gz2.2 (by omega)) (⟨_,Tryz.func117,rfl,rfl⟩:Ji Tryz.prog 117) rfl rfl ?_
             rintro _ H4 ⟨⟨r,rfl,hrc⟩,r4,f4⟩
             replace f4:Vi HI H4 [id]:=f4
             refine⟨ZR fun j b hj hb=>by
              have hjl:=(Jh.1 hb).1
              obtain⟨h1,_⟩:=Vt hj (by omega)
              rw[f4.2 j (by simpa using h1)]
              exact hb, ?_⟩
             rw[Jv]
             simp(maxSteps:=999999)(disch:=omega)only[go_sem,zA,zM,zS,zE,zL]
             intro gt
             refine⟨ZR fun j b hj hb=>by
              rw[Ja (Jh.1 hb).1]
              exact hb, ?_⟩
             have hs4:∀i,H.length≤i→H4[i]? =HI[i]? :=fun i hi=>f4.2 i (by simp;omega)
             have hrc4:Zq eR 3 H4 rc rs:=by
              obtain⟨_,_,_,_,_,p3,p4⟩:=w2
              exact p3.same fun i hi _=>hs4 i (by have:=(p4 i hi).1;omega)
             have hrn:∀i,QJ rc i→H.length<i:=fun i hi=>by
              obtain⟨_,_,_,_,_,p3,p4⟩:=w2
              exact(p4 i hi).1
             refine Xh (E:=eR) (v:=r) (Qb Jd5 rfl GI) ⟨rfl,rfl,by decide,by decide⟩ (hrc4.app) (by omega) JC ?_
             intro c' H6 hL6 hf6 hi6 hl6 hb6
             rw[Jk,JL]at hl6
             have hs6:∀i,H.length≤i→i<HI.length→¬QJ rc i→H6[i]? =HI[i]? :=fun i a b c=>by
              rw[hf6 i (by rw[Jk,f4.1];omega) c,Ja (by rw[f4.1];omega),hs4 i a]
             have hl4:H4.length=HI.length:=f4.1
             have hlow6:∀k,k<H.length→H6[k]? =H4[k]? :=fun k hk=>by
              rw[hf6 k (by rw[Jk];omega) (fun hh=>by have:=hrn k hh;omega),Ja (by omega)]
             have hJ6:look H6 (J) g7=some ⟨g7,3,[.f (.int .i64 z),gc,rc]⟩:=by unfold look at w1⊢;rw[hs6 _ (by omega) (by omega) w4];exact w1
             simp(maxSteps:=999999)(disch:=omega)only[go_sem,zA,zM,zS,zE,zL,hJ6]
             have hq:=Ys.rule q w1 w2 w3 w4 w5 w6 w7 hs6 (fun k hk hne=>by rw[hlow6 k hk,f4.2 k (by simpa using hne)]) (r4.same (hlow6 id hlt)) (by omega) hL6 (fun k hk=>by
              rcases hi6 k hk with hh|hh
              · exact .inl hh
              · rw[Jk]at hh;exact .inr (by omega)) (R':=8+1) ⟨by simp;omega,fun r' hr'=>by
              rcases J2.1 hr' with hh|hh
              · exact w9 r' hh
              · simp at hh;subst hh;exact⟨hrc.1,fun v=>hrc.2 ((fun v=>False.elim v) v)⟩⟩
             exact⟨_,hq.fin hn (by omega) (fun h=>absurd h hno) (by omega),J0.refl _⟩
           simp(maxSteps:=999999)(disch:=omega)only[go_sem,zA,zM,zS,zE,zL]
           obtain⟨z,gc,rc,zs,rs,w1,w2,w3,w4,w5,w6,w7,w8,w9⟩:=q2.ex
           obtain⟨gid,gg,rfl,p1,p2,p3,p4⟩:=w2
           have hgl:gid<H2.length:=(Jh.1 (JG p1).1).1
           have hout:=q2.out
           have hln2:=q2.ln
           have hz71:=w7.1
           simp only[QJ]at w3
           ((first|(with_reducible first|refine Jl ?_ ?_|refine Jj ?_ ?_|refine Jp ?_ ?_)|refine Jr ?_ ?_)<;>intro e2)
           · simp(maxSteps:=999999)(disch:=omega)only[go_sem,zA,zM,zS,zE,zL,w1]
             have hsl:UI Tryz.prog H2 23 (.c (.own gid gg 0 zs.length none)) (some (Int.toNat 1)) none none=some (.c (.own gid gg 1 (zs.length -1) none)):=by
              simp only[UI,UE,Kh,p1,Option.getD_none,Option.getD_some,Int.reduceToNat]
              rw[if_pos ⟨by omega,by omega,by rw[Qa];omega,by simp,trivial,by omega,by omega⟩]
             simp(maxSteps:=999999)(disch:=omega)only[go_sem,zA,zM,zS,zE,zL,hsl,w1]
             refine⟨_, ?_,J0.refl _⟩
             exact{out:=by rw[J6 (by omega)];exact hout
                   ex:=⟨z, .own gid gg 1 (zs.length -1) none,rc,(zs.drop 1).take (zs.length -1),rs,JM (by omega),fun H' hs=>⟨Ra (HI:=H2.set J (some ⟨g7,3,[.f (.int .i64 z), .own gid gg 1 (zs.length -1) none,rc]⟩)) (by rw[J6 w3];exact p1) (by omega) hs (by omega),
                    NL (p3.same fun i hi _=>by rw[Jg (fun hh=>w4 (by rw[hh];exact hi))]) (fun i hi=>by have:=(p4 i hi).1;omega) hs⟩,by simp;omega,⟨by omega,fun r hr=>(w9 r hr).1⟩,fun h=>absurd h hno⟩
                   rd:=(q2.rd.mono (by omega)).same (by rw[Jg (by omega)])
                   lt:=hlt,ln:=by rw[Jo];omega
                   frm:=fun k hk hne=>by rw[Jg (by omega)];exact q2.frm k hk hne}
           · have hJX:∀X,look (H2++X) J g7=some ⟨g7,3,[.f (.int .i64 z), .own gid gg 0 zs.length none,rc]⟩:=fun X=>JO w1
             simp(maxSteps:=999999)(disch:=omega)only[go_sem,zA,zM,zS,zE,zL,hJX]
             intro g9
             refine⟨_, ?_,J0.refl _⟩
             exact{out:=by rw[J6 (by omega)];exact JO hout
                   ex:=⟨z, .own gid gg 0 zs.length none, .own H2.length g9 0 (cnt 21) none,zs,Jd (cnt 21) ⟨0,[],0⟩,JM (by rw[Jk];omega),fun H' hs=>⟨by
                      have:=Ra (H:=H) (HI:=(H2++([some ⟨g9,3,cl eRo (Jd (cnt 21) none)⟩]:Jm)).set J (some ⟨g7,3,[.f (.int .i64 z), .own gid gg 0 zs.length none, .own H2.length g9 0 (cnt 21) none]⟩)) (by rw[J6 w3];exact JO p1) (by omega) hs (off:=0) (k:=zs.length) (by omega)
                      rwa [JR,List.take_length]at this,JkX (by
                      have hlk:look ((H2++([some ⟨g9,3,cl eRo (Jd (cnt 21) none)⟩]:Jm)).set J (some ⟨g7,3,[.f (.int .i64 z), .own gid gg 0 zs.length none, .own H2.length g9 0 (cnt 21) none]⟩)) H2.length g9=some ⟨g9,3,cl eRo (Jd (cnt 21) none)⟩:=by rw[J6 (by omega)];exact JC
                      unfold look at hlk⊢
                      rw[hs H2.length (by omega) (by rw[Jo];simp)]
                      exact hlk) (by simp[Z8];omega)⟩,by omega,⟨by rw[QG];decide,fun r hr=>by rw[List.eq_of_mem_replicate hr];simp⟩,fun h=>absurd h hno⟩
                   rd:=(q2.rd.mono (by omega)).same (by rw[Jg (by omega),Ja (by omega)])
                   lt:=hlt,ln:=by rw[Jo,Jk];omega
                   frm:=fun k hk hne=>by rw[Jg (by omega),Ja (by omega)];exact q2.frm k hk hne}
         · intro HF o
           obtain⟨z,gc,rc,zs,rs,w1,w2,w3,w4⟩:=o.ex
           have ho:=o.out
           have hln:=o.ln
           have hS:∀b,look (HF.set H.length (some ⟨g4,3,b⟩)) H.length g4=some ⟨g4,3,b⟩:=fun b=>JM (by omega)
           refine Ua _ _ _ _ ?_
           simp(maxSteps:=999999)(disch:=omega)only[go_sem,zA,zM,zS,zE,zL,w1,ho,hS]
           have hf:=w2 (HF.set H.length (some ⟨g4,3,[.f (.int .i64 z),gc,rc]⟩)) (fun i hi _=>by rw[Jg (by omega)])
           refine⟨_,J0.refl _,z,gc,rc,zs,rs,rfl,hf.1,hf.2,w3,w4.1,w4.2,o.rd.same (by rw[Jg (by omega)]),by rw[Jo];omega,fun k hk hn=> ?_⟩
           rw[Jg (by omega)]
           exact o.frm k hk hn
end Go.Lg
