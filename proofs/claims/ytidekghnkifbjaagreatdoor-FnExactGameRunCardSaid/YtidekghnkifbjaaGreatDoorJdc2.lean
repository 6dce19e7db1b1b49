/- GpGB, GpGC, GpGD, GpGE, GpFA, GpFB, GpGF, cut to what is needed. -/
import Derived.Test.YtidekghnkifbjaaGreatDoorJdb8
import Derived.Test.YtidekghnkifbjaaGreatDoorJdc1
import Derived.Test.YtidekghnkifbjaaGreatDoorJdb1
open List renaming length_cons → Ja, cons_append → Jb, getElem?_append_left → Jc, nil_append → Jd, length_nil → Je, replicate → Jf, getElem?_eq_some_iff → Jh, getElem?_set_ne → Ji, getElem?_eq_getElem → Jl, length_set → Jp, length_append → Jq, take_of_length_le → Js, append_nil → Jt, getElem?_eq_none → Ju, append_assoc → JW, length_take → JX, drop_zero → J1, mapM_cons → J3, mem_map → Qg, length_map → Qi, getElem?_map → Qk, mapM_nil → QB, take_append_drop → QD
open Nat renaming reduceAdd→zA,reduceMul→zM,reduceSub→zS,reduceEqDiff→zE,reduceLeDiff→zL
set_option linter.unusedSimpArgs false
set_option linter.unusedVariables false
set_option maxRecDepth 100000
namespace Go.Lg
open Go.Proofs
attribute [-go_sem] Qf J0
structure RlI(H HI:Jn)(id g:Nat)(B:Int)(m g8 g2:Nat)(ys:List Int):Prop where
 out:look HI H.length g8=some ⟨g8,3,[.f (.int .i64 0), .f .nil, .f (.int .i64 0)]⟩
 cells:look HI (H.length+1) g2=some ⟨g2,1,cl (eI .i64) ys⟩
 l1:1≤ys.length
 l4:ys.length≤4
 val:∀k:Nat,k<ys.length→0≤Jy ys k∧Jy ys k<(m:Int)*m
 rd:Uh HI id g B
 lt:id<H.length
 ln:H.length+2≤HI.length
 frm:∀k,k<H.length→k≠id→HI[k]? =H[k]?
section
variable{H HI H2:Jn}{id g m g8 g2:Nat}{B B':Int}{ys:List Int}
theorem RlI.mono(h:RlI H HI id g B m g8 g2 ys)(hb:B≤B'):RlI H HI id g B' m g8 g2 ys:={h with rd:=h.rd.mono hb}
theorem RlI.pick(h:RlI H HI id g B m g8 g2 ys)(hr:Uh H2 id g B')(hf:WA HI H2 [id]):RlI H H2 id g B' m g8 g2 ys:=
 {out:=by rw[hf.look (by have:=h.lt;simp;omega)];exact h.out
  cells:=by rw[hf.look (by have:=h.lt;simp;omega)];exact h.cells
  l1:=h.l1,l4:=h.l4,val:=h.val,rd:=hr,lt:=h.lt,ln:=by rw[hf.1];exact h.ln
  frm:=fun k hk hn=>by rw[hf.2 k (by simpa using hn)];exact h.frm k hk hn}
theorem RlI.app{X:Jn}(h:RlI H HI id g B m g8 g2 ys):RlI H (HI++X) id g B m g8 g2 ys:=
 {out:=J2 h.out,cells:=J2 h.cells,l1:=h.l1,l4:=h.l4,val:=h.val,rd:=h.rd.app,lt:=h.lt
  ln:=by have:=h.ln;rw[Jq];omega
  frm:=fun k hk hn=>by rw[Jc (by have:=h.ln;omega)];exact h.frm k hk hn}
theorem RlI.set(h:RlI H HI id g B m g8 g2 ys){g':Nat}{zs:List Int}(h1:1≤zs.length)(h4:zs.length≤4)(hv:∀k:Nat,k<zs.length→0≤Jy zs k∧Jy zs k<(m:Int)*m):RlI H (HI.set (H.length+1) (some ⟨g',1,cl (eI .i64) zs⟩)) id g B m g8 g' zs:=by
 have hl:=h.ln
 have ht:=h.lt
 exact{out:=by rw[QA (by omega)];exact h.out
       cells:=J7 (by omega)
       l1:=h1,l4:=h4,val:=hv
       rd:=h.rd.same (by rw[Ji (by omega)])
       lt:=ht,ln:=by rw[Jp];exact hl
       frm:=fun k hk hn=>by rw[Ji (by omega)];exact h.frm k hk hn}
end
def K5(H HE:Jn)(J:Nat)(c:CV)(xs:List Int):Prop:=c= .f (Ql xs)∨∃(i g k:Nat) (ys:List Int),c= .own i g 0 k none∧look HE i g=some ⟨g,1,cl (eI .i64) ys⟩∧k≤ys.length∧xs=ys.take k∧H.length<i∧i≠J
theorem K5.same{H HE HE':Jn}{J:Nat}{c:CV}{xs:List Int}(h:K5 H HE J c xs)(hs:∀i,H.length<i→i≠J→i<HE.length→HE'[i]? =HE[i]?):K5 H HE' J c xs:=by
 rcases h with h|⟨i,g,k,ys,h1,h2,h3,h4,h5,h6⟩
 · exact .inl h
 · exact .inr ⟨i,g,k,ys,h1,by unfold look at*;rw[hs i h5 h6 (Jh.1 (JH h2).1).1];exact h2,h3,h4,h5,h6⟩
theorem K5.elems{H HE:Jn}{J:Nat}{c:CV}{xs:List Int}(h:K5 H HE J c xs):elems HE 1 (.c c)=some (xs.length,cl (eI .i64) xs):=by
 rcases h with rfl|⟨i,g,k,ys,rfl,h2,h3,rfl,h5,h6⟩
 · exact Jky (E:=eI .i64) (ys:=xs)
 · have e:(cl (eI .i64) ys).take (k*1)=cl (eI .i64) (ys.take k):=by
    rw[Nat.mul_one]
    have:=QD k ys
    conv=>lhs;rw[←this,Q7]
    rw[List.take_append_of_le_length (by rw[Qu];simp;omega),Js (by rw[Qu];simp;omega)]
   simp only[Lg.elems,h2,if_true,J1,e,JX,Nat.min_eq_left h3]
theorem K5.frz{H HE:Jn}{J:Nat}{c:CV}{xs:List Int}(h:K5 H HE J c xs):frzS (YP H.length) HE 6 c=some (Ql xs):=by
 rcases h with rfl|⟨i,g,k,ys,rfl,h2,h3,rfl,h5,h6⟩
 · show some (nzF (Ql xs))=_
   rw[Ql,GC,RZ]
 · have:=BY (S:=YP H.length) (lim:=none) (n:=k) (off:=0) h2 (by simp[YP];omega) (by omega) 5
   rw[J1]at this
   exact this
structure RuO(H HE:Jn)(id g:Nat)(B:Int)(N g8 J g18:Nat)(xs:List Int):Prop where
 out:look HE H.length g8=some ⟨g8,3,[.f (.int .i64 0), .f .nil, .f (.int .i64 0)]⟩
 ex:∃a b c,look HE J g18=some ⟨g18,3,[.f (.int .i64 a),c, .f (.int .i64 b)]⟩∧K5 H HE J c xs
 l1:1≤xs.length
 l5:xs.length≤N
 rd:Uh HE id g B
 lt:id<H.length
 ln:H.length<J∧J<HE.length
 frm:∀k,k<H.length→k≠id→HE[k]? =H[k]?
section
variable{H HE H2:Jn}{id g N g8 J g18:Nat}{B B':Int}{xs:List Int}
theorem RuO.mono(h:RuO H HE id g B N g8 J g18 xs)(hb:B≤B'):RuO H HE id g B' N g8 J g18 xs:={h with rd:=h.rd.mono hb}
theorem RuO.pick(h:RuO H HE id g B N g8 J g18 xs)(hr:Uh H2 id g B')(hf:WA HE H2 [id]):RuO H H2 id g B' N g8 J g18 xs:=by
 have hl:=h.lt
 have hn:=h.ln
 obtain⟨a,b,c,h1,h2⟩:=h.ex
 exact{out:=by rw[hf.look (by simp;omega)];exact h.out
       ex:=⟨a,b,c,by rw[hf.look (by simp;omega)];exact h1,h2.same fun i hi _ _=>hf.2 i (by simp;omega)⟩
       l1:=h.l1,l5:=h.l5,rd:=hr,lt:=hl,ln:=⟨hn.1,by rw[hf.1];exact hn.2⟩
       frm:=fun k hk hn=>by rw[hf.2 k (by simpa using hn)];exact h.frm k hk hn}
theorem RuO.app{X:Jn}(h:RuO H HE id g B N g8 J g18 xs):RuO H (HE++X) id g B N g8 J g18 xs:=by
 have hn:=h.ln
 obtain⟨a,b,c,h1,h2⟩:=h.ex
 exact{out:=J2 h.out
       ex:=⟨a,b,c,J2 h1,h2.same fun i _ _ hi=>Jc hi⟩
       l1:=h.l1,l5:=h.l5,rd:=h.rd.app,lt:=h.lt,ln:=⟨hn.1,by rw[Jq];omega⟩
       frm:=fun k hk hn'=>by rw[Jc (by omega)];exact h.frm k hk hn'}
theorem RuO.set(h:RuO H HE id g B N g8 J g18 xs){a b:Int}{c:CV}{zs:List Int}(hc:K5 H HE J c zs)(h1:1≤zs.length)(h5:zs.length≤N):RuO H (HE.set J (some ⟨g18,3,[.f (.int .i64 a),c, .f (.int .i64 b)]⟩)) id g B N g8 J g18 zs:=by
 have hn:=h.ln
 have hl:=h.lt
 exact{out:=by rw[QA (by omega)];exact h.out
       ex:=⟨a,b,c,J7 hn.2,hc.same fun i _ hi _=>by rw[Ji (Ne.symm hi)]⟩
       l1:=h1,l5:=h5,rd:=h.rd.same (by rw[Ji (by omega)]),lt:=hl,ln:=⟨hn.1,by rw[Jp];exact hn.2⟩
       frm:=fun k hk hn'=>by rw[Ji (by omega)];exact h.frm k hk hn'}
theorem RuO.len(h:RuO H HE id g B N g8 J g18 xs):H.length+2≤HE.length:=by have:=h.ln;omega
end
end Go.Lg

namespace Go.Lg
open Go.Proofs
def Re(rs:List Zq)(a b:Nat):Prop:=rs.length≤a∧∀r∈rs,r.cells.length≤b
end Go.Lg

namespace Go.Lg
open Go.Proofs
theorem Yy(xs:List Int)(n:Int)(hx:xs.length≤2^40):JM Tryz.prog 109 [QF xs,int n] (int (ZU xs n)):=by
 refine Jk.cw (c:=_) Tryz.func109 rfl (n:=25) Tryz.ntmps109 (rs:=[.tmp 4]) rfl ?_
 simp only[Ja,Je,zA,zS,Jf,Jb,Jd]
 simp(maxSteps:=999999)(disch:=omega)only[go_sem,zA,zM,zS,zE,zL]
 first|refine JU.rd (Zu xs n hx) (⟨_,Tryz.func39,rfl,rfl⟩:Jg Tryz.prog 39) rfl rfl rfl rfl ?_|refine JG.rd (Zu xs n hx) (⟨_,Tryz.func39,rfl,rfl⟩:Jg Tryz.prog 39) rfl rfl rfl rfl ?_
 simp(maxSteps:=999999)(disch:=omega)only[go_sem,zA,zM,zS,zE,zL]
 ((first|(with_reducible first|refine Jm ?_ ?_|refine Jj ?_ ?_|refine Jo ?_ ?_)|refine Jr ?_ ?_)<;>intro hv)
 rotate_left
 · simp(maxSteps:=999999)(disch:=omega)only[go_sem,zA,zM,zS,zE,zL]
   unfold ZU
   rw[if_neg (by rw[hv];simp)]
 have hg:ZU xs n=(xs.countP fun v=>decide (0<v):Nat):=by unfold ZU;rw[if_pos hv]
 rw[hg]
 simp(maxSteps:=999999)(disch:=omega)only[go_sem,zA,zM,zS,zE,zL]
 refine JO (fun k:Nat=>xs.length -k) (fun k=>k≤xs.length) (fun k=>[.k, .a, .a, .a, .a, .p (int ((xs.take k).countP fun v=>decide (0<v):Nat)), .p (int k), .a, .a, .a, .a, .a, .a, .a, .a, .a, .a, .a, .a, .a, .a, .a, .a, .a, .a]) (fun _=>[]) 0 (Nat.zero_le _) (by simp(maxSteps:=999999)(disch:=omega)only[go_sem,zA,zM,zS,zE,zL];exact⟨by simp,rfl⟩) (J9 _) ?_
 intro k hk
 have hc:=JaO xs (fun v=>decide (0<v)) k
 simp(maxSteps:=999999)(disch:=omega)only[go_sem,zA,zM,zS,zE,zL]
 ((first|(with_reducible first|refine Jm ?_ ?_|refine Jj ?_ ?_|refine Jo ?_ ?_)|refine Jr ?_ ?_)<;>intro c1)
 · have c1:k<xs.length:=by omega
   have hs:=Kg (f:=fun v=>decide (0<v)) c1
   simp(maxSteps:=999999)(disch:=omega)only[go_sem,zA,zM,zS,zE,zL]
   ((first|(with_reducible first|refine Jm ?_ ?_|refine Jj ?_ ?_|refine Jo ?_ ?_)|refine Jr ?_ ?_)<;>intro c2)
   · rw[decide_eq_true c2,if_pos rfl]at hs
     simp(maxSteps:=999999)(disch:=omega)only[go_sem,zA,zM,zS,zE,zL]
     refine⟨k+1,⟨by omega,by omega⟩,⟨by rw[hs];push_cast;omega,by push_cast;omega⟩,J9 _⟩
   · rw[decide_eq_false c2,if_neg (by simp)]at hs
     simp(maxSteps:=999999)(disch:=omega)only[go_sem,zA,zM,zS,zE,zL]
     refine⟨k+1,⟨by omega,by omega⟩,⟨by rw[hs];rfl,by push_cast;omega⟩,J9 _⟩
 · have hke:k=xs.length:=by omega
   simp(maxSteps:=999999)(disch:=omega)only[go_sem,zA,zM,zS,zE,zL]
   rw[hke,List.take_length]
def Ux(p:QR)(xs:List Int):Bool:=(JA p&&(Qc xs p.size&&QJ p xs p.size.toNat))&&decide (ZU xs p.size=xs.length)
theorem Xn(p:QR)(xs:List Int)(hx:RC p)(hl:xs.length≤2^40):JM Tryz.prog 76 [aP p,QF xs] (bool (Ux p xs)):=by
 refine Jk.cw (c:=_) Tryz.func76 rfl (n:=17) Tryz.ntmps76 (rs:=[.tmp 4]) rfl ?_
 simp only[Ja,Je,zA,zS,Jf,Jb,Jd]
 simp(maxSteps:=999999)(disch:=omega)only[go_sem,zA,zM,zS,zE,zL]
 intro g
 first|refine JU.rd (ZO p xs hx hl) (⟨_,Tryz.func103,rfl,rfl⟩:Jg Tryz.prog 103) rfl rfl rfl rfl ?_|refine JG.rd (ZO p xs hx hl) (⟨_,Tryz.func103,rfl,rfl⟩:Jg Tryz.prog 103) rfl rfl rfl rfl ?_
 simp(maxSteps:=999999)(disch:=omega)only[go_sem,zA,zM,zS,zE,zL]
 unfold Ux
 cases JA p&&(Qc xs p.size&&QJ p xs p.size.toNat)with
 |false=>
  simp(maxSteps:=999999)(disch:=omega)only[go_sem,zA,zM,zS,zE,zL]
  rw[Bool.false_and]
 |true=>
  simp(maxSteps:=999999)(disch:=omega)only[go_sem,zA,zM,zS,zE,zL]
  first|refine JU.rd (Yy xs p.size hl) (⟨_,Tryz.func109,rfl,rfl⟩:Jg Tryz.prog 109) rfl rfl rfl rfl ?_|refine JG.rd (Yy xs p.size hl) (⟨_,Tryz.func109,rfl,rfl⟩:Jg Tryz.prog 109) rfl rfl rfl rfl ?_
  simp(maxSteps:=999999)(disch:=omega)only[go_sem,zA,zM,zS,zE,zL]
attribute [-go_sem] Qf J0
theorem JjU(P:Program)(s:List AV)(H:Jn)(t u:Nat)(ty:TypeId):Yg P s H [.cell t ty, .tmp u]=(VV P H ty (s.getD t .void)).map fun v=> .tup [v,s.getD u .void]:=by
 simp only[Yg,Yh,BD]
 cases VV P H ty (s.getD t .void)<;>rfl
attribute [go_sem] JjU
def PzO(H:Jn)(n0:Nat)(z:Int)(gc rc:CV)(zs:List Int)(rs:List Zq):Prop:=∃gid gg,gc= .own gid gg 0 zs.length none∧look H gid gg=some ⟨gg,1,cl (eI .i64) zs⟩∧n0≤gid∧UE eR 3 H rc rs∧(∀i,Q6 rc i→n0≤i∧i≠gid)
theorem PzO.snap{H:Jn}{n0:Nat}{z:Int}{gc rc:CV}{zs:List Int}{rs:List Zq}(h:PzO H n0 z gc rc zs rs):Zs H (.agg [.f (.int .i64 z),gc,rc])=some (aP ⟨z,zs,rs⟩):=by
 obtain⟨gid,gg,rfl,h1,_,h2,_⟩:=h
 have e1:∀x:Int,frzC H (.f (.int .i64 x))=some (.f (.int .i64 x)):=fun _=>rfl
 have e2:=(Qr.o (H:=H) gid gg none zs [] (by rw[Jt];exact h1)).frzC
 simp only[Zs,J3,QB,e1,e2,h2.frzC,Option.bind_eq_bind,Option.pure_def,Option.bind_some,Option.map_some]
theorem PzO.same{H H':Jn}{n0:Nat}{z:Int}{gc rc:CV}{zs:List Int}{rs:List Zq}(h:PzO H n0 z gc rc zs rs)(hs:∀i,n0≤i→(Q6 gc i∨Q6 rc i)→i<H.length→H'[i]? =H[i]?):PzO H' n0 z gc rc zs rs:=by
 obtain⟨gid,gg,rfl,h1,h2,h3,h4⟩:=h
 exact⟨gid,gg,rfl,by unfold look at*;rw[hs gid h2 (.inl rfl) (Jh.1 (JH h1).1).1];exact h1,h2,h3.same fun i hi hl=>hs i (h4 i hi).1 (.inr hi) hl,h4⟩
theorem PzO.n0{H:Jn}{n0 n1:Nat}{z:Int}{gc rc:CV}{zs:List Int}{rs:List Zq}(h:PzO H n0 z gc rc zs rs)(hn:n1≤n0):PzO H n1 z gc rc zs rs:=by
 obtain⟨gid,gg,rfl,h1,h2,h3,h4⟩:=h
 exact⟨gid,gg,rfl,h1,by omega,h3,fun i hi=>⟨by have:=(h4 i hi).1;omega,(h4 i hi).2⟩⟩
end Go.Lg

namespace Go.Lg
open Go.Proofs
attribute [-go_sem] Qf J0
structure Ny(H HI:Jn)(id g:Nat)(B:Int)(R n g4 cid cg J g7:Nat):Prop where
 out:look HI H.length g4=some ⟨g4,3,[.f (.int .i64 0), .f .nil, .f .nil]⟩
 grid:∃zs:List Int,look HI cid cg=some ⟨cg,1,cl (eI .i64) zs⟩∧n*n≤zs.length
 ex:∃z gc rc zs rs,look HI J g7=some ⟨g7,3,[.f (.int .i64 z),gc,rc]⟩∧PzO HI (H.length+1) z gc rc zs rs∧¬Q6 gc J∧¬Q6 rc J∧¬Q6 gc cid∧¬Q6 rc cid∧zs.length=n*n∧Re rs R 5
 rd:Uh HI id g B
 lt:id<H.length
 ln:H.length<cid∧cid<HI.length∧H.length<J∧J<HI.length∧cid≠J
 frm:∀k,k<H.length→k≠id→HI[k]? =H[k]?
section
variable{H HI H2:Jn}{id g R R' n g4 cid cg J g7:Nat}{B B':Int}
theorem Ny.mono(h:Ny H HI id g B R n g4 cid cg J g7)(hb:B≤B'):Ny H HI id g B' R n g4 cid cg J g7:={h with rd:=h.rd.mono hb}
theorem Ny.step(h:Ny H HI id g B R n g4 cid cg J g7)(hs:∀i,H.length≤i→i<HI.length→H2[i]? =HI[i]?)(hl:HI.length≤H2.length)(hr:Uh H2 id g B')(hf:∀k,k<H.length→k≠id→H2[k]? =HI[k]?):Ny H H2 id g B' R n g4 cid cg J g7:=by
 have hn:=h.ln
 have hL:∀i g,H.length≤i→i<HI.length→look H2 i g=look HI i g:=fun i g h1 h2=>by unfold look;rw[hs i h1 h2]
 obtain⟨ys,g1,g2⟩:=h.grid
 obtain⟨z,gc,rc,zs,rs,h1,h2,h3⟩:=h.ex
 exact{out:=by rw[hL _ _ (Nat.le_refl _) (by omega)];exact h.out
       grid:=⟨ys,by rw[hL _ _ (by omega) (by omega)];exact g1,g2⟩
       ex:=⟨z,gc,rc,zs,rs,by rw[hL _ _ (by omega) (by omega)];exact h1,h2.same fun i hi _ hl=>hs i (by omega) hl,h3⟩
       rd:=hr,lt:=h.lt,ln:=by omega
       frm:=fun k hk hne=>by rw[hf k hk hne];exact h.frm k hk hne}
theorem Ny.pick(h:Ny H HI id g B R n g4 cid cg J g7)(hr:Uh H2 id g B')(hf:WA HI H2 [id]):Ny H H2 id g B' R n g4 cid cg J g7:=by
 have hl:=h.lt
 exact h.step (fun i hi _=>hf.2 i (by simp;omega)) (by rw[hf.1];exact Nat.le_refl _) hr fun k hk hne=>hf.2 k (by simpa using hne)
theorem Ny.app{X:Jn}(h:Ny H HI id g B R n g4 cid cg J g7):Ny H (HI++X) id g B R n g4 cid cg J g7:=by
 have hn:=h.ln
 exact h.step (fun i _ hi=>Jc hi) (by simp) h.rd.app fun k hk _=>Jc (by omega)
end
theorem Ny.rule{H HI H6:Jn}{id g R n g4 cid cg J g7 R':Nat}{B B' z:Int}{gc rc c':CV}{zs:List Int}{rs rs':List Zq}(h:Ny H HI id g B R n g4 cid cg J g7)
 (w1:look HI J g7=some ⟨g7,3,[.f (.int .i64 z),gc,rc]⟩) (w2:PzO HI (H.length+1) z gc rc zs rs) (w3:¬Q6 gc J) (w4:¬Q6 rc J) (w5:¬Q6 gc cid) (w6:¬Q6 rc cid) (w7:zs.length=n*n)
 (hs:∀i,H.length≤i→i<HI.length→¬Q6 rc i→H6[i]? =HI[i]?) (hlow:∀k,k<H.length→k≠id→H6[k]? =HI[k]?) (hrd:Uh H6 id g B') (hl:HI.length≤H6.length) (hL:UE eR 3 H6 c' rs') (hids:∀k,Q6 c' k→Q6 rc k∨HI.length≤k) (hsm:Re rs' R' 5):
 Ny H (H6.set J (some ⟨g7,3,[.f (.int .i64 z),gc,c']⟩)) id g B' R' n g4 cid cg J g7:=by
 have hln:=h.ln
 have hlt:=h.lt
 obtain⟨gid,gg,rfl,p1,p2,p3,p4⟩:=w2
 have hgl:gid<HI.length:=(Jh.1 (JH p1).1).1
 have hS:∀i g,H.length≤i→i<HI.length→¬Q6 rc i→i≠J→look (H6.set J (some ⟨g7,3,[.f (.int .i64 z), .own gid gg 0 zs.length none,c']⟩)) i g=look HI i g:=fun i g a b c d=>by
  unfold look
  rw[Ji (Ne.symm d),hs i a b c]
 have hrcl:∀k,Q6 rc k→k<HI.length:=p3.lt
 obtain⟨gz,gz1,gz2⟩:=h.grid
 exact{out:=by rw[hS _ _ (Nat.le_refl _) (by omega) (fun hh=>by have:=(p4 _ hh).1;omega) (by omega)];exact h.out
       grid:=⟨gz,by rw[hS _ _ (by omega) (by omega) w6 (by omega)];exact gz1,gz2⟩
       ex:=⟨z, .own gid gg 0 zs.length none,c',zs,rs',J7 (by omega),⟨gid,gg,rfl,by rw[hS _ _ (by omega) hgl (fun hh=>(p4 _ hh).2 rfl) (fun hh=>w3 (by rw[←hh];rfl))];exact p1,p2,
        hL.same (fun i hi _=>by
         rw[Ji (fun hh=>by
          subst hh
          rcases hids _ hi with hh|hh
          · exact w4 hh
          · omega)]),fun i hi=>by
         rcases hids i hi with hh|hh
         · exact p4 i hh
         · omega⟩,w3,fun hh=>by
        rcases hids _ hh with hh|hh
        · exact w4 hh
        · omega,w5,fun hh=>by
        rcases hids _ hh with hh|hh
        · exact w6 hh
        · omega,w7,hsm⟩
       rd:=hrd.same (by rw[Ji (by omega)])
       lt:=hlt
       ln:=by rw[Jp];omega
       frm:=fun k hk hne=>by rw[Ji (by omega),hlow k hk hne];exact h.frm k hk hne}
theorem Ny.put{H HI H6:Jn}{id g R n g4 cid cg J g7 R':Nat}{B B' z:Int}{gc rc:CV}{zs:List Int}{rs:List Zq}(h:Ny H HI id g B R n g4 cid cg J g7)
 (w2:PzO H6 HI.length z gc rc zs rs) (w7:zs.length=n*n)
 (hs:∀i,H.length≤i→i<HI.length→H6[i]? =HI[i]?) (hlow:∀k,k<H.length→k≠id→H6[k]? =HI[k]?) (hrd:Uh H6 id g B') (hl:HI.length≤H6.length) (hsm:Re rs R' 5):
 Ny H (H6.set J (some ⟨g7,3,[.f (.int .i64 z),gc,rc]⟩)) id g B' R' n g4 cid cg J g7:=by
 have hln:=h.ln
 have hlt:=h.lt
 have hS:∀i g,H.length≤i→i<HI.length→i≠J→look (H6.set J (some ⟨g7,3,[.f (.int .i64 z),gc,rc]⟩)) i g=look HI i g:=fun i g a b d=>by
  unfold look
  rw[Ji (Ne.symm d),hs i a b]
 obtain⟨gz,gz1,gz2⟩:=h.grid
 have hno:∀i,i<HI.length→¬Q6 gc i∧¬Q6 rc i:=fun i hi=>by
  obtain⟨gid,gg,rfl,p1,p2,p3,p4⟩:=w2
  exact⟨fun hh=>by simp only[Q6]at hh;omega,fun hh=>by have:=(p4 i hh).1;omega⟩
 exact{out:=by rw[hS _ _ (Nat.le_refl _) (by omega) (by omega)];exact h.out
       grid:=⟨gz,by rw[hS _ _ (by omega) (by omega) (by omega)];exact gz1,gz2⟩
       ex:=⟨z,gc,rc,zs,rs,J7 (by omega),(w2.same fun i hi _ _=>by rw[Ji (by omega)]).n0 (by omega),(hno _ (by omega)).1,(hno _ (by omega)).2,(hno _ (by omega)).1,(hno _ (by omega)).2,w7,hsm⟩
       rd:=hrd.same (by rw[Ji (by omega)])
       lt:=hlt
       ln:=by rw[Jp];omega
       frm:=fun k hk hne=>by rw[Ji (by omega),hlow k hk hne];exact h.frm k hk hne}
theorem Ny.giv{H HI:Jn}{id g R n g4 cid cg J g7 gid gg:Nat}{B z:Int}{rc:CV}{zs:List Int}{rs:List Zq}(h:Ny H HI id g B R n g4 cid cg J g7)
 (w1:look HI J g7=some ⟨g7,3,[.f (.int .i64 z), .own gid gg 0 zs.length none,rc]⟩) (w2:PzO HI (H.length+1) z (.own gid gg 0 zs.length none) rc zs rs) (w3:¬Q6 (.own gid gg 0 zs.length none) J) (w4:¬Q6 rc J) (w5:¬Q6 (.own gid gg 0 zs.length none) cid) (w6:¬Q6 rc cid) (w7:zs.length=n*n) (w8:Re rs R 5) (k:Nat) (v:Int):
 Ny H (HI.set gid (some ⟨gg,1,cl (eI .i64) (zs.set k v)⟩)) id g B R n g4 cid cg J g7:=by
 have hln:=h.ln
 have hlt:=h.lt
 obtain⟨gid',gg',he,p1,p2,p3,p4⟩:=w2
 cases he
 have hgl:gid<HI.length:=(Jh.1 (JH p1).1).1
 simp only[Q6]at w3 w5
 have hS:∀i g,i≠gid→look (HI.set gid (some ⟨gg,1,cl (eI .i64) (zs.set k v)⟩)) i g=look HI i g:=fun i g d=>QA (Ne.symm d)
 obtain⟨gz,gz1,gz2⟩:=h.grid
 exact{out:=by rw[hS _ _ (by omega)];exact h.out
       grid:=⟨gz,by rw[hS _ _ (by omega)];exact gz1,gz2⟩
       ex:=⟨z,_,rc,zs.set k v,rs,by rw[hS _ _ (by omega)];exact w1,⟨gid,gg,by rw[Jp],J7 hgl,p2,p3.same fun i hi _=>by rw[Ji (Ne.symm (p4 i hi).2)],p4⟩,fun hh=>by simp only[Q6]at hh;omega,w4,fun hh=>by simp only[Q6]at hh;omega,w6,by rw[Jp];exact w7,w8⟩
       rd:=h.rd.same (by rw[Ji (by omega)])
       lt:=hlt
       ln:=by rw[Jp];omega
       frm:=fun k hk hne=>by rw[Ji (by omega)];exact h.frm k hk hne}
structure PzF(H HI:Jn)(id g:Nat)(B:Int)(g4 J g7:Nat):Prop where
 out:look HI H.length g4=some ⟨g4,3,[.f (.int .i64 0), .f .nil, .f .nil]⟩
 ex:∃z gc rc zs rs,look HI J g7=some ⟨g7,3,[.f (.int .i64 z),gc,rc]⟩∧(∀H':Jn,(∀i,H.length<i→i<HI.length→H'[i]? =HI[i]?)→frzS (YP H.length) H' 6 gc=some (Ql zs)∧frzS (YP H.length) H' 6 rc=some (VN eR rs))∧zs.length≤16∧Re rs 30 5
 rd:Uh HI id g B
 lt:id<H.length
 ln:H.length<J∧J<HI.length
 frm:∀k,k<H.length→k≠id→HI[k]? =H[k]?
theorem Jfl{H H' HI:Jn}{gid gg:Nat}{zs:List Int}(p1:look HI gid gg=some ⟨gg,1,cl (eI .i64) zs⟩)(h0:H.length<gid)(hs:∀i,H.length<i→i<HI.length→H'[i]? =HI[i]?){off k:Nat}(hk:off+k≤zs.length):frzS (YP H.length) H' 6 (.own gid gg off k none)=some (Ql ((zs.drop off).take k)):=
 BY (by unfold look at p1⊢;rw[hs gid h0 (Jh.1 (JH p1).1).1];exact p1) (by simp[YP];omega) hk 5
theorem JcY{H H' HI:Jn}{rc:CV}{rs:List Zq}(p3:UE eR 3 HI rc rs)(h0:∀i,Q6 rc i→H.length<i)(hs:∀i,H.length<i→i<HI.length→H'[i]? =HI[i]?):frzS (YP H.length) H' 6 rc=some (VN eR rs):=
 (p3.same fun i hi hl=>hs i (h0 i hi) hl).frzS (fun i hi=>by have:=h0 i hi;simp[YP];omega) 5
theorem Ny.fin{H HI:Jn}{id g R n g4 cid cg J g7:Nat}{B B':Int}(h:Ny H HI id g B R n g4 cid cg J g7)(hn:n*n≤16)(hR:R≤30)(hb:B≤B'):PzF H HI id g B' g4 J g7:=by
 obtain⟨z,gc,rc,zs,rs,w1,⟨gid,gg,rfl,p1,p2,p3,p4⟩,w3,w4,w5,w6,w7,w8,w9⟩:=h.ex
 have hln:=h.ln
 exact{out:=h.out
       ex:=⟨z,_,rc,zs,rs,w1,fun H' hs=>⟨by have:=Jfl p1 (by omega) hs (off:=0) (k:=zs.length) (by omega);rwa [J1,List.take_length]at this,JcY p3 (fun i hi=>by have:=(p4 i hi).1;omega) hs⟩,by omega,by omega,w9⟩
       rd:=h.rd.mono hb,lt:=h.lt,ln:=by omega,frm:=h.frm}
end Go.Lg

namespace Go.Lg
open Go.Proofs
theorem Zd.nn'{xs:List Int}{n:Nat}(h:Zd xs n)(c:Int):0≤Jy xs c:=by
 rw[VH]
 by_cases hk:c.toNat<xs.length
 · exact(h.val _ hk).1
 · unfold Jy
   rw[Int.toNat_natCast,List.getD_eq_getElem?_getD,Ju (by omega)]
   exact Int.le_refl _
theorem Zd.set{xs:List Int}{n i v:Nat}(hg:Zd xs n)(hi:i<xs.length)(hv:v≤n):Zd (xs.set i (v:Int)) n:=⟨by rw[Jp];exact hg.len,fun k hk=>by
 rw[Jp]at hk
 rw[Za _ _ _ _ hi]
 split
 · omega
 · exact hg.val k hk⟩
theorem WV(p:QR)(n m:Nat)(xs:List Int){i:Nat}(hi:xs.length -(m+1)=i):ZB p n (m+1) xs=if 0<Jy xs i then ZB p n m xs else(vals n 1).flatMap fun(v:Nat)=>if QJ p (xs.set i (v:Int)) n=true then ZB p n m (xs.set i (v:Int))else[]:=by
 conv=>lhs;rw[ZB,hi]
 rfl
theorem Rx{n v:Nat}(h:v∈vals n 1):1≤v∧v≤n:=by
 unfold vals at h
 rw[Nat.sub_self,J1]at h
 obtain⟨k,hk,rfl⟩:=Qg.1 h
 rw[List.mem_range]at hk
 omega
theorem WW(p:QR){n:Nat}:∀(m:Nat) (xs:List Int),m≤n*n→Zd xs n→(∀k:Nat,k<n*n -m→0<Jy xs k)→∀s∈ZB p n m xs,Zd s n∧(∀k:Nat,k<n*n→0<Jy s k)∧∀k:Nat,0<Jy xs k→Jy s k=Jy xs k
 |0,xs,hm,hg,hf,s,hs=>by
  rw[ZB,List.mem_singleton]at hs
  subst hs
  exact⟨hg,fun k hk=>hf k (by omega),fun _ _=>rfl⟩
 |m+1,xs,hm,hg,hf,s,hs=>by
  have hxl:=hg.len
  obtain⟨i,hi⟩:∃i,i=xs.length -(m+1):=⟨_,rfl⟩
  rw[WV p n m xs hi.symm]at hs
  split at hs
  · rename_i h0
    exact WW p m xs (by omega) hg (fun k hk=>by
     by_cases hki:k=i
     · rw[hki];exact h0
     · exact hf k (by omega)) s hs
  · rename_i h0
    obtain⟨v,hv,hs⟩:=List.mem_flatMap.1 hs
    have hvb:=Rx hv
    have hil:i<xs.length:=by omega
    split at hs
    · obtain⟨q1,q2,q3⟩:=WW p m (xs.set i (v:Int)) (by omega) (hg.set hil hvb.2) (fun k hk=>by
       rw[Za _ _ _ _ hil]
       split
       · omega
       · exact hf k (by omega)) s hs
      refine⟨q1,q2,fun k hk=> ?_⟩
      have hki:k≠i:=fun h=>by rw[h]at hk;omega
      have:=q3 k (by rw[Za _ _ _ _ hil,if_neg hki];exact hk)
      rw[Za _ _ _ _ hil,if_neg hki]at this
      exact this
    · simp at hs
def LeB(o o':List Nat):Prop:=o.length=o'.length∧∀k b:Nat,(o.getD k 0).testBit b=true→(o'.getD k 0).testBit b=true
theorem LeB.refl(o:List Nat):LeB o o:=⟨rfl,fun _ _ h=>h⟩
theorem LeB.trans{a b c:List Nat}(h1:LeB a b)(h2:LeB b c):LeB a c:=⟨h1.1.trans h2.1,fun k x h=>h2.2 k x (h1.2 k x h)⟩
theorem Gw{o:List Nat}{vs:List Int}(h:vs.length=o.length)(k:Nat):(orV o vs).getD k 0=if k<o.length then(o.getD k 0|||2^(Jy vs k).toNat)else 0:=by
 by_cases hk:k<o.length
 · rw[if_pos hk]
   have h1:k<(orV o vs).length:=by rw[ZG];omega
   rw[List.getD_eq_getElem?_getD,Jl h1,List.getD_eq_getElem?_getD,Jl hk,Qe (by omega)]
   simp[orV]
 · rw[if_neg hk,List.getD_eq_getElem?_getD,Ju (by rw[ZG];omega)]
   rfl
theorem Jlw{o:List Nat}{vs:List Int}(h:vs.length=o.length):LeB o (orV o vs):=⟨by rw[ZG];omega,fun k b hb=>by
 rw[Gw h]
 split
 · rw[Nat.testBit_or,hb,Bool.true_or]
 · rename_i hk
   rw[List.getD_eq_getElem?_getD,Ju (by omega)]at hb
   simp at hb⟩
theorem JhT{o o':List Nat}{vs:List Int}(h:vs.length=o.length)(hl:LeB o o'):LeB (orV o vs) (orV o' vs):=⟨by rw[ZG,ZG,hl.1],fun k b hb=>by
 rw[Gw h]at hb
 rw[Gw (h.trans hl.1),←hl.1]
 split at hb
 · rename_i hk
   rw[if_pos hk]
   rw[Nat.testBit_or,Bool.or_eq_true]at hb⊢
   exact hb.imp (hl.2 k b) id
 · simp at hb⟩
theorem JeJ(r:Zq):∀(ms:List Nat) (pre:List Int) (o:List Nat),pre.length+ms.length=o.length→LeB o (ZS r ms pre o)
 |[],pre,o,h=>by
  unfold ZS
  split
  · exact Jlw (by simpa using h)
  · exact .refl _
 |m::ms,pre,o,h=>by
  rw[WT]
  have:∀(l:List Int) (o:List Nat),pre.length+1+ms.length=o.length→LeB o (l.foldl (fun o v=>ZS r ms (pre++[v]) o) o):=by
   intro l
   induction l with
   |nil=>exact fun o _=> .refl _
   |cons v l ih=>
    intro o h
    rw[List.foldl_cons]
    have h1:=JeJ r ms (pre++[v]) o (by simp;omega)
    exact h1.trans (ih _ (by rw[←h1.1];exact h))
  exact this _ _ (by simp at h;omega)
theorem Jad(r:Zq):∀(ms ms':List Nat) (pre:List Int) (o o':List Nat),pre.length+ms.length=o.length→ms.length=ms'.length→(∀k v:Nat,1≤v→v≤4→(ms.getD k 0).testBit v=true→(ms'.getD k 0).testBit v=true)→LeB o o'→LeB (ZS r ms pre o) (ZS r ms' pre o')
 |[],[],pre,o,o',h,_,_,ho=>by
  unfold ZS
  split
  · exact JhT (by simpa using h) ho
  · exact ho
 |[],_::_,_,_,_,_,h,_,_=>by simp at h
 |_::_,[],_,_,_,_,h,_,_=>by simp at h
 |m::ms,m'::ms',pre,o,o',h,hl,hb,ho=>by
  have hstep:∀(v:Nat),1≤v→v≤4→∀(o o':List Nat),pre.length+1+ms.length=o.length→LeB o o'→
   LeB (if m.testBit v=true then ZS r ms (pre++[(v:Int)]) o else o) (if m'.testBit v=true then ZS r ms' (pre++[(v:Int)]) o' else o')∧pre.length+1+ms.length=(if m.testBit v=true then ZS r ms (pre++[(v:Int)]) o else o).length:=by
   intro v hv1 hv4 o o' hlen ho
   have hlen':(pre++[(v:Int)]).length+ms.length=o.length:=by simp;omega
   by_cases hm:m.testBit v=true
   · have hm':m'.testBit v=true:=by simpa using hb 0 v hv1 hv4 (by simpa using hm)
     rw[if_pos hm,if_pos hm']
     exact⟨Jad r ms ms' _ o o' hlen' (by simpa using hl) (fun k v h1 h2 h3=>by simpa using hb (k+1) v h1 h2 (by simpa using h3)) ho,by rw[VO r ms _ _ hlen'];exact hlen⟩
   · rw[if_neg hm]
     refine⟨?_,hlen⟩
     split
     · exact ho.trans (JeJ r ms' _ o' (by rw[←ho.1];simp at hl⊢;omega))
     · exact ho
  have e:∀(M:Nat) (MS:List Nat) (O:List Nat),ZS r (M::MS) pre O=[1,2,3,4].foldl (fun o (v:Nat)=>if M.testBit v=true then ZS r MS (pre++[(v:Int)]) o else o) O:=fun _ _ _=>rfl
  rw[e,e]
  simp only[List.foldl_cons,List.foldl_nil]
  have h0:pre.length+1+ms.length=o.length:=by simp at h;omega
  obtain⟨a1,b1⟩:=hstep 1 (by omega) (by omega) o o' h0 ho
  obtain⟨a2,b2⟩:=hstep 2 (by omega) (by omega) _ _ b1 a1
  obtain⟨a3,b3⟩:=hstep 3 (by omega) (by omega) _ _ b2 a2
  exact(hstep 4 (by omega) (by omega) _ _ b3 a3).1
theorem JcG{xs ys:List Int}{n:Nat}(hn:n=2∨n=3∨n=4){c:Int}(h:0<Jy xs c→Jy ys c=Jy xs c)(hy:0≤Jy ys c∧Jy ys c≤n){v:Nat}(hv:1≤v∧v≤4)(hb:(Uf ys n c).testBit v=true):(Uf xs n c).testBit v=true:=by
 unfold Uf at hb⊢
 by_cases hx:0<Jy xs c
 · rw[if_pos hx]
   rw[h hx,if_pos hx]at hb
   exact hb
 · rw[if_neg hx]
   by_cases hy0:0<Jy ys c
   · rw[if_pos hy0,Nat.testBit_two_pow]at hb
     have hv':v≤n:=by simp at hb;omega
     clear hb
     have:v=1∨v=2∨v=3∨v=4:=by omega
     rcases hn with rfl|rfl|rfl<;>rcases this with rfl|rfl|rfl|rfl<;>first|omega|decide
   · rw[if_neg hy0]at hb
     exact hb
theorem JbI{xs ys:List Int}{n:Nat}(hn:n=2∨n=3∨n=4){r:Zq}(h:∀c∈r.cells,0<Jy xs c→Jy ys c=Jy xs c)(hy:∀c∈r.cells,0≤Jy ys c∧Jy ys c≤n)(hc:Q9 r ys n=true):Q9 r xs n=true:=by
 unfold Q9 at hc⊢
 have hle:=Jad r (r.cells.map (Uf ys n)) (r.cells.map (Uf xs n)) [] (Jf r.cells.length 0) (Jf r.cells.length 0) (by simp) (by simp) (fun k v h1 h2 h3=>by
  by_cases hk:k<r.cells.length
  · have e:∀zs:List Int,(r.cells.map (Uf zs n)).getD k 0=Uf zs n r.cells[k]:=fun zs=>by
     rw[List.getD_eq_getElem?_getD,Qk,Jl hk];rfl
    rw[e]at h3⊢
    have hm:r.cells[k]∈r.cells:=List.getElem_mem _
    exact JcG hn (h _ hm) (hy _ hm) ⟨h1,h2⟩ h3
  · rw[List.getD_eq_getElem?_getD,Ju (by simp;omega)]at h3
    simp at h3) (.refl _)
 generalize ZS r (r.cells.map (Uf ys n)) [] (Jf r.cells.length 0)=A at hc hle
 generalize ZS r (r.cells.map (Uf xs n)) [] (Jf r.cells.length 0)=B at hle⊢
 have hA:A.getD 0 0≠0:=by simpa using hc
 obtain⟨b,hb⟩:=Nat.exists_testBit_of_ne_zero hA
 have:=hle.2 0 b hb
 have hB:B.getD 0 0≠0:=fun h=>by rw[h]at this;simp at this
 simpa using hB
theorem JgP{r:Zq}{n:Nat}{ys:List Int}(hr:Qw r n=true)(hg:Zd ys n):∀c∈r.cells,0≤Jy ys c∧Jy ys c≤n:=fun c hc=>by
 have h3:=(QV hr).2.2.1 c hc
 have hl:=hg.len
 obtain⟨k,rfl⟩:∃k:Nat,c=k:=⟨c.toNat,by omega⟩
 exact hg.val k (by omega)
theorem XW{p:QR}{n:Nat}(hp:Uq p n){xs ys:List Int}(hx:Zd xs n)(hy:Zd ys n)(h:∀k:Nat,0<Jy xs k→Jy ys k=Jy xs k)(hf:QJ p ys n=true):QJ p xs n=true:=by
 have hn:=hp.hn
 simp only[QJ,Bool.and_eq_true,clear,decide_eq_true_eq,Bool.not_eq_true',List.all_eq_true]at hf⊢
 obtain⟨h1,h2,h3⟩:=hf
 have hc:∀c:Int,0<Jy xs c→Jy ys c=Jy xs c:=fun c hc=>by
  rw[VH]at hc
  rw[VH ys,VH xs]
  exact h _ hc
 refine⟨fun k hk=> ?_,fun r hr=>JbI hn (fun c _=>hc c) (JgP (hp.rv r hr) hy) (h2 r hr), ?_⟩
 · rintro⟨a,b,d⟩
   have:=h k b
   exact h1 k (by rw[hy.len,←hx.len];exact hk) ⟨a,by omega,by omega⟩
 · rw[Bn hn hy.nn']at h3
   rw[Bn hn hx.nn']
   intro a b hab hb hl h0 he
   have e1:=h a h0
   have e2:=h b (by omega)
   exact h3 a b hab hb hl (by omega) (by omega)
def Has(p:QR)(xs:List Int):Prop:=∀k:Nat,0<Jy p.given k→Jy xs k=Jy p.given k
theorem Has.clear{p:QR}{xs:List Int}(h:Has p xs):Lg.clear p xs=true:=by
 simp only[Lg.clear,decide_eq_true_eq]
 exact fun k hk ⟨a,b,c⟩=>c (h k a)
theorem Has.set{p:QR}{xs:List Int}(h:Has p xs){i:Nat}{v:Int}(hi:i<xs.length)(h0:¬0<Jy xs i):Has p (xs.set i v):=fun k hk=>by
 rw[Za _ _ _ _ hi]
 have:=h k hk
 split
 · rename_i hki
   subst hki
   omega
 · exact this
theorem JaM{p q:QR}(hr:p.rules=q.rules){n:Nat}{xs:List Int}(hp:Has p xs)(hq:Has q xs):QJ p xs n=QJ q xs n:=by
 unfold QJ
 rw[hp.clear,hq.clear,hr]
theorem K9{p q:QR}(hr:p.rules=q.rules){n:Nat}:∀(m:Nat) (xs:List Int),m≤xs.length→Has p xs→Has q xs→ZB p n m xs=ZB q n m xs
 |0,xs,_,_,_=>rfl
 |m+1,xs,hm,hp,hq=>by
  obtain⟨i,hi⟩:∃i,i=xs.length -(m+1):=⟨_,rfl⟩
  rw[WV p n m xs hi.symm,WV q n m xs hi.symm,K9 hr m xs (by omega) hp hq]
  split
  · rfl
  · rename_i h0
    have hil:i<xs.length:=by omega
    congr 1
    funext v
    rw[JaM hr (hp.set hil h0) (hq.set hil h0),K9 hr m (xs.set i (v:Int)) (by rw[Jp];omega) (hp.set hil h0) (hq.set hil h0)]
def Zr(a b:List Int):List Int:=(List.range a.length).map fun(k:Nat)=>if 0<Jy b k then Jy b k else Jy a k
theorem Zp(a b:List Int):(Zr a b).length=a.length:=by simp[Zr]
theorem Vi{a b:List Int}{k:Nat}(h:k<a.length):Jy (Zr a b) k=if 0<Jy b k then Jy b k else Jy a k:=by
 rw[Qe (by rw[Zp];omega)]
 simp[Zr]
def QQ(p:QR)(xs:List Int):QR:=⟨p.size,Zr p.given xs,p.rules⟩
theorem WS{a b:List Int}{n:Nat}(ha:Zd a n)(hb:Zd b n):Zd (Zr a b) n:=⟨by rw[Zp];exact ha.len,fun k hk=>by
 rw[Zp]at hk
 rw[Vi hk]
 split
 · exact hb.val k (by rw[hb.len,←ha.len];exact hk)
 · exact ha.val k hk⟩
theorem W9{xs:List Int}{k:Nat}(h:xs.length≤k):Jy xs (k:Int)=0:=by
 unfold Jy
 rw[Int.toNat_natCast,List.getD_eq_getElem?_getD,Ju h]
 rfl
def Ni(p:QR)(n:Nat)(xs:List Int)(most:Nat):List (List Int):=if QJ p (Zr p.given xs) n=true∧clear p xs=true then(ZB p n (n*n) (Zr p.given xs)).take most else[]
theorem No{p:QR}{n:Nat}{xs:List Int}(ha:Zd p.given n)(hb:Zd xs n)(h:clear p xs=true):Has p (Zr p.given xs):=fun k hk=>by
 have hkl:k<p.given.length:=by
  by_cases hkl:k<p.given.length
  · exact hkl
  · rw[W9 (by omega)]at hk;omega
 rw[Vi hkl]
 split
 · rename_i hx
   simp only[clear,decide_eq_true_eq]at h
   have:=h k (by rw[hb.len,←ha.len];exact hkl)
   by_cases he:Jy xs k=Jy p.given k
   · exact he
   · exact absurd ⟨hk,hx,he⟩ this
 · rfl
theorem Jiz(p:QR):Has p p.given:=fun _ _=>rfl
theorem JaN{p:QR}{n:Nat}(hp:Uq p n)(hv:JA p=true){xs:List Int}(hb:Zd xs n)(most:Nat):Ni p n xs most=if QJ p xs n=true then N8 (QQ p xs) most else[]:=by
 have hn:=hp.hn
 have hs:((p.size.toNat:Nat):Int)=p.size:=(Uq.of hv).2
 have hsn:p.size.toNat=n:=by have:=hp.size;omega
 have ha:Zd p.given n:=by
  have:=Zd.of hn (xs:=p.given) (n:=n) (by rw[←hp.size];exact U5 hv)
  exact this
 have hg:=WS ha hb
 have hxw:∀k:Nat,0<Jy xs k→Jy (Zr p.given xs) k=Jy xs k:=fun k hk=>by
  have hkl:k<xs.length:=by
   by_cases hkl:k<xs.length
   · exact hkl
   · rw[W9 (by omega)]at hk;omega
  rw[Vi (by rw[ha.len,←hb.len];exact hkl),if_pos hk]
 have hqv:JA (QQ p xs)=true:=by
  simp only[JA,Bool.and_eq_true,decide_eq_true_eq]at hv⊢
  refine⟨?_,hv.2⟩
  show Qc (Zr p.given xs) p.size=true
  rw[hp.size]
  exact hg.valid hn
 unfold Ni
 by_cases hc:clear p xs=true
 · have hP:=No ha hb hc
   have hQ:=Jiz (QQ p xs)
   have hfq:QJ (QQ p xs) (QQ p xs).given n=QJ p (Zr p.given xs) n:=(JaM (p:=p) (q:=QQ p xs) rfl hP hQ).symm
   have hsq:ZB (QQ p xs) n (n*n) (QQ p xs).given=ZB p n (n*n) (Zr p.given xs):=(K9 (p:=p) (q:=QQ p xs) rfl (n*n) _ (by rw[hg.len];exact Nat.le_refl _) hP hQ).symm
   by_cases hf:QJ p (Zr p.given xs) n=true
   · rw[if_pos ⟨hf,hc⟩,if_pos (XW hp hb hg hxw hf)]
     unfold N8
     have e:(QQ p xs).size.toNat=n:=hsn
     rw[e,if_pos ⟨hqv,by rw[hfq];exact hf⟩,hsq]
   · rw[if_neg (fun h=>hf h.1)]
     split
     · unfold N8
       have e:(QQ p xs).size.toNat=n:=hsn
       rw[e,if_neg (fun h=>hf (by rw[←hfq];exact h.2))]
     · rfl
 · rw[if_neg (fun h=>hc h.2)]
   have:QJ p xs n=false:=by
    have:clear p xs=false:=by simpa using hc
    simp[QJ,this]
   rw[this]
   rfl
def WM(p:QR)(xs:List Int)(most:Int):Int:=if JA p=true∧Qc xs p.size=true∧1≤most∧most≤600 then(Ni p p.size.toNat xs most.toNat).length else-1
end Go.Lg

namespace Go.Lg
open Go.Proofs
theorem Jjh(p:QR)(most:Nat):(N8 p most).length≤most:=by
 unfold N8
 split
 · rw[JX];omega
 · simp
attribute [-go_sem] Qf
def XH(a b:List Int)(k:Nat):List Int:=(Zr a b).take k++a.drop k
theorem Jjy(a b:List Int):XH a b 0=a:=by simp[XH]
theorem Jfz{a b:List Int}{k:Nat}:(XH a b k).length=a.length:=by simp[XH,Zp];omega
theorem JfA{a b:List Int}{k:Nat}(h:a.length≤k):XH a b k=Zr a b:=by
 unfold XH
 rw[Js (by rw[Zp];exact h),List.drop_of_length_le h,Jt]
theorem Jfx{a b:List Int}{k:Nat}(h:k<a.length)(h0:0<Jy b k):(XH a b k).set k (Jy b k)=XH a b (k+1):=by
 have e:(Zr a b).take (k+1)=(Zr a b).take k++[Jy b k]:=by rw[Qa (by rw[Zp];exact h),Vi h,if_pos h0]
 unfold XH
 rw[e,List.set_append_right _ _ (by rw[JX,Zp];omega),JX,Zp,Nat.min_eq_left (by omega),Nat.sub_self,List.drop_eq_getElem_cons h,List.set_cons_zero,JW]
 rfl
theorem Jfy{a b:List Int}{k:Nat}(h:k<a.length)(h0:¬0<Jy b k):XH a b (k+1)=XH a b k:=by
 have e:(Zr a b).take (k+1)=(Zr a b).take k++[Jy a k]:=by rw[Qa (by rw[Zp];exact h),Vi h,if_neg h0]
 unfold XH
 rw[e,JW]
 congr 1
 rw[List.drop_eq_getElem_cons h,Qe (by omega)]
 simp
theorem Xt(p:QR)(xs:List Int)(hx:p.given.length≤2^40)(hl:p.given.length≤xs.length)(h0:0<p.given.length):JM Tryz.prog 104 [aP p,QF xs] (aP (QQ p xs)):=by
 refine JM.iced ?_
 refine Jk.cw (c:=_) Tryz.func104 rfl (n:=35) Tryz.ntmps104 (rs:=[.cell 4 26]) rfl ?_
 simp only[Ja,Je,zA,zS,Jf,Jb,Jd]
 simp(maxSteps:=999999)(disch:=omega)only[go_sem,zA,zM,zS,zE,zL]
 intro g0 g1 g2
 refine K2 (HI:=[_,_]) (ZN WG rfl ti3) ⟨rfl,rfl,rfl⟩ ⟨h0,hx⟩ ?_
 intro g3
 simp(maxSteps:=999999)(disch:=omega)only[go_sem,zA,zM,zS,zE,zL]
 refine JO (fun k:Nat=>p.given.length -k) (fun k=>k≤p.given.length) (fun k=>[.a, .k, .k, .a, .k, .k, .p (int k), .a, .a, .a, .a, .a, .a, .a, .a, .a, .a, .a, .a, .a, .a, .a, .a, .a, .a, .a, .a, .a, .a, .a, .a, .a, .a, .a, .a]) (fun k=>[some ⟨g0,1,cP p⟩,some ⟨g1,3,[CV.f (FV.int IntKind.i64 0),CV.f FV.nil,CV.f FV.nil]⟩,some ⟨g3,1,cl (eI .i64) (XH p.given xs k)⟩]) 0 (Nat.zero_le _) (by simp(maxSteps:=999999)(disch:=omega)only[go_sem,zA,zM,zS,zE,zL];rfl) (by rw[Jjy];exact J5.refl _) ?_
 intro k hk
 have hwl:=Jfz (a:=p.given) (b:=xs) (k:=k)
 simp(maxSteps:=999999)(disch:=omega)only[go_sem,zA,zM,zS,zE,zL]
 ((first|(with_reducible first|refine Jm ?_ ?_|refine Jj ?_ ?_|refine Jo ?_ ?_)|refine Jr ?_ ?_)<;>intro c1)
 · have c1:k<p.given.length:=by omega
   simp(maxSteps:=999999)(disch:=omega)only[go_sem,zA,zM,zS,zE,zL]
   ((first|(with_reducible first|refine Jm ?_ ?_|refine Jj ?_ ?_|refine Jo ?_ ?_)|refine Jr ?_ ?_)<;>intro c2)
   · simp(maxSteps:=999999)(disch:=omega)only[go_sem,zA,zM,zS,zE,zL]
     rw[Int.toNat_natCast,Jfx c1 c2]
     exact⟨k+1,⟨by omega,by omega⟩,by push_cast;omega,J5.refl _⟩
   · simp(maxSteps:=999999)(disch:=omega)only[go_sem,zA,zM,zS,zE,zL]
     refine⟨k+1,⟨by omega,by omega⟩,by push_cast;omega, ?_⟩
     rw[Jfy c1 c2]
     exact J5.refl _
 · simp(maxSteps:=999999)(disch:=omega)only[go_sem,zA,zM,zS,zE,zL]
   rw[JfA (by omega)]
   have hown:Qr [some ⟨g0,1,cP p⟩,some ⟨g1,3,[CV.f (FV.int IntKind.i64 p.size),CV.own 2 g3 0 p.given.length none,CV.f (VN eR p.rules)]⟩,some ⟨g3,1,cl (eI .i64) (Zr p.given xs)⟩] (.own 2 g3 0 p.given.length none) (Zr p.given xs) [2]:=by
    have:=Qr.o (H:=[some ⟨g0,1,cP p⟩,some ⟨g1,3,[CV.f (FV.int IntKind.i64 p.size),CV.own 2 g3 0 p.given.length none,CV.f (VN eR p.rules)]⟩,some ⟨g3,1,cl (eI .i64) (Zr p.given xs)⟩]) 2 g3 none (Zr p.given xs) [] (by rw[Jt];simp only[go_sem])
    rwa [Zp]at this
   refine VI ?_
   have hf:=hown.frzC
   show(([_,_,_]:List CV).mapM (Lg.frzC _)).map AV.agg=_
   simp only[J3,QB,hf,Option.bind_eq_bind,Option.pure_def]
   rfl
end Go.Lg

namespace Go.Lg
open Go.Proofs
attribute [-go_sem] Qf J0
def Jl9(H:Jn)(c:CV)(ls:List (List Int)):Prop:=∃oid og cs,c= .own oid og 0 ls.length none∧look H oid og=some ⟨og,1,cs⟩∧cs.length=ls.length∧∀i (h:i<ls.length),∃id g,cs[i]? =some (.own id g 0 ls[i].length none)∧look H id g=some ⟨g,1,cl (eI .i64) ls[i]⟩
theorem Jl9.shift{H0 H:Jn}{c:CV}{ls:List (List Int)}(h:Jl9 H c ls):Jl9 (H0++Q1 H0.length H) (ZT H0.length c) ls:=by
 obtain⟨oid,og,cs,rfl,k1,k2,k3⟩:=h
 refine⟨oid+H0.length,og,cs.map (ZT H0.length),rfl,UG k1,by rw[Qi];exact k2,fun i hi=> ?_⟩
 obtain⟨id,g,q1,q2⟩:=k3 i hi
 refine⟨id+H0.length,g,by rw[Qk,q1];rfl, ?_⟩
 rw[UG q2]
 simp only[ZF,W3]
section
variable{P:Program}{o:Oper}{st:St}{K:KV}{fo:Operand}{xs:Array Operand}{ts:Array TypeId}{f:FuncId}{args:List AV}
end
def smD(p:QR):Prop:=p.given.length≤16∧Re p.rules 30 5
theorem smD.sm{p:QR}(h:smD p):RC p:=⟨by have:=h.1;omega,by have:=h.2.1;omega,fun r hr=>by have:=h.2.2 r hr;omega⟩
structure TrI(H HI:Jn)(id g:Nat)(B:Int)(g4 J g6:Nat)(p:QR)(c:CV)(zs:List Int):Prop where
 out:look HI H.length g4=some ⟨g4,3,[.f (.int .i64 0), .f .nil, .f .nil]⟩
 puz:look HI J g6=some ⟨g6,3,cP p⟩
 grid:∃gid gg,c= .own gid gg 0 zs.length none∧look HI gid gg=some ⟨gg,1,cl (eI .i64) zs⟩∧H.length<gid∧gid≠J
 rd:Uh HI id g B
 lt:id<H.length
 ln:H.length<J∧J<HI.length
 frm:∀k,k<H.length→k≠id→HI[k]? =H[k]?
section
variable{H HI H2:Jn}{id g g4 J g6:Nat}{B B':Int}{p:QR}{c:CV}{zs:List Int}
theorem TrI.mono(h:TrI H HI id g B g4 J g6 p c zs)(hb:B≤B'):TrI H HI id g B' g4 J g6 p c zs:={h with rd:=h.rd.mono hb}
theorem TrI.step(h:TrI H HI id g B g4 J g6 p c zs)(hs:∀i,H.length≤i→i<HI.length→H2[i]? =HI[i]?)(hl:HI.length≤H2.length)(hr:Uh H2 id g B')(hf:∀k,k<H.length→k≠id→H2[k]? =HI[k]?):TrI H H2 id g B' g4 J g6 p c zs:=by
 have hn:=h.ln
 have hL:∀i g,H.length≤i→i<HI.length→look H2 i g=look HI i g:=fun i g h1 h2=>by unfold look;rw[hs i h1 h2]
 obtain⟨gid,gg,g1,g2,g3,g4⟩:=h.grid
 have hgl:gid<HI.length:=(Jh.1 (JH g2).1).1
 exact{out:=by rw[hL _ _ (Nat.le_refl _) (by omega)];exact h.out
       puz:=by rw[hL _ _ (by omega) (by omega)];exact h.puz
       grid:=⟨gid,gg,g1,by rw[hL _ _ (by omega) hgl];exact g2,g3,g4⟩
       rd:=hr,lt:=h.lt,ln:=by omega
       frm:=fun k hk hne=>by rw[hf k hk hne];exact h.frm k hk hne}
theorem TrI.pick(h:TrI H HI id g B g4 J g6 p c zs)(hr:Uh H2 id g B')(hf:WA HI H2 [id]):TrI H H2 id g B' g4 J g6 p c zs:=by
 have hl:=h.lt
 exact h.step (fun i hi _=>hf.2 i (by simp;omega)) (by rw[hf.1];exact Nat.le_refl _) hr fun k hk hne=>hf.2 k (by simpa using hne)
theorem TrI.app{X:Jn}(h:TrI H HI id g B g4 J g6 p c zs):TrI H (HI++X) id g B g4 J g6 p c zs:=by
 have hn:=h.ln
 exact h.step (fun i _ hi=>Jc hi) (by simp) h.rd.app fun k hk _=>Jc (by omega)
theorem TrI.set(h:TrI H HI id g B g4 J g6 p c zs){gid gg:Nat}(hc:c= .own gid gg 0 zs.length none)(k:Nat)(v:Int):TrI H (HI.set gid (some ⟨gg,1,cl (eI .i64) (zs.set k v)⟩)) id g B g4 J g6 p c (zs.set k v):=by
 have hn:=h.ln
 have hl:=h.lt
 obtain⟨gid',gg',g1,g2,g3,g4⟩:=h.grid
 rw[hc]at g1
 cases g1
 have hgl:gid<HI.length:=(Jh.1 (JH g2).1).1
 exact{out:=by rw[QA (by omega)];exact h.out
       puz:=by rw[QA (by omega)];exact h.puz
       grid:=⟨gid,gg,by rw[hc,Jp],J7 hgl,g3,g4⟩
       rd:=h.rd.same (by rw[Ji (by omega)])
       lt:=hl,ln:=by rw[Jp];exact hn
       frm:=fun k hk hne=>by rw[Ji (by omega)];exact h.frm k hk hne}
end
theorem Uh.shift{H0 H:Jn}{id g:Nat}{B:Int}(h:Uh H id g B):Uh (H0++Q1 H0.length H) (id+H0.length) g B:=by
 obtain⟨sz,b,p,h1,h2⟩:=h
 exact⟨sz,b,p,by rw[UG h1];rfl,h2⟩
end Go.Lg
