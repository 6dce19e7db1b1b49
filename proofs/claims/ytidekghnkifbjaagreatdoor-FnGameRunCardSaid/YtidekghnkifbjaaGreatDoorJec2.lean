/- GpGD, GpGE, cut to what is needed. -/
import Derived.Test.YtidekghnkifbjaaGreatDoorJec1
import Derived.Test.YtidekghnkifbjaaGreatDoorJeb0
open List renaming getElem?_append_left → Ja, cons_append → Jb, nil_append → Jc, replicate → Jd, length_cons → Je, length_nil → Jf, getElem?_set_ne → Jg, getElem?_eq_some_iff → Jh, length_append → Jk, length_set → Jo, take_of_length_le → Js, append_assoc → Jt, append_nil → Ju, length_take → JP, drop_zero → JR, getElem?_set_self → JX, getElem?_append_right → J3, mapM_cons → J4, mapM_nil → Qw, length_replicate → QG, take_append_drop → Q8
open Nat renaming reduceAdd→zA,reduceMul→zM,reduceSub→zS,reduceEqDiff→zE,reduceLeDiff→zL
set_option linter.unusedSimpArgs false
set_option linter.unusedVariables false
set_option maxRecDepth 100000
namespace Go.Lg
open Go.Proofs
theorem YZ(xs:List Int)(n:Int)(hx:xs.length≤2^40):JW Tryz.prog 109 [QO xs,int n] (int (ZT xs n)):=by
 refine Jn.cw (c:=_) Tryz.func109 rfl (n:=25) Tryz.ntmps109 (rs:=[.tmp 4]) rfl ?_
 simp only[Je,Jf,zA,zS,Jd,Jb,Jc]
 simp(maxSteps:=999999)(disch:=omega)only[go_sem,zA,zM,zS,zE,zL]
 first|refine JZ.rd (ZE xs n hx) (⟨_,Tryz.func39,rfl,rfl⟩:Ji Tryz.prog 39) rfl rfl rfl rfl ?_|refine JK.rd (ZE xs n hx) (⟨_,Tryz.func39,rfl,rfl⟩:Ji Tryz.prog 39) rfl rfl rfl rfl ?_
 simp(maxSteps:=999999)(disch:=omega)only[go_sem,zA,zM,zS,zE,zL]
 ((first|(with_reducible first|refine Jl ?_ ?_|refine Jj ?_ ?_|refine Jp ?_ ?_)|refine Jr ?_ ?_)<;>intro hv)
 rotate_left
 · simp(maxSteps:=999999)(disch:=omega)only[go_sem,zA,zM,zS,zE,zL]
   unfold ZT
   rw[if_neg (by rw[hv];simp)]
 have hg:ZT xs n=(xs.countP fun v=>decide (0<v):Nat):=by unfold ZT;rw[if_pos hv]
 rw[hg]
 simp(maxSteps:=999999)(disch:=omega)only[go_sem,zA,zM,zS,zE,zL]
 refine JY (fun k:Nat=>xs.length -k) (fun k=>k≤xs.length) (fun k=>[.k, .a, .a, .a, .a, .p (int ((xs.take k).countP fun v=>decide (0<v):Nat)), .p (int k), .a, .a, .a, .a, .a, .a, .a, .a, .a, .a, .a, .a, .a, .a, .a, .a, .a, .a]) (fun _=>[]) 0 (Nat.zero_le _) (by simp(maxSteps:=999999)(disch:=omega)only[go_sem,zA,zM,zS,zE,zL];exact⟨by simp,rfl⟩) (Qu _) ?_
 intro k hk
 have hc:=Jbj xs (fun v=>decide (0<v)) k
 simp(maxSteps:=999999)(disch:=omega)only[go_sem,zA,zM,zS,zE,zL]
 ((first|(with_reducible first|refine Jl ?_ ?_|refine Jj ?_ ?_|refine Jp ?_ ?_)|refine Jr ?_ ?_)<;>intro c1)
 · have c1:k<xs.length:=by omega
   have hs:=KK (f:=fun v=>decide (0<v)) c1
   simp(maxSteps:=999999)(disch:=omega)only[go_sem,zA,zM,zS,zE,zL]
   ((first|(with_reducible first|refine Jl ?_ ?_|refine Jj ?_ ?_|refine Jp ?_ ?_)|refine Jr ?_ ?_)<;>intro c2)
   · rw[decide_eq_true c2,if_pos rfl]at hs
     simp(maxSteps:=999999)(disch:=omega)only[go_sem,zA,zM,zS,zE,zL]
     refine⟨k+1,⟨by omega,by omega⟩,⟨by rw[hs];push_cast;omega,by push_cast;omega⟩,Qu _⟩
   · rw[decide_eq_false c2,if_neg (by simp)]at hs
     simp(maxSteps:=999999)(disch:=omega)only[go_sem,zA,zM,zS,zE,zL]
     refine⟨k+1,⟨by omega,by omega⟩,⟨by rw[hs];rfl,by push_cast;omega⟩,Qu _⟩
 · have hke:k=xs.length:=by omega
   simp(maxSteps:=999999)(disch:=omega)only[go_sem,zA,zM,zS,zE,zL]
   rw[hke,List.take_length]
def Uj(p:Q4)(xs:List Int):Bool:=(JB p&&(Qe xs p.size&&QT p xs p.size.toNat))&&decide (ZT xs p.size=xs.length)
theorem V0(p:Q4)(xs:List Int)(hx:Rf p)(hl:xs.length≤2^40):JW Tryz.prog 76 [aP p,QO xs] (bool (Uj p xs)):=by
 refine Jn.cw (c:=_) Tryz.func76 rfl (n:=17) Tryz.ntmps76 (rs:=[.tmp 4]) rfl ?_
 simp only[Je,Jf,zA,zS,Jd,Jb,Jc]
 simp(maxSteps:=999999)(disch:=omega)only[go_sem,zA,zM,zS,zE,zL]
 intro g
 first|refine JZ.rd (ZY p xs hx hl) (⟨_,Tryz.func103,rfl,rfl⟩:Ji Tryz.prog 103) rfl rfl rfl rfl ?_|refine JK.rd (ZY p xs hx hl) (⟨_,Tryz.func103,rfl,rfl⟩:Ji Tryz.prog 103) rfl rfl rfl rfl ?_
 simp(maxSteps:=999999)(disch:=omega)only[go_sem,zA,zM,zS,zE,zL]
 unfold Uj
 cases JB p&&(Qe xs p.size&&QT p xs p.size.toNat)with
 |false=>
  simp(maxSteps:=999999)(disch:=omega)only[go_sem,zA,zM,zS,zE,zL]
  rw[Bool.false_and]
 |true=>
  simp(maxSteps:=999999)(disch:=omega)only[go_sem,zA,zM,zS,zE,zL]
  first|refine JZ.rd (YZ xs p.size hl) (⟨_,Tryz.func109,rfl,rfl⟩:Ji Tryz.prog 109) rfl rfl rfl rfl ?_|refine JK.rd (YZ xs p.size hl) (⟨_,Tryz.func109,rfl,rfl⟩:Ji Tryz.prog 109) rfl rfl rfl rfl ?_
  simp(maxSteps:=999999)(disch:=omega)only[go_sem,zA,zM,zS,zE,zL]
attribute [-go_sem] J9 Jv
theorem Qf(H L:Jm)(n g:Nat):look (H++L) (H.length+n) g=look L n g:=by
 unfold look
 rw[J3 (by omega),Nat.add_sub_cancel_left]
theorem Qm(H L:Jm)(g:Nat):look (H++L) H.length g=look L 0 g:=Qf H L 0 g
theorem QS(H L:Jm)(n:Nat)(x:Option Zv):(H++L).set (H.length+n) x=H++L.set n x:=by
 rw[List.set_append_right _ _ (by omega),Nat.add_sub_cancel_left]
theorem QF(H L:Jm)(x:Option Zv):(H++L).set H.length x=H++L.set 0 x:=QS H L 0 x
theorem UV{α:Type}{E:α→List FV}{n:Nat}[HSz E n]{P:Program}{H:Jm}{t:TypeId}{ei:TI}{K:KV}(ht:QW P t=some ei)(hz:ei.zero.length=ei.size∧ei.size=n∧0<n∧ei.bytes≤64){id g k:Nat}{xs ys:List α}(hxk:xs.length=k)(hl:look H id g=some ⟨g,n,cl E xs⟩)(hx:xs.length≤2^40∧ys.length≤2^40)
 {src:AV} (hel:elems H n src=some (ys.length,cl E ys)) (hk:∀g',K (.c (.own id g' 0 (k+ys.length) none)) (H.set id (some ⟨g',n,cl E (xs++ys)⟩))):J9 P H t (.c (.own id g 0 k none)) src K:=by
 subst hxk
 obtain⟨hz1,rfl,hz3,hz4⟩:=hz
 have hcl:(cl E xs).length=xs.length*ei.size:=Qa xs
 have hel2:elems H ei.size (.c (.own id g 0 xs.length none))=some (xs.length,cl E xs):=by
  simp only[elems,hl,JR,if_true,Js (Nat.le_of_eq hcl)]
 have hb:(xs.length+ys.length)*ei.bytes≤140737488355328:=by
  have:(xs.length+ys.length)*ei.bytes≤(xs.length+ys.length)*64:=Nat.mul_le_mul_left _ hz4
  omega
 unfold J9
 simp only[ht,hz1,if_true,hel,hel2]
 simp only[WJ,hl,hcl,if_true,Y4]
 split
 · rename_i h0
   have:ys=[]:=List.eq_nil_of_length_eq_zero h0
   subst this
   have h1:=hk g
   rw[Ju]at h1
   have h2:H.set id (some ⟨g,ei.size,cl E xs⟩)=H:=by
    obtain⟨q1,_⟩:=JG hl
    have hlt:=(Jh.1 q1).1
    refine List.ext_getElem? fun i=> ?_
    by_cases hi:i=id
    · subst hi;rw[JX hlt,q1]
    · rw[Jg (Ne.symm hi)]
   rw[h2]at h1
   exact h1
 refine⟨⟨trivial,hz3,trivial,by omega,hb⟩,fun g'=> ?_⟩
 have:=hk g'
 rw[Q6]at this
 exact this
theorem Ge{α:Type}{E:α→List FV}{n:Nat}[HSz E n]{P:Program}{H:Jm}{t:TypeId}{ei:TI}{K:KV}(ht:QW P t=some ei)(hz:ei.zero.length=ei.size∧ei.size=n∧0<n∧ei.bytes≤64){ys:List α}(hx:0<ys.length∧ys.length≤2^40)
 {src:AV} (hel:elems H n src=some (ys.length,cl E ys)) (hk:∀g',K (.c (.own H.length g' 0 ys.length none)) (H++[some ⟨g',n,cl E ys⟩])):J9 P H t (.c .emp) src K:=by
 obtain⟨hz1,rfl,hz3,hz4⟩:=hz
 have hb:ys.length*ei.bytes≤140737488355328:=by
  have:ys.length*ei.bytes≤ys.length*64:=Nat.mul_le_mul_left _ hz4
  omega
 unfold J9
 simp only[ht,hz1,if_true,hel]
 simp only[elems,WJ,Y4,Rh]
 rw[if_neg (by omega)]
 exact⟨⟨by omega,hb⟩,hk⟩
theorem Fw{α:Type}{E:α→List FV}{n:Nat}[HSz E n]{H:Jm}{id g:Nat}{lim:Option Nat}{xs:List α}(hl:look H id g=some ⟨g,n,cl E xs⟩):elems H n (.c (.own id g 0 xs.length lim))=some (xs.length,cl E xs):=by
 have hcl:(cl E xs).length=xs.length*n:=Qa xs
 simp only[elems,hl,JR,if_true,Js (Nat.le_of_eq hcl)]
theorem Jkn(P:Program)(s:List AV)(H:Jm)(t u:Nat)(ty:TypeId):YD P s H [.cell t ty, .tmp u]=(V3 P H ty (s.getD t .void)).map fun v=> .tup [v,s.getD u .void]:=by
 simp only[YD,YE,Fb]
 cases V3 P H ty (s.getD t .void)<;>rfl
attribute [go_sem] Jkn
theorem Jc7(H L M:Jm):RM [] (H++L) (H++(L++M)):=by
 rw[←Jt,Jft]
 trivial
def woP(p:Q4)(k:Nat):Q4:=⟨p.size,p.given.set k 0,p.rules⟩
theorem JhN{p:Q4}{k:Nat}(h:Rf p):Rf (woP p k):=⟨by show(p.given.set k 0).length≤_;rw[Jo];exact h.1,h.2⟩
theorem Kz(H:Jm)(z:Int)(gid gg k:Nat)(zs:List Int)(rc:CV)(hg:look H gid gg=some ⟨gg,1,cl (eI .i64) zs⟩)(hk:k<zs.length)(hz:zs.length≤2^40):
 Jn Tryz.prog 146 [.agg [.f (.int .i64 z), .own gid gg 0 zs.length none,rc],int k] H (fun v H'=>∃id g,v= .agg [.f (.int .i64 z), .own id g 0 zs.length none,rc]∧look H' id g=some ⟨g,1,cl (eI .i64) (zs.set k 0)⟩∧H.length≤id∧H.length≤H'.length∧∀i,i<H.length→H'[i]? =H[i]?):=by
 have hlt:gid<H.length:=(Jh.1 (JG hg).1).1
 have hgX:∀L,look (H++L) gid gg=some ⟨gg,1,cl (eI .i64) zs⟩:=fun L=>JO hg
 refine Jn.cw (c:=_) Tryz.func146 rfl (n:=19) Tryz.ntmps146 (rs:=[.cell 4 26]) rfl ?_
 simp only[Je,Jf,zA,zS,Jd,Jb,Jc]
 simp(maxSteps:=999999)(disch:=omega)only[go_sem,zA,zM,zS,zE,zL,Qf,Qm,QS,QF,Jt,Jb,Jc,Jk,hgX]
 intro g1 g2 g3
 refine UV (E:=eI .i64) (xs:=[]) (ys:=zs) (Qb UE rfl Kh) ⟨rfl,rfl,by decide,by decide⟩ rfl (by rw[Qf];exact J8 (b:=⟨g3,1,cl (eI .i64) []⟩) rfl) ⟨by simp,hz⟩ (Fw (hgX _)) ?_
 intro g4
 rw[Jf,Nat.zero_add,Jc]
 simp(maxSteps:=999999)(disch:=omega)only[go_sem,zA,zM,zS,zE,zL,Qf,Qm,QS,QF,Jt,Jb,Jc,Jk,hgX]
 rw[Int.toNat_natCast]
 exact⟨_,J0.refl _,H.length+2,g4,rfl,by rw[Qf];exact J8 (b:=⟨g4,1,cl (eI .i64) (zs.set k 0)⟩) rfl,by omega,by simp,fun i hi=>Ja hi⟩
theorem Ky(p:Q4)(k:Nat)(hk:k<p.given.length)(hx:Rf p):JW Tryz.prog 146 [aP p,int k] (aP (woP p k)):=by
 have h0:=hx.1
 refine JW.iced ?_
 refine Jn.cw (c:=_) Tryz.func146 rfl (n:=19) Tryz.ntmps146 (rs:=[.cell 4 26]) rfl ?_
 simp only[Je,Jf,zA,zS,Jd,Jb,Jc]
 simp(maxSteps:=999999)(disch:=omega)only[go_sem,zA,zM,zS,zE,zL]
 intro g1 g2 g3
 refine UV (E:=eI .i64) (xs:=[]) (ys:=p.given) (Qb UE rfl Kh) ⟨rfl,rfl,by decide,by decide⟩ rfl (J8 (b:=⟨g3,1,cl (eI .i64) []⟩) rfl) ⟨by simp,h0⟩ XR ?_
 intro g4
 rw[Jf,Nat.zero_add,Jc]
 simp(maxSteps:=999999)(disch:=omega)only[go_sem,zA,zM,zS,zE,zL]
 rw[Int.toNat_natCast]
 have hown:Qy [some ⟨g1,1,cP p⟩,some ⟨g2,3,[.f (.int .i64 p.size), .own 2 g4 0 p.given.length none, .f (Uu eR p.rules)]⟩,some ⟨g4,1,cl (eI .i64) (p.given.set k 0)⟩] (.own 2 g4 0 p.given.length none) (p.given.set k 0) [2]:=by
  have:=Qy.o (H:=[some ⟨g1,1,cP p⟩,some ⟨g2,3,[.f (.int .i64 p.size), .own 2 g4 0 p.given.length none, .f (Uu eR p.rules)]⟩,some ⟨g4,1,cl (eI .i64) (p.given.set k 0)⟩]) 2 g4 none (p.given.set k 0) [] (by rw[Ju];exact J8 (b:=⟨g4,1,cl (eI .i64) (p.given.set k 0)⟩) rfl)
  rwa [Jo]at this
 have e1:∀H (x:Int),frzC H (.f (.int .i64 x))=some (.f (.int .i64 x)):=fun _ _=>rfl
 have e2:∀H (x:List Z0),frzC H (.f (Uu eR x))=some (.f (Uu eR x)):=fun _ _=>rfl
 refine Vc ?_
 show(([_,_,_]:List CV).mapM (frzC _)).map AV.agg=_
 simp only[J4,Qw,e1,e2,hown.frzC,Option.bind_eq_bind,Option.pure_def,Option.bind_some,Option.map_some]
 rfl
def JkE(p:Q4):Bool:=decide ((R4 p 2).length=1)
def redV(p:Q4)(k:Nat):Bool:=JB p&&(decide (k<p.given.length)&&(decide (0<JA p.given k)&&(JkE p&&JkE (woP p k))))
theorem Yc(p:Q4)(k:Nat)(hk:k≤2^40)(hx:Rf p):JW Tryz.prog 145 [aP p,int k] (bool (redV p k)):=by
 have h0:=hx.1
 unfold redV
 refine Jn.cw (c:=_) Tryz.func145 rfl (n:=33) Tryz.ntmps145 (rs:=[.tmp 4]) rfl ?_
 simp only[Je,Jf,zA,zS,Jd,Jb,Jc]
 simp(maxSteps:=999999)(disch:=omega)only[go_sem,zA,zM,zS,zE,zL]
 intro g1
 first|refine JZ.rd (Qh p hx) (⟨_,Tryz.func38,rfl,rfl⟩:Ji Tryz.prog 38) rfl rfl rfl rfl ?_|refine JK.rd (Qh p hx) (⟨_,Tryz.func38,rfl,rfl⟩:Ji Tryz.prog 38) rfl rfl rfl rfl ?_
 simp(maxSteps:=999999)(disch:=omega)only[go_sem,zA,zM,zS,zE,zL]
 cases hv:JB p with
 |false=>
  simp(maxSteps:=999999)(disch:=omega)only[go_sem,zA,zM,zS,zE,zL]
  rw[Bool.false_and]
 |true=>
  rw[Bool.true_and]
  simp(maxSteps:=999999)(disch:=omega)only[go_sem,zA,zM,zS,zE,zL]
  first|refine JZ.rd (Qz _ _ _) (⟨_,Tryz.func40,rfl,rfl⟩:Ji Tryz.prog 40) rfl rfl rfl rfl ?_|refine JK.rd (Qz _ _ _) (⟨_,Tryz.func40,rfl,rfl⟩:Ji Tryz.prog 40) rfl rfl rfl rfl ?_
  simp(maxSteps:=999999)(disch:=omega)only[go_sem,zA,zM,zS,zE,zL]
  by_cases h1:k<p.given.length
  · rw[decide_eq_true h1,Bool.true_and,decide_eq_true (show(0:Int)≤k∧(k:Int)≤p.given.length -1 by omega)]
    simp(maxSteps:=999999)(disch:=omega)only[go_sem,zA,zM,zS,zE,zL]
    by_cases h2:0<JA p.given k
    · rw[decide_eq_true h2,Bool.true_and]
      simp(maxSteps:=999999)(disch:=omega)only[go_sem,zA,zM,zS,zE,zL]
      first|refine JZ.rd (Wp p hx) (⟨_,Tryz.func144,rfl,rfl⟩:Ji Tryz.prog 144) rfl rfl rfl rfl ?_|refine JK.rd (Wp p hx) (⟨_,Tryz.func144,rfl,rfl⟩:Ji Tryz.prog 144) rfl rfl rfl rfl ?_
      simp(maxSteps:=999999)(disch:=omega)only[go_sem,zA,zM,zS,zE,zL]
      have e:decide ((R4 p 2).length=1)=JkE p:=rfl
      rw[e]
      cases JkE p with
      |false=>
       simp(maxSteps:=999999)(disch:=omega)only[go_sem,zA,zM,zS,zE,zL]
       rw[Bool.false_and]
      |true=>
       rw[Bool.true_and]
       simp(maxSteps:=999999)(disch:=omega)only[go_sem,zA,zM,zS,zE,zL]
       first|refine JZ.mk (Ky p k h1 hx) (⟨_,Tryz.func146,rfl,rfl⟩:Ji Tryz.prog 146) rfl rfl rfl rfl rfl ?_|refine JK.mk (Ky p k h1 hx) (⟨_,Tryz.func146,rfl,rfl⟩:Ji Tryz.prog 146) rfl rfl rfl rfl rfl ?_
       simp(maxSteps:=999999)(disch:=omega)only[go_sem,zA,zM,zS,zE,zL]
       first|refine JZ.rd (Wp (woP p k) (JhN hx)) (⟨_,Tryz.func144,rfl,rfl⟩:Ji Tryz.prog 144) rfl rfl rfl rfl ?_|refine JK.rd (Wp (woP p k) (JhN hx)) (⟨_,Tryz.func144,rfl,rfl⟩:Ji Tryz.prog 144) rfl rfl rfl rfl ?_
       simp(maxSteps:=999999)(disch:=omega)only[go_sem,zA,zM,zS,zE,zL]
       rfl
    · rw[decide_eq_false h2,Bool.false_and]
      simp(maxSteps:=999999)(disch:=omega)only[go_sem,zA,zM,zS,zE,zL]
  · rw[decide_eq_false h1,Bool.false_and,decide_eq_false (show¬((0:Int)≤k∧(k:Int)≤p.given.length -1) by omega)]
    simp(maxSteps:=999999)(disch:=omega)only[go_sem,zA,zM,zS,zE,zL]
theorem BD(r:Z0)(hx:r.cells.length≤2^40):JW Tryz.prog 150 [aR r] (aR r):=by
 obtain⟨k,cells,v⟩:=r
 simp only at hx
 refine JW.iced ?_
 have e1:∀H (x:Int),frzC H (.f (.int .i64 x))=some (.f (.int .i64 x)):=fun _ _=>rfl
 refine Jn.cw (c:=_) Tryz.func150 rfl (n:=11) Tryz.ntmps150 (rs:=[.cell 2 101]) rfl ?_
 simp only[Je,Jf,zA,zS,Jd,Jb,Jc]
 simp(maxSteps:=999999)(disch:=omega)only[go_sem,zA,zM,zS,zE,zL]
 intro g1 g2 g3 g4
 refine UV (E:=eI .i64) (xs:=[]) (ys:=cells) (Qb UE rfl Kh) ⟨rfl,rfl,by decide,by decide⟩ rfl (J8 (b:=⟨g4,1,cl (eI .i64) []⟩) rfl) ⟨by simp,hx⟩ XR ?_
 intro g5
 rw[Jf,Nat.zero_add,Jc]
 simp(maxSteps:=999999)(disch:=omega)only[go_sem,zA,zM,zS,zE,zL]
 have hown:∀H,look H 3 g5=some ⟨g5,1,cl (eI .i64) cells⟩→frzC H (.own 3 g5 0 cells.length none)=some (.f (J5 cells)):=fun H h=>(Qy.o (H:=H) 3 g5 none cells [] (by rw[Ju];exact h)).frzC
 refine Vc ?_
 show(([_,_,_]:List CV).mapM (frzC _)).map AV.agg=_
 have hown:=hown [some ⟨g1,1,cR ⟨k,cells,v⟩⟩,some ⟨g2,3,[.f (.int .i64 k), .own 3 g5 0 cells.length none, .f (.int .i64 v)]⟩,some ⟨g3,3,[.f (.int .i64 k), .own 3 g5 0 cells.length none, .f (.int .i64 v)]⟩,some ⟨g5,1,cl (eI .i64) cells⟩] (J8 (b:=⟨g5,1,cl (eI .i64) cells⟩) rfl)
 simp only[J4,Qw,e1,hown,Option.bind_eq_bind,Option.pure_def,Option.bind_some,Option.map_some]
theorem Jba{S:Nat→Bool}{H:Jm}{a b c a' b' c':CV}(h1:FF S H a a')(h2:FF S H b b')(h3:FF S H c c'):Jch S H (.agg [a,b,c]) (.agg [a',b',c']):= .o _ _ (Jbb h1 h2 h3)
theorem Jcv(H L:Jm):(H++L).take H.length=H:=by simp
theorem BF(H:Jm)(rc:CV)(rs:List Z0)(h:Zq eR 3 H rc rs)(hx:Jgf rs):Jn Tryz.prog 127 [.c rc] H (fun v H'=>v=Bl eR rs∧H'=H):=by
 obtain⟨hn,hc⟩:=hx
 refine Jn.iceS (Q':=fun v H'=>∃g,v= .c (.own H.length g 0 rs.length none)∧H'=H++[some ⟨g,3,cl eR rs⟩]) ?_ ?_
 rotate_left
 · rintro v H' ⟨g,rfl,rfl⟩
   refine⟨Z8 H.length,H,_,by have:=Xf (H++[some ⟨g,3,cl eR rs⟩]) H.length;rwa [Jcv]at this, .o _ _ (.c _ _ (KB ?_)),rfl,rfl⟩
   exact(Zq.o (E:=eR) (n:=3) H.length g rs JC).frzS (fun i hi=>by cases hi;simp[Z8]) 5
 cases h with
 |n=>
  refine Jn.cw (c:=_) Tryz.func127 rfl (n:=21) Tryz.ntmps127 (rs:=[.tmp 2]) rfl ?_
  simp only[Je,Jf,zA,zS,Jd,Jb,Jc]
  simp(maxSteps:=999999)(disch:=omega)only[go_sem,zA,zM,zS,zE,zL,Qf,Qm,QS,QF,Jt,Jb,Jc,Jk]
  intro g
  refine JY (fun i:Nat=>0) (fun i=>i=0) (fun i=>[.k, .a, .a, .p (.c (.own H.length g 0 0 none)), .p (int 0), .a, .a, .a, .a, .a, .a, .a, .a, .a, .a, .a, .a, .a, .a, .a, .a]) (fun i=>H++[some ⟨g,3,[]⟩]) 0 rfl (by simp(maxSteps:=999999)(disch:=omega)only[go_sem,zA,zM,zS,zE,zL]) (J0.refl _) ?_
  rintro i rfl
  simp(maxSteps:=999999)(disch:=omega)only[go_sem,zA,zM,zS,zE,zL,Qf,Qm,QS,QF,Jt,Jb,Jc,Jk,Y6]
  exact⟨_,J0.refl _,g,rfl,rfl⟩
 |m=>
  refine Jn.cw (c:=_) Tryz.func127 rfl (n:=21) Tryz.ntmps127 (rs:=[.tmp 2]) rfl ?_
  simp only[Je,Jf,zA,zS,Jd,Jb,Jc]
  simp(maxSteps:=999999)(disch:=omega)only[go_sem,zA,zM,zS,zE,zL,Qf,Qm,QS,QF,Jt,Jb,Jc,Jk]
  intro g
  refine JY (fun i:Nat=>0) (fun i=>i=0) (fun i=>[.k, .a, .a, .p (.c (.own H.length g 0 0 none)), .p (int 0), .a, .a, .a, .a, .a, .a, .a, .a, .a, .a, .a, .a, .a, .a, .a, .a]) (fun i=>H++[some ⟨g,3,[]⟩]) 0 rfl (by simp(maxSteps:=999999)(disch:=omega)only[go_sem,zA,zM,zS,zE,zL]) (J0.refl _) ?_
  rintro i rfl
  simp(maxSteps:=999999)(disch:=omega)only[go_sem,zA,zM,zS,zE,zL,Qf,Qm,QS,QF,Jt,Jb,Jc,Jk,Y6]
  exact⟨_,J0.refl _,g,rfl,rfl⟩
 |o id rg _ hl=>
  have hlX:∀L,look (H++L) id rg=some ⟨rg,3,cl eR rs⟩:=fun L=>JO hl
  have hrl:(cl eR rs).length=rs.length*3:=Qa rs
  refine Jn.cw (c:=_) Tryz.func127 rfl (n:=21) Tryz.ntmps127 (rs:=[.tmp 2]) rfl ?_
  simp only[Je,Jf,zA,zS,Jd,Jb,Jc]
  simp(maxSteps:=999999)(disch:=omega)only[go_sem,zA,zM,zS,zE,zL,Qf,Qm,QS,QF,Jt,Jb,Jc,Jk,hlX]
  intro g
  refine Qp (fun(i g:Nat)=>rs.length -i) (fun i g=>i≤rs.length) (fun i g=>[.k, .a, .a, .p (.c (.own H.length g 0 i none)), .p (int i), .a, .a, .a, .a, .a, .a, .a, .a, .a, .a, .a, .a, .a, .a, .a, .a]) (fun i g=>H++[some ⟨g,3,cl eR (rs.take i)⟩]) 0 g
   (Nat.zero_le _) (by simp(maxSteps:=999999)(disch:=omega)only[go_sem,zA,zM,zS,zE,zL];rfl) (J0.refl _) ?_
  intro i g hi
  simp(maxSteps:=999999)(disch:=omega)only[go_sem,zA,zM,zS,zE,zL,Qf,Qm,QS,QF,Jt,Jb,Jc,Jk,hlX]
  ((first|(with_reducible first|refine Jl ?_ ?_|refine Jj ?_ ?_|refine Jp ?_ ?_)|refine Jr ?_ ?_)<;>intro h)
  · have h:i<rs.length:=by omega
    have htl:(rs.take i).length=i:=by rw[JP];omega
    simp(maxSteps:=999999)(disch:=omega)only[go_sem,zA,zM,zS,zE,zL,Qf,Qm,QS,QF,Jt,Jb,Jc,Jk,hlX]
    first|refine JZ.mk (BD (JA rs i) (hc _ (ZP h))) (⟨_,Tryz.func150,rfl,rfl⟩:Ji Tryz.prog 150) rfl rfl rfl rfl rfl ?_|refine JK.mk (BD (JA rs i) (hc _ (ZP h))) (⟨_,Tryz.func150,rfl,rfl⟩:Ji Tryz.prog 150) rfl rfl rfl rfl rfl ?_
    simp(maxSteps:=999999)(disch:=omega)only[go_sem,zA,zM,zS,zE,zL]
    simp(maxSteps:=999999)(disch:=omega)only[go_sem,zA,zM,zS,zE,zL,Qf,Qm,QS,QF,Jt,Jb,Jc,Jk]
    intro g1
    refine UV (E:=eR) (xs:=rs.take i) (ys:=[JA rs i]) (Qb Jd5 rfl GI) ⟨rfl,rfl,by decide,by decide⟩ htl (by rw[Qm];exact US) ⟨by omega,by simp⟩ (Fw (xs:=[JA rs i]) (by rw[Qf];exact J8 (b:=⟨g1,3,cl eR [JA rs i]⟩) rfl)) ?_
    intro g2
    simp(maxSteps:=999999)(disch:=omega)only[go_sem,zA,zM,zS,zE,zL,Qf,Qm,QS,QF,Jt,Jb,Jc,Jk]
    refine⟨i+1,g2,⟨by omega,by omega⟩,⟨⟨rfl,rfl⟩,by push_cast;omega⟩, ?_⟩
    rw[Qg h]
    have:=J0.app (H++[some ⟨g2,3,cl eR (rs.take i++[JA rs i])⟩]) [some ⟨g1,3,cR (JA rs i)⟩]
    rwa [Jt]at this
  · have hi':i=rs.length:=by omega
    subst hi'
    simp(maxSteps:=999999)(disch:=omega)only[go_sem,zA,zM,zS,zE,zL]
    rw[List.take_length]
    exact⟨_,J0.refl _,g,rfl,rfl⟩
theorem Gp(H:Jm)(z:Int)(gid gg:Nat)(zs:List Int)(rc:CV)(rs:List Z0)(hg:look H gid gg=some ⟨gg,1,cl (eI .i64) zs⟩)(hr:Zq eR 3 H rc rs)(hz:zs.length≤2^40)(hx:Jgf rs):
 Jn Tryz.prog 98 [.agg [.f (.int .i64 z), .own gid gg 0 zs.length none,rc]] H (fun v H'=>v=aP ⟨z,zs,rs⟩∧H'=H):=by
 have hgX:∀L,look (H++L) gid gg=some ⟨gg,1,cl (eI .i64) zs⟩:=fun L=>JO hg
 refine Jn.iceS (Q':=fun v H'=>∃c L,v= .agg [.f (.int .i64 z),c, .f (Uu eR rs)]∧frzS (Z8 H.length) H' 6 c=some (J5 zs)∧H'=H++L) ?_ ?_
 rotate_left
 · rintro v H' ⟨c,L,rfl,h1,rfl⟩
   exact⟨Z8 H.length,H,_,by have:=Xf (H++L) H.length;rwa [Jcv]at this,Jba KA (KB h1) KA,rfl,rfl⟩
 refine Jn.cw (c:=_) Tryz.func98 rfl (n:=15) Tryz.ntmps98 (rs:=[.cell 2 26]) rfl ?_
 simp only[Je,Jf,zA,zS,Jd,Jb,Jc]
 simp(maxSteps:=999999)(disch:=omega)only[go_sem,zA,zM,zS,zE,zL,Qf,Qm,QS,QF,Jt,Jb,Jc,Jk,hgX]
 intro g1 g2 g3 g4
 refine UV (E:=eI .i64) (xs:=[]) (ys:=zs) (Qb UE rfl Kh) ⟨rfl,rfl,by decide,by decide⟩ rfl (by rw[Qf];exact J8 (b:=⟨g4,1,cl (eI .i64) []⟩) rfl) ⟨by simp,hz⟩ (Fw (hgX _)) ?_
 intro g5
 rw[Jf,Nat.zero_add,Jc]
 simp(maxSteps:=999999)(disch:=omega)only[go_sem,zA,zM,zS,zE,zL,Qf,Qm,QS,QF,Jt,Jb,Jc,Jk,hgX]
 refine JZ.run (BF _ rc rs hr.app hx) (⟨_,Tryz.func127,rfl,rfl⟩:Ji Tryz.prog 127) rfl rfl ?_
 rintro _ _ ⟨rfl,rfl⟩
 simp(maxSteps:=999999)(disch:=omega)only[go_sem,zA,zM,zS,zE,zL,Qf,Qm,QS,QF,Jt,Jb,Jc,Jk,hgX]
 refine⟨_,J0.refl _,_,_,rfl, ?_,rfl⟩
 have:=Rb (S:=Z8 H.length) (lim:=none) (n:=zs.length) (off:=0) (zs:=zs) (id:=H.length+3) (g:=g5) (H:=H++[some ⟨g1,1,[.f (.int .i64 z), .own gid gg 0 zs.length none,rc]⟩,some ⟨g2,3,[.f (.int .i64 z), .own (H.length+3) g5 0 zs.length none, .f (Uu eR rs)]⟩,some ⟨g3,3,[.f (.int .i64 z), .own (H.length+3) g5 0 zs.length none, .f (Uu eR rs)]⟩,some ⟨g5,1,cl (eI .i64) zs⟩]) (by rw[Qf];exact J8 (b:=⟨g5,1,cl (eI .i64) zs⟩) rfl) (by simp[Z8]) (by omega) 5
 rw[JR,List.take_length]at this
 exact this
def PzO(H:Jm)(n0:Nat)(z:Int)(gc rc:CV)(zs:List Int)(rs:List Z0):Prop:=∃gid gg,gc= .own gid gg 0 zs.length none∧look H gid gg=some ⟨gg,1,cl (eI .i64) zs⟩∧n0≤gid∧Zq eR 3 H rc rs∧(∀i,QJ rc i→n0≤i∧i≠gid)
theorem PzO.snap{H:Jm}{n0:Nat}{z:Int}{gc rc:CV}{zs:List Int}{rs:List Z0}(h:PzO H n0 z gc rc zs rs):Zx H (.agg [.f (.int .i64 z),gc,rc])=some (aP ⟨z,zs,rs⟩):=by
 obtain⟨gid,gg,rfl,h1,_,h2,_⟩:=h
 have e1:∀x:Int,frzC H (.f (.int .i64 x))=some (.f (.int .i64 x)):=fun _=>rfl
 have e2:=(Qy.o (H:=H) gid gg none zs [] (by rw[Ju];exact h1)).frzC
 simp only[Zx,J4,Qw,e1,e2,h2.frzC,Option.bind_eq_bind,Option.pure_def,Option.bind_some,Option.map_some]
theorem PzO.same{H H':Jm}{n0:Nat}{z:Int}{gc rc:CV}{zs:List Int}{rs:List Z0}(h:PzO H n0 z gc rc zs rs)(hs:∀i,n0≤i→(QJ gc i∨QJ rc i)→i<H.length→H'[i]? =H[i]?):PzO H' n0 z gc rc zs rs:=by
 obtain⟨gid,gg,rfl,h1,h2,h3,h4⟩:=h
 exact⟨gid,gg,rfl,by unfold look at*;rw[hs gid h2 (.inl rfl) (Jh.1 (JG h1).1).1];exact h1,h2,h3.same fun i hi hl=>hs i (h4 i hi).1 (.inr hi) hl,h4⟩
theorem Jeo{p:Q4}(hv:JB p=true):Zk p.given p.size.toNat∧4≤p.given.length∧p.given.length≤16:=by
 obtain⟨hp,hz⟩:=Ux.of hv
 have hg:=Zk.of hp.hn (xs:=p.given) (by rw[hz];exact UH hv)
 have hsq:4≤p.size.toNat*p.size.toNat∧p.size.toNat*p.size.toNat≤16:=by
  have:=hp.hn
  rcases this with h|h|h<;>rw[h]<;>omega
 have:=hg.len
 exact⟨hg,by omega,by omega⟩
theorem PzO.n0{H:Jm}{n0 n1:Nat}{z:Int}{gc rc:CV}{zs:List Int}{rs:List Z0}(h:PzO H n0 z gc rc zs rs)(hn:n1≤n0):PzO H n1 z gc rc zs rs:=by
 obtain⟨gid,gg,rfl,h1,h2,h3,h4⟩:=h
 exact⟨gid,gg,rfl,h1,by omega,h3,fun i hi=>⟨by have:=(h4 i hi).1;omega,(h4 i hi).2⟩⟩
end Go.Lg

namespace Go.Lg
open Go.Proofs
attribute [-go_sem] J9 Jv
structure Gg(H HI:Jm)(id g:Nat)(B:Int)(R n g4 cid cg J g7:Nat):Prop where
 out:look HI H.length g4=some ⟨g4,3,[.f (.int .i64 0), .f .nil, .f .nil]⟩
 grid:∃zs:List Int,look HI cid cg=some ⟨cg,1,cl (eI .i64) zs⟩∧n*n≤zs.length
 ex:∃z gc rc zs rs,look HI J g7=some ⟨g7,3,[.f (.int .i64 z),gc,rc]⟩∧PzO HI (H.length+1) z gc rc zs rs∧¬QJ gc J∧¬QJ rc J∧¬QJ gc cid∧¬QJ rc cid∧zs.length=n*n∧WP rs R 5
 rd:Zm HI id g B
 lt:id<H.length
 ln:H.length<cid∧cid<HI.length∧H.length<J∧J<HI.length∧cid≠J
 frm:∀k,k<H.length→k≠id→HI[k]? =H[k]?
section
variable{H HI H2:Jm}{id g R R' n g4 cid cg J g7:Nat}{B B':Int}
theorem Gg.mono(h:Gg H HI id g B R n g4 cid cg J g7)(hb:B≤B'):Gg H HI id g B' R n g4 cid cg J g7:={h with rd:=h.rd.mono hb}
theorem Gg.wid(h:Gg H HI id g B R n g4 cid cg J g7)(hb:R≤R'):Gg H HI id g B R' n g4 cid cg J g7:=by
 obtain⟨z,gc,rc,zs,rs,h1,h2,h3,h4,h5,h6,h7,h8,h9⟩:=h.ex
 exact{h with ex:=⟨z,gc,rc,zs,rs,h1,h2,h3,h4,h5,h6,h7,by omega,h9⟩}
theorem Gg.step(h:Gg H HI id g B R n g4 cid cg J g7)(hs:∀i,H.length≤i→i<HI.length→H2[i]? =HI[i]?)(hl:HI.length≤H2.length)(hr:Zm H2 id g B')(hf:∀k,k<H.length→k≠id→H2[k]? =HI[k]?):Gg H H2 id g B' R n g4 cid cg J g7:=by
 have hn:=h.ln
 have hL:∀i g,H.length≤i→i<HI.length→look H2 i g=look HI i g:=fun i g h1 h2=>by unfold look;rw[hs i h1 h2]
 obtain⟨ys,g1,g2⟩:=h.grid
 obtain⟨z,gc,rc,zs,rs,h1,h2,h3⟩:=h.ex
 exact{out:=by rw[hL _ _ (Nat.le_refl _) (by omega)];exact h.out
       grid:=⟨ys,by rw[hL _ _ (by omega) (by omega)];exact g1,g2⟩
       ex:=⟨z,gc,rc,zs,rs,by rw[hL _ _ (by omega) (by omega)];exact h1,h2.same fun i hi _ hl=>hs i (by omega) hl,h3⟩
       rd:=hr,lt:=h.lt,ln:=by omega
       frm:=fun k hk hne=>by rw[hf k hk hne];exact h.frm k hk hne}
theorem Gg.pick(h:Gg H HI id g B R n g4 cid cg J g7)(hr:Zm H2 id g B')(hf:Vi HI H2 [id]):Gg H H2 id g B' R n g4 cid cg J g7:=by
 have hl:=h.lt
 exact h.step (fun i hi _=>hf.2 i (by simp;omega)) (by rw[hf.1];exact Nat.le_refl _) hr fun k hk hne=>hf.2 k (by simpa using hne)
theorem Gg.app{X:Jm}(h:Gg H HI id g B R n g4 cid cg J g7):Gg H (HI++X) id g B R n g4 cid cg J g7:=by
 have hn:=h.ln
 exact h.step (fun i _ hi=>Ja hi) (by simp) h.rd.app fun k hk _=>Ja (by omega)
end
theorem Gg.rule{H HI H6:Jm}{id g R n g4 cid cg J g7 R':Nat}{B B' z:Int}{gc rc c':CV}{zs:List Int}{rs rs':List Z0}(h:Gg H HI id g B R n g4 cid cg J g7)
 (w1:look HI J g7=some ⟨g7,3,[.f (.int .i64 z),gc,rc]⟩) (w2:PzO HI (H.length+1) z gc rc zs rs) (w3:¬QJ gc J) (w4:¬QJ rc J) (w5:¬QJ gc cid) (w6:¬QJ rc cid) (w7:zs.length=n*n)
 (hs:∀i,H.length≤i→i<HI.length→¬QJ rc i→H6[i]? =HI[i]?) (hlow:∀k,k<H.length→k≠id→H6[k]? =HI[k]?) (hrd:Zm H6 id g B') (hl:HI.length≤H6.length) (hL:Zq eR 3 H6 c' rs') (hids:∀k,QJ c' k→QJ rc k∨HI.length≤k) (hsm:WP rs' R' 5):
 Gg H (H6.set J (some ⟨g7,3,[.f (.int .i64 z),gc,c']⟩)) id g B' R' n g4 cid cg J g7:=by
 have hln:=h.ln
 have hlt:=h.lt
 obtain⟨gid,gg,rfl,p1,p2,p3,p4⟩:=w2
 have hgl:gid<HI.length:=(Jh.1 (JG p1).1).1
 have hS:∀i g,H.length≤i→i<HI.length→¬QJ rc i→i≠J→look (H6.set J (some ⟨g7,3,[.f (.int .i64 z), .own gid gg 0 zs.length none,c']⟩)) i g=look HI i g:=fun i g a b c d=>by
  unfold look
  rw[Jg (Ne.symm d),hs i a b c]
 have hrcl:∀k,QJ rc k→k<HI.length:=p3.lt
 obtain⟨gz,gz1,gz2⟩:=h.grid
 exact{out:=by rw[hS _ _ (Nat.le_refl _) (by omega) (fun hh=>by have:=(p4 _ hh).1;omega) (by omega)];exact h.out
       grid:=⟨gz,by rw[hS _ _ (by omega) (by omega) w6 (by omega)];exact gz1,gz2⟩
       ex:=⟨z, .own gid gg 0 zs.length none,c',zs,rs',JM (by omega),⟨gid,gg,rfl,by rw[hS _ _ (by omega) hgl (fun hh=>(p4 _ hh).2 rfl) (fun hh=>w3 (by rw[←hh];rfl))];exact p1,p2,
        hL.same (fun i hi _=>by
         rw[Jg (fun hh=>by
          subst hh
          rcases hids _ hi with hh|hh
          · exact w4 hh
          · omega)]),fun i hi=>by
         rcases hids i hi with hh|hh
         · exact p4 i hh
         · omega⟩,w3,fun hh=>by
        rcases hids _ hh with hh|hh
        · exact w4 hh
        · omega,w5,fun hh=>by
        rcases hids _ hh with hh|hh
        · exact w6 hh
        · omega,w7,hsm⟩
       rd:=hrd.same (by rw[Jg (by omega)])
       lt:=hlt
       ln:=by rw[Jo];omega
       frm:=fun k hk hne=>by rw[Jg (by omega),hlow k hk hne];exact h.frm k hk hne}
theorem Gg.put{H HI H6:Jm}{id g R n g4 cid cg J g7 R':Nat}{B B' z:Int}{gc rc:CV}{zs:List Int}{rs:List Z0}(h:Gg H HI id g B R n g4 cid cg J g7)
 (w2:PzO H6 HI.length z gc rc zs rs) (w7:zs.length=n*n)
 (hs:∀i,H.length≤i→i<HI.length→H6[i]? =HI[i]?) (hlow:∀k,k<H.length→k≠id→H6[k]? =HI[k]?) (hrd:Zm H6 id g B') (hl:HI.length≤H6.length) (hsm:WP rs R' 5):
 Gg H (H6.set J (some ⟨g7,3,[.f (.int .i64 z),gc,rc]⟩)) id g B' R' n g4 cid cg J g7:=by
 have hln:=h.ln
 have hlt:=h.lt
 have hS:∀i g,H.length≤i→i<HI.length→i≠J→look (H6.set J (some ⟨g7,3,[.f (.int .i64 z),gc,rc]⟩)) i g=look HI i g:=fun i g a b d=>by
  unfold look
  rw[Jg (Ne.symm d),hs i a b]
 obtain⟨gz,gz1,gz2⟩:=h.grid
 have hno:∀i,i<HI.length→¬QJ gc i∧¬QJ rc i:=fun i hi=>by
  obtain⟨gid,gg,rfl,p1,p2,p3,p4⟩:=w2
  exact⟨fun hh=>by simp only[QJ]at hh;omega,fun hh=>by have:=(p4 i hh).1;omega⟩
 exact{out:=by rw[hS _ _ (Nat.le_refl _) (by omega) (by omega)];exact h.out
       grid:=⟨gz,by rw[hS _ _ (by omega) (by omega) (by omega)];exact gz1,gz2⟩
       ex:=⟨z,gc,rc,zs,rs,JM (by omega),(w2.same fun i hi _ _=>by rw[Jg (by omega)]).n0 (by omega),(hno _ (by omega)).1,(hno _ (by omega)).2,(hno _ (by omega)).1,(hno _ (by omega)).2,w7,hsm⟩
       rd:=hrd.same (by rw[Jg (by omega)])
       lt:=hlt
       ln:=by rw[Jo];omega
       frm:=fun k hk hne=>by rw[Jg (by omega),hlow k hk hne];exact h.frm k hk hne}
theorem Gg.giv{H HI:Jm}{id g R n g4 cid cg J g7 gid gg:Nat}{B z:Int}{rc:CV}{zs:List Int}{rs:List Z0}(h:Gg H HI id g B R n g4 cid cg J g7)
 (w1:look HI J g7=some ⟨g7,3,[.f (.int .i64 z), .own gid gg 0 zs.length none,rc]⟩) (w2:PzO HI (H.length+1) z (.own gid gg 0 zs.length none) rc zs rs) (w3:¬QJ (.own gid gg 0 zs.length none) J) (w4:¬QJ rc J) (w5:¬QJ (.own gid gg 0 zs.length none) cid) (w6:¬QJ rc cid) (w7:zs.length=n*n) (w8:WP rs R 5) (k:Nat) (v:Int):
 Gg H (HI.set gid (some ⟨gg,1,cl (eI .i64) (zs.set k v)⟩)) id g B R n g4 cid cg J g7:=by
 have hln:=h.ln
 have hlt:=h.lt
 obtain⟨gid',gg',he,p1,p2,p3,p4⟩:=w2
 cases he
 have hgl:gid<HI.length:=(Jh.1 (JG p1).1).1
 simp only[QJ]at w3 w5
 have hS:∀i g,i≠gid→look (HI.set gid (some ⟨gg,1,cl (eI .i64) (zs.set k v)⟩)) i g=look HI i g:=fun i g d=>J6 (Ne.symm d)
 obtain⟨gz,gz1,gz2⟩:=h.grid
 exact{out:=by rw[hS _ _ (by omega)];exact h.out
       grid:=⟨gz,by rw[hS _ _ (by omega)];exact gz1,gz2⟩
       ex:=⟨z,_,rc,zs.set k v,rs,by rw[hS _ _ (by omega)];exact w1,⟨gid,gg,by rw[Jo],JM hgl,p2,p3.same fun i hi _=>by rw[Jg (Ne.symm (p4 i hi).2)],p4⟩,fun hh=>by simp only[QJ]at hh;omega,w4,fun hh=>by simp only[QJ]at hh;omega,w6,by rw[Jo];exact w7,w8⟩
       rd:=h.rd.same (by rw[Jg (by omega)])
       lt:=hlt
       ln:=by rw[Jo];omega
       frm:=fun k hk hne=>by rw[Jg (by omega)];exact h.frm k hk hne}
structure PzF(H HI:Jm)(id g:Nat)(B:Int)(g4 J g7:Nat):Prop where
 out:look HI H.length g4=some ⟨g4,3,[.f (.int .i64 0), .f .nil, .f .nil]⟩
 ex:∃z gc rc zs rs,look HI J g7=some ⟨g7,3,[.f (.int .i64 z),gc,rc]⟩∧(∀H':Jm,(∀i,H.length<i→i<HI.length→H'[i]? =HI[i]?)→frzS (Z8 H.length) H' 6 gc=some (J5 zs)∧frzS (Z8 H.length) H' 6 rc=some (Uu eR rs))∧zs.length≤16∧WP rs 30 5
 rd:Zm HI id g B
 lt:id<H.length
 ln:H.length<J∧J<HI.length
 frm:∀k,k<H.length→k≠id→HI[k]? =H[k]?
theorem Ra{H H' HI:Jm}{gid gg:Nat}{zs:List Int}(p1:look HI gid gg=some ⟨gg,1,cl (eI .i64) zs⟩)(h0:H.length<gid)(hs:∀i,H.length<i→i<HI.length→H'[i]? =HI[i]?){off k:Nat}(hk:off+k≤zs.length):frzS (Z8 H.length) H' 6 (.own gid gg off k none)=some (J5 ((zs.drop off).take k)):=
 Rb (by unfold look at p1⊢;rw[hs gid h0 (Jh.1 (JG p1).1).1];exact p1) (by simp[Z8];omega) hk 5
theorem NL{H H' HI:Jm}{rc:CV}{rs:List Z0}(p3:Zq eR 3 HI rc rs)(h0:∀i,QJ rc i→H.length<i)(hs:∀i,H.length<i→i<HI.length→H'[i]? =HI[i]?):frzS (Z8 H.length) H' 6 rc=some (Uu eR rs):=
 (p3.same fun i hi hl=>hs i (h0 i hi) hl).frzS (fun i hi=>by have:=h0 i hi;simp[Z8];omega) 5
theorem JkH(k:Nat):(fl eRo (Jd k none)).map Fh=fl eR (Jd k ⟨0,[],0⟩):=by
 induction k with
 |zero=>rfl
 |succ k ih=>
  rw[List.replicate_succ,List.replicate_succ]
  show[Fh _,Fh _,Fh _]++(fl eRo (Jd k none)).map Fh=_
  rw[ih]
  rfl
theorem JkX{S:Nat→Bool}{H:Jm}{id g k:Nat}(h:look H id g=some ⟨g,3,cl eRo (Jd k none)⟩)(hS:S id=true):frzS S H 6 (.own id g 0 k none)=some (Uu eR (Jd k ⟨0,[],0⟩)):=by
 have hl:(cl eRo (Jd k (none:Option Z0))).length=k*3:=by rw[Qa];simp
 simp only[Lg.frzS,hS,if_true,h,JR,Js (Nat.le_of_eq hl)]
 rw[show cl eRo (Jd k (none:Option Z0))=(fl eRo (Jd k none)).map CV.f from rfl,Xu,JkH,Option.map_some]
 rw[Uu,QG]
theorem Gg.fin{H HI:Jm}{id g R n g4 cid cg J g7:Nat}{B B':Int}(h:Gg H HI id g B R n g4 cid cg J g7)(hn:n*n≤16)(hR:R≤30)(hb:B≤B'):PzF H HI id g B' g4 J g7:=by
 obtain⟨z,gc,rc,zs,rs,w1,⟨gid,gg,rfl,p1,p2,p3,p4⟩,w3,w4,w5,w6,w7,w8,w9⟩:=h.ex
 have hln:=h.ln
 exact{out:=h.out
       ex:=⟨z,_,rc,zs,rs,w1,fun H' hs=>⟨by have:=Ra p1 (by omega) hs (off:=0) (k:=zs.length) (by omega);rwa [JR,List.take_length]at this,NL p3 (fun i hi=>by have:=(p4 i hi).1;omega) hs⟩,by omega,by omega,w9⟩
       rd:=h.rd.mono hb,lt:=h.lt,ln:=by omega,frm:=h.frm}
theorem Jhg{H:Jm}{id g k:Nat}{lim:Option Nat}{zs:List Int}(h:look H id g=some ⟨g,1,cl (eI .i64) zs⟩)(hk:k≤zs.length):elems H 1 (.c (.own id g 0 k lim))=some (k,cl (eI .i64) (zs.take k)):=by
 have e:(cl (eI .i64) zs).take (k*1)=cl (eI .i64) (zs.take k):=by
  rw[Nat.mul_one]
  have:=Q8 k zs
  conv=>lhs;rw[←this,Q6]
  rw[List.take_append_of_le_length (by rw[Qa];simp;omega),Js (by rw[Qa];simp;omega)]
 simp only[elems,h,if_true,JR,e]
end Go.Lg
