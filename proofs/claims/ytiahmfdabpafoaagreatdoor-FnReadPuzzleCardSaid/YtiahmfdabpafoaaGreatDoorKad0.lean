/- GpGD, cut to what is needed. -/
import Derived.Test.YtiahmfdabpafoaaGreatDoorKac9
import Derived.Test.YtiahmfdabpafoaaGreatDoorKab5
open List renaming getElem?_eq_some_iff → Ja, getElem?_append_left → Jb, cons_append → Jc, nil_append → Jd, length_append → Je, length_cons → Jf, replicate → Jg, getElem?_set_ne → Jj, length_nil → Jl, take_of_length_le → Jn, append_assoc → Js, length_set → Jt, append_nil → Jv, mapM_cons → Jz, length_take → JA, drop_zero → JB, getElem?_append_right → JN, getElem?_set_self → J0, mapM_nil → Qa
open Nat renaming reduceAdd→zA,reduceMul→zM,reduceSub→zS,reduceEqDiff→zE,reduceLeDiff→zL
set_option linter.unusedSimpArgs false
set_option linter.unusedVariables false
set_option maxRecDepth 100000
namespace Go.Lg
open Go.Proofs
theorem WJ(xs:List Int)(n:Int)(hx:xs.length≤2^40):Qd Tryz.prog 56 [ZY xs,int n] (int (ZR xs n)):=by
 refine Jq.cw (c:=_) Tryz.func56 rfl (n:=25) Tryz.ntmps56 (rs:=[.tmp 4]) rfl ?_
 simp only[Jf,Jl,zA,zS,Jg,Jc,Jd]
 simp(maxSteps:=999999)(disch:=omega)only[go_sem,zA,zM,zS,zE,zL]
 first|refine Qh.rd (Q4 xs n hx) (⟨_,Tryz.func22,rfl,rfl⟩:Jm Tryz.prog 22) rfl rfl rfl rfl ?_|refine Qe.rd (Q4 xs n hx) (⟨_,Tryz.func22,rfl,rfl⟩:Jm Tryz.prog 22) rfl rfl rfl rfl ?_
 simp(maxSteps:=999999)(disch:=omega)only[go_sem,zA,zM,zS,zE,zL]
 ((first|(with_reducible first|refine Jo ?_ ?_|refine Jk ?_ ?_|refine Jp ?_ ?_)|refine Jr ?_ ?_)<;>intro hv)
 rotate_left
 · simp(maxSteps:=999999)(disch:=omega)only[go_sem,zA,zM,zS,zE,zL]
   unfold ZR
   rw[if_neg (by rw[hv];simp)]
 have hg:ZR xs n=(xs.countP fun v=>decide (0<v):Nat):=by unfold ZR;rw[if_pos hv]
 rw[hg]
 simp(maxSteps:=999999)(disch:=omega)only[go_sem,zA,zM,zS,zE,zL]
 refine Qw (fun k:Nat=>xs.length -k) (fun k=>k≤xs.length) (fun k=>[.k, .a, .a, .a, .a, .p (int ((xs.take k).countP fun v=>decide (0<v):Nat)), .p (int k), .a, .a, .a, .a, .a, .a, .a, .a, .a, .a, .a, .a, .a, .a, .a, .a, .a, .a]) (fun _=>[]) 0 (Nat.zero_le _) (by simp(maxSteps:=999999)(disch:=omega)only[go_sem,zA,zM,zS,zE,zL];exact⟨by simp,rfl⟩) (J8 _) ?_
 intro k hk
 have hc:=FN xs (fun v=>decide (0<v)) k
 simp(maxSteps:=999999)(disch:=omega)only[go_sem,zA,zM,zS,zE,zL]
 ((first|(with_reducible first|refine Jo ?_ ?_|refine Jk ?_ ?_|refine Jp ?_ ?_)|refine Jr ?_ ?_)<;>intro c1)
 · have c1:k<xs.length:=by omega
   have hs:=K1 (f:=fun v=>decide (0<v)) c1
   simp(maxSteps:=999999)(disch:=omega)only[go_sem,zA,zM,zS,zE,zL]
   ((first|(with_reducible first|refine Jo ?_ ?_|refine Jk ?_ ?_|refine Jp ?_ ?_)|refine Jr ?_ ?_)<;>intro c2)
   · rw[decide_eq_true c2,if_pos rfl]at hs
     simp(maxSteps:=999999)(disch:=omega)only[go_sem,zA,zM,zS,zE,zL]
     refine⟨k+1,⟨by omega,by omega⟩,⟨by rw[hs];push_cast;omega,by push_cast;omega⟩,J8 _⟩
   · rw[decide_eq_false c2,if_neg (by simp)]at hs
     simp(maxSteps:=999999)(disch:=omega)only[go_sem,zA,zM,zS,zE,zL]
     refine⟨k+1,⟨by omega,by omega⟩,⟨by rw[hs];rfl,by push_cast;omega⟩,J8 _⟩
 · have hke:k=xs.length:=by omega
   simp(maxSteps:=999999)(disch:=omega)only[go_sem,zA,zM,zS,zE,zL]
   rw[hke,List.take_length]
def FX(p:Zk)(xs:List Int):Bool:=(JE p&&(J9 xs p.size&&UJ p xs p.size.toNat))&&decide (ZR xs p.size=xs.length)
theorem Yr(p:Zk)(xs:List Int)(hx:BD p)(hl:xs.length≤2^40):Qd Tryz.prog 39 [aP p,ZY xs] (bool (FX p xs)):=by
 refine Jq.cw (c:=_) Tryz.func39 rfl (n:=17) Tryz.ntmps39 (rs:=[.tmp 4]) rfl ?_
 simp only[Jf,Jl,zA,zS,Jg,Jc,Jd]
 simp(maxSteps:=999999)(disch:=omega)only[go_sem,zA,zM,zS,zE,zL]
 intro g
 first|refine Qh.rd (Uc p xs hx hl) (⟨_,Tryz.func55,rfl,rfl⟩:Jm Tryz.prog 55) rfl rfl rfl rfl ?_|refine Qe.rd (Uc p xs hx hl) (⟨_,Tryz.func55,rfl,rfl⟩:Jm Tryz.prog 55) rfl rfl rfl rfl ?_
 simp(maxSteps:=999999)(disch:=omega)only[go_sem,zA,zM,zS,zE,zL]
 unfold FX
 cases JE p&&(J9 xs p.size&&UJ p xs p.size.toNat)with
 |false=>
  simp(maxSteps:=999999)(disch:=omega)only[go_sem,zA,zM,zS,zE,zL]
  rw[Bool.false_and]
 |true=>
  simp(maxSteps:=999999)(disch:=omega)only[go_sem,zA,zM,zS,zE,zL]
  first|refine Qh.rd (WJ xs p.size hl) (⟨_,Tryz.func56,rfl,rfl⟩:Jm Tryz.prog 56) rfl rfl rfl rfl ?_|refine Qe.rd (WJ xs p.size hl) (⟨_,Tryz.func56,rfl,rfl⟩:Jm Tryz.prog 56) rfl rfl rfl rfl ?_
  simp(maxSteps:=999999)(disch:=omega)only[go_sem,zA,zM,zS,zE,zL]
attribute [-go_sem] Qg JP
theorem J3(H L:Ji)(n g:Nat):look (H++L) (H.length+n) g=look L n g:=by
 unfold look
 rw[JN (by omega),Nat.add_sub_cancel_left]
theorem Qi(H L:Ji)(g:Nat):look (H++L) H.length g=look L 0 g:=J3 H L 0 g
theorem QE(H L:Ji)(n:Nat)(x:Option ZG):(H++L).set (H.length+n) x=H++L.set n x:=by
 rw[List.set_append_right _ _ (by omega),Nat.add_sub_cancel_left]
theorem Qr(H L:Ji)(x:Option ZG):(H++L).set H.length x=H++L.set 0 x:=QE H L 0 x
theorem Uk{α:Type}{E:α→List FV}{n:Nat}[HSz E n]{P:Program}{H:Ji}{t:TypeId}{ei:TI}{K:KV}(ht:QJ P t=some ei)(hz:ei.zero.length=ei.size∧ei.size=n∧0<n∧ei.bytes≤64){id g k:Nat}{xs ys:List α}(hxk:xs.length=k)(hl:look H id g=some ⟨g,n,cl E xs⟩)(hx:xs.length≤2^40∧ys.length≤2^40)
 {src:AV} (hel:elems H n src=some (ys.length,cl E ys)) (hk:∀g',K (.c (.own id g' 0 (k+ys.length) none)) (H.set id (some ⟨g',n,cl E (xs++ys)⟩))):Qg P H t (.c (.own id g 0 k none)) src K:=by
 subst hxk
 obtain⟨hz1,rfl,hz3,hz4⟩:=hz
 have hcl:(cl E xs).length=xs.length*ei.size:=Qb xs
 have hel2:elems H ei.size (.c (.own id g 0 xs.length none))=some (xs.length,cl E xs):=by
  simp only[elems,hl,JB,if_true,Jn (Nat.le_of_eq hcl)]
 have hb:(xs.length+ys.length)*ei.bytes≤140737488355328:=by
  have:(xs.length+ys.length)*ei.bytes≤(xs.length+ys.length)*64:=Nat.mul_le_mul_left _ hz4
  omega
 unfold Qg
 simp only[ht,hz1,if_true,hel,hel2]
 simp only[VI,hl,hcl,if_true,W0]
 split
 · rename_i h0
   have:ys=[]:=List.eq_nil_of_length_eq_zero h0
   subst this
   have h1:=hk g
   rw[Jv]at h1
   have h2:H.set id (some ⟨g,ei.size,cl E xs⟩)=H:=by
    obtain⟨q1,_⟩:=Jw hl
    have hlt:=(Ja.1 q1).1
    refine List.ext_getElem? fun i=> ?_
    by_cases hi:i=id
    · subst hi;rw[J0 hlt,q1]
    · rw[Jj (Ne.symm hi)]
   rw[h2]at h1
   exact h1
 refine⟨⟨trivial,hz3,trivial,by omega,hb⟩,fun g'=> ?_⟩
 have:=hk g'
 rw[QP]at this
 exact this
theorem K6{α:Type}{E:α→List FV}{n:Nat}[HSz E n]{P:Program}{H:Ji}{t:TypeId}{ei:TI}{K:KV}(ht:QJ P t=some ei)(hz:ei.zero.length=ei.size∧ei.size=n∧0<n∧ei.bytes≤64){ys:List α}(hx:0<ys.length∧ys.length≤2^40)
 {src:AV} (hel:elems H n src=some (ys.length,cl E ys)) (hk:∀g',K (.c (.own H.length g' 0 ys.length none)) (H++[some ⟨g',n,cl E ys⟩])):Qg P H t (.c .emp) src K:=by
 obtain⟨hz1,rfl,hz3,hz4⟩:=hz
 have hb:ys.length*ei.bytes≤140737488355328:=by
  have:ys.length*ei.bytes≤ys.length*64:=Nat.mul_le_mul_left _ hz4
  omega
 unfold Qg
 simp only[ht,hz1,if_true,hel]
 simp only[elems,VI,W0,Yz]
 rw[if_neg (by omega)]
 exact⟨⟨by omega,hb⟩,hk⟩
theorem Ky{α:Type}{E:α→List FV}{n:Nat}[HSz E n]{H:Ji}{id g:Nat}{lim:Option Nat}{xs:List α}(hl:look H id g=some ⟨g,n,cl E xs⟩):elems H n (.c (.own id g 0 xs.length lim))=some (xs.length,cl E xs):=by
 have hcl:(cl E xs).length=xs.length*n:=Qb xs
 simp only[elems,hl,JB,if_true,Jn (Nat.le_of_eq hcl)]
theorem Jgh(P:Program)(s:List AV)(H:Ji)(t u:Nat)(ty:TypeId):WP P s H [.cell t ty, .tmp u]=(Uy P H ty (s.getD t .void)).map fun v=> .tup [v,s.getD u .void]:=by
 simp only[WP,Wo,Kb]
 cases Uy P H ty (s.getD t .void)<;>rfl
attribute [go_sem] Jgh
theorem Nz(H L M:Ji):KO [] (H++L) (H++(L++M)):=by
 rw[←Js,JbS]
 trivial
def woP(p:Zk)(k:Nat):Zk:=⟨p.size,p.given.set k 0,p.rules⟩
theorem JdO{p:Zk}{k:Nat}(h:BD p):BD (woP p k):=⟨by show(p.given.set k 0).length≤_;rw[Jt];exact h.1,h.2⟩
theorem W3(H:Ji)(z:Int)(gid gg k:Nat)(zs:List Int)(rc:CV)(hg:look H gid gg=some ⟨gg,1,cl (eI .i64) zs⟩)(hk:k<zs.length)(hz:zs.length≤2^40):
 Jq Tryz.prog 60 [.agg [.f (.int .i64 z), .own gid gg 0 zs.length none,rc],int k] H (fun v H'=>∃id g,v= .agg [.f (.int .i64 z), .own id g 0 zs.length none,rc]∧look H' id g=some ⟨g,1,cl (eI .i64) (zs.set k 0)⟩∧H.length≤id∧H.length≤H'.length∧∀i,i<H.length→H'[i]? =H[i]?):=by
 have hlt:gid<H.length:=(Ja.1 (Jw hg).1).1
 have hgX:∀L,look (H++L) gid gg=some ⟨gg,1,cl (eI .i64) zs⟩:=fun L=>JR hg
 refine Jq.cw (c:=_) Tryz.func60 rfl (n:=19) Tryz.ntmps60 (rs:=[.cell 4 26]) rfl ?_
 simp only[Jf,Jl,zA,zS,Jg,Jc,Jd]
 simp(maxSteps:=999999)(disch:=omega)only[go_sem,zA,zM,zS,zE,zL,J3,Qi,QE,Qr,Js,Jc,Jd,Je,hgX]
 intro g1 g2 g3
 refine Uk (E:=eI .i64) (xs:=[]) (ys:=zs) (JZ UW rfl Ru) ⟨rfl,rfl,by decide,by decide⟩ rfl (by rw[J3];exact Qq (b:=⟨g3,1,cl (eI .i64) []⟩) rfl) ⟨by simp,hz⟩ (Ky (hgX _)) ?_
 intro g4
 rw[Jl,Nat.zero_add,Jd]
 simp(maxSteps:=999999)(disch:=omega)only[go_sem,zA,zM,zS,zE,zL,J3,Qi,QE,Qr,Js,Jc,Jd,Je,hgX]
 rw[Int.toNat_natCast]
 exact⟨_,Qc.refl _,H.length+2,g4,rfl,by rw[J3];exact Qq (b:=⟨g4,1,cl (eI .i64) (zs.set k 0)⟩) rfl,by omega,by simp,fun i hi=>Jb hi⟩
theorem W2(p:Zk)(k:Nat)(hk:k<p.given.length)(hx:BD p):Qd Tryz.prog 60 [aP p,int k] (aP (woP p k)):=by
 have h0:=hx.1
 refine Qd.iced ?_
 refine Jq.cw (c:=_) Tryz.func60 rfl (n:=19) Tryz.ntmps60 (rs:=[.cell 4 26]) rfl ?_
 simp only[Jf,Jl,zA,zS,Jg,Jc,Jd]
 simp(maxSteps:=999999)(disch:=omega)only[go_sem,zA,zM,zS,zE,zL]
 intro g1 g2 g3
 refine Uk (E:=eI .i64) (xs:=[]) (ys:=p.given) (JZ UW rfl Ru) ⟨rfl,rfl,by decide,by decide⟩ rfl (Qq (b:=⟨g3,1,cl (eI .i64) []⟩) rfl) ⟨by simp,h0⟩ Xt ?_
 intro g4
 rw[Jl,Nat.zero_add,Jd]
 simp(maxSteps:=999999)(disch:=omega)only[go_sem,zA,zM,zS,zE,zL]
 rw[Int.toNat_natCast]
 have hown:Qv [some ⟨g1,1,cP p⟩,some ⟨g2,3,[.f (.int .i64 p.size), .own 2 g4 0 p.given.length none, .f (WR eR p.rules)]⟩,some ⟨g4,1,cl (eI .i64) (p.given.set k 0)⟩] (.own 2 g4 0 p.given.length none) (p.given.set k 0) [2]:=by
  have:=Qv.o (H:=[some ⟨g1,1,cP p⟩,some ⟨g2,3,[.f (.int .i64 p.size), .own 2 g4 0 p.given.length none, .f (WR eR p.rules)]⟩,some ⟨g4,1,cl (eI .i64) (p.given.set k 0)⟩]) 2 g4 none (p.given.set k 0) [] (by rw[Jv];exact Qq (b:=⟨g4,1,cl (eI .i64) (p.given.set k 0)⟩) rfl)
  rwa [Jt]at this
 have e1:∀H (x:Int),frzC H (.f (.int .i64 x))=some (.f (.int .i64 x)):=fun _ _=>rfl
 have e2:∀H (x:List Q2),frzC H (.f (WR eR x))=some (.f (WR eR x)):=fun _ _=>rfl
 refine Q5 ?_
 show(([_,_,_]:List CV).mapM (frzC _)).map AV.agg=_
 simp only[Jz,Qa,e1,e2,hown.frzC,Option.bind_eq_bind,Option.pure_def,Option.bind_some,Option.map_some]
 rfl
def Jgy(p:Zk):Bool:=decide ((B1 p 2).length=1)
def redV(p:Zk)(k:Nat):Bool:=JE p&&(decide (k<p.given.length)&&(decide (0<JM p.given k)&&(Jgy p&&Jgy (woP p k))))
theorem V6(p:Zk)(k:Nat)(hk:k≤2^40)(hx:BD p):Qd Tryz.prog 59 [aP p,int k] (bool (redV p k)):=by
 have h0:=hx.1
 unfold redV
 refine Jq.cw (c:=_) Tryz.func59 rfl (n:=33) Tryz.ntmps59 (rs:=[.tmp 4]) rfl ?_
 simp only[Jf,Jl,zA,zS,Jg,Jc,Jd]
 simp(maxSteps:=999999)(disch:=omega)only[go_sem,zA,zM,zS,zE,zL]
 intro g1
 first|refine Qh.rd (QO p hx) (⟨_,Tryz.func8,rfl,rfl⟩:Jm Tryz.prog 8) rfl rfl rfl rfl ?_|refine Qe.rd (QO p hx) (⟨_,Tryz.func8,rfl,rfl⟩:Jm Tryz.prog 8) rfl rfl rfl rfl ?_
 simp(maxSteps:=999999)(disch:=omega)only[go_sem,zA,zM,zS,zE,zL]
 cases hv:JE p with
 |false=>
  simp(maxSteps:=999999)(disch:=omega)only[go_sem,zA,zM,zS,zE,zL]
  rw[Bool.false_and]
 |true=>
  rw[Bool.true_and]
  simp(maxSteps:=999999)(disch:=omega)only[go_sem,zA,zM,zS,zE,zL]
  first|refine Qh.rd (QF _ _ _) (⟨_,Tryz.func45,rfl,rfl⟩:Jm Tryz.prog 45) rfl rfl rfl rfl ?_|refine Qe.rd (QF _ _ _) (⟨_,Tryz.func45,rfl,rfl⟩:Jm Tryz.prog 45) rfl rfl rfl rfl ?_
  simp(maxSteps:=999999)(disch:=omega)only[go_sem,zA,zM,zS,zE,zL]
  by_cases h1:k<p.given.length
  · rw[decide_eq_true h1,Bool.true_and,decide_eq_true (show(0:Int)≤k∧(k:Int)≤p.given.length -1 by omega)]
    simp(maxSteps:=999999)(disch:=omega)only[go_sem,zA,zM,zS,zE,zL]
    by_cases h2:0<JM p.given k
    · rw[decide_eq_true h2,Bool.true_and]
      simp(maxSteps:=999999)(disch:=omega)only[go_sem,zA,zM,zS,zE,zL]
      first|refine Qh.rd (UO p hx) (⟨_,Tryz.func58,rfl,rfl⟩:Jm Tryz.prog 58) rfl rfl rfl rfl ?_|refine Qe.rd (UO p hx) (⟨_,Tryz.func58,rfl,rfl⟩:Jm Tryz.prog 58) rfl rfl rfl rfl ?_
      simp(maxSteps:=999999)(disch:=omega)only[go_sem,zA,zM,zS,zE,zL]
      have e:decide ((B1 p 2).length=1)=Jgy p:=rfl
      rw[e]
      cases Jgy p with
      |false=>
       simp(maxSteps:=999999)(disch:=omega)only[go_sem,zA,zM,zS,zE,zL]
       rw[Bool.false_and]
      |true=>
       rw[Bool.true_and]
       simp(maxSteps:=999999)(disch:=omega)only[go_sem,zA,zM,zS,zE,zL]
       first|refine Qh.mk (W2 p k h1 hx) (⟨_,Tryz.func60,rfl,rfl⟩:Jm Tryz.prog 60) rfl rfl rfl rfl rfl ?_|refine Qe.mk (W2 p k h1 hx) (⟨_,Tryz.func60,rfl,rfl⟩:Jm Tryz.prog 60) rfl rfl rfl rfl rfl ?_
       simp(maxSteps:=999999)(disch:=omega)only[go_sem,zA,zM,zS,zE,zL]
       first|refine Qh.rd (UO (woP p k) (JdO hx)) (⟨_,Tryz.func58,rfl,rfl⟩:Jm Tryz.prog 58) rfl rfl rfl rfl ?_|refine Qe.rd (UO (woP p k) (JdO hx)) (⟨_,Tryz.func58,rfl,rfl⟩:Jm Tryz.prog 58) rfl rfl rfl rfl ?_
       simp(maxSteps:=999999)(disch:=omega)only[go_sem,zA,zM,zS,zE,zL]
       rfl
    · rw[decide_eq_false h2,Bool.false_and]
      simp(maxSteps:=999999)(disch:=omega)only[go_sem,zA,zM,zS,zE,zL]
  · rw[decide_eq_false h1,Bool.false_and,decide_eq_false (show¬((0:Int)≤k∧(k:Int)≤p.given.length -1) by omega)]
    simp(maxSteps:=999999)(disch:=omega)only[go_sem,zA,zM,zS,zE,zL]
theorem YE(r:Q2)(hx:r.cells.length≤2^40):Qd Tryz.prog 87 [aR r] (aR r):=by
 obtain⟨k,cells,v⟩:=r
 simp only at hx
 refine Qd.iced ?_
 have e1:∀H (x:Int),frzC H (.f (.int .i64 x))=some (.f (.int .i64 x)):=fun _ _=>rfl
 refine Jq.cw (c:=_) Tryz.func87 rfl (n:=11) Tryz.ntmps87 (rs:=[.cell 2 41]) rfl ?_
 simp only[Jf,Jl,zA,zS,Jg,Jc,Jd]
 simp(maxSteps:=999999)(disch:=omega)only[go_sem,zA,zM,zS,zE,zL]
 intro g1 g2 g3 g4
 refine Uk (E:=eI .i64) (xs:=[]) (ys:=cells) (JZ UW rfl Ru) ⟨rfl,rfl,by decide,by decide⟩ rfl (Qq (b:=⟨g4,1,cl (eI .i64) []⟩) rfl) ⟨by simp,hx⟩ Xt ?_
 intro g5
 rw[Jl,Nat.zero_add,Jd]
 simp(maxSteps:=999999)(disch:=omega)only[go_sem,zA,zM,zS,zE,zL]
 have hown:∀H,look H 3 g5=some ⟨g5,1,cl (eI .i64) cells⟩→frzC H (.own 3 g5 0 cells.length none)=some (.f (QD cells)):=fun H h=>(Qv.o (H:=H) 3 g5 none cells [] (by rw[Jv];exact h)).frzC
 refine Q5 ?_
 show(([_,_,_]:List CV).mapM (frzC _)).map AV.agg=_
 have hown:=hown [some ⟨g1,1,cR ⟨k,cells,v⟩⟩,some ⟨g2,3,[.f (.int .i64 k), .own 3 g5 0 cells.length none, .f (.int .i64 v)]⟩,some ⟨g3,3,[.f (.int .i64 k), .own 3 g5 0 cells.length none, .f (.int .i64 v)]⟩,some ⟨g5,1,cl (eI .i64) cells⟩] (Qq (b:=⟨g5,1,cl (eI .i64) cells⟩) rfl)
 simp only[Jz,Qa,e1,hown,Option.bind_eq_bind,Option.pure_def,Option.bind_some,Option.map_some]
theorem FI{S:Nat→Bool}{H:Ji}{a b c a' b' c':CV}(h1:Ri S H a a')(h2:Ri S H b b')(h3:Ri S H c c'):JfX S H (.agg [a,b,c]) (.agg [a',b',c']):= .o _ _ (Ko h1 h2 h3)
theorem G0(H L:Ji):(H++L).take H.length=H:=by simp
theorem YF(H:Ji)(rc:CV)(rs:List Q2)(h:Zt eR 3 H rc rs)(hx:Jgc rs):Jq Tryz.prog 72 [.c rc] H (fun v H'=>v=Rj eR rs∧H'=H):=by
 obtain⟨hn,hc⟩:=hx
 refine Jq.iceS (Q':=fun v H'=>∃g,v= .c (.own H.length g 0 rs.length none)∧H'=H++[some ⟨g,3,cl eR rs⟩]) ?_ ?_
 rotate_left
 · rintro v H' ⟨g,rfl,rfl⟩
   refine⟨Z0 H.length,H,_,by have:=Xr (H++[some ⟨g,3,cl eR rs⟩]) H.length;rwa [G0]at this, .o _ _ (.c _ _ (Kn ?_)),rfl,rfl⟩
   exact(Zt.o (E:=eR) (n:=3) H.length g rs JY).frzS (fun i hi=>by cases hi;simp[Z0]) 5
 cases h with
 |n=>
  refine Jq.cw (c:=_) Tryz.func72 rfl (n:=21) Tryz.ntmps72 (rs:=[.tmp 2]) rfl ?_
  simp only[Jf,Jl,zA,zS,Jg,Jc,Jd]
  simp(maxSteps:=999999)(disch:=omega)only[go_sem,zA,zM,zS,zE,zL,J3,Qi,QE,Qr,Js,Jc,Jd,Je]
  intro g
  refine Qw (fun i:Nat=>0) (fun i=>i=0) (fun i=>[.k, .a, .a, .p (.c (.own H.length g 0 0 none)), .p (int 0), .a, .a, .a, .a, .a, .a, .a, .a, .a, .a, .a, .a, .a, .a, .a, .a]) (fun i=>H++[some ⟨g,3,[]⟩]) 0 rfl (by simp(maxSteps:=999999)(disch:=omega)only[go_sem,zA,zM,zS,zE,zL]) (Qc.refl _) ?_
  rintro i rfl
  simp(maxSteps:=999999)(disch:=omega)only[go_sem,zA,zM,zS,zE,zL,J3,Qi,QE,Qr,Js,Jc,Jd,Je,FD]
  exact⟨_,Qc.refl _,g,rfl,rfl⟩
 |m=>
  refine Jq.cw (c:=_) Tryz.func72 rfl (n:=21) Tryz.ntmps72 (rs:=[.tmp 2]) rfl ?_
  simp only[Jf,Jl,zA,zS,Jg,Jc,Jd]
  simp(maxSteps:=999999)(disch:=omega)only[go_sem,zA,zM,zS,zE,zL,J3,Qi,QE,Qr,Js,Jc,Jd,Je]
  intro g
  refine Qw (fun i:Nat=>0) (fun i=>i=0) (fun i=>[.k, .a, .a, .p (.c (.own H.length g 0 0 none)), .p (int 0), .a, .a, .a, .a, .a, .a, .a, .a, .a, .a, .a, .a, .a, .a, .a, .a]) (fun i=>H++[some ⟨g,3,[]⟩]) 0 rfl (by simp(maxSteps:=999999)(disch:=omega)only[go_sem,zA,zM,zS,zE,zL]) (Qc.refl _) ?_
  rintro i rfl
  simp(maxSteps:=999999)(disch:=omega)only[go_sem,zA,zM,zS,zE,zL,J3,Qi,QE,Qr,Js,Jc,Jd,Je,FD]
  exact⟨_,Qc.refl _,g,rfl,rfl⟩
 |o id rg _ hl=>
  have hlX:∀L,look (H++L) id rg=some ⟨rg,3,cl eR rs⟩:=fun L=>JR hl
  have hrl:(cl eR rs).length=rs.length*3:=Qb rs
  refine Jq.cw (c:=_) Tryz.func72 rfl (n:=21) Tryz.ntmps72 (rs:=[.tmp 2]) rfl ?_
  simp only[Jf,Jl,zA,zS,Jg,Jc,Jd]
  simp(maxSteps:=999999)(disch:=omega)only[go_sem,zA,zM,zS,zE,zL,J3,Qi,QE,Qr,Js,Jc,Jd,Je,hlX]
  intro g
  refine Qj (fun(i g:Nat)=>rs.length -i) (fun i g=>i≤rs.length) (fun i g=>[.k, .a, .a, .p (.c (.own H.length g 0 i none)), .p (int i), .a, .a, .a, .a, .a, .a, .a, .a, .a, .a, .a, .a, .a, .a, .a, .a]) (fun i g=>H++[some ⟨g,3,cl eR (rs.take i)⟩]) 0 g
   (Nat.zero_le _) (by simp(maxSteps:=999999)(disch:=omega)only[go_sem,zA,zM,zS,zE,zL];rfl) (Qc.refl _) ?_
  intro i g hi
  simp(maxSteps:=999999)(disch:=omega)only[go_sem,zA,zM,zS,zE,zL,J3,Qi,QE,Qr,Js,Jc,Jd,Je,hlX]
  ((first|(with_reducible first|refine Jo ?_ ?_|refine Jk ?_ ?_|refine Jp ?_ ?_)|refine Jr ?_ ?_)<;>intro h)
  · have h:i<rs.length:=by omega
    have htl:(rs.take i).length=i:=by rw[JA];omega
    simp(maxSteps:=999999)(disch:=omega)only[go_sem,zA,zM,zS,zE,zL,J3,Qi,QE,Qr,Js,Jc,Jd,Je,hlX]
    first|refine Qh.mk (YE (JM rs i) (hc _ (Z4 h))) (⟨_,Tryz.func87,rfl,rfl⟩:Jm Tryz.prog 87) rfl rfl rfl rfl rfl ?_|refine Qe.mk (YE (JM rs i) (hc _ (Z4 h))) (⟨_,Tryz.func87,rfl,rfl⟩:Jm Tryz.prog 87) rfl rfl rfl rfl rfl ?_
    simp(maxSteps:=999999)(disch:=omega)only[go_sem,zA,zM,zS,zE,zL]
    simp(maxSteps:=999999)(disch:=omega)only[go_sem,zA,zM,zS,zE,zL,J3,Qi,QE,Qr,Js,Jc,Jd,Je]
    intro g1
    refine Uk (E:=eR) (xs:=rs.take i) (ys:=[JM rs i]) (JZ Rv rfl Rt) ⟨rfl,rfl,by decide,by decide⟩ htl (by rw[Qi];exact ZA) ⟨by omega,by simp⟩ (Ky (xs:=[JM rs i]) (by rw[J3];exact Qq (b:=⟨g1,3,cl eR [JM rs i]⟩) rfl)) ?_
    intro g2
    simp(maxSteps:=999999)(disch:=omega)only[go_sem,zA,zM,zS,zE,zL,J3,Qi,QE,Qr,Js,Jc,Jd,Je]
    refine⟨i+1,g2,⟨by omega,by omega⟩,⟨⟨rfl,rfl⟩,by push_cast;omega⟩, ?_⟩
    rw[JX h]
    have:=Qc.app (H++[some ⟨g2,3,cl eR (rs.take i++[JM rs i])⟩]) [some ⟨g1,3,cR (JM rs i)⟩]
    rwa [Js]at this
  · have hi':i=rs.length:=by omega
    subst hi'
    simp(maxSteps:=999999)(disch:=omega)only[go_sem,zA,zM,zS,zE,zL]
    rw[List.take_length]
    exact⟨_,Qc.refl _,g,rfl,rfl⟩
theorem Re(H:Ji)(z:Int)(gid gg:Nat)(zs:List Int)(rc:CV)(rs:List Q2)(hg:look H gid gg=some ⟨gg,1,cl (eI .i64) zs⟩)(hr:Zt eR 3 H rc rs)(hz:zs.length≤2^40)(hx:Jgc rs):
 Jq Tryz.prog 57 [.agg [.f (.int .i64 z), .own gid gg 0 zs.length none,rc]] H (fun v H'=>v=aP ⟨z,zs,rs⟩∧H'=H):=by
 have hgX:∀L,look (H++L) gid gg=some ⟨gg,1,cl (eI .i64) zs⟩:=fun L=>JR hg
 refine Jq.iceS (Q':=fun v H'=>∃c L,v= .agg [.f (.int .i64 z),c, .f (WR eR rs)]∧frzS (Z0 H.length) H' 6 c=some (QD zs)∧H'=H++L) ?_ ?_
 rotate_left
 · rintro v H' ⟨c,L,rfl,h1,rfl⟩
   exact⟨Z0 H.length,H,_,by have:=Xr (H++L) H.length;rwa [G0]at this,FI X6 (Kn h1) X6,rfl,rfl⟩
 refine Jq.cw (c:=_) Tryz.func57 rfl (n:=15) Tryz.ntmps57 (rs:=[.cell 2 26]) rfl ?_
 simp only[Jf,Jl,zA,zS,Jg,Jc,Jd]
 simp(maxSteps:=999999)(disch:=omega)only[go_sem,zA,zM,zS,zE,zL,J3,Qi,QE,Qr,Js,Jc,Jd,Je,hgX]
 intro g1 g2 g3 g4
 refine Uk (E:=eI .i64) (xs:=[]) (ys:=zs) (JZ UW rfl Ru) ⟨rfl,rfl,by decide,by decide⟩ rfl (by rw[J3];exact Qq (b:=⟨g4,1,cl (eI .i64) []⟩) rfl) ⟨by simp,hz⟩ (Ky (hgX _)) ?_
 intro g5
 rw[Jl,Nat.zero_add,Jd]
 simp(maxSteps:=999999)(disch:=omega)only[go_sem,zA,zM,zS,zE,zL,J3,Qi,QE,Qr,Js,Jc,Jd,Je,hgX]
 refine Qh.run (YF _ rc rs hr.app hx) (⟨_,Tryz.func72,rfl,rfl⟩:Jm Tryz.prog 72) rfl rfl ?_
 rintro _ _ ⟨rfl,rfl⟩
 simp(maxSteps:=999999)(disch:=omega)only[go_sem,zA,zM,zS,zE,zL,J3,Qi,QE,Qr,Js,Jc,Jd,Je,hgX]
 refine⟨_,Qc.refl _,_,_,rfl, ?_,rfl⟩
 have:=Kw (S:=Z0 H.length) (lim:=none) (n:=zs.length) (off:=0) (zs:=zs) (id:=H.length+3) (g:=g5) (H:=H++[some ⟨g1,1,[.f (.int .i64 z), .own gid gg 0 zs.length none,rc]⟩,some ⟨g2,3,[.f (.int .i64 z), .own (H.length+3) g5 0 zs.length none, .f (WR eR rs)]⟩,some ⟨g3,3,[.f (.int .i64 z), .own (H.length+3) g5 0 zs.length none, .f (WR eR rs)]⟩,some ⟨g5,1,cl (eI .i64) zs⟩]) (by rw[J3];exact Qq (b:=⟨g5,1,cl (eI .i64) zs⟩) rfl) (by simp[Z0]) (by omega) 5
 rw[JB,List.take_length]at this
 exact this
def PzO(H:Ji)(n0:Nat)(z:Int)(gc rc:CV)(zs:List Int)(rs:List Q2):Prop:=∃gid gg,gc= .own gid gg 0 zs.length none∧look H gid gg=some ⟨gg,1,cl (eI .i64) zs⟩∧n0≤gid∧Zt eR 3 H rc rs∧(∀i,Q1 rc i→n0≤i∧i≠gid)
theorem PzO.snap{H:Ji}{n0:Nat}{z:Int}{gc rc:CV}{zs:List Int}{rs:List Q2}(h:PzO H n0 z gc rc zs rs):QS H (.agg [.f (.int .i64 z),gc,rc])=some (aP ⟨z,zs,rs⟩):=by
 obtain⟨gid,gg,rfl,h1,_,h2,_⟩:=h
 have e1:∀x:Int,frzC H (.f (.int .i64 x))=some (.f (.int .i64 x)):=fun _=>rfl
 have e2:=(Qv.o (H:=H) gid gg none zs [] (by rw[Jv];exact h1)).frzC
 simp only[QS,Jz,Qa,e1,e2,h2.frzC,Option.bind_eq_bind,Option.pure_def,Option.bind_some,Option.map_some]
theorem PzO.same{H H':Ji}{n0:Nat}{z:Int}{gc rc:CV}{zs:List Int}{rs:List Q2}(h:PzO H n0 z gc rc zs rs)(hs:∀i,n0≤i→(Q1 gc i∨Q1 rc i)→i<H.length→H'[i]? =H[i]?):PzO H' n0 z gc rc zs rs:=by
 obtain⟨gid,gg,rfl,h1,h2,h3,h4⟩:=h
 exact⟨gid,gg,rfl,by unfold look at*;rw[hs gid h2 (.inl rfl) (Ja.1 (Jw h1).1).1];exact h1,h2,h3.same fun i hi hl=>hs i (h4 i hi).1 (.inr hi) hl,h4⟩
def miniQ(H:Ji)(z:Int)(n:Nat)(rs:List Q2):KV:=fun v H'=>H.length≤H'.length∧(∀i,i<H.length→H'[i]? =H[i]?)∧((∃c1 c2 c3,v= .tup [.agg [c1,c2,c3],bool false])∨∃gc rc zs,v= .tup [.agg [.f (.int .i64 z),gc,rc],bool true]∧zs.length=n∧PzO H' H.length z gc rc zs rs)
theorem JaO{p:Zk}(hv:JE p=true):XA p.given p.size.toNat∧4≤p.given.length∧p.given.length≤16:=by
 obtain⟨hp,hz⟩:=B5.of hv
 have hg:=XA.of hp.hn (xs:=p.given) (by rw[hz];exact VP hv)
 have hsq:4≤p.size.toNat*p.size.toNat∧p.size.toNat*p.size.toNat≤16:=by
  have:=hp.hn
  rcases this with h|h|h<;>rw[h]<;>omega
 have:=hg.len
 exact⟨hg,by omega,by omega⟩
structure MiI(H HI:Ji)(XI xg g2:Nat)(z:Int)(n:Nat)(rs:List Q2):Prop where
 ex:∃gc rc zs,look HI XI xg=some ⟨xg,3,[.f (.int .i64 z),gc,rc]⟩∧zs.length=n∧PzO HI (H.length+2) z gc rc zs rs∧¬Q1 gc XI∧¬Q1 rc XI
 out:look HI (H.length+1) g2=some ⟨g2,3,[.f (.int .i64 0), .f .nil, .f .nil]⟩
 lt:H.length+2≤XI∧XI<HI.length
 frm:∀i,i<H.length→HI[i]? =H[i]?
theorem PzO.n0{H:Ji}{n0 n1:Nat}{z:Int}{gc rc:CV}{zs:List Int}{rs:List Q2}(h:PzO H n0 z gc rc zs rs)(hn:n1≤n0):PzO H n1 z gc rc zs rs:=by
 obtain⟨gid,gg,rfl,h1,h2,h3,h4⟩:=h
 exact⟨gid,gg,rfl,h1,by omega,h3,fun i hi=>⟨by have:=(h4 i hi).1;omega,(h4 i hi).2⟩⟩
theorem Y7(H:Ji)(z:Int)(gid gg:Nat)(zs:List Int)(rc:CV)(rs:List Q2)(hg:look H gid gg=some ⟨gg,1,cl (eI .i64) zs⟩)(hr:Zt eR 3 H rc rs)(hz:zs.length≤2^30)(hx:Jgc rs):
 Jq Tryz.prog 40 [.agg [.f (.int .i64 z), .own gid gg 0 zs.length none,rc]] H (miniQ H z zs.length rs):=by
 have hgX:∀L,look (H++L) gid gg=some ⟨gg,1,cl (eI .i64) zs⟩:=fun L=>JR hg
 have hsm:BD ⟨z,zs,rs⟩:=⟨by show zs.length≤_;omega,hx⟩
 refine Jq.cw (c:=_) Tryz.func40 rfl (n:=42) Tryz.ntmps40 (rs:=[.cell 2 26, .tmp 3]) rfl ?_
 simp only[Jf,Jl,zA,zS,Jg,Jc,Jd]
 simp(maxSteps:=999999)(disch:=omega)only[go_sem,zA,zM,zS,zE,zL,J3,Qi,QE,Qr,Js,Jc,Jd,Je,hgX]
 intro g1 g2
 refine Qh.run (Re _ z gid gg zs rc rs (hgX _) hr.app (by omega) hx) (⟨_,Tryz.func57,rfl,rfl⟩:Jm Tryz.prog 57) rfl rfl ?_
 rintro _ _ ⟨rfl,rfl⟩
 simp(maxSteps:=999999)(disch:=omega)only[go_sem,zA,zM,zS,zE,zL,J3,Qi,QE,Qr,Js,Jc,Jd,Je,hgX]
 first|refine Qh.rd (QO ⟨z,zs,rs⟩ hsm) (⟨_,Tryz.func8,rfl,rfl⟩:Jm Tryz.prog 8) rfl rfl rfl rfl ?_|refine Qe.rd (QO ⟨z,zs,rs⟩ hsm) (⟨_,Tryz.func8,rfl,rfl⟩:Jm Tryz.prog 8) rfl rfl rfl rfl ?_
 simp(maxSteps:=999999)(disch:=omega)only[go_sem,zA,zM,zS,zE,zL]
 ((with_reducible first|refine JU ?_ ?_|refine JJ ?_ ?_|refine J6 ?_ ?_|refine Jx ?_ ?_|refine JS ?_ ?_|refine JT ?_ ?_|refine JH ?_ ?_|refine JI ?_ ?_|refine J4 ?_ ?_|refine J5 ?_ ?_|refine JC ?_ ?_|refine JD ?_ ?_)<;>intro h1<;>simp(maxSteps:=999999)(disch:=omega)only[go_sem,zA,zM,zS,zE,zL,h1])
 rotate_left
 · simp(maxSteps:=999999)(disch:=omega)only[go_sem,zA,zM,zS,zE,zL,J3,Qi,QE,Qr,Js,Jc,Jd,Je]
   exact⟨_,Qc.refl _,by simp,fun i hi=>Jb hi, .inl ⟨_,_,_,rfl⟩⟩
 simp(maxSteps:=999999)(disch:=omega)only[go_sem,zA,zM,zS,zE,zL,J3,Qi,QE,Qr,Js,Jc,Jd,Je,hgX]
 first|refine Qh.rd (UO ⟨z,zs,rs⟩ hsm) (⟨_,Tryz.func58,rfl,rfl⟩:Jm Tryz.prog 58) rfl rfl rfl rfl ?_|refine Qe.rd (UO ⟨z,zs,rs⟩ hsm) (⟨_,Tryz.func58,rfl,rfl⟩:Jm Tryz.prog 58) rfl rfl rfl rfl ?_
 simp(maxSteps:=999999)(disch:=omega)only[go_sem,zA,zM,zS,zE,zL]
 ((first|(with_reducible first|refine Jo ?_ ?_|refine Jk ?_ ?_|refine Jp ?_ ?_)|refine Jr ?_ ?_)<;>intro h2)
 rotate_left
 · simp(maxSteps:=999999)(disch:=omega)only[go_sem,zA,zM,zS,zE,zL,J3,Qi,QE,Qr,Js,Jc,Jd,Je]
   exact⟨_,Qc.refl _,by simp,fun i hi=>Jb hi, .inl ⟨_,_,_,rfl⟩⟩
 have hz4:4≤zs.length:=by
  exact(JaO h1).2.1
 simp(maxSteps:=999999)(disch:=omega)only[go_sem,zA,zM,zS,zE,zL,J3,Qi,QE,Qr,Js,Jc,Jd,Je]
 refine Zg [0,1,2,3,4,6,7,8,11,5,9,10] [2,6] (some 11) [12] [] [0,1,0,0,8,28,0,0,128,508,1023,0,4095] Zr (by kernel_rfl) ?_
 iterate 9 (rw[JP];simp(maxSteps:=999999)(disch:=omega)only[go_sem,zA,zM,zS,zE,zL,J3,Qi,QE,Qr,Js,Jc,Jd,Je])
 rw[JP]
 simp(maxSteps:=999999)(disch:=omega)only[go_sem,zA,zM,zS,zE,zL,J3,Qi,QE,Qr,Js,Jc,Jd,Je]
 refine K6 (E:=eI .i64) (ys:=zs) (JZ UW rfl Ru) ⟨rfl,rfl,by decide,by decide⟩ ⟨by omega,by omega⟩ Xt ?_
 intro g3
 simp(maxSteps:=999999)(disch:=omega)only[go_sem,zA,zM,zS,zE,zL,J3,Qi,QE,Qr,Js,Jc,Jd,Je]
 refine⟨Nz _ [_,_] [_], ?_⟩
 rcases Nat.eq_zero_or_pos rs.length with h0|h0
 · have:rs=[]:=List.eq_nil_of_length_eq_zero h0
   subst this
   rw[JP]
   simp(maxSteps:=999999)(disch:=omega)only[go_sem,zA,zM,zS,zE,zL,J3,Qi,QE,Qr,Js,Jc,Jd,Je]
   have hapE:∀(H:Ji) (K:KV),K (.c .emp) H→Qg Tryz.prog H 24 (.c .emp) (.c (.f (WR eR []))) K:=fun H K hk=>by
    unfold Qg
    rw[JZ Rv rfl Rt]
    exact hk
   refine hapE _ _ ?_
   simp(maxSteps:=999999)(disch:=omega)only[go_sem,zA,zM,zS,zE,zL,J3,Qi,QE,Qr,Js,Jc,Jd,Je]
   rw[JP]
   simp(maxSteps:=999999)(disch:=omega)only[go_sem,zA,zM,zS,zE,zL,J3,Qi,QE,Qr,Js,Jc,Jd,Je]
   intro g5
   obtain⟨HI,hHI⟩:∃HI:Ji,HI=H++[some ⟨g1,1,[.f (.int .i64 z), .f (QD zs), .f (WR eR [])]⟩,some ⟨g2,3,[.f (.int .i64 0), .f .nil, .f .nil]⟩,some ⟨g3,1,cl (eI .i64) zs⟩,some ⟨g5,3,[.f (.int .i64 z), .own (H.length+2) g3 0 zs.length none, .emp]⟩]:=⟨_,rfl⟩
   have hm0:MiI H HI (H.length+3) g5 g2 z zs.length []:=
    {ex:=⟨.own (H.length+2) g3 0 zs.length none, .emp,zs,by rw[hHI,J3];exact Qq (b:=⟨g5,3,[.f (.int .i64 z), .own (H.length+2) g3 0 zs.length none, .emp]⟩) rfl,rfl,⟨H.length+2,g3,rfl,by rw[hHI,J3];exact Qq (b:=⟨g3,1,cl (eI .i64) zs⟩) rfl,Nat.le_refl _,by rw[hHI];exact .m,fun i h=>h.elim⟩,fun h=>by simp only[Q1]at h;omega,fun h=>h⟩
     out:=by rw[hHI,J3];exact Qq (b:=⟨g2,3,[.f (.int .i64 0), .f .nil, .f .nil]⟩) rfl
     lt:=by rw[hHI];simp
     frm:=fun i hi=>by rw[hHI,Jb hi]}
   rw[←hHI]
   clear hHI
   refine Qj (fun(k:Nat) (HI:Ji)=>zs.length -k) (fun k HI=>k≤zs.length∧MiI H HI (H.length+3) g5 g2 z zs.length []) (fun k HI=>[.a, .a, .k, .a, .k, .p (int k), .a, .a, .a, .a, .a, .a, .a, .a, .a, .a, .a, .a, .a, .a, .a, .a, .a, .a, .a, .a, .a, .a, .a, .a, .a, .a, .a, .a, .a, .a, .a, .a, .a, .a, .a, .a]) (fun _ HI=>HI) 0 HI ⟨Nat.zero_le _,hm0⟩ (by simp(maxSteps:=999999)(disch:=omega)only[go_sem,zA,zM,zS,zE,zL];rfl) (Qc.refl _) ?_
   rintro k HI ⟨hk,hm⟩
   obtain⟨gc,rc,zs',hx1,hx2,hx3,hx4,hx5⟩:=hm.ex
   have hsn:=hx3.snap
   have hout:=hm.out
   have hlt:=hm.lt
   obtain⟨gid',gg',rfl,hg1,hg2,hr1,hr2⟩:=hx3
   simp(maxSteps:=999999)(disch:=omega)only[go_sem,zA,zM,zS,zE,zL,hx1,hg1]
   ((first|(with_reducible first|refine Jo ?_ ?_|refine Jk ?_ ?_|refine Jp ?_ ?_)|refine Jr ?_ ?_)<;>intro c1)
   · have c1:k<zs'.length:=by omega
     have hsm':BD ⟨z,zs',[]⟩:=⟨by show zs'.length≤_;omega,hx⟩
     simp(maxSteps:=999999)(disch:=omega)only[go_sem,zA,zM,zS,zE,zL,hx1]
     refine Qh.rdD (V6 ⟨z,zs',[]⟩ k (by omega) hsm') (⟨_,Tryz.func59,rfl,rfl⟩:Jm Tryz.prog 59) rfl rfl (UX hsn V4) rfl ?_
     simp(maxSteps:=999999)(disch:=omega)only[go_sem,zA,zM,zS,zE,zL]
     ((first|(with_reducible first|refine Jo ?_ ?_|refine Jk ?_ ?_|refine Jp ?_ ?_)|refine Jr ?_ ?_)<;>intro c2)
     · simp(maxSteps:=999999)(disch:=omega)only[go_sem,zA,zM,zS,zE,zL,hx1]
       refine Qh.run (W3 HI z gid' gg' k zs' rc hg1 c1 (by omega)) (⟨_,Tryz.func60,rfl,rfl⟩:Jm Tryz.prog 60) rfl rfl ?_
       rintro _ H5 ⟨id6,g6,rfl,w1,w2,w3,w4⟩
       have hid6:id6<H5.length:=(Ja.1 (Jw w1).1).1
       have hx6:look H5 (H.length+3) g5=some ⟨g5,3,[.f (.int .i64 z), .own gid' gg' 0 zs'.length none,rc]⟩:=by unfold look at hx1⊢;rw[w4 _ hlt.2];exact hx1
       simp(maxSteps:=999999)(disch:=omega)only[go_sem,zA,zM,zS,zE,zL,hx6]
       have hset:∀i:Nat,i≠(H.length+3)→∀b,(H5.set (H.length+3) b)[i]? =H5[i]? :=fun i hi b=>by rw[Jj (Ne.symm hi)]
       refine⟨k+1,_,⟨⟨by omega, ?_⟩,by omega⟩,by push_cast;omega,Qc.refl _⟩
       exact{ex:=⟨.own id6 g6 0 zs'.length none,rc,zs'.set k 0,JK (by omega),by rw[Jt];exact hx2,⟨id6,g6,by rw[Jt],by unfold look at w1⊢;rw[hset _ (by omega)];exact w1,by omega,hr1.same (fun i hi hl=>by
              rw[hset i (fun h=>hx5 (by rw[←h];exact hi)),w4 i hl]),fun i hi=>⟨(hr2 i hi).1,fun h=>by
              have:=hr1.lt i hi
              omega⟩⟩,fun h=>by simp only[Q1]at h;omega,hx5⟩
             out:=by unfold look at hout⊢;rw[hset _ (by omega),w4 _ (by omega)];exact hout
             lt:=by rw[Jt];omega
             frm:=fun i hi=>by rw[hset i (by omega),w4 i (by omega)];exact hm.frm i hi}
     · simp(maxSteps:=999999)(disch:=omega)only[go_sem,zA,zM,zS,zE,zL]
       exact⟨k+1,HI,⟨⟨by omega,hm⟩,by omega⟩,by push_cast;omega,Qc.refl _⟩
   · simp(maxSteps:=999999)(disch:=omega)only[go_sem,zA,zM,zS,zE,zL,hx1,hout]
     have hS:∀b,look (HI.set (H.length+1) (some ⟨g2,3,b⟩)) (H.length+1) g2=some ⟨g2,3,b⟩:=fun b=>JK (by omega)
     simp(maxSteps:=999999)(disch:=omega)only[go_sem,zA,zM,zS,zE,zL,hS]
     refine⟨_,Qc.refl _,by rw[Jt];omega,fun i hi=>by rw[Jj (by omega)];exact hm.frm i hi, .inr ⟨_,_,zs',rfl,hx2, ?_⟩⟩
     refine(PzO.same (H:=HI) ⟨gid',gg',rfl,hg1,hg2,hr1,hr2⟩ fun i hi _ _=> ?_).n0 (by omega)
     rw[Jj (by omega)]
 · rw[JP]
   simp(maxSteps:=999999)(disch:=omega)only[go_sem,zA,zM,zS,zE,zL,J3,Qi,QE,Qr,Js,Jc,Jd,Je]
   refine K6 (E:=eR) (ys:=rs) (JZ Rv rfl Rt) ⟨rfl,rfl,by decide,by decide⟩ ⟨by omega,hx.1⟩ Xt ?_
   intro g4
   simp(maxSteps:=999999)(disch:=omega)only[go_sem,zA,zM,zS,zE,zL,J3,Qi,QE,Qr,Js,Jc,Jd,Je]
   refine⟨Nz _ [_,_,_] [_], ?_⟩
   rw[JP]
   simp(maxSteps:=999999)(disch:=omega)only[go_sem,zA,zM,zS,zE,zL,J3,Qi,QE,Qr,Js,Jc,Jd,Je]
   intro g5
   obtain⟨HI,hHI⟩:∃HI:Ji,HI=H++[some ⟨g1,1,[.f (.int .i64 z), .f (QD zs), .f (WR eR rs)]⟩,some ⟨g2,3,[.f (.int .i64 0), .f .nil, .f .nil]⟩,some ⟨g3,1,cl (eI .i64) zs⟩,some ⟨g4,3,cl eR rs⟩,some ⟨g5,3,[.f (.int .i64 z), .own (H.length+2) g3 0 zs.length none, .own (H.length+3) g4 0 rs.length none]⟩]:=⟨_,rfl⟩
   have hm0:MiI H HI (H.length+4) g5 g2 z zs.length rs:=
    {ex:=⟨.own (H.length+2) g3 0 zs.length none, .own (H.length+3) g4 0 rs.length none,zs,by rw[hHI,J3];exact Qq (b:=⟨g5,3,[.f (.int .i64 z), .own (H.length+2) g3 0 zs.length none, .own (H.length+3) g4 0 rs.length none]⟩) rfl,rfl,⟨H.length+2,g3,rfl,by rw[hHI,J3];exact Qq (b:=⟨g3,1,cl (eI .i64) zs⟩) rfl,Nat.le_refl _,by rw[hHI];exact Zt.o (H.length+3) g4 rs (by rw[J3];exact Qq (b:=⟨g4,3,cl eR rs⟩) rfl),fun i h=>by simp only[Q1]at h;omega⟩,fun h=>by simp only[Q1]at h;omega,fun h=>by simp only[Q1]at h;omega⟩
     out:=by rw[hHI,J3];exact Qq (b:=⟨g2,3,[.f (.int .i64 0), .f .nil, .f .nil]⟩) rfl
     lt:=by rw[hHI];simp
     frm:=fun i hi=>by rw[hHI,Jb hi]}
   rw[←hHI]
   clear hHI
   refine Qj (fun(k:Nat) (HI:Ji)=>zs.length -k) (fun k HI=>k≤zs.length∧MiI H HI (H.length+4) g5 g2 z zs.length rs) (fun k HI=>[.a, .a, .k, .a, .k, .p (int k), .a, .a, .a, .a, .a, .a, .a, .a, .a, .a, .a, .a, .a, .a, .a, .a, .a, .a, .a, .a, .a, .a, .a, .a, .a, .a, .a, .a, .a, .a, .a, .a, .a, .a, .a, .a]) (fun _ HI=>HI) 0 HI ⟨Nat.zero_le _,hm0⟩ (by simp(maxSteps:=999999)(disch:=omega)only[go_sem,zA,zM,zS,zE,zL];rfl) (Qc.refl _) ?_
   rintro k HI ⟨hk,hm⟩
   obtain⟨gc,rc,zs',hx1,hx2,hx3,hx4,hx5⟩:=hm.ex
   have hsn:=hx3.snap
   have hout:=hm.out
   have hlt:=hm.lt
   obtain⟨gid',gg',rfl,hg1,hg2,hr1,hr2⟩:=hx3
   simp(maxSteps:=999999)(disch:=omega)only[go_sem,zA,zM,zS,zE,zL,hx1,hg1]
   ((first|(with_reducible first|refine Jo ?_ ?_|refine Jk ?_ ?_|refine Jp ?_ ?_)|refine Jr ?_ ?_)<;>intro c1)
   · have c1:k<zs'.length:=by omega
     have hsm':BD ⟨z,zs',rs⟩:=⟨by show zs'.length≤_;omega,hx⟩
     simp(maxSteps:=999999)(disch:=omega)only[go_sem,zA,zM,zS,zE,zL,hx1]
     refine Qh.rdD (V6 ⟨z,zs',rs⟩ k (by omega) hsm') (⟨_,Tryz.func59,rfl,rfl⟩:Jm Tryz.prog 59) rfl rfl (UX hsn V4) rfl ?_
     simp(maxSteps:=999999)(disch:=omega)only[go_sem,zA,zM,zS,zE,zL]
     ((first|(with_reducible first|refine Jo ?_ ?_|refine Jk ?_ ?_|refine Jp ?_ ?_)|refine Jr ?_ ?_)<;>intro c2)
     · simp(maxSteps:=999999)(disch:=omega)only[go_sem,zA,zM,zS,zE,zL,hx1]
       refine Qh.run (W3 HI z gid' gg' k zs' rc hg1 c1 (by omega)) (⟨_,Tryz.func60,rfl,rfl⟩:Jm Tryz.prog 60) rfl rfl ?_
       rintro _ H5 ⟨id6,g6,rfl,w1,w2,w3,w4⟩
       have hid6:id6<H5.length:=(Ja.1 (Jw w1).1).1
       have hx6:look H5 (H.length+4) g5=some ⟨g5,3,[.f (.int .i64 z), .own gid' gg' 0 zs'.length none,rc]⟩:=by unfold look at hx1⊢;rw[w4 _ hlt.2];exact hx1
       simp(maxSteps:=999999)(disch:=omega)only[go_sem,zA,zM,zS,zE,zL,hx6]
       have hset:∀i:Nat,i≠(H.length+4)→∀b,(H5.set (H.length+4) b)[i]? =H5[i]? :=fun i hi b=>by rw[Jj (Ne.symm hi)]
       refine⟨k+1,_,⟨⟨by omega, ?_⟩,by omega⟩,by push_cast;omega,Qc.refl _⟩
       exact{ex:=⟨.own id6 g6 0 zs'.length none,rc,zs'.set k 0,JK (by omega),by rw[Jt];exact hx2,⟨id6,g6,by rw[Jt],by unfold look at w1⊢;rw[hset _ (by omega)];exact w1,by omega,hr1.same (fun i hi hl=>by
              rw[hset i (fun h=>hx5 (by rw[←h];exact hi)),w4 i hl]),fun i hi=>⟨(hr2 i hi).1,fun h=>by
              have:=hr1.lt i hi
              omega⟩⟩,fun h=>by simp only[Q1]at h;omega,hx5⟩
             out:=by unfold look at hout⊢;rw[hset _ (by omega),w4 _ (by omega)];exact hout
             lt:=by rw[Jt];omega
             frm:=fun i hi=>by rw[hset i (by omega),w4 i (by omega)];exact hm.frm i hi}
     · simp(maxSteps:=999999)(disch:=omega)only[go_sem,zA,zM,zS,zE,zL]
       exact⟨k+1,HI,⟨⟨by omega,hm⟩,by omega⟩,by push_cast;omega,Qc.refl _⟩
   · simp(maxSteps:=999999)(disch:=omega)only[go_sem,zA,zM,zS,zE,zL,hx1,hout]
     have hS:∀b,look (HI.set (H.length+1) (some ⟨g2,3,b⟩)) (H.length+1) g2=some ⟨g2,3,b⟩:=fun b=>JK (by omega)
     simp(maxSteps:=999999)(disch:=omega)only[go_sem,zA,zM,zS,zE,zL,hS]
     refine⟨_,Qc.refl _,by rw[Jt];omega,fun i hi=>by rw[Jj (by omega)];exact hm.frm i hi, .inr ⟨_,_,zs',rfl,hx2, ?_⟩⟩
     refine(PzO.same (H:=HI) ⟨gid',gg',rfl,hg1,hg2,hr1,hr2⟩ fun i hi _ _=> ?_).n0 (by omega)
     rw[Jj (by omega)]
end Go.Lg
