/- GpMH, GpMI, cut to what is needed. -/
import Derived.Test.YtidekghnkifbjaaGreatDoorJdc7
import Derived.Test.YtidekghnkifbjaaGreatDoorJdc4
open List renaming length_cons → Ja, cons_append → Jb, nil_append → Jd, length_nil → Je, replicate → Jf, length_append → Jq, append_nil → Jt, length_take → JX, drop_zero → J1, mem_map → Qg, length_map → Qi, map_append → Qo
open Nat renaming reduceAdd→zA,reduceMul→zM,reduceSub→zS,reduceEqDiff→zE,reduceLeDiff→zL
set_option linter.unusedSimpArgs false
set_option linter.unusedVariables false
set_option maxRecDepth 100000
namespace Go.Lg
open Go.Proofs
theorem Jai{H:Jn}{r:Zq}:Zs H (aR r)=some (aR r):=rfl
theorem JjT{r:Zq}{n:Nat}(hn:n=2∨n=3∨n=4)(hv:Qw r n=true){ms:List Nat}(hm:XG ms n):JkO r (JN ms):=by
 obtain⟨f1,f2,f3,f4⟩:=QV hv
 have hsq:n*n≤16:=by rcases hn with rfl|rfl|rfl<;>omega
 have hl:=hm.len
 refine⟨f1.2,f2,fun c hc=> ?_,by rw[Qm];omega⟩
 obtain⟨h1,h2⟩:=f3 c hc
 obtain⟨k,rfl⟩:∃k:Nat,c=k:=⟨c.toNat,by omega⟩
 have:=hm.lt hn k
 rw[Qm,Q4]
 omega
theorem JcO{H:Jn}{c:CV}{zs:List Int}{S:List Nat}(h:Qr H c zs S):Uo H (WD zs) (.c c):=⟨Y4 S H,Y0 S H,c,S,rfl,h.same (fun i hi=>WZ hi (h.lt i hi)),W4 h.blk⟩
theorem Ja3{n:Nat}(hn:n=2∨n=3∨n=4)(r:Zq)(ms:List Nat)(hv:Qw r n=true)(hm:XG ms n):Jk Tryz.prog 155 [aR r,QF (JN ms),int n] [] (WD (JN (Zy r (JN ms)))):=
 YS hn r (JN ms) hv hm.ok (JjT hn hv hm)
set_option maxHeartbeats 2000000 in
theorem N9{n:Nat}(hn:n=2∨n=3∨n=4)(r:Zq)(ms:List Nat)(hv:Qw r n=true)(hm:XG ms n):Jk Tryz.prog 158 [aR r,QF (JN ms),int n] [] (WD (JN (Zy r (JN ms)))):=by
 obtain⟨f1,f2,f3,f4⟩:=QV hv
 have hl:=hm.len
 have hnl:(JN ms).length=n*n:=by rw[Qm];exact hl
 have hrem:∀k,JN ((r.cells.take k).map fun c=>QH ms c.toNat)=(r.cells.take k).map fun c=>((QH ms c.toNat:Nat):Int):=fun k=>by unfold JN;rw[List.map_map];rfl
 refine Jk.cw (c:=_) Tryz.func158 rfl (n:=39) Tryz.ntmps158 (rs:=[.tmp 6]) rfl ?_
 simp only[Ja,Je,zA,zS,Jf,Jb,Jd]
 simp(maxSteps:=999999)(disch:=omega)only[go_sem,zA,zM,zS,zE,zL]
 intro g1
 first|refine JU.rd (Wp r n (by omega)) (⟨_,Tryz.func86,rfl,rfl⟩:Jg Tryz.prog 86) rfl rfl rfl rfl ?_|refine JG.rd (Wp r n (by omega)) (⟨_,Tryz.func86,rfl,rfl⟩:Jg Tryz.prog 86) rfl rfl rfl rfl ?_
 simp(maxSteps:=999999)(disch:=omega)only[go_sem,zA,zM,zS,zE,zL]
 ((with_reducible first|refine JL ?_ ?_|refine JD ?_ ?_|refine JT ?_ ?_|refine Jv ?_ ?_|refine JJ ?_ ?_|refine JK ?_ ?_|refine JB ?_ ?_|refine JC ?_ ?_|refine JR ?_ ?_|refine JS ?_ ?_|refine Jw ?_ ?_|refine Jx ?_ ?_)<;>intro c1<;>simp(maxSteps:=999999)(disch:=omega)only[go_sem,zA,zM,zS,zE,zL,c1])
 rotate_left
 · exfalso;rw[hv]at c1;cases c1
 first|refine JU.rd (ZI hn ms hm) (⟨_,Tryz.func156,rfl,rfl⟩:Jg Tryz.prog 156) rfl rfl rfl rfl ?_|refine JG.rd (ZI hn ms hm) (⟨_,Tryz.func156,rfl,rfl⟩:Jg Tryz.prog 156) rfl rfl rfl rfl ?_
 simp(maxSteps:=999999)(disch:=omega)only[go_sem,zA,zM,zS,zE,zL]
 intro g2
 refine Qx (fun(k g:Nat)=>r.cells.length -k) (fun k g=>k≤r.cells.length) (fun k g=>[.a, .k, .a, .k, .a, .a, .a, .p (.c (.own 1 g 0 k none)), .a, .a, .a, .a, .a, .a, .a, .a, .a, .a, .a, .a, .a, .a, .k, .k, .p (int k), .a, .a, .a, .a, .a, .a, .a, .a, .a, .a, .a, .a, .a, .a]) (fun k g=>[some ⟨g1,1,cR r⟩,some ⟨g,1,cl (eI .i64) (JN ((r.cells.take k).map fun c=>QH ms c.toNat))⟩]) 0 g2 (Nat.zero_le _) (by simp(maxSteps:=999999)(disch:=omega)only[go_sem,zA,zM,zS,zE,zL];rfl) (J5.refl _) ?_
 intro k g hk
 have hlen:(JN ((r.cells.take k).map fun c=>QH ms c.toNat)).length=k:=by rw[Qm,Qi,JX];omega
 simp(maxSteps:=999999)(disch:=omega)only[go_sem,zA,zM,zS,zE,zL]
 ((first|(with_reducible first|refine Jm ?_ ?_|refine Jj ?_ ?_|refine Jo ?_ ?_)|refine Jr ?_ ?_)<;>intro h1)
 · have h1:k<r.cells.length:=by omega
   have hc:=f3 _ (Q8 h1)
   obtain⟨c,hcc⟩:∃c:Nat,Jy r.cells k=c:=⟨(Jy r.cells k).toNat,by omega⟩
   have hcl:c<n*n:=by rw[hcc]at hc;omega
   have hmc:=Q4 ms c
   have hts:JN ((r.cells.take (k+1)).map fun c=>QH ms c.toNat)=JN ((r.cells.take k).map fun c=>QH ms c.toNat)++[((QH ms c:Nat):Int)]:=by
    rw[hrem,hrem,Qa h1,Qo,hcc]
    rfl
   simp(maxSteps:=999999)(disch:=omega)only[go_sem,zA,zM,zS,zE,zL,hcc,hmc]
   intro g3 g4
   exact⟨k+1,g4,⟨by omega,by omega⟩,⟨⟨rfl,rfl⟩,by push_cast;rfl⟩,ZY rfl (ZY (by rw[hts]) (J9 _))⟩
 · have hke:k=r.cells.length:=by omega
   subst hke
   rw[List.take_length]at hlen⊢
   have hre:WH r (JN ms) 0=r.cells.map fun c=>QH ms c.toNat:=by
    unfold WH
    rw[J1]
    refine List.map_congr_left fun c hc=> ?_
    rw[VH,Q4,Int.toNat_natCast]
   have hown:Qr [some ⟨g1,1,cR r⟩,some ⟨g,1,cl (eI .i64) (JN (r.cells.map fun c=>QH ms c.toNat))⟩] (.own 1 g 0 r.cells.length none) (JN (r.cells.map fun c=>QH ms c.toNat)) [1]:=by
    have:=Qr.o (H:=[some ⟨g1,1,cR r⟩,some ⟨g,1,cl (eI .i64) (JN (r.cells.map fun c=>QH ms c.toNat))⟩]) 1 g none (JN (r.cells.map fun c=>QH ms c.toNat)) [] (by rw[Jt];exact Qj (H:=[some ⟨g1,1,cR r⟩,some ⟨g,1,cl (eI .i64) (JN (r.cells.map fun c=>QH ms c.toNat))⟩]) (id:=1) (b:=⟨g,1,cl (eI .i64) (JN (r.cells.map fun c=>QH ms c.toNat))⟩) rfl)
    rwa [hlen]at this
   have hol:(r.cells.map fun c=>QH ms c.toNat).length=r.cells.length:=Qi _
   have hkk:r.kind=1∨r.kind=2∨r.kind=3∨(r.kind=4∨r.kind=5)∧2≤(r.cells.map fun c=>QH ms c.toNat).length:=by
    simp only[Qw,decide_eq_true_eq]at hv
    have:=hv.2.2
    unfold VG at this
    omega
   have hrun:=(KM r (r.cells.map fun c=>QH ms c.toNat) (by omega) (fun m hm'=>by
    obtain⟨c,hc,rfl⟩:=Qg.1 hm'
    have:=hm.lt hn c.toNat
    omega) hkk)
   rw[hol]at hrun
   unfold Zy
   rw[hre]
   simp(maxSteps:=999999)(disch:=omega)only[go_sem,zA,zM,zS,zE,zL]
   refine JU.mkDI hrun (⟨_,Tryz.func125,rfl,rfl⟩:Jg Tryz.prog 125) rfl rfl (QW rfl hown.snap) ?_
   intro c H' S ho _
   simp(maxSteps:=999999)(disch:=omega)only[go_sem,zA,zM,zS,zE,zL]
   exact JcO ho
theorem JaU(a b:List Int)(ha:a.length≤2^40):JM Tryz.prog 113 [QF a,QF b] (bool (decide (a=b))):=by
 refine Jk.cw (c:=_) Tryz.func113 rfl (n:=26) Tryz.ntmps113 (rs:=[.tmp 4]) rfl ?_
 simp only[Ja,Je,zA,zS,Jf,Jb,Jd]
 simp(maxSteps:=999999)(disch:=omega)only[go_sem,zA,zM,zS,zE,zL]
 ((first|(with_reducible first|refine Jm ?_ ?_|refine Jj ?_ ?_|refine Jo ?_ ?_)|refine Jr ?_ ?_)<;>intro h0)
 rotate_left
 · simp(maxSteps:=999999)(disch:=omega)only[go_sem,zA,zM,zS,zE,zL]
   have:a≠b:=fun h=>h0 (by rw[h])
   rw[decide_eq_false this]
 have hl:a.length=b.length:=by omega
 simp(maxSteps:=999999)(disch:=omega)only[go_sem,zA,zM,zS,zE,zL]
 refine JO (fun k:Nat=>a.length -k) (fun k=>k≤a.length∧∀j:Nat,j<k→Jy a j=Jy b j) (fun k=>[.k, .k, .a, .a, .a, .a, .a, .a, .a, .a, .a, .a, .k, .p (int k), .a, .a, .a, .a, .a, .a, .a, .a, .a, .a, .a, .a]) (fun _=>[]) 0 ⟨Nat.zero_le _,fun j hj=>absurd hj (Nat.not_lt_zero _)⟩ (by simp(maxSteps:=999999)(disch:=omega)only[go_sem,zA,zM,zS,zE,zL];rfl) (J9 _) ?_
 rintro k ⟨hk,hall⟩
 simp(maxSteps:=999999)(disch:=omega)only[go_sem,zA,zM,zS,zE,zL]
 ((first|(with_reducible first|refine Jm ?_ ?_|refine Jj ?_ ?_|refine Jo ?_ ?_)|refine Jr ?_ ?_)<;>intro h1)
 · have h1:k<a.length:=by omega
   simp(maxSteps:=999999)(disch:=omega)only[go_sem,zA,zM,zS,zE,zL]
   refine Zi ZE (by kernel_rfl) ?_
   simp(maxSteps:=999999)(disch:=omega)only[go_sem,Nat.reduceBEq,Bool.true_or,zA,zM,zS,zE,zL]
   ((first|(with_reducible first|refine Jm ?_ ?_|refine Jj ?_ ?_|refine Jo ?_ ?_)|refine Jr ?_ ?_)<;>intro h2)
   · simp(maxSteps:=999999)(disch:=omega)only[go_sem,zA,zM,zS,zE,zL]
     exact⟨k+1,⟨⟨by omega,fun j hj=>by
      by_cases hjk:j=k
      · rw[hjk];exact h2
      · exact hall j (by omega)⟩,by omega⟩,by push_cast;rfl,J9 _⟩
   · simp(maxSteps:=999999)(disch:=omega)only[go_sem,zA,zM,zS,zE,zL]
     have:a≠b:=fun h=>h2 (by rw[h])
     rw[decide_eq_false this]
 · have hke:k=a.length:=by omega
   have:a=b:=by
    refine List.ext_getElem hl fun i h1 h2=> ?_
    have:=hall i (by omega)
    rw[Qe (by omega),Qe (by omega)]at this
    exact this
   simp(maxSteps:=999999)(disch:=omega)only[go_sem,zA,zM,zS,zE,zL]
   rw[decide_eq_true this]
theorem GW(a b:List Int)(ha:a.length≤2^40):JM Tryz.prog 108 [QF a,QF b] (bool (decide (a=b))):=by
 refine Jk.cw (c:=_) Tryz.func108 rfl (n:=26) Tryz.ntmps108 (rs:=[.tmp 4]) rfl ?_
 simp only[Ja,Je,zA,zS,Jf,Jb,Jd]
 simp(maxSteps:=999999)(disch:=omega)only[go_sem,zA,zM,zS,zE,zL]
 ((first|(with_reducible first|refine Jm ?_ ?_|refine Jj ?_ ?_|refine Jo ?_ ?_)|refine Jr ?_ ?_)<;>intro h0)
 rotate_left
 · simp(maxSteps:=999999)(disch:=omega)only[go_sem,zA,zM,zS,zE,zL]
   have:a≠b:=fun h=>h0 (by rw[h])
   rw[decide_eq_false this]
 have hl:a.length=b.length:=by omega
 simp(maxSteps:=999999)(disch:=omega)only[go_sem,zA,zM,zS,zE,zL]
 refine JO (fun k:Nat=>a.length -k) (fun k=>k≤a.length∧∀j:Nat,j<k→Jy a j=Jy b j) (fun k=>[.k, .k, .a, .a, .a, .p (int k), .a, .a, .a, .a, .a, .a, .a, .a, .a, .a, .a, .a, .a, .a, .a, .a, .a, .a, .a, .a]) (fun _=>[]) 0 ⟨Nat.zero_le _,fun j hj=>absurd hj (Nat.not_lt_zero _)⟩ (by simp(maxSteps:=999999)(disch:=omega)only[go_sem,zA,zM,zS,zE,zL];rfl) (J9 _) ?_
 rintro k ⟨hk,hall⟩
 simp(maxSteps:=999999)(disch:=omega)only[go_sem,zA,zM,zS,zE,zL]
 ((first|(with_reducible first|refine Jm ?_ ?_|refine Jj ?_ ?_|refine Jo ?_ ?_)|refine Jr ?_ ?_)<;>intro h1)
 · have h1:k<a.length:=by omega
   simp(maxSteps:=999999)(disch:=omega)only[go_sem,zA,zM,zS,zE,zL]
   refine Zi ZE (by kernel_rfl) ?_
   simp(maxSteps:=999999)(disch:=omega)only[go_sem,Nat.reduceBEq,Bool.true_or,zA,zM,zS,zE,zL]
   ((first|(with_reducible first|refine Jm ?_ ?_|refine Jj ?_ ?_|refine Jo ?_ ?_)|refine Jr ?_ ?_)<;>intro h2)
   · simp(maxSteps:=999999)(disch:=omega)only[go_sem,zA,zM,zS,zE,zL]
     exact⟨k+1,⟨⟨by omega,fun j hj=>by
      by_cases hjk:j=k
      · rw[hjk];exact h2
      · exact hall j (by omega)⟩,by omega⟩,by push_cast;rfl,J9 _⟩
   · simp(maxSteps:=999999)(disch:=omega)only[go_sem,zA,zM,zS,zE,zL]
     have:a≠b:=fun h=>h2 (by rw[h])
     rw[decide_eq_false this]
 · have hke:k=a.length:=by omega
   have:a=b:=by
    refine List.ext_getElem hl fun i h1 h2=> ?_
    have:=hall i (by omega)
    rw[Qe (by omega),Qe (by omega)]at this
    exact this
   simp(maxSteps:=999999)(disch:=omega)only[go_sem,zA,zM,zS,zE,zL]
   rw[decide_eq_true this]
theorem Jaq(r:Zq)(ms:List Nat):(Zy r (JN ms)).length=r.cells.length:=by
 unfold Zy
 rw[VO _ _ _ _ (by unfold WH;simp)]
 simp
theorem Qr.look1{H:Jn}{c:CV}{zs:List Int}{S:List Nat}(h:Qr H c zs S)(hz:0<zs.length):∃(id g:Nat) (lim:Option Nat) (ys:List Int),c= .own id g 0 zs.length lim∧S=[id]∧look H id g=some ⟨g,1,cl (eI .i64) (zs++ys)⟩:=by
 cases h with
 |e=>simp at hz
 |o id g lim zs ys h=>exact⟨id,g,lim,ys,rfl,rfl,h⟩
theorem JeZ{zs ys:List Int}{j:Nat}(h:j<zs.length):Jy (zs++ys) j=Jy zs j:=by
 rw[Qe (by simp;omega),Qe (by omega)]
 simp only[Int.toNat_natCast,List.getElem_append_left h]
set_option maxHeartbeats 4000000 in
theorem FQ{p:QR}{n:Nat}(hp:Uq p n)(hv:JA p=true)(ms:List Nat)(hm:XG ms n):JM Tryz.prog 140 [aP p,QF (JN ms)] (QF (JN (Ye p ms))):=by
 have hn:=hp.hn
 have hsq:4≤n*n∧n*n≤16:=by rcases hn with rfl|rfl|rfl<;>omega
 have hl:(JN ms).length=n*n:=by rw[Qm];exact hm.len
 have hz:=hp.size
 have hrl:=hp.rl
 have hmv:=ZI hn ms hm
 rw[←hz]at hmv
 refine JM.ice (Q:=fun v H'=>Vu H' v=some (QF (JN (Ye p ms)))) ?_ (fun r H' h=>h)
 refine Jk.cw (c:=_) Tryz.func140 rfl (n:=51) Tryz.ntmps140 (rs:=[.tmp 4]) rfl ?_
 simp only[Ja,Je,zA,zS,Jf,Jb,Jd]
 simp(maxSteps:=999999)(disch:=omega)only[go_sem,zA,zM,zS,zE,zL]
 intro g0
 first|refine JU.rd (Qq p hp.sm) (⟨_,Tryz.func41,rfl,rfl⟩:Jg Tryz.prog 41) rfl rfl rfl rfl ?_|refine JG.rd (Qq p hp.sm) (⟨_,Tryz.func41,rfl,rfl⟩:Jg Tryz.prog 41) rfl rfl rfl rfl ?_
 simp(maxSteps:=999999)(disch:=omega)only[go_sem,zA,zM,zS,zE,zL]
 ((with_reducible first|refine JL ?_ ?_|refine JD ?_ ?_|refine JT ?_ ?_|refine Jv ?_ ?_|refine JJ ?_ ?_|refine JK ?_ ?_|refine JB ?_ ?_|refine JC ?_ ?_|refine JR ?_ ?_|refine JS ?_ ?_|refine Jw ?_ ?_|refine Jx ?_ ?_)<;>intro c1<;>simp(maxSteps:=999999)(disch:=omega)only[go_sem,zA,zM,zS,zE,zL,c1])
 rotate_left
 · exfalso;rw[hv]at c1;cases c1
 first|refine JU.rd (hmv) (⟨_,Tryz.func156,rfl,rfl⟩:Jg Tryz.prog 156) rfl rfl rfl rfl ?_|refine JG.rd (hmv) (⟨_,Tryz.func156,rfl,rfl⟩:Jg Tryz.prog 156) rfl rfl rfl rfl ?_
 simp(maxSteps:=999999)(disch:=omega)only[go_sem,zA,zM,zS,zE,zL]
 refine JU.mkQ (F2 (JN ms) (by omega) (by intro h;rw[h]at hl;simp at hl;omega)) (⟨_,Tryz.func89,rfl,rfl⟩:Jg Tryz.prog 89) rfl rfl rfl ?_
 rintro _ _ ⟨g,rfl,rfl⟩
 refine⟨rfl, ?_⟩
 simp(maxSteps:=999999)(disch:=omega)only[go_sem,zA,zM,zS,zE,zL]
 rw[hl]
 refine JO (fun k:Nat=>p.rules.length -k) (fun k=>k≤p.rules.length) (fun k=>[.a, .a, .k, .a, .a, .k, .a, .a, .a, .a, .a, .a, .a, .a, .a, .a, .a, .a, .a, .a, .a, .a, .a, .k, .k, .p (int k), .a, .a, .a, .a, .a, .a, .a, .a, .a, .a, .a, .a, .a, .a, .a, .a, .a, .a, .a, .a, .a, .a, .a, .a, .a]) (fun k=>[some ⟨g0,1,cP p⟩,some ⟨g,1,cl (eI .i64) (JN (BB p ms k))⟩]) 0 (Nat.zero_le _) (by simp(maxSteps:=999999)(disch:=omega)only[go_sem,zA,zM,zS,zE,zL];rfl) (J5.refl _) ?_
 intro k hk
 have hok:XG (BB p ms k) n:=Be _ hm
 simp(maxSteps:=999999)(disch:=omega)only[go_sem,zA,zM,zS,zE,zL]
 ((first|(with_reducible first|refine Jm ?_ ?_|refine Jj ?_ ?_|refine Jo ?_ ?_)|refine Jr ?_ ?_)<;>intro h1)
 · have h1:k<p.rules.length:=by omega
   have hsu:=Jar (ms:=ms) h1
   have hrv:=hp.rv _ (Q8 h1)
   generalize BB p ms k=o at hok hsu⊢
   have hol:(JN o).length=n*n:=by rw[Qm];exact hok.len
   simp(maxSteps:=999999)(disch:=omega)only[go_sem,zA,zM,zS,zE,zL]
   intro g2
   generalize Jy p.rules k=r at hsu hrv⊢
   have hown:Qr [some ⟨g0,1,cP p⟩,some ⟨g,1,cl (eI .i64) (JN o)⟩,some ⟨g2,3,[.f (.int .i64 r.kind), .f (Ql r.cells), .f (.int .i64 r.val)]⟩] (.own 1 g 0 (n*n) none) (JN o) [1]:=by
    have:=Qr.o (H:=[some ⟨g0,1,cP p⟩,some ⟨g,1,cl (eI .i64) (JN o)⟩,some ⟨g2,3,[.f (.int .i64 r.kind), .f (Ql r.cells), .f (.int .i64 r.val)]⟩]) 1 g none (JN o) [] (by rw[Jt];exact Qj (H:=[some ⟨g0,1,cP p⟩,some ⟨g,1,cl (eI .i64) (JN o)⟩,some ⟨g2,3,[.f (.int .i64 r.kind), .f (Ql r.cells), .f (.int .i64 r.val)]⟩]) (id:=1) (b:=⟨g,1,cl (eI .i64) (JN o)⟩) rfl)
    rwa [hol]at this
   have hrun:=N9 hn r o hrv hok
   rw[←hz]at hrun
   refine JU.mkDI hrun (⟨_,Tryz.func158,rfl,rfl⟩:Jg Tryz.prog 158) rfl rfl (W2 Jai hown.snap UU) ?_
   intro c H' S ho hS
   have hfl:=Jaq r o
   have hfn:(JN (Zy r (JN o))).length=r.cells.length:=by rw[Qm];exact hfl
   obtain⟨f1,f2,f3,f4⟩:=QV hrv
   obtain⟨cid,cg,lim,ys,rfl,hSe,hlk⟩:=ho.look1 (by omega)
   have hid:3≤cid:=(hS cid (by rw[hSe];simp)).1
   obtain⟨ci,rfl⟩:∃ci,cid=ci+3:=⟨cid -3,by omega⟩
   have hlk:look H' ci cg=some ⟨cg,1,cl (eI .i64) (JN (Zy r (JN o))++ys)⟩:=hlk
   have hst:Jco o r=BG r (Zy r (JN o)) o r.cells.length:=rfl
   have hfd:∀j:Nat,j<r.cells.length→Jy (JN (Zy r (JN o))++ys) j=(((Zy r (JN o)).getD j 0:Nat):Int):=fun j hj=>by rw[JeZ (by omega),Q4];rfl
   have hpl:=Gt r (Zy r (JN o)) o
   rw[hst]at hsu
   rw[hfn]
   generalize Zy r (JN o)=fd at hsu hlk hfd hfn hpl⊢
   have hyl:(JN fd++ys).length=r.cells.length+ys.length:=by rw[Jq,hfn]
   generalize JN fd++ys=zs at hlk hfd hyl
   simp(maxSteps:=999999)(disch:=omega)only[go_sem,zA,zM,zS,zE,zL,hlk]
   refine JO (fun j:Nat=>r.cells.length -j) (fun j=>j≤r.cells.length) (fun j=>[.a, .a, .k, .a, .a, .k, .a, .k, .a, .a, .a, .a, .a, .a, .a, .a, .a, .a, .a, .a, .a, .a, .a, .k, .k, .k, .a, .a, .a, .a, .a, .a, .a, .k, .k, .p (int j), .a, .a, .a, .a, .a, .a, .a, .a, .a, .a, .a, .a, .a, .a, .a]) (fun j=>some ⟨g0,1,cP p⟩::some ⟨g,1,cl (eI .i64) (JN (BG r fd o j))⟩::some ⟨g2,3,[.f (.int .i64 r.kind), .f (Ql r.cells), .f (.int .i64 r.val)]⟩::H') 0 (Nat.zero_le _) (by simp(maxSteps:=999999)(disch:=omega)only[go_sem,zA,zM,zS,zE,zL];rfl) (J5.refl _) ?_
   intro j hj
   simp(maxSteps:=999999)(disch:=omega)only[go_sem,zA,zM,zS,zE,zL]
   ((first|(with_reducible first|refine Jm ?_ ?_|refine Jj ?_ ?_|refine Jo ?_ ?_)|refine Jr ?_ ?_)<;>intro h2)
   · have h2:j<r.cells.length:=by omega
     have hcj:=f3 _ (Q8 h2)
     have hps:=XM r fd o j
     have hfj:=hfd j h2
     obtain⟨q,hq⟩:∃q:Nat,Jy r.cells j=q:=⟨(Jy r.cells j).toNat,by omega⟩
     rw[hq,Int.toNat_natCast]at hps
     have hqn:q<n*n:=by rw[hq]at hcj;omega
     have hQl:(JN (BG r fd o j)).length=n*n:=by rw[Qm,hpl];exact hok.len
     simp(maxSteps:=999999)(disch:=omega)only[go_sem,zA,zM,zS,zE,zL,hlk,hfj,hq,hQl]
     exact⟨j+1,⟨by omega,by omega⟩,by push_cast;rfl,ZY rfl (ZY (by rw[hps,←Vr,Int.toNat_natCast]) (J5.refl _))⟩
   · have hje:j=r.cells.length:=by omega
     subst hje
     rw[←hsu]
     simp(maxSteps:=999999)(disch:=omega)only[go_sem,zA,zM,zS,zE,zL]
     exact⟨k+1,⟨by omega,by omega⟩,by push_cast;rfl,ZY rfl (ZY rfl (J9 _))⟩
 · have hke:k=p.rules.length:=by omega
   have hM:BB p ms k=Ye p ms:=by rw[hke];unfold BB Ye;rw[List.take_length]
   rw[hM]at hok⊢
   have hl2:(JN (Ye p ms)).length=n*n:=by rw[Qm];exact hok.len
   simp(maxSteps:=999999)(disch:=omega)only[go_sem,zA,zM,zS,zE,zL]
   rw[←hl2]
   exact⟨_,J5.refl _,XV (E:=eI .i64) (n:=1) (Qj (H:=[some ⟨g0,1,cP p⟩,some ⟨g,1,cl (eI .i64) (JN (Ye p ms))⟩]) (id:=1) (b:=⟨g,1,cl (eI .i64) (JN (Ye p ms))⟩) rfl)⟩
end Go.Lg

namespace Go.Lg
open Go.Proofs
set_option maxHeartbeats 4000000 in
theorem Bz{p:QR}{n:Nat}(hp:Uq p n)(hv:JA p=true)(ms:List Nat)(hm:XG ms n):JM Tryz.prog 135 [aP p,QF (JN ms)] (QF (JN (Ye p ms))):=by
 have hn:=hp.hn
 have hsq:4≤n*n∧n*n≤16:=by rcases hn with rfl|rfl|rfl<;>omega
 have hl:(JN ms).length=n*n:=by rw[Qm];exact hm.len
 have hz:=hp.size
 have hrl:=hp.rl
 have hmv:=Ze hn (JN ms) hm.ok
 rw[←hz]at hmv
 refine JM.ice (Q:=fun v H'=>Vu H' v=some (QF (JN (Ye p ms)))) ?_ (fun r H' h=>h)
 refine Jk.cw (c:=_) Tryz.func135 rfl (n:=59) Tryz.ntmps135 (rs:=[.tmp 4]) rfl ?_
 simp only[Ja,Je,zA,zS,Jf,Jb,Jd]
 simp(maxSteps:=999999)(disch:=omega)only[go_sem,zA,zM,zS,zE,zL]
 intro g0
 first|refine JU.rd (Qt p hp.sm) (⟨_,Tryz.func38,rfl,rfl⟩:Jg Tryz.prog 38) rfl rfl rfl rfl ?_|refine JG.rd (Qt p hp.sm) (⟨_,Tryz.func38,rfl,rfl⟩:Jg Tryz.prog 38) rfl rfl rfl rfl ?_
 simp(maxSteps:=999999)(disch:=omega)only[go_sem,zA,zM,zS,zE,zL]
 ((with_reducible first|refine JL ?_ ?_|refine JD ?_ ?_|refine JT ?_ ?_|refine Jv ?_ ?_|refine JJ ?_ ?_|refine JK ?_ ?_|refine JB ?_ ?_|refine JC ?_ ?_|refine JR ?_ ?_|refine JS ?_ ?_|refine Jw ?_ ?_|refine Jx ?_ ?_)<;>intro c1<;>simp(maxSteps:=999999)(disch:=omega)only[go_sem,zA,zM,zS,zE,zL,c1])
 rotate_left
 · exfalso;rw[hv]at c1;cases c1
 first|refine JU.rd (hmv) (⟨_,Tryz.func131,rfl,rfl⟩:Jg Tryz.prog 131) rfl rfl rfl rfl ?_|refine JG.rd (hmv) (⟨_,Tryz.func131,rfl,rfl⟩:Jg Tryz.prog 131) rfl rfl rfl rfl ?_
 simp(maxSteps:=999999)(disch:=omega)only[go_sem,zA,zM,zS,zE,zL]
 refine JU.mkQ (Yk (JN ms) (by omega) (by intro h;rw[h]at hl;simp at hl;omega)) (⟨_,Tryz.func153,rfl,rfl⟩:Jg Tryz.prog 153) rfl rfl rfl ?_
 rintro _ _ ⟨g,rfl,rfl⟩
 refine⟨rfl, ?_⟩
 simp(maxSteps:=999999)(disch:=omega)only[go_sem,zA,zM,zS,zE,zL]
 rw[hl]
 refine JO (fun k:Nat=>p.rules.length -k) (fun k=>k≤p.rules.length) (fun k=>[.a, .a, .k, .a, .a, .k, .p (int k), .a, .a, .a, .a, .a, .a, .a, .a, .a, .a, .a, .a, .a, .a, .a, .a, .a, .a, .a, .a, .a, .a, .a, .a, .a, .a, .a, .a, .a, .a, .a, .a, .a, .a, .a, .a, .a, .a, .a, .a, .a, .a, .a, .a, .a, .a, .a, .a, .a, .a, .a, .a]) (fun k=>[some ⟨g0,1,cP p⟩,some ⟨g,1,cl (eI .i64) (JN (BB p ms k))⟩]) 0 (Nat.zero_le _) (by simp(maxSteps:=999999)(disch:=omega)only[go_sem,zA,zM,zS,zE,zL];rfl) (J5.refl _) ?_
 intro k hk
 have hok:XG (BB p ms k) n:=Be _ hm
 simp(maxSteps:=999999)(disch:=omega)only[go_sem,zA,zM,zS,zE,zL]
 ((first|(with_reducible first|refine Jm ?_ ?_|refine Jj ?_ ?_|refine Jo ?_ ?_)|refine Jr ?_ ?_)<;>intro h1)
 · have h1:k<p.rules.length:=by omega
   have hsu:=Jar (ms:=ms) h1
   have hrv:=hp.rv _ (Q8 h1)
   generalize BB p ms k=o at hok hsu⊢
   have hol:(JN o).length=n*n:=by rw[Qm];exact hok.len
   simp(maxSteps:=999999)(disch:=omega)only[go_sem,zA,zM,zS,zE,zL]
   intro g2
   generalize Jy p.rules k=r at hsu hrv⊢
   have hown:Qr [some ⟨g0,1,cP p⟩,some ⟨g,1,cl (eI .i64) (JN o)⟩,some ⟨g2,3,[.f (.int .i64 r.kind), .f (Ql r.cells), .f (.int .i64 r.val)]⟩] (.own 1 g 0 (n*n) none) (JN o) [1]:=by
    have:=Qr.o (H:=[some ⟨g0,1,cP p⟩,some ⟨g,1,cl (eI .i64) (JN o)⟩,some ⟨g2,3,[.f (.int .i64 r.kind), .f (Ql r.cells), .f (.int .i64 r.val)]⟩]) 1 g none (JN o) [] (by rw[Jt];exact Qj (H:=[some ⟨g0,1,cP p⟩,some ⟨g,1,cl (eI .i64) (JN o)⟩,some ⟨g2,3,[.f (.int .i64 r.kind), .f (Ql r.cells), .f (.int .i64 r.val)]⟩]) (id:=1) (b:=⟨g,1,cl (eI .i64) (JN o)⟩) rfl)
    rwa [hol]at this
   have hrun:=Ja3 hn r o hrv hok
   rw[←hz]at hrun
   refine JU.mkDI hrun (⟨_,Tryz.func155,rfl,rfl⟩:Jg Tryz.prog 155) rfl rfl (W2 Jai hown.snap UU) ?_
   intro c H' S ho hS
   have hfl:=Jaq r o
   have hfn:(JN (Zy r (JN o))).length=r.cells.length:=by rw[Qm];exact hfl
   obtain⟨f1,f2,f3,f4⟩:=QV hrv
   obtain⟨cid,cg,lim,ys,rfl,hSe,hlk⟩:=ho.look1 (by omega)
   have hid:3≤cid:=(hS cid (by rw[hSe];simp)).1
   obtain⟨ci,rfl⟩:∃ci,cid=ci+3:=⟨cid -3,by omega⟩
   have hlk:look H' ci cg=some ⟨cg,1,cl (eI .i64) (JN (Zy r (JN o))++ys)⟩:=hlk
   have hst:Jco o r=BG r (Zy r (JN o)) o r.cells.length:=rfl
   have hfd:∀j:Nat,j<r.cells.length→Jy (JN (Zy r (JN o))++ys) j=(((Zy r (JN o)).getD j 0:Nat):Int):=fun j hj=>by rw[JeZ (by omega),Q4];rfl
   have hpl:=Gt r (Zy r (JN o)) o
   rw[hst]at hsu
   rw[hfn]
   generalize Zy r (JN o)=fd at hsu hlk hfd hfn hpl⊢
   have hyl:(JN fd++ys).length=r.cells.length+ys.length:=by rw[Jq,hfn]
   generalize JN fd++ys=zs at hlk hfd hyl
   simp(maxSteps:=999999)(disch:=omega)only[go_sem,zA,zM,zS,zE,zL,hlk]
   refine JO (fun j:Nat=>r.cells.length -j) (fun j=>j≤r.cells.length) (fun j=>[.a, .a, .k, .a, .a, .k, .k, .k, .k, .p (int j), .a, .a, .a, .a, .a, .a, .a, .a, .a, .a, .a, .a, .a, .a, .a, .a, .a, .a, .a, .a, .a, .a, .a, .a, .a, .a, .a, .a, .a, .a, .a, .a, .a, .a, .a, .a, .a, .a, .a, .a, .a, .a, .a, .a, .a, .a, .a, .a, .a]) (fun j=>some ⟨g0,1,cP p⟩::some ⟨g,1,cl (eI .i64) (JN (BG r fd o j))⟩::some ⟨g2,3,[.f (.int .i64 r.kind), .f (Ql r.cells), .f (.int .i64 r.val)]⟩::H') 0 (Nat.zero_le _) (by simp(maxSteps:=999999)(disch:=omega)only[go_sem,zA,zM,zS,zE,zL];rfl) (J5.refl _) ?_
   intro j hj
   simp(maxSteps:=999999)(disch:=omega)only[go_sem,zA,zM,zS,zE,zL]
   ((first|(with_reducible first|refine Jm ?_ ?_|refine Jj ?_ ?_|refine Jo ?_ ?_)|refine Jr ?_ ?_)<;>intro h2)
   · have h2:j<r.cells.length:=by omega
     have hcj:=f3 _ (Q8 h2)
     have hps:=XM r fd o j
     have hfj:=hfd j h2
     obtain⟨q,hq⟩:∃q:Nat,Jy r.cells j=q:=⟨(Jy r.cells j).toNat,by omega⟩
     rw[hq,Int.toNat_natCast]at hps
     have hqn:q<n*n:=by rw[hq]at hcj;omega
     have hQl:(JN (BG r fd o j)).length=n*n:=by rw[Qm,hpl];exact hok.len
     simp(maxSteps:=999999)(disch:=omega)only[go_sem,zA,zM,zS,zE,zL]
     have hM:∀b,look (ZD [] (some ⟨g0,1,cP p⟩::b::some ⟨g2,3,[.f (.int .i64 r.kind), .f (Ql r.cells), .f (.int .i64 r.val)]⟩::H')) (ci+3) cg=some ⟨cg,1,cl (eI .i64) zs⟩:=fun b=>hlk
     refine Ug [0,1,2,3,4,5,6,7,8,9] [] none [10,11] [] ZE (by kernel_rfl) ?_
     simp(maxSteps:=999999)(disch:=omega)only[go_sem,Nat.reduceBEq,Bool.true_or,zA,zM,zS,zE,zL]
     simp(maxSteps:=999999)(disch:=omega)only[go_sem,zA,zM,zS,zE,zL,hlk,hfj,hq,hQl]
     exact⟨j+1,⟨by omega,by omega⟩,by push_cast;rfl,ZY rfl (ZY (by rw[hps,←Vr,Int.toNat_natCast]) (J5.refl _))⟩
   · have hje:j=r.cells.length:=by omega
     subst hje
     rw[←hsu]
     simp(maxSteps:=999999)(disch:=omega)only[go_sem,zA,zM,zS,zE,zL]
     exact⟨k+1,⟨by omega,by omega⟩,by push_cast;rfl,ZY rfl (ZY rfl (J9 _))⟩
 · have hke:k=p.rules.length:=by omega
   have hM:BB p ms k=Ye p ms:=by rw[hke];unfold BB Ye;rw[List.take_length]
   rw[hM]at hok⊢
   have hl2:(JN (Ye p ms)).length=n*n:=by rw[Qm];exact hok.len
   simp(maxSteps:=999999)(disch:=omega)only[go_sem,zA,zM,zS,zE,zL]
   rw[←hl2]
   exact⟨_,J5.refl _,XV (E:=eI .i64) (n:=1) (Qj (H:=[some ⟨g0,1,cP p⟩,some ⟨g,1,cl (eI .i64) (JN (Ye p ms))⟩]) (id:=1) (b:=⟨g,1,cl (eI .i64) (JN (Ye p ms))⟩) rfl)⟩
end Go.Lg
