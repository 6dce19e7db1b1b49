/- GpMH, GpMI, cut to what is needed. -/
import Derived.Test.YtidekghnkifbjaaGreatDoorJac8
import Derived.Test.YtidekghnkifbjaaGreatDoorJac5
open List renaming cons_append → Ja, nil_append → Jc, replicate → Jd, length_cons → Je, length_nil → Jf, length_append → Jk, append_nil → Ju, length_take → JL, drop_zero → JQ, mem_map → Qh, length_map → Qr, map_append → QB
open Nat renaming reduceAdd→zA,reduceMul→zM,reduceSub→zS,reduceEqDiff→zE,reduceLeDiff→zL
set_option linter.unusedSimpArgs false
set_option linter.unusedVariables false
set_option maxRecDepth 100000
namespace Go.Lg
open Go.Proofs
theorem Jak{H:Jm}{r:ZS}:Zx H (aR r)=some (aR r):=rfl
theorem JjQ{r:ZS}{n:Nat}(hn:n=2∨n=3∨n=4)(hv:Qk r n=true){ms:List Nat}(hm:Xv ms n):JkO r (JR ms):=by
 obtain⟨f1,f2,f3,f4⟩:=Q1 hv
 have hsq:n*n≤16:=by rcases hn with rfl|rfl|rfl<;>omega
 have hl:=hm.len
 refine⟨f1.2,f2,fun c hc=> ?_,by rw[Qp];omega⟩
 obtain⟨h1,h2⟩:=f3 c hc
 obtain⟨k,rfl⟩:∃k:Nat,c=k:=⟨c.toNat,by omega⟩
 have:=hm.lt hn k
 rw[Qp,Za]
 omega
theorem JcM{H:Jm}{c:CV}{zs:List Int}{S:List Nat}(h:Qw H c zs S):Uy H (Wa zs) (.c c):=⟨Kc S H,Kb S H,c,S,rfl,h.same (fun i hi=>XQ hi (h.lt i hi)),W6 h.blk⟩
theorem Ja0{n:Nat}(hn:n=2∨n=3∨n=4)(r:ZS)(ms:List Nat)(hv:Qk r n=true)(hm:Xv ms n):Jn Tryz.prog 155 [aR r,QG (JR ms),int n] [] (Wa (JR (Zy r (JR ms)))):=
 YX hn r (JR ms) hv hm.ok (JjQ hn hv hm)
set_option maxHeartbeats 2000000 in
theorem Jaa{n:Nat}(hn:n=2∨n=3∨n=4)(r:ZS)(ms:List Nat)(hv:Qk r n=true)(hm:Xv ms n):Jn Tryz.prog 158 [aR r,QG (JR ms),int n] [] (Wa (JR (Zy r (JR ms)))):=by
 obtain⟨f1,f2,f3,f4⟩:=Q1 hv
 have hl:=hm.len
 have hnl:(JR ms).length=n*n:=by rw[Qp];exact hl
 have hrem:∀k,JR ((r.cells.take k).map fun c=>QH ms c.toNat)=(r.cells.take k).map fun c=>((QH ms c.toNat:Nat):Int):=fun k=>by unfold JR;rw[List.map_map];rfl
 refine Jn.cw (c:=_) Tryz.func158 rfl (n:=39) Tryz.ntmps158 (rs:=[.tmp 6]) rfl ?_
 simp only[Je,Jf,zA,zS,Jd,Ja,Jc]
 simp(maxSteps:=999999)(disch:=omega)only[go_sem,zA,zM,zS,zE,zL]
 intro g1
 first|refine JY.rd (Wp r n (by omega)) (⟨_,Tryz.func86,rfl,rfl⟩:Jh Tryz.prog 86) rfl rfl rfl rfl ?_|refine JM.rd (Wp r n (by omega)) (⟨_,Tryz.func86,rfl,rfl⟩:Jh Tryz.prog 86) rfl rfl rfl rfl ?_
 simp(maxSteps:=999999)(disch:=omega)only[go_sem,zA,zM,zS,zE,zL]
 ((with_reducible first|refine JH ?_ ?_|refine JD ?_ ?_|refine JP ?_ ?_|refine Jv ?_ ?_|refine JF ?_ ?_|refine JG ?_ ?_|refine JB ?_ ?_|refine JC ?_ ?_|refine JN ?_ ?_|refine JO ?_ ?_|refine Jw ?_ ?_|refine Jx ?_ ?_)<;>intro c1<;>simp(maxSteps:=999999)(disch:=omega)only[go_sem,zA,zM,zS,zE,zL,c1])
 rotate_left
 · exfalso;rw[hv]at c1;cases c1
 first|refine JY.rd (ZN hn ms hm) (⟨_,Tryz.func156,rfl,rfl⟩:Jh Tryz.prog 156) rfl rfl rfl rfl ?_|refine JM.rd (ZN hn ms hm) (⟨_,Tryz.func156,rfl,rfl⟩:Jh Tryz.prog 156) rfl rfl rfl rfl ?_
 simp(maxSteps:=999999)(disch:=omega)only[go_sem,zA,zM,zS,zE,zL]
 intro g2
 refine Qv (fun(k g:Nat)=>r.cells.length -k) (fun k g=>k≤r.cells.length) (fun k g=>[.a, .k, .a, .k, .a, .a, .a, .p (.c (.own 1 g 0 k none)), .a, .a, .a, .a, .a, .a, .a, .a, .a, .a, .a, .a, .a, .a, .k, .k, .p (int k), .a, .a, .a, .a, .a, .a, .a, .a, .a, .a, .a, .a, .a, .a]) (fun k g=>[some ⟨g1,1,cR r⟩,some ⟨g,1,cl (eI .i64) (JR ((r.cells.take k).map fun c=>QH ms c.toNat))⟩]) 0 g2 (Nat.zero_le _) (by simp(maxSteps:=999999)(disch:=omega)only[go_sem,zA,zM,zS,zE,zL];rfl) (J0.refl _) ?_
 intro k g hk
 have hlen:(JR ((r.cells.take k).map fun c=>QH ms c.toNat)).length=k:=by rw[Qp,Qr,JL];omega
 simp(maxSteps:=999999)(disch:=omega)only[go_sem,zA,zM,zS,zE,zL]
 ((first|(with_reducible first|refine Jl ?_ ?_|refine Jj ?_ ?_|refine Jp ?_ ?_)|refine Jr ?_ ?_)<;>intro h1)
 · have h1:k<r.cells.length:=by omega
   have hc:=f3 _ (ZX h1)
   obtain⟨c,hcc⟩:∃c:Nat,JA r.cells k=c:=⟨(JA r.cells k).toNat,by omega⟩
   have hcl:c<n*n:=by rw[hcc]at hc;omega
   have hmc:=Za ms c
   have hts:JR ((r.cells.take (k+1)).map fun c=>QH ms c.toNat)=JR ((r.cells.take k).map fun c=>QH ms c.toNat)++[((QH ms c:Nat):Int)]:=by
    rw[hrem,hrem,Ql h1,QB,hcc]
    rfl
   simp(maxSteps:=999999)(disch:=omega)only[go_sem,zA,zM,zS,zE,zL,hcc,hmc]
   intro g3 g4
   exact⟨k+1,g4,⟨by omega,by omega⟩,⟨⟨rfl,rfl⟩,by push_cast;rfl⟩,ZU rfl (ZU (by rw[hts]) (Qt _))⟩
 · have hke:k=r.cells.length:=by omega
   subst hke
   rw[List.take_length]at hlen⊢
   have hre:WN r (JR ms) 0=r.cells.map fun c=>QH ms c.toNat:=by
    unfold WN
    rw[JQ]
    refine List.map_congr_left fun c hc=> ?_
    rw[UZ,Za,Int.toNat_natCast]
   have hown:Qw [some ⟨g1,1,cR r⟩,some ⟨g,1,cl (eI .i64) (JR (r.cells.map fun c=>QH ms c.toNat))⟩] (.own 1 g 0 r.cells.length none) (JR (r.cells.map fun c=>QH ms c.toNat)) [1]:=by
    have:=Qw.o (H:=[some ⟨g1,1,cR r⟩,some ⟨g,1,cl (eI .i64) (JR (r.cells.map fun c=>QH ms c.toNat))⟩]) 1 g none (JR (r.cells.map fun c=>QH ms c.toNat)) [] (by rw[Ju];exact J6 (H:=[some ⟨g1,1,cR r⟩,some ⟨g,1,cl (eI .i64) (JR (r.cells.map fun c=>QH ms c.toNat))⟩]) (id:=1) (b:=⟨g,1,cl (eI .i64) (JR (r.cells.map fun c=>QH ms c.toNat))⟩) rfl)
    rwa [hlen]at this
   have hol:(r.cells.map fun c=>QH ms c.toNat).length=r.cells.length:=Qr _
   have hkk:r.kind=1∨r.kind=2∨r.kind=3∨(r.kind=4∨r.kind=5)∧2≤(r.cells.map fun c=>QH ms c.toNat).length:=by
    simp only[Qk,decide_eq_true_eq]at hv
    have:=hv.2.2
    unfold UY at this
    omega
   have hrun:=(K0 r (r.cells.map fun c=>QH ms c.toNat) (by omega) (fun m hm'=>by
    obtain⟨c,hc,rfl⟩:=Qh.1 hm'
    have:=hm.lt hn c.toNat
    omega) hkk)
   rw[hol]at hrun
   unfold Zy
   rw[hre]
   simp(maxSteps:=999999)(disch:=omega)only[go_sem,zA,zM,zS,zE,zL]
   refine JY.mkDI hrun (⟨_,Tryz.func125,rfl,rfl⟩:Jh Tryz.prog 125) rfl rfl (US rfl hown.snap) ?_
   intro c H' S ho _
   simp(maxSteps:=999999)(disch:=omega)only[go_sem,zA,zM,zS,zE,zL]
   exact JcM ho
theorem JaR(a b:List Int)(ha:a.length≤2^40):JW Tryz.prog 113 [QG a,QG b] (bool (decide (a=b))):=by
 refine Jn.cw (c:=_) Tryz.func113 rfl (n:=26) Tryz.ntmps113 (rs:=[.tmp 4]) rfl ?_
 simp only[Je,Jf,zA,zS,Jd,Ja,Jc]
 simp(maxSteps:=999999)(disch:=omega)only[go_sem,zA,zM,zS,zE,zL]
 ((first|(with_reducible first|refine Jl ?_ ?_|refine Jj ?_ ?_|refine Jp ?_ ?_)|refine Jr ?_ ?_)<;>intro h0)
 rotate_left
 · simp(maxSteps:=999999)(disch:=omega)only[go_sem,zA,zM,zS,zE,zL]
   have:a≠b:=fun h=>h0 (by rw[h])
   rw[decide_eq_false this]
 have hl:a.length=b.length:=by omega
 simp(maxSteps:=999999)(disch:=omega)only[go_sem,zA,zM,zS,zE,zL]
 refine JT (fun k:Nat=>a.length -k) (fun k=>k≤a.length∧∀j:Nat,j<k→JA a j=JA b j) (fun k=>[.k, .k, .a, .a, .a, .a, .a, .a, .a, .a, .a, .a, .k, .p (int k), .a, .a, .a, .a, .a, .a, .a, .a, .a, .a, .a, .a]) (fun _=>[]) 0 ⟨Nat.zero_le _,fun j hj=>absurd hj (Nat.not_lt_zero _)⟩ (by simp(maxSteps:=999999)(disch:=omega)only[go_sem,zA,zM,zS,zE,zL];rfl) (Qt _) ?_
 rintro k ⟨hk,hall⟩
 simp(maxSteps:=999999)(disch:=omega)only[go_sem,zA,zM,zS,zE,zL]
 ((first|(with_reducible first|refine Jl ?_ ?_|refine Jj ?_ ?_|refine Jp ?_ ?_)|refine Jr ?_ ?_)<;>intro h1)
 · have h1:k<a.length:=by omega
   simp(maxSteps:=999999)(disch:=omega)only[go_sem,zA,zM,zS,zE,zL]
   refine Zj Zd (by kernel_rfl) ?_
   simp(maxSteps:=999999)(disch:=omega)only[go_sem,Nat.reduceBEq,Bool.true_or,zA,zM,zS,zE,zL]
   ((first|(with_reducible first|refine Jl ?_ ?_|refine Jj ?_ ?_|refine Jp ?_ ?_)|refine Jr ?_ ?_)<;>intro h2)
   · simp(maxSteps:=999999)(disch:=omega)only[go_sem,zA,zM,zS,zE,zL]
     exact⟨k+1,⟨⟨by omega,fun j hj=>by
      by_cases hjk:j=k
      · rw[hjk];exact h2
      · exact hall j (by omega)⟩,by omega⟩,by push_cast;rfl,Qt _⟩
   · simp(maxSteps:=999999)(disch:=omega)only[go_sem,zA,zM,zS,zE,zL]
     have:a≠b:=fun h=>h2 (by rw[h])
     rw[decide_eq_false this]
 · have hke:k=a.length:=by omega
   have:a=b:=by
    refine List.ext_getElem hl fun i h1 h2=> ?_
    have:=hall i (by omega)
    rw[Qs (by omega),Qs (by omega)]at this
    exact this
   simp(maxSteps:=999999)(disch:=omega)only[go_sem,zA,zM,zS,zE,zL]
   rw[decide_eq_true this]
theorem GZ(a b:List Int)(ha:a.length≤2^40):JW Tryz.prog 108 [QG a,QG b] (bool (decide (a=b))):=by
 refine Jn.cw (c:=_) Tryz.func108 rfl (n:=26) Tryz.ntmps108 (rs:=[.tmp 4]) rfl ?_
 simp only[Je,Jf,zA,zS,Jd,Ja,Jc]
 simp(maxSteps:=999999)(disch:=omega)only[go_sem,zA,zM,zS,zE,zL]
 ((first|(with_reducible first|refine Jl ?_ ?_|refine Jj ?_ ?_|refine Jp ?_ ?_)|refine Jr ?_ ?_)<;>intro h0)
 rotate_left
 · simp(maxSteps:=999999)(disch:=omega)only[go_sem,zA,zM,zS,zE,zL]
   have:a≠b:=fun h=>h0 (by rw[h])
   rw[decide_eq_false this]
 have hl:a.length=b.length:=by omega
 simp(maxSteps:=999999)(disch:=omega)only[go_sem,zA,zM,zS,zE,zL]
 refine JT (fun k:Nat=>a.length -k) (fun k=>k≤a.length∧∀j:Nat,j<k→JA a j=JA b j) (fun k=>[.k, .k, .a, .a, .a, .p (int k), .a, .a, .a, .a, .a, .a, .a, .a, .a, .a, .a, .a, .a, .a, .a, .a, .a, .a, .a, .a]) (fun _=>[]) 0 ⟨Nat.zero_le _,fun j hj=>absurd hj (Nat.not_lt_zero _)⟩ (by simp(maxSteps:=999999)(disch:=omega)only[go_sem,zA,zM,zS,zE,zL];rfl) (Qt _) ?_
 rintro k ⟨hk,hall⟩
 simp(maxSteps:=999999)(disch:=omega)only[go_sem,zA,zM,zS,zE,zL]
 ((first|(with_reducible first|refine Jl ?_ ?_|refine Jj ?_ ?_|refine Jp ?_ ?_)|refine Jr ?_ ?_)<;>intro h1)
 · have h1:k<a.length:=by omega
   simp(maxSteps:=999999)(disch:=omega)only[go_sem,zA,zM,zS,zE,zL]
   refine Zj Zd (by kernel_rfl) ?_
   simp(maxSteps:=999999)(disch:=omega)only[go_sem,Nat.reduceBEq,Bool.true_or,zA,zM,zS,zE,zL]
   ((first|(with_reducible first|refine Jl ?_ ?_|refine Jj ?_ ?_|refine Jp ?_ ?_)|refine Jr ?_ ?_)<;>intro h2)
   · simp(maxSteps:=999999)(disch:=omega)only[go_sem,zA,zM,zS,zE,zL]
     exact⟨k+1,⟨⟨by omega,fun j hj=>by
      by_cases hjk:j=k
      · rw[hjk];exact h2
      · exact hall j (by omega)⟩,by omega⟩,by push_cast;rfl,Qt _⟩
   · simp(maxSteps:=999999)(disch:=omega)only[go_sem,zA,zM,zS,zE,zL]
     have:a≠b:=fun h=>h2 (by rw[h])
     rw[decide_eq_false this]
 · have hke:k=a.length:=by omega
   have:a=b:=by
    refine List.ext_getElem hl fun i h1 h2=> ?_
    have:=hall i (by omega)
    rw[Qs (by omega),Qs (by omega)]at this
    exact this
   simp(maxSteps:=999999)(disch:=omega)only[go_sem,zA,zM,zS,zE,zL]
   rw[decide_eq_true this]
theorem Jan(r:ZS)(ms:List Nat):(Zy r (JR ms)).length=r.cells.length:=by
 unfold Zy
 rw[VO _ _ _ _ (by unfold WN;simp)]
 simp
theorem Qw.look1{H:Jm}{c:CV}{zs:List Int}{S:List Nat}(h:Qw H c zs S)(hz:0<zs.length):∃(id g:Nat) (lim:Option Nat) (ys:List Int),c= .own id g 0 zs.length lim∧S=[id]∧look H id g=some ⟨g,1,cl (eI .i64) (zs++ys)⟩:=by
 cases h with
 |e=>simp at hz
 |o id g lim zs ys h=>exact⟨id,g,lim,ys,rfl,rfl,h⟩
theorem Je3{zs ys:List Int}{j:Nat}(h:j<zs.length):JA (zs++ys) j=JA zs j:=by
 rw[Qs (by simp;omega),Qs (by omega)]
 simp only[Int.toNat_natCast,List.getElem_append_left h]
set_option maxHeartbeats 4000000 in
theorem FW{p:QV}{n:Nat}(hp:Ub p n)(hv:Jy p=true)(ms:List Nat)(hm:Xv ms n):JW Tryz.prog 140 [aP p,QG (JR ms)] (QG (JR (Yg p ms))):=by
 have hn:=hp.hn
 have hsq:4≤n*n∧n*n≤16:=by rcases hn with rfl|rfl|rfl<;>omega
 have hl:(JR ms).length=n*n:=by rw[Qp];exact hm.len
 have hz:=hp.size
 have hrl:=hp.rl
 have hmv:=ZN hn ms hm
 rw[←hz]at hmv
 refine JW.ice (Q:=fun v H'=>VZ H' v=some (QG (JR (Yg p ms)))) ?_ (fun r H' h=>h)
 refine Jn.cw (c:=_) Tryz.func140 rfl (n:=51) Tryz.ntmps140 (rs:=[.tmp 4]) rfl ?_
 simp only[Je,Jf,zA,zS,Jd,Ja,Jc]
 simp(maxSteps:=999999)(disch:=omega)only[go_sem,zA,zM,zS,zE,zL]
 intro g0
 first|refine JY.rd (Qb p hp.sm) (⟨_,Tryz.func41,rfl,rfl⟩:Jh Tryz.prog 41) rfl rfl rfl rfl ?_|refine JM.rd (Qb p hp.sm) (⟨_,Tryz.func41,rfl,rfl⟩:Jh Tryz.prog 41) rfl rfl rfl rfl ?_
 simp(maxSteps:=999999)(disch:=omega)only[go_sem,zA,zM,zS,zE,zL]
 ((with_reducible first|refine JH ?_ ?_|refine JD ?_ ?_|refine JP ?_ ?_|refine Jv ?_ ?_|refine JF ?_ ?_|refine JG ?_ ?_|refine JB ?_ ?_|refine JC ?_ ?_|refine JN ?_ ?_|refine JO ?_ ?_|refine Jw ?_ ?_|refine Jx ?_ ?_)<;>intro c1<;>simp(maxSteps:=999999)(disch:=omega)only[go_sem,zA,zM,zS,zE,zL,c1])
 rotate_left
 · exfalso;rw[hv]at c1;cases c1
 first|refine JY.rd (hmv) (⟨_,Tryz.func156,rfl,rfl⟩:Jh Tryz.prog 156) rfl rfl rfl rfl ?_|refine JM.rd (hmv) (⟨_,Tryz.func156,rfl,rfl⟩:Jh Tryz.prog 156) rfl rfl rfl rfl ?_
 simp(maxSteps:=999999)(disch:=omega)only[go_sem,zA,zM,zS,zE,zL]
 refine JY.mkQ (F8 (JR ms) (by omega) (by intro h;rw[h]at hl;simp at hl;omega)) (⟨_,Tryz.func89,rfl,rfl⟩:Jh Tryz.prog 89) rfl rfl rfl ?_
 rintro _ _ ⟨g,rfl,rfl⟩
 refine⟨rfl, ?_⟩
 simp(maxSteps:=999999)(disch:=omega)only[go_sem,zA,zM,zS,zE,zL]
 rw[hl]
 refine JT (fun k:Nat=>p.rules.length -k) (fun k=>k≤p.rules.length) (fun k=>[.a, .a, .k, .a, .a, .k, .a, .a, .a, .a, .a, .a, .a, .a, .a, .a, .a, .a, .a, .a, .a, .a, .a, .k, .k, .p (int k), .a, .a, .a, .a, .a, .a, .a, .a, .a, .a, .a, .a, .a, .a, .a, .a, .a, .a, .a, .a, .a, .a, .a, .a, .a]) (fun k=>[some ⟨g0,1,cP p⟩,some ⟨g,1,cl (eI .i64) (JR (BJ p ms k))⟩]) 0 (Nat.zero_le _) (by simp(maxSteps:=999999)(disch:=omega)only[go_sem,zA,zM,zS,zE,zL];rfl) (J0.refl _) ?_
 intro k hk
 have hok:Xv (BJ p ms k) n:=Bm _ hm
 simp(maxSteps:=999999)(disch:=omega)only[go_sem,zA,zM,zS,zE,zL]
 ((first|(with_reducible first|refine Jl ?_ ?_|refine Jj ?_ ?_|refine Jp ?_ ?_)|refine Jr ?_ ?_)<;>intro h1)
 · have h1:k<p.rules.length:=by omega
   have hsu:=Jao (ms:=ms) h1
   have hrv:=hp.rv _ (ZX h1)
   generalize BJ p ms k=o at hok hsu⊢
   have hol:(JR o).length=n*n:=by rw[Qp];exact hok.len
   simp(maxSteps:=999999)(disch:=omega)only[go_sem,zA,zM,zS,zE,zL]
   intro g2
   generalize JA p.rules k=r at hsu hrv⊢
   have hown:Qw [some ⟨g0,1,cP p⟩,some ⟨g,1,cl (eI .i64) (JR o)⟩,some ⟨g2,3,[.f (.int .i64 r.kind), .f (Qf r.cells), .f (.int .i64 r.val)]⟩] (.own 1 g 0 (n*n) none) (JR o) [1]:=by
    have:=Qw.o (H:=[some ⟨g0,1,cP p⟩,some ⟨g,1,cl (eI .i64) (JR o)⟩,some ⟨g2,3,[.f (.int .i64 r.kind), .f (Qf r.cells), .f (.int .i64 r.val)]⟩]) 1 g none (JR o) [] (by rw[Ju];exact J6 (H:=[some ⟨g0,1,cP p⟩,some ⟨g,1,cl (eI .i64) (JR o)⟩,some ⟨g2,3,[.f (.int .i64 r.kind), .f (Qf r.cells), .f (.int .i64 r.val)]⟩]) (id:=1) (b:=⟨g,1,cl (eI .i64) (JR o)⟩) rfl)
    rwa [hol]at this
   have hrun:=Jaa hn r o hrv hok
   rw[←hz]at hrun
   refine JY.mkDI hrun (⟨_,Tryz.func158,rfl,rfl⟩:Jh Tryz.prog 158) rfl rfl (W5 Jak hown.snap VH) ?_
   intro c H' S ho hS
   have hfl:=Jan r o
   have hfn:(JR (Zy r (JR o))).length=r.cells.length:=by rw[Qp];exact hfl
   obtain⟨f1,f2,f3,f4⟩:=Q1 hrv
   obtain⟨cid,cg,lim,ys,rfl,hSe,hlk⟩:=ho.look1 (by omega)
   have hid:3≤cid:=(hS cid (by rw[hSe];simp)).1
   obtain⟨ci,rfl⟩:∃ci,cid=ci+3:=⟨cid -3,by omega⟩
   have hlk:look H' ci cg=some ⟨cg,1,cl (eI .i64) (JR (Zy r (JR o))++ys)⟩:=hlk
   have hst:Jck o r=BO r (Zy r (JR o)) o r.cells.length:=rfl
   have hfd:∀j:Nat,j<r.cells.length→JA (JR (Zy r (JR o))++ys) j=(((Zy r (JR o)).getD j 0:Nat):Int):=fun j hj=>by rw[Je3 (by omega),Za];rfl
   have hpl:=GB r (Zy r (JR o)) o
   rw[hst]at hsu
   rw[hfn]
   generalize Zy r (JR o)=fd at hsu hlk hfd hfn hpl⊢
   have hyl:(JR fd++ys).length=r.cells.length+ys.length:=by rw[Jk,hfn]
   generalize JR fd++ys=zs at hlk hfd hyl
   simp(maxSteps:=999999)(disch:=omega)only[go_sem,zA,zM,zS,zE,zL,hlk]
   refine JT (fun j:Nat=>r.cells.length -j) (fun j=>j≤r.cells.length) (fun j=>[.a, .a, .k, .a, .a, .k, .a, .k, .a, .a, .a, .a, .a, .a, .a, .a, .a, .a, .a, .a, .a, .a, .a, .k, .k, .k, .a, .a, .a, .a, .a, .a, .a, .k, .k, .p (int j), .a, .a, .a, .a, .a, .a, .a, .a, .a, .a, .a, .a, .a, .a, .a]) (fun j=>some ⟨g0,1,cP p⟩::some ⟨g,1,cl (eI .i64) (JR (BO r fd o j))⟩::some ⟨g2,3,[.f (.int .i64 r.kind), .f (Qf r.cells), .f (.int .i64 r.val)]⟩::H') 0 (Nat.zero_le _) (by simp(maxSteps:=999999)(disch:=omega)only[go_sem,zA,zM,zS,zE,zL];rfl) (J0.refl _) ?_
   intro j hj
   simp(maxSteps:=999999)(disch:=omega)only[go_sem,zA,zM,zS,zE,zL]
   ((first|(with_reducible first|refine Jl ?_ ?_|refine Jj ?_ ?_|refine Jp ?_ ?_)|refine Jr ?_ ?_)<;>intro h2)
   · have h2:j<r.cells.length:=by omega
     have hcj:=f3 _ (ZX h2)
     have hps:=XM r fd o j
     have hfj:=hfd j h2
     obtain⟨q,hq⟩:∃q:Nat,JA r.cells j=q:=⟨(JA r.cells j).toNat,by omega⟩
     rw[hq,Int.toNat_natCast]at hps
     have hqn:q<n*n:=by rw[hq]at hcj;omega
     have hQl:(JR (BO r fd o j)).length=n*n:=by rw[Qp,hpl];exact hok.len
     simp(maxSteps:=999999)(disch:=omega)only[go_sem,zA,zM,zS,zE,zL,hlk,hfj,hq,hQl]
     exact⟨j+1,⟨by omega,by omega⟩,by push_cast;rfl,ZU rfl (ZU (by rw[hps,←Vv,Int.toNat_natCast]) (J0.refl _))⟩
   · have hje:j=r.cells.length:=by omega
     subst hje
     rw[←hsu]
     simp(maxSteps:=999999)(disch:=omega)only[go_sem,zA,zM,zS,zE,zL]
     exact⟨k+1,⟨by omega,by omega⟩,by push_cast;rfl,ZU rfl (ZU rfl (Qt _))⟩
 · have hke:k=p.rules.length:=by omega
   have hM:BJ p ms k=Yg p ms:=by rw[hke];unfold BJ Yg;rw[List.take_length]
   rw[hM]at hok⊢
   have hl2:(JR (Yg p ms)).length=n*n:=by rw[Qp];exact hok.len
   simp(maxSteps:=999999)(disch:=omega)only[go_sem,zA,zM,zS,zE,zL]
   rw[←hl2]
   exact⟨_,J0.refl _,XU (E:=eI .i64) (n:=1) (J6 (H:=[some ⟨g0,1,cP p⟩,some ⟨g,1,cl (eI .i64) (JR (Yg p ms))⟩]) (id:=1) (b:=⟨g,1,cl (eI .i64) (JR (Yg p ms))⟩) rfl)⟩
end Go.Lg

namespace Go.Lg
open Go.Proofs
set_option maxHeartbeats 4000000 in
theorem BH{p:QV}{n:Nat}(hp:Ub p n)(hv:Jy p=true)(ms:List Nat)(hm:Xv ms n):JW Tryz.prog 135 [aP p,QG (JR ms)] (QG (JR (Yg p ms))):=by
 have hn:=hp.hn
 have hsq:4≤n*n∧n*n≤16:=by rcases hn with rfl|rfl|rfl<;>omega
 have hl:(JR ms).length=n*n:=by rw[Qp];exact hm.len
 have hz:=hp.size
 have hrl:=hp.rl
 have hmv:=Zh hn (JR ms) hm.ok
 rw[←hz]at hmv
 refine JW.ice (Q:=fun v H'=>VZ H' v=some (QG (JR (Yg p ms)))) ?_ (fun r H' h=>h)
 refine Jn.cw (c:=_) Tryz.func135 rfl (n:=59) Tryz.ntmps135 (rs:=[.tmp 4]) rfl ?_
 simp only[Je,Jf,zA,zS,Jd,Ja,Jc]
 simp(maxSteps:=999999)(disch:=omega)only[go_sem,zA,zM,zS,zE,zL]
 intro g0
 first|refine JY.rd (Qc p hp.sm) (⟨_,Tryz.func38,rfl,rfl⟩:Jh Tryz.prog 38) rfl rfl rfl rfl ?_|refine JM.rd (Qc p hp.sm) (⟨_,Tryz.func38,rfl,rfl⟩:Jh Tryz.prog 38) rfl rfl rfl rfl ?_
 simp(maxSteps:=999999)(disch:=omega)only[go_sem,zA,zM,zS,zE,zL]
 ((with_reducible first|refine JH ?_ ?_|refine JD ?_ ?_|refine JP ?_ ?_|refine Jv ?_ ?_|refine JF ?_ ?_|refine JG ?_ ?_|refine JB ?_ ?_|refine JC ?_ ?_|refine JN ?_ ?_|refine JO ?_ ?_|refine Jw ?_ ?_|refine Jx ?_ ?_)<;>intro c1<;>simp(maxSteps:=999999)(disch:=omega)only[go_sem,zA,zM,zS,zE,zL,c1])
 rotate_left
 · exfalso;rw[hv]at c1;cases c1
 first|refine JY.rd (hmv) (⟨_,Tryz.func131,rfl,rfl⟩:Jh Tryz.prog 131) rfl rfl rfl rfl ?_|refine JM.rd (hmv) (⟨_,Tryz.func131,rfl,rfl⟩:Jh Tryz.prog 131) rfl rfl rfl rfl ?_
 simp(maxSteps:=999999)(disch:=omega)only[go_sem,zA,zM,zS,zE,zL]
 refine JY.mkQ (Yl (JR ms) (by omega) (by intro h;rw[h]at hl;simp at hl;omega)) (⟨_,Tryz.func153,rfl,rfl⟩:Jh Tryz.prog 153) rfl rfl rfl ?_
 rintro _ _ ⟨g,rfl,rfl⟩
 refine⟨rfl, ?_⟩
 simp(maxSteps:=999999)(disch:=omega)only[go_sem,zA,zM,zS,zE,zL]
 rw[hl]
 refine JT (fun k:Nat=>p.rules.length -k) (fun k=>k≤p.rules.length) (fun k=>[.a, .a, .k, .a, .a, .k, .p (int k), .a, .a, .a, .a, .a, .a, .a, .a, .a, .a, .a, .a, .a, .a, .a, .a, .a, .a, .a, .a, .a, .a, .a, .a, .a, .a, .a, .a, .a, .a, .a, .a, .a, .a, .a, .a, .a, .a, .a, .a, .a, .a, .a, .a, .a, .a, .a, .a, .a, .a, .a, .a]) (fun k=>[some ⟨g0,1,cP p⟩,some ⟨g,1,cl (eI .i64) (JR (BJ p ms k))⟩]) 0 (Nat.zero_le _) (by simp(maxSteps:=999999)(disch:=omega)only[go_sem,zA,zM,zS,zE,zL];rfl) (J0.refl _) ?_
 intro k hk
 have hok:Xv (BJ p ms k) n:=Bm _ hm
 simp(maxSteps:=999999)(disch:=omega)only[go_sem,zA,zM,zS,zE,zL]
 ((first|(with_reducible first|refine Jl ?_ ?_|refine Jj ?_ ?_|refine Jp ?_ ?_)|refine Jr ?_ ?_)<;>intro h1)
 · have h1:k<p.rules.length:=by omega
   have hsu:=Jao (ms:=ms) h1
   have hrv:=hp.rv _ (ZX h1)
   generalize BJ p ms k=o at hok hsu⊢
   have hol:(JR o).length=n*n:=by rw[Qp];exact hok.len
   simp(maxSteps:=999999)(disch:=omega)only[go_sem,zA,zM,zS,zE,zL]
   intro g2
   generalize JA p.rules k=r at hsu hrv⊢
   have hown:Qw [some ⟨g0,1,cP p⟩,some ⟨g,1,cl (eI .i64) (JR o)⟩,some ⟨g2,3,[.f (.int .i64 r.kind), .f (Qf r.cells), .f (.int .i64 r.val)]⟩] (.own 1 g 0 (n*n) none) (JR o) [1]:=by
    have:=Qw.o (H:=[some ⟨g0,1,cP p⟩,some ⟨g,1,cl (eI .i64) (JR o)⟩,some ⟨g2,3,[.f (.int .i64 r.kind), .f (Qf r.cells), .f (.int .i64 r.val)]⟩]) 1 g none (JR o) [] (by rw[Ju];exact J6 (H:=[some ⟨g0,1,cP p⟩,some ⟨g,1,cl (eI .i64) (JR o)⟩,some ⟨g2,3,[.f (.int .i64 r.kind), .f (Qf r.cells), .f (.int .i64 r.val)]⟩]) (id:=1) (b:=⟨g,1,cl (eI .i64) (JR o)⟩) rfl)
    rwa [hol]at this
   have hrun:=Ja0 hn r o hrv hok
   rw[←hz]at hrun
   refine JY.mkDI hrun (⟨_,Tryz.func155,rfl,rfl⟩:Jh Tryz.prog 155) rfl rfl (W5 Jak hown.snap VH) ?_
   intro c H' S ho hS
   have hfl:=Jan r o
   have hfn:(JR (Zy r (JR o))).length=r.cells.length:=by rw[Qp];exact hfl
   obtain⟨f1,f2,f3,f4⟩:=Q1 hrv
   obtain⟨cid,cg,lim,ys,rfl,hSe,hlk⟩:=ho.look1 (by omega)
   have hid:3≤cid:=(hS cid (by rw[hSe];simp)).1
   obtain⟨ci,rfl⟩:∃ci,cid=ci+3:=⟨cid -3,by omega⟩
   have hlk:look H' ci cg=some ⟨cg,1,cl (eI .i64) (JR (Zy r (JR o))++ys)⟩:=hlk
   have hst:Jck o r=BO r (Zy r (JR o)) o r.cells.length:=rfl
   have hfd:∀j:Nat,j<r.cells.length→JA (JR (Zy r (JR o))++ys) j=(((Zy r (JR o)).getD j 0:Nat):Int):=fun j hj=>by rw[Je3 (by omega),Za];rfl
   have hpl:=GB r (Zy r (JR o)) o
   rw[hst]at hsu
   rw[hfn]
   generalize Zy r (JR o)=fd at hsu hlk hfd hfn hpl⊢
   have hyl:(JR fd++ys).length=r.cells.length+ys.length:=by rw[Jk,hfn]
   generalize JR fd++ys=zs at hlk hfd hyl
   simp(maxSteps:=999999)(disch:=omega)only[go_sem,zA,zM,zS,zE,zL,hlk]
   refine JT (fun j:Nat=>r.cells.length -j) (fun j=>j≤r.cells.length) (fun j=>[.a, .a, .k, .a, .a, .k, .k, .k, .k, .p (int j), .a, .a, .a, .a, .a, .a, .a, .a, .a, .a, .a, .a, .a, .a, .a, .a, .a, .a, .a, .a, .a, .a, .a, .a, .a, .a, .a, .a, .a, .a, .a, .a, .a, .a, .a, .a, .a, .a, .a, .a, .a, .a, .a, .a, .a, .a, .a, .a, .a]) (fun j=>some ⟨g0,1,cP p⟩::some ⟨g,1,cl (eI .i64) (JR (BO r fd o j))⟩::some ⟨g2,3,[.f (.int .i64 r.kind), .f (Qf r.cells), .f (.int .i64 r.val)]⟩::H') 0 (Nat.zero_le _) (by simp(maxSteps:=999999)(disch:=omega)only[go_sem,zA,zM,zS,zE,zL];rfl) (J0.refl _) ?_
   intro j hj
   simp(maxSteps:=999999)(disch:=omega)only[go_sem,zA,zM,zS,zE,zL]
   ((first|(with_reducible first|refine Jl ?_ ?_|refine Jj ?_ ?_|refine Jp ?_ ?_)|refine Jr ?_ ?_)<;>intro h2)
   · have h2:j<r.cells.length:=by omega
     have hcj:=f3 _ (ZX h2)
     have hps:=XM r fd o j
     have hfj:=hfd j h2
     obtain⟨q,hq⟩:∃q:Nat,JA r.cells j=q:=⟨(JA r.cells j).toNat,by omega⟩
     rw[hq,Int.toNat_natCast]at hps
     have hqn:q<n*n:=by rw[hq]at hcj;omega
     have hQl:(JR (BO r fd o j)).length=n*n:=by rw[Qp,hpl];exact hok.len
     simp(maxSteps:=999999)(disch:=omega)only[go_sem,zA,zM,zS,zE,zL]
     have hM:∀b,look (Zc [] (some ⟨g0,1,cP p⟩::b::some ⟨g2,3,[.f (.int .i64 r.kind), .f (Qf r.cells), .f (.int .i64 r.val)]⟩::H')) (ci+3) cg=some ⟨cg,1,cl (eI .i64) zs⟩:=fun b=>hlk
     refine Z9 [0,1,2,3,4,5,6,7,8,9] [] none [10,11] [] Zd (by kernel_rfl) ?_
     simp(maxSteps:=999999)(disch:=omega)only[go_sem,Nat.reduceBEq,Bool.true_or,zA,zM,zS,zE,zL]
     simp(maxSteps:=999999)(disch:=omega)only[go_sem,zA,zM,zS,zE,zL,hlk,hfj,hq,hQl]
     exact⟨j+1,⟨by omega,by omega⟩,by push_cast;rfl,ZU rfl (ZU (by rw[hps,←Vv,Int.toNat_natCast]) (J0.refl _))⟩
   · have hje:j=r.cells.length:=by omega
     subst hje
     rw[←hsu]
     simp(maxSteps:=999999)(disch:=omega)only[go_sem,zA,zM,zS,zE,zL]
     exact⟨k+1,⟨by omega,by omega⟩,by push_cast;rfl,ZU rfl (ZU rfl (Qt _))⟩
 · have hke:k=p.rules.length:=by omega
   have hM:BJ p ms k=Yg p ms:=by rw[hke];unfold BJ Yg;rw[List.take_length]
   rw[hM]at hok⊢
   have hl2:(JR (Yg p ms)).length=n*n:=by rw[Qp];exact hok.len
   simp(maxSteps:=999999)(disch:=omega)only[go_sem,zA,zM,zS,zE,zL]
   rw[←hl2]
   exact⟨_,J0.refl _,XU (E:=eI .i64) (n:=1) (J6 (H:=[some ⟨g0,1,cP p⟩,some ⟨g,1,cl (eI .i64) (JR (Yg p ms))⟩]) (id:=1) (b:=⟨g,1,cl (eI .i64) (JR (Yg p ms))⟩) rfl)⟩
end Go.Lg
