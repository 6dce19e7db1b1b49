/- GpMH, GpMI, cut to what is needed. -/
import Derived.Test.YtidekghnkifbjaaGreatDoorJec8
import Derived.Test.YtidekghnkifbjaaGreatDoorJec5
open List renaming cons_append → Jb, nil_append → Jc, replicate → Jd, length_cons → Je, length_nil → Jf, length_append → Jk, append_nil → Ju, length_take → JP, drop_zero → JR, mem_map → Qj, length_map → Qs, map_append → QE
open Nat renaming reduceAdd→zA,reduceMul→zM,reduceSub→zS,reduceEqDiff→zE,reduceLeDiff→zL
set_option linter.unusedSimpArgs false
set_option linter.unusedVariables false
set_option maxRecDepth 100000
namespace Go.Lg
open Go.Proofs
theorem JaO{H:Jm}{r:Z0}:Zx H (aR r)=some (aR r):=rfl
theorem Jkm{r:Z0}{n:Nat}(hn:n=2∨n=3∨n=4)(hv:Ql r n=true){ms:List Nat}(hm:XT ms n):Jlk r (JQ ms):=by
 obtain⟨f1,f2,f3,f4⟩:=Q9 hv
 have hsq:n*n≤16:=by rcases hn with rfl|rfl|rfl<;>omega
 have hl:=hm.len
 refine⟨f1.2,f2,fun c hc=> ?_,by rw[Qq];omega⟩
 obtain⟨h1,h2⟩:=f3 c hc
 obtain⟨k,rfl⟩:∃k:Nat,c=k:=⟨c.toNat,by omega⟩
 have:=hm.lt hn k
 rw[Qq,Zf]
 omega
theorem Jdm{H:Jm}{c:CV}{zs:List Int}{S:List Nat}(h:Qy H c zs S):Uz H (WS zs) (.c c):=⟨Rt S H,BG S H,c,S,rfl,h.same (fun i hi=>K9 hi (h.lt i hi)),YB h.blk⟩
theorem Jbx{n:Nat}(hn:n=2∨n=3∨n=4)(r:Z0)(ms:List Nat)(hv:Ql r n=true)(hm:XT ms n):Jn Tryz.prog 155 [aR r,QO (JQ ms),int n] [] (WS (JQ (ZH r (JQ ms)))):=
 Ko hn r (JQ ms) hv hm.ok (Jkm hn hv hm)
set_option maxHeartbeats 2000000 in
theorem JaF{n:Nat}(hn:n=2∨n=3∨n=4)(r:Z0)(ms:List Nat)(hv:Ql r n=true)(hm:XT ms n):Jn Tryz.prog 158 [aR r,QO (JQ ms),int n] [] (WS (JQ (ZH r (JQ ms)))):=by
 obtain⟨f1,f2,f3,f4⟩:=Q9 hv
 have hl:=hm.len
 have hnl:(JQ ms).length=n*n:=by rw[Qq];exact hl
 have hrem:∀k,JQ ((r.cells.take k).map fun c=>QL ms c.toNat)=(r.cells.take k).map fun c=>((QL ms c.toNat:Nat):Int):=fun k=>by unfold JQ;rw[List.map_map];rfl
 refine Jn.cw (c:=_) Tryz.func158 rfl (n:=39) Tryz.ntmps158 (rs:=[.tmp 6]) rfl ?_
 simp only[Je,Jf,zA,zS,Jd,Jb,Jc]
 simp(maxSteps:=999999)(disch:=omega)only[go_sem,zA,zM,zS,zE,zL]
 intro g1
 first|refine JZ.rd (Wx r n (by omega)) (⟨_,Tryz.func86,rfl,rfl⟩:Ji Tryz.prog 86) rfl rfl rfl rfl ?_|refine JK.rd (Wx r n (by omega)) (⟨_,Tryz.func86,rfl,rfl⟩:Ji Tryz.prog 86) rfl rfl rfl rfl ?_
 simp(maxSteps:=999999)(disch:=omega)only[go_sem,zA,zM,zS,zE,zL]
 ((with_reducible first|refine JJ ?_ ?_|refine JF ?_ ?_|refine JU ?_ ?_|refine Jw ?_ ?_|refine JH ?_ ?_|refine JI ?_ ?_|refine JD ?_ ?_|refine JE ?_ ?_|refine JS ?_ ?_|refine JT ?_ ?_|refine Jy ?_ ?_|refine Jz ?_ ?_)<;>intro c1<;>simp(maxSteps:=999999)(disch:=omega)only[go_sem,zA,zM,zS,zE,zL,c1])
 rotate_left
 · exfalso;rw[hv]at c1;cases c1
 first|refine JZ.rd (ZU hn ms hm) (⟨_,Tryz.func156,rfl,rfl⟩:Ji Tryz.prog 156) rfl rfl rfl rfl ?_|refine JK.rd (ZU hn ms hm) (⟨_,Tryz.func156,rfl,rfl⟩:Ji Tryz.prog 156) rfl rfl rfl rfl ?_
 simp(maxSteps:=999999)(disch:=omega)only[go_sem,zA,zM,zS,zE,zL]
 intro g2
 refine Qp (fun(k g:Nat)=>r.cells.length -k) (fun k g=>k≤r.cells.length) (fun k g=>[.a, .k, .a, .k, .a, .a, .a, .p (.c (.own 1 g 0 k none)), .a, .a, .a, .a, .a, .a, .a, .a, .a, .a, .a, .a, .a, .a, .k, .k, .p (int k), .a, .a, .a, .a, .a, .a, .a, .a, .a, .a, .a, .a, .a, .a]) (fun k g=>[some ⟨g1,1,cR r⟩,some ⟨g,1,cl (eI .i64) (JQ ((r.cells.take k).map fun c=>QL ms c.toNat))⟩]) 0 g2 (Nat.zero_le _) (by simp(maxSteps:=999999)(disch:=omega)only[go_sem,zA,zM,zS,zE,zL];rfl) (J0.refl _) ?_
 intro k g hk
 have hlen:(JQ ((r.cells.take k).map fun c=>QL ms c.toNat)).length=k:=by rw[Qq,Qs,JP];omega
 simp(maxSteps:=999999)(disch:=omega)only[go_sem,zA,zM,zS,zE,zL]
 ((first|(with_reducible first|refine Jl ?_ ?_|refine Jj ?_ ?_|refine Jp ?_ ?_)|refine Jr ?_ ?_)<;>intro h1)
 · have h1:k<r.cells.length:=by omega
   have hc:=f3 _ (ZP h1)
   obtain⟨c,hcc⟩:∃c:Nat,JA r.cells k=c:=⟨(JA r.cells k).toNat,by omega⟩
   have hcl:c<n*n:=by rw[hcc]at hc;omega
   have hmc:=Zf ms c
   have hts:JQ ((r.cells.take (k+1)).map fun c=>QL ms c.toNat)=JQ ((r.cells.take k).map fun c=>QL ms c.toNat)++[((QL ms c:Nat):Int)]:=by
    rw[hrem,hrem,Qg h1,QE,hcc]
    rfl
   simp(maxSteps:=999999)(disch:=omega)only[go_sem,zA,zM,zS,zE,zL,hcc,hmc]
   intro g3 g4
   exact⟨k+1,g4,⟨by omega,by omega⟩,⟨⟨rfl,rfl⟩,by push_cast;rfl⟩,Z4 rfl (Z4 (by rw[hts]) (Qu _))⟩
 · have hke:k=r.cells.length:=by omega
   subst hke
   rw[List.take_length]at hlen⊢
   have hre:WV r (JQ ms) 0=r.cells.map fun c=>QL ms c.toNat:=by
    unfold WV
    rw[JR]
    refine List.map_congr_left fun c hc=> ?_
    rw[Vb,Zf,Int.toNat_natCast]
   have hown:Qy [some ⟨g1,1,cR r⟩,some ⟨g,1,cl (eI .i64) (JQ (r.cells.map fun c=>QL ms c.toNat))⟩] (.own 1 g 0 r.cells.length none) (JQ (r.cells.map fun c=>QL ms c.toNat)) [1]:=by
    have:=Qy.o (H:=[some ⟨g1,1,cR r⟩,some ⟨g,1,cl (eI .i64) (JQ (r.cells.map fun c=>QL ms c.toNat))⟩]) 1 g none (JQ (r.cells.map fun c=>QL ms c.toNat)) [] (by rw[Ju];exact J8 (H:=[some ⟨g1,1,cR r⟩,some ⟨g,1,cl (eI .i64) (JQ (r.cells.map fun c=>QL ms c.toNat))⟩]) (id:=1) (b:=⟨g,1,cl (eI .i64) (JQ (r.cells.map fun c=>QL ms c.toNat))⟩) rfl)
    rwa [hlen]at this
   have hol:(r.cells.map fun c=>QL ms c.toNat).length=r.cells.length:=Qs _
   have hkk:r.kind=1∨r.kind=2∨r.kind=3∨(r.kind=4∨r.kind=5)∧2≤(r.cells.map fun c=>QL ms c.toNat).length:=by
    simp only[Ql,decide_eq_true_eq]at hv
    have:=hv.2.2
    unfold Va at this
    omega
   have hrun:=(Ro r (r.cells.map fun c=>QL ms c.toNat) (by omega) (fun m hm'=>by
    obtain⟨c,hc,rfl⟩:=Qj.1 hm'
    have:=hm.lt hn c.toNat
    omega) hkk)
   rw[hol]at hrun
   unfold ZH
   rw[hre]
   simp(maxSteps:=999999)(disch:=omega)only[go_sem,zA,zM,zS,zE,zL]
   refine JZ.mkDI hrun (⟨_,Tryz.func125,rfl,rfl⟩:Ji Tryz.prog 125) rfl rfl (UO rfl hown.snap) ?_
   intro c H' S ho _
   simp(maxSteps:=999999)(disch:=omega)only[go_sem,zA,zM,zS,zE,zL]
   exact Jdm ho
theorem Jbp(a b:List Int)(ha:a.length≤2^40):JW Tryz.prog 113 [QO a,QO b] (bool (decide (a=b))):=by
 refine Jn.cw (c:=_) Tryz.func113 rfl (n:=26) Tryz.ntmps113 (rs:=[.tmp 4]) rfl ?_
 simp only[Je,Jf,zA,zS,Jd,Jb,Jc]
 simp(maxSteps:=999999)(disch:=omega)only[go_sem,zA,zM,zS,zE,zL]
 ((first|(with_reducible first|refine Jl ?_ ?_|refine Jj ?_ ?_|refine Jp ?_ ?_)|refine Jr ?_ ?_)<;>intro h0)
 rotate_left
 · simp(maxSteps:=999999)(disch:=omega)only[go_sem,zA,zM,zS,zE,zL]
   have:a≠b:=fun h=>h0 (by rw[h])
   rw[decide_eq_false this]
 have hl:a.length=b.length:=by omega
 simp(maxSteps:=999999)(disch:=omega)only[go_sem,zA,zM,zS,zE,zL]
 refine JY (fun k:Nat=>a.length -k) (fun k=>k≤a.length∧∀j:Nat,j<k→JA a j=JA b j) (fun k=>[.k, .k, .a, .a, .a, .a, .a, .a, .a, .a, .a, .a, .k, .p (int k), .a, .a, .a, .a, .a, .a, .a, .a, .a, .a, .a, .a]) (fun _=>[]) 0 ⟨Nat.zero_le _,fun j hj=>absurd hj (Nat.not_lt_zero _)⟩ (by simp(maxSteps:=999999)(disch:=omega)only[go_sem,zA,zM,zS,zE,zL];rfl) (Qu _) ?_
 rintro k ⟨hk,hall⟩
 simp(maxSteps:=999999)(disch:=omega)only[go_sem,zA,zM,zS,zE,zL]
 ((first|(with_reducible first|refine Jl ?_ ?_|refine Jj ?_ ?_|refine Jp ?_ ?_)|refine Jr ?_ ?_)<;>intro h1)
 · have h1:k<a.length:=by omega
   simp(maxSteps:=999999)(disch:=omega)only[go_sem,zA,zM,zS,zE,zL]
   refine Zj Zd (by kernel_rfl) ?_
   simp(maxSteps:=999999)(disch:=omega)only[go_sem,Nat.reduceBEq,Bool.true_or,zA,zM,zS,zE,zL]
   ((first|(with_reducible first|refine Jl ?_ ?_|refine Jj ?_ ?_|refine Jp ?_ ?_)|refine Jr ?_ ?_)<;>intro h2)
   · simp(maxSteps:=999999)(disch:=omega)only[go_sem,zA,zM,zS,zE,zL]
     exact⟨k+1,⟨⟨by omega,fun j hj=>by
      by_cases hjk:j=k
      · rw[hjk];exact h2
      · exact hall j (by omega)⟩,by omega⟩,by push_cast;rfl,Qu _⟩
   · simp(maxSteps:=999999)(disch:=omega)only[go_sem,zA,zM,zS,zE,zL]
     have:a≠b:=fun h=>h2 (by rw[h])
     rw[decide_eq_false this]
 · have hke:k=a.length:=by omega
   have:a=b:=by
    refine List.ext_getElem hl fun i h1 h2=> ?_
    have:=hall i (by omega)
    rw[Qt (by omega),Qt (by omega)]at this
    exact this
   simp(maxSteps:=999999)(disch:=omega)only[go_sem,zA,zM,zS,zE,zL]
   rw[decide_eq_true this]
theorem Ns(a b:List Int)(ha:a.length≤2^40):JW Tryz.prog 108 [QO a,QO b] (bool (decide (a=b))):=by
 refine Jn.cw (c:=_) Tryz.func108 rfl (n:=26) Tryz.ntmps108 (rs:=[.tmp 4]) rfl ?_
 simp only[Je,Jf,zA,zS,Jd,Jb,Jc]
 simp(maxSteps:=999999)(disch:=omega)only[go_sem,zA,zM,zS,zE,zL]
 ((first|(with_reducible first|refine Jl ?_ ?_|refine Jj ?_ ?_|refine Jp ?_ ?_)|refine Jr ?_ ?_)<;>intro h0)
 rotate_left
 · simp(maxSteps:=999999)(disch:=omega)only[go_sem,zA,zM,zS,zE,zL]
   have:a≠b:=fun h=>h0 (by rw[h])
   rw[decide_eq_false this]
 have hl:a.length=b.length:=by omega
 simp(maxSteps:=999999)(disch:=omega)only[go_sem,zA,zM,zS,zE,zL]
 refine JY (fun k:Nat=>a.length -k) (fun k=>k≤a.length∧∀j:Nat,j<k→JA a j=JA b j) (fun k=>[.k, .k, .a, .a, .a, .p (int k), .a, .a, .a, .a, .a, .a, .a, .a, .a, .a, .a, .a, .a, .a, .a, .a, .a, .a, .a, .a]) (fun _=>[]) 0 ⟨Nat.zero_le _,fun j hj=>absurd hj (Nat.not_lt_zero _)⟩ (by simp(maxSteps:=999999)(disch:=omega)only[go_sem,zA,zM,zS,zE,zL];rfl) (Qu _) ?_
 rintro k ⟨hk,hall⟩
 simp(maxSteps:=999999)(disch:=omega)only[go_sem,zA,zM,zS,zE,zL]
 ((first|(with_reducible first|refine Jl ?_ ?_|refine Jj ?_ ?_|refine Jp ?_ ?_)|refine Jr ?_ ?_)<;>intro h1)
 · have h1:k<a.length:=by omega
   simp(maxSteps:=999999)(disch:=omega)only[go_sem,zA,zM,zS,zE,zL]
   refine Zj Zd (by kernel_rfl) ?_
   simp(maxSteps:=999999)(disch:=omega)only[go_sem,Nat.reduceBEq,Bool.true_or,zA,zM,zS,zE,zL]
   ((first|(with_reducible first|refine Jl ?_ ?_|refine Jj ?_ ?_|refine Jp ?_ ?_)|refine Jr ?_ ?_)<;>intro h2)
   · simp(maxSteps:=999999)(disch:=omega)only[go_sem,zA,zM,zS,zE,zL]
     exact⟨k+1,⟨⟨by omega,fun j hj=>by
      by_cases hjk:j=k
      · rw[hjk];exact h2
      · exact hall j (by omega)⟩,by omega⟩,by push_cast;rfl,Qu _⟩
   · simp(maxSteps:=999999)(disch:=omega)only[go_sem,zA,zM,zS,zE,zL]
     have:a≠b:=fun h=>h2 (by rw[h])
     rw[decide_eq_false this]
 · have hke:k=a.length:=by omega
   have:a=b:=by
    refine List.ext_getElem hl fun i h1 h2=> ?_
    have:=hall i (by omega)
    rw[Qt (by omega),Qt (by omega)]at this
    exact this
   simp(maxSteps:=999999)(disch:=omega)only[go_sem,zA,zM,zS,zE,zL]
   rw[decide_eq_true this]
theorem JaU(r:Z0)(ms:List Nat):(ZH r (JQ ms)).length=r.cells.length:=by
 unfold ZH
 rw[VU _ _ _ _ (by unfold WV;simp)]
 simp
theorem Qy.look1{H:Jm}{c:CV}{zs:List Int}{S:List Nat}(h:Qy H c zs S)(hz:0<zs.length):∃(id g:Nat) (lim:Option Nat) (ys:List Int),c= .own id g 0 zs.length lim∧S=[id]∧look H id g=some ⟨g,1,cl (eI .i64) (zs++ys)⟩:=by
 cases h with
 |e=>simp at hz
 |o id g lim zs ys h=>exact⟨id,g,lim,ys,rfl,rfl,h⟩
theorem Jfv{zs ys:List Int}{j:Nat}(h:j<zs.length):JA (zs++ys) j=JA zs j:=by
 rw[Qt (by simp;omega),Qt (by omega)]
 simp only[Int.toNat_natCast,List.getElem_append_left h]
set_option maxHeartbeats 4000000 in
theorem Gs{p:Q4}{n:Nat}(hp:Ux p n)(hv:JB p=true)(ms:List Nat)(hm:XT ms n):JW Tryz.prog 140 [aP p,QO (JQ ms)] (QO (JQ (YC p ms))):=by
 have hn:=hp.hn
 have hsq:4≤n*n∧n*n≤16:=by rcases hn with rfl|rfl|rfl<;>omega
 have hl:(JQ ms).length=n*n:=by rw[Qq];exact hm.len
 have hz:=hp.size
 have hrl:=hp.rl
 have hmv:=ZU hn ms hm
 rw[←hz]at hmv
 refine JW.ice (Q:=fun v H'=>Vu H' v=some (QO (JQ (YC p ms)))) ?_ (fun r H' h=>h)
 refine Jn.cw (c:=_) Tryz.func140 rfl (n:=51) Tryz.ntmps140 (rs:=[.tmp 4]) rfl ?_
 simp only[Je,Jf,zA,zS,Jd,Jb,Jc]
 simp(maxSteps:=999999)(disch:=omega)only[go_sem,zA,zM,zS,zE,zL]
 intro g0
 first|refine JZ.rd (Qx p hp.sm) (⟨_,Tryz.func41,rfl,rfl⟩:Ji Tryz.prog 41) rfl rfl rfl rfl ?_|refine JK.rd (Qx p hp.sm) (⟨_,Tryz.func41,rfl,rfl⟩:Ji Tryz.prog 41) rfl rfl rfl rfl ?_
 simp(maxSteps:=999999)(disch:=omega)only[go_sem,zA,zM,zS,zE,zL]
 ((with_reducible first|refine JJ ?_ ?_|refine JF ?_ ?_|refine JU ?_ ?_|refine Jw ?_ ?_|refine JH ?_ ?_|refine JI ?_ ?_|refine JD ?_ ?_|refine JE ?_ ?_|refine JS ?_ ?_|refine JT ?_ ?_|refine Jy ?_ ?_|refine Jz ?_ ?_)<;>intro c1<;>simp(maxSteps:=999999)(disch:=omega)only[go_sem,zA,zM,zS,zE,zL,c1])
 rotate_left
 · exfalso;rw[hv]at c1;cases c1
 first|refine JZ.rd (hmv) (⟨_,Tryz.func156,rfl,rfl⟩:Ji Tryz.prog 156) rfl rfl rfl rfl ?_|refine JK.rd (hmv) (⟨_,Tryz.func156,rfl,rfl⟩:Ji Tryz.prog 156) rfl rfl rfl rfl ?_
 simp(maxSteps:=999999)(disch:=omega)only[go_sem,zA,zM,zS,zE,zL]
 refine JZ.mkQ (GB (JQ ms) (by omega) (by intro h;rw[h]at hl;simp at hl;omega)) (⟨_,Tryz.func89,rfl,rfl⟩:Ji Tryz.prog 89) rfl rfl rfl ?_
 rintro _ _ ⟨g,rfl,rfl⟩
 refine⟨rfl, ?_⟩
 simp(maxSteps:=999999)(disch:=omega)only[go_sem,zA,zM,zS,zE,zL]
 rw[hl]
 refine JY (fun k:Nat=>p.rules.length -k) (fun k=>k≤p.rules.length) (fun k=>[.a, .a, .k, .a, .a, .k, .a, .a, .a, .a, .a, .a, .a, .a, .a, .a, .a, .a, .a, .a, .a, .a, .a, .k, .k, .p (int k), .a, .a, .a, .a, .a, .a, .a, .a, .a, .a, .a, .a, .a, .a, .a, .a, .a, .a, .a, .a, .a, .a, .a, .a, .a]) (fun k=>[some ⟨g0,1,cP p⟩,some ⟨g,1,cl (eI .i64) (JQ (B9 p ms k))⟩]) 0 (Nat.zero_le _) (by simp(maxSteps:=999999)(disch:=omega)only[go_sem,zA,zM,zS,zE,zL];rfl) (J0.refl _) ?_
 intro k hk
 have hok:XT (B9 p ms k) n:=BM _ hm
 simp(maxSteps:=999999)(disch:=omega)only[go_sem,zA,zM,zS,zE,zL]
 ((first|(with_reducible first|refine Jl ?_ ?_|refine Jj ?_ ?_|refine Jp ?_ ?_)|refine Jr ?_ ?_)<;>intro h1)
 · have h1:k<p.rules.length:=by omega
   have hsu:=JaV (ms:=ms) h1
   have hrv:=hp.rv _ (ZP h1)
   generalize B9 p ms k=o at hok hsu⊢
   have hol:(JQ o).length=n*n:=by rw[Qq];exact hok.len
   simp(maxSteps:=999999)(disch:=omega)only[go_sem,zA,zM,zS,zE,zL]
   intro g2
   generalize JA p.rules k=r at hsu hrv⊢
   have hown:Qy [some ⟨g0,1,cP p⟩,some ⟨g,1,cl (eI .i64) (JQ o)⟩,some ⟨g2,3,[.f (.int .i64 r.kind), .f (J5 r.cells), .f (.int .i64 r.val)]⟩] (.own 1 g 0 (n*n) none) (JQ o) [1]:=by
    have:=Qy.o (H:=[some ⟨g0,1,cP p⟩,some ⟨g,1,cl (eI .i64) (JQ o)⟩,some ⟨g2,3,[.f (.int .i64 r.kind), .f (J5 r.cells), .f (.int .i64 r.val)]⟩]) 1 g none (JQ o) [] (by rw[Ju];exact J8 (H:=[some ⟨g0,1,cP p⟩,some ⟨g,1,cl (eI .i64) (JQ o)⟩,some ⟨g2,3,[.f (.int .i64 r.kind), .f (J5 r.cells), .f (.int .i64 r.val)]⟩]) (id:=1) (b:=⟨g,1,cl (eI .i64) (JQ o)⟩) rfl)
    rwa [hol]at this
   have hrun:=JaF hn r o hrv hok
   rw[←hz]at hrun
   refine JZ.mkDI hrun (⟨_,Tryz.func158,rfl,rfl⟩:Ji Tryz.prog 158) rfl rfl (Xj JaO hown.snap VO) ?_
   intro c H' S ho hS
   have hfl:=JaU r o
   have hfn:(JQ (ZH r (JQ o))).length=r.cells.length:=by rw[Qq];exact hfl
   obtain⟨f1,f2,f3,f4⟩:=Q9 hrv
   obtain⟨cid,cg,lim,ys,rfl,hSe,hlk⟩:=ho.look1 (by omega)
   have hid:3≤cid:=(hS cid (by rw[hSe];simp)).1
   obtain⟨ci,rfl⟩:∃ci,cid=ci+3:=⟨cid -3,by omega⟩
   have hlk:look H' ci cg=some ⟨cg,1,cl (eI .i64) (JQ (ZH r (JQ o))++ys)⟩:=hlk
   have hst:JcS o r=Fe r (ZH r (JQ o)) o r.cells.length:=rfl
   have hfd:∀j:Nat,j<r.cells.length→JA (JQ (ZH r (JQ o))++ys) j=(((ZH r (JQ o)).getD j 0:Nat):Int):=fun j hj=>by rw[Jfv (by omega),Zf];rfl
   have hpl:=G1 r (ZH r (JQ o)) o
   rw[hst]at hsu
   rw[hfn]
   generalize ZH r (JQ o)=fd at hsu hlk hfd hfn hpl⊢
   have hyl:(JQ fd++ys).length=r.cells.length+ys.length:=by rw[Jk,hfn]
   generalize JQ fd++ys=zs at hlk hfd hyl
   simp(maxSteps:=999999)(disch:=omega)only[go_sem,zA,zM,zS,zE,zL,hlk]
   refine JY (fun j:Nat=>r.cells.length -j) (fun j=>j≤r.cells.length) (fun j=>[.a, .a, .k, .a, .a, .k, .a, .k, .a, .a, .a, .a, .a, .a, .a, .a, .a, .a, .a, .a, .a, .a, .a, .k, .k, .k, .a, .a, .a, .a, .a, .a, .a, .k, .k, .p (int j), .a, .a, .a, .a, .a, .a, .a, .a, .a, .a, .a, .a, .a, .a, .a]) (fun j=>some ⟨g0,1,cP p⟩::some ⟨g,1,cl (eI .i64) (JQ (Fe r fd o j))⟩::some ⟨g2,3,[.f (.int .i64 r.kind), .f (J5 r.cells), .f (.int .i64 r.val)]⟩::H') 0 (Nat.zero_le _) (by simp(maxSteps:=999999)(disch:=omega)only[go_sem,zA,zM,zS,zE,zL];rfl) (J0.refl _) ?_
   intro j hj
   simp(maxSteps:=999999)(disch:=omega)only[go_sem,zA,zM,zS,zE,zL]
   ((first|(with_reducible first|refine Jl ?_ ?_|refine Jj ?_ ?_|refine Jp ?_ ?_)|refine Jr ?_ ?_)<;>intro h2)
   · have h2:j<r.cells.length:=by omega
     have hcj:=f3 _ (ZP h2)
     have hps:=Yd r fd o j
     have hfj:=hfd j h2
     obtain⟨q,hq⟩:∃q:Nat,JA r.cells j=q:=⟨(JA r.cells j).toNat,by omega⟩
     rw[hq,Int.toNat_natCast]at hps
     have hqn:q<n*n:=by rw[hq]at hcj;omega
     have hQl:(JQ (Fe r fd o j)).length=n*n:=by rw[Qq,hpl];exact hok.len
     simp(maxSteps:=999999)(disch:=omega)only[go_sem,zA,zM,zS,zE,zL,hlk,hfj,hq,hQl]
     exact⟨j+1,⟨by omega,by omega⟩,by push_cast;rfl,Z4 rfl (Z4 (by rw[hps,←VE,Int.toNat_natCast]) (J0.refl _))⟩
   · have hje:j=r.cells.length:=by omega
     subst hje
     rw[←hsu]
     simp(maxSteps:=999999)(disch:=omega)only[go_sem,zA,zM,zS,zE,zL]
     exact⟨k+1,⟨by omega,by omega⟩,by push_cast;rfl,Z4 rfl (Z4 rfl (Qu _))⟩
 · have hke:k=p.rules.length:=by omega
   have hM:B9 p ms k=YC p ms:=by rw[hke];unfold B9 YC;rw[List.take_length]
   rw[hM]at hok⊢
   have hl2:(JQ (YC p ms)).length=n*n:=by rw[Qq];exact hok.len
   simp(maxSteps:=999999)(disch:=omega)only[go_sem,zA,zM,zS,zE,zL]
   rw[←hl2]
   exact⟨_,J0.refl _,Xv (E:=eI .i64) (n:=1) (J8 (H:=[some ⟨g0,1,cP p⟩,some ⟨g,1,cl (eI .i64) (JQ (YC p ms))⟩]) (id:=1) (b:=⟨g,1,cl (eI .i64) (JQ (YC p ms))⟩) rfl)⟩
end Go.Lg

namespace Go.Lg
open Go.Proofs
set_option maxHeartbeats 4000000 in
theorem B7{p:Q4}{n:Nat}(hp:Ux p n)(hv:JB p=true)(ms:List Nat)(hm:XT ms n):JW Tryz.prog 135 [aP p,QO (JQ ms)] (QO (JQ (YC p ms))):=by
 have hn:=hp.hn
 have hsq:4≤n*n∧n*n≤16:=by rcases hn with rfl|rfl|rfl<;>omega
 have hl:(JQ ms).length=n*n:=by rw[Qq];exact hm.len
 have hz:=hp.size
 have hrl:=hp.rl
 have hmv:=Zr hn (JQ ms) hm.ok
 rw[←hz]at hmv
 refine JW.ice (Q:=fun v H'=>Vu H' v=some (QO (JQ (YC p ms)))) ?_ (fun r H' h=>h)
 refine Jn.cw (c:=_) Tryz.func135 rfl (n:=59) Tryz.ntmps135 (rs:=[.tmp 4]) rfl ?_
 simp only[Je,Jf,zA,zS,Jd,Jb,Jc]
 simp(maxSteps:=999999)(disch:=omega)only[go_sem,zA,zM,zS,zE,zL]
 intro g0
 first|refine JZ.rd (Qh p hp.sm) (⟨_,Tryz.func38,rfl,rfl⟩:Ji Tryz.prog 38) rfl rfl rfl rfl ?_|refine JK.rd (Qh p hp.sm) (⟨_,Tryz.func38,rfl,rfl⟩:Ji Tryz.prog 38) rfl rfl rfl rfl ?_
 simp(maxSteps:=999999)(disch:=omega)only[go_sem,zA,zM,zS,zE,zL]
 ((with_reducible first|refine JJ ?_ ?_|refine JF ?_ ?_|refine JU ?_ ?_|refine Jw ?_ ?_|refine JH ?_ ?_|refine JI ?_ ?_|refine JD ?_ ?_|refine JE ?_ ?_|refine JS ?_ ?_|refine JT ?_ ?_|refine Jy ?_ ?_|refine Jz ?_ ?_)<;>intro c1<;>simp(maxSteps:=999999)(disch:=omega)only[go_sem,zA,zM,zS,zE,zL,c1])
 rotate_left
 · exfalso;rw[hv]at c1;cases c1
 first|refine JZ.rd (hmv) (⟨_,Tryz.func131,rfl,rfl⟩:Ji Tryz.prog 131) rfl rfl rfl rfl ?_|refine JK.rd (hmv) (⟨_,Tryz.func131,rfl,rfl⟩:Ji Tryz.prog 131) rfl rfl rfl rfl ?_
 simp(maxSteps:=999999)(disch:=omega)only[go_sem,zA,zM,zS,zE,zL]
 refine JZ.mkQ (YH (JQ ms) (by omega) (by intro h;rw[h]at hl;simp at hl;omega)) (⟨_,Tryz.func153,rfl,rfl⟩:Ji Tryz.prog 153) rfl rfl rfl ?_
 rintro _ _ ⟨g,rfl,rfl⟩
 refine⟨rfl, ?_⟩
 simp(maxSteps:=999999)(disch:=omega)only[go_sem,zA,zM,zS,zE,zL]
 rw[hl]
 refine JY (fun k:Nat=>p.rules.length -k) (fun k=>k≤p.rules.length) (fun k=>[.a, .a, .k, .a, .a, .k, .p (int k), .a, .a, .a, .a, .a, .a, .a, .a, .a, .a, .a, .a, .a, .a, .a, .a, .a, .a, .a, .a, .a, .a, .a, .a, .a, .a, .a, .a, .a, .a, .a, .a, .a, .a, .a, .a, .a, .a, .a, .a, .a, .a, .a, .a, .a, .a, .a, .a, .a, .a, .a, .a]) (fun k=>[some ⟨g0,1,cP p⟩,some ⟨g,1,cl (eI .i64) (JQ (B9 p ms k))⟩]) 0 (Nat.zero_le _) (by simp(maxSteps:=999999)(disch:=omega)only[go_sem,zA,zM,zS,zE,zL];rfl) (J0.refl _) ?_
 intro k hk
 have hok:XT (B9 p ms k) n:=BM _ hm
 simp(maxSteps:=999999)(disch:=omega)only[go_sem,zA,zM,zS,zE,zL]
 ((first|(with_reducible first|refine Jl ?_ ?_|refine Jj ?_ ?_|refine Jp ?_ ?_)|refine Jr ?_ ?_)<;>intro h1)
 · have h1:k<p.rules.length:=by omega
   have hsu:=JaV (ms:=ms) h1
   have hrv:=hp.rv _ (ZP h1)
   generalize B9 p ms k=o at hok hsu⊢
   have hol:(JQ o).length=n*n:=by rw[Qq];exact hok.len
   simp(maxSteps:=999999)(disch:=omega)only[go_sem,zA,zM,zS,zE,zL]
   intro g2
   generalize JA p.rules k=r at hsu hrv⊢
   have hown:Qy [some ⟨g0,1,cP p⟩,some ⟨g,1,cl (eI .i64) (JQ o)⟩,some ⟨g2,3,[.f (.int .i64 r.kind), .f (J5 r.cells), .f (.int .i64 r.val)]⟩] (.own 1 g 0 (n*n) none) (JQ o) [1]:=by
    have:=Qy.o (H:=[some ⟨g0,1,cP p⟩,some ⟨g,1,cl (eI .i64) (JQ o)⟩,some ⟨g2,3,[.f (.int .i64 r.kind), .f (J5 r.cells), .f (.int .i64 r.val)]⟩]) 1 g none (JQ o) [] (by rw[Ju];exact J8 (H:=[some ⟨g0,1,cP p⟩,some ⟨g,1,cl (eI .i64) (JQ o)⟩,some ⟨g2,3,[.f (.int .i64 r.kind), .f (J5 r.cells), .f (.int .i64 r.val)]⟩]) (id:=1) (b:=⟨g,1,cl (eI .i64) (JQ o)⟩) rfl)
    rwa [hol]at this
   have hrun:=Jbx hn r o hrv hok
   rw[←hz]at hrun
   refine JZ.mkDI hrun (⟨_,Tryz.func155,rfl,rfl⟩:Ji Tryz.prog 155) rfl rfl (Xj JaO hown.snap VO) ?_
   intro c H' S ho hS
   have hfl:=JaU r o
   have hfn:(JQ (ZH r (JQ o))).length=r.cells.length:=by rw[Qq];exact hfl
   obtain⟨f1,f2,f3,f4⟩:=Q9 hrv
   obtain⟨cid,cg,lim,ys,rfl,hSe,hlk⟩:=ho.look1 (by omega)
   have hid:3≤cid:=(hS cid (by rw[hSe];simp)).1
   obtain⟨ci,rfl⟩:∃ci,cid=ci+3:=⟨cid -3,by omega⟩
   have hlk:look H' ci cg=some ⟨cg,1,cl (eI .i64) (JQ (ZH r (JQ o))++ys)⟩:=hlk
   have hst:JcS o r=Fe r (ZH r (JQ o)) o r.cells.length:=rfl
   have hfd:∀j:Nat,j<r.cells.length→JA (JQ (ZH r (JQ o))++ys) j=(((ZH r (JQ o)).getD j 0:Nat):Int):=fun j hj=>by rw[Jfv (by omega),Zf];rfl
   have hpl:=G1 r (ZH r (JQ o)) o
   rw[hst]at hsu
   rw[hfn]
   generalize ZH r (JQ o)=fd at hsu hlk hfd hfn hpl⊢
   have hyl:(JQ fd++ys).length=r.cells.length+ys.length:=by rw[Jk,hfn]
   generalize JQ fd++ys=zs at hlk hfd hyl
   simp(maxSteps:=999999)(disch:=omega)only[go_sem,zA,zM,zS,zE,zL,hlk]
   refine JY (fun j:Nat=>r.cells.length -j) (fun j=>j≤r.cells.length) (fun j=>[.a, .a, .k, .a, .a, .k, .k, .k, .k, .p (int j), .a, .a, .a, .a, .a, .a, .a, .a, .a, .a, .a, .a, .a, .a, .a, .a, .a, .a, .a, .a, .a, .a, .a, .a, .a, .a, .a, .a, .a, .a, .a, .a, .a, .a, .a, .a, .a, .a, .a, .a, .a, .a, .a, .a, .a, .a, .a, .a, .a]) (fun j=>some ⟨g0,1,cP p⟩::some ⟨g,1,cl (eI .i64) (JQ (Fe r fd o j))⟩::some ⟨g2,3,[.f (.int .i64 r.kind), .f (J5 r.cells), .f (.int .i64 r.val)]⟩::H') 0 (Nat.zero_le _) (by simp(maxSteps:=999999)(disch:=omega)only[go_sem,zA,zM,zS,zE,zL];rfl) (J0.refl _) ?_
   intro j hj
   simp(maxSteps:=999999)(disch:=omega)only[go_sem,zA,zM,zS,zE,zL]
   ((first|(with_reducible first|refine Jl ?_ ?_|refine Jj ?_ ?_|refine Jp ?_ ?_)|refine Jr ?_ ?_)<;>intro h2)
   · have h2:j<r.cells.length:=by omega
     have hcj:=f3 _ (ZP h2)
     have hps:=Yd r fd o j
     have hfj:=hfd j h2
     obtain⟨q,hq⟩:∃q:Nat,JA r.cells j=q:=⟨(JA r.cells j).toNat,by omega⟩
     rw[hq,Int.toNat_natCast]at hps
     have hqn:q<n*n:=by rw[hq]at hcj;omega
     have hQl:(JQ (Fe r fd o j)).length=n*n:=by rw[Qq,hpl];exact hok.len
     simp(maxSteps:=999999)(disch:=omega)only[go_sem,zA,zM,zS,zE,zL]
     have hM:∀b,look (Zg [] (some ⟨g0,1,cP p⟩::b::some ⟨g2,3,[.f (.int .i64 r.kind), .f (J5 r.cells), .f (.int .i64 r.val)]⟩::H')) (ci+3) cg=some ⟨cg,1,cl (eI .i64) zs⟩:=fun b=>hlk
     refine Ui [0,1,2,3,4,5,6,7,8,9] [] none [10,11] [] Zd (by kernel_rfl) ?_
     simp(maxSteps:=999999)(disch:=omega)only[go_sem,Nat.reduceBEq,Bool.true_or,zA,zM,zS,zE,zL]
     simp(maxSteps:=999999)(disch:=omega)only[go_sem,zA,zM,zS,zE,zL,hlk,hfj,hq,hQl]
     exact⟨j+1,⟨by omega,by omega⟩,by push_cast;rfl,Z4 rfl (Z4 (by rw[hps,←VE,Int.toNat_natCast]) (J0.refl _))⟩
   · have hje:j=r.cells.length:=by omega
     subst hje
     rw[←hsu]
     simp(maxSteps:=999999)(disch:=omega)only[go_sem,zA,zM,zS,zE,zL]
     exact⟨k+1,⟨by omega,by omega⟩,by push_cast;rfl,Z4 rfl (Z4 rfl (Qu _))⟩
 · have hke:k=p.rules.length:=by omega
   have hM:B9 p ms k=YC p ms:=by rw[hke];unfold B9 YC;rw[List.take_length]
   rw[hM]at hok⊢
   have hl2:(JQ (YC p ms)).length=n*n:=by rw[Qq];exact hok.len
   simp(maxSteps:=999999)(disch:=omega)only[go_sem,zA,zM,zS,zE,zL]
   rw[←hl2]
   exact⟨_,J0.refl _,Xv (E:=eI .i64) (n:=1) (J8 (H:=[some ⟨g0,1,cP p⟩,some ⟨g,1,cl (eI .i64) (JQ (YC p ms))⟩]) (id:=1) (b:=⟨g,1,cl (eI .i64) (JQ (YC p ms))⟩) rfl)⟩
end Go.Lg
