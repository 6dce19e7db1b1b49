/- GpDE, cut to what is needed. -/
import Derived.Test.YtiahmfdabpafoaaGreatDoorKac3
import Derived.Test.YtiahmfdabpafoaaGreatDoorKab6
open List renaming cons_append → Jc, nil_append → Jd, length_cons → Jf, replicate → Jg, length_nil → Jl, take_of_length_le → Jn, append_nil → Jv, length_take → JA, drop_zero → JB, length_replicate → QV
open Nat renaming reduceAdd→zA,reduceMul→zM,reduceSub→zS,reduceEqDiff→zE,reduceLeDiff→zL
set_option linter.unusedSimpArgs false
set_option linter.unusedVariables false
set_option maxRecDepth 100000
namespace Go.Lg
open Go.Proofs
def Rn(ms:List Int)(n:Nat):Prop:=ms.length=n*n∧∀k:Nat,k<ms.length→0≤JM ms k∧JM ms k≤((2^(n+1) -2:Nat):Int)∧JM ms k%2=0
theorem JdE{n:Nat}(hn:n=2∨n=3∨n=4):U3 .and .i64 (n:Int) 7=n:=by
 rcases hn with rfl|rfl|rfl<;>rfl
theorem Jg9{n:Nat}(hn:n=2∨n=3∨n=4):ZJ .shl .i64 1 .i64 ((n:Int)+1)=some (.int .i64 (((2^(n+1):Nat)):Int)):=by
 rcases hn with rfl|rfl|rfl<;>rfl
theorem WI{n:Nat}(hn:n=2∨n=3∨n=4)(ms:List Int)(hm:Rn ms n):Qd Tryz.prog 110 [ZY ms,int n] (bool true):=by
 obtain⟨hl,hv⟩:=hm
 have hsq:4≤n*n∧n*n≤16:=by rcases hn with rfl|rfl|rfl<;>omega
 have hpw:(2^(n+1):Nat)≤32∧8≤(2^(n+1):Nat):=by rcases hn with rfl|rfl|rfl<;>omega
 have hsi:(n:Int)*n=((n*n:Nat):Int):=by push_cast;rfl
 refine Jq.cw (c:=_) Tryz.func110 rfl (n:=41) Tryz.ntmps110 (rs:=[.tmp 4]) rfl ?_
 simp only[Jf,Jl,zA,zS,Jg,Jc,Jd]
 simp(maxSteps:=999999)(disch:=omega)only[go_sem,zA,zM,zS,zE,zL]
 refine Qw (fun k:Nat=>ms.length -k) (fun k=>k≤ms.length) (fun k=>[.k, .k, .a, .a, .a, .p (int k), .a, .a, .a, .a, .a, .a, .a, .a, .a, .a, .a, .a, .a, .a, .a, .a, .a, .a, .a, .a, .a, .a, .a, .a, .a, .a, .a, .a, .a, .a, .a, .a, .a, .a, .a]) (fun _=>[]) 0 (Nat.zero_le _) (by simp(maxSteps:=999999)(disch:=omega)only[go_sem,zA,zM,zS,zE,zL];rfl) (J8 _) ?_
 intro k hk
 simp(maxSteps:=999999)(disch:=omega)only[go_sem,zA,zM,zS,zE,zL]
 ((first|(with_reducible first|refine Jo ?_ ?_|refine Jk ?_ ?_|refine Jp ?_ ?_)|refine Jr ?_ ?_)<;>intro h1)
 · have h1:k<ms.length:=by omega
   obtain⟨v0,v1,v2⟩:=hv k h1
   have v3:(JM ms k).tmod 2=0:=by rw[Un v0];exact v2
   simp(maxSteps:=999999)(disch:=omega)only[go_sem,zA,zM,zS,zE,zL]
   refine Zg [0,1,2,3,4,5,6,7,8,9,10,11,12,13] [] none [14,15,16,17,18] [] [0,0,3,7,0,16,48,112,240,511,1023,2047,4095,4095,16383,32767,65535,131071,262143] Zr (by kernel_rfl) ?_
   simp(maxSteps:=999999)(disch:=omega)only[go_sem,zA,zM,zS,zE,zL,JdE hn,Jg9 hn]
   first|refine Qh.rd (QF _ _ _) (⟨_,Tryz.func45,rfl,rfl⟩:Jm Tryz.prog 45) rfl rfl rfl rfl ?_|refine Qe.rd (QF _ _ _) (⟨_,Tryz.func45,rfl,rfl⟩:Jm Tryz.prog 45) rfl rfl rfl rfl ?_
   simp(maxSteps:=999999)(disch:=omega)only[go_sem,zA,zM,zS,zE,zL]
   ((with_reducible first|refine JU ?_ ?_|refine JJ ?_ ?_|refine J6 ?_ ?_|refine Jx ?_ ?_|refine JS ?_ ?_|refine JT ?_ ?_|refine JH ?_ ?_|refine JI ?_ ?_|refine J4 ?_ ?_|refine J5 ?_ ?_|refine JC ?_ ?_|refine JD ?_ ?_)<;>intro h2<;>simp(maxSteps:=999999)(disch:=omega)only[go_sem,zA,zM,zS,zE,zL,h2])
   · simp(maxSteps:=999999)(disch:=omega)only[go_sem,zA,zM,zS,zE,zL,v3]
     exact⟨k+1,⟨by omega,by omega⟩,by push_cast;omega,J8 _⟩
   · exfalso;omega
 · simp(maxSteps:=999999)(disch:=omega)only[go_sem,zA,zM,zS,zE,zL]
   first|refine Qh.rd (QF _ _ _) (⟨_,Tryz.func45,rfl,rfl⟩:Jm Tryz.prog 45) rfl rfl rfl rfl ?_|refine Qe.rd (QF _ _ _) (⟨_,Tryz.func45,rfl,rfl⟩:Jm Tryz.prog 45) rfl rfl rfl rfl ?_
   simp(maxSteps:=999999)(disch:=omega)only[go_sem,zA,zM,zS,zE,zL]
   ((with_reducible first|refine JU ?_ ?_|refine JJ ?_ ?_|refine J6 ?_ ?_|refine Jx ?_ ?_|refine JS ?_ ?_|refine JT ?_ ?_|refine JH ?_ ?_|refine JI ?_ ?_|refine J4 ?_ ?_|refine J5 ?_ ?_|refine JC ?_ ?_|refine JD ?_ ?_)<;>intro h2<;>simp(maxSteps:=999999)(disch:=omega)only[go_sem,zA,zM,zS,zE,zL,h2])
   · rw[hsi,hl]
   · exfalso;omega
theorem JaW(k:Nat):Z9 (Jg k 0)=Jg k 0:=by simp[Z9]
def Vs(r:Q2)(ms:List Int):List Nat:=VJ r (WX r ms 0) [] (Jg r.cells.length 0)
theorem RH{n:Nat}(hn:n=2∨n=3∨n=4)(r:Q2)(ms:List Int)(hv:JQ r n=true)(hm:Rn ms n)(hr:Jid r ms):Jq Tryz.prog 101 [aR r,ZY ms,int n] [] (Jhd (Z9 (Vs r ms))):=by
 have hl4:=hr.len
 refine Jq.cw (c:=_) Tryz.func101 rfl (n:=29) Tryz.ntmps101 (rs:=[.tmp 6]) rfl ?_
 simp only[Jf,Jl,zA,zS,Jg,Jc,Jd]
 simp(maxSteps:=999999)(disch:=omega)only[go_sem,zA,zM,zS,zE,zL]
 intro g1
 first|refine Qh.rd (Zp r n (by omega)) (⟨_,Tryz.func21,rfl,rfl⟩:Jm Tryz.prog 21) rfl rfl rfl rfl ?_|refine Qe.rd (Zp r n (by omega)) (⟨_,Tryz.func21,rfl,rfl⟩:Jm Tryz.prog 21) rfl rfl rfl rfl ?_
 simp(maxSteps:=999999)(disch:=omega)only[go_sem,zA,zM,zS,zE,zL]
 ((with_reducible first|refine JU ?_ ?_|refine JJ ?_ ?_|refine J6 ?_ ?_|refine Jx ?_ ?_|refine JS ?_ ?_|refine JT ?_ ?_|refine JH ?_ ?_|refine JI ?_ ?_|refine J4 ?_ ?_|refine J5 ?_ ?_|refine JC ?_ ?_|refine JD ?_ ?_)<;>intro h1<;>simp(maxSteps:=999999)(disch:=omega)only[go_sem,zA,zM,zS,zE,zL,h1])
 rotate_left
 · exfalso;rw[hv]at h1;cases h1
 first|refine Qh.rd (WI hn ms hm) (⟨_,Tryz.func110,rfl,rfl⟩:Jm Tryz.prog 110) rfl rfl rfl rfl ?_|refine Qe.rd (WI hn ms hm) (⟨_,Tryz.func110,rfl,rfl⟩:Jm Tryz.prog 110) rfl rfl rfl rfl ?_
 simp(maxSteps:=999999)(disch:=omega)only[go_sem,zA,zM,zS,zE,zL]
 intro g2 g3
 have hrun:=R4 r ms hr r.cells.length [some ⟨g1,1,cR r⟩,some ⟨g2,1,cl (eI .i64) (Jg r.cells.length 0)⟩,some ⟨g3,1,[]⟩] 2 g3 [] 1 g2 (Jg r.cells.length 0) (by simp) (by simp only[go_sem];rfl) (by simp) (by omega)
  (by rw[JaW];simp only[go_sem]) (by simp) (fun x hx=>by rw[List.eq_of_mem_replicate hx];omega)
 rw[QV]at hrun
 refine Qh.run hrun (⟨_,Tryz.func111,rfl,rfl⟩:Jm Tryz.prog 111) rfl rfl ?_
 rintro _ H2 ⟨rfl,l2,len2,f2⟩
 simp(maxSteps:=999999)(disch:=omega)only[go_sem,zA,zM,zS,zE,zL]
 have hlen:(Z9 (Vs r ms)).length=r.cells.length:=by
  rw[U0,Vs,Yj _ _ _ _ (by simp[WX])]
  simp
 have hown:Qv H2 (.own 1 g2 0 r.cells.length none) (Z9 (Vs r ms)) [1]:=by
  have:=Qv.o (H:=H2) 1 g2 none (Z9 (Vs r ms)) [] (by rw[Jv];exact l2)
  rwa [hlen]at this
 exact⟨R6 [1] H2,Je1 _ _,_,[1],rfl,hown.same fun i hi=>Jc0 hi (hown.lt i hi),JaI hown.blk⟩
theorem Ud{r:Q2}{n:Nat}(hv:JQ r n=true):(1≤r.cells.length∧r.cells.length≤4)∧(r.kind=1∨r.kind=2∨r.kind=3∨r.cells.length=2)∧(∀c∈r.cells,0≤c∧c<(n*n:Nat))∧r.cells.Nodup:=by
 simp only[JQ,decide_eq_true_eq]at hv
 obtain⟨h1,h2,h3⟩:=hv
 refine⟨?_, ?_,fun c hc=> ?_, ?_⟩
 · rcases h3 with h|h|h|h<;>omega
 · rcases h3 with h|h|h|h<;>omega
 · obtain⟨j,hj,rfl⟩:=List.mem_iff_getElem.1 hc
   have:=(h2 j hj).1
   rw[Qu (by omega)]at this
   simp only[Int.toNat_natCast]at this
   push_cast
   exact this
 · rw[List.nodup_iff_pairwise_ne,List.pairwise_iff_getElem]
   intro i j hi hj hij
   have:=(h2 j hj).2 i hij
   rw[Qu (by omega),Qu (by omega)]at this
   simp only[Int.toNat_natCast]at this
   exact this
def WK(n:Nat)(v:Int):Int:=if v=0 then((2^(n+1) -2:Nat):Int)else((2^v.toNat:Nat):Int)
def Zu(xs:List Int)(n:Nat):List Int:=xs.map (WK n)
theorem Ku{xs:List Int}{n k:Nat}(h:k<xs.length):JM (Zu xs n) k=WK n (JM xs k):=by
 rw[Qu (by simp[Zu];omega),Qu (by omega)]
 simp[Zu]
theorem JeK{n:Nat}(hn:n=2∨n=3∨n=4){v:Int}(h:0≤v∧v≤n):0≤WK n v∧WK n v≤((2^(n+1) -2:Nat):Int)∧WK n v%2=0:=by
 unfold WK
 obtain⟨k,rfl⟩:∃k:Nat,v=k:=⟨v.toNat,by omega⟩
 have:k=0∨k=1∨k=2∨k=3∨k=4:=by omega
 rcases hn with rfl|rfl|rfl<;>rcases this with rfl|rfl|rfl|rfl|rfl<;>first|omega|decide
theorem NY{xs:List Int}{n:Nat}(hn:n=2∨n=3∨n=4)(hl:xs.length=n*n)(hv:∀k:Nat,k<xs.length→0≤JM xs k∧JM xs k≤n):Rn (Zu xs n) n:=by
 refine⟨by simp[Zu,hl],fun k hk=> ?_⟩
 have hk':k<xs.length:=by simpa[Zu]using hk
 rw[Ku hk']
 exact JeK hn (hv k hk')
theorem Jdg{xs:List Int}{n:Nat}{r:Q2}(hn:n=2∨n=3∨n=4)(hl:xs.length=n*n)(hv:∀k:Nat,k<xs.length→0≤JM xs k∧JM xs k≤n)(hr:JQ r n=true):Jid r (Zu xs n):=by
 have hok:=NY hn hl hv
 obtain⟨h1,h2,h3,_⟩:=Ud hr
 have hsq:n*n≤16:=by rcases hn with rfl|rfl|rfl<;>omega
 have hpw:(2^(n+1):Nat)≤32:=by rcases hn with rfl|rfl|rfl<;>omega
 refine⟨h1.2,h2,fun c hc=> ?_,by rw[hok.1];omega⟩
 have hcc:=h3 c hc
 obtain⟨k,rfl⟩:∃k:Nat,c=k:=⟨c.toNat,by omega⟩
 have hk:k<(Zu xs n).length:=by rw[hok.1];omega
 have:=hok.2 k hk
 exact⟨by omega,by omega,this.1,by omega,this.2.2⟩
theorem BX{xs:List Int}{n:Nat}{r:Q2}(hl:xs.length=n*n)(hv:∀k:Nat,k<xs.length→0≤JM xs k∧JM xs k≤n)(hr:JQ r n=true):Wz r xs n=((Vs r (Zu xs n)).getD 0 0 !=0):=by
 obtain⟨h1,h2,h3,_⟩:=Ud hr
 have e:r.cells.map (JaZ xs n)=WX r (Zu xs n) 0:=by
  unfold WX
  rw[JB]
  refine List.map_congr_left fun c hc=> ?_
  have hcc:=h3 c hc
  obtain⟨k,rfl⟩:∃k:Nat,c=k:=⟨c.toNat,by omega⟩
  have hk:k<xs.length:=by rw[hl];omega
  have:=hv k hk
  rw[Ku hk]
  unfold JaZ WK
  by_cases h0:JM xs k=0
  · rw[if_neg (by omega),if_pos h0];rfl
  · rw[if_pos (by omega),if_neg h0];rfl
 unfold Wz Vs
 rw[e]
theorem Yq{n:Nat}(hn:n=2∨n=3∨n=4)(r:Q2)(xs:List Int)(hr:JQ r n=true)(hg:J9 xs n=true):Qd Tryz.prog 86 [aR r,ZY xs,int n] (bool (Wz r xs n)):=by
 obtain⟨h1,h2,h3,_⟩:=Ud hr
 have hb:=Qz hg
 have hxl:xs.length=n*n:=by have:=hb.2.2.1;rcases hn with rfl|rfl|rfl<;>omega
 have hxv:∀k:Nat,k<xs.length→0≤JM xs k∧JM xs k≤n:=hb.2.2.2.2
 refine Jq.cw (c:=_) Tryz.func86 rfl (n:=52) Tryz.ntmps86 (rs:=[.tmp 6]) rfl ?_
 simp only[Jf,Jl,zA,zS,Jg,Jc,Jd]
 simp(maxSteps:=999999)(disch:=omega)only[go_sem,zA,zM,zS,zE,zL]
 intro g1
 first|refine Qh.rd (Zp r n (by omega)) (⟨_,Tryz.func21,rfl,rfl⟩:Jm Tryz.prog 21) rfl rfl rfl rfl ?_|refine Qe.rd (Zp r n (by omega)) (⟨_,Tryz.func21,rfl,rfl⟩:Jm Tryz.prog 21) rfl rfl rfl rfl ?_
 simp(maxSteps:=999999)(disch:=omega)only[go_sem,zA,zM,zS,zE,zL]
 ((with_reducible first|refine JU ?_ ?_|refine JJ ?_ ?_|refine J6 ?_ ?_|refine Jx ?_ ?_|refine JS ?_ ?_|refine JT ?_ ?_|refine JH ?_ ?_|refine JI ?_ ?_|refine J4 ?_ ?_|refine J5 ?_ ?_|refine JC ?_ ?_|refine JD ?_ ?_)<;>intro c1<;>simp(maxSteps:=999999)(disch:=omega)only[go_sem,zA,zM,zS,zE,zL,c1])
 rotate_left
 · exfalso;rw[hr]at c1;cases c1
 first|refine Qh.rd (Q4 xs n (by omega)) (⟨_,Tryz.func22,rfl,rfl⟩:Jm Tryz.prog 22) rfl rfl rfl rfl ?_|refine Qe.rd (Q4 xs n (by omega)) (⟨_,Tryz.func22,rfl,rfl⟩:Jm Tryz.prog 22) rfl rfl rfl rfl ?_
 simp(maxSteps:=999999)(disch:=omega)only[go_sem,zA,zM,zS,zE,zL]
 ((first|(with_reducible first|refine Jo ?_ ?_|refine Jk ?_ ?_|refine Jp ?_ ?_)|refine Jr ?_ ?_)<;>intro c2)
 rotate_left
 · exfalso;rw[hg]at c2;cases c2
 simp(maxSteps:=999999)(disch:=omega)only[go_sem,zA,zM,zS,zE,zL]
 intro g2
 have hlM:(Zu xs n).length=xs.length:=by simp[Zu]
 have hsq:n*n≤16:=by rcases hn with rfl|rfl|rfl<;>omega
 have hpw:(2^(n+1):Nat)≤32∧8≤(2^(n+1):Nat):=by rcases hn with rfl|rfl|rfl<;>omega
 refine Qj (fun(k g:Nat)=>xs.length -k) (fun k g=>k≤xs.length) (fun k g=>[.a, .k, .k, .k, .a, .a, .a, .p (.c (.own 1 g 0 k none)), .p (int k), .a, .a, .a, .a, .a, .a, .a, .a, .a, .a, .a, .a, .a, .a, .a, .a, .a, .a, .a, .a, .a, .a, .a, .a, .a, .a, .a, .a, .a, .a, .a, .a, .a, .a, .a, .a, .a, .a, .a, .a, .a, .a, .a]) (fun k g=>[some ⟨g1,1,cR r⟩,some ⟨g,1,cl (eI .i64) ((Zu xs n).take k)⟩]) 0 g2 (Nat.zero_le _) (by simp(maxSteps:=999999)(disch:=omega)only[go_sem,zA,zM,zS,zE,zL];rfl) (Qc.refl _) ?_
 intro k g hk
 simp(maxSteps:=999999)(disch:=omega)only[go_sem,zA,zM,zS,zE,zL]
 ((first|(with_reducible first|refine Jo ?_ ?_|refine Jk ?_ ?_|refine Jp ?_ ?_)|refine Jr ?_ ?_)<;>intro c3)
 · have c3:k<xs.length:=by omega
   have hv:=hxv k c3
   have hM:(Zu xs n).take (k+1)=(Zu xs n).take k++[WK n (JM xs k)]:=by rw[JX (by omega),Ku c3]
   have htl:((Zu xs n).take k).length=k:=by rw[JA,hlM];omega
   simp(maxSteps:=999999)(disch:=omega)only[go_sem,zA,zM,zS,zE,zL,Xj (v:=JM xs k) (by omega)]
   ((first|(with_reducible first|refine Jo ?_ ?_|refine Jk ?_ ?_|refine Jp ?_ ?_)|refine Jr ?_ ?_)<;>intro c4)
   · have hz:WK n (JM xs k)=((2^(n+1):Nat):Int) -2:=by unfold WK;rw[if_pos c4];omega
     simp(maxSteps:=999999)(disch:=omega)only[go_sem,zA,zM,zS,zE,zL,Jg9 hn]
     intro g3 g4
     refine⟨k+1,g4,⟨by omega,by omega⟩,⟨⟨rfl,rfl⟩,by push_cast;omega⟩, ?_⟩
     rw[hM,hz]
     exact Qc.app [_,_] [_]
   · have hz:WK n (JM xs k)=((2^(JM xs k).toNat:Nat):Int):=by unfold WK;rw[if_neg c4]
     simp(maxSteps:=999999)(disch:=omega)only[go_sem,zA,zM,zS,zE,zL]
     intro g3 g4
     refine⟨k+1,g4,⟨by omega,by omega⟩,⟨⟨rfl,rfl⟩,by push_cast;omega⟩, ?_⟩
     rw[hM,hz]
     exact Qc.app [_,_] [_]
 · have hke:k=xs.length:=by omega
   have hMe:(Zu xs n).take k=Zu xs n:=Jn (by omega)
   simp(maxSteps:=999999)(disch:=omega)only[go_sem,zA,zM,zS,zE,zL]
   rw[hMe]
   have hown:Qv [some ⟨g1,1,cR r⟩,some ⟨g,1,cl (eI .i64) (Zu xs n)⟩] (.own 1 g 0 k none) (Zu xs n) [1]:=by
    have:=Qv.o (H:=[some ⟨g1,1,cR r⟩,some ⟨g,1,cl (eI .i64) (Zu xs n)⟩]) 1 g none (Zu xs n) [] (by rw[Jv];simp only[go_sem])
    rwa [hlM,←hke]at this
   refine Qh.mkDI (RH hn r (Zu xs n) hr (NY hn hxl hxv) (Jdg hn hxl hxv hr)) (⟨_,Tryz.func101,rfl,rfl⟩:Jm Tryz.prog 101) rfl rfl (JaC rfl hown.snap V4) ?_
   intro c H2 S2 o2 hS2
   have hln:0<(Z9 (Vs r (Zu xs n))).length:=by
    rw[U0,Vs,Yj _ _ _ _ (by simp[WX])]
    simp
    omega
   obtain⟨id,g',lim,ys,rfl,rfl,hlk⟩:=o2.inv' hln
   rw[BX hxl hxv hr]
   have hld:ldP (some ⟨g',1,cl (eI .i64) (Z9 (Vs r (Zu xs n))++ys)⟩) 0=some (int (((Vs r (Zu xs n)).getD 0 0:Nat):Int)):=by
    rw[U0]at hln
    obtain⟨a,t,he⟩:=List.exists_cons_of_length_pos hln
    rw[he]
    rfl
   have hlk':look (some ⟨g1,1,cR r⟩::some ⟨g,1,cl (eI .i64) (Zu xs n)⟩::H2) id g'=some ⟨g',1,cl (eI .i64) (Z9 (Vs r (Zu xs n))++ys)⟩:=hlk
   have hl0:0<(Z9 (Vs r (Zu xs n))++ys).length:=by simp;omega
   simp(maxSteps:=999999)(disch:=omega)only[go_sem,zA,zM,zS,zE,zL,hlk',Int.reduceToNat,hld]
   generalize(Vs r (Zu xs n)).getD 0 0=x
   by_cases hx:x=0
   · subst hx;rfl
   · rw[decide_eq_false (by omega)]
     simp[hx]
end Go.Lg
