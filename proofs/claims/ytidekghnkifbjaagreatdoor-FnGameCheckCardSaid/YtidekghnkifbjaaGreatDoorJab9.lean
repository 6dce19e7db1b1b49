/- GpDE, GpDF, GpDG, cut to what is needed. -/
import Derived.Test.YtidekghnkifbjaaGreatDoorJab8
import Derived.Test.YtidekghnkifbjaaGreatDoorJab1
open List renaming cons_append → Ja, nil_append → Jc, replicate → Jd, length_cons → Je, length_nil → Jf, take_of_length_le → Js, append_nil → Ju, getElem?_eq_none → Jz, length_take → JL, drop_zero → JQ, length_replicate → QN, getElem?_cons_succ → Z6
open Nat renaming reduceAdd→zA,reduceMul→zM,reduceSub→zS,reduceEqDiff→zE,reduceLeDiff→zL
set_option linter.unusedSimpArgs false
set_option linter.unusedVariables false
set_option maxRecDepth 100000
namespace Go.Lg
open Go.Proofs
def F7(ms:List Int)(n:Nat):Prop:=ms.length=n*n∧∀k:Nat,k<ms.length→0≤JA ms k∧JA ms k≤((2^(n+1) -2:Nat):Int)∧JA ms k%2=0
theorem Jg8{n:Nat}(hn:n=2∨n=3∨n=4):Ug .and .i64 (n:Int) 7=n:=by
 rcases hn with rfl|rfl|rfl<;>rfl
theorem JeS{n:Nat}(hn:n=2∨n=3∨n=4):UC .shl .i64 1 .i64 ((n:Int)+1)=some (.int .i64 (((2^(n+1):Nat)):Int)):=by
 rcases hn with rfl|rfl|rfl<;>rfl
theorem Zh{n:Nat}(hn:n=2∨n=3∨n=4)(ms:List Int)(hm:F7 ms n):JW Tryz.prog 131 [QG ms,int n] (bool true):=by
 obtain⟨hl,hv⟩:=hm
 have hsq:4≤n*n∧n*n≤16:=by rcases hn with rfl|rfl|rfl<;>omega
 have hpw:(2^(n+1):Nat)≤32∧8≤(2^(n+1):Nat):=by rcases hn with rfl|rfl|rfl<;>omega
 have hsi:(n:Int)*n=((n*n:Nat):Int):=by push_cast;rfl
 refine Jn.cw (c:=_) Tryz.func131 rfl (n:=41) Tryz.ntmps131 (rs:=[.tmp 4]) rfl ?_
 simp only[Je,Jf,zA,zS,Jd,Ja,Jc]
 simp(maxSteps:=999999)(disch:=omega)only[go_sem,zA,zM,zS,zE,zL]
 refine JT (fun k:Nat=>ms.length -k) (fun k=>k≤ms.length) (fun k=>[.k, .k, .a, .a, .a, .p (int k), .a, .a, .a, .a, .a, .a, .a, .a, .a, .a, .a, .a, .a, .a, .a, .a, .a, .a, .a, .a, .a, .a, .a, .a, .a, .a, .a, .a, .a, .a, .a, .a, .a, .a, .a]) (fun _=>[]) 0 (Nat.zero_le _) (by simp(maxSteps:=999999)(disch:=omega)only[go_sem,zA,zM,zS,zE,zL];rfl) (Qt _) ?_
 intro k hk
 simp(maxSteps:=999999)(disch:=omega)only[go_sem,zA,zM,zS,zE,zL]
 ((first|(with_reducible first|refine Jl ?_ ?_|refine Jj ?_ ?_|refine Jp ?_ ?_)|refine Jr ?_ ?_)<;>intro h1)
 · have h1:k<ms.length:=by omega
   obtain⟨v0,v1,v2⟩:=hv k h1
   have v3:(JA ms k).tmod 2=0:=by rw[VQ v0];exact v2
   simp(maxSteps:=999999)(disch:=omega)only[go_sem,zA,zM,zS,zE,zL]
   refine Q4 [0,1,2,3,4,5,6,7,8,9,10,11,12,13] [] none [14,15,16,17,18] [] [0,0,3,7,0,16,48,112,240,511,1023,2047,4095,4095,16383,32767,65535,131071,262143] Zd (by kernel_rfl) ?_
   simp(maxSteps:=999999)(disch:=omega)only[go_sem,zA,zM,zS,zE,zL,Jg8 hn,JeS hn]
   first|refine JY.rd (Qy _ _ _) (⟨_,Tryz.func40,rfl,rfl⟩:Jh Tryz.prog 40) rfl rfl rfl rfl ?_|refine JM.rd (Qy _ _ _) (⟨_,Tryz.func40,rfl,rfl⟩:Jh Tryz.prog 40) rfl rfl rfl rfl ?_
   simp(maxSteps:=999999)(disch:=omega)only[go_sem,zA,zM,zS,zE,zL]
   ((with_reducible first|refine JH ?_ ?_|refine JD ?_ ?_|refine JP ?_ ?_|refine Jv ?_ ?_|refine JF ?_ ?_|refine JG ?_ ?_|refine JB ?_ ?_|refine JC ?_ ?_|refine JN ?_ ?_|refine JO ?_ ?_|refine Jw ?_ ?_|refine Jx ?_ ?_)<;>intro h2<;>simp(maxSteps:=999999)(disch:=omega)only[go_sem,zA,zM,zS,zE,zL,h2])
   · simp(maxSteps:=999999)(disch:=omega)only[go_sem,zA,zM,zS,zE,zL,v3]
     exact⟨k+1,⟨by omega,by omega⟩,by push_cast;omega,Qt _⟩
   · exfalso;omega
 · simp(maxSteps:=999999)(disch:=omega)only[go_sem,zA,zM,zS,zE,zL]
   first|refine JY.rd (Qy _ _ _) (⟨_,Tryz.func40,rfl,rfl⟩:Jh Tryz.prog 40) rfl rfl rfl rfl ?_|refine JM.rd (Qy _ _ _) (⟨_,Tryz.func40,rfl,rfl⟩:Jh Tryz.prog 40) rfl rfl rfl rfl ?_
   simp(maxSteps:=999999)(disch:=omega)only[go_sem,zA,zM,zS,zE,zL]
   ((with_reducible first|refine JH ?_ ?_|refine JD ?_ ?_|refine JP ?_ ?_|refine Jv ?_ ?_|refine JF ?_ ?_|refine JG ?_ ?_|refine JB ?_ ?_|refine JC ?_ ?_|refine JN ?_ ?_|refine JO ?_ ?_|refine Jw ?_ ?_|refine Jx ?_ ?_)<;>intro h2<;>simp(maxSteps:=999999)(disch:=omega)only[go_sem,zA,zM,zS,zE,zL,h2])
   · rw[hsi,hl]
   · exfalso;omega
theorem Rp(k:Nat):JR (Jd k 0)=Jd k 0:=by simp[JR]
def Zy(r:ZS)(ms:List Int):List Nat:=ZT r (WN r ms 0) [] (Jd r.cells.length 0)
theorem YX{n:Nat}(hn:n=2∨n=3∨n=4)(r:ZS)(ms:List Int)(hv:Qk r n=true)(hm:F7 ms n)(hr:JkO r ms):Jn Tryz.prog 155 [aR r,QG ms,int n] [] (Wa (JR (Zy r ms))):=by
 have hl4:=hr.len
 refine Jn.cw (c:=_) Tryz.func155 rfl (n:=29) Tryz.ntmps155 (rs:=[.tmp 6]) rfl ?_
 simp only[Je,Jf,zA,zS,Jd,Ja,Jc]
 simp(maxSteps:=999999)(disch:=omega)only[go_sem,zA,zM,zS,zE,zL]
 intro g1
 first|refine JY.rd (Vc r n (by omega)) (⟨_,Tryz.func85,rfl,rfl⟩:Jh Tryz.prog 85) rfl rfl rfl rfl ?_|refine JM.rd (Vc r n (by omega)) (⟨_,Tryz.func85,rfl,rfl⟩:Jh Tryz.prog 85) rfl rfl rfl rfl ?_
 simp(maxSteps:=999999)(disch:=omega)only[go_sem,zA,zM,zS,zE,zL]
 ((with_reducible first|refine JH ?_ ?_|refine JD ?_ ?_|refine JP ?_ ?_|refine Jv ?_ ?_|refine JF ?_ ?_|refine JG ?_ ?_|refine JB ?_ ?_|refine JC ?_ ?_|refine JN ?_ ?_|refine JO ?_ ?_|refine Jw ?_ ?_|refine Jx ?_ ?_)<;>intro h1<;>simp(maxSteps:=999999)(disch:=omega)only[go_sem,zA,zM,zS,zE,zL,h1])
 rotate_left
 · exfalso;rw[hv]at h1;cases h1
 first|refine JY.rd (Zh hn ms hm) (⟨_,Tryz.func131,rfl,rfl⟩:Jh Tryz.prog 131) rfl rfl rfl rfl ?_|refine JM.rd (Zh hn ms hm) (⟨_,Tryz.func131,rfl,rfl⟩:Jh Tryz.prog 131) rfl rfl rfl rfl ?_
 simp(maxSteps:=999999)(disch:=omega)only[go_sem,zA,zM,zS,zE,zL]
 intro g2 g3
 have hrun:=G0 r ms hr r.cells.length [some ⟨g1,1,cR r⟩,some ⟨g2,1,cl (eI .i64) (Jd r.cells.length 0)⟩,some ⟨g3,1,[]⟩] 2 g3 [] 1 g2 (Jd r.cells.length 0) (by simp) (by simp only[go_sem];rfl) (by simp) (by omega)
  (by rw[Rp];simp only[go_sem]) (by simp) (fun x hx=>by rw[List.eq_of_mem_replicate hx];omega)
 rw[QN]at hrun
 refine JY.run hrun (⟨_,Tryz.func164,rfl,rfl⟩:Jh Tryz.prog 164) rfl rfl ?_
 rintro _ H2 ⟨rfl,l2,len2,f2⟩
 simp(maxSteps:=999999)(disch:=omega)only[go_sem,zA,zM,zS,zE,zL]
 have hlen:(JR (Zy r ms)).length=r.cells.length:=by
  rw[Zn,Zy,VO _ _ _ _ (by simp[WN])]
  simp
 have hown:Qw H2 (.own 1 g2 0 r.cells.length none) (JR (Zy r ms)) [1]:=by
  have:=Qw.o (H:=H2) 1 g2 none (JR (Zy r ms)) [] (by rw[Ju];exact l2)
  rwa [hlen]at this
 exact⟨Kc [1] H2,Kb _ _,_,[1],rfl,hown.same fun i hi=>XQ hi (hown.lt i hi),W6 hown.blk⟩
theorem Q1{r:ZS}{n:Nat}(hv:Qk r n=true):(1≤r.cells.length∧r.cells.length≤4)∧(r.kind=1∨r.kind=2∨r.kind=3∨r.cells.length=2)∧(∀c∈r.cells,0≤c∧c<(n*n:Nat))∧r.cells.Nodup:=by
 simp only[Qk,decide_eq_true_eq]at hv
 obtain⟨h1,h2,h3⟩:=hv
 refine⟨?_, ?_,fun c hc=> ?_, ?_⟩
 · rcases h3 with h|h|h|h<;>omega
 · rcases h3 with h|h|h|h<;>omega
 · obtain⟨j,hj,rfl⟩:=List.mem_iff_getElem.1 hc
   have:=(h2 j hj).1
   rw[Qs (by omega)]at this
   simp only[Int.toNat_natCast]at this
   push_cast
   exact this
 · rw[List.nodup_iff_pairwise_ne,List.pairwise_iff_getElem]
   intro i j hi hj hij
   have:=(h2 j hj).2 i hij
   rw[Qs (by omega),Qs (by omega)]at this
   simp only[Int.toNat_natCast]at this
   exact this
def YE(n:Nat)(v:Int):Int:=if v=0 then((2^(n+1) -2:Nat):Int)else((2^v.toNat:Nat):Int)
def Uq(xs:List Int)(n:Nat):List Int:=xs.map (YE n)
theorem BZ{xs:List Int}{n k:Nat}(h:k<xs.length):JA (Uq xs n) k=YE n (JA xs k):=by
 rw[Qs (by simp[Uq];omega),Qs (by omega)]
 simp[Uq]
theorem Jij{n:Nat}(hn:n=2∨n=3∨n=4){v:Int}(h:0≤v∧v≤n):0≤YE n v∧YE n v≤((2^(n+1) -2:Nat):Int)∧YE n v%2=0:=by
 unfold YE
 obtain⟨k,rfl⟩:∃k:Nat,v=k:=⟨v.toNat,by omega⟩
 have:k=0∨k=1∨k=2∨k=3∨k=4:=by omega
 rcases hn with rfl|rfl|rfl<;>rcases this with rfl|rfl|rfl|rfl|rfl<;>first|omega|decide
theorem JcX{xs:List Int}{n:Nat}(hn:n=2∨n=3∨n=4)(hl:xs.length=n*n)(hv:∀k:Nat,k<xs.length→0≤JA xs k∧JA xs k≤n):F7 (Uq xs n) n:=by
 refine⟨by simp[Uq,hl],fun k hk=> ?_⟩
 have hk':k<xs.length:=by simpa[Uq]using hk
 rw[BZ hk']
 exact Jij hn (hv k hk')
theorem Jgz{xs:List Int}{n:Nat}{r:ZS}(hn:n=2∨n=3∨n=4)(hl:xs.length=n*n)(hv:∀k:Nat,k<xs.length→0≤JA xs k∧JA xs k≤n)(hr:Qk r n=true):JkO r (Uq xs n):=by
 have hok:=JcX hn hl hv
 obtain⟨h1,h2,h3,_⟩:=Q1 hr
 have hsq:n*n≤16:=by rcases hn with rfl|rfl|rfl<;>omega
 have hpw:(2^(n+1):Nat)≤32:=by rcases hn with rfl|rfl|rfl<;>omega
 refine⟨h1.2,h2,fun c hc=> ?_,by rw[hok.1];omega⟩
 have hcc:=h3 c hc
 obtain⟨k,rfl⟩:∃k:Nat,c=k:=⟨c.toNat,by omega⟩
 have hk:k<(Uq xs n).length:=by rw[hok.1];omega
 have:=hok.2 k hk
 exact⟨by omega,by omega,this.1,by omega,this.2.2⟩
theorem N4{xs:List Int}{n:Nat}{r:ZS}(hl:xs.length=n*n)(hv:∀k:Nat,k<xs.length→0≤JA xs k∧JA xs k≤n)(hr:Qk r n=true):Ze r xs n=((Zy r (Uq xs n)).getD 0 0 !=0):=by
 obtain⟨h1,h2,h3,_⟩:=Q1 hr
 have e:r.cells.map (Um xs n)=WN r (Uq xs n) 0:=by
  unfold WN
  rw[JQ]
  refine List.map_congr_left fun c hc=> ?_
  have hcc:=h3 c hc
  obtain⟨k,rfl⟩:∃k:Nat,c=k:=⟨c.toNat,by omega⟩
  have hk:k<xs.length:=by rw[hl];omega
  have:=hv k hk
  rw[BZ hk]
  unfold Um YE
  by_cases h0:JA xs k=0
  · rw[if_neg (by omega),if_pos h0];rfl
  · rw[if_pos (by omega),if_neg h0];rfl
 unfold Ze Zy
 rw[e]
theorem RQ{n:Nat}(hn:n=2∨n=3∨n=4)(r:ZS)(xs:List Int)(hr:Qk r n=true)(hg:J8 xs n=true):JW Tryz.prog 151 [aR r,QG xs,int n] (bool (Ze r xs n)):=by
 obtain⟨h1,h2,h3,_⟩:=Q1 hr
 have hb:=QA hg
 have hxl:xs.length=n*n:=by have:=hb.2.2.1;rcases hn with rfl|rfl|rfl<;>omega
 have hxv:∀k:Nat,k<xs.length→0≤JA xs k∧JA xs k≤n:=hb.2.2.2.2
 refine Jn.cw (c:=_) Tryz.func151 rfl (n:=52) Tryz.ntmps151 (rs:=[.tmp 6]) rfl ?_
 simp only[Je,Jf,zA,zS,Jd,Ja,Jc]
 simp(maxSteps:=999999)(disch:=omega)only[go_sem,zA,zM,zS,zE,zL]
 intro g1
 first|refine JY.rd (Vc r n (by omega)) (⟨_,Tryz.func85,rfl,rfl⟩:Jh Tryz.prog 85) rfl rfl rfl rfl ?_|refine JM.rd (Vc r n (by omega)) (⟨_,Tryz.func85,rfl,rfl⟩:Jh Tryz.prog 85) rfl rfl rfl rfl ?_
 simp(maxSteps:=999999)(disch:=omega)only[go_sem,zA,zM,zS,zE,zL]
 ((with_reducible first|refine JH ?_ ?_|refine JD ?_ ?_|refine JP ?_ ?_|refine Jv ?_ ?_|refine JF ?_ ?_|refine JG ?_ ?_|refine JB ?_ ?_|refine JC ?_ ?_|refine JN ?_ ?_|refine JO ?_ ?_|refine Jw ?_ ?_|refine Jx ?_ ?_)<;>intro c1<;>simp(maxSteps:=999999)(disch:=omega)only[go_sem,zA,zM,zS,zE,zL,c1])
 rotate_left
 · exfalso;rw[hr]at c1;cases c1
 first|refine JY.rd (Zs xs n (by omega)) (⟨_,Tryz.func39,rfl,rfl⟩:Jh Tryz.prog 39) rfl rfl rfl rfl ?_|refine JM.rd (Zs xs n (by omega)) (⟨_,Tryz.func39,rfl,rfl⟩:Jh Tryz.prog 39) rfl rfl rfl rfl ?_
 simp(maxSteps:=999999)(disch:=omega)only[go_sem,zA,zM,zS,zE,zL]
 ((first|(with_reducible first|refine Jl ?_ ?_|refine Jj ?_ ?_|refine Jp ?_ ?_)|refine Jr ?_ ?_)<;>intro c2)
 rotate_left
 · exfalso;rw[hg]at c2;cases c2
 simp(maxSteps:=999999)(disch:=omega)only[go_sem,zA,zM,zS,zE,zL]
 intro g2
 have hlM:(Uq xs n).length=xs.length:=by simp[Uq]
 have hsq:n*n≤16:=by rcases hn with rfl|rfl|rfl<;>omega
 have hpw:(2^(n+1):Nat)≤32∧8≤(2^(n+1):Nat):=by rcases hn with rfl|rfl|rfl<;>omega
 refine Qv (fun(k g:Nat)=>xs.length -k) (fun k g=>k≤xs.length) (fun k g=>[.a, .k, .k, .k, .a, .a, .a, .p (.c (.own 1 g 0 k none)), .p (int k), .a, .a, .a, .a, .a, .a, .a, .a, .a, .a, .a, .a, .a, .a, .a, .a, .a, .a, .a, .a, .a, .a, .a, .a, .a, .a, .a, .a, .a, .a, .a, .a, .a, .a, .a, .a, .a, .a, .a, .a, .a, .a, .a]) (fun k g=>[some ⟨g1,1,cR r⟩,some ⟨g,1,cl (eI .i64) ((Uq xs n).take k)⟩]) 0 g2 (Nat.zero_le _) (by simp(maxSteps:=999999)(disch:=omega)only[go_sem,zA,zM,zS,zE,zL];rfl) (J0.refl _) ?_
 intro k g hk
 simp(maxSteps:=999999)(disch:=omega)only[go_sem,zA,zM,zS,zE,zL]
 ((first|(with_reducible first|refine Jl ?_ ?_|refine Jj ?_ ?_|refine Jp ?_ ?_)|refine Jr ?_ ?_)<;>intro c3)
 · have c3:k<xs.length:=by omega
   have hv:=hxv k c3
   have hM:(Uq xs n).take (k+1)=(Uq xs n).take k++[YE n (JA xs k)]:=by rw[Ql (by omega),BZ c3]
   have htl:((Uq xs n).take k).length=k:=by rw[JL,hlM];omega
   simp(maxSteps:=999999)(disch:=omega)only[go_sem,zA,zM,zS,zE,zL,UE (v:=JA xs k) (by omega)]
   ((first|(with_reducible first|refine Jl ?_ ?_|refine Jj ?_ ?_|refine Jp ?_ ?_)|refine Jr ?_ ?_)<;>intro c4)
   · have hz:YE n (JA xs k)=((2^(n+1):Nat):Int) -2:=by unfold YE;rw[if_pos c4];omega
     simp(maxSteps:=999999)(disch:=omega)only[go_sem,zA,zM,zS,zE,zL,JeS hn]
     intro g3 g4
     refine⟨k+1,g4,⟨by omega,by omega⟩,⟨⟨rfl,rfl⟩,by push_cast;omega⟩, ?_⟩
     rw[hM,hz]
     exact J0.app [_,_] [_]
   · have hz:YE n (JA xs k)=((2^(JA xs k).toNat:Nat):Int):=by unfold YE;rw[if_neg c4]
     simp(maxSteps:=999999)(disch:=omega)only[go_sem,zA,zM,zS,zE,zL]
     intro g3 g4
     refine⟨k+1,g4,⟨by omega,by omega⟩,⟨⟨rfl,rfl⟩,by push_cast;omega⟩, ?_⟩
     rw[hM,hz]
     exact J0.app [_,_] [_]
 · have hke:k=xs.length:=by omega
   have hMe:(Uq xs n).take k=Uq xs n:=Js (by omega)
   simp(maxSteps:=999999)(disch:=omega)only[go_sem,zA,zM,zS,zE,zL]
   rw[hMe]
   have hown:Qw [some ⟨g1,1,cR r⟩,some ⟨g,1,cl (eI .i64) (Uq xs n)⟩] (.own 1 g 0 k none) (Uq xs n) [1]:=by
    have:=Qw.o (H:=[some ⟨g1,1,cR r⟩,some ⟨g,1,cl (eI .i64) (Uq xs n)⟩]) 1 g none (Uq xs n) [] (by rw[Ju];simp only[go_sem])
    rwa [hlM,←hke]at this
   refine JY.mkDI (YX hn r (Uq xs n) hr (JcX hn hxl hxv) (Jgz hn hxl hxv hr)) (⟨_,Tryz.func155,rfl,rfl⟩:Jh Tryz.prog 155) rfl rfl (W5 rfl hown.snap VH) ?_
   intro c H2 S2 o2 hS2
   have hln:0<(JR (Zy r (Uq xs n))).length:=by
    rw[Zn,Zy,VO _ _ _ _ (by simp[WN])]
    simp
    omega
   obtain⟨id,g',lim,ys,rfl,rfl,hlk⟩:=o2.inv' hln
   rw[N4 hxl hxv hr]
   have hld:ldP (some ⟨g',1,cl (eI .i64) (JR (Zy r (Uq xs n))++ys)⟩) 0=some (int (((Zy r (Uq xs n)).getD 0 0:Nat):Int)):=by
    rw[Zn]at hln
    obtain⟨a,t,he⟩:=List.exists_cons_of_length_pos hln
    rw[he]
    rfl
   have hlk':look (some ⟨g1,1,cR r⟩::some ⟨g,1,cl (eI .i64) (Uq xs n)⟩::H2) id g'=some ⟨g',1,cl (eI .i64) (JR (Zy r (Uq xs n))++ys)⟩:=hlk
   have hl0:0<(JR (Zy r (Uq xs n))++ys).length:=by simp;omega
   simp(maxSteps:=999999)(disch:=omega)only[go_sem,zA,zM,zS,zE,zL,hlk',Int.reduceToNat,hld]
   generalize(Zy r (Uq xs n)).getD 0 0=x
   by_cases hx:x=0
   · subst hx;rfl
   · rw[decide_eq_false (by omega)]
     simp[hx]
end Go.Lg

namespace Go.Lg
open Go.Proofs
structure Ub(p:QV)(n:Nat):Prop where
 hn:n=2∨n=3∨n=4
 size:p.size=n
 len:p.given.length=n*n
 rl:p.rules.length≤40
 rv:∀r∈p.rules,Qk r n=true
theorem Ub.of{p:QV}(h:Jy p=true):Ub p p.size.toNat∧((p.size.toNat:Nat):Int)=p.size:=by
 simp only[Jy,Bool.and_eq_true,decide_eq_true_eq,List.all_eq_true]at h
 obtain⟨h1,h2,h3⟩:=h
 have hb:=QA h1
 have hs:((p.size.toNat:Nat):Int)=p.size:=by omega
 have hn:p.size.toNat=2∨p.size.toNat=3∨p.size.toNat=4:=by omega
 refine⟨⟨hn,hs.symm, ?_,by omega,fun r hr=>by rw[hs];exact h3 r hr⟩,hs⟩
 have:=hb.2.2.1
 rw[←hs]at this
 exact_mod_cast this
structure Q9(xs:List Int)(n:Nat):Prop where
 len:xs.length=n*n
 val:∀k:Nat,k<xs.length→0≤JA xs k∧JA xs k≤n
theorem Q9.valid{xs:List Int}{n:Nat}(hn:n=2∨n=3∨n=4)(h:Q9 xs n):J8 xs n=true:=by
 simp only[J8,decide_eq_true_eq]
 refine⟨by omega,by omega,by rw[h.len];push_cast;rfl,h.val⟩
theorem Q9.of{xs:List Int}{n:Nat}(hn:n=2∨n=3∨n=4)(h:J8 xs n=true):Q9 xs n:=by
 have hb:=QA h
 exact⟨by have:=hb.2.2.1;rcases hn with rfl|rfl|rfl<;>omega,hb.2.2.2.2⟩
theorem Ym{p:QV}{n:Nat}(hp:Ub p n)(xs:List Int)(hg:Q9 xs n):JW Tryz.prog 130 [aP p,QG xs] (bool (QK p xs n)):=by
 have hn:=hp.hn
 have hz:=hp.size
 have hgl:=hp.len
 have hxl:=hg.len
 have hrl:=hp.rl
 have hsq:n*n≤16:=by rcases hn with rfl|rfl|rfl<;>omega
 have hgv:=hg.valid hn
 refine Jn.cw (c:=_) Tryz.func130 rfl (n:=60) Tryz.ntmps130 (rs:=[.tmp 4]) rfl ?_
 simp only[Je,Jf,zA,zS,Jd,Ja,Jc]
 simp(maxSteps:=999999)(disch:=omega)only[go_sem,zA,zM,zS,zE,zL]
 intro g
 refine JT (fun k:Nat=>xs.length -k) (fun k=>k≤xs.length∧∀j:Nat,j<k→¬(0<JA p.given j∧0<JA xs j∧JA xs j≠JA p.given j)) (fun k=>[.a, .k, .k, .a, .a, .p (int k), .a, .a, .a, .a, .a, .a, .a, .a, .a, .a, .a, .a, .a, .a, .a, .a, .a, .a, .a, .a, .a, .a, .a, .a, .a, .a, .a, .a, .a, .a, .a, .a, .a, .a, .a, .a, .a, .a, .a, .a, .a, .a, .a, .a, .a, .a, .a, .a, .a, .a, .a, .a, .a, .a]) (fun _=>[some ⟨g,1,cP p⟩]) 0 ⟨Nat.zero_le _,fun j hj=>absurd hj (Nat.not_lt_zero _)⟩ (by simp(maxSteps:=999999)(disch:=omega)only[go_sem,zA,zM,zS,zE,zL];rfl) (J0.refl _) ?_
 rintro k ⟨hk,hno⟩
 simp(maxSteps:=999999)(disch:=omega)only[go_sem,zA,zM,zS,zE,zL]
 ((first|(with_reducible first|refine Jl ?_ ?_|refine Jj ?_ ?_|refine Jp ?_ ?_)|refine Jr ?_ ?_)<;>intro h1)
 · have h1:k<xs.length:=by omega
   have hbad:(0<JA p.given k∧0<JA xs k∧JA xs k≠JA p.given k)→false=QK p xs n:=fun hb=>by
    have:clear p xs=false:=by
     simp only[clear,decide_eq_false_iff_not]
     exact fun h=>h k h1 hb
    simp[QK,this]
   simp(maxSteps:=999999)(disch:=omega)only[go_sem,zA,zM,zS,zE,zL]
   have hgo:¬(0<JA p.given k∧0<JA xs k∧JA xs k≠JA p.given k)→∀j:Nat,j<k+1→¬(0<JA p.given j∧0<JA xs j∧JA xs j≠JA p.given j):=fun h j hj=>by
    by_cases hjk:j=k
    · rw[hjk];exact h
    · exact hno j (by omega)
   by_cases a:0<JA p.given k
   · by_cases b:0<JA xs k
     · by_cases c:JA xs k=JA p.given k
       · refine Zj Zd (by kernel_rfl) ?_
         simp(maxSteps:=999999)(disch:=omega)only[go_sem,zA,zM,zS,zE,zL,XA,YF,RA,Np]
         exact⟨k+1,⟨⟨by omega,hgo fun h=>h.2.2 c⟩,by omega⟩,by push_cast;omega,J0.refl _⟩
       · refine Zj Zd (by kernel_rfl) ?_
         simp(maxSteps:=999999)(disch:=omega)only[go_sem,zA,zM,zS,zE,zL,XA,YF,RA,Np]
         exact hbad ⟨a,b,c⟩
     · refine Zj Zd (by kernel_rfl) ?_
       simp(maxSteps:=999999)(disch:=omega)only[go_sem,zA,zM,zS,zE,zL,XA,YF,RA,Np]
       exact⟨k+1,⟨⟨by omega,hgo fun h=>b h.2.1⟩,by omega⟩,by push_cast;omega,J0.refl _⟩
   · refine Zj Zd (by kernel_rfl) ?_
     simp(maxSteps:=999999)(disch:=omega)only[go_sem,zA,zM,zS,zE,zL,XA,YF,RA,Np]
     exact⟨k+1,⟨⟨by omega,hgo fun h=>a h.1⟩,by omega⟩,by push_cast;omega,J0.refl _⟩
 · have hcl:clear p xs=true:=by
    simp only[clear,decide_eq_true_eq]
    exact fun j hj=>hno j (by omega)
   simp(maxSteps:=999999)(disch:=omega)only[go_sem,zA,zM,zS,zE,zL]
   refine JT (fun k:Nat=>p.rules.length -k) (fun k=>k≤p.rules.length∧∀j:Nat,j<k→Ze (JA p.rules j) xs n=true) (fun k=>[.a, .k, .k, .a, .a, .a, .p (int k), .a, .a, .a, .a, .a, .a, .a, .a, .a, .a, .a, .a, .a, .a, .a, .a, .a, .a, .a, .a, .a, .a, .a, .a, .a, .a, .a, .a, .a, .a, .a, .a, .a, .a, .a, .a, .a, .a, .a, .a, .a, .a, .a, .a, .a, .a, .a, .a, .a, .a, .a, .a, .a]) (fun _=>[some ⟨g,1,cP p⟩]) 0 ⟨Nat.zero_le _,fun j hj=>absurd hj (Nat.not_lt_zero _)⟩ (by simp(maxSteps:=999999)(disch:=omega)only[go_sem,zA,zM,zS,zE,zL];rfl) (J0.refl _) ?_
   rintro i ⟨hi,hyes⟩
   simp(maxSteps:=999999)(disch:=omega)only[go_sem,zA,zM,zS,zE,zL]
   ((first|(with_reducible first|refine Jl ?_ ?_|refine Jj ?_ ?_|refine Jp ?_ ?_)|refine Jr ?_ ?_)<;>intro h2)
   · have h2:i<p.rules.length:=by omega
     have hmem:JA p.rules i∈p.rules:=ZX h2
     simp(maxSteps:=999999)(disch:=omega)only[go_sem,zA,zM,zS,zE,zL]
     refine Q4 [0,1,2,3,4,5,6,7] [] none [8,9] [] [0,1,0,7,15,0,0,64,255,511] Zd (by kernel_rfl) ?_
     simp(maxSteps:=999999)(disch:=omega)only[go_sem,Nat.reduceBEq,Bool.true_or,zA,zM,zS,zE,zL]
     have hrp:=RQ hn (JA p.rules i) xs (hp.rv _ hmem) hgv
     rw[←hz]at hrp
     first|refine JY.rd (hrp) (⟨_,Tryz.func151,rfl,rfl⟩:Jh Tryz.prog 151) rfl rfl rfl rfl ?_|refine JM.rd (hrp) (⟨_,Tryz.func151,rfl,rfl⟩:Jh Tryz.prog 151) rfl rfl rfl rfl ?_
     simp(maxSteps:=999999)(disch:=omega)only[go_sem,zA,zM,zS,zE,zL]
     ((first|(with_reducible first|refine Jl ?_ ?_|refine Jj ?_ ?_|refine Jp ?_ ?_)|refine Jr ?_ ?_)<;>intro h3)
     · simp(maxSteps:=999999)(disch:=omega)only[go_sem,zA,zM,zS,zE,zL]
       refine⟨i+1,⟨⟨by omega,fun j hj=> ?_⟩,by omega⟩,by push_cast;omega,J0.refl _⟩
       by_cases hji:j=i
       · rw[hji];exact h3
       · exact hyes j (by omega)
     · simp(maxSteps:=999999)(disch:=omega)only[go_sem,zA,zM,zS,zE,zL]
       have:p.rules.all (fun r=>Ze r xs n)=false:=by
        rw[List.all_eq_false]
        exact⟨_,hmem,by rw[h3];simp⟩
       simp[QK,this]
   · have hall:p.rules.all (fun r=>Ze r xs n)=true:=by
      rw[List.all_eq_true]
      intro r hr
      obtain⟨j,hj,rfl⟩:=List.mem_iff_getElem.1 hr
      have:=hyes j (by omega)
      rwa [Qs (by omega)]at this
     simp(maxSteps:=999999)(disch:=omega)only[go_sem,zA,zM,zS,zE,zL]
     have hcr:=Fv hn xs hxl (fun k hk=>by have:=hg.val k hk;omega)
     rw[←hz]at hcr
     first|refine JY.rd (hcr) (⟨_,Tryz.func152,rfl,rfl⟩:Jh Tryz.prog 152) rfl rfl rfl rfl ?_|refine JM.rd (hcr) (⟨_,Tryz.func152,rfl,rfl⟩:Jh Tryz.prog 152) rfl rfl rfl rfl ?_
     simp(maxSteps:=999999)(disch:=omega)only[go_sem,zA,zM,zS,zE,zL]
     simp[QK,hcl,hall]
end Go.Lg

namespace Go.Lg
open Go.Proofs
theorem ZQ(p:QV)(xs:List Int)(hx:YR p)(hl:xs.length≤2^40):JW Tryz.prog 103 [aP p,QG xs] (bool (Jy p&&(J8 xs p.size&&QK p xs p.size.toNat))):=by
 refine Jn.cw (c:=_) Tryz.func103 rfl (n:=18) Tryz.ntmps103 (rs:=[.tmp 4]) rfl ?_
 simp only[Je,Jf,zA,zS,Jd,Ja,Jc]
 simp(maxSteps:=999999)(disch:=omega)only[go_sem,zA,zM,zS,zE,zL]
 intro g
 first|refine JY.rd (Qc p hx) (⟨_,Tryz.func38,rfl,rfl⟩:Jh Tryz.prog 38) rfl rfl rfl rfl ?_|refine JM.rd (Qc p hx) (⟨_,Tryz.func38,rfl,rfl⟩:Jh Tryz.prog 38) rfl rfl rfl rfl ?_
 simp(maxSteps:=999999)(disch:=omega)only[go_sem,zA,zM,zS,zE,zL]
 cases h1:Jy p with
 |false=>
  simp(maxSteps:=999999)(disch:=omega)only[go_sem,zA,zM,zS,zE,zL]
  rfl
 |true=>
  simp(maxSteps:=999999)(disch:=omega)only[go_sem,zA,zM,zS,zE,zL]
  first|refine JY.rd (Zs xs p.size hl) (⟨_,Tryz.func39,rfl,rfl⟩:Jh Tryz.prog 39) rfl rfl rfl rfl ?_|refine JM.rd (Zs xs p.size hl) (⟨_,Tryz.func39,rfl,rfl⟩:Jh Tryz.prog 39) rfl rfl rfl rfl ?_
  simp(maxSteps:=999999)(disch:=omega)only[go_sem,zA,zM,zS,zE,zL]
  cases h2:J8 xs p.size with
  |false=>
   simp(maxSteps:=999999)(disch:=omega)only[go_sem,zA,zM,zS,zE,zL]
   rfl
  |true=>
   obtain⟨hp,hs⟩:=Ub.of h1
   have hg:=Q9.of hp.hn (by rw[hs];exact h2)
   simp(maxSteps:=999999)(disch:=omega)only[go_sem,zA,zM,zS,zE,zL]
   first|refine JY.rd (Ym hp xs hg) (⟨_,Tryz.func130,rfl,rfl⟩:Jh Tryz.prog 130) rfl rfl rfl rfl ?_|refine JM.rd (Ym hp xs hg) (⟨_,Tryz.func130,rfl,rfl⟩:Jh Tryz.prog 130) rfl rfl rfl rfl ?_
   simp(maxSteps:=999999)(disch:=omega)only[go_sem,zA,zM,zS,zE,zL]
theorem GR:∀(m:List Bool) (H:Jm) (j:Nat),(Zc m H)[j]? =if m.getD j false=true then(H[j]?).map (fun _=>none)else H[j]?
 |[],H,j=>by simp[Zc]
 |b::m,[],j=>by cases b<;>simp[Zc]
 |b::m,x::H,j=>by
  have ih:=GR m H
  cases b<;>cases j with
  |zero=>simp[Zc]
  |succ j=>simp only[Zc,Z6,List.getD_cons_succ,ih j]
theorem Ut{m:List Bool}{H:Jm}{id g:Nat}(h:m.getD id false=false):look (Zc m H) id g=look H id g:=by
 unfold look
 rw[GR,h]
 simp
theorem ZR{m:List Bool}{H H':Jm}(h:∀j (b:Zv),m.getD j false=false→H[j]? =some (some b)→H'[j]? =some (some b)):RD m H H':=fun id b hb=>by
 rw[GR]at hb⊢
 by_cases hm:m.getD id false=true
 · rw[if_pos hm]at hb
   cases hh:H[id]? <;>simp[hh]at hb
 · rw[if_neg hm]at hb⊢
   exact h id b (by simpa using hm) hb
def ZK(o n:Nat)(N:Nat):List Bool:=(List.range N).map fun j=>decide (j=o∨n≤j)
theorem UU{o n N j:Nat}(h1:j≠o)(h2:j<n):(ZK o n N).getD j false=false:=by
 by_cases h:j<N
 · simp[ZK,List.getD,h,h1,h2]
 · have:(ZK o n N)[j]? =none:=Jz (by simp[ZK];omega)
   simp[List.getD,this]
theorem Vj{o n N j:Nat}(h:(ZK o n N).getD j false=false)(hj:j<N):j≠o∧j<n:=by
 simp[ZK,List.getD,hj]at h
 omega
structure VN(H:Jm)(pid pg:Nat)(ls:List (List Int))(S:List Nat):Prop where
 ex:∃oid og cs,look H pid pg=some ⟨pg,1,[.own oid og 0 ls.length none]⟩∧look H oid og=some ⟨og,1,cs⟩∧oid∈S∧cs.length=ls.length∧∀i (h:i<ls.length),∃id g,cs[i]? =some (.own id g 0 ls[i].length none)∧look H id g=some ⟨g,1,cl (eI .i64) ls[i]⟩∧id∈S∧id≠oid
 pn:pid∉S
theorem VN.same{H H':Jm}{pid pg:Nat}{ls:List (List Int)}{S:List Nat}(h:VN H pid pg ls S)(hs:∀i,i=pid∨i∈S→H'[i]? =H[i]?):VN H' pid pg ls S:=by
 obtain⟨⟨oid,og,cs,h1,h2,h3,h4,h5⟩,hn⟩:=h
 refine⟨⟨oid,og,cs,by unfold look at*;rw[hs pid (.inl rfl)];exact h1,by unfold look at*;rw[hs oid (.inr h3)];exact h2,h3,h4,fun i hi=> ?_⟩,hn⟩
 obtain⟨id,g,k1,k2,k3,k4⟩:=h5 i hi
 exact⟨id,g,k1,by unfold look at*;rw[hs id (.inr k3)];exact k2,k3,k4⟩
end Go.Lg
