/- GpDE, GpDF, GpDG, cut to what is needed. -/
import Derived.Test.YtidekghnkifbjaaGreatDoorJeb8
import Derived.Test.YtidekghnkifbjaaGreatDoorJeb1
open List renaming cons_append → Jb, nil_append → Jc, replicate → Jd, length_cons → Je, length_nil → Jf, take_of_length_le → Js, append_nil → Ju, getElem?_eq_none → Jx, length_take → JP, drop_zero → JR, length_replicate → QG, getElem?_cons_succ → Ue
open Nat renaming reduceAdd→zA,reduceMul→zM,reduceSub→zS,reduceEqDiff→zE,reduceLeDiff→zL
set_option linter.unusedSimpArgs false
set_option linter.unusedVariables false
set_option maxRecDepth 100000
namespace Go.Lg
open Go.Proofs
def GA(ms:List Int)(n:Nat):Prop:=ms.length=n*n∧∀k:Nat,k<ms.length→0≤JA ms k∧JA ms k≤((2^(n+1) -2:Nat):Int)∧JA ms k%2=0
theorem JhD{n:Nat}(hn:n=2∨n=3∨n=4):Uq .and .i64 (n:Int) 7=n:=by
 rcases hn with rfl|rfl|rfl<;>rfl
theorem Jfk{n:Nat}(hn:n=2∨n=3∨n=4):UM .shl .i64 1 .i64 ((n:Int)+1)=some (.int .i64 (((2^(n+1):Nat)):Int)):=by
 rcases hn with rfl|rfl|rfl<;>rfl
theorem Zr{n:Nat}(hn:n=2∨n=3∨n=4)(ms:List Int)(hm:GA ms n):JW Tryz.prog 131 [QO ms,int n] (bool true):=by
 obtain⟨hl,hv⟩:=hm
 have hsq:4≤n*n∧n*n≤16:=by rcases hn with rfl|rfl|rfl<;>omega
 have hpw:(2^(n+1):Nat)≤32∧8≤(2^(n+1):Nat):=by rcases hn with rfl|rfl|rfl<;>omega
 have hsi:(n:Int)*n=((n*n:Nat):Int):=by push_cast;rfl
 refine Jn.cw (c:=_) Tryz.func131 rfl (n:=41) Tryz.ntmps131 (rs:=[.tmp 4]) rfl ?_
 simp only[Je,Jf,zA,zS,Jd,Jb,Jc]
 simp(maxSteps:=999999)(disch:=omega)only[go_sem,zA,zM,zS,zE,zL]
 refine JY (fun k:Nat=>ms.length -k) (fun k=>k≤ms.length) (fun k=>[.k, .k, .a, .a, .a, .p (int k), .a, .a, .a, .a, .a, .a, .a, .a, .a, .a, .a, .a, .a, .a, .a, .a, .a, .a, .a, .a, .a, .a, .a, .a, .a, .a, .a, .a, .a, .a, .a, .a, .a, .a, .a]) (fun _=>[]) 0 (Nat.zero_le _) (by simp(maxSteps:=999999)(disch:=omega)only[go_sem,zA,zM,zS,zE,zL];rfl) (Qu _) ?_
 intro k hk
 simp(maxSteps:=999999)(disch:=omega)only[go_sem,zA,zM,zS,zE,zL]
 ((first|(with_reducible first|refine Jl ?_ ?_|refine Jj ?_ ?_|refine Jp ?_ ?_)|refine Jr ?_ ?_)<;>intro h1)
 · have h1:k<ms.length:=by omega
   obtain⟨v0,v1,v2⟩:=hv k h1
   have v3:(JA ms k).tmod 2=0:=by rw[VW v0];exact v2
   simp(maxSteps:=999999)(disch:=omega)only[go_sem,zA,zM,zS,zE,zL]
   refine Q3 [0,1,2,3,4,5,6,7,8,9,10,11,12,13] [] none [14,15,16,17,18] [] [0,0,3,7,0,16,48,112,240,511,1023,2047,4095,4095,16383,32767,65535,131071,262143] Zd (by kernel_rfl) ?_
   simp(maxSteps:=999999)(disch:=omega)only[go_sem,zA,zM,zS,zE,zL,JhD hn,Jfk hn]
   first|refine JZ.rd (Qz _ _ _) (⟨_,Tryz.func40,rfl,rfl⟩:Ji Tryz.prog 40) rfl rfl rfl rfl ?_|refine JK.rd (Qz _ _ _) (⟨_,Tryz.func40,rfl,rfl⟩:Ji Tryz.prog 40) rfl rfl rfl rfl ?_
   simp(maxSteps:=999999)(disch:=omega)only[go_sem,zA,zM,zS,zE,zL]
   ((with_reducible first|refine JJ ?_ ?_|refine JF ?_ ?_|refine JU ?_ ?_|refine Jw ?_ ?_|refine JH ?_ ?_|refine JI ?_ ?_|refine JD ?_ ?_|refine JE ?_ ?_|refine JS ?_ ?_|refine JT ?_ ?_|refine Jy ?_ ?_|refine Jz ?_ ?_)<;>intro h2<;>simp(maxSteps:=999999)(disch:=omega)only[go_sem,zA,zM,zS,zE,zL,h2])
   · simp(maxSteps:=999999)(disch:=omega)only[go_sem,zA,zM,zS,zE,zL,v3]
     exact⟨k+1,⟨by omega,by omega⟩,by push_cast;omega,Qu _⟩
   · exfalso;omega
 · simp(maxSteps:=999999)(disch:=omega)only[go_sem,zA,zM,zS,zE,zL]
   first|refine JZ.rd (Qz _ _ _) (⟨_,Tryz.func40,rfl,rfl⟩:Ji Tryz.prog 40) rfl rfl rfl rfl ?_|refine JK.rd (Qz _ _ _) (⟨_,Tryz.func40,rfl,rfl⟩:Ji Tryz.prog 40) rfl rfl rfl rfl ?_
   simp(maxSteps:=999999)(disch:=omega)only[go_sem,zA,zM,zS,zE,zL]
   ((with_reducible first|refine JJ ?_ ?_|refine JF ?_ ?_|refine JU ?_ ?_|refine Jw ?_ ?_|refine JH ?_ ?_|refine JI ?_ ?_|refine JD ?_ ?_|refine JE ?_ ?_|refine JS ?_ ?_|refine JT ?_ ?_|refine Jy ?_ ?_|refine Jz ?_ ?_)<;>intro h2<;>simp(maxSteps:=999999)(disch:=omega)only[go_sem,zA,zM,zS,zE,zL,h2])
   · rw[hsi,hl]
   · exfalso;omega
theorem RN(k:Nat):JQ (Jd k 0)=Jd k 0:=by simp[JQ]
def ZH(r:Z0)(ms:List Int):List Nat:=Z3 r (WV r ms 0) [] (Jd r.cells.length 0)
theorem Ko{n:Nat}(hn:n=2∨n=3∨n=4)(r:Z0)(ms:List Int)(hv:Ql r n=true)(hm:GA ms n)(hr:Jlk r ms):Jn Tryz.prog 155 [aR r,QO ms,int n] [] (WS (JQ (ZH r ms))):=by
 have hl4:=hr.len
 refine Jn.cw (c:=_) Tryz.func155 rfl (n:=29) Tryz.ntmps155 (rs:=[.tmp 6]) rfl ?_
 simp only[Je,Jf,zA,zS,Jd,Jb,Jc]
 simp(maxSteps:=999999)(disch:=omega)only[go_sem,zA,zM,zS,zE,zL]
 intro g1
 first|refine JZ.rd (Vl r n (by omega)) (⟨_,Tryz.func85,rfl,rfl⟩:Ji Tryz.prog 85) rfl rfl rfl rfl ?_|refine JK.rd (Vl r n (by omega)) (⟨_,Tryz.func85,rfl,rfl⟩:Ji Tryz.prog 85) rfl rfl rfl rfl ?_
 simp(maxSteps:=999999)(disch:=omega)only[go_sem,zA,zM,zS,zE,zL]
 ((with_reducible first|refine JJ ?_ ?_|refine JF ?_ ?_|refine JU ?_ ?_|refine Jw ?_ ?_|refine JH ?_ ?_|refine JI ?_ ?_|refine JD ?_ ?_|refine JE ?_ ?_|refine JS ?_ ?_|refine JT ?_ ?_|refine Jy ?_ ?_|refine Jz ?_ ?_)<;>intro h1<;>simp(maxSteps:=999999)(disch:=omega)only[go_sem,zA,zM,zS,zE,zL,h1])
 rotate_left
 · exfalso;rw[hv]at h1;cases h1
 first|refine JZ.rd (Zr hn ms hm) (⟨_,Tryz.func131,rfl,rfl⟩:Ji Tryz.prog 131) rfl rfl rfl rfl ?_|refine JK.rd (Zr hn ms hm) (⟨_,Tryz.func131,rfl,rfl⟩:Ji Tryz.prog 131) rfl rfl rfl rfl ?_
 simp(maxSteps:=999999)(disch:=omega)only[go_sem,zA,zM,zS,zE,zL]
 intro g2 g3
 have hrun:=Nt r ms hr r.cells.length [some ⟨g1,1,cR r⟩,some ⟨g2,1,cl (eI .i64) (Jd r.cells.length 0)⟩,some ⟨g3,1,[]⟩] 2 g3 [] 1 g2 (Jd r.cells.length 0) (by simp) (by simp only[go_sem];rfl) (by simp) (by omega)
  (by rw[RN];simp only[go_sem]) (by simp) (fun x hx=>by rw[List.eq_of_mem_replicate hx];omega)
 rw[QG]at hrun
 refine JZ.run hrun (⟨_,Tryz.func164,rfl,rfl⟩:Ji Tryz.prog 164) rfl rfl ?_
 rintro _ H2 ⟨rfl,l2,len2,f2⟩
 simp(maxSteps:=999999)(disch:=omega)only[go_sem,zA,zM,zS,zE,zL]
 have hlen:(JQ (ZH r ms)).length=r.cells.length:=by
  rw[Zy,ZH,VU _ _ _ _ (by simp[WV])]
  simp
 have hown:Qy H2 (.own 1 g2 0 r.cells.length none) (JQ (ZH r ms)) [1]:=by
  have:=Qy.o (H:=H2) 1 g2 none (JQ (ZH r ms)) [] (by rw[Ju];exact l2)
  rwa [hlen]at this
 exact⟨Rt [1] H2,BG _ _,_,[1],rfl,hown.same fun i hi=>K9 hi (hown.lt i hi),YB hown.blk⟩
theorem Q9{r:Z0}{n:Nat}(hv:Ql r n=true):(1≤r.cells.length∧r.cells.length≤4)∧(r.kind=1∨r.kind=2∨r.kind=3∨r.cells.length=2)∧(∀c∈r.cells,0≤c∧c<(n*n:Nat))∧r.cells.Nodup:=by
 simp only[Ql,decide_eq_true_eq]at hv
 obtain⟨h1,h2,h3⟩:=hv
 refine⟨?_, ?_,fun c hc=> ?_, ?_⟩
 · rcases h3 with h|h|h|h<;>omega
 · rcases h3 with h|h|h|h<;>omega
 · obtain⟨j,hj,rfl⟩:=List.mem_iff_getElem.1 hc
   have:=(h2 j hj).1
   rw[Qt (by omega)]at this
   simp only[Int.toNat_natCast]at this
   push_cast
   exact this
 · rw[List.nodup_iff_pairwise_ne,List.pairwise_iff_getElem]
   intro i j hi hj hij
   have:=(h2 j hj).2 i hij
   rw[Qt (by omega),Qt (by omega)]at this
   simp only[Int.toNat_natCast]at this
   exact this
def Y5(n:Nat)(v:Int):Int:=if v=0 then((2^(n+1) -2:Nat):Int)else((2^v.toNat:Nat):Int)
def UA(xs:List Int)(n:Nat):List Int:=xs.map (Y5 n)
theorem Fs{xs:List Int}{n k:Nat}(h:k<xs.length):JA (UA xs n) k=Y5 n (JA xs k):=by
 rw[Qt (by simp[UA];omega),Qt (by omega)]
 simp[UA]
theorem JiL{n:Nat}(hn:n=2∨n=3∨n=4){v:Int}(h:0≤v∧v≤n):0≤Y5 n v∧Y5 n v≤((2^(n+1) -2:Nat):Int)∧Y5 n v%2=0:=by
 unfold Y5
 obtain⟨k,rfl⟩:∃k:Nat,v=k:=⟨v.toNat,by omega⟩
 have:k=0∨k=1∨k=2∨k=3∨k=4:=by omega
 rcases hn with rfl|rfl|rfl<;>rcases this with rfl|rfl|rfl|rfl|rfl<;>first|omega|decide
theorem Jdv{xs:List Int}{n:Nat}(hn:n=2∨n=3∨n=4)(hl:xs.length=n*n)(hv:∀k:Nat,k<xs.length→0≤JA xs k∧JA xs k≤n):GA (UA xs n) n:=by
 refine⟨by simp[UA,hl],fun k hk=> ?_⟩
 have hk':k<xs.length:=by simpa[UA]using hk
 rw[Fs hk']
 exact JiL hn (hv k hk')
theorem Jg5{xs:List Int}{n:Nat}{r:Z0}(hn:n=2∨n=3∨n=4)(hl:xs.length=n*n)(hv:∀k:Nat,k<xs.length→0≤JA xs k∧JA xs k≤n)(hr:Ql r n=true):Jlk r (UA xs n):=by
 have hok:=Jdv hn hl hv
 obtain⟨h1,h2,h3,_⟩:=Q9 hr
 have hsq:n*n≤16:=by rcases hn with rfl|rfl|rfl<;>omega
 have hpw:(2^(n+1):Nat)≤32:=by rcases hn with rfl|rfl|rfl<;>omega
 refine⟨h1.2,h2,fun c hc=> ?_,by rw[hok.1];omega⟩
 have hcc:=h3 c hc
 obtain⟨k,rfl⟩:∃k:Nat,c=k:=⟨c.toNat,by omega⟩
 have hk:k<(UA xs n).length:=by rw[hok.1];omega
 have:=hok.2 k hk
 exact⟨by omega,by omega,this.1,by omega,this.2.2⟩
theorem JaA{xs:List Int}{n:Nat}{r:Z0}(hl:xs.length=n*n)(hv:∀k:Nat,k<xs.length→0≤JA xs k∧JA xs k≤n)(hr:Ql r n=true):Zn r xs n=((ZH r (UA xs n)).getD 0 0 !=0):=by
 obtain⟨h1,h2,h3,_⟩:=Q9 hr
 have e:r.cells.map (Uw xs n)=WV r (UA xs n) 0:=by
  unfold WV
  rw[JR]
  refine List.map_congr_left fun c hc=> ?_
  have hcc:=h3 c hc
  obtain⟨k,rfl⟩:∃k:Nat,c=k:=⟨c.toNat,by omega⟩
  have hk:k<xs.length:=by rw[hl];omega
  have:=hv k hk
  rw[Fs hk]
  unfold Uw Y5
  by_cases h0:JA xs k=0
  · rw[if_neg (by omega),if_pos h0];rfl
  · rw[if_pos (by omega),if_neg h0];rfl
 unfold Zn ZH
 rw[e]
theorem Be{n:Nat}(hn:n=2∨n=3∨n=4)(r:Z0)(xs:List Int)(hr:Ql r n=true)(hg:Qe xs n=true):JW Tryz.prog 151 [aR r,QO xs,int n] (bool (Zn r xs n)):=by
 obtain⟨h1,h2,h3,_⟩:=Q9 hr
 have hb:=QC hg
 have hxl:xs.length=n*n:=by have:=hb.2.2.1;rcases hn with rfl|rfl|rfl<;>omega
 have hxv:∀k:Nat,k<xs.length→0≤JA xs k∧JA xs k≤n:=hb.2.2.2.2
 refine Jn.cw (c:=_) Tryz.func151 rfl (n:=52) Tryz.ntmps151 (rs:=[.tmp 6]) rfl ?_
 simp only[Je,Jf,zA,zS,Jd,Jb,Jc]
 simp(maxSteps:=999999)(disch:=omega)only[go_sem,zA,zM,zS,zE,zL]
 intro g1
 first|refine JZ.rd (Vl r n (by omega)) (⟨_,Tryz.func85,rfl,rfl⟩:Ji Tryz.prog 85) rfl rfl rfl rfl ?_|refine JK.rd (Vl r n (by omega)) (⟨_,Tryz.func85,rfl,rfl⟩:Ji Tryz.prog 85) rfl rfl rfl rfl ?_
 simp(maxSteps:=999999)(disch:=omega)only[go_sem,zA,zM,zS,zE,zL]
 ((with_reducible first|refine JJ ?_ ?_|refine JF ?_ ?_|refine JU ?_ ?_|refine Jw ?_ ?_|refine JH ?_ ?_|refine JI ?_ ?_|refine JD ?_ ?_|refine JE ?_ ?_|refine JS ?_ ?_|refine JT ?_ ?_|refine Jy ?_ ?_|refine Jz ?_ ?_)<;>intro c1<;>simp(maxSteps:=999999)(disch:=omega)only[go_sem,zA,zM,zS,zE,zL,c1])
 rotate_left
 · exfalso;rw[hr]at c1;cases c1
 first|refine JZ.rd (ZE xs n (by omega)) (⟨_,Tryz.func39,rfl,rfl⟩:Ji Tryz.prog 39) rfl rfl rfl rfl ?_|refine JK.rd (ZE xs n (by omega)) (⟨_,Tryz.func39,rfl,rfl⟩:Ji Tryz.prog 39) rfl rfl rfl rfl ?_
 simp(maxSteps:=999999)(disch:=omega)only[go_sem,zA,zM,zS,zE,zL]
 ((first|(with_reducible first|refine Jl ?_ ?_|refine Jj ?_ ?_|refine Jp ?_ ?_)|refine Jr ?_ ?_)<;>intro c2)
 rotate_left
 · exfalso;rw[hg]at c2;cases c2
 simp(maxSteps:=999999)(disch:=omega)only[go_sem,zA,zM,zS,zE,zL]
 intro g2
 have hlM:(UA xs n).length=xs.length:=by simp[UA]
 have hsq:n*n≤16:=by rcases hn with rfl|rfl|rfl<;>omega
 have hpw:(2^(n+1):Nat)≤32∧8≤(2^(n+1):Nat):=by rcases hn with rfl|rfl|rfl<;>omega
 refine Qp (fun(k g:Nat)=>xs.length -k) (fun k g=>k≤xs.length) (fun k g=>[.a, .k, .k, .k, .a, .a, .a, .p (.c (.own 1 g 0 k none)), .p (int k), .a, .a, .a, .a, .a, .a, .a, .a, .a, .a, .a, .a, .a, .a, .a, .a, .a, .a, .a, .a, .a, .a, .a, .a, .a, .a, .a, .a, .a, .a, .a, .a, .a, .a, .a, .a, .a, .a, .a, .a, .a, .a, .a]) (fun k g=>[some ⟨g1,1,cR r⟩,some ⟨g,1,cl (eI .i64) ((UA xs n).take k)⟩]) 0 g2 (Nat.zero_le _) (by simp(maxSteps:=999999)(disch:=omega)only[go_sem,zA,zM,zS,zE,zL];rfl) (J0.refl _) ?_
 intro k g hk
 simp(maxSteps:=999999)(disch:=omega)only[go_sem,zA,zM,zS,zE,zL]
 ((first|(with_reducible first|refine Jl ?_ ?_|refine Jj ?_ ?_|refine Jp ?_ ?_)|refine Jr ?_ ?_)<;>intro c3)
 · have c3:k<xs.length:=by omega
   have hv:=hxv k c3
   have hM:(UA xs n).take (k+1)=(UA xs n).take k++[Y5 n (JA xs k)]:=by rw[Qg (by omega),Fs c3]
   have htl:((UA xs n).take k).length=k:=by rw[JP,hlM];omega
   simp(maxSteps:=999999)(disch:=omega)only[go_sem,zA,zM,zS,zE,zL,UP (v:=JA xs k) (by omega)]
   ((first|(with_reducible first|refine Jl ?_ ?_|refine Jj ?_ ?_|refine Jp ?_ ?_)|refine Jr ?_ ?_)<;>intro c4)
   · have hz:Y5 n (JA xs k)=((2^(n+1):Nat):Int) -2:=by unfold Y5;rw[if_pos c4];omega
     simp(maxSteps:=999999)(disch:=omega)only[go_sem,zA,zM,zS,zE,zL,Jfk hn]
     intro g3 g4
     refine⟨k+1,g4,⟨by omega,by omega⟩,⟨⟨rfl,rfl⟩,by push_cast;omega⟩, ?_⟩
     rw[hM,hz]
     exact J0.app [_,_] [_]
   · have hz:Y5 n (JA xs k)=((2^(JA xs k).toNat:Nat):Int):=by unfold Y5;rw[if_neg c4]
     simp(maxSteps:=999999)(disch:=omega)only[go_sem,zA,zM,zS,zE,zL]
     intro g3 g4
     refine⟨k+1,g4,⟨by omega,by omega⟩,⟨⟨rfl,rfl⟩,by push_cast;omega⟩, ?_⟩
     rw[hM,hz]
     exact J0.app [_,_] [_]
 · have hke:k=xs.length:=by omega
   have hMe:(UA xs n).take k=UA xs n:=Js (by omega)
   simp(maxSteps:=999999)(disch:=omega)only[go_sem,zA,zM,zS,zE,zL]
   rw[hMe]
   have hown:Qy [some ⟨g1,1,cR r⟩,some ⟨g,1,cl (eI .i64) (UA xs n)⟩] (.own 1 g 0 k none) (UA xs n) [1]:=by
    have:=Qy.o (H:=[some ⟨g1,1,cR r⟩,some ⟨g,1,cl (eI .i64) (UA xs n)⟩]) 1 g none (UA xs n) [] (by rw[Ju];simp only[go_sem])
    rwa [hlM,←hke]at this
   refine JZ.mkDI (Ko hn r (UA xs n) hr (Jdv hn hxl hxv) (Jg5 hn hxl hxv hr)) (⟨_,Tryz.func155,rfl,rfl⟩:Ji Tryz.prog 155) rfl rfl (Xj rfl hown.snap VO) ?_
   intro c H2 S2 o2 hS2
   have hln:0<(JQ (ZH r (UA xs n))).length:=by
    rw[Zy,ZH,VU _ _ _ _ (by simp[WV])]
    simp
    omega
   obtain⟨id,g',lim,ys,rfl,rfl,hlk⟩:=o2.inv' hln
   rw[JaA hxl hxv hr]
   have hld:ldP (some ⟨g',1,cl (eI .i64) (JQ (ZH r (UA xs n))++ys)⟩) 0=some (int (((ZH r (UA xs n)).getD 0 0:Nat):Int)):=by
    rw[Zy]at hln
    obtain⟨a,t,he⟩:=List.exists_cons_of_length_pos hln
    rw[he]
    rfl
   have hlk':look (some ⟨g1,1,cR r⟩::some ⟨g,1,cl (eI .i64) (UA xs n)⟩::H2) id g'=some ⟨g',1,cl (eI .i64) (JQ (ZH r (UA xs n))++ys)⟩:=hlk
   have hl0:0<(JQ (ZH r (UA xs n))++ys).length:=by simp;omega
   simp(maxSteps:=999999)(disch:=omega)only[go_sem,zA,zM,zS,zE,zL,hlk',Int.reduceToNat,hld]
   generalize(ZH r (UA xs n)).getD 0 0=x
   by_cases hx:x=0
   · subst hx;rfl
   · rw[decide_eq_false (by omega)]
     simp[hx]
end Go.Lg

namespace Go.Lg
open Go.Proofs
structure Ux(p:Q4)(n:Nat):Prop where
 hn:n=2∨n=3∨n=4
 size:p.size=n
 len:p.given.length=n*n
 rl:p.rules.length≤40
 rv:∀r∈p.rules,Ql r n=true
theorem Ux.of{p:Q4}(h:JB p=true):Ux p p.size.toNat∧((p.size.toNat:Nat):Int)=p.size:=by
 simp only[JB,Bool.and_eq_true,decide_eq_true_eq,List.all_eq_true]at h
 obtain⟨h1,h2,h3⟩:=h
 have hb:=QC h1
 have hs:((p.size.toNat:Nat):Int)=p.size:=by omega
 have hn:p.size.toNat=2∨p.size.toNat=3∨p.size.toNat=4:=by omega
 refine⟨⟨hn,hs.symm, ?_,by omega,fun r hr=>by rw[hs];exact h3 r hr⟩,hs⟩
 have:=hb.2.2.1
 rw[←hs]at this
 exact_mod_cast this
structure Zk(xs:List Int)(n:Nat):Prop where
 len:xs.length=n*n
 val:∀k:Nat,k<xs.length→0≤JA xs k∧JA xs k≤n
theorem Zk.valid{xs:List Int}{n:Nat}(hn:n=2∨n=3∨n=4)(h:Zk xs n):Qe xs n=true:=by
 simp only[Qe,decide_eq_true_eq]
 refine⟨by omega,by omega,by rw[h.len];push_cast;rfl,h.val⟩
theorem Zk.of{xs:List Int}{n:Nat}(hn:n=2∨n=3∨n=4)(h:Qe xs n=true):Zk xs n:=by
 have hb:=QC h
 exact⟨by have:=hb.2.2.1;rcases hn with rfl|rfl|rfl<;>omega,hb.2.2.2.2⟩
theorem YI{p:Q4}{n:Nat}(hp:Ux p n)(xs:List Int)(hg:Zk xs n):JW Tryz.prog 130 [aP p,QO xs] (bool (QT p xs n)):=by
 have hn:=hp.hn
 have hz:=hp.size
 have hgl:=hp.len
 have hxl:=hg.len
 have hrl:=hp.rl
 have hsq:n*n≤16:=by rcases hn with rfl|rfl|rfl<;>omega
 have hgv:=hg.valid hn
 refine Jn.cw (c:=_) Tryz.func130 rfl (n:=60) Tryz.ntmps130 (rs:=[.tmp 4]) rfl ?_
 simp only[Je,Jf,zA,zS,Jd,Jb,Jc]
 simp(maxSteps:=999999)(disch:=omega)only[go_sem,zA,zM,zS,zE,zL]
 intro g
 refine JY (fun k:Nat=>xs.length -k) (fun k=>k≤xs.length∧∀j:Nat,j<k→¬(0<JA p.given j∧0<JA xs j∧JA xs j≠JA p.given j)) (fun k=>[.a, .k, .k, .a, .a, .p (int k), .a, .a, .a, .a, .a, .a, .a, .a, .a, .a, .a, .a, .a, .a, .a, .a, .a, .a, .a, .a, .a, .a, .a, .a, .a, .a, .a, .a, .a, .a, .a, .a, .a, .a, .a, .a, .a, .a, .a, .a, .a, .a, .a, .a, .a, .a, .a, .a, .a, .a, .a, .a, .a, .a]) (fun _=>[some ⟨g,1,cP p⟩]) 0 ⟨Nat.zero_le _,fun j hj=>absurd hj (Nat.not_lt_zero _)⟩ (by simp(maxSteps:=999999)(disch:=omega)only[go_sem,zA,zM,zS,zE,zL];rfl) (J0.refl _) ?_
 rintro k ⟨hk,hno⟩
 simp(maxSteps:=999999)(disch:=omega)only[go_sem,zA,zM,zS,zE,zL]
 ((first|(with_reducible first|refine Jl ?_ ?_|refine Jj ?_ ?_|refine Jp ?_ ?_)|refine Jr ?_ ?_)<;>intro h1)
 · have h1:k<xs.length:=by omega
   have hbad:(0<JA p.given k∧0<JA xs k∧JA xs k≠JA p.given k)→false=QT p xs n:=fun hb=>by
    have:clear p xs=false:=by
     simp only[clear,decide_eq_false_iff_not]
     exact fun h=>h k h1 hb
    simp[QT,this]
   simp(maxSteps:=999999)(disch:=omega)only[go_sem,zA,zM,zS,zE,zL]
   have hgo:¬(0<JA p.given k∧0<JA xs k∧JA xs k≠JA p.given k)→∀j:Nat,j<k+1→¬(0<JA p.given j∧0<JA xs j∧JA xs j≠JA p.given j):=fun h j hj=>by
    by_cases hjk:j=k
    · rw[hjk];exact h
    · exact hno j (by omega)
   by_cases a:0<JA p.given k
   · by_cases b:0<JA xs k
     · by_cases c:JA xs k=JA p.given k
       · refine Zj Zd (by kernel_rfl) ?_
         simp(maxSteps:=999999)(disch:=omega)only[go_sem,zA,zM,zS,zE,zL,XZ,Y6,RY,NS]
         exact⟨k+1,⟨⟨by omega,hgo fun h=>h.2.2 c⟩,by omega⟩,by push_cast;omega,J0.refl _⟩
       · refine Zj Zd (by kernel_rfl) ?_
         simp(maxSteps:=999999)(disch:=omega)only[go_sem,zA,zM,zS,zE,zL,XZ,Y6,RY,NS]
         exact hbad ⟨a,b,c⟩
     · refine Zj Zd (by kernel_rfl) ?_
       simp(maxSteps:=999999)(disch:=omega)only[go_sem,zA,zM,zS,zE,zL,XZ,Y6,RY,NS]
       exact⟨k+1,⟨⟨by omega,hgo fun h=>b h.2.1⟩,by omega⟩,by push_cast;omega,J0.refl _⟩
   · refine Zj Zd (by kernel_rfl) ?_
     simp(maxSteps:=999999)(disch:=omega)only[go_sem,zA,zM,zS,zE,zL,XZ,Y6,RY,NS]
     exact⟨k+1,⟨⟨by omega,hgo fun h=>a h.1⟩,by omega⟩,by push_cast;omega,J0.refl _⟩
 · have hcl:clear p xs=true:=by
    simp only[clear,decide_eq_true_eq]
    exact fun j hj=>hno j (by omega)
   simp(maxSteps:=999999)(disch:=omega)only[go_sem,zA,zM,zS,zE,zL]
   refine JY (fun k:Nat=>p.rules.length -k) (fun k=>k≤p.rules.length∧∀j:Nat,j<k→Zn (JA p.rules j) xs n=true) (fun k=>[.a, .k, .k, .a, .a, .a, .p (int k), .a, .a, .a, .a, .a, .a, .a, .a, .a, .a, .a, .a, .a, .a, .a, .a, .a, .a, .a, .a, .a, .a, .a, .a, .a, .a, .a, .a, .a, .a, .a, .a, .a, .a, .a, .a, .a, .a, .a, .a, .a, .a, .a, .a, .a, .a, .a, .a, .a, .a, .a, .a, .a]) (fun _=>[some ⟨g,1,cP p⟩]) 0 ⟨Nat.zero_le _,fun j hj=>absurd hj (Nat.not_lt_zero _)⟩ (by simp(maxSteps:=999999)(disch:=omega)only[go_sem,zA,zM,zS,zE,zL];rfl) (J0.refl _) ?_
   rintro i ⟨hi,hyes⟩
   simp(maxSteps:=999999)(disch:=omega)only[go_sem,zA,zM,zS,zE,zL]
   ((first|(with_reducible first|refine Jl ?_ ?_|refine Jj ?_ ?_|refine Jp ?_ ?_)|refine Jr ?_ ?_)<;>intro h2)
   · have h2:i<p.rules.length:=by omega
     have hmem:JA p.rules i∈p.rules:=ZP h2
     simp(maxSteps:=999999)(disch:=omega)only[go_sem,zA,zM,zS,zE,zL]
     refine Q3 [0,1,2,3,4,5,6,7] [] none [8,9] [] [0,1,0,7,15,0,0,64,255,511] Zd (by kernel_rfl) ?_
     simp(maxSteps:=999999)(disch:=omega)only[go_sem,Nat.reduceBEq,Bool.true_or,zA,zM,zS,zE,zL]
     have hrp:=Be hn (JA p.rules i) xs (hp.rv _ hmem) hgv
     rw[←hz]at hrp
     first|refine JZ.rd (hrp) (⟨_,Tryz.func151,rfl,rfl⟩:Ji Tryz.prog 151) rfl rfl rfl rfl ?_|refine JK.rd (hrp) (⟨_,Tryz.func151,rfl,rfl⟩:Ji Tryz.prog 151) rfl rfl rfl rfl ?_
     simp(maxSteps:=999999)(disch:=omega)only[go_sem,zA,zM,zS,zE,zL]
     ((first|(with_reducible first|refine Jl ?_ ?_|refine Jj ?_ ?_|refine Jp ?_ ?_)|refine Jr ?_ ?_)<;>intro h3)
     · simp(maxSteps:=999999)(disch:=omega)only[go_sem,zA,zM,zS,zE,zL]
       refine⟨i+1,⟨⟨by omega,fun j hj=> ?_⟩,by omega⟩,by push_cast;omega,J0.refl _⟩
       by_cases hji:j=i
       · rw[hji];exact h3
       · exact hyes j (by omega)
     · simp(maxSteps:=999999)(disch:=omega)only[go_sem,zA,zM,zS,zE,zL]
       have:p.rules.all (fun r=>Zn r xs n)=false:=by
        rw[List.all_eq_false]
        exact⟨_,hmem,by rw[h3];simp⟩
       simp[QT,this]
   · have hall:p.rules.all (fun r=>Zn r xs n)=true:=by
      rw[List.all_eq_true]
      intro r hr
      obtain⟨j,hj,rfl⟩:=List.mem_iff_getElem.1 hr
      have:=hyes j (by omega)
      rwa [Qt (by omega)]at this
     simp(maxSteps:=999999)(disch:=omega)only[go_sem,zA,zM,zS,zE,zL]
     have hcr:=FZ hn xs hxl (fun k hk=>by have:=hg.val k hk;omega)
     rw[←hz]at hcr
     first|refine JZ.rd (hcr) (⟨_,Tryz.func152,rfl,rfl⟩:Ji Tryz.prog 152) rfl rfl rfl rfl ?_|refine JK.rd (hcr) (⟨_,Tryz.func152,rfl,rfl⟩:Ji Tryz.prog 152) rfl rfl rfl rfl ?_
     simp(maxSteps:=999999)(disch:=omega)only[go_sem,zA,zM,zS,zE,zL]
     simp[QT,hcl,hall]
end Go.Lg

namespace Go.Lg
open Go.Proofs
theorem ZY(p:Q4)(xs:List Int)(hx:Rf p)(hl:xs.length≤2^40):JW Tryz.prog 103 [aP p,QO xs] (bool (JB p&&(Qe xs p.size&&QT p xs p.size.toNat))):=by
 refine Jn.cw (c:=_) Tryz.func103 rfl (n:=18) Tryz.ntmps103 (rs:=[.tmp 4]) rfl ?_
 simp only[Je,Jf,zA,zS,Jd,Jb,Jc]
 simp(maxSteps:=999999)(disch:=omega)only[go_sem,zA,zM,zS,zE,zL]
 intro g
 first|refine JZ.rd (Qh p hx) (⟨_,Tryz.func38,rfl,rfl⟩:Ji Tryz.prog 38) rfl rfl rfl rfl ?_|refine JK.rd (Qh p hx) (⟨_,Tryz.func38,rfl,rfl⟩:Ji Tryz.prog 38) rfl rfl rfl rfl ?_
 simp(maxSteps:=999999)(disch:=omega)only[go_sem,zA,zM,zS,zE,zL]
 cases h1:JB p with
 |false=>
  simp(maxSteps:=999999)(disch:=omega)only[go_sem,zA,zM,zS,zE,zL]
  rfl
 |true=>
  simp(maxSteps:=999999)(disch:=omega)only[go_sem,zA,zM,zS,zE,zL]
  first|refine JZ.rd (ZE xs p.size hl) (⟨_,Tryz.func39,rfl,rfl⟩:Ji Tryz.prog 39) rfl rfl rfl rfl ?_|refine JK.rd (ZE xs p.size hl) (⟨_,Tryz.func39,rfl,rfl⟩:Ji Tryz.prog 39) rfl rfl rfl rfl ?_
  simp(maxSteps:=999999)(disch:=omega)only[go_sem,zA,zM,zS,zE,zL]
  cases h2:Qe xs p.size with
  |false=>
   simp(maxSteps:=999999)(disch:=omega)only[go_sem,zA,zM,zS,zE,zL]
   rfl
  |true=>
   obtain⟨hp,hs⟩:=Ux.of h1
   have hg:=Zk.of hp.hn (by rw[hs];exact h2)
   simp(maxSteps:=999999)(disch:=omega)only[go_sem,zA,zM,zS,zE,zL]
   first|refine JZ.rd (YI hp xs hg) (⟨_,Tryz.func130,rfl,rfl⟩:Ji Tryz.prog 130) rfl rfl rfl rfl ?_|refine JK.rd (YI hp xs hg) (⟨_,Tryz.func130,rfl,rfl⟩:Ji Tryz.prog 130) rfl rfl rfl rfl ?_
   simp(maxSteps:=999999)(disch:=omega)only[go_sem,zA,zM,zS,zE,zL]
theorem Nk:∀(m:List Bool) (H:Jm) (j:Nat),(Zg m H)[j]? =if m.getD j false=true then(H[j]?).map (fun _=>none)else H[j]?
 |[],H,j=>by simp[Zg]
 |b::m,[],j=>by cases b<;>simp[Zg]
 |b::m,x::H,j=>by
  have ih:=Nk m H
  cases b<;>cases j with
  |zero=>simp[Zg]
  |succ j=>simp only[Zg,Ue,List.getD_cons_succ,ih j]
theorem Ur{m:List Bool}{H:Jm}{id g:Nat}(h:m.getD id false=false):look (Zg m H) id g=look H id g:=by
 unfold look
 rw[Nk,h]
 simp
theorem ZR{m:List Bool}{H H':Jm}(h:∀j (b:Zv),m.getD j false=false→H[j]? =some (some b)→H'[j]? =some (some b)):RM m H H':=fun id b hb=>by
 rw[Nk]at hb⊢
 by_cases hm:m.getD id false=true
 · rw[if_pos hm]at hb
   cases hh:H[id]? <;>simp[hh]at hb
 · rw[if_neg hm]at hb⊢
   exact h id b (by simpa using hm) hb
def ZS(o n:Nat)(N:Nat):List Bool:=(List.range N).map fun j=>decide (j=o∨n≤j)
theorem U7{o n N j:Nat}(h1:j≠o)(h2:j<n):(ZS o n N).getD j false=false:=by
 by_cases h:j<N
 · simp[ZS,List.getD,h,h1,h2]
 · have:(ZS o n N)[j]? =none:=Jx (by simp[ZS];omega)
   simp[List.getD,this]
theorem Vt{o n N j:Nat}(h:(ZS o n N).getD j false=false)(hj:j<N):j≠o∧j<n:=by
 simp[ZS,List.getD,hj]at h
 omega
structure VT(H:Jm)(pid pg:Nat)(ls:List (List Int))(S:List Nat):Prop where
 ex:∃oid og cs,look H pid pg=some ⟨pg,1,[.own oid og 0 ls.length none]⟩∧look H oid og=some ⟨og,1,cs⟩∧oid∈S∧cs.length=ls.length∧∀i (h:i<ls.length),∃id g,cs[i]? =some (.own id g 0 ls[i].length none)∧look H id g=some ⟨g,1,cl (eI .i64) ls[i]⟩∧id∈S∧id≠oid
 pn:pid∉S
theorem VT.same{H H':Jm}{pid pg:Nat}{ls:List (List Int)}{S:List Nat}(h:VT H pid pg ls S)(hs:∀i,i=pid∨i∈S→H'[i]? =H[i]?):VT H' pid pg ls S:=by
 obtain⟨⟨oid,og,cs,h1,h2,h3,h4,h5⟩,hn⟩:=h
 refine⟨⟨oid,og,cs,by unfold look at*;rw[hs pid (.inl rfl)];exact h1,by unfold look at*;rw[hs oid (.inr h3)];exact h2,h3,h4,fun i hi=> ?_⟩,hn⟩
 obtain⟨id,g,k1,k2,k3,k4⟩:=h5 i hi
 exact⟨id,g,k1,by unfold look at*;rw[hs id (.inr k3)];exact k2,k3,k4⟩
end Go.Lg
