/- GpDE, GpDF, GpDG, cut to what is needed. -/
import Derived.Test.YtidekghnkifbjaaGreatDoorJdb9
import Derived.Test.YtidekghnkifbjaaGreatDoorJdb2
open List renaming length_cons → Ja, cons_append → Jb, nil_append → Jd, length_nil → Je, replicate → Jf, take_of_length_le → Js, append_nil → Jt, getElem?_eq_none → Ju, length_take → JX, drop_zero → J1, length_replicate → Q5, getElem?_cons_succ → Z2
open Nat renaming reduceAdd→zA,reduceMul→zM,reduceSub→zS,reduceEqDiff→zE,reduceLeDiff→zL
set_option linter.unusedSimpArgs false
set_option linter.unusedVariables false
set_option maxRecDepth 100000
namespace Go.Lg
open Go.Proofs
def F1(ms:List Int)(n:Nat):Prop:=ms.length=n*n∧∀k:Nat,k<ms.length→0≤Jy ms k∧Jy ms k≤((2^(n+1) -2:Nat):Int)∧Jy ms k%2=0
theorem Jg3{n:Nat}(hn:n=2∨n=3∨n=4):Uv .and .i64 (n:Int) 7=n:=by
 rcases hn with rfl|rfl|rfl<;>rfl
theorem JeQ{n:Nat}(hn:n=2∨n=3∨n=4):Uw .shl .i64 1 .i64 ((n:Int)+1)=some (.int .i64 (((2^(n+1):Nat)):Int)):=by
 rcases hn with rfl|rfl|rfl<;>rfl
theorem Ze{n:Nat}(hn:n=2∨n=3∨n=4)(ms:List Int)(hm:F1 ms n):JM Tryz.prog 131 [QF ms,int n] (bool true):=by
 obtain⟨hl,hv⟩:=hm
 have hsq:4≤n*n∧n*n≤16:=by rcases hn with rfl|rfl|rfl<;>omega
 have hpw:(2^(n+1):Nat)≤32∧8≤(2^(n+1):Nat):=by rcases hn with rfl|rfl|rfl<;>omega
 have hsi:(n:Int)*n=((n*n:Nat):Int):=by push_cast;rfl
 refine Jk.cw (c:=_) Tryz.func131 rfl (n:=41) Tryz.ntmps131 (rs:=[.tmp 4]) rfl ?_
 simp only[Ja,Je,zA,zS,Jf,Jb,Jd]
 simp(maxSteps:=999999)(disch:=omega)only[go_sem,zA,zM,zS,zE,zL]
 refine JO (fun k:Nat=>ms.length -k) (fun k=>k≤ms.length) (fun k=>[.k, .k, .a, .a, .a, .p (int k), .a, .a, .a, .a, .a, .a, .a, .a, .a, .a, .a, .a, .a, .a, .a, .a, .a, .a, .a, .a, .a, .a, .a, .a, .a, .a, .a, .a, .a, .a, .a, .a, .a, .a, .a]) (fun _=>[]) 0 (Nat.zero_le _) (by simp(maxSteps:=999999)(disch:=omega)only[go_sem,zA,zM,zS,zE,zL];rfl) (J9 _) ?_
 intro k hk
 simp(maxSteps:=999999)(disch:=omega)only[go_sem,zA,zM,zS,zE,zL]
 ((first|(with_reducible first|refine Jm ?_ ?_|refine Jj ?_ ?_|refine Jo ?_ ?_)|refine Jr ?_ ?_)<;>intro h1)
 · have h1:k<ms.length:=by omega
   obtain⟨v0,v1,v2⟩:=hv k h1
   have v3:(Jy ms k).tmod 2=0:=by rw[JaY v0];exact v2
   simp(maxSteps:=999999)(disch:=omega)only[go_sem,zA,zM,zS,zE,zL]
   refine Z5 [0,1,2,3,4,5,6,7,8,9,10,11,12,13] [] none [14,15,16,17,18] [] [0,0,3,7,0,16,48,112,240,511,1023,2047,4095,4095,16383,32767,65535,131071,262143] ZE (by kernel_rfl) ?_
   simp(maxSteps:=999999)(disch:=omega)only[go_sem,zA,zM,zS,zE,zL,Jg3 hn,JeQ hn]
   first|refine JU.rd (QE _ _ _) (⟨_,Tryz.func40,rfl,rfl⟩:Jg Tryz.prog 40) rfl rfl rfl rfl ?_|refine JG.rd (QE _ _ _) (⟨_,Tryz.func40,rfl,rfl⟩:Jg Tryz.prog 40) rfl rfl rfl rfl ?_
   simp(maxSteps:=999999)(disch:=omega)only[go_sem,zA,zM,zS,zE,zL]
   ((with_reducible first|refine JL ?_ ?_|refine JD ?_ ?_|refine JT ?_ ?_|refine Jv ?_ ?_|refine JJ ?_ ?_|refine JK ?_ ?_|refine JB ?_ ?_|refine JC ?_ ?_|refine JR ?_ ?_|refine JS ?_ ?_|refine Jw ?_ ?_|refine Jx ?_ ?_)<;>intro h2<;>simp(maxSteps:=999999)(disch:=omega)only[go_sem,zA,zM,zS,zE,zL,h2])
   · simp(maxSteps:=999999)(disch:=omega)only[go_sem,zA,zM,zS,zE,zL,v3]
     exact⟨k+1,⟨by omega,by omega⟩,by push_cast;omega,J9 _⟩
   · exfalso;omega
 · simp(maxSteps:=999999)(disch:=omega)only[go_sem,zA,zM,zS,zE,zL]
   first|refine JU.rd (QE _ _ _) (⟨_,Tryz.func40,rfl,rfl⟩:Jg Tryz.prog 40) rfl rfl rfl rfl ?_|refine JG.rd (QE _ _ _) (⟨_,Tryz.func40,rfl,rfl⟩:Jg Tryz.prog 40) rfl rfl rfl rfl ?_
   simp(maxSteps:=999999)(disch:=omega)only[go_sem,zA,zM,zS,zE,zL]
   ((with_reducible first|refine JL ?_ ?_|refine JD ?_ ?_|refine JT ?_ ?_|refine Jv ?_ ?_|refine JJ ?_ ?_|refine JK ?_ ?_|refine JB ?_ ?_|refine JC ?_ ?_|refine JR ?_ ?_|refine JS ?_ ?_|refine Jw ?_ ?_|refine Jx ?_ ?_)<;>intro h2<;>simp(maxSteps:=999999)(disch:=omega)only[go_sem,zA,zM,zS,zE,zL,h2])
   · rw[hsi,hl]
   · exfalso;omega
theorem Rh(k:Nat):JN (Jf k 0)=Jf k 0:=by simp[JN]
def Zy(r:Zq)(ms:List Int):List Nat:=ZS r (WH r ms 0) [] (Jf r.cells.length 0)
theorem YS{n:Nat}(hn:n=2∨n=3∨n=4)(r:Zq)(ms:List Int)(hv:Qw r n=true)(hm:F1 ms n)(hr:JkO r ms):Jk Tryz.prog 155 [aR r,QF ms,int n] [] (WD (JN (Zy r ms))):=by
 have hl4:=hr.len
 refine Jk.cw (c:=_) Tryz.func155 rfl (n:=29) Tryz.ntmps155 (rs:=[.tmp 6]) rfl ?_
 simp only[Ja,Je,zA,zS,Jf,Jb,Jd]
 simp(maxSteps:=999999)(disch:=omega)only[go_sem,zA,zM,zS,zE,zL]
 intro g1
 first|refine JU.rd (Vb r n (by omega)) (⟨_,Tryz.func85,rfl,rfl⟩:Jg Tryz.prog 85) rfl rfl rfl rfl ?_|refine JG.rd (Vb r n (by omega)) (⟨_,Tryz.func85,rfl,rfl⟩:Jg Tryz.prog 85) rfl rfl rfl rfl ?_
 simp(maxSteps:=999999)(disch:=omega)only[go_sem,zA,zM,zS,zE,zL]
 ((with_reducible first|refine JL ?_ ?_|refine JD ?_ ?_|refine JT ?_ ?_|refine Jv ?_ ?_|refine JJ ?_ ?_|refine JK ?_ ?_|refine JB ?_ ?_|refine JC ?_ ?_|refine JR ?_ ?_|refine JS ?_ ?_|refine Jw ?_ ?_|refine Jx ?_ ?_)<;>intro h1<;>simp(maxSteps:=999999)(disch:=omega)only[go_sem,zA,zM,zS,zE,zL,h1])
 rotate_left
 · exfalso;rw[hv]at h1;cases h1
 first|refine JU.rd (Ze hn ms hm) (⟨_,Tryz.func131,rfl,rfl⟩:Jg Tryz.prog 131) rfl rfl rfl rfl ?_|refine JG.rd (Ze hn ms hm) (⟨_,Tryz.func131,rfl,rfl⟩:Jg Tryz.prog 131) rfl rfl rfl rfl ?_
 simp(maxSteps:=999999)(disch:=omega)only[go_sem,zA,zM,zS,zE,zL]
 intro g2 g3
 have hrun:=GX r ms hr r.cells.length [some ⟨g1,1,cR r⟩,some ⟨g2,1,cl (eI .i64) (Jf r.cells.length 0)⟩,some ⟨g3,1,[]⟩] 2 g3 [] 1 g2 (Jf r.cells.length 0) (by simp) (by simp only[go_sem];rfl) (by simp) (by omega)
  (by rw[Rh];simp only[go_sem]) (by simp) (fun x hx=>by rw[List.eq_of_mem_replicate hx];omega)
 rw[Q5]at hrun
 refine JU.run hrun (⟨_,Tryz.func164,rfl,rfl⟩:Jg Tryz.prog 164) rfl rfl ?_
 rintro _ H2 ⟨rfl,l2,len2,f2⟩
 simp(maxSteps:=999999)(disch:=omega)only[go_sem,zA,zM,zS,zE,zL]
 have hlen:(JN (Zy r ms)).length=r.cells.length:=by
  rw[Zl,Zy,VO _ _ _ _ (by simp[WH])]
  simp
 have hown:Qr H2 (.own 1 g2 0 r.cells.length none) (JN (Zy r ms)) [1]:=by
  have:=Qr.o (H:=H2) 1 g2 none (JN (Zy r ms)) [] (by rw[Jt];exact l2)
  rwa [hlen]at this
 exact⟨Y4 [1] H2,Y0 _ _,_,[1],rfl,hown.same fun i hi=>WZ hi (hown.lt i hi),W4 hown.blk⟩
theorem QV{r:Zq}{n:Nat}(hv:Qw r n=true):(1≤r.cells.length∧r.cells.length≤4)∧(r.kind=1∨r.kind=2∨r.kind=3∨r.cells.length=2)∧(∀c∈r.cells,0≤c∧c<(n*n:Nat))∧r.cells.Nodup:=by
 simp only[Qw,decide_eq_true_eq]at hv
 obtain⟨h1,h2,h3⟩:=hv
 refine⟨?_, ?_,fun c hc=> ?_, ?_⟩
 · rcases h3 with h|h|h|h<;>omega
 · rcases h3 with h|h|h|h<;>omega
 · obtain⟨j,hj,rfl⟩:=List.mem_iff_getElem.1 hc
   have:=(h2 j hj).1
   rw[Qe (by omega)]at this
   simp only[Int.toNat_natCast]at this
   push_cast
   exact this
 · rw[List.nodup_iff_pairwise_ne,List.pairwise_iff_getElem]
   intro i j hi hj hij
   have:=(h2 j hj).2 i hij
   rw[Qe (by omega),Qe (by omega)]at this
   simp only[Int.toNat_natCast]at this
   exact this
def Yz(n:Nat)(v:Int):Int:=if v=0 then((2^(n+1) -2:Nat):Int)else((2^v.toNat:Nat):Int)
def Uj(xs:List Int)(n:Nat):List Int:=xs.map (Yz n)
theorem BV{xs:List Int}{n k:Nat}(h:k<xs.length):Jy (Uj xs n) k=Yz n (Jy xs k):=by
 rw[Qe (by simp[Uj];omega),Qe (by omega)]
 simp[Uj]
theorem Jie{n:Nat}(hn:n=2∨n=3∨n=4){v:Int}(h:0≤v∧v≤n):0≤Yz n v∧Yz n v≤((2^(n+1) -2:Nat):Int)∧Yz n v%2=0:=by
 unfold Yz
 obtain⟨k,rfl⟩:∃k:Nat,v=k:=⟨v.toNat,by omega⟩
 have:k=0∨k=1∨k=2∨k=3∨k=4:=by omega
 rcases hn with rfl|rfl|rfl<;>rcases this with rfl|rfl|rfl|rfl|rfl<;>first|omega|decide
theorem JcW{xs:List Int}{n:Nat}(hn:n=2∨n=3∨n=4)(hl:xs.length=n*n)(hv:∀k:Nat,k<xs.length→0≤Jy xs k∧Jy xs k≤n):F1 (Uj xs n) n:=by
 refine⟨by simp[Uj,hl],fun k hk=> ?_⟩
 have hk':k<xs.length:=by simpa[Uj]using hk
 rw[BV hk']
 exact Jie hn (hv k hk')
theorem Jgv{xs:List Int}{n:Nat}{r:Zq}(hn:n=2∨n=3∨n=4)(hl:xs.length=n*n)(hv:∀k:Nat,k<xs.length→0≤Jy xs k∧Jy xs k≤n)(hr:Qw r n=true):JkO r (Uj xs n):=by
 have hok:=JcW hn hl hv
 obtain⟨h1,h2,h3,_⟩:=QV hr
 have hsq:n*n≤16:=by rcases hn with rfl|rfl|rfl<;>omega
 have hpw:(2^(n+1):Nat)≤32:=by rcases hn with rfl|rfl|rfl<;>omega
 refine⟨h1.2,h2,fun c hc=> ?_,by rw[hok.1];omega⟩
 have hcc:=h3 c hc
 obtain⟨k,rfl⟩:∃k:Nat,c=k:=⟨c.toNat,by omega⟩
 have hk:k<(Uj xs n).length:=by rw[hok.1];omega
 have:=hok.2 k hk
 exact⟨by omega,by omega,this.1,by omega,this.2.2⟩
theorem N3{xs:List Int}{n:Nat}{r:Zq}(hl:xs.length=n*n)(hv:∀k:Nat,k<xs.length→0≤Jy xs k∧Jy xs k≤n)(hr:Qw r n=true):Q9 r xs n=((Zy r (Uj xs n)).getD 0 0 !=0):=by
 obtain⟨h1,h2,h3,_⟩:=QV hr
 have e:r.cells.map (Uf xs n)=WH r (Uj xs n) 0:=by
  unfold WH
  rw[J1]
  refine List.map_congr_left fun c hc=> ?_
  have hcc:=h3 c hc
  obtain⟨k,rfl⟩:∃k:Nat,c=k:=⟨c.toNat,by omega⟩
  have hk:k<xs.length:=by rw[hl];omega
  have:=hv k hk
  rw[BV hk]
  unfold Uf Yz
  by_cases h0:Jy xs k=0
  · rw[if_neg (by omega),if_pos h0];rfl
  · rw[if_pos (by omega),if_neg h0];rfl
 unfold Q9 Zy
 rw[e]
theorem RK{n:Nat}(hn:n=2∨n=3∨n=4)(r:Zq)(xs:List Int)(hr:Qw r n=true)(hg:Qc xs n=true):JM Tryz.prog 151 [aR r,QF xs,int n] (bool (Q9 r xs n)):=by
 obtain⟨h1,h2,h3,_⟩:=QV hr
 have hb:=Qv hg
 have hxl:xs.length=n*n:=by have:=hb.2.2.1;rcases hn with rfl|rfl|rfl<;>omega
 have hxv:∀k:Nat,k<xs.length→0≤Jy xs k∧Jy xs k≤n:=hb.2.2.2.2
 refine Jk.cw (c:=_) Tryz.func151 rfl (n:=52) Tryz.ntmps151 (rs:=[.tmp 6]) rfl ?_
 simp only[Ja,Je,zA,zS,Jf,Jb,Jd]
 simp(maxSteps:=999999)(disch:=omega)only[go_sem,zA,zM,zS,zE,zL]
 intro g1
 first|refine JU.rd (Vb r n (by omega)) (⟨_,Tryz.func85,rfl,rfl⟩:Jg Tryz.prog 85) rfl rfl rfl rfl ?_|refine JG.rd (Vb r n (by omega)) (⟨_,Tryz.func85,rfl,rfl⟩:Jg Tryz.prog 85) rfl rfl rfl rfl ?_
 simp(maxSteps:=999999)(disch:=omega)only[go_sem,zA,zM,zS,zE,zL]
 ((with_reducible first|refine JL ?_ ?_|refine JD ?_ ?_|refine JT ?_ ?_|refine Jv ?_ ?_|refine JJ ?_ ?_|refine JK ?_ ?_|refine JB ?_ ?_|refine JC ?_ ?_|refine JR ?_ ?_|refine JS ?_ ?_|refine Jw ?_ ?_|refine Jx ?_ ?_)<;>intro c1<;>simp(maxSteps:=999999)(disch:=omega)only[go_sem,zA,zM,zS,zE,zL,c1])
 rotate_left
 · exfalso;rw[hr]at c1;cases c1
 first|refine JU.rd (Zu xs n (by omega)) (⟨_,Tryz.func39,rfl,rfl⟩:Jg Tryz.prog 39) rfl rfl rfl rfl ?_|refine JG.rd (Zu xs n (by omega)) (⟨_,Tryz.func39,rfl,rfl⟩:Jg Tryz.prog 39) rfl rfl rfl rfl ?_
 simp(maxSteps:=999999)(disch:=omega)only[go_sem,zA,zM,zS,zE,zL]
 ((first|(with_reducible first|refine Jm ?_ ?_|refine Jj ?_ ?_|refine Jo ?_ ?_)|refine Jr ?_ ?_)<;>intro c2)
 rotate_left
 · exfalso;rw[hg]at c2;cases c2
 simp(maxSteps:=999999)(disch:=omega)only[go_sem,zA,zM,zS,zE,zL]
 intro g2
 have hlM:(Uj xs n).length=xs.length:=by simp[Uj]
 have hsq:n*n≤16:=by rcases hn with rfl|rfl|rfl<;>omega
 have hpw:(2^(n+1):Nat)≤32∧8≤(2^(n+1):Nat):=by rcases hn with rfl|rfl|rfl<;>omega
 refine Qx (fun(k g:Nat)=>xs.length -k) (fun k g=>k≤xs.length) (fun k g=>[.a, .k, .k, .k, .a, .a, .a, .p (.c (.own 1 g 0 k none)), .p (int k), .a, .a, .a, .a, .a, .a, .a, .a, .a, .a, .a, .a, .a, .a, .a, .a, .a, .a, .a, .a, .a, .a, .a, .a, .a, .a, .a, .a, .a, .a, .a, .a, .a, .a, .a, .a, .a, .a, .a, .a, .a, .a, .a]) (fun k g=>[some ⟨g1,1,cR r⟩,some ⟨g,1,cl (eI .i64) ((Uj xs n).take k)⟩]) 0 g2 (Nat.zero_le _) (by simp(maxSteps:=999999)(disch:=omega)only[go_sem,zA,zM,zS,zE,zL];rfl) (J5.refl _) ?_
 intro k g hk
 simp(maxSteps:=999999)(disch:=omega)only[go_sem,zA,zM,zS,zE,zL]
 ((first|(with_reducible first|refine Jm ?_ ?_|refine Jj ?_ ?_|refine Jo ?_ ?_)|refine Jr ?_ ?_)<;>intro c3)
 · have c3:k<xs.length:=by omega
   have hv:=hxv k c3
   have hM:(Uj xs n).take (k+1)=(Uj xs n).take k++[Yz n (Jy xs k)]:=by rw[Qa (by omega),BV c3]
   have htl:((Uj xs n).take k).length=k:=by rw[JX,hlM];omega
   simp(maxSteps:=999999)(disch:=omega)only[go_sem,zA,zM,zS,zE,zL,Uz (v:=Jy xs k) (by omega)]
   ((first|(with_reducible first|refine Jm ?_ ?_|refine Jj ?_ ?_|refine Jo ?_ ?_)|refine Jr ?_ ?_)<;>intro c4)
   · have hz:Yz n (Jy xs k)=((2^(n+1):Nat):Int) -2:=by unfold Yz;rw[if_pos c4];omega
     simp(maxSteps:=999999)(disch:=omega)only[go_sem,zA,zM,zS,zE,zL,JeQ hn]
     intro g3 g4
     refine⟨k+1,g4,⟨by omega,by omega⟩,⟨⟨rfl,rfl⟩,by push_cast;omega⟩, ?_⟩
     rw[hM,hz]
     exact J5.app [_,_] [_]
   · have hz:Yz n (Jy xs k)=((2^(Jy xs k).toNat:Nat):Int):=by unfold Yz;rw[if_neg c4]
     simp(maxSteps:=999999)(disch:=omega)only[go_sem,zA,zM,zS,zE,zL]
     intro g3 g4
     refine⟨k+1,g4,⟨by omega,by omega⟩,⟨⟨rfl,rfl⟩,by push_cast;omega⟩, ?_⟩
     rw[hM,hz]
     exact J5.app [_,_] [_]
 · have hke:k=xs.length:=by omega
   have hMe:(Uj xs n).take k=Uj xs n:=Js (by omega)
   simp(maxSteps:=999999)(disch:=omega)only[go_sem,zA,zM,zS,zE,zL]
   rw[hMe]
   have hown:Qr [some ⟨g1,1,cR r⟩,some ⟨g,1,cl (eI .i64) (Uj xs n)⟩] (.own 1 g 0 k none) (Uj xs n) [1]:=by
    have:=Qr.o (H:=[some ⟨g1,1,cR r⟩,some ⟨g,1,cl (eI .i64) (Uj xs n)⟩]) 1 g none (Uj xs n) [] (by rw[Jt];simp only[go_sem])
    rwa [hlM,←hke]at this
   refine JU.mkDI (YS hn r (Uj xs n) hr (JcW hn hxl hxv) (Jgv hn hxl hxv hr)) (⟨_,Tryz.func155,rfl,rfl⟩:Jg Tryz.prog 155) rfl rfl (W2 rfl hown.snap UU) ?_
   intro c H2 S2 o2 hS2
   have hln:0<(JN (Zy r (Uj xs n))).length:=by
    rw[Zl,Zy,VO _ _ _ _ (by simp[WH])]
    simp
    omega
   obtain⟨id,g',lim,ys,rfl,rfl,hlk⟩:=o2.inv' hln
   rw[N3 hxl hxv hr]
   have hld:ldP (some ⟨g',1,cl (eI .i64) (JN (Zy r (Uj xs n))++ys)⟩) 0=some (int (((Zy r (Uj xs n)).getD 0 0:Nat):Int)):=by
    rw[Zl]at hln
    obtain⟨a,t,he⟩:=List.exists_cons_of_length_pos hln
    rw[he]
    rfl
   have hlk':look (some ⟨g1,1,cR r⟩::some ⟨g,1,cl (eI .i64) (Uj xs n)⟩::H2) id g'=some ⟨g',1,cl (eI .i64) (JN (Zy r (Uj xs n))++ys)⟩:=hlk
   have hl0:0<(JN (Zy r (Uj xs n))++ys).length:=by simp;omega
   simp(maxSteps:=999999)(disch:=omega)only[go_sem,zA,zM,zS,zE,zL,hlk',Int.reduceToNat,hld]
   generalize(Zy r (Uj xs n)).getD 0 0=x
   by_cases hx:x=0
   · subst hx;rfl
   · rw[decide_eq_false (by omega)]
     simp[hx]
end Go.Lg

namespace Go.Lg
open Go.Proofs
structure Uq(p:QR)(n:Nat):Prop where
 hn:n=2∨n=3∨n=4
 size:p.size=n
 len:p.given.length=n*n
 rl:p.rules.length≤40
 rv:∀r∈p.rules,Qw r n=true
theorem Uq.of{p:QR}(h:JA p=true):Uq p p.size.toNat∧((p.size.toNat:Nat):Int)=p.size:=by
 simp only[JA,Bool.and_eq_true,decide_eq_true_eq,List.all_eq_true]at h
 obtain⟨h1,h2,h3⟩:=h
 have hb:=Qv h1
 have hs:((p.size.toNat:Nat):Int)=p.size:=by omega
 have hn:p.size.toNat=2∨p.size.toNat=3∨p.size.toNat=4:=by omega
 refine⟨⟨hn,hs.symm, ?_,by omega,fun r hr=>by rw[hs];exact h3 r hr⟩,hs⟩
 have:=hb.2.2.1
 rw[←hs]at this
 exact_mod_cast this
structure Zd(xs:List Int)(n:Nat):Prop where
 len:xs.length=n*n
 val:∀k:Nat,k<xs.length→0≤Jy xs k∧Jy xs k≤n
theorem Zd.valid{xs:List Int}{n:Nat}(hn:n=2∨n=3∨n=4)(h:Zd xs n):Qc xs n=true:=by
 simp only[Qc,decide_eq_true_eq]
 refine⟨by omega,by omega,by rw[h.len];push_cast;rfl,h.val⟩
theorem Zd.of{xs:List Int}{n:Nat}(hn:n=2∨n=3∨n=4)(h:Qc xs n=true):Zd xs n:=by
 have hb:=Qv h
 exact⟨by have:=hb.2.2.1;rcases hn with rfl|rfl|rfl<;>omega,hb.2.2.2.2⟩
theorem Yl{p:QR}{n:Nat}(hp:Uq p n)(xs:List Int)(hg:Zd xs n):JM Tryz.prog 130 [aP p,QF xs] (bool (QJ p xs n)):=by
 have hn:=hp.hn
 have hz:=hp.size
 have hgl:=hp.len
 have hxl:=hg.len
 have hrl:=hp.rl
 have hsq:n*n≤16:=by rcases hn with rfl|rfl|rfl<;>omega
 have hgv:=hg.valid hn
 refine Jk.cw (c:=_) Tryz.func130 rfl (n:=60) Tryz.ntmps130 (rs:=[.tmp 4]) rfl ?_
 simp only[Ja,Je,zA,zS,Jf,Jb,Jd]
 simp(maxSteps:=999999)(disch:=omega)only[go_sem,zA,zM,zS,zE,zL]
 intro g
 refine JO (fun k:Nat=>xs.length -k) (fun k=>k≤xs.length∧∀j:Nat,j<k→¬(0<Jy p.given j∧0<Jy xs j∧Jy xs j≠Jy p.given j)) (fun k=>[.a, .k, .k, .a, .a, .p (int k), .a, .a, .a, .a, .a, .a, .a, .a, .a, .a, .a, .a, .a, .a, .a, .a, .a, .a, .a, .a, .a, .a, .a, .a, .a, .a, .a, .a, .a, .a, .a, .a, .a, .a, .a, .a, .a, .a, .a, .a, .a, .a, .a, .a, .a, .a, .a, .a, .a, .a, .a, .a, .a, .a]) (fun _=>[some ⟨g,1,cP p⟩]) 0 ⟨Nat.zero_le _,fun j hj=>absurd hj (Nat.not_lt_zero _)⟩ (by simp(maxSteps:=999999)(disch:=omega)only[go_sem,zA,zM,zS,zE,zL];rfl) (J5.refl _) ?_
 rintro k ⟨hk,hno⟩
 simp(maxSteps:=999999)(disch:=omega)only[go_sem,zA,zM,zS,zE,zL]
 ((first|(with_reducible first|refine Jm ?_ ?_|refine Jj ?_ ?_|refine Jo ?_ ?_)|refine Jr ?_ ?_)<;>intro h1)
 · have h1:k<xs.length:=by omega
   have hbad:(0<Jy p.given k∧0<Jy xs k∧Jy xs k≠Jy p.given k)→false=QJ p xs n:=fun hb=>by
    have:clear p xs=false:=by
     simp only[clear,decide_eq_false_iff_not]
     exact fun h=>h k h1 hb
    simp[QJ,this]
   simp(maxSteps:=999999)(disch:=omega)only[go_sem,zA,zM,zS,zE,zL]
   have hgo:¬(0<Jy p.given k∧0<Jy xs k∧Jy xs k≠Jy p.given k)→∀j:Nat,j<k+1→¬(0<Jy p.given j∧0<Jy xs j∧Jy xs j≠Jy p.given j):=fun h j hj=>by
    by_cases hjk:j=k
    · rw[hjk];exact h
    · exact hno j (by omega)
   by_cases a:0<Jy p.given k
   · by_cases b:0<Jy xs k
     · by_cases c:Jy xs k=Jy p.given k
       · refine Zi ZE (by kernel_rfl) ?_
         simp(maxSteps:=999999)(disch:=omega)only[go_sem,zA,zM,zS,zE,zL,Z6,U7,Ut,Vv]
         exact⟨k+1,⟨⟨by omega,hgo fun h=>h.2.2 c⟩,by omega⟩,by push_cast;omega,J5.refl _⟩
       · refine Zi ZE (by kernel_rfl) ?_
         simp(maxSteps:=999999)(disch:=omega)only[go_sem,zA,zM,zS,zE,zL,Z6,U7,Ut,Vv]
         exact hbad ⟨a,b,c⟩
     · refine Zi ZE (by kernel_rfl) ?_
       simp(maxSteps:=999999)(disch:=omega)only[go_sem,zA,zM,zS,zE,zL,Z6,U7,Ut,Vv]
       exact⟨k+1,⟨⟨by omega,hgo fun h=>b h.2.1⟩,by omega⟩,by push_cast;omega,J5.refl _⟩
   · refine Zi ZE (by kernel_rfl) ?_
     simp(maxSteps:=999999)(disch:=omega)only[go_sem,zA,zM,zS,zE,zL,Z6,U7,Ut,Vv]
     exact⟨k+1,⟨⟨by omega,hgo fun h=>a h.1⟩,by omega⟩,by push_cast;omega,J5.refl _⟩
 · have hcl:clear p xs=true:=by
    simp only[clear,decide_eq_true_eq]
    exact fun j hj=>hno j (by omega)
   simp(maxSteps:=999999)(disch:=omega)only[go_sem,zA,zM,zS,zE,zL]
   refine JO (fun k:Nat=>p.rules.length -k) (fun k=>k≤p.rules.length∧∀j:Nat,j<k→Q9 (Jy p.rules j) xs n=true) (fun k=>[.a, .k, .k, .a, .a, .a, .p (int k), .a, .a, .a, .a, .a, .a, .a, .a, .a, .a, .a, .a, .a, .a, .a, .a, .a, .a, .a, .a, .a, .a, .a, .a, .a, .a, .a, .a, .a, .a, .a, .a, .a, .a, .a, .a, .a, .a, .a, .a, .a, .a, .a, .a, .a, .a, .a, .a, .a, .a, .a, .a, .a]) (fun _=>[some ⟨g,1,cP p⟩]) 0 ⟨Nat.zero_le _,fun j hj=>absurd hj (Nat.not_lt_zero _)⟩ (by simp(maxSteps:=999999)(disch:=omega)only[go_sem,zA,zM,zS,zE,zL];rfl) (J5.refl _) ?_
   rintro i ⟨hi,hyes⟩
   simp(maxSteps:=999999)(disch:=omega)only[go_sem,zA,zM,zS,zE,zL]
   ((first|(with_reducible first|refine Jm ?_ ?_|refine Jj ?_ ?_|refine Jo ?_ ?_)|refine Jr ?_ ?_)<;>intro h2)
   · have h2:i<p.rules.length:=by omega
     have hmem:Jy p.rules i∈p.rules:=Q8 h2
     simp(maxSteps:=999999)(disch:=omega)only[go_sem,zA,zM,zS,zE,zL]
     refine Z5 [0,1,2,3,4,5,6,7] [] none [8,9] [] [0,1,0,7,15,0,0,64,255,511] ZE (by kernel_rfl) ?_
     simp(maxSteps:=999999)(disch:=omega)only[go_sem,Nat.reduceBEq,Bool.true_or,zA,zM,zS,zE,zL]
     have hrp:=RK hn (Jy p.rules i) xs (hp.rv _ hmem) hgv
     rw[←hz]at hrp
     first|refine JU.rd (hrp) (⟨_,Tryz.func151,rfl,rfl⟩:Jg Tryz.prog 151) rfl rfl rfl rfl ?_|refine JG.rd (hrp) (⟨_,Tryz.func151,rfl,rfl⟩:Jg Tryz.prog 151) rfl rfl rfl rfl ?_
     simp(maxSteps:=999999)(disch:=omega)only[go_sem,zA,zM,zS,zE,zL]
     ((first|(with_reducible first|refine Jm ?_ ?_|refine Jj ?_ ?_|refine Jo ?_ ?_)|refine Jr ?_ ?_)<;>intro h3)
     · simp(maxSteps:=999999)(disch:=omega)only[go_sem,zA,zM,zS,zE,zL]
       refine⟨i+1,⟨⟨by omega,fun j hj=> ?_⟩,by omega⟩,by push_cast;omega,J5.refl _⟩
       by_cases hji:j=i
       · rw[hji];exact h3
       · exact hyes j (by omega)
     · simp(maxSteps:=999999)(disch:=omega)only[go_sem,zA,zM,zS,zE,zL]
       have:p.rules.all (fun r=>Q9 r xs n)=false:=by
        rw[List.all_eq_false]
        exact⟨_,hmem,by rw[h3];simp⟩
       simp[QJ,this]
   · have hall:p.rules.all (fun r=>Q9 r xs n)=true:=by
      rw[List.all_eq_true]
      intro r hr
      obtain⟨j,hj,rfl⟩:=List.mem_iff_getElem.1 hr
      have:=hyes j (by omega)
      rwa [Qe (by omega)]at this
     simp(maxSteps:=999999)(disch:=omega)only[go_sem,zA,zM,zS,zE,zL]
     have hcr:=JcQ hn xs hxl (fun k hk=>by have:=hg.val k hk;omega)
     rw[←hz]at hcr
     first|refine JU.rd (hcr) (⟨_,Tryz.func152,rfl,rfl⟩:Jg Tryz.prog 152) rfl rfl rfl rfl ?_|refine JG.rd (hcr) (⟨_,Tryz.func152,rfl,rfl⟩:Jg Tryz.prog 152) rfl rfl rfl rfl ?_
     simp(maxSteps:=999999)(disch:=omega)only[go_sem,zA,zM,zS,zE,zL]
     simp[QJ,hcl,hall]
end Go.Lg

namespace Go.Lg
open Go.Proofs
theorem ZO(p:QR)(xs:List Int)(hx:RC p)(hl:xs.length≤2^40):JM Tryz.prog 103 [aP p,QF xs] (bool (JA p&&(Qc xs p.size&&QJ p xs p.size.toNat))):=by
 refine Jk.cw (c:=_) Tryz.func103 rfl (n:=18) Tryz.ntmps103 (rs:=[.tmp 4]) rfl ?_
 simp only[Ja,Je,zA,zS,Jf,Jb,Jd]
 simp(maxSteps:=999999)(disch:=omega)only[go_sem,zA,zM,zS,zE,zL]
 intro g
 first|refine JU.rd (Qt p hx) (⟨_,Tryz.func38,rfl,rfl⟩:Jg Tryz.prog 38) rfl rfl rfl rfl ?_|refine JG.rd (Qt p hx) (⟨_,Tryz.func38,rfl,rfl⟩:Jg Tryz.prog 38) rfl rfl rfl rfl ?_
 simp(maxSteps:=999999)(disch:=omega)only[go_sem,zA,zM,zS,zE,zL]
 cases h1:JA p with
 |false=>
  simp(maxSteps:=999999)(disch:=omega)only[go_sem,zA,zM,zS,zE,zL]
  rfl
 |true=>
  simp(maxSteps:=999999)(disch:=omega)only[go_sem,zA,zM,zS,zE,zL]
  first|refine JU.rd (Zu xs p.size hl) (⟨_,Tryz.func39,rfl,rfl⟩:Jg Tryz.prog 39) rfl rfl rfl rfl ?_|refine JG.rd (Zu xs p.size hl) (⟨_,Tryz.func39,rfl,rfl⟩:Jg Tryz.prog 39) rfl rfl rfl rfl ?_
  simp(maxSteps:=999999)(disch:=omega)only[go_sem,zA,zM,zS,zE,zL]
  cases h2:Qc xs p.size with
  |false=>
   simp(maxSteps:=999999)(disch:=omega)only[go_sem,zA,zM,zS,zE,zL]
   rfl
  |true=>
   obtain⟨hp,hs⟩:=Uq.of h1
   have hg:=Zd.of hp.hn (by rw[hs];exact h2)
   simp(maxSteps:=999999)(disch:=omega)only[go_sem,zA,zM,zS,zE,zL]
   first|refine JU.rd (Yl hp xs hg) (⟨_,Tryz.func130,rfl,rfl⟩:Jg Tryz.prog 130) rfl rfl rfl rfl ?_|refine JG.rd (Yl hp xs hg) (⟨_,Tryz.func130,rfl,rfl⟩:Jg Tryz.prog 130) rfl rfl rfl rfl ?_
   simp(maxSteps:=999999)(disch:=omega)only[go_sem,zA,zM,zS,zE,zL]
theorem GK:∀(m:List Bool) (H:Jn) (j:Nat),(ZD m H)[j]? =if m.getD j false=true then(H[j]?).map (fun _=>none)else H[j]?
 |[],H,j=>by simp[ZD]
 |b::m,[],j=>by cases b<;>simp[ZD]
 |b::m,x::H,j=>by
  have ih:=GK m H
  cases b<;>cases j with
  |zero=>simp[ZD]
  |succ j=>simp only[ZD,Z2,List.getD_cons_succ,ih j]
theorem BM{m:List Bool}{H:Jn}{id g:Nat}(h:m.getD id false=false):look (ZD m H) id g=look H id g:=by
 unfold look
 rw[GK,h]
 simp
theorem Xr{m:List Bool}{H H':Jn}(h:∀j (b:Zo),m.getD j false=false→H[j]? =some (some b)→H'[j]? =some (some b)):ND m H H':=fun id b hb=>by
 rw[GK]at hb⊢
 by_cases hm:m.getD id false=true
 · rw[if_pos hm]at hb
   cases hh:H[id]? <;>simp[hh]at hb
 · rw[if_neg hm]at hb⊢
   exact h id b (by simpa using hm) hb
def Xe(o n:Nat)(N:Nat):List Bool:=(List.range N).map fun j=>decide (j=o∨n≤j)
theorem G5{o n N j:Nat}(h1:j≠o)(h2:j<n):(Xe o n N).getD j false=false:=by
 by_cases h:j<N
 · simp[Xe,List.getD,h,h1,h2]
 · have:(Xe o n N)[j]? =none:=Ju (by simp[Xe];omega)
   simp[List.getD,this]
theorem JaJ{o n N j:Nat}(h:(Xe o n N).getD j false=false)(hj:j<N):j≠o∧j<n:=by
 simp[Xe,List.getD,hj]at h
 omega
structure VM(H:Jn)(pid pg:Nat)(ls:List (List Int))(S:List Nat):Prop where
 ex:∃oid og cs,look H pid pg=some ⟨pg,1,[.own oid og 0 ls.length none]⟩∧look H oid og=some ⟨og,1,cs⟩∧oid∈S∧cs.length=ls.length∧∀i (h:i<ls.length),∃id g,cs[i]? =some (.own id g 0 ls[i].length none)∧look H id g=some ⟨g,1,cl (eI .i64) ls[i]⟩∧id∈S∧id≠oid
 pn:pid∉S
theorem VM.same{H H':Jn}{pid pg:Nat}{ls:List (List Int)}{S:List Nat}(h:VM H pid pg ls S)(hs:∀i,i=pid∨i∈S→H'[i]? =H[i]?):VM H' pid pg ls S:=by
 obtain⟨⟨oid,og,cs,h1,h2,h3,h4,h5⟩,hn⟩:=h
 refine⟨⟨oid,og,cs,by unfold look at*;rw[hs pid (.inl rfl)];exact h1,by unfold look at*;rw[hs oid (.inr h3)];exact h2,h3,h4,fun i hi=> ?_⟩,hn⟩
 obtain⟨id,g,k1,k2,k3,k4⟩:=h5 i hi
 exact⟨id,g,k1,by unfold look at*;rw[hs id (.inr k3)];exact k2,k3,k4⟩
end Go.Lg
