/- GpDE, GpDF, cut to what is needed. -/
import Derived.Test.YtpdaalgdkdpihaaXac7
import Derived.Test.YtpdaalgdkdpihaaXab5
import Derived.Test.YtpdaalgdkdpihaaXab6
open Nat renaming reduceAdd→zA,reduceMul→zM,reduceSub→zS,reduceEqDiff→zE,reduceLeDiff→zL
set_option linter.unusedSimpArgs false
set_option linter.unusedVariables false
set_option maxRecDepth 100000
namespace Go.Lg
open Go.Proofs
def MasksOk(ms:List Int)(n:Nat):Prop:=ms.length=n*n∧∀k:Nat,k<ms.length→0≤nth ms k∧nth ms k≤((2^(n+1) -2:Nat):Int)∧nth ms k%2=0
theorem and_seven{n:Nat}(hn:n=2∨n=3∨n=4):bitsI .and .i64 (n:Int) 7=n:=by
 rcases hn with rfl|rfl|rfl<;>rfl
theorem shl_n{n:Nat}(hn:n=2∨n=3∨n=4):binI .shl .i64 1 .i64 ((n:Int)+1)=some (.int .i64 (((2^(n+1):Nat)):Int)):=by
 rcases hn with rfl|rfl|rfl<;>rfl
theorem sMasksValid_run{n:Nat}(hn:n=2∨n=3∨n=4)(ms:List Int)(hm:MasksOk ms n):Reads Try.prog 118 [ints ms,int n] (bool true):=by
 obtain⟨hl,hv⟩:=hm
 have hsq:4≤n*n∧n*n≤16:=by rcases hn with rfl|rfl|rfl<;>omega
 have hpw:(2^(n+1):Nat)≤32∧8≤(2^(n+1):Nat):=by rcases hn with rfl|rfl|rfl<;>omega
 have hsi:(n:Int)*n=((n*n:Nat):Int):=by push_cast;rfl
 refine RunCall.cw (c:=_) Try.func118 rfl (n:=41) Try.ntmps118 (rs:=[.tmp 4]) rfl ?_
 simp only[List.length_cons,List.length_nil,zA,zS,List.replicate,List.cons_append,List.nil_append]
 simp(maxSteps:=999999)(disch:=omega)only[go_sem,zA,zM,zS,zE,zL]
 refine loop_rule (fun k:Nat=>ms.length -k) (fun k=>k≤ms.length) (fun k=>[.k, .k, .a, .a, .a, .p (int k), .a, .a, .a, .a, .a, .a, .a, .a, .a, .a, .a, .a, .a, .a, .a, .a, .a, .a, .a, .a, .a, .a, .a, .a, .a, .a, .a, .a, .a, .a, .a, .a, .a, .a, .a]) (fun _=>[]) 0 (Nat.zero_le _) (by simp(maxSteps:=999999)(disch:=omega)only[go_sem,zA,zM,zS,zE,zL];rfl) (hle_nil _) ?_
 intro k hk
 simp(maxSteps:=999999)(disch:=omega)only[go_sem,zA,zM,zS,zE,zL]
 ((first|(with_reducible first|refine condK_dec ?_ ?_|refine condK_ndec ?_ ?_|refine condK_nb ?_ ?_)|refine condK_b ?_ ?_)<;>intro h1)
 · have h1:k<ms.length:=by omega
   obtain⟨v0,v1,v2⟩:=hv k h1
   have v3:(nth ms k).tmod 2=0:=by rw[tmod_nn v0];exact v2
   simp(maxSteps:=999999)(disch:=omega)only[go_sem,zA,zM,zS,zE,zL]
   refine drawP_lM [0,1,2,3,4,5,6,7,8,9,10,11,12,13] [] none [14,15,16,17,18] [] [0,0,3,7,0,16,48,112,240,511,1023,2047,4095,4095,16383,32767,65535,131071,262143] foll (by kernel_rfl) ?_
   simp(maxSteps:=999999)(disch:=omega)only[go_sem,zA,zM,zS,zE,zL,and_seven hn,shl_n hn]
   first|refine OpS.rd (l1In_run _ _ _) (⟨_,Try.func63,rfl,rfl⟩:Enters Try.prog 63) rfl rfl rfl rfl ?_|refine Loud.rd (l1In_run _ _ _) (⟨_,Try.func63,rfl,rfl⟩:Enters Try.prog 63) rfl rfl rfl rfl ?_
   simp(maxSteps:=999999)(disch:=omega)only[go_sem,zA,zM,zS,zE,zL]
   ((with_reducible first|refine guardK_dec ?_ ?_|refine guardK_ndec ?_ ?_|refine guardK_nb ?_ ?_|refine guardK_split ?_ ?_|refine guardQ_dec ?_ ?_|refine guardL_dec ?_ ?_|refine guardQ_ndec ?_ ?_|refine guardL_ndec ?_ ?_|refine guardQ_nb ?_ ?_|refine guardL_nb ?_ ?_|refine guardQ_split ?_ ?_|refine guardL_split ?_ ?_)<;>intro h2<;>simp(maxSteps:=999999)(disch:=omega)only[go_sem,zA,zM,zS,zE,zL,h2])
   · simp(maxSteps:=999999)(disch:=omega)only[go_sem,zA,zM,zS,zE,zL,v3]
     exact⟨k+1,⟨by omega,by omega⟩,by push_cast;omega,hle_nil _⟩
   · exfalso;omega
 · simp(maxSteps:=999999)(disch:=omega)only[go_sem,zA,zM,zS,zE,zL]
   first|refine OpS.rd (l1In_run _ _ _) (⟨_,Try.func63,rfl,rfl⟩:Enters Try.prog 63) rfl rfl rfl rfl ?_|refine Loud.rd (l1In_run _ _ _) (⟨_,Try.func63,rfl,rfl⟩:Enters Try.prog 63) rfl rfl rfl rfl ?_
   simp(maxSteps:=999999)(disch:=omega)only[go_sem,zA,zM,zS,zE,zL]
   ((with_reducible first|refine guardK_dec ?_ ?_|refine guardK_ndec ?_ ?_|refine guardK_nb ?_ ?_|refine guardK_split ?_ ?_|refine guardQ_dec ?_ ?_|refine guardL_dec ?_ ?_|refine guardQ_ndec ?_ ?_|refine guardL_ndec ?_ ?_|refine guardQ_nb ?_ ?_|refine guardL_nb ?_ ?_|refine guardQ_split ?_ ?_|refine guardL_split ?_ ?_)<;>intro h2<;>simp(maxSteps:=999999)(disch:=omega)only[go_sem,zA,zM,zS,zE,zL,h2])
   · rw[hsi,hl]
   · exfalso;omega
theorem nats_zeros(k:Nat):nats (List.replicate k 0)=List.replicate k 0:=by simp[nats]
def ruleM(r:Rul)(ms:List Int):List Nat:=ways r (remM r ms 0) [] (List.replicate r.cells.length 0)
theorem sRuleMasks_own{n:Nat}(hn:n=2∨n=3∨n=4)(r:Rul)(ms:List Int)(hv:ruleValid r n=true)(hm:MasksOk ms n)(hr:RulM r ms):RunCall Try.prog 124 [aR r,ints ms,int n] [] (ownIQ (nats (ruleM r ms))):=by
 have hl4:=hr.len
 refine RunCall.cw (c:=_) Try.func124 rfl (n:=29) Try.ntmps124 (rs:=[.tmp 6]) rfl ?_
 simp only[List.length_cons,List.length_nil,zA,zS,List.replicate,List.cons_append,List.nil_append]
 simp(maxSteps:=999999)(disch:=omega)only[go_sem,zA,zM,zS,zE,zL]
 intro g1
 first|refine OpS.rd (sRuleValid_run r n (by omega)) (⟨_,Try.func67,rfl,rfl⟩:Enters Try.prog 67) rfl rfl rfl rfl ?_|refine Loud.rd (sRuleValid_run r n (by omega)) (⟨_,Try.func67,rfl,rfl⟩:Enters Try.prog 67) rfl rfl rfl rfl ?_
 simp(maxSteps:=999999)(disch:=omega)only[go_sem,zA,zM,zS,zE,zL]
 ((with_reducible first|refine guardK_dec ?_ ?_|refine guardK_ndec ?_ ?_|refine guardK_nb ?_ ?_|refine guardK_split ?_ ?_|refine guardQ_dec ?_ ?_|refine guardL_dec ?_ ?_|refine guardQ_ndec ?_ ?_|refine guardL_ndec ?_ ?_|refine guardQ_nb ?_ ?_|refine guardL_nb ?_ ?_|refine guardQ_split ?_ ?_|refine guardL_split ?_ ?_)<;>intro h1<;>simp(maxSteps:=999999)(disch:=omega)only[go_sem,zA,zM,zS,zE,zL,h1])
 rotate_left
 · exfalso;rw[hv]at h1;cases h1
 first|refine OpS.rd (sMasksValid_run hn ms hm) (⟨_,Try.func118,rfl,rfl⟩:Enters Try.prog 118) rfl rfl rfl rfl ?_|refine Loud.rd (sMasksValid_run hn ms hm) (⟨_,Try.func118,rfl,rfl⟩:Enters Try.prog 118) rfl rfl rfl rfl ?_
 simp(maxSteps:=999999)(disch:=omega)only[go_sem,zA,zM,zS,zE,zL]
 intro g2 g3
 have hrun:=l4Ways_run r ms hr r.cells.length [some ⟨g1,1,cR r⟩,some ⟨g2,1,cl (eI .i64) (List.replicate r.cells.length 0)⟩,some ⟨g3,1,[]⟩] 2 g3 [] 1 g2 (List.replicate r.cells.length 0) (by simp) (by simp only[go_sem];rfl) (by simp) (by omega)
  (by rw[nats_zeros];simp only[go_sem]) (by simp) (fun x hx=>by rw[List.eq_of_mem_replicate hx];omega)
 rw[List.length_replicate]at hrun
 refine OpS.run hrun (⟨_,Try.func126,rfl,rfl⟩:Enters Try.prog 126) rfl rfl ?_
 rintro _ H2 ⟨rfl,l2,len2,f2⟩
 simp(maxSteps:=999999)(disch:=omega)only[go_sem,zA,zM,zS,zE,zL]
 have hlen:(nats (ruleM r ms)).length=r.cells.length:=by
  rw[nats_length,ruleM,ways_len _ _ _ _ (by simp[remM])]
  simp
 have hown:OwnI H2 (.own 1 g2 0 r.cells.length none) (nats (ruleM r ms)) [1]:=by
  have:=OwnI.o (H:=H2) 1 g2 none (nats (ruleM r ms)) [] (by rw[List.append_nil];exact l2)
  rwa [hlen]at this
 exact⟨keepH [1] H2,keepH_le _ _,_,[1],rfl,hown.same fun i hi=>keepH_get hi (hown.lt i hi),scalH_keep hown.blk⟩
theorem ruleValid_facts{r:Rul}{n:Nat}(hv:ruleValid r n=true):(1≤r.cells.length∧r.cells.length≤4)∧(r.kind=1∨r.kind=2∨r.kind=3∨r.cells.length=2)∧(∀c∈r.cells,0≤c∧c<(n*n:Nat))∧r.cells.Nodup:=by
 simp only[ruleValid,decide_eq_true_eq]at hv
 obtain⟨h1,h2,h3⟩:=hv
 refine⟨?_, ?_,fun c hc=> ?_, ?_⟩
 · rcases h3 with h|h|h|h<;>omega
 · rcases h3 with h|h|h|h<;>omega
 · obtain⟨j,hj,rfl⟩:=List.mem_iff_getElem.1 hc
   have:=(h2 j hj).1
   rw[nth_eq (by omega)]at this
   simp only[Int.toNat_natCast]at this
   push_cast
   exact this
 · rw[List.nodup_iff_pairwise_ne,List.pairwise_iff_getElem]
   intro i j hi hj hij
   have:=(h2 j hj).2 i hij
   rw[nth_eq (by omega),nth_eq (by omega)]at this
   simp only[Int.toNat_natCast]at this
   exact this
def maskZ(n:Nat)(v:Int):Int:=if v=0 then((2^(n+1) -2:Nat):Int)else((2^v.toNat:Nat):Int)
def gridM(xs:List Int)(n:Nat):List Int:=xs.map (maskZ n)
theorem gridM_nth{xs:List Int}{n k:Nat}(h:k<xs.length):nth (gridM xs n) k=maskZ n (nth xs k):=by
 rw[nth_eq (by simp[gridM];omega),nth_eq (by omega)]
 simp[gridM]
theorem maskZ_ok{n:Nat}(hn:n=2∨n=3∨n=4){v:Int}(h:0≤v∧v≤n):0≤maskZ n v∧maskZ n v≤((2^(n+1) -2:Nat):Int)∧maskZ n v%2=0:=by
 unfold maskZ
 obtain⟨k,rfl⟩:∃k:Nat,v=k:=⟨v.toNat,by omega⟩
 have:k=0∨k=1∨k=2∨k=3∨k=4:=by omega
 rcases hn with rfl|rfl|rfl<;>rcases this with rfl|rfl|rfl|rfl|rfl<;>first|omega|decide
theorem gridM_ok{xs:List Int}{n:Nat}(hn:n=2∨n=3∨n=4)(hl:xs.length=n*n)(hv:∀k:Nat,k<xs.length→0≤nth xs k∧nth xs k≤n):MasksOk (gridM xs n) n:=by
 refine⟨by simp[gridM,hl],fun k hk=> ?_⟩
 have hk':k<xs.length:=by simpa[gridM]using hk
 rw[gridM_nth hk']
 exact maskZ_ok hn (hv k hk')
theorem gridM_rul{xs:List Int}{n:Nat}{r:Rul}(hn:n=2∨n=3∨n=4)(hl:xs.length=n*n)(hv:∀k:Nat,k<xs.length→0≤nth xs k∧nth xs k≤n)(hr:ruleValid r n=true):RulM r (gridM xs n):=by
 have hok:=gridM_ok hn hl hv
 obtain⟨h1,h2,h3,_⟩:=ruleValid_facts hr
 have hsq:n*n≤16:=by rcases hn with rfl|rfl|rfl<;>omega
 have hpw:(2^(n+1):Nat)≤32:=by rcases hn with rfl|rfl|rfl<;>omega
 refine⟨h1.2,h2,fun c hc=> ?_,by rw[hok.1];omega⟩
 have hcc:=h3 c hc
 obtain⟨k,rfl⟩:∃k:Nat,c=k:=⟨c.toNat,by omega⟩
 have hk:k<(gridM xs n).length:=by rw[hok.1];omega
 have:=hok.2 k hk
 exact⟨by omega,by omega,this.1,by omega,this.2.2⟩
theorem canHold_gridM{xs:List Int}{n:Nat}{r:Rul}(hl:xs.length=n*n)(hv:∀k:Nat,k<xs.length→0≤nth xs k∧nth xs k≤n)(hr:ruleValid r n=true):canHold r xs n=((ruleM r (gridM xs n)).getD 0 0 !=0):=by
 obtain⟨h1,h2,h3,_⟩:=ruleValid_facts hr
 have e:r.cells.map (maskAt xs n)=remM r (gridM xs n) 0:=by
  unfold remM
  rw[List.drop_zero]
  refine List.map_congr_left fun c hc=> ?_
  have hcc:=h3 c hc
  obtain⟨k,rfl⟩:∃k:Nat,c=k:=⟨c.toNat,by omega⟩
  have hk:k<xs.length:=by rw[hl];omega
  have:=hv k hk
  rw[gridM_nth hk]
  unfold maskAt maskZ
  by_cases h0:nth xs k=0
  · rw[if_neg (by omega),if_pos h0];rfl
  · rw[if_pos (by omega),if_neg h0];rfl
 unfold canHold ruleM
 rw[e]
theorem sRulePossible_run{n:Nat}(hn:n=2∨n=3∨n=4)(r:Rul)(xs:List Int)(hr:ruleValid r n=true)(hg:gridValid xs n=true):Reads Try.prog 116 [aR r,ints xs,int n] (bool (canHold r xs n)):=by
 obtain⟨h1,h2,h3,_⟩:=ruleValid_facts hr
 have hb:=gridValid_bound hg
 have hxl:xs.length=n*n:=by have:=hb.2.2.1;rcases hn with rfl|rfl|rfl<;>omega
 have hxv:∀k:Nat,k<xs.length→0≤nth xs k∧nth xs k≤n:=hb.2.2.2.2
 refine RunCall.cw (c:=_) Try.func116 rfl (n:=52) Try.ntmps116 (rs:=[.tmp 6]) rfl ?_
 simp only[List.length_cons,List.length_nil,zA,zS,List.replicate,List.cons_append,List.nil_append]
 simp(maxSteps:=999999)(disch:=omega)only[go_sem,zA,zM,zS,zE,zL]
 intro g1
 first|refine OpS.rd (sRuleValid_run r n (by omega)) (⟨_,Try.func67,rfl,rfl⟩:Enters Try.prog 67) rfl rfl rfl rfl ?_|refine Loud.rd (sRuleValid_run r n (by omega)) (⟨_,Try.func67,rfl,rfl⟩:Enters Try.prog 67) rfl rfl rfl rfl ?_
 simp(maxSteps:=999999)(disch:=omega)only[go_sem,zA,zM,zS,zE,zL]
 ((with_reducible first|refine guardK_dec ?_ ?_|refine guardK_ndec ?_ ?_|refine guardK_nb ?_ ?_|refine guardK_split ?_ ?_|refine guardQ_dec ?_ ?_|refine guardL_dec ?_ ?_|refine guardQ_ndec ?_ ?_|refine guardL_ndec ?_ ?_|refine guardQ_nb ?_ ?_|refine guardL_nb ?_ ?_|refine guardQ_split ?_ ?_|refine guardL_split ?_ ?_)<;>intro c1<;>simp(maxSteps:=999999)(disch:=omega)only[go_sem,zA,zM,zS,zE,zL,c1])
 rotate_left
 · exfalso;rw[hr]at c1;cases c1
 first|refine OpS.rd (sGridValid_run xs n (by omega)) (⟨_,Try.func68,rfl,rfl⟩:Enters Try.prog 68) rfl rfl rfl rfl ?_|refine Loud.rd (sGridValid_run xs n (by omega)) (⟨_,Try.func68,rfl,rfl⟩:Enters Try.prog 68) rfl rfl rfl rfl ?_
 simp(maxSteps:=999999)(disch:=omega)only[go_sem,zA,zM,zS,zE,zL]
 ((first|(with_reducible first|refine condK_dec ?_ ?_|refine condK_ndec ?_ ?_|refine condK_nb ?_ ?_)|refine condK_b ?_ ?_)<;>intro c2)
 rotate_left
 · exfalso;rw[hg]at c2;cases c2
 simp(maxSteps:=999999)(disch:=omega)only[go_sem,zA,zM,zS,zE,zL]
 intro g2
 have hlM:(gridM xs n).length=xs.length:=by simp[gridM]
 have hsq:n*n≤16:=by rcases hn with rfl|rfl|rfl<;>omega
 have hpw:(2^(n+1):Nat)≤32∧8≤(2^(n+1):Nat):=by rcases hn with rfl|rfl|rfl<;>omega
 refine loop_rule2 (fun(k g:Nat)=>xs.length -k) (fun k g=>k≤xs.length) (fun k g=>[.a, .k, .k, .k, .a, .a, .a, .p (.c (.own 1 g 0 k none)), .p (int k), .a, .a, .a, .a, .a, .a, .a, .a, .a, .a, .a, .a, .a, .a, .a, .a, .a, .a, .a, .a, .a, .a, .a, .a, .a, .a, .a, .a, .a, .a, .a, .a, .a, .a, .a, .a, .a, .a, .a, .a, .a, .a, .a]) (fun k g=>[some ⟨g1,1,cR r⟩,some ⟨g,1,cl (eI .i64) ((gridM xs n).take k)⟩]) 0 g2 (Nat.zero_le _) (by simp(maxSteps:=999999)(disch:=omega)only[go_sem,zA,zM,zS,zE,zL];rfl) (HLe.refl _) ?_
 intro k g hk
 simp(maxSteps:=999999)(disch:=omega)only[go_sem,zA,zM,zS,zE,zL]
 ((first|(with_reducible first|refine condK_dec ?_ ?_|refine condK_ndec ?_ ?_|refine condK_nb ?_ ?_)|refine condK_b ?_ ?_)<;>intro c3)
 · have c3:k<xs.length:=by omega
   have hv:=hxv k c3
   have hM:(gridM xs n).take (k+1)=(gridM xs n).take k++[maskZ n (nth xs k)]:=by rw[take_succ_nth (by omega),gridM_nth c3]
   have htl:((gridM xs n).take k).length=k:=by rw[List.length_take,hlM];omega
   simp(maxSteps:=999999)(disch:=omega)only[go_sem,zA,zM,zS,zE,zL,shl_small (v:=nth xs k) (by omega)]
   ((first|(with_reducible first|refine condK_dec ?_ ?_|refine condK_ndec ?_ ?_|refine condK_nb ?_ ?_)|refine condK_b ?_ ?_)<;>intro c4)
   · have hz:maskZ n (nth xs k)=((2^(n+1):Nat):Int) -2:=by unfold maskZ;rw[if_pos c4];omega
     simp(maxSteps:=999999)(disch:=omega)only[go_sem,zA,zM,zS,zE,zL,shl_n hn]
     intro g3 g4
     refine⟨k+1,g4,⟨by omega,by omega⟩,⟨⟨rfl,rfl⟩,by push_cast;omega⟩, ?_⟩
     rw[hM,hz]
     exact HLe.app [_,_] [_]
   · have hz:maskZ n (nth xs k)=((2^(nth xs k).toNat:Nat):Int):=by unfold maskZ;rw[if_neg c4]
     simp(maxSteps:=999999)(disch:=omega)only[go_sem,zA,zM,zS,zE,zL]
     intro g3 g4
     refine⟨k+1,g4,⟨by omega,by omega⟩,⟨⟨rfl,rfl⟩,by push_cast;omega⟩, ?_⟩
     rw[hM,hz]
     exact HLe.app [_,_] [_]
 · have hke:k=xs.length:=by omega
   have hMe:(gridM xs n).take k=gridM xs n:=List.take_of_length_le (by omega)
   simp(maxSteps:=999999)(disch:=omega)only[go_sem,zA,zM,zS,zE,zL]
   rw[hMe]
   have hown:OwnI [some ⟨g1,1,cR r⟩,some ⟨g,1,cl (eI .i64) (gridM xs n)⟩] (.own 1 g 0 k none) (gridM xs n) [1]:=by
    have:=OwnI.o (H:=[some ⟨g1,1,cR r⟩,some ⟨g,1,cl (eI .i64) (gridM xs n)⟩]) 1 g none (gridM xs n) [] (by rw[List.append_nil];simp only[go_sem])
    rwa [hlM,←hke]at this
   refine OpS.mkDI (sRuleMasks_own hn r (gridM xs n) hr (gridM_ok hn hxl hxv) (gridM_rul hn hxl hxv hr)) (⟨_,Try.func124,rfl,rfl⟩:Enters Try.prog 124) rfl rfl (snap_three rfl hown.snap snapD_int) ?_
   intro c H2 S2 o2 hS2
   have hln:0<(nats (ruleM r (gridM xs n))).length:=by
    rw[nats_length,ruleM,ways_len _ _ _ _ (by simp[remM])]
    simp
    omega
   obtain⟨id,g',lim,ys,rfl,rfl,hlk⟩:=o2.inv' hln
   rw[canHold_gridM hxl hxv hr]
   have hld:ldP (some ⟨g',1,cl (eI .i64) (nats (ruleM r (gridM xs n))++ys)⟩) 0=some (int (((ruleM r (gridM xs n)).getD 0 0:Nat):Int)):=by
    rw[nats_length]at hln
    obtain⟨a,t,he⟩:=List.exists_cons_of_length_pos hln
    rw[he]
    rfl
   have hlk':look (some ⟨g1,1,cR r⟩::some ⟨g,1,cl (eI .i64) (gridM xs n)⟩::H2) id g'=some ⟨g',1,cl (eI .i64) (nats (ruleM r (gridM xs n))++ys)⟩:=hlk
   have hl0:0<(nats (ruleM r (gridM xs n))++ys).length:=by simp;omega
   simp(maxSteps:=999999)(disch:=omega)only[go_sem,zA,zM,zS,zE,zL,hlk',Int.reduceToNat,hld]
   generalize(ruleM r (gridM xs n)).getD 0 0=x
   by_cases hx:x=0
   · subst hx;rfl
   · rw[decide_eq_false (by omega)]
     simp[hx]
end Go.Lg

namespace Go.Lg
open Go.Proofs
structure PuzN(p:Puz)(n:Nat):Prop where
 hn:n=2∨n=3∨n=4
 size:p.size=n
 len:p.given.length=n*n
 rl:p.rules.length≤40
 rv:∀r∈p.rules,ruleValid r n=true
theorem PuzN.of{p:Puz}(h:puzzleValid p=true):PuzN p p.size.toNat∧((p.size.toNat:Nat):Int)=p.size:=by
 simp only[puzzleValid,Bool.and_eq_true,decide_eq_true_eq,List.all_eq_true]at h
 obtain⟨h1,h2,h3⟩:=h
 have hb:=gridValid_bound h1
 have hs:((p.size.toNat:Nat):Int)=p.size:=by omega
 have hn:p.size.toNat=2∨p.size.toNat=3∨p.size.toNat=4:=by omega
 refine⟨⟨hn,hs.symm, ?_,by omega,fun r hr=>by rw[hs];exact h3 r hr⟩,hs⟩
 have:=hb.2.2.1
 rw[←hs]at this
 exact_mod_cast this
structure GrdN(xs:List Int)(n:Nat):Prop where
 len:xs.length=n*n
 val:∀k:Nat,k<xs.length→0≤nth xs k∧nth xs k≤n
theorem GrdN.valid{xs:List Int}{n:Nat}(hn:n=2∨n=3∨n=4)(h:GrdN xs n):gridValid xs n=true:=by
 simp only[gridValid,decide_eq_true_eq]
 refine⟨by omega,by omega,by rw[h.len];push_cast;rfl,h.val⟩
theorem GrdN.of{xs:List Int}{n:Nat}(hn:n=2∨n=3∨n=4)(h:gridValid xs n=true):GrdN xs n:=by
 have hb:=gridValid_bound h
 exact⟨by have:=hb.2.2.1;rcases hn with rfl|rfl|rfl<;>omega,hb.2.2.2.2⟩
theorem l5Fits_run{p:Puz}{n:Nat}(hp:PuzN p n)(xs:List Int)(hg:GrdN xs n):Reads Try.prog 109 [aP p,ints xs] (bool (fitsL p xs n)):=by
 have hn:=hp.hn
 have hz:=hp.size
 have hgl:=hp.len
 have hxl:=hg.len
 have hrl:=hp.rl
 have hsq:n*n≤16:=by rcases hn with rfl|rfl|rfl<;>omega
 have hgv:=hg.valid hn
 refine RunCall.cw (c:=_) Try.func109 rfl (n:=60) Try.ntmps109 (rs:=[.tmp 4]) rfl ?_
 simp only[List.length_cons,List.length_nil,zA,zS,List.replicate,List.cons_append,List.nil_append]
 simp(maxSteps:=999999)(disch:=omega)only[go_sem,zA,zM,zS,zE,zL]
 intro g
 refine loop_rule (fun k:Nat=>xs.length -k) (fun k=>k≤xs.length∧∀j:Nat,j<k→¬(0<nth p.given j∧0<nth xs j∧nth xs j≠nth p.given j)) (fun k=>[.a, .k, .k, .a, .a, .p (int k), .a, .a, .a, .a, .a, .a, .a, .a, .a, .a, .a, .a, .a, .a, .a, .a, .a, .a, .a, .a, .a, .a, .a, .a, .a, .a, .a, .a, .a, .a, .a, .a, .a, .a, .a, .a, .a, .a, .a, .a, .a, .a, .a, .a, .a, .a, .a, .a, .a, .a, .a, .a, .a, .a]) (fun _=>[some ⟨g,1,cP p⟩]) 0 ⟨Nat.zero_le _,fun j hj=>absurd hj (Nat.not_lt_zero _)⟩ (by simp(maxSteps:=999999)(disch:=omega)only[go_sem,zA,zM,zS,zE,zL];rfl) (HLe.refl _) ?_
 rintro k ⟨hk,hno⟩
 simp(maxSteps:=999999)(disch:=omega)only[go_sem,zA,zM,zS,zE,zL]
 ((first|(with_reducible first|refine condK_dec ?_ ?_|refine condK_ndec ?_ ?_|refine condK_nb ?_ ?_)|refine condK_b ?_ ?_)<;>intro h1)
 · have h1:k<xs.length:=by omega
   have hbad:(0<nth p.given k∧0<nth xs k∧nth xs k≠nth p.given k)→false=fitsL p xs n:=fun hb=>by
    have:clear p xs=false:=by
     simp only[clear,decide_eq_false_iff_not]
     exact fun h=>h k h1 hb
    simp[fitsL,this]
   simp(maxSteps:=999999)(disch:=omega)only[go_sem,zA,zM,zS,zE,zL]
   have hgo:¬(0<nth p.given k∧0<nth xs k∧nth xs k≠nth p.given k)→∀j:Nat,j<k+1→¬(0<nth p.given j∧0<nth xs j∧nth xs j≠nth p.given j):=fun h j hj=>by
    by_cases hjk:j=k
    · rw[hjk];exact h
    · exact hno j (by omega)
   by_cases a:0<nth p.given k
   · by_cases b:0<nth xs k
     · by_cases c:nth xs k=nth p.given k
       · refine drawP_q foll (by kernel_rfl) ?_
         simp(maxSteps:=999999)(disch:=omega)only[go_sem,zA,zM,zS,zE,zL,lt_yes,lt_no,eq_yes,eq_no]
         exact⟨k+1,⟨⟨by omega,hgo fun h=>h.2.2 c⟩,by omega⟩,by push_cast;omega,HLe.refl _⟩
       · refine drawP_q foll (by kernel_rfl) ?_
         simp(maxSteps:=999999)(disch:=omega)only[go_sem,zA,zM,zS,zE,zL,lt_yes,lt_no,eq_yes,eq_no]
         exact hbad ⟨a,b,c⟩
     · refine drawP_q foll (by kernel_rfl) ?_
       simp(maxSteps:=999999)(disch:=omega)only[go_sem,zA,zM,zS,zE,zL,lt_yes,lt_no,eq_yes,eq_no]
       exact⟨k+1,⟨⟨by omega,hgo fun h=>b h.2.1⟩,by omega⟩,by push_cast;omega,HLe.refl _⟩
   · refine drawP_q foll (by kernel_rfl) ?_
     simp(maxSteps:=999999)(disch:=omega)only[go_sem,zA,zM,zS,zE,zL,lt_yes,lt_no,eq_yes,eq_no]
     exact⟨k+1,⟨⟨by omega,hgo fun h=>a h.1⟩,by omega⟩,by push_cast;omega,HLe.refl _⟩
 · have hcl:clear p xs=true:=by
    simp only[clear,decide_eq_true_eq]
    exact fun j hj=>hno j (by omega)
   simp(maxSteps:=999999)(disch:=omega)only[go_sem,zA,zM,zS,zE,zL]
   refine loop_rule (fun k:Nat=>p.rules.length -k) (fun k=>k≤p.rules.length∧∀j:Nat,j<k→canHold (nth p.rules j) xs n=true) (fun k=>[.a, .k, .k, .a, .a, .a, .p (int k), .a, .a, .a, .a, .a, .a, .a, .a, .a, .a, .a, .a, .a, .a, .a, .a, .a, .a, .a, .a, .a, .a, .a, .a, .a, .a, .a, .a, .a, .a, .a, .a, .a, .a, .a, .a, .a, .a, .a, .a, .a, .a, .a, .a, .a, .a, .a, .a, .a, .a, .a, .a, .a]) (fun _=>[some ⟨g,1,cP p⟩]) 0 ⟨Nat.zero_le _,fun j hj=>absurd hj (Nat.not_lt_zero _)⟩ (by simp(maxSteps:=999999)(disch:=omega)only[go_sem,zA,zM,zS,zE,zL];rfl) (HLe.refl _) ?_
   rintro i ⟨hi,hyes⟩
   simp(maxSteps:=999999)(disch:=omega)only[go_sem,zA,zM,zS,zE,zL]
   ((first|(with_reducible first|refine condK_dec ?_ ?_|refine condK_ndec ?_ ?_|refine condK_nb ?_ ?_)|refine condK_b ?_ ?_)<;>intro h2)
   · have h2:i<p.rules.length:=by omega
     have hmem:nth p.rules i∈p.rules:=nth_mem h2
     simp(maxSteps:=999999)(disch:=omega)only[go_sem,zA,zM,zS,zE,zL]
     refine drawP_lM [0,1,2,3,4,5,6,7] [] none [8,9] [] [0,1,0,7,15,0,0,64,255,511] foll (by kernel_rfl) ?_
     simp(maxSteps:=999999)(disch:=omega)only[go_sem,Nat.reduceBEq,Bool.true_or,zA,zM,zS,zE,zL]
     have hrp:=sRulePossible_run hn (nth p.rules i) xs (hp.rv _ hmem) hgv
     rw[←hz]at hrp
     first|refine OpS.rd (hrp) (⟨_,Try.func116,rfl,rfl⟩:Enters Try.prog 116) rfl rfl rfl rfl ?_|refine Loud.rd (hrp) (⟨_,Try.func116,rfl,rfl⟩:Enters Try.prog 116) rfl rfl rfl rfl ?_
     simp(maxSteps:=999999)(disch:=omega)only[go_sem,zA,zM,zS,zE,zL]
     ((first|(with_reducible first|refine condK_dec ?_ ?_|refine condK_ndec ?_ ?_|refine condK_nb ?_ ?_)|refine condK_b ?_ ?_)<;>intro h3)
     · simp(maxSteps:=999999)(disch:=omega)only[go_sem,zA,zM,zS,zE,zL]
       refine⟨i+1,⟨⟨by omega,fun j hj=> ?_⟩,by omega⟩,by push_cast;omega,HLe.refl _⟩
       by_cases hji:j=i
       · rw[hji];exact h3
       · exact hyes j (by omega)
     · simp(maxSteps:=999999)(disch:=omega)only[go_sem,zA,zM,zS,zE,zL]
       have:p.rules.all (fun r=>canHold r xs n)=false:=by
        rw[List.all_eq_false]
        exact⟨_,hmem,by rw[h3];simp⟩
       simp[fitsL,this]
   · have hall:p.rules.all (fun r=>canHold r xs n)=true:=by
      rw[List.all_eq_true]
      intro r hr
      obtain⟨j,hj,rfl⟩:=List.mem_iff_getElem.1 hr
      have:=hyes j (by omega)
      rwa [nth_eq (by omega)]at this
     simp(maxSteps:=999999)(disch:=omega)only[go_sem,zA,zM,zS,zE,zL]
     have hcr:=l2Clash_run hn xs hxl (fun k hk=>by have:=hg.val k hk;omega)
     rw[←hz]at hcr
     first|refine OpS.rd (hcr) (⟨_,Try.func115,rfl,rfl⟩:Enters Try.prog 115) rfl rfl rfl rfl ?_|refine Loud.rd (hcr) (⟨_,Try.func115,rfl,rfl⟩:Enters Try.prog 115) rfl rfl rfl rfl ?_
     simp(maxSteps:=999999)(disch:=omega)only[go_sem,zA,zM,zS,zE,zL]
     simp[fitsL,hcl,hall]
end Go.Lg
