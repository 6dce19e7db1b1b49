/- GpDE, GpEA, cut to what is needed. -/
import Derived.Test.YtiahmfdabpafoaaDoorGab9
import Derived.Test.YtiahmfdabpafoaaDoorGac0
open Nat renaming reduceAdd→zA,reduceMul→zM,reduceSub→zS,reduceEqDiff→zE,reduceLeDiff→zL
set_option linter.unusedSimpArgs false
set_option linter.unusedVariables false
set_option maxRecDepth 100000
namespace Go.Lg
open Go.Proofs
def MasksOk(ms:List Int)(n:Nat):Prop:=ms.length=n*n∧∀k:Nat,k<ms.length→0≤nth ms k∧nth ms k≤((2^(n+1) -2:Nat):Int)∧nth ms k%2=0
theorem and_seven{n:Nat}(hn:n=2∨n=3∨n=4):bitsI .and .i64 (n:Int) 7=n:=by
 rcases hn with rfl|rfl|rfl<;>rfl
theorem shl_n{n:Nat}(hn:n=2∨n=3∨n=4):binI .shl .i64 1 .i64 ((n:Int)+1)=some (.int .i64 (((2^(n+1):Nat)):Int)):=by
 rcases hn with rfl|rfl|rfl<;>rfl
theorem sMasksValid_run{n:Nat}(hn:n=2∨n=3∨n=4)(ms:List Int)(hm:MasksOk ms n):Reads Tryd.prog 144 [ints ms,int n] (bool true):=by
 obtain⟨hl,hv⟩:=hm
 have hsq:4≤n*n∧n*n≤16:=by rcases hn with rfl|rfl|rfl<;>omega
 have hpw:(2^(n+1):Nat)≤32∧8≤(2^(n+1):Nat):=by rcases hn with rfl|rfl|rfl<;>omega
 have hsi:(n:Int)*n=((n*n:Nat):Int):=by push_cast;rfl
 refine RunCall.cw (c:=_) Tryd.func144 rfl (n:=41) Tryd.ntmps144 (rs:=[.tmp 4]) rfl ?_
 simp only[List.length_cons,List.length_nil,zA,zS,List.replicate,List.cons_append,List.nil_append]
 simp(maxSteps:=999999)(disch:=omega)only[go_sem,zA,zM,zS,zE,zL]
 refine loop_rule (fun k:Nat=>ms.length -k) (fun k=>k≤ms.length) (fun k=>[.k, .k, .a, .a, .a, .p (int k), .a, .a, .a, .a, .a, .a, .a, .a, .a, .a, .a, .a, .a, .a, .a, .a, .a, .a, .a, .a, .a, .a, .a, .a, .a, .a, .a, .a, .a, .a, .a, .a, .a, .a, .a]) (fun _=>[]) 0 (Nat.zero_le _) (by simp(maxSteps:=999999)(disch:=omega)only[go_sem,zA,zM,zS,zE,zL];rfl) (hle_nil _) ?_
 intro k hk
 simp(maxSteps:=999999)(disch:=omega)only[go_sem,zA,zM,zS,zE,zL]
 ((first|(with_reducible first|refine condK_dec ?_ ?_|refine condK_ndec ?_ ?_|refine condK_nb ?_ ?_)|refine condK_b ?_ ?_)<;>intro h1)
 · have h1:k<ms.length:=by omega
   obtain⟨v0,v1,v2⟩:=hv k h1
   have v3:(nth ms k).tmod 2=0:=by rw[tmod_nn v0];exact v2
   simp(maxSteps:=999999)(disch:=omega)only[go_sem,zA,zM,zS,zE,zL]
   refine drawP_lM [0,1,2,3,4,5,6,7,8,9,10,11,12,13] [] none [14,15,16,17,18] [] [0,0,3,7,0,16,48,112,240,511,1023,2047,4095,4095,16383,32767,65535,131071,262143] foll (by kernel_rfl) ?_
   simp(maxSteps:=999999)(disch:=omega)only[go_sem,zA,zM,zS,zE,zL,and_seven hn,shl_n hn]
   first|refine OpS.rd (l1In_run _ _ _) (⟨_,Tryd.func72,rfl,rfl⟩:Enters Tryd.prog 72) rfl rfl rfl rfl ?_|refine Loud.rd (l1In_run _ _ _) (⟨_,Tryd.func72,rfl,rfl⟩:Enters Tryd.prog 72) rfl rfl rfl rfl ?_
   simp(maxSteps:=999999)(disch:=omega)only[go_sem,zA,zM,zS,zE,zL]
   ((with_reducible first|refine guardK_dec ?_ ?_|refine guardK_ndec ?_ ?_|refine guardK_nb ?_ ?_|refine guardK_split ?_ ?_|refine guardQ_dec ?_ ?_|refine guardL_dec ?_ ?_|refine guardQ_ndec ?_ ?_|refine guardL_ndec ?_ ?_|refine guardQ_nb ?_ ?_|refine guardL_nb ?_ ?_|refine guardQ_split ?_ ?_|refine guardL_split ?_ ?_)<;>intro h2<;>simp(maxSteps:=999999)(disch:=omega)only[go_sem,zA,zM,zS,zE,zL,h2])
   · simp(maxSteps:=999999)(disch:=omega)only[go_sem,zA,zM,zS,zE,zL,v3]
     exact⟨k+1,⟨by omega,by omega⟩,by push_cast;omega,hle_nil _⟩
   · exfalso;omega
 · simp(maxSteps:=999999)(disch:=omega)only[go_sem,zA,zM,zS,zE,zL]
   first|refine OpS.rd (l1In_run _ _ _) (⟨_,Tryd.func72,rfl,rfl⟩:Enters Tryd.prog 72) rfl rfl rfl rfl ?_|refine Loud.rd (l1In_run _ _ _) (⟨_,Tryd.func72,rfl,rfl⟩:Enters Tryd.prog 72) rfl rfl rfl rfl ?_
   simp(maxSteps:=999999)(disch:=omega)only[go_sem,zA,zM,zS,zE,zL]
   ((with_reducible first|refine guardK_dec ?_ ?_|refine guardK_ndec ?_ ?_|refine guardK_nb ?_ ?_|refine guardK_split ?_ ?_|refine guardQ_dec ?_ ?_|refine guardL_dec ?_ ?_|refine guardQ_ndec ?_ ?_|refine guardL_ndec ?_ ?_|refine guardQ_nb ?_ ?_|refine guardL_nb ?_ ?_|refine guardQ_split ?_ ?_|refine guardL_split ?_ ?_)<;>intro h2<;>simp(maxSteps:=999999)(disch:=omega)only[go_sem,zA,zM,zS,zE,zL,h2])
   · rw[hsi,hl]
   · exfalso;omega
theorem nats_zeros(k:Nat):nats (List.replicate k 0)=List.replicate k 0:=by simp[nats]
def ruleM(r:Rul)(ms:List Int):List Nat:=ways r (remM r ms 0) [] (List.replicate r.cells.length 0)
theorem sRuleMasks_own{n:Nat}(hn:n=2∨n=3∨n=4)(r:Rul)(ms:List Int)(hv:ruleValid r n=true)(hm:MasksOk ms n)(hr:RulM r ms):RunCall Tryd.prog 143 [aR r,ints ms,int n] [] (ownIQ (nats (ruleM r ms))):=by
 have hl4:=hr.len
 refine RunCall.cw (c:=_) Tryd.func143 rfl (n:=29) Tryd.ntmps143 (rs:=[.tmp 6]) rfl ?_
 simp only[List.length_cons,List.length_nil,zA,zS,List.replicate,List.cons_append,List.nil_append]
 simp(maxSteps:=999999)(disch:=omega)only[go_sem,zA,zM,zS,zE,zL]
 intro g1
 first|refine OpS.rd (sRuleValid_run r n (by omega)) (⟨_,Tryd.func48,rfl,rfl⟩:Enters Tryd.prog 48) rfl rfl rfl rfl ?_|refine Loud.rd (sRuleValid_run r n (by omega)) (⟨_,Tryd.func48,rfl,rfl⟩:Enters Tryd.prog 48) rfl rfl rfl rfl ?_
 simp(maxSteps:=999999)(disch:=omega)only[go_sem,zA,zM,zS,zE,zL]
 ((with_reducible first|refine guardK_dec ?_ ?_|refine guardK_ndec ?_ ?_|refine guardK_nb ?_ ?_|refine guardK_split ?_ ?_|refine guardQ_dec ?_ ?_|refine guardL_dec ?_ ?_|refine guardQ_ndec ?_ ?_|refine guardL_ndec ?_ ?_|refine guardQ_nb ?_ ?_|refine guardL_nb ?_ ?_|refine guardQ_split ?_ ?_|refine guardL_split ?_ ?_)<;>intro h1<;>simp(maxSteps:=999999)(disch:=omega)only[go_sem,zA,zM,zS,zE,zL,h1])
 rotate_left
 · exfalso;rw[hv]at h1;cases h1
 first|refine OpS.rd (sMasksValid_run hn ms hm) (⟨_,Tryd.func144,rfl,rfl⟩:Enters Tryd.prog 144) rfl rfl rfl rfl ?_|refine Loud.rd (sMasksValid_run hn ms hm) (⟨_,Tryd.func144,rfl,rfl⟩:Enters Tryd.prog 144) rfl rfl rfl rfl ?_
 simp(maxSteps:=999999)(disch:=omega)only[go_sem,zA,zM,zS,zE,zL]
 intro g2 g3
 have hrun:=l4Ways_run r ms hr r.cells.length [some ⟨g1,1,cR r⟩,some ⟨g2,1,cl (eI .i64) (List.replicate r.cells.length 0)⟩,some ⟨g3,1,[]⟩] 2 g3 [] 1 g2 (List.replicate r.cells.length 0) (by simp) (by simp only[go_sem];rfl) (by simp) (by omega)
  (by rw[nats_zeros];simp only[go_sem]) (by simp) (fun x hx=>by rw[List.eq_of_mem_replicate hx];omega)
 rw[List.length_replicate]at hrun
 refine OpS.run hrun (⟨_,Tryd.func145,rfl,rfl⟩:Enters Tryd.prog 145) rfl rfl ?_
 rintro _ H2 ⟨rfl,l2,len2,f2⟩
 simp(maxSteps:=999999)(disch:=omega)only[go_sem,zA,zM,zS,zE,zL]
 have hlen:(nats (ruleM r ms)).length=r.cells.length:=by
  rw[nats_length,ruleM,ways_len _ _ _ _ (by simp[remM])]
  simp
 have hown:OwnI H2 (.own 1 g2 0 r.cells.length none) (nats (ruleM r ms)) [1]:=by
  have:=OwnI.o (H:=H2) 1 g2 none (nats (ruleM r ms)) [] (by rw[List.append_nil];exact l2)
  rwa [hlen]at this
 exact⟨keepH [1] H2,keepH_le _ _,_,[1],rfl,hown.same fun i hi=>keepH_get hi (hown.lt i hi),scalH_keep hown.blk⟩
theorem ruleValid_facts{r:Rul}{n:Nat}(hv:ruleValid r n=true):(1≤r.cells.length∧r.cells.length≤4)∧(r.kind=1∨r.kind=2∨r.kind=3∨r.cells.length=2)∧(∀c∈r.cells,0≤c∧c<(n*n:Nat))∧r.cells.Nodup:=by
 simp only[ruleValid,decide_eq_true_eq]at hv
 obtain⟨h1,h2,h3⟩:=hv
 refine⟨?_, ?_,fun c hc=> ?_, ?_⟩
 · rcases h3 with h|h|h|h<;>omega
 · rcases h3 with h|h|h|h<;>omega
 · obtain⟨j,hj,rfl⟩:=List.mem_iff_getElem.1 hc
   have:=(h2 j hj).1
   rw[nth_eq (by omega)]at this
   simp only[Int.toNat_natCast]at this
   push_cast
   exact this
 · rw[List.nodup_iff_pairwise_ne,List.pairwise_iff_getElem]
   intro i j hi hj hij
   have:=(h2 j hj).2 i hij
   rw[nth_eq (by omega),nth_eq (by omega)]at this
   simp only[Int.toNat_natCast]at this
   exact this
def maskZ(n:Nat)(v:Int):Int:=if v=0 then((2^(n+1) -2:Nat):Int)else((2^v.toNat:Nat):Int)
def gridM(xs:List Int)(n:Nat):List Int:=xs.map (maskZ n)
theorem gridM_nth{xs:List Int}{n k:Nat}(h:k<xs.length):nth (gridM xs n) k=maskZ n (nth xs k):=by
 rw[nth_eq (by simp[gridM];omega),nth_eq (by omega)]
 simp[gridM]
theorem maskZ_ok{n:Nat}(hn:n=2∨n=3∨n=4){v:Int}(h:0≤v∧v≤n):0≤maskZ n v∧maskZ n v≤((2^(n+1) -2:Nat):Int)∧maskZ n v%2=0:=by
 unfold maskZ
 obtain⟨k,rfl⟩:∃k:Nat,v=k:=⟨v.toNat,by omega⟩
 have:k=0∨k=1∨k=2∨k=3∨k=4:=by omega
 rcases hn with rfl|rfl|rfl<;>rcases this with rfl|rfl|rfl|rfl|rfl<;>first|omega|decide
theorem gridM_ok{xs:List Int}{n:Nat}(hn:n=2∨n=3∨n=4)(hl:xs.length=n*n)(hv:∀k:Nat,k<xs.length→0≤nth xs k∧nth xs k≤n):MasksOk (gridM xs n) n:=by
 refine⟨by simp[gridM,hl],fun k hk=> ?_⟩
 have hk':k<xs.length:=by simpa[gridM]using hk
 rw[gridM_nth hk']
 exact maskZ_ok hn (hv k hk')
theorem gridM_rul{xs:List Int}{n:Nat}{r:Rul}(hn:n=2∨n=3∨n=4)(hl:xs.length=n*n)(hv:∀k:Nat,k<xs.length→0≤nth xs k∧nth xs k≤n)(hr:ruleValid r n=true):RulM r (gridM xs n):=by
 have hok:=gridM_ok hn hl hv
 obtain⟨h1,h2,h3,_⟩:=ruleValid_facts hr
 have hsq:n*n≤16:=by rcases hn with rfl|rfl|rfl<;>omega
 have hpw:(2^(n+1):Nat)≤32:=by rcases hn with rfl|rfl|rfl<;>omega
 refine⟨h1.2,h2,fun c hc=> ?_,by rw[hok.1];omega⟩
 have hcc:=h3 c hc
 obtain⟨k,rfl⟩:∃k:Nat,c=k:=⟨c.toNat,by omega⟩
 have hk:k<(gridM xs n).length:=by rw[hok.1];omega
 have:=hok.2 k hk
 exact⟨by omega,by omega,this.1,by omega,this.2.2⟩
theorem canHold_gridM{xs:List Int}{n:Nat}{r:Rul}(hl:xs.length=n*n)(hv:∀k:Nat,k<xs.length→0≤nth xs k∧nth xs k≤n)(hr:ruleValid r n=true):canHold r xs n=((ruleM r (gridM xs n)).getD 0 0 !=0):=by
 obtain⟨h1,h2,h3,_⟩:=ruleValid_facts hr
 have e:r.cells.map (maskAt xs n)=remM r (gridM xs n) 0:=by
  unfold remM
  rw[List.drop_zero]
  refine List.map_congr_left fun c hc=> ?_
  have hcc:=h3 c hc
  obtain⟨k,rfl⟩:∃k:Nat,c=k:=⟨c.toNat,by omega⟩
  have hk:k<xs.length:=by rw[hl];omega
  have:=hv k hk
  rw[gridM_nth hk]
  unfold maskAt maskZ
  by_cases h0:nth xs k=0
  · rw[if_neg (by omega),if_pos h0];rfl
  · rw[if_pos (by omega),if_neg h0];rfl
 unfold canHold ruleM
 rw[e]
theorem sRulePossible_run{n:Nat}(hn:n=2∨n=3∨n=4)(r:Rul)(xs:List Int)(hr:ruleValid r n=true)(hg:gridValid xs n=true):Reads Tryd.prog 136 [aR r,ints xs,int n] (bool (canHold r xs n)):=by
 obtain⟨h1,h2,h3,_⟩:=ruleValid_facts hr
 have hb:=gridValid_bound hg
 have hxl:xs.length=n*n:=by have:=hb.2.2.1;rcases hn with rfl|rfl|rfl<;>omega
 have hxv:∀k:Nat,k<xs.length→0≤nth xs k∧nth xs k≤n:=hb.2.2.2.2
 refine RunCall.cw (c:=_) Tryd.func136 rfl (n:=52) Tryd.ntmps136 (rs:=[.tmp 6]) rfl ?_
 simp only[List.length_cons,List.length_nil,zA,zS,List.replicate,List.cons_append,List.nil_append]
 simp(maxSteps:=999999)(disch:=omega)only[go_sem,zA,zM,zS,zE,zL]
 intro g1
 first|refine OpS.rd (sRuleValid_run r n (by omega)) (⟨_,Tryd.func48,rfl,rfl⟩:Enters Tryd.prog 48) rfl rfl rfl rfl ?_|refine Loud.rd (sRuleValid_run r n (by omega)) (⟨_,Tryd.func48,rfl,rfl⟩:Enters Tryd.prog 48) rfl rfl rfl rfl ?_
 simp(maxSteps:=999999)(disch:=omega)only[go_sem,zA,zM,zS,zE,zL]
 ((with_reducible first|refine guardK_dec ?_ ?_|refine guardK_ndec ?_ ?_|refine guardK_nb ?_ ?_|refine guardK_split ?_ ?_|refine guardQ_dec ?_ ?_|refine guardL_dec ?_ ?_|refine guardQ_ndec ?_ ?_|refine guardL_ndec ?_ ?_|refine guardQ_nb ?_ ?_|refine guardL_nb ?_ ?_|refine guardQ_split ?_ ?_|refine guardL_split ?_ ?_)<;>intro c1<;>simp(maxSteps:=999999)(disch:=omega)only[go_sem,zA,zM,zS,zE,zL,c1])
 rotate_left
 · exfalso;rw[hr]at c1;cases c1
 first|refine OpS.rd (sGridValid_run xs n (by omega)) (⟨_,Tryd.func59,rfl,rfl⟩:Enters Tryd.prog 59) rfl rfl rfl rfl ?_|refine Loud.rd (sGridValid_run xs n (by omega)) (⟨_,Tryd.func59,rfl,rfl⟩:Enters Tryd.prog 59) rfl rfl rfl rfl ?_
 simp(maxSteps:=999999)(disch:=omega)only[go_sem,zA,zM,zS,zE,zL]
 ((first|(with_reducible first|refine condK_dec ?_ ?_|refine condK_ndec ?_ ?_|refine condK_nb ?_ ?_)|refine condK_b ?_ ?_)<;>intro c2)
 rotate_left
 · exfalso;rw[hg]at c2;cases c2
 simp(maxSteps:=999999)(disch:=omega)only[go_sem,zA,zM,zS,zE,zL]
 intro g2
 have hlM:(gridM xs n).length=xs.length:=by simp[gridM]
 have hsq:n*n≤16:=by rcases hn with rfl|rfl|rfl<;>omega
 have hpw:(2^(n+1):Nat)≤32∧8≤(2^(n+1):Nat):=by rcases hn with rfl|rfl|rfl<;>omega
 refine loop_rule2 (fun(k g:Nat)=>xs.length -k) (fun k g=>k≤xs.length) (fun k g=>[.a, .k, .k, .k, .a, .a, .a, .p (.c (.own 1 g 0 k none)), .p (int k), .a, .a, .a, .a, .a, .a, .a, .a, .a, .a, .a, .a, .a, .a, .a, .a, .a, .a, .a, .a, .a, .a, .a, .a, .a, .a, .a, .a, .a, .a, .a, .a, .a, .a, .a, .a, .a, .a, .a, .a, .a, .a, .a]) (fun k g=>[some ⟨g1,1,cR r⟩,some ⟨g,1,cl (eI .i64) ((gridM xs n).take k)⟩]) 0 g2 (Nat.zero_le _) (by simp(maxSteps:=999999)(disch:=omega)only[go_sem,zA,zM,zS,zE,zL];rfl) (HLe.refl _) ?_
 intro k g hk
 simp(maxSteps:=999999)(disch:=omega)only[go_sem,zA,zM,zS,zE,zL]
 ((first|(with_reducible first|refine condK_dec ?_ ?_|refine condK_ndec ?_ ?_|refine condK_nb ?_ ?_)|refine condK_b ?_ ?_)<;>intro c3)
 · have c3:k<xs.length:=by omega
   have hv:=hxv k c3
   have hM:(gridM xs n).take (k+1)=(gridM xs n).take k++[maskZ n (nth xs k)]:=by rw[take_succ_nth (by omega),gridM_nth c3]
   have htl:((gridM xs n).take k).length=k:=by rw[List.length_take,hlM];omega
   simp(maxSteps:=999999)(disch:=omega)only[go_sem,zA,zM,zS,zE,zL,shl_small (v:=nth xs k) (by omega)]
   ((first|(with_reducible first|refine condK_dec ?_ ?_|refine condK_ndec ?_ ?_|refine condK_nb ?_ ?_)|refine condK_b ?_ ?_)<;>intro c4)
   · have hz:maskZ n (nth xs k)=((2^(n+1):Nat):Int) -2:=by unfold maskZ;rw[if_pos c4];omega
     simp(maxSteps:=999999)(disch:=omega)only[go_sem,zA,zM,zS,zE,zL,shl_n hn]
     intro g3 g4
     refine⟨k+1,g4,⟨by omega,by omega⟩,⟨⟨rfl,rfl⟩,by push_cast;omega⟩, ?_⟩
     rw[hM,hz]
     exact HLe.app [_,_] [_]
   · have hz:maskZ n (nth xs k)=((2^(nth xs k).toNat:Nat):Int):=by unfold maskZ;rw[if_neg c4]
     simp(maxSteps:=999999)(disch:=omega)only[go_sem,zA,zM,zS,zE,zL]
     intro g3 g4
     refine⟨k+1,g4,⟨by omega,by omega⟩,⟨⟨rfl,rfl⟩,by push_cast;omega⟩, ?_⟩
     rw[hM,hz]
     exact HLe.app [_,_] [_]
 · have hke:k=xs.length:=by omega
   have hMe:(gridM xs n).take k=gridM xs n:=List.take_of_length_le (by omega)
   simp(maxSteps:=999999)(disch:=omega)only[go_sem,zA,zM,zS,zE,zL]
   rw[hMe]
   have hown:OwnI [some ⟨g1,1,cR r⟩,some ⟨g,1,cl (eI .i64) (gridM xs n)⟩] (.own 1 g 0 k none) (gridM xs n) [1]:=by
    have:=OwnI.o (H:=[some ⟨g1,1,cR r⟩,some ⟨g,1,cl (eI .i64) (gridM xs n)⟩]) 1 g none (gridM xs n) [] (by rw[List.append_nil];simp only[go_sem])
    rwa [hlM,←hke]at this
   refine OpS.mkDI (sRuleMasks_own hn r (gridM xs n) hr (gridM_ok hn hxl hxv) (gridM_rul hn hxl hxv hr)) (⟨_,Tryd.func143,rfl,rfl⟩:Enters Tryd.prog 143) rfl rfl (snap_three rfl hown.snap snapD_int) ?_
   intro c H2 S2 o2 hS2
   have hln:0<(nats (ruleM r (gridM xs n))).length:=by
    rw[nats_length,ruleM,ways_len _ _ _ _ (by simp[remM])]
    simp
    omega
   obtain⟨id,g',lim,ys,rfl,rfl,hlk⟩:=o2.inv' hln
   rw[canHold_gridM hxl hxv hr]
   have hld:ldP (some ⟨g',1,cl (eI .i64) (nats (ruleM r (gridM xs n))++ys)⟩) 0=some (int (((ruleM r (gridM xs n)).getD 0 0:Nat):Int)):=by
    rw[nats_length]at hln
    obtain⟨a,t,he⟩:=List.exists_cons_of_length_pos hln
    rw[he]
    rfl
   have hlk':look (some ⟨g1,1,cR r⟩::some ⟨g,1,cl (eI .i64) (gridM xs n)⟩::H2) id g'=some ⟨g',1,cl (eI .i64) (nats (ruleM r (gridM xs n))++ys)⟩:=hlk
   have hl0:0<(nats (ruleM r (gridM xs n))++ys).length:=by simp;omega
   simp(maxSteps:=999999)(disch:=omega)only[go_sem,zA,zM,zS,zE,zL,hlk',Int.reduceToNat,hld]
   generalize(ruleM r (gridM xs n)).getD 0 0=x
   by_cases hx:x=0
   · subst hx;rfl
   · rw[decide_eq_false (by omega)]
     simp[hx]
end Go.Lg

namespace Go.Lg
open Go.Proofs
theorem sub_len'{α:Type}(l:List α)(a b:Int):(sub l a b).length≤l.length:=by simp[sub];omega
theorem valuesHold_run(r:Rul)(vs:List Int)(hl:vs.length≤4)(hv:∀v∈vs,0≤v∧v≤4)(hk:r.kind=1∨r.kind=2∨r.kind=3∨(r.kind=4∨r.kind=5)∧2≤vs.length):Reads Tryd.prog 140 [aR r,ints vs] (bool (holdsV r vs)):=by
 have hnv:∀k:Nat,k<vs.length→0≤nth vs k∧nth vs k≤4:=fun k hk=>hv _ (by rw[nth_eq (by omega)];exact List.getElem_mem _)
 have hpt:=prodV_take hl hv
 have hst:=sum_take hl hv
 refine RunCall.cw (c:=_) Tryd.func140 rfl (n:=76) Tryd.ntmps140 (rs:=[.tmp 4]) rfl ?_
 simp only[List.length_cons,List.length_nil,zA,zS,List.replicate,List.cons_append,List.nil_append]
 simp(maxSteps:=999999)(disch:=omega)only[go_sem,zA,zM,zS,zE,zL]
 intro g
 refine loop_rule (fun k:Nat=>vs.length -k) (fun k=>k≤vs.length∧(r.kind=1→(vs.take k).Nodup)) (fun k=>[.a, .k, .k, .a, .a, .p (int (vs.take k).sum), .p (int (prodV (vs.take k))), .a, .a, .k, .k, .p (int k), .a, .a, .a, .a, .a, .a, .a, .a, .a, .a, .a, .a, .a, .a, .a, .a, .a, .a, .a, .a, .a, .a, .a, .a, .a, .a, .a, .a, .a, .a, .a, .a, .a, .a, .a, .a, .a, .a, .a, .a, .a, .a, .a, .a, .a, .a, .a, .a, .a, .a, .a, .a, .a, .a, .a, .a, .a, .a, .a, .a, .a, .a, .a, .a]) (fun _=>[some ⟨g,1,cR r⟩]) 0 ⟨Nat.zero_le _,fun _=>by simp⟩ (by simp(maxSteps:=999999)(disch:=omega)only[go_sem,zA,zM,zS,zE,zL];simp[prodV]) (HLe.refl _) ?_
 rintro k ⟨hk',hnd⟩
 simp(maxSteps:=999999)(disch:=omega)only[go_sem,zA,zM,zS,zE,zL]
 ((first|(with_reducible first|refine condK_dec ?_ ?_|refine condK_ndec ?_ ?_|refine condK_nb ?_ ?_)|refine condK_b ?_ ?_)<;>intro h1)
 · have h1:k<vs.length:=by omega
   have e1:(vs.take (k+1)).sum=(vs.take k).sum+nth vs k:=by rw[take_succ_nth h1];simp
   have e2:prodV (vs.take (k+1))=prodV (vs.take k)*nth vs k:=by rw[take_succ_nth h1,prodV_app]
   have b1:=hst (k+1)
   have b2:=hpt (k+1)
   rw[e1]at b1
   rw[e2]at b2
   have hin:nth vs k∈vs.take k↔∃i:Nat,i<k∧nth vs i=nth vs k:=by
    constructor
    · intro h
      obtain⟨i,hi,he⟩:=List.mem_take_iff_getElem.1 h
      exact⟨i,by omega,by rw[nth_eq (by omega)];exact he⟩
    · rintro⟨i,hi,he⟩
      rw[←he,nth_eq (by omega)]
      exact List.mem_take_iff_getElem.2 ⟨i,by omega,rfl⟩
   simp(maxSteps:=999999)(disch:=omega)only[go_sem,zA,zM,zS,zE,zL]
   ((with_reducible first|refine guardK_dec ?_ ?_|refine guardK_ndec ?_ ?_|refine guardK_nb ?_ ?_|refine guardK_split ?_ ?_|refine guardQ_dec ?_ ?_|refine guardL_dec ?_ ?_|refine guardQ_ndec ?_ ?_|refine guardL_ndec ?_ ?_|refine guardQ_nb ?_ ?_|refine guardL_nb ?_ ?_|refine guardQ_split ?_ ?_|refine guardL_split ?_ ?_)<;>intro d1<;>simp(maxSteps:=999999)(disch:=omega)only[go_sem,zA,zM,zS,zE,zL,d1])
   · have hsub:sub vs 0 (k:Int)=vs.take k:=by simp[sub]
     have hco:=Contains_run (sub vs 0 (k:Int)) (nth vs k) (by have:=sub_len' vs 0 (k:Int);omega)
     rw[hsub]at hco
     first|refine OpS.rd (hco) (⟨_,Tryd.func51,rfl,rfl⟩:Enters Tryd.prog 51) rfl rfl rfl rfl ?_|refine Loud.rd (hco) (⟨_,Tryd.func51,rfl,rfl⟩:Enters Tryd.prog 51) rfl rfl rfl rfl ?_
     simp(maxSteps:=999999)(disch:=omega)only[go_sem,zA,zM,zS,zE,zL]
     ((first|(with_reducible first|refine condK_dec ?_ ?_|refine condK_ndec ?_ ?_|refine condK_nb ?_ ?_)|refine condK_b ?_ ?_)<;>intro d2)
     · simp(maxSteps:=999999)(disch:=omega)only[go_sem,zA,zM,zS,zE,zL]
       have:¬vs.Nodup:=fun hn=>by
        have:=(nodup_take h1).1 (hn.sublist (List.take_sublist _ _))
        obtain⟨i,hi,he⟩:=hin.1 d2
        exact this.2 i hi he
       unfold holdsV
       rw[if_pos d1,decide_eq_false this]
     · simp(maxSteps:=999999)(disch:=omega)only[go_sem,zA,zM,zS,zE,zL]
       refine⟨k+1,⟨⟨by omega,fun h=> ?_⟩,by omega⟩,⟨e1.symm,e2.symm,by push_cast;omega⟩,HLe.refl _⟩
       rw[nodup_take h1]
       exact⟨hnd d1,fun i hi he=>d2 (hin.2 ⟨i,hi,he⟩)⟩
   · refine⟨k+1,⟨⟨by omega,fun h=>by first|exact absurd h d1|exact h.elim⟩,by omega⟩,⟨e1.symm,e2.symm,by push_cast;omega⟩,HLe.refl _⟩
 · have hkl:vs.take k=vs:=List.take_of_length_le (by omega)
   simp(maxSteps:=999999)(disch:=omega)only[go_sem,zA,zM,zS,zE,zL]
   rw[hkl]at hnd
   rw[hkl]
   ((first|(with_reducible first|refine condK_dec ?_ ?_|refine condK_ndec ?_ ?_|refine condK_nb ?_ ?_)|refine condK_b ?_ ?_)<;>intro d2)
   · simp(maxSteps:=999999)(disch:=omega)only[go_sem,zA,zM,zS,zE,zL]
     unfold holdsV
     rw[if_neg (by omega),if_pos d2]
   simp(maxSteps:=999999)(disch:=omega)only[go_sem,zA,zM,zS,zE,zL]
   ((first|(with_reducible first|refine condK_dec ?_ ?_|refine condK_ndec ?_ ?_|refine condK_nb ?_ ?_)|refine condK_b ?_ ?_)<;>intro d3)
   · simp(maxSteps:=999999)(disch:=omega)only[go_sem,zA,zM,zS,zE,zL]
     unfold holdsV
     rw[if_neg (by omega),if_neg d2,if_pos d3]
   simp(maxSteps:=999999)(disch:=omega)only[go_sem,zA,zM,zS,zE,zL]
   ((first|(with_reducible first|refine condK_dec ?_ ?_|refine condK_ndec ?_ ?_|refine condK_nb ?_ ?_)|refine condK_b ?_ ?_)<;>intro d4)
   · have hl2:2≤vs.length:=by omega
     have v0:0≤nth vs (0:Int)∧nth vs (0:Int)≤4:=hnv 0 (by omega)
     have v1:0≤nth vs (1:Int)∧nth vs (1:Int)≤4:=hnv 1 (by omega)
     simp(maxSteps:=999999)(disch:=omega)only[go_sem,zA,zM,zS,zE,zL]
     refine drawP_q foll (by kernel_rfl) ?_
     simp(maxSteps:=999999)(disch:=omega)only[go_sem,Nat.reduceBEq,Bool.true_or,zA,zM,zS,zE,zL]
     unfold holdsV
     rw[if_neg (by omega),if_neg d2,if_neg d3,if_pos d4]
   simp(maxSteps:=999999)(disch:=omega)only[go_sem,zA,zM,zS,zE,zL]
   ((first|(with_reducible first|refine condK_dec ?_ ?_|refine condK_ndec ?_ ?_|refine condK_nb ?_ ?_)|refine condK_b ?_ ?_)<;>intro d5)
   · have hl2:2≤vs.length:=by omega
     have v0:0≤nth vs (0:Int)∧nth vs (0:Int)≤4:=hnv 0 (by omega)
     have v1:0≤nth vs (1:Int)∧nth vs (1:Int)≤4:=hnv 1 (by omega)
     simp(maxSteps:=999999)(disch:=omega)only[go_sem,zA,zM,zS,zE,zL]
     refine drawP_q foll (by kernel_rfl) ?_
     simp(maxSteps:=999999)(disch:=omega)only[go_sem,Nat.reduceBEq,Bool.true_or,zA,zM,zS,zE,zL]
     unfold holdsV
     rw[if_neg (by omega),if_neg d2,if_neg d3,if_neg d4]
   · have d1:r.kind=1:=by omega
     simp(maxSteps:=999999)(disch:=omega)only[go_sem,zA,zM,zS,zE,zL]
     unfold holdsV
     rw[if_pos d1,decide_eq_true (hnd d1)]
end Go.Lg
