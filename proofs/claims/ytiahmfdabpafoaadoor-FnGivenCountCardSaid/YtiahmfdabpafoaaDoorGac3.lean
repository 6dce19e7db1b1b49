/- GpEC, GpED, cut to what is needed. -/
import Derived.Test.YtiahmfdabpafoaaDoorGac2
open Nat renaming reduceAdd→zA,reduceMul→zM,reduceSub→zS,reduceEqDiff→zE,reduceLeDiff→zL
set_option linter.unusedSimpArgs false
set_option linter.unusedVariables false
set_option maxRecDepth 100000
namespace Go.Lg
open Go.Proofs
theorem allValues_run{n:Nat}(hn:n=2∨n=3∨n=4):Reads Tryd.prog 124 [int n] (int ((2^(n+1) -2:Nat):Int)):=by
 have hpw:(2^(n+1):Nat)≤32∧8≤(2^(n+1):Nat):=by rcases hn with rfl|rfl|rfl<;>omega
 refine RunCall.cw (c:=_) Tryd.func124 rfl (n:=7) Tryd.ntmps124 (rs:=[.tmp 2]) rfl ?_
 simp only[List.length_cons,List.length_nil,zA,zS,List.replicate,List.cons_append,List.nil_append]
 simp(maxSteps:=999999)(disch:=omega)only[go_sem,zA,zM,zS,zE,zL,shl_n hn]
 omega
theorem maskAt_lt{xs:List Int}{n:Nat}(hn:n=2∨n=3∨n=4){c:Int}(h:nth xs c≤4):maskAt xs n c<32:=by
 unfold maskAt
 split
 · generalize nth xs c=v at*
   have:v.toNat=0∨v.toNat=1∨v.toNat=2∨v.toNat=3∨v.toNat=4:=by omega
   rcases this with h|h|h|h|h<;>rw[h]<;>omega
 · rcases hn with rfl|rfl|rfl<;>omega
theorem canHold_run{n:Nat}(hn:n=2∨n=3∨n=4)(r:Rul)(xs:List Int)(hr:ruleValid r n=true)(hg:GrdN xs n):Reads Tryd.prog 105 [aR r,ints xs,int n] (bool (canHold r xs n)):=by
 obtain⟨h1,h2,h3,_⟩:=ruleValid_facts hr
 have hxl:=hg.len
 have hsq:n*n≤16:=by rcases hn with rfl|rfl|rfl<;>omega
 have hpw:(2^(n+1):Nat)≤32∧8≤(2^(n+1):Nat):=by rcases hn with rfl|rfl|rfl<;>omega
 obtain⟨os,hos⟩:∃os,os=r.cells.map (maskAt xs n):=⟨_,rfl⟩
 have hol:os.length=r.cells.length:=by rw[hos];simp
 have hnl:(nats os).length=os.length:=nats_length os
 have hx4:∀c∈r.cells,0≤nth xs c∧nth xs c≤n:=fun c hc=>by
  have:=h3 c hc
  obtain⟨k,rfl⟩:∃k:Nat,c=k:=⟨c.toNat,by omega⟩
  exact hg.val k (by omega)
 have hob:∀m∈os,m<32:=fun m hm=>by
  rw[hos]at hm
  obtain⟨c,hc,rfl⟩:=List.mem_map.1 hm
  have:=hx4 c hc
  exact maskAt_lt hn (by omega)
 have hkind:r.kind=1∨r.kind=2∨r.kind=3∨(r.kind=4∨r.kind=5)∧2≤os.length:=by
  have hr':=hr
  simp only[ruleValid,decide_eq_true_eq]at hr'
  obtain⟨_,_,k3⟩:=hr'
  unfold ruleShape at k3
  omega
 refine RunCall.cw (c:=_) Tryd.func105 rfl (n:=43) Tryd.ntmps105 (rs:=[.tmp 6]) rfl ?_
 simp only[List.length_cons,List.length_nil,zA,zS,List.replicate,List.cons_append,List.nil_append]
 simp(maxSteps:=999999)(disch:=omega)only[go_sem,zA,zM,zS,zE,zL]
 intro g1 g2
 refine loop_rule2 (fun(k g:Nat)=>os.length -k) (fun k g=>k≤os.length) (fun k g=>[.a, .k, .k, .k, .a, .a, .a, .p (.c (.own 1 g 0 k none)), .a, .a, .a, .a, .k, .k, .p (int k), .a, .a, .a, .a, .a, .a, .a, .a, .a, .a, .a, .a, .a, .a, .a, .a, .a, .a, .a, .a, .a, .a, .a, .a, .a, .a, .a, .a]) (fun k g=>[some ⟨g1,1,cR r⟩,some ⟨g,1,cl (eI .i64) ((nats os).take k)⟩]) 0 g2 (Nat.zero_le _) (by simp(maxSteps:=999999)(disch:=omega)only[go_sem,zA,zM,zS,zE,zL];rfl) (HLe.refl _) ?_
 intro k g hk
 simp(maxSteps:=999999)(disch:=omega)only[go_sem,zA,zM,zS,zE,zL]
 ((first|(with_reducible first|refine condK_dec ?_ ?_|refine condK_ndec ?_ ?_|refine condK_nb ?_ ?_)|refine condK_b ?_ ?_)<;>intro c1)
 · have c1:k<r.cells.length:=by omega
   have hmem:nth r.cells k∈r.cells:=nth_mem c1
   have hcb:=h3 _ hmem
   have hcv:=hx4 _ hmem
   have hM:(nats os).take (k+1)=(nats os).take k++[((maskAt xs n (nth r.cells k):Nat):Int)]:=by
    rw[take_succ_nth (by omega),nats_nth (by omega)]
    simp only[hos,List.getElem_map]
    rw[nth_eq (by omega)]
    rfl
   have htl:((nats os).take k).length=k:=by rw[List.length_take,hnl];omega
   obtain⟨c,hc⟩:∃c:Nat,nth r.cells k=c:=⟨(nth r.cells k).toNat,by omega⟩
   rw[hc]at hcb hcv hM
   have hcl:c<xs.length:=by omega
   simp(maxSteps:=999999)(disch:=omega)only[go_sem,zA,zM,zS,zE,zL,hc]
   ((first|(with_reducible first|refine condK_dec ?_ ?_|refine condK_ndec ?_ ?_|refine condK_nb ?_ ?_)|refine condK_b ?_ ?_)<;>intro c2)
   · have hz:maskAt xs n c=2^(nth xs c).toNat:=by unfold maskAt;rw[if_pos c2]
     simp(maxSteps:=999999)(disch:=omega)only[go_sem,zA,zM,zS,zE,zL,shl_small (v:=nth xs c) (by omega)]
     intro g3 g4
     refine⟨k+1,g4,⟨by omega,by omega⟩,⟨⟨rfl,rfl⟩,by push_cast;omega⟩, ?_⟩
     rw[hM,hz]
     exact HLe.app [_,_] [_]
   · have hz:maskAt xs n c=2^(n+1) -2:=by unfold maskAt;rw[if_neg c2]
     simp(maxSteps:=999999)(disch:=omega)only[go_sem,zA,zM,zS,zE,zL]
     first|refine OpS.rd (allValues_run hn) (⟨_,Tryd.func124,rfl,rfl⟩:Enters Tryd.prog 124) rfl rfl rfl rfl ?_|refine Loud.rd (allValues_run hn) (⟨_,Tryd.func124,rfl,rfl⟩:Enters Tryd.prog 124) rfl rfl rfl rfl ?_
     simp(maxSteps:=999999)(disch:=omega)only[go_sem,zA,zM,zS,zE,zL]
     intro g3 g4
     refine⟨k+1,g4,⟨by omega,by omega⟩,⟨⟨rfl,rfl⟩,by push_cast;omega⟩, ?_⟩
     rw[hM,hz]
     exact HLe.app [_,_] [_]
 · have hke:k=os.length:=by omega
   have hMe:(nats os).take k=nats os:=List.take_of_length_le (by omega)
   simp(maxSteps:=999999)(disch:=omega)only[go_sem,zA,zM,zS,zE,zL]
   rw[hMe]
   have hown:OwnI [some ⟨g1,1,cR r⟩,some ⟨g,1,cl (eI .i64) (nats os)⟩] (.own 1 g 0 k none) (nats os) [1]:=by
    have:=OwnI.o (H:=[some ⟨g1,1,cR r⟩,some ⟨g,1,cl (eI .i64) (nats os)⟩]) 1 g none (nats os) [] (by rw[List.append_nil];simp only[go_sem])
    rwa [hnl,←hke]at this
   refine OpS.mkDI (ruleMasks_own r os (by omega) hob hkind) (⟨_,Tryd.func125,rfl,rfl⟩:Enters Tryd.prog 125) rfl rfl (snap_two rfl hown.snap) ?_
   intro c H2 S2 o2 hS2
   have hln:0<(nats (ways r os [] (List.replicate os.length 0))).length:=by
    rw[nats_length,ways_len _ _ _ _ (by simp)]
    simp
    omega
   obtain⟨id,g',lim,ys,rfl,rfl,hlk⟩:=o2.inv' hln
   have hch:canHold r xs n=((ways r os [] (List.replicate os.length 0)).getD 0 0 !=0):=by unfold canHold;rw[hol,←hos]
   rw[hch]
   have hld:ldP (some ⟨g',1,cl (eI .i64) (nats (ways r os [] (List.replicate os.length 0))++ys)⟩) 0=some (int (((ways r os [] (List.replicate os.length 0)).getD 0 0:Nat):Int)):=by
    rw[nats_length]at hln
    obtain⟨a,t,he⟩:=List.exists_cons_of_length_pos hln
    rw[he]
    rfl
   have hlk':look (some ⟨g1,1,cR r⟩::some ⟨g,1,cl (eI .i64) (nats os)⟩::H2) id g'=some ⟨g',1,cl (eI .i64) (nats (ways r os [] (List.replicate os.length 0))++ys)⟩:=hlk
   have hl0:0<(nats (ways r os [] (List.replicate os.length 0))++ys).length:=by simp only[List.length_append];omega
   simp(maxSteps:=999999)(disch:=omega)only[go_sem,zA,zM,zS,zE,zL,hlk',Int.reduceToNat,hld]
   generalize(ways r os [] (List.replicate os.length 0)).getD 0 0=x
   by_cases hx:x=0
   · subst hx;rfl
   · rw[decide_eq_false (by omega)]
     simp[hx]
theorem iLineCells_own{n line:Nat}(hn:n=2∨n=3∨n=4)(hl:line<2*n):RunCall Tryd.prog 123 [int n,int line] [] (ownQ (eI .i64) 1 (lineC n line)):=by
 have hb:(line:Int)*n≤28∧0≤(line:Int)*n:=by rcases hn with rfl|rfl|rfl<;>omega
 have hn4:2≤n∧n≤4:=by omega
 have hlen:=lineC_length n line
 refine RunCall.cw (c:=_) Tryd.func123 rfl (n:=49) Tryd.ntmps123 (rs:=[.tmp 4]) rfl ?_
 simp only[List.length_cons,List.length_nil,zA,zS,List.replicate,List.cons_append,List.nil_append]
 simp(maxSteps:=999999)(disch:=omega)only[go_sem,zA,zM,zS,zE,zL]
 first|refine OpS.rd (sizeOk_run _) (⟨_,Tryd.func50,rfl,rfl⟩:Enters Tryd.prog 50) rfl rfl rfl rfl ?_|refine Loud.rd (sizeOk_run _) (⟨_,Tryd.func50,rfl,rfl⟩:Enters Tryd.prog 50) rfl rfl rfl rfl ?_
 simp(maxSteps:=999999)(disch:=omega)only[go_sem,zA,zM,zS,zE,zL]
 ((with_reducible first|refine guardK_dec ?_ ?_|refine guardK_ndec ?_ ?_|refine guardK_nb ?_ ?_|refine guardK_split ?_ ?_|refine guardQ_dec ?_ ?_|refine guardL_dec ?_ ?_|refine guardQ_ndec ?_ ?_|refine guardL_ndec ?_ ?_|refine guardQ_nb ?_ ?_|refine guardL_nb ?_ ?_|refine guardQ_split ?_ ?_|refine guardL_split ?_ ?_)<;>intro a1<;>simp(maxSteps:=999999)(disch:=omega)only[go_sem,zA,zM,zS,zE,zL,a1])
 rotate_left
 · exfalso;omega
 ((with_reducible first|refine guardK_dec ?_ ?_|refine guardK_ndec ?_ ?_|refine guardK_nb ?_ ?_|refine guardK_split ?_ ?_|refine guardQ_dec ?_ ?_|refine guardL_dec ?_ ?_|refine guardQ_ndec ?_ ?_|refine guardL_ndec ?_ ?_|refine guardQ_nb ?_ ?_|refine guardL_nb ?_ ?_|refine guardQ_split ?_ ?_|refine guardL_split ?_ ?_)<;>intro a2<;>simp(maxSteps:=999999)(disch:=omega)only[go_sem,zA,zM,zS,zE,zL,a2])
 · exfalso;omega
 ((first|(with_reducible first|refine condK_dec ?_ ?_|refine condK_ndec ?_ ?_|refine condK_nb ?_ ?_)|refine condK_b ?_ ?_)<;>intro a3)
 · exfalso;omega
 simp(maxSteps:=999999)(disch:=omega)only[go_sem,zA,zM,zS,zE,zL]
 intro g
 refine loop_rule2 (fun(k g:Nat)=>n -k) (fun k g=>k≤n) (fun k g=>[.k, .k, .a, .a, .a, .p (.c (.own 0 g 0 k none)), .a, .a, .a, .a, .a, .a, .a, .a, .a, .a, .a, .a, .a, .a, .a, .a, .k, .p (int k), .a, .a, .a, .a, .a, .a, .a, .a, .a, .a, .a, .a, .a, .a, .a, .a, .a, .a, .a, .a, .a, .a, .a, .a, .a]) (fun k g=>[some ⟨g,1,cl (eI .i64) ((lineC n line).take k)⟩]) 0 g
  (Nat.zero_le _) (by simp(maxSteps:=999999)(disch:=omega)only[go_sem,zA,zM,zS,zE,zL];rfl) (HLe.refl _) ?_
 intro k g hk
 simp(maxSteps:=999999)(disch:=omega)only[go_sem,zA,zM,zS,zE,zL]
 ((first|(with_reducible first|refine condK_dec ?_ ?_|refine condK_ndec ?_ ?_|refine condK_nb ?_ ?_)|refine condK_b ?_ ?_)<;>intro h1)
 · have h1:k<n:=by omega
   have hkb:(k:Int)*n≤16∧0≤(k:Int)*n:=by rcases hn with rfl|rfl|rfl<;>omega
   have hne:=lineC_nth (line:=line) h1
   simp(maxSteps:=999999)(disch:=omega)only[go_sem,zA,zM,zS,zE,zL]
   ((first|(with_reducible first|refine condK_dec ?_ ?_|refine condK_ndec ?_ ?_|refine condK_nb ?_ ?_)|refine condK_b ?_ ?_)<;>intro h4)
   · simp(maxSteps:=999999)(disch:=omega)only[go_sem,zA,zM,zS,zE,zL]
     intro g1 g2
     refine⟨k+1,g2,⟨by omega,by omega⟩,⟨⟨rfl,rfl⟩,by push_cast;omega⟩,hle_eq ?_ (hle_nil _)⟩
     rw[take_succ_nth (by omega),hne,if_pos (by omega)]
     push_cast
     rfl
   · simp(maxSteps:=999999)(disch:=omega)only[go_sem,zA,zM,zS,zE,zL]
     intro g1 g2
     refine⟨k+1,g2,⟨by omega,by omega⟩,⟨⟨rfl,rfl⟩,by push_cast;omega⟩,hle_eq ?_ (hle_nil _)⟩
     rw[take_succ_nth (by omega),hne,if_neg (by omega)]
     have:((k*n+line -n:Nat):Int)=(k:Int)*n+line -n:=by
      have:n≤k*n+line:=by omega
      omega
     rw[this]
 · have hi':k=n:=by omega
   subst hi'
   simp(maxSteps:=999999)(disch:=omega)only[go_sem,zA,zM,zS,zE,zL]
   rw[List.take_of_length_le (by omega)]
   have:=lessQ_own (E:=eI .i64) (n:=1) (g:=g) (xs:=lineC k line) (HLe.refl [some ⟨g,1,cl (eI .i64) (lineC k line)⟩])
   rw[hlen]at this
   exact this
theorem iLineCells_run{n line:Nat}(hn:n=2∨n=3∨n=4)(hl:line<2*n):Reads Tryd.prog 123 [int n,int line] (ints (lineC n line)):=Reads.own (iLineCells_own hn hl)
end Go.Lg

namespace Go.Lg
open Go.Proofs
def seenB(s:Nat):List CV:=(List.range 5).map fun i=> .f (.bool (s.testBit i))
theorem seen_ld{g s v:Nat}(h:v≤4):ldP (some ⟨g,5,seenB s⟩) (0+(v:Int).toNat*1)=some (bool (s.testBit v)):=by
 rw[Int.toNat_natCast,Nat.zero_add,Nat.mul_one]
 have:(seenB s)[v]? =some (.f (.bool (s.testBit v))):=by
  unfold seenB
  rw[List.getElem?_map,List.getElem?_range (by omega)]
  rfl
 simp only[ldP,this]
theorem seen_set{s v:Nat}(h:v≤4):setRange (seenB s) (0+(v:Int).toNat*1) [.f (.bool true)]=seenB (s|||2^v):=by
 rw[Int.toNat_natCast,Nat.zero_add,Nat.mul_one]
 refine List.ext_getElem (by simp[setRange,seenB];omega) fun j h1 h2=> ?_
 have hj:j<5:=by simpa[seenB]using h2
 simp only[seenB,List.getElem_map,List.getElem_range,Nat.testBit_or,Nat.testBit_two_pow]
 have:v=0∨v=1∨v=2∨v=3∨v=4:=by omega
 have hj':j=0∨j=1∨j=2∨j=3∨j=4:=by omega
 rcases this with rfl|rfl|rfl|rfl|rfl<;>rcases hj' with rfl|rfl|rfl|rfl|rfl<;>simp[setRange,seenB,List.range_succ]
theorem SquareFits_run{n:Nat}(hn:n=2∨n=3∨n=4)(xs:List Int)(hg:GrdN xs n):Reads Tryd.prog 104 [ints xs,int n] (bool (!clash xs n)):=by
 have hn4:2≤n∧n≤4:=by omega
 have hl:=hg.len
 have hsq:n*n≤16:=by rcases hn with rfl|rfl|rfl<;>omega
 refine RunCall.cw (c:=_) Tryd.func104 rfl (n:=47) Tryd.ntmps104 (rs:=[.tmp 4]) rfl ?_
 simp only[List.length_cons,List.length_nil,zA,zS,List.replicate,List.cons_append,List.nil_append]
 simp(maxSteps:=999999)(disch:=omega)only[go_sem,zA,zM,zS,zE,zL]
 first|refine OpS.rd (GridValid_run xs n (by omega)) (⟨_,Tryd.func69,rfl,rfl⟩:Enters Tryd.prog 69) rfl rfl rfl rfl ?_|refine Loud.rd (GridValid_run xs n (by omega)) (⟨_,Tryd.func69,rfl,rfl⟩:Enters Tryd.prog 69) rfl rfl rfl rfl ?_
 simp(maxSteps:=999999)(disch:=omega)only[go_sem,zA,zM,zS,zE,zL]
 ((first|(with_reducible first|refine condK_dec ?_ ?_|refine condK_ndec ?_ ?_|refine condK_nb ?_ ?_)|refine condK_b ?_ ?_)<;>intro c1)
 rotate_left
 · exfalso;rw[hg.valid hn]at c1;cases c1
 simp(maxSteps:=999999)(disch:=omega)only[go_sem,zA,zM,zS,zE,zL]
 refine loop_rule (fun i:Nat=>2*n -i) (fun i=>i≤2*n∧∀j,j<i→clashC xs (lineC n j) 0=false) (fun i=>[.k, .k, .a, .a, .a, .a, .a, .a, .a, .a, .a, .a, .a, .a, .k, .p (int i), .a, .a, .a, .a, .a, .a, .a, .a, .a, .a, .a, .a, .a, .a, .a, .a, .a, .a, .a, .a, .a, .a, .a, .a, .a, .a, .a, .a, .a, .a, .a]) (fun _=>[]) 0 ⟨Nat.zero_le _,fun j hj=>absurd hj (Nat.not_lt_zero _)⟩ (by simp(maxSteps:=999999)(disch:=omega)only[go_sem,zA,zM,zS,zE,zL];rfl) (hle_nil _) ?_
 rintro i ⟨hi,hno⟩
 simp(maxSteps:=999999)(disch:=omega)only[go_sem,zA,zM,zS,zE,zL]
 ((first|(with_reducible first|refine condK_dec ?_ ?_|refine condK_ndec ?_ ?_|refine condK_nb ?_ ?_)|refine condK_b ?_ ?_)<;>intro h1)
 · have h1:i<2*n:=by omega
   simp(maxSteps:=999999)(disch:=omega)only[go_sem,zA,zM,zS,zE,zL]
   intro g
   first|refine OpS.mk (iLineCells_run hn h1) (⟨_,Tryd.func123,rfl,rfl⟩:Enters Tryd.prog 123) rfl rfl rfl rfl rfl ?_|refine Loud.mk (iLineCells_run hn h1) (⟨_,Tryd.func123,rfl,rfl⟩:Enters Tryd.prog 123) rfl rfl rfl rfl rfl ?_
   simp(maxSteps:=999999)(disch:=omega)only[go_sem,zA,zM,zS,zE,zL]
   have hlen:=lineC_length n i
   refine loop_rule2 (fun(k seen:Nat)=>n -k) (fun k seen=>k≤n∧clashC xs (lineC n i) 0=clashC xs ((lineC n i).drop k) seen∧seen<32) (fun k seen=>[.k, .k, .a, .a, .a, .a, .k, .a, .a, .a, .a, .a, .a, .a, .k, .k, .a, .a, .a, .a, .a, .k, .k, .p (int k), .a, .a, .a, .a, .a, .a, .a, .a, .a, .a, .a, .a, .a, .a, .a, .a, .a, .a, .a, .a, .a, .a, .a]) (fun _ seen=>[some ⟨g,5,seenB seen⟩]) 0 0 ⟨Nat.zero_le _,rfl,by omega⟩ (by simp(maxSteps:=999999)(disch:=omega)only[go_sem,zA,zM,zS,zE,zL];rfl) (by exact HLe.refl _) ?_
   rintro k seen ⟨hk,hc,hs⟩
   simp(maxSteps:=999999)(disch:=omega)only[go_sem,zA,zM,zS,zE,zL]
   ((first|(with_reducible first|refine condK_dec ?_ ?_|refine condK_ndec ?_ ?_|refine condK_nb ?_ ?_)|refine condK_b ?_ ?_)<;>intro h2)
   · have h2:k<n:=by omega
     obtain⟨hb0,hb1⟩:=lineC_bound hn h1 h2
     obtain⟨c,hcc⟩:∃c:Nat,nth (lineC n i) k=c:=⟨(nth (lineC n i) k).toNat,by omega⟩
     have hcl:c<xs.length:=by omega
     have hv:=hg.val c hcl
     obtain⟨v,hvv⟩:∃v:Nat,nth xs c=v:=⟨(nth xs c).toNat,by omega⟩
     have hv4:v≤4:=by omega
     have hsl:(seenB seen).length=5:=by simp[seenB]
     have hcn:clashC xs ((lineC n i).drop k) seen=if(decide (0<v)&&seen.testBit v)=true then true else clashC xs ((lineC n i).drop (k+1)) (seen|||2^v):=by
      rw[List.drop_eq_getElem_cons (by omega),clashC_cons]
      have:(lineC n i)[k]'(by omega)=c:=by rw[←hcc,nth_eq (by omega)];rfl
      rw[this,hvv,Int.toNat_natCast]
      simp
     have hs2:seen|||2^v<32:=by
      refine Nat.or_lt_two_pow (n:=5) hs ?_
      have:v=0∨v=1∨v=2∨v=3∨v=4:=by omega
      rcases this with h|h|h|h|h<;>rw[h]<;>omega
     simp(maxSteps:=999999)(disch:=omega)only[go_sem,zA,zM,zS,zE,zL,hcc,hvv]
     ((with_reducible first|refine guardK_dec ?_ ?_|refine guardK_ndec ?_ ?_|refine guardK_nb ?_ ?_|refine guardK_split ?_ ?_|refine guardQ_dec ?_ ?_|refine guardL_dec ?_ ?_|refine guardQ_ndec ?_ ?_|refine guardL_ndec ?_ ?_|refine guardQ_nb ?_ ?_|refine guardL_nb ?_ ?_|refine guardQ_split ?_ ?_|refine guardL_split ?_ ?_)<;>intro d1<;>simp(maxSteps:=999999)(disch:=omega)only[go_sem,zA,zM,zS,zE,zL,d1])
     · have d1:0<v:=by omega
       simp(maxSteps:=999999)(disch:=omega)only[go_sem,zA,zM,zS,zE,zL,hcc,hvv,seen_ld hv4]
       ((first|(with_reducible first|refine condK_dec ?_ ?_|refine condK_ndec ?_ ?_|refine condK_nb ?_ ?_)|refine condK_b ?_ ?_)<;>intro d2)
       · simp(maxSteps:=999999)(disch:=omega)only[go_sem,zA,zM,zS,zE,zL]
         have:clash xs n=true:=by
          unfold clash
          rw[List.any_eq_true]
          exact⟨i,List.mem_range.2 h1,by rw[hc,hcn,if_pos (by simp[d1,d2])]⟩
         rw[this]
         rfl
       · simp(maxSteps:=999999)(disch:=omega)only[go_sem,zA,zM,zS,zE,zL,hcc,hvv,seen_set hv4]
         refine⟨k+1,seen|||2^v,⟨⟨by omega, ?_,hs2⟩,by omega⟩,by push_cast;omega,HLe.refl _⟩
         rw[hc,hcn,if_neg (by simp[d2])]
     · simp(maxSteps:=999999)(disch:=omega)only[go_sem,zA,zM,zS,zE,zL,hcc,hvv,seen_set hv4]
       refine⟨k+1,seen|||2^v,⟨⟨by omega, ?_,hs2⟩,by omega⟩,by push_cast;omega,HLe.refl _⟩
       rw[hc,hcn,if_neg (by simp;omega)]
   · have hke:k=n:=by omega
     simp(maxSteps:=999999)(disch:=omega)only[go_sem,zA,zM,zS,zE,zL]
     refine⟨i+1,⟨⟨by omega,fun j hj=> ?_⟩,by omega⟩,by push_cast;omega,hle_nil _⟩
     by_cases hji:j=i
     · rw[hji,hc,List.drop_of_length_le (by omega)];rfl
     · exact hno j (by omega)
 · simp(maxSteps:=999999)(disch:=omega)only[go_sem,zA,zM,zS,zE,zL]
   have:clash xs n=false:=by
    unfold clash
    rw[List.any_eq_false]
    intro j hj
    rw[List.mem_range]at hj
    rw[hno j (by omega)]
    simp
   rw[this]
   rfl
end Go.Lg
