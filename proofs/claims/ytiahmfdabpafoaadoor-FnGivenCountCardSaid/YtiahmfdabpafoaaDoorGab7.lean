/- GpCB, LgV, GpDB, GpOE, cut to what is needed. -/
import Derived.Test.YtiahmfdabpafoaaDoorGab5
import Derived.Test.YtiahmfdabpafoaaDoorGab6
import Derived.Test.YtiahmfdabpafoaaDoorGab2
import Derived.Test.YtiahmfdabpafoaaDoorGab4
import Derived.Test.YtiahmfdabpafoaaDoorGab3
open Nat renaming reduceAdd→zA,reduceMul→zM,reduceSub→zS,reduceEqDiff→zE,reduceLeDiff→zL
set_option linter.unusedSimpArgs false
set_option linter.unusedVariables false
set_option maxRecDepth 100000
namespace Go.Lg
open Go.Proofs
theorem lineC_length(n line:Nat):(lineC n line).length=n:=by simp[lineC]
theorem lineC_nth{n line k:Nat}(h:k<n):nth (lineC n line) k=if line<n then((line*n+k:Nat):Int)else((k*n+line -n:Nat):Int):=by
 rw[nth_eq (by rw[lineC_length];omega)]
 simp[lineC]
theorem lineC_bound{n line k:Nat}(hn:n=2∨n=3∨n=4)(hl:line<2*n)(h:k<n):0≤nth (lineC n line) k∧nth (lineC n line) k<(n*n:Nat):=by
 rw[lineC_nth h]
 split<;>rcases hn with rfl|rfl|rfl<;>omega
theorem LineCells_own{n line:Nat}(hn:n=2∨n=3∨n=4)(hl:line<2*n):RunCall Tryd.prog 130 [int n,int line] [] (ownQ (eI .i64) 1 (lineC n line)):=by
 have hb:(line:Int)*n≤28∧0≤(line:Int)*n:=by rcases hn with rfl|rfl|rfl<;>omega
 have hn4:2≤n∧n≤4:=by omega
 have hlen:=lineC_length n line
 refine RunCall.cw (c:=_) Tryd.func130 rfl (n:=46) Tryd.ntmps130 (rs:=[.tmp 4]) rfl ?_
 simp only[List.length_cons,List.length_nil,zA,zS,List.replicate,List.cons_append,List.nil_append]
 simp(maxSteps:=999999)(disch:=omega)only[go_sem,zA,zM,zS,zE,zL]
 intro g
 refine loop_rule2 (fun(k g:Nat)=>n -k) (fun k g=>k≤n) (fun k g=>[.k, .k, .a, .a, .a, .p (.c (.own 0 g 0 k none)), .p (int k), .a, .a, .a, .a, .a, .a, .a, .a, .a, .a, .a, .a, .a, .a, .a, .a, .a, .a, .a, .a, .a, .a, .a, .a, .a, .a, .a, .a, .a, .a, .a, .a, .a, .a, .a, .a, .a, .a, .a]) (fun k g=>[some ⟨g,1,cl (eI .i64) ((lineC n line).take k)⟩]) 0 g
  (Nat.zero_le _) (by simp(maxSteps:=999999)(disch:=omega)only[go_sem,zA,zM,zS,zE,zL];rfl) (HLe.refl _) ?_
 intro k g hk
 simp(maxSteps:=999999)(disch:=omega)only[go_sem,zA,zM,zS,zE,zL]
 ((with_reducible first|refine guardK_dec ?_ ?_|refine guardK_ndec ?_ ?_|refine guardK_nb ?_ ?_|refine guardK_split ?_ ?_|refine guardQ_dec ?_ ?_|refine guardL_dec ?_ ?_|refine guardQ_ndec ?_ ?_|refine guardL_ndec ?_ ?_|refine guardQ_nb ?_ ?_|refine guardL_nb ?_ ?_|refine guardQ_split ?_ ?_|refine guardL_split ?_ ?_)<;>intro h1<;>simp(maxSteps:=999999)(disch:=omega)only[go_sem,zA,zM,zS,zE,zL,h1])
 · first|refine OpS.rd (l1In_run _ _ _) (⟨_,Tryd.func72,rfl,rfl⟩:Enters Tryd.prog 72) rfl rfl rfl rfl ?_|refine Loud.rd (l1In_run _ _ _) (⟨_,Tryd.func72,rfl,rfl⟩:Enters Tryd.prog 72) rfl rfl rfl rfl ?_
   simp(maxSteps:=999999)(disch:=omega)only[go_sem,zA,zM,zS,zE,zL]
   ((with_reducible first|refine guardK_dec ?_ ?_|refine guardK_ndec ?_ ?_|refine guardK_nb ?_ ?_|refine guardK_split ?_ ?_|refine guardQ_dec ?_ ?_|refine guardL_dec ?_ ?_|refine guardQ_ndec ?_ ?_|refine guardL_ndec ?_ ?_|refine guardQ_nb ?_ ?_|refine guardL_nb ?_ ?_|refine guardQ_split ?_ ?_|refine guardL_split ?_ ?_)<;>intro h2<;>simp(maxSteps:=999999)(disch:=omega)only[go_sem,zA,zM,zS,zE,zL,h2])
   rotate_left
   · exfalso;omega
   first|refine OpS.rd (l1In_run _ _ _) (⟨_,Tryd.func72,rfl,rfl⟩:Enters Tryd.prog 72) rfl rfl rfl rfl ?_|refine Loud.rd (l1In_run _ _ _) (⟨_,Tryd.func72,rfl,rfl⟩:Enters Tryd.prog 72) rfl rfl rfl rfl ?_
   simp(maxSteps:=999999)(disch:=omega)only[go_sem,zA,zM,zS,zE,zL]
   have h1:k<n:=by omega
   have hkb:(k:Int)*n≤16∧0≤(k:Int)*n:=by rcases hn with rfl|rfl|rfl<;>omega
   have hne:=lineC_nth (line:=line) h1
   ((first|(with_reducible first|refine condK_dec ?_ ?_|refine condK_ndec ?_ ?_|refine condK_nb ?_ ?_)|refine condK_b ?_ ?_)<;>intro h3)
   · simp(maxSteps:=999999)(disch:=omega)only[go_sem,zA,zM,zS,zE,zL]
     ((first|(with_reducible first|refine condK_dec ?_ ?_|refine condK_ndec ?_ ?_|refine condK_nb ?_ ?_)|refine condK_b ?_ ?_)<;>intro h4)
     · simp(maxSteps:=999999)(disch:=omega)only[go_sem,zA,zM,zS,zE,zL]
       intro g1 g2
       refine⟨k+1,g2,⟨by omega,by omega⟩,⟨⟨rfl,rfl⟩,by push_cast;omega⟩,hle_eq ?_ (hle_nil _)⟩
       rw[take_succ_nth (by omega),hne,if_pos (by omega)]
       push_cast
       rfl
     · simp(maxSteps:=999999)(disch:=omega)only[go_sem,zA,zM,zS,zE,zL]
       intro g1 g2
       refine⟨k+1,g2,⟨by omega,by omega⟩,⟨⟨rfl,rfl⟩,by push_cast;omega⟩,hle_eq ?_ (hle_nil _)⟩
       rw[take_succ_nth (by omega),hne,if_neg (by omega)]
       have:((k*n+line -n:Nat):Int)=(k:Int)*n+line -n:=by
        have:n≤k*n+line:=by omega
        omega
       rw[this]
   · exfalso;omega
 · have hi':k=n:=by omega
   subst hi'
   rw[List.take_of_length_le (by omega)]
   have:=lessQ_own (E:=eI .i64) (n:=1) (g:=g) (xs:=lineC k line) (HLe.refl [some ⟨g,1,cl (eI .i64) (lineC k line)⟩])
   rw[hlen]at this
   exact this
theorem LineCells_run{n line:Nat}(hn:n=2∨n=3∨n=4)(hl:line<2*n):Reads Tryd.prog 130 [int n,int line] (ints (lineC n line)):=Reads.own (LineCells_own hn hl)
theorem shl_small{v:Int}(h:0≤v∧v≤4):binI .shl .i64 1 .i64 v=some (.int .i64 ((2^v.toNat:Nat):Int)):=by
 obtain⟨k,rfl⟩:∃k:Nat,v=k:=⟨v.toNat,by omega⟩
 have hk:k=0∨k=1∨k=2∨k=3∨k=4:=by omega
 rcases hk with rfl|rfl|rfl|rfl|rfl<;>rfl
theorem shr_small{s:Nat}{v:Int}(h:0≤v∧v≤4):binI .shr .i64 (s:Int) .i64 v=some (.int .i64 ((s>>>v.toNat:Nat):Int)):=by
 obtain⟨k,rfl⟩:∃k:Nat,v=k:=⟨v.toNat,by omega⟩
 simp only[binI]
 rw[if_neg (by omega)]
 have hb:min (k:Int).toNat IntKind.i64.bits=k:=by
  rw[Int.toNat_natCast]
  have:IntKind.i64.bits=64:=rfl
  omega
 rw[hb,Int.toNat_natCast,Nat.shiftRight_eq_div_pow]
 have e:((s:Int)).fdiv (2^k)=((s/2^k:Nat):Int):=by
  rw[Int.fdiv_eq_ediv_of_nonneg _ (by have:(0:Int)<2^k:=Int.pow_pos (by omega);omega)]
  push_cast
  rfl
 rw[e]
theorem or_small{a b:Nat}(ha:a<2^62)(hb:b<2^62):bitsI .or .i64 (a:Int) (b:Int)=((a|||b:Nat):Int):=by
 have hz:a|||b<2^62:=Nat.or_lt_two_pow ha hb
 have e:(BitVec.ofInt 64 (a:Int)|||BitVec.ofInt 64 (b:Int)).toNat=a|||b:=by
  simp only[BitVec.toNat_or,BitVec.ofInt_natCast,BitVec.toNat_ofNat]
  rw[Nat.mod_eq_of_lt (by omega),Nat.mod_eq_of_lt (by omega)]
 unfold bitsI
 show IntKind.wrap .i64 ((BitVec.ofInt 64 (a:Int)|||BitVec.ofInt 64 (b:Int)).toNat:Int)=_
 rw[e]
 exact ok_i64 (by omega)
theorem bit_mod{s k:Nat}:decide ((((s>>>k:Nat):Int)).tmod 2=1)=s.testBit k:=by
 rw[Nat.testBit_eq_decide_div_mod_eq,Nat.shiftRight_eq_div_pow]
 generalize s/2^k=m
 rw[tmod_nn (by omega),decide_eq_decide]
 omega
theorem clashC_cons(xs:List Int)(c:Int)(cs:List Int)(seen:Nat):clashC xs (c::cs) seen=if(decide (0<nth xs c)&&seen.testBit (nth xs c).toNat)=true then true else clashC xs cs (seen|||2^(nth xs c).toNat):=rfl
theorem l2Clash_run{n:Nat}(hn:n=2∨n=3∨n=4)(xs:List Int)(hl:xs.length=n*n)(hv:∀k:Nat,k<xs.length→0≤nth xs k∧nth xs k≤4):Reads Tryd.prog 115 [ints xs,int n] (bool (clash xs n)):=by
 have hn4:2≤n∧n≤4:=by omega
 refine RunCall.cw (c:=_) Tryd.func115 rfl (n:=45) Tryd.ntmps115 (rs:=[.tmp 4]) rfl ?_
 simp only[List.length_cons,List.length_nil,zA,zS,List.replicate,List.cons_append,List.nil_append]
 simp(maxSteps:=999999)(disch:=omega)only[go_sem,zA,zM,zS,zE,zL]
 refine loop_rule (fun i:Nat=>2*n -i) (fun i=>i≤2*n∧∀j,j<i→clashC xs (lineC n j) 0=false) (fun i=>[.k, .k, .a, .a, .a, .p (int i), .a, .a, .a, .a, .a, .a, .a, .a, .a, .a, .a, .a, .a, .a, .a, .a, .a, .a, .a, .a, .a, .a, .a, .a, .a, .a, .a, .a, .a, .a, .a, .a, .a, .a, .a, .a, .a, .a, .a]) (fun _=>[]) 0 ⟨Nat.zero_le _,fun j hj=>absurd hj (Nat.not_lt_zero _)⟩ (by simp(maxSteps:=999999)(disch:=omega)only[go_sem,zA,zM,zS,zE,zL];rfl) (hle_nil _) ?_
 rintro i ⟨hi,hno⟩
 simp(maxSteps:=999999)(disch:=omega)only[go_sem,zA,zM,zS,zE,zL]
 ((first|(with_reducible first|refine condK_dec ?_ ?_|refine condK_ndec ?_ ?_|refine condK_nb ?_ ?_)|refine condK_b ?_ ?_)<;>intro h1)
 · have h1:i<2*n:=by omega
   simp(maxSteps:=999999)(disch:=omega)only[go_sem,zA,zM,zS,zE,zL]
   first|refine OpS.mk (LineCells_run hn h1) (⟨_,Tryd.func130,rfl,rfl⟩:Enters Tryd.prog 130) rfl rfl rfl rfl rfl ?_|refine Loud.mk (LineCells_run hn h1) (⟨_,Tryd.func130,rfl,rfl⟩:Enters Tryd.prog 130) rfl rfl rfl rfl rfl ?_
   simp(maxSteps:=999999)(disch:=omega)only[go_sem,zA,zM,zS,zE,zL]
   have hlen:=lineC_length n i
   refine loop_rule2 (fun(k seen:Nat)=>n -k) (fun k seen=>k≤n∧clashC xs (lineC n i) 0=clashC xs ((lineC n i).drop k) seen∧seen<32) (fun k seen=>[.k, .k, .a, .a, .a, .k, .k, .p (int seen), .p (int k), .a, .a, .a, .a, .a, .a, .a, .a, .a, .a, .a, .a, .a, .a, .a, .a, .a, .a, .a, .a, .a, .a, .a, .a, .a, .a, .a, .a, .a, .a, .a, .a, .a, .a, .a, .a]) (fun _ _=>[]) 0 0 ⟨Nat.zero_le _,rfl,by omega⟩ (by simp(maxSteps:=999999)(disch:=omega)only[go_sem,zA,zM,zS,zE,zL];rfl) (hle_nil _) ?_
   rintro k seen ⟨hk,hc,hs⟩
   simp(maxSteps:=999999)(disch:=omega)only[go_sem,zA,zM,zS,zE,zL]
   ((first|(with_reducible first|refine condK_dec ?_ ?_|refine condK_ndec ?_ ?_|refine condK_nb ?_ ?_)|refine condK_b ?_ ?_)<;>intro h2)
   · have h2:k<n:=by omega
     obtain⟨hb0,hb1⟩:=lineC_bound hn h1 h2
     obtain⟨c,hcc⟩:∃c:Nat,nth (lineC n i) k=c:=⟨(nth (lineC n i) k).toNat,by omega⟩
     have hcl:c<xs.length:=by omega
     have hvc:=hv c hcl
     have hd:(lineC n i).drop k=(c:Int)::(lineC n i).drop (k+1):=by
      rw[List.drop_eq_getElem_cons (by omega),←hcc,nth_eq (by omega)]
      simp
     rw[hd,clashC_cons]at hc
     have hor:seen|||2^(nth xs c).toNat<32:=by
      refine Nat.or_lt_two_pow (n:=5) (by omega) ?_
      have:(nth xs c).toNat=0∨(nth xs c).toNat=1∨(nth xs c).toNat=2∨(nth xs c).toNat=3∨(nth xs c).toNat=4:=by omega
      rcases this with h|h|h|h|h<;>rw[h]<;>omega
     have hpw:2^(nth xs c).toNat<2^62:=Nat.pow_lt_pow_right (by omega) (by omega)
     simp(maxSteps:=999999)(disch:=omega)only[go_sem,zA,zM,zS,zE,zL,hcc]
     ((with_reducible first|refine guardK_dec ?_ ?_|refine guardK_ndec ?_ ?_|refine guardK_nb ?_ ?_|refine guardK_split ?_ ?_|refine guardQ_dec ?_ ?_|refine guardL_dec ?_ ?_|refine guardQ_ndec ?_ ?_|refine guardL_ndec ?_ ?_|refine guardQ_nb ?_ ?_|refine guardL_nb ?_ ?_|refine guardQ_split ?_ ?_|refine guardL_split ?_ ?_)<;>intro h3<;>simp(maxSteps:=999999)(disch:=omega)only[go_sem,zA,zM,zS,zE,zL,h3])
     · simp(maxSteps:=999999)(disch:=omega)only[go_sem,zA,zM,zS,zE,zL,shr_small hvc,bit_mod]
       ((first|(with_reducible first|refine condK_dec ?_ ?_|refine condK_ndec ?_ ?_|refine condK_nb ?_ ?_)|refine condK_b ?_ ?_)<;>intro h4)
       · simp(maxSteps:=999999)(disch:=omega)only[go_sem,zA,zM,zS,zE,zL]
         have hcl:clashC xs (lineC n i) 0=true:=by rw[hc,if_pos (by simp[h3,h4])]
         unfold clash
         rw[eq_comm,List.any_eq_true]
         exact⟨i,List.mem_range.2 h1,hcl⟩
       · simp(maxSteps:=999999)(disch:=omega)only[go_sem,zA,zM,zS,zE,zL,shl_small hvc,or_small (show seen<2^62 by omega) hpw]
         exact⟨k+1,_,⟨⟨by omega,by rw[hc,if_neg (by simp[h4])],hor⟩,by omega⟩,⟨rfl,by push_cast;omega⟩,hle_nil _⟩
     · simp(maxSteps:=999999)(disch:=omega)only[go_sem,zA,zM,zS,zE,zL,shl_small hvc,or_small (show seen<2^62 by omega) hpw]
       exact⟨k+1,_,⟨⟨by omega,by rw[hc,if_neg (by simp;omega)],hor⟩,by omega⟩,⟨rfl,by push_cast;omega⟩,hle_nil _⟩
   · have hkn:k=n:=by omega
     have hc':clashC xs (lineC n i) 0=false:=by rw[hc,hkn,List.drop_of_length_le (by omega)];rfl
     simp(maxSteps:=999999)(disch:=omega)only[go_sem,zA,zM,zS,zE,zL]
     refine⟨i+1,⟨⟨by omega,fun j hj=> ?_⟩,by omega⟩,by push_cast;omega,hle_nil _⟩
     by_cases hji:j=i
     · rw[hji];exact hc'
     · exact hno j (by omega)
 · simp(maxSteps:=999999)(disch:=omega)only[go_sem,zA,zM,zS,zE,zL]
   unfold clash
   rw[eq_comm,List.any_eq_false]
   intro j hj
   rw[hno j (by have:=List.mem_range.1 hj;omega)]
   simp
end Go.Lg

namespace Go.Lg
open Go.ChangeShapes Go.WideShapes Go.ChangeAt Go.RowKit
def CsF(w:World)(I:Nat→Prop)(ys:List FV)(cs:List Value):Prop:=
 ys.length=cs.length∧∀j (h:j<ys.length),∃u,cs[j]? =some u∧VF w I ys[j] u
section
variable{w:World}{I:Nat→Prop}
theorem CsF.nil:CsF w I [] []:=⟨rfl,fun j h=>absurd h (Nat.not_lt_zero _)⟩
theorem CsF.one{y:FV}{v:Value}(h:VF w I y v):CsF w I [y] [v]:=⟨rfl,fun j hj=>by
 have:j=0:=by simpa using hj
 subst this;exact⟨v,rfl,h⟩⟩
theorem CsF.app{ys ys':List FV}{cs cs':List Value}(h:CsF w I ys cs)(h':CsF w I ys' cs'):CsF w I (ys++ys') (cs++cs'):=by
 refine⟨by simp[h.1,h'.1],fun j hj=> ?_⟩
 by_cases hl:j<ys.length
 · obtain⟨u,h1,h2⟩:=h.2 j hl
   refine⟨u,by rw[List.getElem?_append_left (by rw[←h.1];exact hl)];exact h1, ?_⟩
   rw[List.getElem_append_left hl];exact h2
 · have hj':j -ys.length<ys'.length:=by simp at hj;omega
   obtain⟨u,h1,h2⟩:=h'.2 _ hj'
   refine⟨u,by rw[List.getElem?_append_right (by rw[←h.1];omega),←h.1];exact h1, ?_⟩
   rw[List.getElem_append_right (by omega)];exact h2
end
section
variable{H:Type}{enc:TypeId×Value→H}{P:Program}{W:World}
theorem CsF.agg{ys:List FV}{cs:Array Value}(h:CsF W (Cx.base W).I ys cs.toList):VA W (Cx.base W) [] (.agg (ys.map .f)) (.agg cs):=by
 refine .agg _ _ (by simpa using h.1.symm) fun j hj=> ?_
 have hj':j<ys.length:=by simpa using hj
 obtain⟨u,h1,h2⟩:=h.2 j hj'
 refine⟨u,by simpa using h1, ?_⟩
 rw[List.getElem_map];exact h2
theorem CsF.val{y:FV}{v:Value}(h:CsF W (Cx.base W).I [y] [v]):VA W (Cx.base W) [] (.c (.f y)) v:=by
 obtain⟨u,h1,h2⟩:=h.2 0 (by simp)
 have:v=u:=by simpa using h1
 subst this
 exact .c _ _ h2
end
end Go.Lg

namespace Go.Lg
open Go.Proofs
theorem prodV_app(vs:List Int)(v:Int):prodV (vs++[v])=prodV vs*v:=by simp[prodV]
theorem prodV_bound:∀(n:Nat) (vs:List Int),vs.length≤n→(∀v∈vs,0≤v∧v≤4)→0≤prodV vs∧prodV vs≤4^n:=by
 intro n
 induction n with
 |zero=>intro vs h _;have:vs=[]:=List.eq_nil_of_length_eq_zero (by omega);subst this;simp[prodV]
 |succ n ih=>
  intro vs h hv
  rcases List.eq_nil_or_concat vs with rfl|⟨ws,w,rfl⟩
  · exact⟨by simp[prodV],by simp only[prodV,List.foldl_nil];have:(0:Int)<4^(n+1):=Int.pow_pos (by omega);omega⟩
  · obtain⟨h1,h2⟩:=ih ws (by simp at h;omega) fun v hm=>hv v (by simp[hm])
    have hw:=hv w (by simp)
    rw[List.concat_eq_append,prodV_app]
    refine⟨Int.mul_nonneg h1 hw.1, ?_⟩
    have:=Int.mul_le_mul h2 hw.2 hw.1 (by omega)
    rw[Int.pow_succ]
    exact this
theorem prodV_take{vs:List Int}(h:vs.length≤4)(hv:∀v∈vs,0≤v∧v≤4)(k:Nat):0≤prodV (vs.take k)∧prodV (vs.take k)≤256:=by
 have:=prodV_bound 4 (vs.take k) (by simp;omega) fun v hm=>hv v (List.mem_of_mem_take hm)
 omega
theorem sum_take{vs:List Int}(h:vs.length≤4)(hv:∀v∈vs,0≤v∧v≤4)(k:Nat):0≤(vs.take k).sum∧(vs.take k).sum≤16:=by
 have gen:∀(ws:List Int),(∀v∈ws,0≤v∧v≤4)→0≤ws.sum∧ws.sum≤4*ws.length:=by
  intro ws hw
  induction ws with
  |nil=>simp
  |cons w ws ih=>
   have h1:=ih fun v hm=>hw v (by simp[hm])
   have h2:=hw w (by simp)
   simp only[List.sum_cons,List.length_cons]
   push_cast
   omega
 have:=gen (vs.take k) fun v hm=>hv v (List.mem_of_mem_take hm)
 have:(vs.take k).length≤4:=by simp;omega
 omega
theorem nodup_take{vs:List Int}{k:Nat}(h:k<vs.length):(vs.take (k+1)).Nodup↔(vs.take k).Nodup∧∀i:Nat,i<k→nth vs i≠nth vs k:=by
 rw[take_succ_nth h,List.nodup_append]
 constructor
 · rintro⟨h1,_,h3⟩
   refine⟨h1,fun i hi=>h3 _ ?_ _ (by simp)⟩
   rw[nth_eq (by omega)]
   simp only[Int.toNat_natCast]
   exact List.mem_take_iff_getElem.2 ⟨i,by omega,rfl⟩
 · rintro⟨h1,h2⟩
   refine⟨h1,by simp,fun a ha b hb=> ?_⟩
   obtain⟨i,hi,rfl⟩:=List.mem_take_iff_getElem.1 ha
   have:=h2 i (by omega)
   rw[nth_eq (by omega)]at this
   simp only[Int.toNat_natCast]at this
   simp only[List.mem_singleton]at hb
   rw[hb]
   exact this
theorem l4Holds_run(r:Rul)(vs:List Int)(hl:vs.length≤4)(hv:∀v∈vs,0≤v∧v≤4)(hk:r.kind=1∨r.kind=2∨r.kind=3∨2≤vs.length):Reads Tryd.prog 146 [aR r,ints vs] (bool (holdsV r vs)):=by
 have hnv:∀k:Nat,k<vs.length→0≤nth vs k∧nth vs k≤4:=fun k hk=>hv _ (by rw[nth_eq (by omega)];exact List.getElem_mem _)
 have hpt:=prodV_take hl hv
 have hst:=sum_take hl hv
 refine RunCall.cw (c:=_) Tryd.func146 rfl (n:=86) Tryd.ntmps146 (rs:=[.tmp 4]) rfl ?_
 simp only[List.length_cons,List.length_nil,zA,zS,List.replicate,List.cons_append,List.nil_append]
 simp(maxSteps:=999999)(disch:=omega)only[go_sem,zA,zM,zS,zE,zL]
 intro g
 refine loop_rule (fun k:Nat=>vs.length -k) (fun k=>k≤vs.length) (fun k=>[.a, .k, .k, .a, .a, .p (int (vs.take k).sum), .p (int (prodV (vs.take k))), .p (bool (decide (vs.take k).Nodup)), .p (int k), .a, .a, .a, .a, .a, .a, .a, .a, .a, .a, .a, .a, .a, .a, .a, .a, .a, .a, .a, .a, .a, .a, .a, .a, .a, .a, .a, .a, .a, .a, .a, .a, .a, .a, .a, .a, .a, .a, .a, .a, .a, .a, .a, .a, .a, .a, .a, .a, .a, .a, .a, .a, .a, .a, .a, .a, .a, .a, .a, .a, .a, .a, .a, .a, .a, .a, .a, .a, .a, .a, .a, .a, .a, .a, .a, .a, .a]) (fun _=>[some ⟨g,1,cR r⟩]) 0 (Nat.zero_le _) (by simp(maxSteps:=999999)(disch:=omega)only[go_sem,zA,zM,zS,zE,zL];simp[prodV]) (HLe.refl _) ?_
 intro k hk'
 simp(maxSteps:=999999)(disch:=omega)only[go_sem,zA,zM,zS,zE,zL]
 ((first|(with_reducible first|refine condK_dec ?_ ?_|refine condK_ndec ?_ ?_|refine condK_nb ?_ ?_)|refine condK_b ?_ ?_)<;>intro h1)
 · have h1:k<vs.length:=by omega
   have e1:(vs.take (k+1)).sum=(vs.take k).sum+nth vs k:=by rw[take_succ_nth h1];simp
   have e2:prodV (vs.take (k+1))=prodV (vs.take k)*nth vs k:=by rw[take_succ_nth h1,prodV_app]
   have b1:=hst (k+1)
   have b2:=hpt (k+1)
   rw[e1]at b1
   rw[e2]at b2
   simp(maxSteps:=999999)(disch:=omega)only[go_sem,zA,zM,zS,zE,zL]
   refine loop_rule (fun j:Nat=>k -j) (fun j=>j≤k) (fun j=>[.a, .k, .k, .a, .a, .k, .k, .p (bool (decide ((vs.take k).Nodup∧∀i:Nat,i<j→nth vs i≠nth vs k))), .k, .p (int j), .a, .a, .a, .a, .a, .a, .a, .a, .a, .a, .a, .a, .a, .a, .a, .a, .a, .a, .a, .a, .a, .a, .a, .a, .a, .a, .a, .a, .a, .a, .a, .a, .a, .a, .a, .a, .a, .a, .a, .a, .a, .a, .a, .a, .a, .a, .a, .a, .a, .a, .a, .a, .a, .a, .a, .a, .a, .a, .a, .a, .a, .a, .a, .a, .a, .a, .a, .a, .a, .a, .a, .a, .a, .a, .a, .a]) (fun _=>[some ⟨g,1,cR r⟩]) 0 (Nat.zero_le _) (by simp(maxSteps:=999999)(disch:=omega)only[go_sem,zA,zM,zS,zE,zL];exact⟨by simp,rfl⟩) (HLe.refl _) ?_
   intro j hj
   have hd:((vs.take k).Nodup∧∀i:Nat,i<j+1→nth vs i≠nth vs k)↔((vs.take k).Nodup∧∀i:Nat,i<j→nth vs i≠nth vs k)∧nth vs j≠nth vs k:=by
    constructor
    · rintro⟨a,b⟩
      exact⟨⟨a,fun i hi=>b i (by omega)⟩,b j (by omega)⟩
    · rintro⟨⟨a,b⟩,c⟩
      refine⟨a,fun i hi=> ?_⟩
      by_cases hij:i=j
      · rw[hij];exact c
      · exact b i (by omega)
   generalize hb:decide ((vs.take k).Nodup∧∀i:Nat,i<j→nth vs i≠nth vs k)=b
   cases b with
   |false=>
    simp(maxSteps:=999999)(disch:=omega)only[go_sem,zA,zM,zS,zE,zL]
    ((first|(with_reducible first|refine condK_dec ?_ ?_|refine condK_ndec ?_ ?_|refine condK_nb ?_ ?_)|refine condK_b ?_ ?_)<;>intro h2)
    · have h2:j<k:=by omega
      simp(maxSteps:=999999)(disch:=omega)only[go_sem,zA,zM,zS,zE,zL]
      refine drawP_q foll (by kernel_rfl) ?_
      simp(maxSteps:=999999)(disch:=omega)only[go_sem,Nat.reduceBEq,Bool.true_or,zA,zM,zS,zE,zL]
      refine⟨j+1,⟨by omega,by omega⟩,⟨?_,by push_cast;omega⟩,HLe.refl _⟩
      rw[eq_comm,decide_eq_false_iff_not,hd]
      exact fun h=>(decide_eq_false_iff_not.1 hb) h.1
    · have hjk:j=k:=by omega
      simp(maxSteps:=999999)(disch:=omega)only[go_sem,zA,zM,zS,zE,zL]
      refine⟨k+1,⟨by omega,by omega⟩,⟨e1.symm,e2.symm, ?_,by push_cast;omega⟩,HLe.refl _⟩
      rw[eq_comm,decide_eq_false_iff_not,nodup_take h1,←hjk]
      rw[hjk]at hb⊢
      exact decide_eq_false_iff_not.1 hb
   |true=>
    simp(maxSteps:=999999)(disch:=omega)only[go_sem,zA,zM,zS,zE,zL]
    ((first|(with_reducible first|refine condK_dec ?_ ?_|refine condK_ndec ?_ ?_|refine condK_nb ?_ ?_)|refine condK_b ?_ ?_)<;>intro h2)
    · have h2:j<k:=by omega
      have hjl:j<vs.length:=by omega
      simp(maxSteps:=999999)(disch:=omega)only[go_sem,zA,zM,zS,zE,zL]
      refine drawP_q foll (by kernel_rfl) ?_
      simp(maxSteps:=999999)(disch:=omega)only[go_sem,Nat.reduceBEq,Bool.true_or,zA,zM,zS,zE,zL]
      refine⟨j+1,⟨by omega,by omega⟩,⟨?_,by push_cast;omega⟩,HLe.refl _⟩
      have hb':=of_decide_eq_true hb
      by_cases he:nth vs (j:Int)=nth vs (k:Int)
      · rw[decide_eq_true he,eq_comm,Bool.not_true,decide_eq_false_iff_not,hd]
        exact fun h=>h.2 he
      · rw[decide_eq_false he,eq_comm,Bool.not_false,decide_eq_true_eq,hd]
        exact⟨hb',he⟩
    · have hjk:j=k:=by omega
      simp(maxSteps:=999999)(disch:=omega)only[go_sem,zA,zM,zS,zE,zL]
      refine⟨k+1,⟨by omega,by omega⟩,⟨e1.symm,e2.symm, ?_,by push_cast;omega⟩,HLe.refl _⟩
      rw[eq_comm,decide_eq_true_eq,nodup_take h1]
      rw[hjk]at hb
      exact of_decide_eq_true hb
 · simp(maxSteps:=999999)(disch:=omega)only[go_sem,zA,zM,zS,zE,zL]
   rw[List.take_of_length_le (by omega)]
   have hkl:vs.take k=vs:=List.take_of_length_le (by omega)
   ((first|(with_reducible first|refine condK_dec ?_ ?_|refine condK_ndec ?_ ?_|refine condK_nb ?_ ?_)|refine condK_b ?_ ?_)<;>intro d1)
   · simp(maxSteps:=999999)(disch:=omega)only[go_sem,zA,zM,zS,zE,zL]
     unfold holdsV
     rw[if_pos d1]
   simp(maxSteps:=999999)(disch:=omega)only[go_sem,zA,zM,zS,zE,zL]
   ((first|(with_reducible first|refine condK_dec ?_ ?_|refine condK_ndec ?_ ?_|refine condK_nb ?_ ?_)|refine condK_b ?_ ?_)<;>intro d2)
   · simp(maxSteps:=999999)(disch:=omega)only[go_sem,zA,zM,zS,zE,zL]
     unfold holdsV
     rw[if_neg d1,if_pos d2]
   simp(maxSteps:=999999)(disch:=omega)only[go_sem,zA,zM,zS,zE,zL]
   ((first|(with_reducible first|refine condK_dec ?_ ?_|refine condK_ndec ?_ ?_|refine condK_nb ?_ ?_)|refine condK_b ?_ ?_)<;>intro d3)
   · simp(maxSteps:=999999)(disch:=omega)only[go_sem,zA,zM,zS,zE,zL]
     unfold holdsV
     rw[if_neg d1,if_neg d2,if_pos d3]
   have hl2:2≤vs.length:=by omega
   simp(maxSteps:=999999)(disch:=omega)only[go_sem,zA,zM,zS,zE,zL]
   have v0:0≤nth vs (0:Int)∧nth vs (0:Int)≤4:=hnv 0 (by omega)
   have v1:0≤nth vs (1:Int)∧nth vs (1:Int)≤4:=hnv 1 (by omega)
   ((first|(with_reducible first|refine condK_dec ?_ ?_|refine condK_ndec ?_ ?_|refine condK_nb ?_ ?_)|refine condK_b ?_ ?_)<;>intro d4)
   · simp(maxSteps:=999999)(disch:=omega)only[go_sem,zA,zM,zS,zE,zL]
     refine drawP_q foll (by kernel_rfl) ?_
     simp(maxSteps:=999999)(disch:=omega)only[go_sem,Nat.reduceBEq,Bool.true_or,zA,zM,zS,zE,zL]
     unfold holdsV
     rw[if_neg d1,if_neg d2,if_neg d3,if_pos d4]
   · simp(maxSteps:=999999)(disch:=omega)only[go_sem,zA,zM,zS,zE,zL]
     refine drawP_q foll (by kernel_rfl) ?_
     simp(maxSteps:=999999)(disch:=omega)only[go_sem,Nat.reduceBEq,Bool.true_or,zA,zM,zS,zE,zL]
     unfold holdsV
     rw[if_neg d1,if_neg d2,if_neg d3,if_neg d4,show(0:Int) -(nth vs 0 -nth vs 1)=nth vs 1 -nth vs 0 by omega]
end Go.Lg

namespace Go.Lg
attribute [-go_sem] appendM
theorem softW_call{P:Program}{ops:Array Oper}{o:Oper}{s:List AV}{K:AV→Prop}{fo:Operand}{xs:Array Operand}{ts:Array TypeId}{f:FuncId}{args:List AV}{v:AV}
 (hc:Reads P f args v) (he:Enters P f) (ho:o.op= .call ⟨.value fo,xs,ts⟩) (ha:callArgs ⟨s,[]⟩ fo xs=some (f,args)) (hz:∀x∈Call.operands ⟨.value fo,xs,ts⟩,frozenA (evO s x)=true) (hf:args.all frozenA=true)
 (hv:frozen1 v=true∧tupOk v=true∧shiftA 0 v=v∧frzA [] v=some v) (hk:K v):softW P ops o s K:=by
 unfold softW
 rw[ho]
 refine⟨v,fun H=>Soft.ops (by rw[ho];exact hz) hv.1 fun s' hs'=> ?_,hk⟩
 refine OpS.mk hc he ho ?_ hf hv.2.1 hv.2.2.1 hv.2.2.2
 rw[callArgs_congr (s:=s) (H:=[]) ts fun x hx=>hs' x (by rw[ho];exact hx)]
 exact ha
inductive OwnE(H:Heap):CV→List Int→List Nat→Prop where
 |m:OwnE H .emp [] []
 |o (id g:Nat) (xs:List Int) (h:look H id g=some ⟨g,1,cl (eI .i64) xs⟩):OwnE H (.own id g 0 xs.length none) xs [id]
theorem OwnE.frzC{H:Heap}{c:CV}{xs:List Int}{S:List Nat}(h:OwnE H c xs S):Lg.frzC H c=some (.f (fints xs)):=by
 cases h with
 |m=>rfl
 |o id g xs h=>exact(OwnI.o id g none xs [] (by rw[List.append_nil];exact h)).frzC
theorem OwnE.same{H H':Heap}{c:CV}{xs:List Int}{S:List Nat}(h:OwnE H c xs S)(hs:∀i∈S,H'[i]? =H[i]?):OwnE H' c xs S:=by
 cases h with
 |m=>exact .m
 |o id g xs h=>exact .o id g xs (by unfold look at*;rw[hs id (by simp)];exact h)
theorem OwnE.shift{H0 H:Heap}{c:CV}{xs:List Int}{S:List Nat}(h:OwnE H c xs S):OwnE (H0++shiftH H0.length H) (shiftC H0.length c) xs (S.map (· +H0.length)):=by
 cases h with
 |m=>exact .m
 |o id g xs h=>
  refine .o (id+H0.length) g xs ?_
  rw[look_shiftH h]
  simp only[shiftB,shift_cl]
theorem OwnE.lt{H:Heap}{c:CV}{xs:List Int}{S:List Nat}(h:OwnE H c xs S):∀i∈S,i<H.length:=by
 cases h with
 |m=>simp
 |o id g xs h=>intro i hi;have:i=id:=by simpa using hi
               subst this;exact(List.getElem?_eq_some_iff.1 (look_some h).1).1
theorem OwnE.nd{H:Heap}{c:CV}{xs:List Int}{S:List Nat}(h:OwnE H c xs S):S.Nodup:=by cases h<;>simp
theorem OwnE.inv{H:Heap}{c:CV}{xs:List Int}{S:List Nat}(h:OwnE H c xs S)(hn:xs≠[]):∃id g,c= .own id g 0 xs.length none∧S=[id]∧look H id g=some ⟨g,1,cl (eI .i64) xs⟩:=by
 cases h with
 |m=>exact absurd rfl hn
 |o id g xs h=>exact⟨id,g,rfl,rfl,h⟩
end Go.Lg
