/- GpEB, GpI2, GpDF, cut to what is needed. -/
import Derived.Test.YtiahmfdabpafoaaDoorGac1
import Derived.Test.YtiahmfdabpafoaaDoorGac0
open Nat renaming reduceAdd→zA,reduceMul→zM,reduceSub→zS,reduceEqDiff→zE,reduceLeDiff→zL
set_option linter.unusedSimpArgs false
set_option linter.unusedVariables false
set_option maxRecDepth 100000
namespace Go.Lg
open Go.Proofs
theorem and_bit{m k:Nat}(hm:m<2^62):decide (bitsI .and .i64 ((m>>>k:Nat):Int) 1=1)=m.testBit k:=by
 have hs:m>>>k<2^62:=by rw[Nat.shiftRight_eq_div_pow];exact Nat.lt_of_le_of_lt (Nat.div_le_self _ _) hm
 have e:(BitVec.ofInt 64 ((m>>>k:Nat):Int)&&&BitVec.ofInt 64 1).toNat=(m>>>k)&&&1:=by
  have h1:BitVec.ofInt 64 1=BitVec.ofNat 64 1:=rfl
  rw[h1]
  simp only[BitVec.toNat_and,BitVec.ofInt_natCast,BitVec.toNat_ofNat]
  rw[Nat.mod_eq_of_lt (by omega)]
 have e2:bitsI .and .i64 ((m>>>k:Nat):Int) 1=(((m>>>k)%2:Nat):Int):=by
  unfold bitsI
  show IntKind.wrap .i64 ((BitVec.ofInt 64 ((m>>>k:Nat):Int)&&&BitVec.ofInt 64 1).toNat:Int)=_
  rw[e,Nat.and_one_is_mod]
  exact ok_i64 (by omega)
 rw[e2,Nat.testBit_eq_decide_div_mod_eq,Nat.shiftRight_eq_div_pow,decide_eq_decide]
 omega
section
variable{P:Program}{o:Oper}{st:St}{K:KV}{fo:Operand}{xs:Array Operand}{ts:Array TypeId}{f:FuncId}{args:List AV}{caps:List AV}{Q:KV}
theorem OpS.runFn(hc:RunCall P f args st.h Q)(he:Enters P f)(ho:o.op= .call ⟨.value fo,xs,ts⟩)(ht:target st.h (evO st.s fo)=some (f,caps))(ha:xs.toList.map (evO st.s)++caps=args)(hk:∀r H',Q r H'→K r H'):OpS P o st K:=by
 refine OpS.call ho ht he ?_
 rw[ha]
 exact hc.mono hk
end
def wayH(r:Rul)(os:List Nat)(g0 g1 g2 g3 g4 g5 g6:Nat)(f:FuncId)(o:List Nat)(vs:List Int):Heap:=
 [some ⟨g0,1,cR r⟩,some ⟨g1,1,[.f (fints (nats os))]⟩,some ⟨g2,1,cl (eI .i64) (nats o)⟩,some ⟨g3,1,[.own 2 g2 0 os.length none]⟩,some ⟨g4,1,cl (eI .i64) vs⟩,some ⟨g5,1,[.own 4 g4 0 os.length none]⟩,
   some ⟨g6,1,[.fn f [(1,g1),(0,g0),(5,g5),(3,g3),(6,g6)]]⟩]
theorem ways_run(r:Rul)(os:List Nat)(g0 g1 g2 g3 g4 g5 g6:Nat)(hos:os.length≤4)(hob:∀m∈os,m<32)(hk:r.kind=1∨r.kind=2∨r.kind=3∨(r.kind=4∨r.kind=5)∧2≤os.length):
 ∀(d i:Nat) (o:List Nat) (vs:List Int),i+d=os.length→o.length=os.length→vs.length=os.length→(∀x∈o,x<32)→(∀v∈vs,0≤v∧v≤4)→
 RunCall Tryd.prog 139 [int i, .c (.ptr 1 g1 0), .c (.ptr 0 g0 0), .c (.ptr 5 g5 0), .c (.ptr 3 g3 0), .c (.ptr 6 g6 0)] (wayH r os g0 g1 g2 g3 g4 g5 g6 139 o vs)
  (fun v H'=>v= .tup []∧∃vs',vs'.length=os.length∧vs'.take i=vs.take i∧(∀v∈vs',0≤v∧v≤4)∧H'=wayH r os g0 g1 g2 g3 g4 g5 g6 139 (ways r (os.drop i) (vs.take i) o) vs')
 |0,i,o,vs,hd,hol,hvl,ho,hv=>by
  have hnl:(nats os).length=os.length:=nats_length os
  have hno:(nats o).length=os.length:=by rw[nats_length,hol]
  unfold wayH
  refine RunCall.cw (c:=_) Tryd.func139 rfl (n:=53) Tryd.ntmps139 (rs:=[]) rfl ?_
  simp only[List.length_cons,List.length_nil,zA,zS,List.replicate,List.cons_append,List.nil_append]
  simp(maxSteps:=999999)(disch:=omega)only[go_sem,zA,zM,zS,zE,zL]
  ((first|(with_reducible first|refine condK_dec ?_ ?_|refine condK_ndec ?_ ?_|refine condK_nb ?_ ?_)|refine condK_b ?_ ?_)<;>intro c1)
  · simp(maxSteps:=999999)(disch:=omega)only[go_sem,zA,zM,zS,zE,zL]
    have hown:OwnI (wayH r os g0 g1 g2 g3 g4 g5 g6 139 o vs) (.own 4 g4 0 os.length none) vs [4]:=by
     have:=OwnI.o (H:=wayH r os g0 g1 g2 g3 g4 g5 g6 139 o vs) 4 g4 none vs [] (by rw[List.append_nil];unfold wayH;simp only[go_sem])
     rwa [hvl]at this
    unfold wayH at hown
    refine OpS.rdD (valuesHold_run r vs (by omega) hv (by omega)) (⟨_,Tryd.func140,rfl,rfl⟩:Enters Tryd.prog 140) rfl rfl (snap_two rfl hown.snap) rfl ?_
    have hdr:os.drop i=[]:=List.drop_of_length_le (by omega)
    have htk:vs.take i=vs:=List.take_of_length_le (by omega)
    simp(maxSteps:=999999)(disch:=omega)only[go_sem,zA,zM,zS,zE,zL]
    ((first|(with_reducible first|refine condK_dec ?_ ?_|refine condK_ndec ?_ ?_|refine condK_nb ?_ ?_)|refine condK_b ?_ ?_)<;>intro c2)
    · simp(maxSteps:=999999)(disch:=omega)only[go_sem,zA,zM,zS,zE,zL]
      refine loop_rule (fun k:Nat=>os.length -k) (fun k=>k≤os.length) (fun k=>[.a, .a, .a, .a, .k, .a, .a, .a, .a, .a, .a, .a, .a, .a, .a, .a, .a, .k, .k, .p (int k), .a, .a, .a, .a, .a, .a, .a, .a, .a, .a, .a, .a, .a, .a, .a, .a, .a, .a, .a, .a, .a, .a, .a, .a, .a, .a, .a, .a, .a, .a, .a, .a, .a]) (fun k=>wayH r os g0 g1 g2 g3 g4 g5 g6 139 (orTake o vs k) vs) 0 (Nat.zero_le _) (by simp(maxSteps:=999999)(disch:=omega)only[go_sem,zA,zM,zS,zE,zL];rfl) (by rw[orTake_zero];exact HLe.refl _) ?_
      intro k hk'
      have hkl:=orTake_length (o:=o) (vs:=vs) (k:=k) (by omega)
      unfold wayH
      simp(maxSteps:=999999)(disch:=omega)only[go_sem,zA,zM,zS,zE,zL]
      ((first|(with_reducible first|refine condK_dec ?_ ?_|refine condK_ndec ?_ ?_|refine condK_nb ?_ ?_)|refine condK_b ?_ ?_)<;>intro c3)
      · have c3:k<os.length:=by omega
        have hx:=orTake_nth (o:=o) (vs:=vs) (k:=k) (by omega) (by omega)
        have hpk:=hv (nth vs k) (by rw[nth_eq (by omega)];exact List.getElem_mem _)
        have hok:=ho (o[k]'(by omega)) (List.getElem_mem _)
        have hkn:(nats (orTake o vs k)).length=os.length:=by rw[nats_length,hkl,hol]
        have hset:=orTake_set (o:=o) (vs:=vs) (k:=k) (by omega) (by omega)
        have hpw:2^(nth vs k).toNat<2^62:=Nat.pow_lt_pow_right (by omega) (by omega)
        simp(maxSteps:=999999)(disch:=omega)only[go_sem,zA,zM,zS,zE,zL]
        refine drawP_lM [0,1,2,3,4,5] [] none [6,7,8] [] [0,0,3,7,0,16,63,127,255] foll (by kernel_rfl) ?_
        simp(maxSteps:=999999)(disch:=omega)only[go_sem,zA,zM,zS,zE,zL,hx,shl_small hpk,or_small (show(o[k]'(by omega))<2^62 by omega) hpw]
        rw[Int.toNat_natCast,hset]
        exact⟨k+1,⟨by omega,by omega⟩,by push_cast;omega,HLe.refl _⟩
      · have hke:k=vs.length:=by omega
        simp(maxSteps:=999999)(disch:=omega)only[go_sem,zA,zM,zS,zE,zL]
        refine⟨_,HLe.refl _,rfl,vs,hvl,rfl,hv, ?_⟩
        rw[hdr,htk,hke,orTake_all (by omega)]
        unfold ways
        rw[if_pos c2]
    · simp(maxSteps:=999999)(disch:=omega)only[go_sem,zA,zM,zS,zE,zL]
      refine⟨_,HLe.refl _,rfl,vs,hvl,rfl,hv, ?_⟩
      rw[hdr,htk]
      unfold ways
      rw[if_neg (by rw[c2];simp)]
  · exfalso;omega
 |d+1,i,o,vs,hd,hol,hvl,ho,hv=>by
  have hnl:(nats os).length=os.length:=nats_length os
  have hio:i<os.length:=by omega
  have hm32:=hob (os[i]'hio) (List.getElem_mem _)
  have hmn:=nats_nth hio
  have hdr:os.drop i=os[i]'hio::os.drop (i+1):=List.drop_eq_getElem_cons hio
  have htl:(vs.take i).length=i:=by rw[List.length_take];omega
  have hpre:∀v∈vs.take i,0≤v∧v≤4:=fun v h=>hv v (List.mem_of_mem_take h)
  generalize hM:os[i]'hio=M at hm32 hmn hdr
  unfold wayH
  refine RunCall.cw (c:=_) Tryd.func139 rfl (n:=53) Tryd.ntmps139 (rs:=[]) rfl ?_
  simp only[List.length_cons,List.length_nil,zA,zS,List.replicate,List.cons_append,List.nil_append]
  simp(maxSteps:=999999)(disch:=omega)only[go_sem,zA,zM,zS,zE,zL]
  ((first|(with_reducible first|refine condK_dec ?_ ?_|refine condK_ndec ?_ ?_|refine condK_nb ?_ ?_)|refine condK_b ?_ ?_)<;>intro c1)
  · exfalso;omega
  simp(maxSteps:=999999)(disch:=omega)only[go_sem,zA,zM,zS,zE,zL]
  refine loop_rule3 (fun(v:Nat) _ _=>5 -v) (fun(v:Nat) (o':List Nat) (vs':List Int)=>(1≤v∧v≤5)∧o'=(mvals M (v -1)).foldl (fun o w=>ways r (os.drop (i+1)) (vs.take i++[w]) o) o∧vs'.length=os.length∧vs'.take i=vs.take i∧(∀v∈vs',0≤v∧v≤4)) (fun v _ _=>[.k, .k, .a, .k, .a, .k, .a, .a, .a, .p (int v), .a, .a, .a, .a, .a, .a, .a, .a, .a, .a, .a, .a, .a, .a, .a, .a, .a, .a, .a, .a, .a, .a, .a, .a, .a, .a, .a, .a, .a, .a, .a, .a, .a, .a, .a, .a, .a, .a, .a, .a, .a, .a, .a]) (fun _ o' vs'=>wayH r os g0 g1 g2 g3 g4 g5 g6 139 o' vs') 1 o vs
   ⟨⟨by omega,by omega⟩,rfl,hvl,rfl,hv⟩ (by simp(maxSteps:=999999)(disch:=omega)only[go_sem,zA,zM,zS,zE,zL];rfl) (HLe.refl _) ?_
  rintro v o' vs' ⟨⟨hv1,hv5⟩,ho',hvl',htk,hv'⟩
  obtain⟨hol',hob'⟩:=fold_ok r (os.drop (i+1)) (vs.take i) (mvals M (v -1)) o hpre (fun w hw=>by have:=mvals_mem hw;omega) (by rw[htl,List.length_drop];omega) ho
  rw[←ho']at hol' hob'
  unfold wayH
  simp(maxSteps:=999999)(disch:=omega)only[go_sem,zA,zM,zS,zE,zL]
  ((first|(with_reducible first|refine condK_dec ?_ ?_|refine condK_ndec ?_ ?_|refine condK_nb ?_ ?_)|refine condK_b ?_ ?_)<;>intro c2)
  · have hv4:v≤4:=by omega
    have hsucc:=mvals_succ (m:=M) (k:=v -1) (by omega)
    rw[show v -1+1=v by omega]at hsucc
    simp(maxSteps:=999999)(disch:=omega)only[go_sem,zA,zM,zS,zE,zL,hmn,shr_small (s:=M) (v:=(v:Int)) (by omega)]
    rw[and_bit (by omega)]
    ((first|(with_reducible first|refine condK_dec ?_ ?_|refine condK_ndec ?_ ?_|refine condK_nb ?_ ?_)|refine condK_b ?_ ?_)<;>intro hb)
    · rw[Int.toNat_natCast]at hb
      rw[if_pos hb]at hsucc
      simp(maxSteps:=999999)(disch:=omega)only[go_sem,zA,zM,zS,zE,zL]
      have hset:(vs'.set i (v:Int)).take (i+1)=vs.take i++[(v:Int)]:=by
       rw[take_succ_nth (by rw[List.length_set];omega),List.take_set_of_le (Nat.le_refl _),htk,nth_setN _ _ _ _ (by omega),if_pos rfl]
      have hsl:(vs'.set i (v:Int)).length=os.length:=by rw[List.length_set];exact hvl'
      have hsv:∀w∈vs'.set i (v:Int),0≤w∧w≤4:=fun w hw=>by
       rcases List.mem_or_eq_of_mem_set hw with h|h
       · exact hv' w h
       · omega
      have hrec:=ways_run r os g0 g1 g2 g3 g4 g5 g6 hos hob hk d (i+1) o' (vs'.set i (v:Int)) (by omega) (by omega) hsl hob' hsv
      have e:int ((i+1:Nat):Int)=int ((i:Int)+1):=by push_cast;rfl
      rw[e,hset]at hrec
      refine OpS.runFn hrec (⟨_,Tryd.func139,rfl,rfl⟩:Enters Tryd.prog 139) rfl (by show target _ (.c (.fn 139 [(1,g1),(0,g0),(5,g5),(3,g3),(6,g6)]))=_;simp[target,look]) rfl ?_
      rintro _ _ ⟨rfl,vs2,l2,t2,b2,rfl⟩
      unfold wayH
      simp(maxSteps:=999999)(disch:=omega)only[go_sem,zA,zM,zS,zE,zL]
      refine⟨v+1,_,vs2,⟨⟨⟨by omega,by omega⟩, ?_,l2, ?_,b2⟩,by omega⟩,by push_cast;omega,HLe.refl _⟩
      · rw[show v+1 -1=v by omega,hsucc,List.foldl_append,←ho'];rfl
      · have:=congrArg (List.take i) t2
        rw[List.take_take,Nat.min_eq_left (by omega)]at this
        rw[this,List.take_append_of_le_length (by rw[htl];exact Nat.le_refl _),List.take_take,Nat.min_self]
    · rw[Int.toNat_natCast]at hb
      rw[if_neg (by rw[hb];simp),List.append_nil]at hsucc
      simp(maxSteps:=999999)(disch:=omega)only[go_sem,zA,zM,zS,zE,zL]
      refine⟨v+1,o',vs',⟨⟨⟨by omega,by omega⟩,by rw[show v+1 -1=v by omega,hsucc];exact ho',hvl',htk,hv'⟩,by omega⟩,by push_cast;omega,HLe.refl _⟩
  · have hve:v=5:=by omega
    simp(maxSteps:=999999)(disch:=omega)only[go_sem,zA,zM,zS,zE,zL]
    refine⟨_,HLe.refl _,rfl,vs',hvl',htk,hv', ?_⟩
    rw[hdr,ways_cons,ho',hve]
theorem ruleMasks_own(r:Rul)(os:List Nat)(hos:os.length≤4)(hob:∀m∈os,m<32)(hk:r.kind=1∨r.kind=2∨r.kind=3∨(r.kind=4∨r.kind=5)∧2≤os.length):
 RunCall Tryd.prog 125 [aR r,ints (nats os)] [] (ownIQ (nats (ways r os [] (List.replicate os.length 0)))):=by
 have hnl:(nats os).length=os.length:=nats_length os
 refine RunCall.cw (c:=_) Tryd.func125 rfl (n:=18) Tryd.ntmps125 (rs:=[.tmp 4]) rfl ?_
 simp only[List.length_cons,List.length_nil,zA,zS,List.replicate,List.cons_append,List.nil_append]
 simp(maxSteps:=999999)(disch:=omega)only[go_sem,zA,zM,zS,zE,zL]
 intro g0 g2 g3 g4 g5 g1 g6
 simp(maxSteps:=999999)(disch:=omega)only[go_sem,zA,zM,zS,zE,zL,List.mapM_cons,List.mapM_nil,capOf,Option.bind_eq_bind,Option.pure_def,Option.bind_some]
 refine⟨rfl, ?_⟩
 have hrun:=ways_run r os g0 g2 g3 g4 g5 g1 g6 hos hob hk os.length 0 (List.replicate os.length 0) (List.replicate os.length 0) (by omega) (by simp) (by simp) (fun x hx=>by rw[List.eq_of_mem_replicate hx];omega) (fun x hx=>by rw[List.eq_of_mem_replicate hx];omega)
 unfold wayH at hrun
 rw[nats_zeros]at hrun
 rw[hnl]
 refine OpS.runFn hrun (⟨_,Tryd.func139,rfl,rfl⟩:Enters Tryd.prog 139) rfl (by show target _ (.c (.fn 139 [(1,g2),(0,g0),(5,g1),(3,g4),(6,g6)]))=_;simp[target,look]) rfl ?_
 rintro _ _ ⟨rfl,vs',l',t',b',rfl⟩
 have hlen:(nats (ways r os [] (List.replicate os.length 0))).length=os.length:=by
  rw[nats_length,ways_len _ _ _ _ (by simp)]
  simp
 rw[List.drop_zero,List.take_zero]
 simp(maxSteps:=999999)(disch:=omega)only[go_sem,zA,zM,zS,zE,zL]
 obtain⟨H2,hH2⟩:∃H2,H2=wayH r os g0 g2 g3 g4 g5 g1 g6 139 (ways r os [] (List.replicate os.length 0)) vs':=⟨_,rfl⟩
 have hown:OwnI H2 (.own 2 g3 0 os.length none) (nats (ways r os [] (List.replicate os.length 0))) [2]:=by
  have:=OwnI.o (H:=H2) 2 g3 none (nats (ways r os [] (List.replicate os.length 0))) [] (by rw[List.append_nil,hH2];unfold wayH;simp only[go_sem])
  rwa [hlen]at this
 unfold wayH at hH2
 rw[←hH2]
 exact⟨keepH [2] H2,keepH_le _ _,_,[2],rfl,hown.same fun i hi=>keepH_get hi (hown.lt i hi),scalH_keep hown.blk⟩
end Go.Lg

namespace Go.Lg
open Go.Proofs
def puzzleValid(p:Puz):Bool:=gridValid p.given p.size&&(decide (p.rules.length≤20)&&p.rules.all fun r=>ruleValid r p.size)
theorem PuzzleValid_run(p:Puz)(hx:smP p):Reads Tryd.prog 40 [aP p] (bool (puzzleValid p)):=by
 obtain⟨hx1,hx2,hx3⟩:=hx
 refine RunCall.cw (c:=_) Tryd.func40 rfl (n:=30) Tryd.ntmps40 (rs:=[.tmp 2]) rfl ?_
 simp only[List.length_cons,List.length_nil,zA,zS,List.replicate,List.cons_append,List.nil_append]
 simp(maxSteps:=999999)(disch:=omega)only[go_sem,zA,zM,zS,zE,zL]
 intro g
 first|refine OpS.rd (GridValid_run p.given p.size (by omega)) (⟨_,Tryd.func69,rfl,rfl⟩:Enters Tryd.prog 69) rfl rfl rfl rfl ?_|refine Loud.rd (GridValid_run p.given p.size (by omega)) (⟨_,Tryd.func69,rfl,rfl⟩:Enters Tryd.prog 69) rfl rfl rfl rfl ?_
 simp(maxSteps:=999999)(disch:=omega)only[go_sem,zA,zM,zS,zE,zL]
 ((with_reducible first|refine guardK_dec ?_ ?_|refine guardK_ndec ?_ ?_|refine guardK_nb ?_ ?_|refine guardK_split ?_ ?_|refine guardQ_dec ?_ ?_|refine guardL_dec ?_ ?_|refine guardQ_ndec ?_ ?_|refine guardL_ndec ?_ ?_|refine guardQ_nb ?_ ?_|refine guardL_nb ?_ ?_|refine guardQ_split ?_ ?_|refine guardL_split ?_ ?_)<;>intro hv<;>simp(maxSteps:=999999)(disch:=omega)only[go_sem,zA,zM,zS,zE,zL,hv])
 rotate_left
 · simp[puzzleValid,hv]
 ((first|(with_reducible first|refine condK_dec ?_ ?_|refine condK_ndec ?_ ?_|refine condK_nb ?_ ?_)|refine condK_b ?_ ?_)<;>intro h20)
 · simp(maxSteps:=999999)(disch:=omega)only[go_sem,zA,zM,zS,zE,zL]
   symm;simp only[puzzleValid,hv,Bool.true_and,Bool.and_eq_false_iff,decide_eq_false_iff_not];exact .inl (by omega)
 simp(maxSteps:=999999)(disch:=omega)only[go_sem,zA,zM,zS,zE,zL]
 refine loop_rule (fun i:Nat=>p.rules.length -i) (fun i=>i≤p.rules.length∧∀j:Nat,j<i→ruleValid (nth p.rules j) p.size=true) (fun i=>[.a, .k, .a, .a, .a, .a, .a, .a, .a, .a, .a, .a, .a, .a, .a, .a, .a, .a, .k, .k, .p (int i), .a, .a, .a, .a, .a, .a, .a, .a, .a]) (fun _=>[some ⟨g,1,cP p⟩]) 0
  ⟨Nat.zero_le _,fun j hj=>absurd hj (Nat.not_lt_zero _)⟩ (by simp(maxSteps:=999999)(disch:=omega)only[go_sem,zA,zM,zS,zE,zL];rfl) (HLe.refl _) ?_
 rintro i ⟨hi,hall⟩
 simp(maxSteps:=999999)(disch:=omega)only[go_sem,zA,zM,zS,zE,zL]
 ((first|(with_reducible first|refine condK_dec ?_ ?_|refine condK_ndec ?_ ?_|refine condK_nb ?_ ?_)|refine condK_b ?_ ?_)<;>intro h)
 · have h:i<p.rules.length:=by omega
   simp(maxSteps:=999999)(disch:=omega)only[go_sem,zA,zM,zS,zE,zL]
   intro g2
   first|refine OpS.rd (RuleValid_run (nth p.rules i) p.size (hx3 _ (nth_mem h))) (⟨_,Tryd.func21,rfl,rfl⟩:Enters Tryd.prog 21) rfl rfl rfl rfl ?_|refine Loud.rd (RuleValid_run (nth p.rules i) p.size (hx3 _ (nth_mem h))) (⟨_,Tryd.func21,rfl,rfl⟩:Enters Tryd.prog 21) rfl rfl rfl rfl ?_
   simp(maxSteps:=999999)(disch:=omega)only[go_sem,zA,zM,zS,zE,zL]
   ((first|(with_reducible first|refine condK_dec ?_ ?_|refine condK_ndec ?_ ?_|refine condK_nb ?_ ?_)|refine condK_b ?_ ?_)<;>intro h2)
   · simp(maxSteps:=999999)(disch:=omega)only[go_sem,zA,zM,zS,zE,zL]
     exact⟨i+1,⟨⟨h,all_step hall h2⟩,by omega⟩,by omega,hle_self _ _ _ (hle_nil _)⟩
   · simp(maxSteps:=999999)(disch:=omega)only[go_sem,zA,zM,zS,zE,zL]
     symm;simp only[puzzleValid,Bool.and_eq_false_iff];exact .inr (.inr (all_no h h2))
 · simp(maxSteps:=999999)(disch:=omega)only[go_sem,zA,zM,zS,zE,zL]
   symm;simp only[puzzleValid,Bool.and_eq_true,decide_eq_true_eq]
   exact⟨hv,by omega,all_nth.2 fun j hj=>hall j (by omega)⟩
theorem sPuzzleValid_run(p:Puz)(hx:smP p):Reads Tryd.prog 28 [aP p] (bool (puzzleValid p)):=by
 obtain⟨hx1,hx2,hx3⟩:=hx
 refine RunCall.cw (c:=_) Tryd.func28 rfl (n:=31) Tryd.ntmps28 (rs:=[.tmp 2]) rfl ?_
 simp only[List.length_cons,List.length_nil,zA,zS,List.replicate,List.cons_append,List.nil_append]
 simp(maxSteps:=999999)(disch:=omega)only[go_sem,zA,zM,zS,zE,zL]
 intro g
 refine loop_rule (fun i:Nat=>p.rules.length -i) (fun i=>i≤p.rules.length∧∀j:Nat,j<i→ruleValid (nth p.rules j) p.size=true) (fun i=>[.a, .k, .a, .p (int i), .a, .a, .a, .a, .a, .a, .a, .a, .a, .a, .a, .a, .a, .a, .a, .a, .a, .a, .a, .a, .a, .a, .a, .a, .a, .a, .a]) (fun _=>[some ⟨g,1,cP p⟩]) 0
  ⟨Nat.zero_le _,fun j hj=>absurd hj (Nat.not_lt_zero _)⟩ (by simp(maxSteps:=999999)(disch:=omega)only[go_sem,zA,zM,zS,zE,zL];rfl) (HLe.refl _) ?_
 rintro i ⟨hi,hall⟩
 simp(maxSteps:=999999)(disch:=omega)only[go_sem,zA,zM,zS,zE,zL]
 ((first|(with_reducible first|refine condK_dec ?_ ?_|refine condK_ndec ?_ ?_|refine condK_nb ?_ ?_)|refine condK_b ?_ ?_)<;>intro h)
 · have h:i<p.rules.length:=by omega
   simp(maxSteps:=999999)(disch:=omega)only[go_sem,zA,zM,zS,zE,zL]
   refine drawP_q foll (by kernel_rfl) ?_
   simp(maxSteps:=999999)(disch:=omega)only[go_sem,Nat.reduceBEq,Bool.true_or,zA,zM,zS,zE,zL]
   refine quietW.rd (sRuleValid_run (nth p.rules i) p.size (hx3 _ (nth_mem h))) (⟨_,Tryd.func48,rfl,rfl⟩:Enters Tryd.prog 48) rfl rfl rfl rfl ?_
   simp(maxSteps:=999999)(disch:=omega)only[go_sem,zA,zM,zS,zE,zL]
   ((first|(with_reducible first|refine condK_dec ?_ ?_|refine condK_ndec ?_ ?_|refine condK_nb ?_ ?_)|refine condK_b ?_ ?_)<;>intro h2)
   · simp(maxSteps:=999999)(disch:=omega)only[go_sem,zA,zM,zS,zE,zL]
     exact⟨i+1,⟨⟨h,all_step hall h2⟩,by omega⟩,by omega,HLe.refl _⟩
   · simp(maxSteps:=999999)(disch:=omega)only[go_sem,zA,zM,zS,zE,zL]
     symm;simp only[puzzleValid,Bool.and_eq_false_iff];exact .inr (.inr (all_no h h2))
 · simp(maxSteps:=999999)(disch:=omega)only[go_sem,zA,zM,zS,zE,zL]
   have ha:(p.rules.all fun r=>ruleValid r p.size)=true:=all_nth.2 fun j hj=>hall j (by omega)
   first|refine OpS.rd (sGridValid_run p.given p.size (by omega)) (⟨_,Tryd.func59,rfl,rfl⟩:Enters Tryd.prog 59) rfl rfl rfl rfl ?_|refine Loud.rd (sGridValid_run p.given p.size (by omega)) (⟨_,Tryd.func59,rfl,rfl⟩:Enters Tryd.prog 59) rfl rfl rfl rfl ?_
   simp(maxSteps:=999999)(disch:=omega)only[go_sem,zA,zM,zS,zE,zL]
   ((with_reducible first|refine guardK_dec ?_ ?_|refine guardK_ndec ?_ ?_|refine guardK_nb ?_ ?_|refine guardK_split ?_ ?_|refine guardQ_dec ?_ ?_|refine guardL_dec ?_ ?_|refine guardQ_ndec ?_ ?_|refine guardL_ndec ?_ ?_|refine guardQ_nb ?_ ?_|refine guardL_nb ?_ ?_|refine guardQ_split ?_ ?_|refine guardL_split ?_ ?_)<;>intro hv<;>simp(maxSteps:=999999)(disch:=omega)only[go_sem,zA,zM,zS,zE,zL,hv])
   · simp only[puzzleValid,hv,ha,Bool.true_and,Bool.and_true,decide_eq_decide];omega
   · simp[puzzleValid,hv]
end Go.Lg

namespace Go.Lg
open Go.Proofs
structure PuzN(p:Puz)(n:Nat):Prop where
 hn:n=2∨n=3∨n=4
 size:p.size=n
 len:p.given.length=n*n
 rl:p.rules.length≤40
 rv:∀r∈p.rules,ruleValid r n=true
theorem PuzN.of{p:Puz}(h:puzzleValid p=true):PuzN p p.size.toNat∧((p.size.toNat:Nat):Int)=p.size:=by
 simp only[puzzleValid,Bool.and_eq_true,decide_eq_true_eq,List.all_eq_true]at h
 obtain⟨h1,h2,h3⟩:=h
 have hb:=gridValid_bound h1
 have hs:((p.size.toNat:Nat):Int)=p.size:=by omega
 have hn:p.size.toNat=2∨p.size.toNat=3∨p.size.toNat=4:=by omega
 refine⟨⟨hn,hs.symm, ?_,by omega,fun r hr=>by rw[hs];exact h3 r hr⟩,hs⟩
 have:=hb.2.2.1
 rw[←hs]at this
 exact_mod_cast this
structure GrdN(xs:List Int)(n:Nat):Prop where
 len:xs.length=n*n
 val:∀k:Nat,k<xs.length→0≤nth xs k∧nth xs k≤n
theorem GrdN.valid{xs:List Int}{n:Nat}(hn:n=2∨n=3∨n=4)(h:GrdN xs n):gridValid xs n=true:=by
 simp only[gridValid,decide_eq_true_eq]
 refine⟨by omega,by omega,by rw[h.len];push_cast;rfl,h.val⟩
theorem GrdN.of{xs:List Int}{n:Nat}(hn:n=2∨n=3∨n=4)(h:gridValid xs n=true):GrdN xs n:=by
 have hb:=gridValid_bound h
 exact⟨by have:=hb.2.2.1;rcases hn with rfl|rfl|rfl<;>omega,hb.2.2.2.2⟩
theorem l5Fits_run{p:Puz}{n:Nat}(hp:PuzN p n)(xs:List Int)(hg:GrdN xs n):Reads Tryd.prog 120 [aP p,ints xs] (bool (fitsL p xs n)):=by
 have hn:=hp.hn
 have hz:=hp.size
 have hgl:=hp.len
 have hxl:=hg.len
 have hrl:=hp.rl
 have hsq:n*n≤16:=by rcases hn with rfl|rfl|rfl<;>omega
 have hgv:=hg.valid hn
 refine RunCall.cw (c:=_) Tryd.func120 rfl (n:=60) Tryd.ntmps120 (rs:=[.tmp 4]) rfl ?_
 simp only[List.length_cons,List.length_nil,zA,zS,List.replicate,List.cons_append,List.nil_append]
 simp(maxSteps:=999999)(disch:=omega)only[go_sem,zA,zM,zS,zE,zL]
 intro g
 refine loop_rule (fun k:Nat=>xs.length -k) (fun k=>k≤xs.length∧∀j:Nat,j<k→¬(0<nth p.given j∧0<nth xs j∧nth xs j≠nth p.given j)) (fun k=>[.a, .k, .k, .a, .a, .p (int k), .a, .a, .a, .a, .a, .a, .a, .a, .a, .a, .a, .a, .a, .a, .a, .a, .a, .a, .a, .a, .a, .a, .a, .a, .a, .a, .a, .a, .a, .a, .a, .a, .a, .a, .a, .a, .a, .a, .a, .a, .a, .a, .a, .a, .a, .a, .a, .a, .a, .a, .a, .a, .a, .a]) (fun _=>[some ⟨g,1,cP p⟩]) 0 ⟨Nat.zero_le _,fun j hj=>absurd hj (Nat.not_lt_zero _)⟩ (by simp(maxSteps:=999999)(disch:=omega)only[go_sem,zA,zM,zS,zE,zL];rfl) (HLe.refl _) ?_
 rintro k ⟨hk,hno⟩
 simp(maxSteps:=999999)(disch:=omega)only[go_sem,zA,zM,zS,zE,zL]
 ((first|(with_reducible first|refine condK_dec ?_ ?_|refine condK_ndec ?_ ?_|refine condK_nb ?_ ?_)|refine condK_b ?_ ?_)<;>intro h1)
 · have h1:k<xs.length:=by omega
   have hbad:(0<nth p.given k∧0<nth xs k∧nth xs k≠nth p.given k)→false=fitsL p xs n:=fun hb=>by
    have:clear p xs=false:=by
     simp only[clear,decide_eq_false_iff_not]
     exact fun h=>h k h1 hb
    simp[fitsL,this]
   simp(maxSteps:=999999)(disch:=omega)only[go_sem,zA,zM,zS,zE,zL]
   have hgo:¬(0<nth p.given k∧0<nth xs k∧nth xs k≠nth p.given k)→∀j:Nat,j<k+1→¬(0<nth p.given j∧0<nth xs j∧nth xs j≠nth p.given j):=fun h j hj=>by
    by_cases hjk:j=k
    · rw[hjk];exact h
    · exact hno j (by omega)
   by_cases a:0<nth p.given k
   · by_cases b:0<nth xs k
     · by_cases c:nth xs k=nth p.given k
       · refine drawP_q foll (by kernel_rfl) ?_
         simp(maxSteps:=999999)(disch:=omega)only[go_sem,zA,zM,zS,zE,zL,lt_yes,lt_no,eq_yes,eq_no]
         exact⟨k+1,⟨⟨by omega,hgo fun h=>h.2.2 c⟩,by omega⟩,by push_cast;omega,HLe.refl _⟩
       · refine drawP_q foll (by kernel_rfl) ?_
         simp(maxSteps:=999999)(disch:=omega)only[go_sem,zA,zM,zS,zE,zL,lt_yes,lt_no,eq_yes,eq_no]
         exact hbad ⟨a,b,c⟩
     · refine drawP_q foll (by kernel_rfl) ?_
       simp(maxSteps:=999999)(disch:=omega)only[go_sem,zA,zM,zS,zE,zL,lt_yes,lt_no,eq_yes,eq_no]
       exact⟨k+1,⟨⟨by omega,hgo fun h=>b h.2.1⟩,by omega⟩,by push_cast;omega,HLe.refl _⟩
   · refine drawP_q foll (by kernel_rfl) ?_
     simp(maxSteps:=999999)(disch:=omega)only[go_sem,zA,zM,zS,zE,zL,lt_yes,lt_no,eq_yes,eq_no]
     exact⟨k+1,⟨⟨by omega,hgo fun h=>a h.1⟩,by omega⟩,by push_cast;omega,HLe.refl _⟩
 · have hcl:clear p xs=true:=by
    simp only[clear,decide_eq_true_eq]
    exact fun j hj=>hno j (by omega)
   simp(maxSteps:=999999)(disch:=omega)only[go_sem,zA,zM,zS,zE,zL]
   refine loop_rule (fun k:Nat=>p.rules.length -k) (fun k=>k≤p.rules.length∧∀j:Nat,j<k→canHold (nth p.rules j) xs n=true) (fun k=>[.a, .k, .k, .a, .a, .a, .p (int k), .a, .a, .a, .a, .a, .a, .a, .a, .a, .a, .a, .a, .a, .a, .a, .a, .a, .a, .a, .a, .a, .a, .a, .a, .a, .a, .a, .a, .a, .a, .a, .a, .a, .a, .a, .a, .a, .a, .a, .a, .a, .a, .a, .a, .a, .a, .a, .a, .a, .a, .a, .a, .a]) (fun _=>[some ⟨g,1,cP p⟩]) 0 ⟨Nat.zero_le _,fun j hj=>absurd hj (Nat.not_lt_zero _)⟩ (by simp(maxSteps:=999999)(disch:=omega)only[go_sem,zA,zM,zS,zE,zL];rfl) (HLe.refl _) ?_
   rintro i ⟨hi,hyes⟩
   simp(maxSteps:=999999)(disch:=omega)only[go_sem,zA,zM,zS,zE,zL]
   ((first|(with_reducible first|refine condK_dec ?_ ?_|refine condK_ndec ?_ ?_|refine condK_nb ?_ ?_)|refine condK_b ?_ ?_)<;>intro h2)
   · have h2:i<p.rules.length:=by omega
     have hmem:nth p.rules i∈p.rules:=nth_mem h2
     simp(maxSteps:=999999)(disch:=omega)only[go_sem,zA,zM,zS,zE,zL]
     refine drawP_lM [0,1,2,3,4,5,6,7] [] none [8,9] [] [0,1,0,7,15,0,0,64,255,511] foll (by kernel_rfl) ?_
     simp(maxSteps:=999999)(disch:=omega)only[go_sem,Nat.reduceBEq,Bool.true_or,zA,zM,zS,zE,zL]
     have hrp:=sRulePossible_run hn (nth p.rules i) xs (hp.rv _ hmem) hgv
     rw[←hz]at hrp
     first|refine OpS.rd (hrp) (⟨_,Tryd.func136,rfl,rfl⟩:Enters Tryd.prog 136) rfl rfl rfl rfl ?_|refine Loud.rd (hrp) (⟨_,Tryd.func136,rfl,rfl⟩:Enters Tryd.prog 136) rfl rfl rfl rfl ?_
     simp(maxSteps:=999999)(disch:=omega)only[go_sem,zA,zM,zS,zE,zL]
     ((first|(with_reducible first|refine condK_dec ?_ ?_|refine condK_ndec ?_ ?_|refine condK_nb ?_ ?_)|refine condK_b ?_ ?_)<;>intro h3)
     · simp(maxSteps:=999999)(disch:=omega)only[go_sem,zA,zM,zS,zE,zL]
       refine⟨i+1,⟨⟨by omega,fun j hj=> ?_⟩,by omega⟩,by push_cast;omega,HLe.refl _⟩
       by_cases hji:j=i
       · rw[hji];exact h3
       · exact hyes j (by omega)
     · simp(maxSteps:=999999)(disch:=omega)only[go_sem,zA,zM,zS,zE,zL]
       have:p.rules.all (fun r=>canHold r xs n)=false:=by
        rw[List.all_eq_false]
        exact⟨_,hmem,by rw[h3];simp⟩
       simp[fitsL,this]
   · have hall:p.rules.all (fun r=>canHold r xs n)=true:=by
      rw[List.all_eq_true]
      intro r hr
      obtain⟨j,hj,rfl⟩:=List.mem_iff_getElem.1 hr
      have:=hyes j (by omega)
      rwa [nth_eq (by omega)]at this
     simp(maxSteps:=999999)(disch:=omega)only[go_sem,zA,zM,zS,zE,zL]
     have hcr:=l2Clash_run hn xs hxl (fun k hk=>by have:=hg.val k hk;omega)
     rw[←hz]at hcr
     first|refine OpS.rd (hcr) (⟨_,Tryd.func115,rfl,rfl⟩:Enters Tryd.prog 115) rfl rfl rfl rfl ?_|refine Loud.rd (hcr) (⟨_,Tryd.func115,rfl,rfl⟩:Enters Tryd.prog 115) rfl rfl rfl rfl ?_
     simp(maxSteps:=999999)(disch:=omega)only[go_sem,zA,zM,zS,zE,zL]
     simp[fitsL,hcl,hall]
end Go.Lg
