/- GpEB, GpMA, GpEC, GpED, cut to what is needed. -/
import Derived.Test.YtidekghnkifbjaaGreatDoorJac4
import Derived.Test.YtidekghnkifbjaaGreatDoorJac3
import Derived.Test.YtidekghnkifbjaaGreatDoorJab9
open List renaming cons_append → Ja, nil_append → Jc, replicate → Jd, length_cons → Je, length_nil → Jf, length_append → Jk, length_set → Jo, getElem?_eq_getElem → Jq, take_of_length_le → Js, append_nil → Ju, getElem?_eq_none → Jz, length_take → JL, drop_zero → JQ, mem_append → JZ, mapM_cons → J3, mem_map → Qh, getElem?_map → Qu, map_append → QB, mapM_nil → QC, length_drop → Uk, all_cons → Wr
open Nat renaming reduceAdd→zA,reduceMul→zM,reduceSub→zS,reduceEqDiff→zE,reduceLeDiff→zL
set_option linter.unusedSimpArgs false
set_option linter.unusedVariables false
set_option maxRecDepth 100000
namespace Go.Lg
open Go.Proofs
theorem Jft{m k:Nat}(hm:m<2^62):decide (Ug .and .i64 ((m>>>k:Nat):Int) 1=1)=m.testBit k:=by
 have hs:m>>>k<2^62:=by rw[Nat.shiftRight_eq_div_pow];exact Nat.lt_of_le_of_lt (Nat.div_le_self _ _) hm
 have e:(BitVec.ofInt 64 ((m>>>k:Nat):Int)&&&BitVec.ofInt 64 1).toNat=(m>>>k)&&&1:=by
  have h1:BitVec.ofInt 64 1=BitVec.ofNat 64 1:=rfl
  rw[h1]
  simp only[BitVec.toNat_and,BitVec.ofInt_natCast,BitVec.toNat_ofNat]
  rw[Nat.mod_eq_of_lt (by omega)]
 have e2:Ug .and .i64 ((m>>>k:Nat):Int) 1=(((m>>>k)%2:Nat):Int):=by
  unfold Ug
  show IntKind.wrap .i64 ((BitVec.ofInt 64 ((m>>>k:Nat):Int)&&&BitVec.ofInt 64 1).toNat:Int)=_
  rw[e,Nat.and_one_is_mod]
  exact Y5 (by omega)
 rw[e2,Nat.testBit_eq_decide_div_mod_eq,Nat.shiftRight_eq_div_pow,decide_eq_decide]
 omega
section
variable{P:Program}{o:Oper}{st:St}{K:KV}{fo:Operand}{xs:Array Operand}{ts:Array TypeId}{f:FuncId}{args:List AV}{caps:List AV}{Q:KV}
theorem JY.runFn(hc:Jn P f args st.h Q)(he:Jh P f)(ho:o.op= .call ⟨.value fo,xs,ts⟩)(ht:VR st.h (QU st.s fo)=some (f,caps))(ha:xs.toList.map (QU st.s)++caps=args)(hk:∀r H',Q r H'→K r H'):JY P o st K:=by
 refine JY.call ho ht he ?_
 rw[ha]
 exact hc.mono hk
end
def YT(r:ZS)(os:List Nat)(g0 g1 g2 g3 g4 g5 g6:Nat)(f:FuncId)(o:List Nat)(vs:List Int):Jm:=
 [some ⟨g0,1,cR r⟩,some ⟨g1,1,[.f (Qf (JR os))]⟩,some ⟨g2,1,cl (eI .i64) (JR o)⟩,some ⟨g3,1,[.own 2 g2 0 os.length none]⟩,some ⟨g4,1,cl (eI .i64) vs⟩,some ⟨g5,1,[.own 4 g4 0 os.length none]⟩,
   some ⟨g6,1,[.fn f [(1,g1),(0,g0),(5,g5),(3,g3),(6,g6)]]⟩]
theorem JbW(r:ZS)(os:List Nat)(g0 g1 g2 g3 g4 g5 g6:Nat)(hos:os.length≤4)(hob:∀m∈os,m<32)(hk:r.kind=1∨r.kind=2∨r.kind=3∨(r.kind=4∨r.kind=5)∧2≤os.length):
 ∀(d i:Nat) (o:List Nat) (vs:List Int),i+d=os.length→o.length=os.length→vs.length=os.length→(∀x∈o,x<32)→(∀v∈vs,0≤v∧v≤4)→
 Jn Tryz.prog 148 [int i, .c (.ptr 1 g1 0), .c (.ptr 0 g0 0), .c (.ptr 5 g5 0), .c (.ptr 3 g3 0), .c (.ptr 6 g6 0)] (YT r os g0 g1 g2 g3 g4 g5 g6 148 o vs)
  (fun v H'=>v= .tup []∧∃vs',vs'.length=os.length∧vs'.take i=vs.take i∧(∀v∈vs',0≤v∧v≤4)∧H'=YT r os g0 g1 g2 g3 g4 g5 g6 148 (ZT r (os.drop i) (vs.take i) o) vs')
 |0,i,o,vs,hd,hol,hvl,ho,hv=>by
  have hnl:(JR os).length=os.length:=Zn os
  have hno:(JR o).length=os.length:=by rw[Zn,hol]
  unfold YT
  refine Jn.cw (c:=_) Tryz.func148 rfl (n:=53) Tryz.ntmps148 (rs:=[]) rfl ?_
  simp only[Je,Jf,zA,zS,Jd,Ja,Jc]
  simp(maxSteps:=999999)(disch:=omega)only[go_sem,zA,zM,zS,zE,zL]
  ((first|(with_reducible first|refine Jl ?_ ?_|refine Jj ?_ ?_|refine Jp ?_ ?_)|refine Jr ?_ ?_)<;>intro c1)
  · simp(maxSteps:=999999)(disch:=omega)only[go_sem,zA,zM,zS,zE,zL]
    have hown:Qw (YT r os g0 g1 g2 g3 g4 g5 g6 148 o vs) (.own 4 g4 0 os.length none) vs [4]:=by
     have:=Qw.o (H:=YT r os g0 g1 g2 g3 g4 g5 g6 148 o vs) 4 g4 none vs [] (by rw[Ju];unfold YT;simp only[go_sem])
     rwa [hvl]at this
    unfold YT at hown
    refine JY.rdD (Gb r vs (by omega) hv (by omega)) (⟨_,Tryz.func149,rfl,rfl⟩:Jh Tryz.prog 149) rfl rfl (US rfl hown.snap) rfl ?_
    have hdr:os.drop i=[]:=List.drop_of_length_le (by omega)
    have htk:vs.take i=vs:=Js (by omega)
    simp(maxSteps:=999999)(disch:=omega)only[go_sem,zA,zM,zS,zE,zL]
    ((first|(with_reducible first|refine Jl ?_ ?_|refine Jj ?_ ?_|refine Jp ?_ ?_)|refine Jr ?_ ?_)<;>intro c2)
    · simp(maxSteps:=999999)(disch:=omega)only[go_sem,zA,zM,zS,zE,zL]
      refine JT (fun k:Nat=>os.length -k) (fun k=>k≤os.length) (fun k=>[.a, .a, .a, .a, .k, .a, .a, .a, .a, .a, .a, .a, .a, .a, .a, .a, .a, .k, .k, .p (int k), .a, .a, .a, .a, .a, .a, .a, .a, .a, .a, .a, .a, .a, .a, .a, .a, .a, .a, .a, .a, .a, .a, .a, .a, .a, .a, .a, .a, .a, .a, .a, .a, .a]) (fun k=>YT r os g0 g1 g2 g3 g4 g5 g6 148 (VE o vs k) vs) 0 (Nat.zero_le _) (by simp(maxSteps:=999999)(disch:=omega)only[go_sem,zA,zM,zS,zE,zL];rfl) (by rw[Fm];exact J0.refl _) ?_
      intro k hk'
      have hkl:=Xy (o:=o) (vs:=vs) (k:=k) (by omega)
      unfold YT
      simp(maxSteps:=999999)(disch:=omega)only[go_sem,zA,zM,zS,zE,zL]
      ((first|(with_reducible first|refine Jl ?_ ?_|refine Jj ?_ ?_|refine Jp ?_ ?_)|refine Jr ?_ ?_)<;>intro c3)
      · have c3:k<os.length:=by omega
        have hx:=GH (o:=o) (vs:=vs) (k:=k) (by omega) (by omega)
        have hpk:=hv (JA vs k) (by rw[Qs (by omega)];exact List.getElem_mem _)
        have hok:=ho (o[k]'(by omega)) (List.getElem_mem _)
        have hkn:(JR (VE o vs k)).length=os.length:=by rw[Zn,hkl,hol]
        have hset:=GG (o:=o) (vs:=vs) (k:=k) (by omega) (by omega)
        have hpw:2^(JA vs k).toNat<2^62:=Nat.pow_lt_pow_right (by omega) (by omega)
        simp(maxSteps:=999999)(disch:=omega)only[go_sem,zA,zM,zS,zE,zL]
        refine Q4 [0,1,2,3,4,5] [] none [6,7,8] [] [0,0,3,7,0,16,63,127,255] Zd (by kernel_rfl) ?_
        simp(maxSteps:=999999)(disch:=omega)only[go_sem,zA,zM,zS,zE,zL,hx,UE hpk,R4 (show(o[k]'(by omega))<2^62 by omega) hpw]
        rw[Int.toNat_natCast,hset]
        exact⟨k+1,⟨by omega,by omega⟩,by push_cast;omega,J0.refl _⟩
      · have hke:k=vs.length:=by omega
        simp(maxSteps:=999999)(disch:=omega)only[go_sem,zA,zM,zS,zE,zL]
        refine⟨_,J0.refl _,rfl,vs,hvl,rfl,hv, ?_⟩
        rw[hdr,htk,hke,GI (by omega)]
        unfold ZT
        rw[if_pos c2]
    · simp(maxSteps:=999999)(disch:=omega)only[go_sem,zA,zM,zS,zE,zL]
      refine⟨_,J0.refl _,rfl,vs,hvl,rfl,hv, ?_⟩
      rw[hdr,htk]
      unfold ZT
      rw[if_neg (by rw[c2];simp)]
  · exfalso;omega
 |d+1,i,o,vs,hd,hol,hvl,ho,hv=>by
  have hnl:(JR os).length=os.length:=Zn os
  have hio:i<os.length:=by omega
  have hm32:=hob (os[i]'hio) (List.getElem_mem _)
  have hmn:=GP hio
  have hdr:os.drop i=os[i]'hio::os.drop (i+1):=List.drop_eq_getElem_cons hio
  have htl:(vs.take i).length=i:=by rw[JL];omega
  have hpre:∀v∈vs.take i,0≤v∧v≤4:=fun v h=>hv v (List.mem_of_mem_take h)
  generalize hM:os[i]'hio=M at hm32 hmn hdr
  unfold YT
  refine Jn.cw (c:=_) Tryz.func148 rfl (n:=53) Tryz.ntmps148 (rs:=[]) rfl ?_
  simp only[Je,Jf,zA,zS,Jd,Ja,Jc]
  simp(maxSteps:=999999)(disch:=omega)only[go_sem,zA,zM,zS,zE,zL]
  ((first|(with_reducible first|refine Jl ?_ ?_|refine Jj ?_ ?_|refine Jp ?_ ?_)|refine Jr ?_ ?_)<;>intro c1)
  · exfalso;omega
  simp(maxSteps:=999999)(disch:=omega)only[go_sem,zA,zM,zS,zE,zL]
  refine Xb (fun(v:Nat) _ _=>5 -v) (fun(v:Nat) (o':List Nat) (vs':List Int)=>(1≤v∧v≤5)∧o'=(Z5 M (v -1)).foldl (fun o w=>ZT r (os.drop (i+1)) (vs.take i++[w]) o) o∧vs'.length=os.length∧vs'.take i=vs.take i∧(∀v∈vs',0≤v∧v≤4)) (fun v _ _=>[.k, .k, .a, .k, .a, .k, .a, .a, .a, .p (int v), .a, .a, .a, .a, .a, .a, .a, .a, .a, .a, .a, .a, .a, .a, .a, .a, .a, .a, .a, .a, .a, .a, .a, .a, .a, .a, .a, .a, .a, .a, .a, .a, .a, .a, .a, .a, .a, .a, .a, .a, .a, .a, .a]) (fun _ o' vs'=>YT r os g0 g1 g2 g3 g4 g5 g6 148 o' vs') 1 o vs
   ⟨⟨by omega,by omega⟩,rfl,hvl,rfl,hv⟩ (by simp(maxSteps:=999999)(disch:=omega)only[go_sem,zA,zM,zS,zE,zL];rfl) (J0.refl _) ?_
  rintro v o' vs' ⟨⟨hv1,hv5⟩,ho',hvl',htk,hv'⟩
  obtain⟨hol',hob'⟩:=Jbt r (os.drop (i+1)) (vs.take i) (Z5 M (v -1)) o hpre (fun w hw=>by have:=KI hw;omega) (by rw[htl,Uk];omega) ho
  rw[←ho']at hol' hob'
  unfold YT
  simp(maxSteps:=999999)(disch:=omega)only[go_sem,zA,zM,zS,zE,zL]
  ((first|(with_reducible first|refine Jl ?_ ?_|refine Jj ?_ ?_|refine Jp ?_ ?_)|refine Jr ?_ ?_)<;>intro c2)
  · have hv4:v≤4:=by omega
    have hsucc:=GQ (m:=M) (k:=v -1) (by omega)
    rw[show v -1+1=v by omega]at hsucc
    simp(maxSteps:=999999)(disch:=omega)only[go_sem,zA,zM,zS,zE,zL,hmn,XJ (s:=M) (v:=(v:Int)) (by omega)]
    rw[Jft (by omega)]
    ((first|(with_reducible first|refine Jl ?_ ?_|refine Jj ?_ ?_|refine Jp ?_ ?_)|refine Jr ?_ ?_)<;>intro hb)
    · rw[Int.toNat_natCast]at hb
      rw[if_pos hb]at hsucc
      simp(maxSteps:=999999)(disch:=omega)only[go_sem,zA,zM,zS,zE,zL]
      have hset:(vs'.set i (v:Int)).take (i+1)=vs.take i++[(v:Int)]:=by
       rw[Ql (by rw[Jo];omega),List.take_set_of_le (Nat.le_refl _),htk,Q3 _ _ _ _ (by omega),if_pos rfl]
      have hsl:(vs'.set i (v:Int)).length=os.length:=by rw[Jo];exact hvl'
      have hsv:∀w∈vs'.set i (v:Int),0≤w∧w≤4:=fun w hw=>by
       rcases List.mem_or_eq_of_mem_set hw with h|h
       · exact hv' w h
       · omega
      have hrec:=JbW r os g0 g1 g2 g3 g4 g5 g6 hos hob hk d (i+1) o' (vs'.set i (v:Int)) (by omega) (by omega) hsl hob' hsv
      have e:int ((i+1:Nat):Int)=int ((i:Int)+1):=by push_cast;rfl
      rw[e,hset]at hrec
      refine JY.runFn hrec (⟨_,Tryz.func148,rfl,rfl⟩:Jh Tryz.prog 148) rfl (by show VR _ (.c (.fn 148 [(1,g1),(0,g0),(5,g5),(3,g3),(6,g6)]))=_;simp[VR,look]) rfl ?_
      rintro _ _ ⟨rfl,vs2,l2,t2,b2,rfl⟩
      unfold YT
      simp(maxSteps:=999999)(disch:=omega)only[go_sem,zA,zM,zS,zE,zL]
      refine⟨v+1,_,vs2,⟨⟨⟨by omega,by omega⟩, ?_,l2, ?_,b2⟩,by omega⟩,by push_cast;omega,J0.refl _⟩
      · rw[show v+1 -1=v by omega,hsucc,List.foldl_append,←ho'];rfl
      · have:=congrArg (List.take i) t2
        rw[List.take_take,Nat.min_eq_left (by omega)]at this
        rw[this,List.take_append_of_le_length (by rw[htl];exact Nat.le_refl _),List.take_take,Nat.min_self]
    · rw[Int.toNat_natCast]at hb
      rw[if_neg (by rw[hb];simp),Ju]at hsucc
      simp(maxSteps:=999999)(disch:=omega)only[go_sem,zA,zM,zS,zE,zL]
      refine⟨v+1,o',vs',⟨⟨⟨by omega,by omega⟩,by rw[show v+1 -1=v by omega,hsucc];exact ho',hvl',htk,hv'⟩,by omega⟩,by push_cast;omega,J0.refl _⟩
  · have hve:v=5:=by omega
    simp(maxSteps:=999999)(disch:=omega)only[go_sem,zA,zM,zS,zE,zL]
    refine⟨_,J0.refl _,rfl,vs',hvl',htk,hv', ?_⟩
    rw[hdr,WW,ho',hve]
theorem K0(r:ZS)(os:List Nat)(hos:os.length≤4)(hob:∀m∈os,m<32)(hk:r.kind=1∨r.kind=2∨r.kind=3∨(r.kind=4∨r.kind=5)∧2≤os.length):
 Jn Tryz.prog 125 [aR r,QG (JR os)] [] (Wa (JR (ZT r os [] (Jd os.length 0)))):=by
 have hnl:(JR os).length=os.length:=Zn os
 refine Jn.cw (c:=_) Tryz.func125 rfl (n:=18) Tryz.ntmps125 (rs:=[.tmp 4]) rfl ?_
 simp only[Je,Jf,zA,zS,Jd,Ja,Jc]
 simp(maxSteps:=999999)(disch:=omega)only[go_sem,zA,zM,zS,zE,zL]
 intro g0 g2 g3 g4 g5 g1 g6
 simp(maxSteps:=999999)(disch:=omega)only[go_sem,zA,zM,zS,zE,zL,J3,QC,YI,Option.bind_eq_bind,Option.pure_def,Option.bind_some]
 refine⟨rfl, ?_⟩
 have hrun:=JbW r os g0 g2 g3 g4 g5 g1 g6 hos hob hk os.length 0 (Jd os.length 0) (Jd os.length 0) (by omega) (by simp) (by simp) (fun x hx=>by rw[List.eq_of_mem_replicate hx];omega) (fun x hx=>by rw[List.eq_of_mem_replicate hx];omega)
 unfold YT at hrun
 rw[Rp]at hrun
 rw[hnl]
 refine JY.runFn hrun (⟨_,Tryz.func148,rfl,rfl⟩:Jh Tryz.prog 148) rfl (by show VR _ (.c (.fn 148 [(1,g2),(0,g0),(5,g1),(3,g4),(6,g6)]))=_;simp[VR,look]) rfl ?_
 rintro _ _ ⟨rfl,vs',l',t',b',rfl⟩
 have hlen:(JR (ZT r os [] (Jd os.length 0))).length=os.length:=by
  rw[Zn,VO _ _ _ _ (by simp)]
  simp
 rw[JQ,List.take_zero]
 simp(maxSteps:=999999)(disch:=omega)only[go_sem,zA,zM,zS,zE,zL]
 obtain⟨H2,hH2⟩:∃H2,H2=YT r os g0 g2 g3 g4 g5 g1 g6 148 (ZT r os [] (Jd os.length 0)) vs':=⟨_,rfl⟩
 have hown:Qw H2 (.own 2 g3 0 os.length none) (JR (ZT r os [] (Jd os.length 0))) [2]:=by
  have:=Qw.o (H:=H2) 2 g3 none (JR (ZT r os [] (Jd os.length 0))) [] (by rw[Ju,hH2];unfold YT;simp only[go_sem])
  rwa [hlen]at this
 unfold YT at hH2
 rw[←hH2]
 exact⟨Kc [2] H2,Kb _ _,_,[2],rfl,hown.same fun i hi=>XQ hi (hown.lt i hi),W6 hown.blk⟩
end Go.Lg

namespace Go.Lg
open Go.Proofs
def QH(ms:List Nat)(k:Nat):Nat:=ms.getD k 0
theorem Za(ms:List Nat)(k:Nat):JA (JR ms) k=((QH ms k:Nat):Int):=by
 unfold JA JR QH
 rw[Int.toNat_natCast]
 simp only[List.getD,Qu]
 by_cases h:k<ms.length
 · rw[Jq h];rfl
 · rw[Jz (by omega)];rfl
theorem Qp(ms:List Nat):(JR ms).length=ms.length:=by simp[JR]
theorem Vv(ms:List Nat)(k v:Nat):(JR ms).set k ((v:Nat):Int)=JR (ms.set k v):=by simp[JR,List.map_set]
theorem Vq{b:List Nat}{k v:Nat}(h:k<b.length):Qj (cl (eI .i64) (JR b)) (0+((k:Nat):Int).toNat*1) [CV.f (.int .i64 ((v:Nat):Int))]=cl (eI .i64) (JR (b.set k v)):=by
 rw[Int.toNat_natCast,←Vv]
 exact Vb (E:=eI .i64) (n:=1) (by rw[Qp];exact h)
theorem Jke{ms:List Nat}{k:Nat}(h:k<ms.length):JR (ms.take (k+1))=JR (ms.take k)++[((QH ms k:Nat):Int)]:=by
 have e:QH ms k=ms[k]:=by unfold QH;simp[List.getD,Jq h]
 rw[e,List.take_succ_eq_append_getElem h]
 unfold JR
 rw[QB]
 rfl
theorem JcB{a b:List Nat}:JR a=JR b↔a=b:=by
 constructor
 · intro h
   exact(List.map_inj_right (fun x y h=>by omega)).1 h
 · rintro rfl;rfl
theorem WP{ms:List Nat}{k v i:Nat}(h:k<ms.length):QH (ms.set k v) i=if i=k then v else QH ms i:=by
 unfold QH
 simp only[List.getD,List.getElem?_set]
 by_cases hi:k=i
 · subst hi;simp[h]
 · rw[if_neg hi,if_neg (Ne.symm hi)]
theorem Jik{ms:List Nat}{k:Nat}(h:ms.length≤k):QH ms k=0:=by
 unfold QH
 simp[List.getD,Jz h]
theorem Jkj{ms:List Nat}{k:Nat}(h:k<ms.length):QH ms k∈ms:=by
 unfold QH
 simp[List.getD,Jq h]
theorem Jfb{a b:List Nat}(hl:a.length=b.length)(h:∀k,k<a.length→QH a k=QH b k):a=b:=by
 refine List.ext_getElem hl fun i h1 h2=> ?_
 have:=h i h1
 unfold QH at this
 simpa[List.getD,Jq h1,Jq h2]using this
structure Xv(ms:List Nat)(n:Nat):Prop where
 len:ms.length=n*n
 val:∀m∈ms,m≤2^(n+1) -2∧m%2=0
theorem Xv.at{ms:List Nat}{n:Nat}(h:Xv ms n)(k:Nat):QH ms k≤2^(n+1) -2∧QH ms k%2=0:=by
 by_cases hk:k<ms.length
 · exact h.val _ (Jkj hk)
 · rw[Jik (by omega)];exact⟨Nat.zero_le _,rfl⟩
theorem Jcs{n:Nat}(hn:n=2∨n=3∨n=4):8≤2^(n+1)∧2^(n+1)≤32:=by rcases hn with rfl|rfl|rfl<;>decide
theorem Xv.lt{ms:List Nat}{n:Nat}(hn:n=2∨n=3∨n=4)(h:Xv ms n)(k:Nat):QH ms k≤30∧QH ms k%2=0:=by
 have:=h.at k
 have:=Jcs hn
 omega
theorem Xv.ok{ms:List Nat}{n:Nat}(h:Xv ms n):F7 (JR ms) n:=by
 refine⟨by rw[Qp];exact h.len,fun k hk=> ?_⟩
 have:=h.at k
 rw[Za]
 omega
theorem Xv.set{ms:List Nat}{n k v:Nat}(h:Xv ms n)(hv:v≤2^(n+1) -2∧v%2=0):Xv (ms.set k v) n:=
 ⟨by rw[Jo];exact h.len,fun m hm=>by
   rcases List.mem_or_eq_of_mem_set hm with hm|rfl
   · exact h.val m hm
   · exact hv⟩
def Zi(m:Nat):Nat:=if m=2 then 1 else if m=4 then 2 else if m=8 then 3 else if m=16 then 4 else 0
theorem Jh1(m:Nat):Zi m≤4:=by
 unfold Zi
 repeat' split
 all_goals omega
theorem Rq{m:Nat}(h:m≤30∧m%2=0):((Z5 m 4).length=1↔Zi m≠0)∧(Zi m≠0→Z5 m 4=[(Zi m:Int)]∧m=2^Zi m):=by
 have key:∀k:Nat,k<31→((Z5 k 4).length=1↔Zi k≠0)∨k%2=1:=by decide
 have key2:∀k:Nat,k<31→Zi k≠0→Z5 k 4=[(Zi k:Int)]∧k=2^Zi k:=by decide
 exact⟨(key m (by omega)).resolve_right (by omega),key2 m (by omega)⟩
def BC(o m:Nat):Nat:=o&&&(31^^^m)
theorem Jep(o m:Nat):BC o m≤o:=Nat.and_le_left
theorem JiQ{o m:Nat}(h:o%2=0):BC o m%2=0:=by
 unfold BC
 have:(o&&&(31^^^m))%2=0:=by
  have h1:(o&&&(31^^^m)).testBit 0=false:=by
   rw[Nat.testBit_and]
   have:o.testBit 0=false:=by simpa[Nat.testBit_zero]using h
   rw[this,Bool.false_and]
  rw[Nat.testBit_zero,decide_eq_false_iff_not]at h1
  omega
 exact this
theorem Vk{o m:Nat}(ho:o<32)(hm:m<32):Ug .andNot .i64 (o:Int) (m:Int)=((BC o m:Nat):Int):=by
 have key:∀a:Nat,a<32→∀b:Nat,b<32→Ug .andNot .i64 (a:Int) (b:Int)=((BC a b:Nat):Int):=by decide+kernel
 exact key o ho m hm
theorem JaN{o v:Nat}(ho:o<32)(hv:v≤4):Ug .and .i64 (o:Int) ((2^v:Nat):Int)=((BC o (31^^^2^v):Nat):Int):=by
 have key:∀a:Nat,a<32→∀b:Nat,b<5→Ug .and .i64 (a:Int) ((2^b:Nat):Int)=((BC a (31^^^2^b):Nat):Int):=by decide+kernel
 exact key o ho v (by omega)
theorem Jio{o b:Nat}(ho:o<32)(hb:5≤b):o.testBit b=false:=Nat.testBit_lt_two_pow (Nat.lt_of_lt_of_le ho (by have:(2:Nat)^5≤2^b:=Nat.pow_le_pow_right (by omega) hb;omega))
theorem JkF{o m b:Nat}(ho:o<32):(BC o m).testBit b=(o.testBit b&& !m.testBit b):=by
 unfold BC
 rw[Nat.testBit_and,Nat.testBit_xor]
 by_cases hb:b<5
 · have h31:(31:Nat).testBit b=true:=by
    have:b=0∨b=1∨b=2∨b=3∨b=4:=by omega
    rcases this with rfl|rfl|rfl|rfl|rfl<;>rfl
   rw[h31,Bool.true_xor]
 · rw[Jio ho (by omega)];rfl
def Q8(R:List (Nat×Nat))(ms:List Nat):List Nat:=R.foldl (fun o q=>o.set q.1 (BC (QH o q.1) q.2)) ms
theorem JiR(R S:List (Nat×Nat))(ms:List Nat):Q8 (R++S) ms=Q8 S (Q8 R ms):=by unfold Q8;rw[List.foldl_append]
theorem WA(R:List (Nat×Nat))(c m:Nat)(ms:List Nat):Q8 (R++[(c,m)]) ms=(Q8 R ms).set c (BC (QH (Q8 R ms) c) m):=by rw[JiR];rfl
theorem V0(R:List (Nat×Nat)):∀ms:List Nat,(Q8 R ms).length=ms.length:=by
 induction R with
 |nil=>intro ms;rfl
 |cons q R ih=>intro ms;show(Q8 R _).length=_;rw[ih,Jo]
theorem WS{n:Nat}(R:List (Nat×Nat)):∀{ms:List Nat},Xv ms n→Xv (Q8 R ms) n:=by
 induction R with
 |nil=>intro ms h;exact h
 |cons q R ih=>
  intro ms h
  refine ih (ms:=ms.set q.1 _) (h.set ?_)
  have:=h.at q.1
  have:=Jep (QH ms q.1) q.2
  exact⟨by omega,JiQ (h.at q.1).2⟩
theorem Jdh{R:List (Nat×Nat)}:∀{ms:List Nat},(∀k,QH ms k<32)→∀{c b:Nat},c<ms.length→(QH (Q8 R ms) c).testBit b=((QH ms c).testBit b&&R.all fun q=> !(q.1==c&&q.2.testBit b)):=by
 induction R with
 |nil=>intro ms _ c b _;simp[Q8]
 |cons q R ih=>
  intro ms h c b hc
  have hlt:∀k,QH (ms.set q.1 (BC (QH ms q.1) q.2)) k<32:=fun k=>by
   by_cases hq:q.1<ms.length
   · rw[WP hq]
     split
     · exact Nat.lt_of_le_of_lt (Jep _ _) (h _)
     · exact h k
   · rw[List.set_eq_of_length_le (by omega)];exact h k
  have e:Q8 (q::R) ms=Q8 R (ms.set q.1 (BC (QH ms q.1) q.2)):=rfl
  rw[e,ih hlt (by rw[Jo];exact hc),Wr]
  by_cases hq:q.1=c
  · rw[WP (by omega),if_pos hq.symm,←hq,JkF (h _)]
    simp[Bool.and_assoc]
  · have:QH (ms.set q.1 (BC (QH ms q.1) q.2)) c=QH ms c:=by
     by_cases hq2:q.1<ms.length
     · rw[WP hq2,if_neg (Ne.symm hq)]
     · rw[List.set_eq_of_length_le (by omega)]
    rw[this]
    have hb:(q.1==c)=false:=by simpa using hq
    rw[hb,Bool.false_and,Bool.not_false,Bool.true_and]
theorem Jdg{R S:List (Nat×Nat)}{ms:List Nat}(h:∀k,QH ms k<32)(hrs:∀q,q∈R↔q∈S):Q8 R ms=Q8 S ms:=by
 refine Jfb (by rw[V0,V0]) fun k hk=>Nat.eq_of_testBit_eq fun b=> ?_
 rw[V0]at hk
 rw[Jdh h hk,Jdh h hk]
 congr 1
 rw[Bool.eq_iff_iff,List.all_eq_true,List.all_eq_true]
 exact⟨fun hr q hq=>hr q ((hrs q).2 hq),fun hr q hq=>hr q ((hrs q).1 hq)⟩
theorem ZO{α:Type}(f:Nat→List α)(k:Nat):(List.range (k+1)).flatMap f=(List.range k).flatMap f++f k:=by
 rw[List.range_succ,List.flatMap_append]
 simp
def Wt(ms:List Nat)(n i:Nat)(c:Nat):List (Nat×Nat):=if c=i then[]else[(c,QH ms i)]
def NM(ms:List Nat)(n i k:Nat):List (Nat×Nat):=Wt ms n i (i/n*n+k)++Wt ms n i (k*n+i%n)
def Jb8(ms:List Nat)(n i:Nat):List (Nat×Nat):=if Zi (QH ms i)=0 then[]else(List.range n).flatMap (NM ms n i)
def NL(ms:List Nat)(n:Nat):List Nat:=Q8 ((List.range (n*n)).flatMap (Jb8 ms n)) ms
def Gs(ms:List Nat)(n i j:Nat):List (Nat×Nat):=if j≠i∧(j/n=i/n∨j%n=i%n)then[(j,QH ms i)]else[]
def Jb7(ms:List Nat)(n i:Nat):List (Nat×Nat):=if Zi (QH ms i)=0 then[]else(List.range (n*n)).flatMap (Gs ms n i)
theorem JfK{n:Nat}(hn:n=2∨n=3∨n=4){i:Nat}(hi:i<n*n)(j:Nat):(∃k:Nat,k<n∧(j=i/n*n+k∨j=k*n+i%n))↔j<n*n∧(j/n=i/n∨j%n=i%n):=by
 constructor
 · rintro⟨k,hk,rfl|rfl⟩
   · refine⟨?_, .inl ?_⟩<;>rcases hn with rfl|rfl|rfl<;>omega
   · refine⟨?_, .inr ?_⟩<;>rcases hn with rfl|rfl|rfl<;>omega
 · rintro⟨hj,h|h⟩
   · refine⟨j%n,Nat.mod_lt _ (by omega), .inl ?_⟩
     rcases hn with rfl|rfl|rfl<;>omega
   · refine⟨j/n,by rw[Nat.div_lt_iff_lt_mul (by omega)];exact hj, .inr ?_⟩
     rcases hn with rfl|rfl|rfl<;>omega
theorem JeT{n:Nat}(hn:n=2∨n=3∨n=4)(ms:List Nat){i:Nat}(hi:i<n*n)(q:Nat×Nat):q∈Jb8 ms n i↔q∈Jb7 ms n i:=by
 unfold Jb8 Jb7
 split
 · exact Iff.rfl
 have hc:=JfK hn hi
 have e1:q∈(List.range n).flatMap (NM ms n i)↔(q.1≠i∧q.2=QH ms i)∧∃k:Nat,k<n∧(q.1=i/n*n+k∨q.1=k*n+i%n):=by
  rw[List.mem_flatMap]
  constructor
  · rintro⟨k,hk,hq⟩
    have hk:=List.mem_range.1 hk
    unfold NM Wt at hq
    rcases JZ.1 hq with hq|hq<;>split at hq
    · cases hq
    · rename_i h;have hq:q=(i/n*n+k,QH ms i):=by simpa using hq
      subst hq;exact⟨⟨h,rfl⟩,k,hk, .inl rfl⟩
    · cases hq
    · rename_i h;have hq:q=(k*n+i%n,QH ms i):=by simpa using hq
      subst hq;exact⟨⟨h,rfl⟩,k,hk, .inr rfl⟩
  · rintro⟨⟨h1,h2⟩,k,hk,h3⟩
    refine⟨k,List.mem_range.2 hk, ?_⟩
    obtain⟨a,b⟩:=q
    simp only at h1 h2 h3
    subst h2
    unfold NM Wt
    rcases h3 with h3|h3
    · refine JZ.2 (.inl ?_)
      rw[←h3,if_neg h1];simp
    · refine JZ.2 (.inr ?_)
      rw[←h3,if_neg h1];simp
 have e2:q∈(List.range (n*n)).flatMap (Gs ms n i)↔(q.1≠i∧q.2=QH ms i)∧q.1<n*n∧(q.1/n=i/n∨q.1%n=i%n):=by
  rw[List.mem_flatMap]
  constructor
  · rintro⟨j,hj,hq⟩
    have hj:=List.mem_range.1 hj
    unfold Gs at hq
    split at hq
    · rename_i h;have hq:q=(j,QH ms i):=by simpa using hq
      subst hq;exact⟨⟨h.1,rfl⟩,hj,h.2⟩
    · cases hq
  · rintro⟨⟨h1,h2⟩,hj,h3⟩
    refine⟨q.1,List.mem_range.2 hj, ?_⟩
    obtain⟨a,b⟩:=q
    simp only at h1 h2 h3 hj⊢
    subst h2
    unfold Gs
    rw[if_pos ⟨h1,h3⟩];simp
 rw[e1,e2,hc]
theorem JhB{n:Nat}(hn:n=2∨n=3∨n=4){ms:List Nat}(h:Xv ms n):Q8 ((List.range (n*n)).flatMap (Jb7 ms n)) ms=NL ms n:=by
 refine Jdg (fun k=>by have:=h.lt hn k;omega) fun q=> ?_
 rw[List.mem_flatMap,List.mem_flatMap]
 constructor
 · rintro⟨i,hi,hq⟩;exact⟨i,hi,(JeT hn ms (List.mem_range.1 hi) q).2 hq⟩
 · rintro⟨i,hi,hq⟩;exact⟨i,hi,(JeT hn ms (List.mem_range.1 hi) q).1 hq⟩
end Go.Lg

namespace Go.Lg
open Go.Proofs
theorem U5{n:Nat}(hn:n=2∨n=3∨n=4):JW Tryz.prog 111 [int n] (int ((2^(n+1) -2:Nat):Int)):=by
 have hpw:(2^(n+1):Nat)≤32∧8≤(2^(n+1):Nat):=by rcases hn with rfl|rfl|rfl<;>omega
 refine Jn.cw (c:=_) Tryz.func111 rfl (n:=7) Tryz.ntmps111 (rs:=[.tmp 2]) rfl ?_
 simp only[Je,Jf,zA,zS,Jd,Ja,Jc]
 simp(maxSteps:=999999)(disch:=omega)only[go_sem,zA,zM,zS,zE,zL,JeS hn]
 omega
theorem Jgb{xs:List Int}{n:Nat}(hn:n=2∨n=3∨n=4){c:Int}(h:JA xs c≤4):Um xs n c<32:=by
 unfold Um
 split
 · generalize JA xs c=v at*
   have:v.toNat=0∨v.toNat=1∨v.toNat=2∨v.toNat=3∨v.toNat=4:=by omega
   rcases this with h|h|h|h|h<;>rw[h]<;>omega
 · rcases hn with rfl|rfl|rfl<;>omega
theorem FI{n:Nat}(hn:n=2∨n=3∨n=4)(r:ZS)(xs:List Int)(hr:Qk r n=true)(hg:Q9 xs n):JW Tryz.prog 94 [aR r,QG xs,int n] (bool (Ze r xs n)):=by
 obtain⟨h1,h2,h3,_⟩:=Q1 hr
 have hxl:=hg.len
 have hsq:n*n≤16:=by rcases hn with rfl|rfl|rfl<;>omega
 have hpw:(2^(n+1):Nat)≤32∧8≤(2^(n+1):Nat):=by rcases hn with rfl|rfl|rfl<;>omega
 obtain⟨os,hos⟩:∃os,os=r.cells.map (Um xs n):=⟨_,rfl⟩
 have hol:os.length=r.cells.length:=by rw[hos];simp
 have hnl:(JR os).length=os.length:=Zn os
 have hx4:∀c∈r.cells,0≤JA xs c∧JA xs c≤n:=fun c hc=>by
  have:=h3 c hc
  obtain⟨k,rfl⟩:∃k:Nat,c=k:=⟨c.toNat,by omega⟩
  exact hg.val k (by omega)
 have hob:∀m∈os,m<32:=fun m hm=>by
  rw[hos]at hm
  obtain⟨c,hc,rfl⟩:=Qh.1 hm
  have:=hx4 c hc
  exact Jgb hn (by omega)
 have hkind:r.kind=1∨r.kind=2∨r.kind=3∨(r.kind=4∨r.kind=5)∧2≤os.length:=by
  have hr':=hr
  simp only[Qk,decide_eq_true_eq]at hr'
  obtain⟨_,_,k3⟩:=hr'
  unfold UY at k3
  omega
 refine Jn.cw (c:=_) Tryz.func94 rfl (n:=43) Tryz.ntmps94 (rs:=[.tmp 6]) rfl ?_
 simp only[Je,Jf,zA,zS,Jd,Ja,Jc]
 simp(maxSteps:=999999)(disch:=omega)only[go_sem,zA,zM,zS,zE,zL]
 intro g1 g2
 refine Qv (fun(k g:Nat)=>os.length -k) (fun k g=>k≤os.length) (fun k g=>[.a, .k, .k, .k, .a, .a, .a, .p (.c (.own 1 g 0 k none)), .a, .a, .a, .a, .k, .k, .p (int k), .a, .a, .a, .a, .a, .a, .a, .a, .a, .a, .a, .a, .a, .a, .a, .a, .a, .a, .a, .a, .a, .a, .a, .a, .a, .a, .a, .a]) (fun k g=>[some ⟨g1,1,cR r⟩,some ⟨g,1,cl (eI .i64) ((JR os).take k)⟩]) 0 g2 (Nat.zero_le _) (by simp(maxSteps:=999999)(disch:=omega)only[go_sem,zA,zM,zS,zE,zL];rfl) (J0.refl _) ?_
 intro k g hk
 simp(maxSteps:=999999)(disch:=omega)only[go_sem,zA,zM,zS,zE,zL]
 ((first|(with_reducible first|refine Jl ?_ ?_|refine Jj ?_ ?_|refine Jp ?_ ?_)|refine Jr ?_ ?_)<;>intro c1)
 · have c1:k<r.cells.length:=by omega
   have hmem:JA r.cells k∈r.cells:=ZX c1
   have hcb:=h3 _ hmem
   have hcv:=hx4 _ hmem
   have hM:(JR os).take (k+1)=(JR os).take k++[((Um xs n (JA r.cells k):Nat):Int)]:=by
    rw[Ql (by omega),GP (by omega)]
    simp only[hos,List.getElem_map]
    rw[Qs (by omega)]
    rfl
   have htl:((JR os).take k).length=k:=by rw[JL,hnl];omega
   obtain⟨c,hc⟩:∃c:Nat,JA r.cells k=c:=⟨(JA r.cells k).toNat,by omega⟩
   rw[hc]at hcb hcv hM
   have hcl:c<xs.length:=by omega
   simp(maxSteps:=999999)(disch:=omega)only[go_sem,zA,zM,zS,zE,zL,hc]
   ((first|(with_reducible first|refine Jl ?_ ?_|refine Jj ?_ ?_|refine Jp ?_ ?_)|refine Jr ?_ ?_)<;>intro c2)
   · have hz:Um xs n c=2^(JA xs c).toNat:=by unfold Um;rw[if_pos c2]
     simp(maxSteps:=999999)(disch:=omega)only[go_sem,zA,zM,zS,zE,zL,UE (v:=JA xs c) (by omega)]
     intro g3 g4
     refine⟨k+1,g4,⟨by omega,by omega⟩,⟨⟨rfl,rfl⟩,by push_cast;omega⟩, ?_⟩
     rw[hM,hz]
     exact J0.app [_,_] [_]
   · have hz:Um xs n c=2^(n+1) -2:=by unfold Um;rw[if_neg c2]
     simp(maxSteps:=999999)(disch:=omega)only[go_sem,zA,zM,zS,zE,zL]
     first|refine JY.rd (U5 hn) (⟨_,Tryz.func111,rfl,rfl⟩:Jh Tryz.prog 111) rfl rfl rfl rfl ?_|refine JM.rd (U5 hn) (⟨_,Tryz.func111,rfl,rfl⟩:Jh Tryz.prog 111) rfl rfl rfl rfl ?_
     simp(maxSteps:=999999)(disch:=omega)only[go_sem,zA,zM,zS,zE,zL]
     intro g3 g4
     refine⟨k+1,g4,⟨by omega,by omega⟩,⟨⟨rfl,rfl⟩,by push_cast;omega⟩, ?_⟩
     rw[hM,hz]
     exact J0.app [_,_] [_]
 · have hke:k=os.length:=by omega
   have hMe:(JR os).take k=JR os:=Js (by omega)
   simp(maxSteps:=999999)(disch:=omega)only[go_sem,zA,zM,zS,zE,zL]
   rw[hMe]
   have hown:Qw [some ⟨g1,1,cR r⟩,some ⟨g,1,cl (eI .i64) (JR os)⟩] (.own 1 g 0 k none) (JR os) [1]:=by
    have:=Qw.o (H:=[some ⟨g1,1,cR r⟩,some ⟨g,1,cl (eI .i64) (JR os)⟩]) 1 g none (JR os) [] (by rw[Ju];simp only[go_sem])
    rwa [hnl,←hke]at this
   refine JY.mkDI (K0 r os (by omega) hob hkind) (⟨_,Tryz.func125,rfl,rfl⟩:Jh Tryz.prog 125) rfl rfl (US rfl hown.snap) ?_
   intro c H2 S2 o2 hS2
   have hln:0<(JR (ZT r os [] (Jd os.length 0))).length:=by
    rw[Zn,VO _ _ _ _ (by simp)]
    simp
    omega
   obtain⟨id,g',lim,ys,rfl,rfl,hlk⟩:=o2.inv' hln
   have hch:Ze r xs n=((ZT r os [] (Jd os.length 0)).getD 0 0 !=0):=by unfold Ze;rw[hol,←hos]
   rw[hch]
   have hld:ldP (some ⟨g',1,cl (eI .i64) (JR (ZT r os [] (Jd os.length 0))++ys)⟩) 0=some (int (((ZT r os [] (Jd os.length 0)).getD 0 0:Nat):Int)):=by
    rw[Zn]at hln
    obtain⟨a,t,he⟩:=List.exists_cons_of_length_pos hln
    rw[he]
    rfl
   have hlk':look (some ⟨g1,1,cR r⟩::some ⟨g,1,cl (eI .i64) (JR os)⟩::H2) id g'=some ⟨g',1,cl (eI .i64) (JR (ZT r os [] (Jd os.length 0))++ys)⟩:=hlk
   have hl0:0<(JR (ZT r os [] (Jd os.length 0))++ys).length:=by simp only[Jk];omega
   simp(maxSteps:=999999)(disch:=omega)only[go_sem,zA,zM,zS,zE,zL,hlk',Int.reduceToNat,hld]
   generalize(ZT r os [] (Jd os.length 0)).getD 0 0=x
   by_cases hx:x=0
   · subst hx;rfl
   · rw[decide_eq_false (by omega)]
     simp[hx]
theorem G9{n line:Nat}(hn:n=2∨n=3∨n=4)(hl:line<2*n):Jn Tryz.prog 124 [int n,int line] [] (GE (eI .i64) 1 (Zf n line)):=by
 have hb:(line:Int)*n≤28∧0≤(line:Int)*n:=by rcases hn with rfl|rfl|rfl<;>omega
 have hn4:2≤n∧n≤4:=by omega
 have hlen:=Ud n line
 refine Jn.cw (c:=_) Tryz.func124 rfl (n:=49) Tryz.ntmps124 (rs:=[.tmp 4]) rfl ?_
 simp only[Je,Jf,zA,zS,Jd,Ja,Jc]
 simp(maxSteps:=999999)(disch:=omega)only[go_sem,zA,zM,zS,zE,zL]
 first|refine JY.rd (VD _) (⟨_,Tryz.func96,rfl,rfl⟩:Jh Tryz.prog 96) rfl rfl rfl rfl ?_|refine JM.rd (VD _) (⟨_,Tryz.func96,rfl,rfl⟩:Jh Tryz.prog 96) rfl rfl rfl rfl ?_
 simp(maxSteps:=999999)(disch:=omega)only[go_sem,zA,zM,zS,zE,zL]
 ((with_reducible first|refine JH ?_ ?_|refine JD ?_ ?_|refine JP ?_ ?_|refine Jv ?_ ?_|refine JF ?_ ?_|refine JG ?_ ?_|refine JB ?_ ?_|refine JC ?_ ?_|refine JN ?_ ?_|refine JO ?_ ?_|refine Jw ?_ ?_|refine Jx ?_ ?_)<;>intro a1<;>simp(maxSteps:=999999)(disch:=omega)only[go_sem,zA,zM,zS,zE,zL,a1])
 rotate_left
 · exfalso;omega
 ((with_reducible first|refine JH ?_ ?_|refine JD ?_ ?_|refine JP ?_ ?_|refine Jv ?_ ?_|refine JF ?_ ?_|refine JG ?_ ?_|refine JB ?_ ?_|refine JC ?_ ?_|refine JN ?_ ?_|refine JO ?_ ?_|refine Jw ?_ ?_|refine Jx ?_ ?_)<;>intro a2<;>simp(maxSteps:=999999)(disch:=omega)only[go_sem,zA,zM,zS,zE,zL,a2])
 · exfalso;omega
 ((first|(with_reducible first|refine Jl ?_ ?_|refine Jj ?_ ?_|refine Jp ?_ ?_)|refine Jr ?_ ?_)<;>intro a3)
 · exfalso;omega
 simp(maxSteps:=999999)(disch:=omega)only[go_sem,zA,zM,zS,zE,zL]
 intro g
 refine Qv (fun(k g:Nat)=>n -k) (fun k g=>k≤n) (fun k g=>[.k, .k, .a, .a, .a, .p (.c (.own 0 g 0 k none)), .a, .a, .a, .a, .a, .a, .a, .a, .a, .a, .a, .a, .a, .a, .a, .a, .k, .p (int k), .a, .a, .a, .a, .a, .a, .a, .a, .a, .a, .a, .a, .a, .a, .a, .a, .a, .a, .a, .a, .a, .a, .a, .a, .a]) (fun k g=>[some ⟨g,1,cl (eI .i64) ((Zf n line).take k)⟩]) 0 g
  (Nat.zero_le _) (by simp(maxSteps:=999999)(disch:=omega)only[go_sem,zA,zM,zS,zE,zL];rfl) (J0.refl _) ?_
 intro k g hk
 simp(maxSteps:=999999)(disch:=omega)only[go_sem,zA,zM,zS,zE,zL]
 ((first|(with_reducible first|refine Jl ?_ ?_|refine Jj ?_ ?_|refine Jp ?_ ?_)|refine Jr ?_ ?_)<;>intro h1)
 · have h1:k<n:=by omega
   have hkb:(k:Int)*n≤16∧0≤(k:Int)*n:=by rcases hn with rfl|rfl|rfl<;>omega
   have hne:=Wi (line:=line) h1
   simp(maxSteps:=999999)(disch:=omega)only[go_sem,zA,zM,zS,zE,zL]
   ((first|(with_reducible first|refine Jl ?_ ?_|refine Jj ?_ ?_|refine Jp ?_ ?_)|refine Jr ?_ ?_)<;>intro h4)
   · simp(maxSteps:=999999)(disch:=omega)only[go_sem,zA,zM,zS,zE,zL]
     intro g1 g2
     refine⟨k+1,g2,⟨by omega,by omega⟩,⟨⟨rfl,rfl⟩,by push_cast;omega⟩,ZU ?_ (Qt _)⟩
     rw[Ql (by omega),hne,if_pos (by omega)]
     push_cast
     rfl
   · simp(maxSteps:=999999)(disch:=omega)only[go_sem,zA,zM,zS,zE,zL]
     intro g1 g2
     refine⟨k+1,g2,⟨by omega,by omega⟩,⟨⟨rfl,rfl⟩,by push_cast;omega⟩,ZU ?_ (Qt _)⟩
     rw[Ql (by omega),hne,if_neg (by omega)]
     have:((k*n+line -n:Nat):Int)=(k:Int)*n+line -n:=by
      have:n≤k*n+line:=by omega
      omega
     rw[this]
 · have hi':k=n:=by omega
   subst hi'
   simp(maxSteps:=999999)(disch:=omega)only[go_sem,zA,zM,zS,zE,zL]
   rw[Js (by omega)]
   have:=ZD (E:=eI .i64) (n:=1) (g:=g) (xs:=Zf k line) (J0.refl [some ⟨g,1,cl (eI .i64) (Zf k line)⟩])
   rw[hlen]at this
   exact this
theorem UH{n line:Nat}(hn:n=2∨n=3∨n=4)(hl:line<2*n):JW Tryz.prog 124 [int n,int line] (QG (Zf n line)):=JW.own (G9 hn hl)
end Go.Lg

namespace Go.Lg
open Go.Proofs
def Yz(s:Nat):List CV:=(List.range 5).map fun i=> .f (.bool (s.testBit i))
theorem JjO{g s v:Nat}(h:v≤4):ldP (some ⟨g,5,Yz s⟩) (0+(v:Int).toNat*1)=some (bool (s.testBit v)):=by
 rw[Int.toNat_natCast,Nat.zero_add,Nat.mul_one]
 have:(Yz s)[v]? =some (.f (.bool (s.testBit v))):=by
  unfold Yz
  rw[Qu,List.getElem?_range (by omega)]
  rfl
 simp only[ldP,this]
theorem Jcb{s v:Nat}(h:v≤4):Qj (Yz s) (0+(v:Int).toNat*1) [.f (.bool true)]=Yz (s|||2^v):=by
 rw[Int.toNat_natCast,Nat.zero_add,Nat.mul_one]
 refine List.ext_getElem (by simp[Qj,Yz];omega) fun j h1 h2=> ?_
 have hj:j<5:=by simpa[Yz]using h2
 simp only[Yz,List.getElem_map,List.getElem_range,Nat.testBit_or,Nat.testBit_two_pow]
 have:v=0∨v=1∨v=2∨v=3∨v=4:=by omega
 have hj':j=0∨j=1∨j=2∨j=3∨j=4:=by omega
 rcases this with rfl|rfl|rfl|rfl|rfl<;>rcases hj' with rfl|rfl|rfl|rfl|rfl<;>simp[Qj,Yz,List.range_succ]
theorem Kv{n:Nat}(hn:n=2∨n=3∨n=4)(xs:List Int)(hg:Q9 xs n):JW Tryz.prog 93 [QG xs,int n] (bool (!UB xs n)):=by
 have hn4:2≤n∧n≤4:=by omega
 have hl:=hg.len
 have hsq:n*n≤16:=by rcases hn with rfl|rfl|rfl<;>omega
 refine Jn.cw (c:=_) Tryz.func93 rfl (n:=47) Tryz.ntmps93 (rs:=[.tmp 4]) rfl ?_
 simp only[Je,Jf,zA,zS,Jd,Ja,Jc]
 simp(maxSteps:=999999)(disch:=omega)only[go_sem,zA,zM,zS,zE,zL]
 first|refine JY.rd (Zb xs n (by omega)) (⟨_,Tryz.func54,rfl,rfl⟩:Jh Tryz.prog 54) rfl rfl rfl rfl ?_|refine JM.rd (Zb xs n (by omega)) (⟨_,Tryz.func54,rfl,rfl⟩:Jh Tryz.prog 54) rfl rfl rfl rfl ?_
 simp(maxSteps:=999999)(disch:=omega)only[go_sem,zA,zM,zS,zE,zL]
 ((first|(with_reducible first|refine Jl ?_ ?_|refine Jj ?_ ?_|refine Jp ?_ ?_)|refine Jr ?_ ?_)<;>intro c1)
 rotate_left
 · exfalso;rw[hg.valid hn]at c1;cases c1
 simp(maxSteps:=999999)(disch:=omega)only[go_sem,zA,zM,zS,zE,zL]
 refine JT (fun i:Nat=>2*n -i) (fun i=>i≤2*n∧∀j,j<i→Vg xs (Zf n j) 0=false) (fun i=>[.k, .k, .a, .a, .a, .a, .a, .a, .a, .a, .a, .a, .a, .a, .k, .p (int i), .a, .a, .a, .a, .a, .a, .a, .a, .a, .a, .a, .a, .a, .a, .a, .a, .a, .a, .a, .a, .a, .a, .a, .a, .a, .a, .a, .a, .a, .a, .a]) (fun _=>[]) 0 ⟨Nat.zero_le _,fun j hj=>absurd hj (Nat.not_lt_zero _)⟩ (by simp(maxSteps:=999999)(disch:=omega)only[go_sem,zA,zM,zS,zE,zL];rfl) (Qt _) ?_
 rintro i ⟨hi,hno⟩
 simp(maxSteps:=999999)(disch:=omega)only[go_sem,zA,zM,zS,zE,zL]
 ((first|(with_reducible first|refine Jl ?_ ?_|refine Jj ?_ ?_|refine Jp ?_ ?_)|refine Jr ?_ ?_)<;>intro h1)
 · have h1:i<2*n:=by omega
   simp(maxSteps:=999999)(disch:=omega)only[go_sem,zA,zM,zS,zE,zL]
   intro g
   first|refine JY.mk (UH hn h1) (⟨_,Tryz.func124,rfl,rfl⟩:Jh Tryz.prog 124) rfl rfl rfl rfl rfl ?_|refine JM.mk (UH hn h1) (⟨_,Tryz.func124,rfl,rfl⟩:Jh Tryz.prog 124) rfl rfl rfl rfl rfl ?_
   simp(maxSteps:=999999)(disch:=omega)only[go_sem,zA,zM,zS,zE,zL]
   have hlen:=Ud n i
   refine Qv (fun(k seen:Nat)=>n -k) (fun k seen=>k≤n∧Vg xs (Zf n i) 0=Vg xs ((Zf n i).drop k) seen∧seen<32) (fun k seen=>[.k, .k, .a, .a, .a, .a, .k, .a, .a, .a, .a, .a, .a, .a, .k, .k, .a, .a, .a, .a, .a, .k, .k, .p (int k), .a, .a, .a, .a, .a, .a, .a, .a, .a, .a, .a, .a, .a, .a, .a, .a, .a, .a, .a, .a, .a, .a, .a]) (fun _ seen=>[some ⟨g,5,Yz seen⟩]) 0 0 ⟨Nat.zero_le _,rfl,by omega⟩ (by simp(maxSteps:=999999)(disch:=omega)only[go_sem,zA,zM,zS,zE,zL];rfl) (by exact J0.refl _) ?_
   rintro k seen ⟨hk,hc,hs⟩
   simp(maxSteps:=999999)(disch:=omega)only[go_sem,zA,zM,zS,zE,zL]
   ((first|(with_reducible first|refine Jl ?_ ?_|refine Jj ?_ ?_|refine Jp ?_ ?_)|refine Jr ?_ ?_)<;>intro h2)
   · have h2:k<n:=by omega
     obtain⟨hb0,hb1⟩:=Y7 hn h1 h2
     obtain⟨c,hcc⟩:∃c:Nat,JA (Zf n i) k=c:=⟨(JA (Zf n i) k).toNat,by omega⟩
     have hcl:c<xs.length:=by omega
     have hv:=hg.val c hcl
     obtain⟨v,hvv⟩:∃v:Nat,JA xs c=v:=⟨(JA xs c).toNat,by omega⟩
     have hv4:v≤4:=by omega
     have hsl:(Yz seen).length=5:=by simp[Yz]
     have hcn:Vg xs ((Zf n i).drop k) seen=if(decide (0<v)&&seen.testBit v)=true then true else Vg xs ((Zf n i).drop (k+1)) (seen|||2^v):=by
      rw[List.drop_eq_getElem_cons (by omega),FE]
      have:(Zf n i)[k]'(by omega)=c:=by rw[←hcc,Qs (by omega)];rfl
      rw[this,hvv,Int.toNat_natCast]
      simp
     have hs2:seen|||2^v<32:=by
      refine Nat.or_lt_two_pow (n:=5) hs ?_
      have:v=0∨v=1∨v=2∨v=3∨v=4:=by omega
      rcases this with h|h|h|h|h<;>rw[h]<;>omega
     simp(maxSteps:=999999)(disch:=omega)only[go_sem,zA,zM,zS,zE,zL,hcc,hvv]
     ((with_reducible first|refine JH ?_ ?_|refine JD ?_ ?_|refine JP ?_ ?_|refine Jv ?_ ?_|refine JF ?_ ?_|refine JG ?_ ?_|refine JB ?_ ?_|refine JC ?_ ?_|refine JN ?_ ?_|refine JO ?_ ?_|refine Jw ?_ ?_|refine Jx ?_ ?_)<;>intro d1<;>simp(maxSteps:=999999)(disch:=omega)only[go_sem,zA,zM,zS,zE,zL,d1])
     · have d1:0<v:=by omega
       simp(maxSteps:=999999)(disch:=omega)only[go_sem,zA,zM,zS,zE,zL,hcc,hvv,JjO hv4]
       ((first|(with_reducible first|refine Jl ?_ ?_|refine Jj ?_ ?_|refine Jp ?_ ?_)|refine Jr ?_ ?_)<;>intro d2)
       · simp(maxSteps:=999999)(disch:=omega)only[go_sem,zA,zM,zS,zE,zL]
         have:UB xs n=true:=by
          unfold UB
          rw[List.any_eq_true]
          exact⟨i,List.mem_range.2 h1,by rw[hc,hcn,if_pos (by simp[d1,d2])]⟩
         rw[this]
         rfl
       · simp(maxSteps:=999999)(disch:=omega)only[go_sem,zA,zM,zS,zE,zL,hcc,hvv,Jcb hv4]
         refine⟨k+1,seen|||2^v,⟨⟨by omega, ?_,hs2⟩,by omega⟩,by push_cast;omega,J0.refl _⟩
         rw[hc,hcn,if_neg (by simp[d2])]
     · simp(maxSteps:=999999)(disch:=omega)only[go_sem,zA,zM,zS,zE,zL,hcc,hvv,Jcb hv4]
       refine⟨k+1,seen|||2^v,⟨⟨by omega, ?_,hs2⟩,by omega⟩,by push_cast;omega,J0.refl _⟩
       rw[hc,hcn,if_neg (by simp;omega)]
   · have hke:k=n:=by omega
     simp(maxSteps:=999999)(disch:=omega)only[go_sem,zA,zM,zS,zE,zL]
     refine⟨i+1,⟨⟨by omega,fun j hj=> ?_⟩,by omega⟩,by push_cast;omega,Qt _⟩
     by_cases hji:j=i
     · rw[hji,hc,List.drop_of_length_le (by omega)];rfl
     · exact hno j (by omega)
 · simp(maxSteps:=999999)(disch:=omega)only[go_sem,zA,zM,zS,zE,zL]
   have:UB xs n=false:=by
    unfold UB
    rw[List.any_eq_false]
    intro j hj
    rw[List.mem_range]at hj
    rw[hno j (by omega)]
    simp
   rw[this]
   rfl
end Go.Lg
