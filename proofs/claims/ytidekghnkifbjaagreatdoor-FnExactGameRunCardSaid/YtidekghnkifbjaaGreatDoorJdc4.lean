/- GpEB, GpMA, GpEC, GpED, cut to what is needed. -/
import Derived.Test.YtidekghnkifbjaaGreatDoorJdc3
import Derived.Test.YtidekghnkifbjaaGreatDoorJdc2
import Derived.Test.YtidekghnkifbjaaGreatDoorJdc0
open List renaming length_cons → Ja, cons_append → Jb, nil_append → Jd, length_nil → Je, replicate → Jf, getElem?_eq_getElem → Jl, length_set → Jp, length_append → Jq, take_of_length_le → Js, append_nil → Jt, getElem?_eq_none → Ju, mem_append → JI, length_take → JX, drop_zero → J1, mapM_cons → J3, mem_map → Qg, getElem?_map → Qk, map_append → Qo, mapM_nil → QB, length_drop → Uc, all_cons → UZ
open Nat renaming reduceAdd→zA,reduceMul→zM,reduceSub→zS,reduceEqDiff→zE,reduceLeDiff→zL
set_option linter.unusedSimpArgs false
set_option linter.unusedVariables false
set_option maxRecDepth 100000
namespace Go.Lg
open Go.Proofs
theorem Jfu{m k:Nat}(hm:m<2^62):decide (Uv .and .i64 ((m>>>k:Nat):Int) 1=1)=m.testBit k:=by
 have hs:m>>>k<2^62:=by rw[Nat.shiftRight_eq_div_pow];exact Nat.lt_of_le_of_lt (Nat.div_le_self _ _) hm
 have e:(BitVec.ofInt 64 ((m>>>k:Nat):Int)&&&BitVec.ofInt 64 1).toNat=(m>>>k)&&&1:=by
  have h1:BitVec.ofInt 64 1=BitVec.ofNat 64 1:=rfl
  rw[h1]
  simp only[BitVec.toNat_and,BitVec.ofInt_natCast,BitVec.toNat_ofNat]
  rw[Nat.mod_eq_of_lt (by omega)]
 have e2:Uv .and .i64 ((m>>>k:Nat):Int) 1=(((m>>>k)%2:Nat):Int):=by
  unfold Uv
  show IntKind.wrap .i64 ((BitVec.ofInt 64 ((m>>>k:Nat):Int)&&&BitVec.ofInt 64 1).toNat:Int)=_
  rw[e,Nat.and_one_is_mod]
  exact BJ (by omega)
 rw[e2,Nat.testBit_eq_decide_div_mod_eq,Nat.shiftRight_eq_div_pow,decide_eq_decide]
 omega
section
variable{P:Program}{o:Oper}{st:St}{K:KV}{fo:Operand}{xs:Array Operand}{ts:Array TypeId}{f:FuncId}{args:List AV}{caps:List AV}{Q:KV}
theorem JU.runFn(hc:Jk P f args st.h Q)(he:Jg P f)(ho:o.op= .call ⟨.value fo,xs,ts⟩)(ht:VQ st.h (QO st.s fo)=some (f,caps))(ha:xs.toList.map (QO st.s)++caps=args)(hk:∀r H',Q r H'→K r H'):JU P o st K:=by
 refine JU.call ho ht he ?_
 rw[ha]
 exact hc.mono hk
end
def YN(r:Zq)(os:List Nat)(g0 g1 g2 g3 g4 g5 g6:Nat)(f:FuncId)(o:List Nat)(vs:List Int):Jn:=
 [some ⟨g0,1,cR r⟩,some ⟨g1,1,[.f (Ql (JN os))]⟩,some ⟨g2,1,cl (eI .i64) (JN o)⟩,some ⟨g3,1,[.own 2 g2 0 os.length none]⟩,some ⟨g4,1,cl (eI .i64) vs⟩,some ⟨g5,1,[.own 4 g4 0 os.length none]⟩,
   some ⟨g6,1,[.fn f [(1,g1),(0,g0),(5,g5),(3,g3),(6,g6)]]⟩]
theorem JbY(r:Zq)(os:List Nat)(g0 g1 g2 g3 g4 g5 g6:Nat)(hos:os.length≤4)(hob:∀m∈os,m<32)(hk:r.kind=1∨r.kind=2∨r.kind=3∨(r.kind=4∨r.kind=5)∧2≤os.length):
 ∀(d i:Nat) (o:List Nat) (vs:List Int),i+d=os.length→o.length=os.length→vs.length=os.length→(∀x∈o,x<32)→(∀v∈vs,0≤v∧v≤4)→
 Jk Tryz.prog 148 [int i, .c (.ptr 1 g1 0), .c (.ptr 0 g0 0), .c (.ptr 5 g5 0), .c (.ptr 3 g3 0), .c (.ptr 6 g6 0)] (YN r os g0 g1 g2 g3 g4 g5 g6 148 o vs)
  (fun v H'=>v= .tup []∧∃vs',vs'.length=os.length∧vs'.take i=vs.take i∧(∀v∈vs',0≤v∧v≤4)∧H'=YN r os g0 g1 g2 g3 g4 g5 g6 148 (ZS r (os.drop i) (vs.take i) o) vs')
 |0,i,o,vs,hd,hol,hvl,ho,hv=>by
  have hnl:(JN os).length=os.length:=Zl os
  have hno:(JN o).length=os.length:=by rw[Zl,hol]
  unfold YN
  refine Jk.cw (c:=_) Tryz.func148 rfl (n:=53) Tryz.ntmps148 (rs:=[]) rfl ?_
  simp only[Ja,Je,zA,zS,Jf,Jb,Jd]
  simp(maxSteps:=999999)(disch:=omega)only[go_sem,zA,zM,zS,zE,zL]
  ((first|(with_reducible first|refine Jm ?_ ?_|refine Jj ?_ ?_|refine Jo ?_ ?_)|refine Jr ?_ ?_)<;>intro c1)
  · simp(maxSteps:=999999)(disch:=omega)only[go_sem,zA,zM,zS,zE,zL]
    have hown:Qr (YN r os g0 g1 g2 g3 g4 g5 g6 148 o vs) (.own 4 g4 0 os.length none) vs [4]:=by
     have:=Qr.o (H:=YN r os g0 g1 g2 g3 g4 g5 g6 148 o vs) 4 g4 none vs [] (by rw[Jt];unfold YN;simp only[go_sem])
     rwa [hvl]at this
    unfold YN at hown
    refine JU.rdD (F5 r vs (by omega) hv (by omega)) (⟨_,Tryz.func149,rfl,rfl⟩:Jg Tryz.prog 149) rfl rfl (QW rfl hown.snap) rfl ?_
    have hdr:os.drop i=[]:=List.drop_of_length_le (by omega)
    have htk:vs.take i=vs:=Js (by omega)
    simp(maxSteps:=999999)(disch:=omega)only[go_sem,zA,zM,zS,zE,zL]
    ((first|(with_reducible first|refine Jm ?_ ?_|refine Jj ?_ ?_|refine Jo ?_ ?_)|refine Jr ?_ ?_)<;>intro c2)
    · simp(maxSteps:=999999)(disch:=omega)only[go_sem,zA,zM,zS,zE,zL]
      refine JO (fun k:Nat=>os.length -k) (fun k=>k≤os.length) (fun k=>[.a, .a, .a, .a, .k, .a, .a, .a, .a, .a, .a, .a, .a, .a, .a, .a, .a, .k, .k, .p (int k), .a, .a, .a, .a, .a, .a, .a, .a, .a, .a, .a, .a, .a, .a, .a, .a, .a, .a, .a, .a, .a, .a, .a, .a, .a, .a, .a, .a, .a, .a, .a, .a, .a]) (fun k=>YN r os g0 g1 g2 g3 g4 g5 g6 148 (VB o vs k) vs) 0 (Nat.zero_le _) (by simp(maxSteps:=999999)(disch:=omega)only[go_sem,zA,zM,zS,zE,zL];rfl) (by rw[Fj];exact J5.refl _) ?_
      intro k hk'
      have hkl:=Xy (o:=o) (vs:=vs) (k:=k) (by omega)
      unfold YN
      simp(maxSteps:=999999)(disch:=omega)only[go_sem,zA,zM,zS,zE,zL]
      ((first|(with_reducible first|refine Jm ?_ ?_|refine Jj ?_ ?_|refine Jo ?_ ?_)|refine Jr ?_ ?_)<;>intro c3)
      · have c3:k<os.length:=by omega
        have hx:=Gy (o:=o) (vs:=vs) (k:=k) (by omega) (by omega)
        have hpk:=hv (Jy vs k) (by rw[Qe (by omega)];exact List.getElem_mem _)
        have hok:=ho (o[k]'(by omega)) (List.getElem_mem _)
        have hkn:(JN (VB o vs k)).length=os.length:=by rw[Zl,hkl,hol]
        have hset:=Gx (o:=o) (vs:=vs) (k:=k) (by omega) (by omega)
        have hpw:2^(Jy vs k).toNat<2^62:=Nat.pow_lt_pow_right (by omega) (by omega)
        simp(maxSteps:=999999)(disch:=omega)only[go_sem,zA,zM,zS,zE,zL]
        refine Z5 [0,1,2,3,4,5] [] none [6,7,8] [] [0,0,3,7,0,16,63,127,255] ZE (by kernel_rfl) ?_
        simp(maxSteps:=999999)(disch:=omega)only[go_sem,zA,zM,zS,zE,zL,hx,Uz hpk,RY (show(o[k]'(by omega))<2^62 by omega) hpw]
        rw[Int.toNat_natCast,hset]
        exact⟨k+1,⟨by omega,by omega⟩,by push_cast;omega,J5.refl _⟩
      · have hke:k=vs.length:=by omega
        simp(maxSteps:=999999)(disch:=omega)only[go_sem,zA,zM,zS,zE,zL]
        refine⟨_,J5.refl _,rfl,vs,hvl,rfl,hv, ?_⟩
        rw[hdr,htk,hke,Gz (by omega)]
        unfold ZS
        rw[if_pos c2]
    · simp(maxSteps:=999999)(disch:=omega)only[go_sem,zA,zM,zS,zE,zL]
      refine⟨_,J5.refl _,rfl,vs,hvl,rfl,hv, ?_⟩
      rw[hdr,htk]
      unfold ZS
      rw[if_neg (by rw[c2];simp)]
  · exfalso;omega
 |d+1,i,o,vs,hd,hol,hvl,ho,hv=>by
  have hnl:(JN os).length=os.length:=Zl os
  have hio:i<os.length:=by omega
  have hm32:=hob (os[i]'hio) (List.getElem_mem _)
  have hmn:=GG hio
  have hdr:os.drop i=os[i]'hio::os.drop (i+1):=List.drop_eq_getElem_cons hio
  have htl:(vs.take i).length=i:=by rw[JX];omega
  have hpre:∀v∈vs.take i,0≤v∧v≤4:=fun v h=>hv v (List.mem_of_mem_take h)
  generalize hM:os[i]'hio=M at hm32 hmn hdr
  unfold YN
  refine Jk.cw (c:=_) Tryz.func148 rfl (n:=53) Tryz.ntmps148 (rs:=[]) rfl ?_
  simp only[Ja,Je,zA,zS,Jf,Jb,Jd]
  simp(maxSteps:=999999)(disch:=omega)only[go_sem,zA,zM,zS,zE,zL]
  ((first|(with_reducible first|refine Jm ?_ ?_|refine Jj ?_ ?_|refine Jo ?_ ?_)|refine Jr ?_ ?_)<;>intro c1)
  · exfalso;omega
  simp(maxSteps:=999999)(disch:=omega)only[go_sem,zA,zM,zS,zE,zL]
  refine Xa (fun(v:Nat) _ _=>5 -v) (fun(v:Nat) (o':List Nat) (vs':List Int)=>(1≤v∧v≤5)∧o'=(Z0 M (v -1)).foldl (fun o w=>ZS r (os.drop (i+1)) (vs.take i++[w]) o) o∧vs'.length=os.length∧vs'.take i=vs.take i∧(∀v∈vs',0≤v∧v≤4)) (fun v _ _=>[.k, .k, .a, .k, .a, .k, .a, .a, .a, .p (int v), .a, .a, .a, .a, .a, .a, .a, .a, .a, .a, .a, .a, .a, .a, .a, .a, .a, .a, .a, .a, .a, .a, .a, .a, .a, .a, .a, .a, .a, .a, .a, .a, .a, .a, .a, .a, .a, .a, .a, .a, .a, .a, .a]) (fun _ o' vs'=>YN r os g0 g1 g2 g3 g4 g5 g6 148 o' vs') 1 o vs
   ⟨⟨by omega,by omega⟩,rfl,hvl,rfl,hv⟩ (by simp(maxSteps:=999999)(disch:=omega)only[go_sem,zA,zM,zS,zE,zL];rfl) (J5.refl _) ?_
  rintro v o' vs' ⟨⟨hv1,hv5⟩,ho',hvl',htk,hv'⟩
  obtain⟨hol',hob'⟩:=JbA r (os.drop (i+1)) (vs.take i) (Z0 M (v -1)) o hpre (fun w hw=>by have:=Kw hw;omega) (by rw[htl,Uc];omega) ho
  rw[←ho']at hol' hob'
  unfold YN
  simp(maxSteps:=999999)(disch:=omega)only[go_sem,zA,zM,zS,zE,zL]
  ((first|(with_reducible first|refine Jm ?_ ?_|refine Jj ?_ ?_|refine Jo ?_ ?_)|refine Jr ?_ ?_)<;>intro c2)
  · have hv4:v≤4:=by omega
    have hsucc:=GH (m:=M) (k:=v -1) (by omega)
    rw[show v -1+1=v by omega]at hsucc
    simp(maxSteps:=999999)(disch:=omega)only[go_sem,zA,zM,zS,zE,zL,hmn,XJ (s:=M) (v:=(v:Int)) (by omega)]
    rw[Jfu (by omega)]
    ((first|(with_reducible first|refine Jm ?_ ?_|refine Jj ?_ ?_|refine Jo ?_ ?_)|refine Jr ?_ ?_)<;>intro hb)
    · rw[Int.toNat_natCast]at hb
      rw[if_pos hb]at hsucc
      simp(maxSteps:=999999)(disch:=omega)only[go_sem,zA,zM,zS,zE,zL]
      have hset:(vs'.set i (v:Int)).take (i+1)=vs.take i++[(v:Int)]:=by
       rw[Qa (by rw[Jp];omega),List.take_set_of_le (Nat.le_refl _),htk,Za _ _ _ _ (by omega),if_pos rfl]
      have hsl:(vs'.set i (v:Int)).length=os.length:=by rw[Jp];exact hvl'
      have hsv:∀w∈vs'.set i (v:Int),0≤w∧w≤4:=fun w hw=>by
       rcases List.mem_or_eq_of_mem_set hw with h|h
       · exact hv' w h
       · omega
      have hrec:=JbY r os g0 g1 g2 g3 g4 g5 g6 hos hob hk d (i+1) o' (vs'.set i (v:Int)) (by omega) (by omega) hsl hob' hsv
      have e:int ((i+1:Nat):Int)=int ((i:Int)+1):=by push_cast;rfl
      rw[e,hset]at hrec
      refine JU.runFn hrec (⟨_,Tryz.func148,rfl,rfl⟩:Jg Tryz.prog 148) rfl (by show VQ _ (.c (.fn 148 [(1,g1),(0,g0),(5,g5),(3,g3),(6,g6)]))=_;simp[VQ,look]) rfl ?_
      rintro _ _ ⟨rfl,vs2,l2,t2,b2,rfl⟩
      unfold YN
      simp(maxSteps:=999999)(disch:=omega)only[go_sem,zA,zM,zS,zE,zL]
      refine⟨v+1,_,vs2,⟨⟨⟨by omega,by omega⟩, ?_,l2, ?_,b2⟩,by omega⟩,by push_cast;omega,J5.refl _⟩
      · rw[show v+1 -1=v by omega,hsucc,List.foldl_append,←ho'];rfl
      · have:=congrArg (List.take i) t2
        rw[List.take_take,Nat.min_eq_left (by omega)]at this
        rw[this,List.take_append_of_le_length (by rw[htl];exact Nat.le_refl _),List.take_take,Nat.min_self]
    · rw[Int.toNat_natCast]at hb
      rw[if_neg (by rw[hb];simp),Jt]at hsucc
      simp(maxSteps:=999999)(disch:=omega)only[go_sem,zA,zM,zS,zE,zL]
      refine⟨v+1,o',vs',⟨⟨⟨by omega,by omega⟩,by rw[show v+1 -1=v by omega,hsucc];exact ho',hvl',htk,hv'⟩,by omega⟩,by push_cast;omega,J5.refl _⟩
  · have hve:v=5:=by omega
    simp(maxSteps:=999999)(disch:=omega)only[go_sem,zA,zM,zS,zE,zL]
    refine⟨_,J5.refl _,rfl,vs',hvl',htk,hv', ?_⟩
    rw[hdr,WT,ho',hve]
theorem KM(r:Zq)(os:List Nat)(hos:os.length≤4)(hob:∀m∈os,m<32)(hk:r.kind=1∨r.kind=2∨r.kind=3∨(r.kind=4∨r.kind=5)∧2≤os.length):
 Jk Tryz.prog 125 [aR r,QF (JN os)] [] (WD (JN (ZS r os [] (Jf os.length 0)))):=by
 have hnl:(JN os).length=os.length:=Zl os
 refine Jk.cw (c:=_) Tryz.func125 rfl (n:=18) Tryz.ntmps125 (rs:=[.tmp 4]) rfl ?_
 simp only[Ja,Je,zA,zS,Jf,Jb,Jd]
 simp(maxSteps:=999999)(disch:=omega)only[go_sem,zA,zM,zS,zE,zL]
 intro g0 g2 g3 g4 g5 g1 g6
 simp(maxSteps:=999999)(disch:=omega)only[go_sem,zA,zM,zS,zE,zL,J3,QB,YD,Option.bind_eq_bind,Option.pure_def,Option.bind_some]
 refine⟨rfl, ?_⟩
 have hrun:=JbY r os g0 g2 g3 g4 g5 g1 g6 hos hob hk os.length 0 (Jf os.length 0) (Jf os.length 0) (by omega) (by simp) (by simp) (fun x hx=>by rw[List.eq_of_mem_replicate hx];omega) (fun x hx=>by rw[List.eq_of_mem_replicate hx];omega)
 unfold YN at hrun
 rw[Rh]at hrun
 rw[hnl]
 refine JU.runFn hrun (⟨_,Tryz.func148,rfl,rfl⟩:Jg Tryz.prog 148) rfl (by show VQ _ (.c (.fn 148 [(1,g2),(0,g0),(5,g1),(3,g4),(6,g6)]))=_;simp[VQ,look]) rfl ?_
 rintro _ _ ⟨rfl,vs',l',t',b',rfl⟩
 have hlen:(JN (ZS r os [] (Jf os.length 0))).length=os.length:=by
  rw[Zl,VO _ _ _ _ (by simp)]
  simp
 rw[J1,List.take_zero]
 simp(maxSteps:=999999)(disch:=omega)only[go_sem,zA,zM,zS,zE,zL]
 obtain⟨H2,hH2⟩:∃H2,H2=YN r os g0 g2 g3 g4 g5 g1 g6 148 (ZS r os [] (Jf os.length 0)) vs':=⟨_,rfl⟩
 have hown:Qr H2 (.own 2 g3 0 os.length none) (JN (ZS r os [] (Jf os.length 0))) [2]:=by
  have:=Qr.o (H:=H2) 2 g3 none (JN (ZS r os [] (Jf os.length 0))) [] (by rw[Jt,hH2];unfold YN;simp only[go_sem])
  rwa [hlen]at this
 unfold YN at hH2
 rw[←hH2]
 exact⟨Y4 [2] H2,Y0 _ _,_,[2],rfl,hown.same fun i hi=>WZ hi (hown.lt i hi),W4 hown.blk⟩
end Go.Lg

namespace Go.Lg
open Go.Proofs
def QH(ms:List Nat)(k:Nat):Nat:=ms.getD k 0
theorem Q4(ms:List Nat)(k:Nat):Jy (JN ms) k=((QH ms k:Nat):Int):=by
 unfold Jy JN QH
 rw[Int.toNat_natCast]
 simp only[List.getD,Qk]
 by_cases h:k<ms.length
 · rw[Jl h];rfl
 · rw[Ju (by omega)];rfl
theorem Qm(ms:List Nat):(JN ms).length=ms.length:=by simp[JN]
theorem Vr(ms:List Nat)(k v:Nat):(JN ms).set k ((v:Nat):Int)=JN (ms.set k v):=by simp[JN,List.map_set]
theorem Vo{b:List Nat}{k v:Nat}(h:k<b.length):J6 (cl (eI .i64) (JN b)) (0+((k:Nat):Int).toNat*1) [CV.f (.int .i64 ((v:Nat):Int))]=cl (eI .i64) (JN (b.set k v)):=by
 rw[Int.toNat_natCast,←Vr]
 exact VE (E:=eI .i64) (n:=1) (by rw[Qm];exact h)
theorem Jkf{ms:List Nat}{k:Nat}(h:k<ms.length):JN (ms.take (k+1))=JN (ms.take k)++[((QH ms k:Nat):Int)]:=by
 have e:QH ms k=ms[k]:=by unfold QH;simp[List.getD,Jl h]
 rw[e,List.take_succ_eq_append_getElem h]
 unfold JN
 rw[Qo]
 rfl
theorem JcD{a b:List Nat}:JN a=JN b↔a=b:=by
 constructor
 · intro h
   exact(List.map_inj_right (fun x y h=>by omega)).1 h
 · rintro rfl;rfl
theorem WJ{ms:List Nat}{k v i:Nat}(h:k<ms.length):QH (ms.set k v) i=if i=k then v else QH ms i:=by
 unfold QH
 simp only[List.getD,List.getElem?_set]
 by_cases hi:k=i
 · subst hi;simp[h]
 · rw[if_neg hi,if_neg (Ne.symm hi)]
theorem Jif{ms:List Nat}{k:Nat}(h:ms.length≤k):QH ms k=0:=by
 unfold QH
 simp[List.getD,Ju h]
theorem Jkl{ms:List Nat}{k:Nat}(h:k<ms.length):QH ms k∈ms:=by
 unfold QH
 simp[List.getD,Jl h]
theorem Je7{a b:List Nat}(hl:a.length=b.length)(h:∀k,k<a.length→QH a k=QH b k):a=b:=by
 refine List.ext_getElem hl fun i h1 h2=> ?_
 have:=h i h1
 unfold QH at this
 simpa[List.getD,Jl h1,Jl h2]using this
structure XG(ms:List Nat)(n:Nat):Prop where
 len:ms.length=n*n
 val:∀m∈ms,m≤2^(n+1) -2∧m%2=0
theorem XG.at{ms:List Nat}{n:Nat}(h:XG ms n)(k:Nat):QH ms k≤2^(n+1) -2∧QH ms k%2=0:=by
 by_cases hk:k<ms.length
 · exact h.val _ (Jkl hk)
 · rw[Jif (by omega)];exact⟨Nat.zero_le _,rfl⟩
theorem Jcu{n:Nat}(hn:n=2∨n=3∨n=4):8≤2^(n+1)∧2^(n+1)≤32:=by rcases hn with rfl|rfl|rfl<;>decide
theorem XG.lt{ms:List Nat}{n:Nat}(hn:n=2∨n=3∨n=4)(h:XG ms n)(k:Nat):QH ms k≤30∧QH ms k%2=0:=by
 have:=h.at k
 have:=Jcu hn
 omega
theorem XG.ok{ms:List Nat}{n:Nat}(h:XG ms n):F1 (JN ms) n:=by
 refine⟨by rw[Qm];exact h.len,fun k hk=> ?_⟩
 have:=h.at k
 rw[Q4]
 omega
theorem XG.set{ms:List Nat}{n k v:Nat}(h:XG ms n)(hv:v≤2^(n+1) -2∧v%2=0):XG (ms.set k v) n:=
 ⟨by rw[Jp];exact h.len,fun m hm=>by
   rcases List.mem_or_eq_of_mem_set hm with hm|rfl
   · exact h.val m hm
   · exact hv⟩
def ZH(m:Nat):Nat:=if m=2 then 1 else if m=4 then 2 else if m=8 then 3 else if m=16 then 4 else 0
theorem GI{m:Nat}(h:m≤30∧m%2=0):((Z0 m 4).length=1↔ZH m≠0)∧(ZH m≠0→Z0 m 4=[(ZH m:Int)]∧m=2^ZH m):=by
 have key:∀k:Nat,k<31→((Z0 k 4).length=1↔ZH k≠0)∨k%2=1:=by decide
 have key2:∀k:Nat,k<31→ZH k≠0→Z0 k 4=[(ZH k:Int)]∧k=2^ZH k:=by decide
 exact⟨(key m (by omega)).resolve_right (by omega),key2 m (by omega)⟩
def Bv(o m:Nat):Nat:=o&&&(31^^^m)
theorem Jel(o m:Nat):Bv o m≤o:=Nat.and_le_left
theorem JiM{o m:Nat}(h:o%2=0):Bv o m%2=0:=by
 unfold Bv
 have:(o&&&(31^^^m))%2=0:=by
  have h1:(o&&&(31^^^m)).testBit 0=false:=by
   rw[Nat.testBit_and]
   have:o.testBit 0=false:=by simpa[Nat.testBit_zero]using h
   rw[this,Bool.false_and]
  rw[Nat.testBit_zero,decide_eq_false_iff_not]at h1
  omega
 exact this
theorem Vl{o m:Nat}(ho:o<32)(hm:m<32):Uv .andNot .i64 (o:Int) (m:Int)=((Bv o m:Nat):Int):=by
 have key:∀a:Nat,a<32→∀b:Nat,b<32→Uv .andNot .i64 (a:Int) (b:Int)=((Bv a b:Nat):Int):=by decide+kernel
 exact key o ho m hm
theorem JaR{o v:Nat}(ho:o<32)(hv:v≤4):Uv .and .i64 (o:Int) ((2^v:Nat):Int)=((Bv o (31^^^2^v):Nat):Int):=by
 have key:∀a:Nat,a<32→∀b:Nat,b<5→Uv .and .i64 (a:Int) ((2^b:Nat):Int)=((Bv a (31^^^2^b):Nat):Int):=by decide+kernel
 exact key o ho v (by omega)
theorem Jij{o b:Nat}(ho:o<32)(hb:5≤b):o.testBit b=false:=Nat.testBit_lt_two_pow (Nat.lt_of_lt_of_le ho (by have:(2:Nat)^5≤2^b:=Nat.pow_le_pow_right (by omega) hb;omega))
theorem JkH{o m b:Nat}(ho:o<32):(Bv o m).testBit b=(o.testBit b&& !m.testBit b):=by
 unfold Bv
 rw[Nat.testBit_and,Nat.testBit_xor]
 by_cases hb:b<5
 · have h31:(31:Nat).testBit b=true:=by
    have:b=0∨b=1∨b=2∨b=3∨b=4:=by omega
    rcases this with rfl|rfl|rfl|rfl|rfl<;>rfl
   rw[h31,Bool.true_xor]
 · rw[Jij ho (by omega)];rfl
def Q0(R:List (Nat×Nat))(ms:List Nat):List Nat:=R.foldl (fun o q=>o.set q.1 (Bv (QH o q.1) q.2)) ms
theorem JiN(R S:List (Nat×Nat))(ms:List Nat):Q0 (R++S) ms=Q0 S (Q0 R ms):=by unfold Q0;rw[List.foldl_append]
theorem Wx(R:List (Nat×Nat))(c m:Nat)(ms:List Nat):Q0 (R++[(c,m)]) ms=(Q0 R ms).set c (Bv (QH (Q0 R ms) c) m):=by rw[JiN];rfl
theorem V1(R:List (Nat×Nat)):∀ms:List Nat,(Q0 R ms).length=ms.length:=by
 induction R with
 |nil=>intro ms;rfl
 |cons q R ih=>intro ms;show(Q0 R _).length=_;rw[ih,Jp]
theorem WN{n:Nat}(R:List (Nat×Nat)):∀{ms:List Nat},XG ms n→XG (Q0 R ms) n:=by
 induction R with
 |nil=>intro ms h;exact h
 |cons q R ih=>
  intro ms h
  refine ih (ms:=ms.set q.1 _) (h.set ?_)
  have:=h.at q.1
  have:=Jel (QH ms q.1) q.2
  exact⟨by omega,JiM (h.at q.1).2⟩
theorem Jdd{R:List (Nat×Nat)}:∀{ms:List Nat},(∀k,QH ms k<32)→∀{c b:Nat},c<ms.length→(QH (Q0 R ms) c).testBit b=((QH ms c).testBit b&&R.all fun q=> !(q.1==c&&q.2.testBit b)):=by
 induction R with
 |nil=>intro ms _ c b _;simp[Q0]
 |cons q R ih=>
  intro ms h c b hc
  have hlt:∀k,QH (ms.set q.1 (Bv (QH ms q.1) q.2)) k<32:=fun k=>by
   by_cases hq:q.1<ms.length
   · rw[WJ hq]
     split
     · exact Nat.lt_of_le_of_lt (Jel _ _) (h _)
     · exact h k
   · rw[List.set_eq_of_length_le (by omega)];exact h k
  have e:Q0 (q::R) ms=Q0 R (ms.set q.1 (Bv (QH ms q.1) q.2)):=rfl
  rw[e,ih hlt (by rw[Jp];exact hc),UZ]
  by_cases hq:q.1=c
  · rw[WJ (by omega),if_pos hq.symm,←hq,JkH (h _)]
    simp[Bool.and_assoc]
  · have:QH (ms.set q.1 (Bv (QH ms q.1) q.2)) c=QH ms c:=by
     by_cases hq2:q.1<ms.length
     · rw[WJ hq2,if_neg (Ne.symm hq)]
     · rw[List.set_eq_of_length_le (by omega)]
    rw[this]
    have hb:(q.1==c)=false:=by simpa using hq
    rw[hb,Bool.false_and,Bool.not_false,Bool.true_and]
theorem Jdc{R S:List (Nat×Nat)}{ms:List Nat}(h:∀k,QH ms k<32)(hrs:∀q,q∈R↔q∈S):Q0 R ms=Q0 S ms:=by
 refine Je7 (by rw[V1,V1]) fun k hk=>Nat.eq_of_testBit_eq fun b=> ?_
 rw[V1]at hk
 rw[Jdd h hk,Jdd h hk]
 congr 1
 rw[Bool.eq_iff_iff,List.all_eq_true,List.all_eq_true]
 exact⟨fun hr q hq=>hr q ((hrs q).2 hq),fun hr q hq=>hr q ((hrs q).1 hq)⟩
theorem ZL{α:Type}(f:Nat→List α)(k:Nat):(List.range (k+1)).flatMap f=(List.range k).flatMap f++f k:=by
 rw[List.range_succ,List.flatMap_append]
 simp
def Ws(ms:List Nat)(n i:Nat)(c:Nat):List (Nat×Nat):=if c=i then[]else[(c,QH ms i)]
def NK(ms:List Nat)(n i k:Nat):List (Nat×Nat):=Ws ms n i (i/n*n+k)++Ws ms n i (k*n+i%n)
def Jce(ms:List Nat)(n i:Nat):List (Nat×Nat):=if ZH (QH ms i)=0 then[]else(List.range n).flatMap (NK ms n i)
def NJ(ms:List Nat)(n:Nat):List Nat:=Q0 ((List.range (n*n)).flatMap (Jce ms n)) ms
def Gj(ms:List Nat)(n i j:Nat):List (Nat×Nat):=if j≠i∧(j/n=i/n∨j%n=i%n)then[(j,QH ms i)]else[]
def Jcd(ms:List Nat)(n i:Nat):List (Nat×Nat):=if ZH (QH ms i)=0 then[]else(List.range (n*n)).flatMap (Gj ms n i)
theorem JfN{n:Nat}(hn:n=2∨n=3∨n=4){i:Nat}(hi:i<n*n)(j:Nat):(∃k:Nat,k<n∧(j=i/n*n+k∨j=k*n+i%n))↔j<n*n∧(j/n=i/n∨j%n=i%n):=by
 constructor
 · rintro⟨k,hk,rfl|rfl⟩
   · refine⟨?_, .inl ?_⟩<;>rcases hn with rfl|rfl|rfl<;>omega
   · refine⟨?_, .inr ?_⟩<;>rcases hn with rfl|rfl|rfl<;>omega
 · rintro⟨hj,h|h⟩
   · refine⟨j%n,Nat.mod_lt _ (by omega), .inl ?_⟩
     rcases hn with rfl|rfl|rfl<;>omega
   · refine⟨j/n,by rw[Nat.div_lt_iff_lt_mul (by omega)];exact hj, .inr ?_⟩
     rcases hn with rfl|rfl|rfl<;>omega
theorem JeR{n:Nat}(hn:n=2∨n=3∨n=4)(ms:List Nat){i:Nat}(hi:i<n*n)(q:Nat×Nat):q∈Jce ms n i↔q∈Jcd ms n i:=by
 unfold Jce Jcd
 split
 · exact Iff.rfl
 have hc:=JfN hn hi
 have e1:q∈(List.range n).flatMap (NK ms n i)↔(q.1≠i∧q.2=QH ms i)∧∃k:Nat,k<n∧(q.1=i/n*n+k∨q.1=k*n+i%n):=by
  rw[List.mem_flatMap]
  constructor
  · rintro⟨k,hk,hq⟩
    have hk:=List.mem_range.1 hk
    unfold NK Ws at hq
    rcases JI.1 hq with hq|hq<;>split at hq
    · cases hq
    · rename_i h;have hq:q=(i/n*n+k,QH ms i):=by simpa using hq
      subst hq;exact⟨⟨h,rfl⟩,k,hk, .inl rfl⟩
    · cases hq
    · rename_i h;have hq:q=(k*n+i%n,QH ms i):=by simpa using hq
      subst hq;exact⟨⟨h,rfl⟩,k,hk, .inr rfl⟩
  · rintro⟨⟨h1,h2⟩,k,hk,h3⟩
    refine⟨k,List.mem_range.2 hk, ?_⟩
    obtain⟨a,b⟩:=q
    simp only at h1 h2 h3
    subst h2
    unfold NK Ws
    rcases h3 with h3|h3
    · refine JI.2 (.inl ?_)
      rw[←h3,if_neg h1];simp
    · refine JI.2 (.inr ?_)
      rw[←h3,if_neg h1];simp
 have e2:q∈(List.range (n*n)).flatMap (Gj ms n i)↔(q.1≠i∧q.2=QH ms i)∧q.1<n*n∧(q.1/n=i/n∨q.1%n=i%n):=by
  rw[List.mem_flatMap]
  constructor
  · rintro⟨j,hj,hq⟩
    have hj:=List.mem_range.1 hj
    unfold Gj at hq
    split at hq
    · rename_i h;have hq:q=(j,QH ms i):=by simpa using hq
      subst hq;exact⟨⟨h.1,rfl⟩,hj,h.2⟩
    · cases hq
  · rintro⟨⟨h1,h2⟩,hj,h3⟩
    refine⟨q.1,List.mem_range.2 hj, ?_⟩
    obtain⟨a,b⟩:=q
    simp only at h1 h2 h3 hj⊢
    subst h2
    unfold Gj
    rw[if_pos ⟨h1,h3⟩];simp
 rw[e1,e2,hc]
theorem Jht{n:Nat}(hn:n=2∨n=3∨n=4){ms:List Nat}(h:XG ms n):Q0 ((List.range (n*n)).flatMap (Jcd ms n)) ms=NJ ms n:=by
 refine Jdc (fun k=>by have:=h.lt hn k;omega) fun q=> ?_
 rw[List.mem_flatMap,List.mem_flatMap]
 constructor
 · rintro⟨i,hi,hq⟩;exact⟨i,hi,(JeR hn ms (List.mem_range.1 hi) q).2 hq⟩
 · rintro⟨i,hi,hq⟩;exact⟨i,hi,(JeR hn ms (List.mem_range.1 hi) q).1 hq⟩
end Go.Lg

namespace Go.Lg
open Go.Proofs
theorem UX{n:Nat}(hn:n=2∨n=3∨n=4):JM Tryz.prog 111 [int n] (int ((2^(n+1) -2:Nat):Int)):=by
 have hpw:(2^(n+1):Nat)≤32∧8≤(2^(n+1):Nat):=by rcases hn with rfl|rfl|rfl<;>omega
 refine Jk.cw (c:=_) Tryz.func111 rfl (n:=7) Tryz.ntmps111 (rs:=[.tmp 2]) rfl ?_
 simp only[Ja,Je,zA,zS,Jf,Jb,Jd]
 simp(maxSteps:=999999)(disch:=omega)only[go_sem,zA,zM,zS,zE,zL,JeQ hn]
 omega
theorem Jga{xs:List Int}{n:Nat}(hn:n=2∨n=3∨n=4){c:Int}(h:Jy xs c≤4):Uf xs n c<32:=by
 unfold Uf
 split
 · generalize Jy xs c=v at*
   have:v.toNat=0∨v.toNat=1∨v.toNat=2∨v.toNat=3∨v.toNat=4:=by omega
   rcases this with h|h|h|h|h<;>rw[h]<;>omega
 · rcases hn with rfl|rfl|rfl<;>omega
theorem FB{n:Nat}(hn:n=2∨n=3∨n=4)(r:Zq)(xs:List Int)(hr:Qw r n=true)(hg:Zd xs n):JM Tryz.prog 94 [aR r,QF xs,int n] (bool (Q9 r xs n)):=by
 obtain⟨h1,h2,h3,_⟩:=QV hr
 have hxl:=hg.len
 have hsq:n*n≤16:=by rcases hn with rfl|rfl|rfl<;>omega
 have hpw:(2^(n+1):Nat)≤32∧8≤(2^(n+1):Nat):=by rcases hn with rfl|rfl|rfl<;>omega
 obtain⟨os,hos⟩:∃os,os=r.cells.map (Uf xs n):=⟨_,rfl⟩
 have hol:os.length=r.cells.length:=by rw[hos];simp
 have hnl:(JN os).length=os.length:=Zl os
 have hx4:∀c∈r.cells,0≤Jy xs c∧Jy xs c≤n:=fun c hc=>by
  have:=h3 c hc
  obtain⟨k,rfl⟩:∃k:Nat,c=k:=⟨c.toNat,by omega⟩
  exact hg.val k (by omega)
 have hob:∀m∈os,m<32:=fun m hm=>by
  rw[hos]at hm
  obtain⟨c,hc,rfl⟩:=Qg.1 hm
  have:=hx4 c hc
  exact Jga hn (by omega)
 have hkind:r.kind=1∨r.kind=2∨r.kind=3∨(r.kind=4∨r.kind=5)∧2≤os.length:=by
  have hr':=hr
  simp only[Qw,decide_eq_true_eq]at hr'
  obtain⟨_,_,k3⟩:=hr'
  unfold VG at k3
  omega
 refine Jk.cw (c:=_) Tryz.func94 rfl (n:=43) Tryz.ntmps94 (rs:=[.tmp 6]) rfl ?_
 simp only[Ja,Je,zA,zS,Jf,Jb,Jd]
 simp(maxSteps:=999999)(disch:=omega)only[go_sem,zA,zM,zS,zE,zL]
 intro g1 g2
 refine Qx (fun(k g:Nat)=>os.length -k) (fun k g=>k≤os.length) (fun k g=>[.a, .k, .k, .k, .a, .a, .a, .p (.c (.own 1 g 0 k none)), .a, .a, .a, .a, .k, .k, .p (int k), .a, .a, .a, .a, .a, .a, .a, .a, .a, .a, .a, .a, .a, .a, .a, .a, .a, .a, .a, .a, .a, .a, .a, .a, .a, .a, .a, .a]) (fun k g=>[some ⟨g1,1,cR r⟩,some ⟨g,1,cl (eI .i64) ((JN os).take k)⟩]) 0 g2 (Nat.zero_le _) (by simp(maxSteps:=999999)(disch:=omega)only[go_sem,zA,zM,zS,zE,zL];rfl) (J5.refl _) ?_
 intro k g hk
 simp(maxSteps:=999999)(disch:=omega)only[go_sem,zA,zM,zS,zE,zL]
 ((first|(with_reducible first|refine Jm ?_ ?_|refine Jj ?_ ?_|refine Jo ?_ ?_)|refine Jr ?_ ?_)<;>intro c1)
 · have c1:k<r.cells.length:=by omega
   have hmem:Jy r.cells k∈r.cells:=Q8 c1
   have hcb:=h3 _ hmem
   have hcv:=hx4 _ hmem
   have hM:(JN os).take (k+1)=(JN os).take k++[((Uf xs n (Jy r.cells k):Nat):Int)]:=by
    rw[Qa (by omega),GG (by omega)]
    simp only[hos,List.getElem_map]
    rw[Qe (by omega)]
    rfl
   have htl:((JN os).take k).length=k:=by rw[JX,hnl];omega
   obtain⟨c,hc⟩:∃c:Nat,Jy r.cells k=c:=⟨(Jy r.cells k).toNat,by omega⟩
   rw[hc]at hcb hcv hM
   have hcl:c<xs.length:=by omega
   simp(maxSteps:=999999)(disch:=omega)only[go_sem,zA,zM,zS,zE,zL,hc]
   ((first|(with_reducible first|refine Jm ?_ ?_|refine Jj ?_ ?_|refine Jo ?_ ?_)|refine Jr ?_ ?_)<;>intro c2)
   · have hz:Uf xs n c=2^(Jy xs c).toNat:=by unfold Uf;rw[if_pos c2]
     simp(maxSteps:=999999)(disch:=omega)only[go_sem,zA,zM,zS,zE,zL,Uz (v:=Jy xs c) (by omega)]
     intro g3 g4
     refine⟨k+1,g4,⟨by omega,by omega⟩,⟨⟨rfl,rfl⟩,by push_cast;omega⟩, ?_⟩
     rw[hM,hz]
     exact J5.app [_,_] [_]
   · have hz:Uf xs n c=2^(n+1) -2:=by unfold Uf;rw[if_neg c2]
     simp(maxSteps:=999999)(disch:=omega)only[go_sem,zA,zM,zS,zE,zL]
     first|refine JU.rd (UX hn) (⟨_,Tryz.func111,rfl,rfl⟩:Jg Tryz.prog 111) rfl rfl rfl rfl ?_|refine JG.rd (UX hn) (⟨_,Tryz.func111,rfl,rfl⟩:Jg Tryz.prog 111) rfl rfl rfl rfl ?_
     simp(maxSteps:=999999)(disch:=omega)only[go_sem,zA,zM,zS,zE,zL]
     intro g3 g4
     refine⟨k+1,g4,⟨by omega,by omega⟩,⟨⟨rfl,rfl⟩,by push_cast;omega⟩, ?_⟩
     rw[hM,hz]
     exact J5.app [_,_] [_]
 · have hke:k=os.length:=by omega
   have hMe:(JN os).take k=JN os:=Js (by omega)
   simp(maxSteps:=999999)(disch:=omega)only[go_sem,zA,zM,zS,zE,zL]
   rw[hMe]
   have hown:Qr [some ⟨g1,1,cR r⟩,some ⟨g,1,cl (eI .i64) (JN os)⟩] (.own 1 g 0 k none) (JN os) [1]:=by
    have:=Qr.o (H:=[some ⟨g1,1,cR r⟩,some ⟨g,1,cl (eI .i64) (JN os)⟩]) 1 g none (JN os) [] (by rw[Jt];simp only[go_sem])
    rwa [hnl,←hke]at this
   refine JU.mkDI (KM r os (by omega) hob hkind) (⟨_,Tryz.func125,rfl,rfl⟩:Jg Tryz.prog 125) rfl rfl (QW rfl hown.snap) ?_
   intro c H2 S2 o2 hS2
   have hln:0<(JN (ZS r os [] (Jf os.length 0))).length:=by
    rw[Zl,VO _ _ _ _ (by simp)]
    simp
    omega
   obtain⟨id,g',lim,ys,rfl,rfl,hlk⟩:=o2.inv' hln
   have hch:Q9 r xs n=((ZS r os [] (Jf os.length 0)).getD 0 0 !=0):=by unfold Q9;rw[hol,←hos]
   rw[hch]
   have hld:ldP (some ⟨g',1,cl (eI .i64) (JN (ZS r os [] (Jf os.length 0))++ys)⟩) 0=some (int (((ZS r os [] (Jf os.length 0)).getD 0 0:Nat):Int)):=by
    rw[Zl]at hln
    obtain⟨a,t,he⟩:=List.exists_cons_of_length_pos hln
    rw[he]
    rfl
   have hlk':look (some ⟨g1,1,cR r⟩::some ⟨g,1,cl (eI .i64) (JN os)⟩::H2) id g'=some ⟨g',1,cl (eI .i64) (JN (ZS r os [] (Jf os.length 0))++ys)⟩:=hlk
   have hl0:0<(JN (ZS r os [] (Jf os.length 0))++ys).length:=by simp only[Jq];omega
   simp(maxSteps:=999999)(disch:=omega)only[go_sem,zA,zM,zS,zE,zL,hlk',Int.reduceToNat,hld]
   generalize(ZS r os [] (Jf os.length 0)).getD 0 0=x
   by_cases hx:x=0
   · subst hx;rfl
   · rw[decide_eq_false (by omega)]
     simp[hx]
theorem G4{n line:Nat}(hn:n=2∨n=3∨n=4)(hl:line<2*n):Jk Tryz.prog 124 [int n,int line] [] (RX (eI .i64) 1 (Zb n line)):=by
 have hb:(line:Int)*n≤28∧0≤(line:Int)*n:=by rcases hn with rfl|rfl|rfl<;>omega
 have hn4:2≤n∧n≤4:=by omega
 have hlen:=Z7 n line
 refine Jk.cw (c:=_) Tryz.func124 rfl (n:=49) Tryz.ntmps124 (rs:=[.tmp 4]) rfl ?_
 simp only[Ja,Je,zA,zS,Jf,Jb,Jd]
 simp(maxSteps:=999999)(disch:=omega)only[go_sem,zA,zM,zS,zE,zL]
 first|refine JU.rd (Vz _) (⟨_,Tryz.func96,rfl,rfl⟩:Jg Tryz.prog 96) rfl rfl rfl rfl ?_|refine JG.rd (Vz _) (⟨_,Tryz.func96,rfl,rfl⟩:Jg Tryz.prog 96) rfl rfl rfl rfl ?_
 simp(maxSteps:=999999)(disch:=omega)only[go_sem,zA,zM,zS,zE,zL]
 ((with_reducible first|refine JL ?_ ?_|refine JD ?_ ?_|refine JT ?_ ?_|refine Jv ?_ ?_|refine JJ ?_ ?_|refine JK ?_ ?_|refine JB ?_ ?_|refine JC ?_ ?_|refine JR ?_ ?_|refine JS ?_ ?_|refine Jw ?_ ?_|refine Jx ?_ ?_)<;>intro a1<;>simp(maxSteps:=999999)(disch:=omega)only[go_sem,zA,zM,zS,zE,zL,a1])
 rotate_left
 · exfalso;omega
 ((with_reducible first|refine JL ?_ ?_|refine JD ?_ ?_|refine JT ?_ ?_|refine Jv ?_ ?_|refine JJ ?_ ?_|refine JK ?_ ?_|refine JB ?_ ?_|refine JC ?_ ?_|refine JR ?_ ?_|refine JS ?_ ?_|refine Jw ?_ ?_|refine Jx ?_ ?_)<;>intro a2<;>simp(maxSteps:=999999)(disch:=omega)only[go_sem,zA,zM,zS,zE,zL,a2])
 · exfalso;omega
 ((first|(with_reducible first|refine Jm ?_ ?_|refine Jj ?_ ?_|refine Jo ?_ ?_)|refine Jr ?_ ?_)<;>intro a3)
 · exfalso;omega
 simp(maxSteps:=999999)(disch:=omega)only[go_sem,zA,zM,zS,zE,zL]
 intro g
 refine Qx (fun(k g:Nat)=>n -k) (fun k g=>k≤n) (fun k g=>[.k, .k, .a, .a, .a, .p (.c (.own 0 g 0 k none)), .a, .a, .a, .a, .a, .a, .a, .a, .a, .a, .a, .a, .a, .a, .a, .a, .k, .p (int k), .a, .a, .a, .a, .a, .a, .a, .a, .a, .a, .a, .a, .a, .a, .a, .a, .a, .a, .a, .a, .a, .a, .a, .a, .a]) (fun k g=>[some ⟨g,1,cl (eI .i64) ((Zb n line).take k)⟩]) 0 g
  (Nat.zero_le _) (by simp(maxSteps:=999999)(disch:=omega)only[go_sem,zA,zM,zS,zE,zL];rfl) (J5.refl _) ?_
 intro k g hk
 simp(maxSteps:=999999)(disch:=omega)only[go_sem,zA,zM,zS,zE,zL]
 ((first|(with_reducible first|refine Jm ?_ ?_|refine Jj ?_ ?_|refine Jo ?_ ?_)|refine Jr ?_ ?_)<;>intro h1)
 · have h1:k<n:=by omega
   have hkb:(k:Int)*n≤16∧0≤(k:Int)*n:=by rcases hn with rfl|rfl|rfl<;>omega
   have hne:=Wf (line:=line) h1
   simp(maxSteps:=999999)(disch:=omega)only[go_sem,zA,zM,zS,zE,zL]
   ((first|(with_reducible first|refine Jm ?_ ?_|refine Jj ?_ ?_|refine Jo ?_ ?_)|refine Jr ?_ ?_)<;>intro h4)
   · simp(maxSteps:=999999)(disch:=omega)only[go_sem,zA,zM,zS,zE,zL]
     intro g1 g2
     refine⟨k+1,g2,⟨by omega,by omega⟩,⟨⟨rfl,rfl⟩,by push_cast;omega⟩,ZY ?_ (J9 _)⟩
     rw[Qa (by omega),hne,if_pos (by omega)]
     push_cast
     rfl
   · simp(maxSteps:=999999)(disch:=omega)only[go_sem,zA,zM,zS,zE,zL]
     intro g1 g2
     refine⟨k+1,g2,⟨by omega,by omega⟩,⟨⟨rfl,rfl⟩,by push_cast;omega⟩,ZY ?_ (J9 _)⟩
     rw[Qa (by omega),hne,if_neg (by omega)]
     have:((k*n+line -n:Nat):Int)=(k:Int)*n+line -n:=by
      have:n≤k*n+line:=by omega
      omega
     rw[this]
 · have hi':k=n:=by omega
   subst hi'
   simp(maxSteps:=999999)(disch:=omega)only[go_sem,zA,zM,zS,zE,zL]
   rw[Js (by omega)]
   have:=ZK (E:=eI .i64) (n:=1) (g:=g) (xs:=Zb k line) (J5.refl [some ⟨g,1,cl (eI .i64) (Zb k line)⟩])
   rw[hlen]at this
   exact this
theorem UC{n line:Nat}(hn:n=2∨n=3∨n=4)(hl:line<2*n):JM Tryz.prog 124 [int n,int line] (QF (Zb n line)):=JM.own (G4 hn hl)
end Go.Lg

namespace Go.Lg
open Go.Proofs
def Yw(s:Nat):List CV:=(List.range 5).map fun i=> .f (.bool (s.testBit i))
theorem JjQ{g s v:Nat}(h:v≤4):ldP (some ⟨g,5,Yw s⟩) (0+(v:Int).toNat*1)=some (bool (s.testBit v)):=by
 rw[Int.toNat_natCast,Nat.zero_add,Nat.mul_one]
 have:(Yw s)[v]? =some (.f (.bool (s.testBit v))):=by
  unfold Yw
  rw[Qk,List.getElem?_range (by omega)]
  rfl
 simp only[ldP,this]
theorem Jch{s v:Nat}(h:v≤4):J6 (Yw s) (0+(v:Int).toNat*1) [.f (.bool true)]=Yw (s|||2^v):=by
 rw[Int.toNat_natCast,Nat.zero_add,Nat.mul_one]
 refine List.ext_getElem (by simp[J6,Yw];omega) fun j h1 h2=> ?_
 have hj:j<5:=by simpa[Yw]using h2
 simp only[Yw,List.getElem_map,List.getElem_range,Nat.testBit_or,Nat.testBit_two_pow]
 have:v=0∨v=1∨v=2∨v=3∨v=4:=by omega
 have hj':j=0∨j=1∨j=2∨j=3∨j=4:=by omega
 rcases this with rfl|rfl|rfl|rfl|rfl<;>rcases hj' with rfl|rfl|rfl|rfl|rfl<;>simp[J6,Yw,List.range_succ]
theorem Kn{n:Nat}(hn:n=2∨n=3∨n=4)(xs:List Int)(hg:Zd xs n):JM Tryz.prog 93 [QF xs,int n] (bool (!Wy xs n)):=by
 have hn4:2≤n∧n≤4:=by omega
 have hl:=hg.len
 have hsq:n*n≤16:=by rcases hn with rfl|rfl|rfl<;>omega
 refine Jk.cw (c:=_) Tryz.func93 rfl (n:=47) Tryz.ntmps93 (rs:=[.tmp 4]) rfl ?_
 simp only[Ja,Je,zA,zS,Jf,Jb,Jd]
 simp(maxSteps:=999999)(disch:=omega)only[go_sem,zA,zM,zS,zE,zL]
 first|refine JU.rd (Zv xs n (by omega)) (⟨_,Tryz.func54,rfl,rfl⟩:Jg Tryz.prog 54) rfl rfl rfl rfl ?_|refine JG.rd (Zv xs n (by omega)) (⟨_,Tryz.func54,rfl,rfl⟩:Jg Tryz.prog 54) rfl rfl rfl rfl ?_
 simp(maxSteps:=999999)(disch:=omega)only[go_sem,zA,zM,zS,zE,zL]
 ((first|(with_reducible first|refine Jm ?_ ?_|refine Jj ?_ ?_|refine Jo ?_ ?_)|refine Jr ?_ ?_)<;>intro c1)
 rotate_left
 · exfalso;rw[hg.valid hn]at c1;cases c1
 simp(maxSteps:=999999)(disch:=omega)only[go_sem,zA,zM,zS,zE,zL]
 refine JO (fun i:Nat=>2*n -i) (fun i=>i≤2*n∧∀j,j<i→Vg xs (Zb n j) 0=false) (fun i=>[.k, .k, .a, .a, .a, .a, .a, .a, .a, .a, .a, .a, .a, .a, .k, .p (int i), .a, .a, .a, .a, .a, .a, .a, .a, .a, .a, .a, .a, .a, .a, .a, .a, .a, .a, .a, .a, .a, .a, .a, .a, .a, .a, .a, .a, .a, .a, .a]) (fun _=>[]) 0 ⟨Nat.zero_le _,fun j hj=>absurd hj (Nat.not_lt_zero _)⟩ (by simp(maxSteps:=999999)(disch:=omega)only[go_sem,zA,zM,zS,zE,zL];rfl) (J9 _) ?_
 rintro i ⟨hi,hno⟩
 simp(maxSteps:=999999)(disch:=omega)only[go_sem,zA,zM,zS,zE,zL]
 ((first|(with_reducible first|refine Jm ?_ ?_|refine Jj ?_ ?_|refine Jo ?_ ?_)|refine Jr ?_ ?_)<;>intro h1)
 · have h1:i<2*n:=by omega
   simp(maxSteps:=999999)(disch:=omega)only[go_sem,zA,zM,zS,zE,zL]
   intro g
   first|refine JU.mk (UC hn h1) (⟨_,Tryz.func124,rfl,rfl⟩:Jg Tryz.prog 124) rfl rfl rfl rfl rfl ?_|refine JG.mk (UC hn h1) (⟨_,Tryz.func124,rfl,rfl⟩:Jg Tryz.prog 124) rfl rfl rfl rfl rfl ?_
   simp(maxSteps:=999999)(disch:=omega)only[go_sem,zA,zM,zS,zE,zL]
   have hlen:=Z7 n i
   refine Qx (fun(k seen:Nat)=>n -k) (fun k seen=>k≤n∧Vg xs (Zb n i) 0=Vg xs ((Zb n i).drop k) seen∧seen<32) (fun k seen=>[.k, .k, .a, .a, .a, .a, .k, .a, .a, .a, .a, .a, .a, .a, .k, .k, .a, .a, .a, .a, .a, .k, .k, .p (int k), .a, .a, .a, .a, .a, .a, .a, .a, .a, .a, .a, .a, .a, .a, .a, .a, .a, .a, .a, .a, .a, .a, .a]) (fun _ seen=>[some ⟨g,5,Yw seen⟩]) 0 0 ⟨Nat.zero_le _,rfl,by omega⟩ (by simp(maxSteps:=999999)(disch:=omega)only[go_sem,zA,zM,zS,zE,zL];rfl) (by exact J5.refl _) ?_
   rintro k seen ⟨hk,hc,hs⟩
   simp(maxSteps:=999999)(disch:=omega)only[go_sem,zA,zM,zS,zE,zL]
   ((first|(with_reducible first|refine Jm ?_ ?_|refine Jj ?_ ?_|refine Jo ?_ ?_)|refine Jr ?_ ?_)<;>intro h2)
   · have h2:k<n:=by omega
     obtain⟨hb0,hb1⟩:=YZ hn h1 h2
     obtain⟨c,hcc⟩:∃c:Nat,Jy (Zb n i) k=c:=⟨(Jy (Zb n i) k).toNat,by omega⟩
     have hcl:c<xs.length:=by omega
     have hv:=hg.val c hcl
     obtain⟨v,hvv⟩:∃v:Nat,Jy xs c=v:=⟨(Jy xs c).toNat,by omega⟩
     have hv4:v≤4:=by omega
     have hsl:(Yw seen).length=5:=by simp[Yw]
     have hcn:Vg xs ((Zb n i).drop k) seen=if(decide (0<v)&&seen.testBit v)=true then true else Vg xs ((Zb n i).drop (k+1)) (seen|||2^v):=by
      rw[List.drop_eq_getElem_cons (by omega),Fw]
      have:(Zb n i)[k]'(by omega)=c:=by rw[←hcc,Qe (by omega)];rfl
      rw[this,hvv,Int.toNat_natCast]
      simp
     have hs2:seen|||2^v<32:=by
      refine Nat.or_lt_two_pow (n:=5) hs ?_
      have:v=0∨v=1∨v=2∨v=3∨v=4:=by omega
      rcases this with h|h|h|h|h<;>rw[h]<;>omega
     simp(maxSteps:=999999)(disch:=omega)only[go_sem,zA,zM,zS,zE,zL,hcc,hvv]
     ((with_reducible first|refine JL ?_ ?_|refine JD ?_ ?_|refine JT ?_ ?_|refine Jv ?_ ?_|refine JJ ?_ ?_|refine JK ?_ ?_|refine JB ?_ ?_|refine JC ?_ ?_|refine JR ?_ ?_|refine JS ?_ ?_|refine Jw ?_ ?_|refine Jx ?_ ?_)<;>intro d1<;>simp(maxSteps:=999999)(disch:=omega)only[go_sem,zA,zM,zS,zE,zL,d1])
     · have d1:0<v:=by omega
       simp(maxSteps:=999999)(disch:=omega)only[go_sem,zA,zM,zS,zE,zL,hcc,hvv,JjQ hv4]
       ((first|(with_reducible first|refine Jm ?_ ?_|refine Jj ?_ ?_|refine Jo ?_ ?_)|refine Jr ?_ ?_)<;>intro d2)
       · simp(maxSteps:=999999)(disch:=omega)only[go_sem,zA,zM,zS,zE,zL]
         have:Wy xs n=true:=by
          unfold Wy
          rw[List.any_eq_true]
          exact⟨i,List.mem_range.2 h1,by rw[hc,hcn,if_pos (by simp[d1,d2])]⟩
         rw[this]
         rfl
       · simp(maxSteps:=999999)(disch:=omega)only[go_sem,zA,zM,zS,zE,zL,hcc,hvv,Jch hv4]
         refine⟨k+1,seen|||2^v,⟨⟨by omega, ?_,hs2⟩,by omega⟩,by push_cast;omega,J5.refl _⟩
         rw[hc,hcn,if_neg (by simp[d2])]
     · simp(maxSteps:=999999)(disch:=omega)only[go_sem,zA,zM,zS,zE,zL,hcc,hvv,Jch hv4]
       refine⟨k+1,seen|||2^v,⟨⟨by omega, ?_,hs2⟩,by omega⟩,by push_cast;omega,J5.refl _⟩
       rw[hc,hcn,if_neg (by simp;omega)]
   · have hke:k=n:=by omega
     simp(maxSteps:=999999)(disch:=omega)only[go_sem,zA,zM,zS,zE,zL]
     refine⟨i+1,⟨⟨by omega,fun j hj=> ?_⟩,by omega⟩,by push_cast;omega,J9 _⟩
     by_cases hji:j=i
     · rw[hji,hc,List.drop_of_length_le (by omega)];rfl
     · exact hno j (by omega)
 · simp(maxSteps:=999999)(disch:=omega)only[go_sem,zA,zM,zS,zE,zL]
   have:Wy xs n=false:=by
    unfold Wy
    rw[List.any_eq_false]
    intro j hj
    rw[List.mem_range]at hj
    rw[hno j (by omega)]
    simp
   rw[this]
   rfl
end Go.Lg
