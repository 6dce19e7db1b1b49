/- GpEB, GpMA, GpEC, GpED, cut to what is needed. -/
import Derived.Test.YtidekghnkifbjaaGreatDoorJec4
import Derived.Test.YtidekghnkifbjaaGreatDoorJec3
import Derived.Test.YtidekghnkifbjaaGreatDoorJeb9
open List renaming cons_append → Jb, nil_append → Jc, replicate → Jd, length_cons → Je, length_nil → Jf, length_append → Jk, length_set → Jo, getElem?_eq_getElem → Jq, take_of_length_le → Js, append_nil → Ju, getElem?_eq_none → Jx, length_take → JP, drop_zero → JR, mem_append → J2, mapM_cons → J4, mem_map → Qj, getElem?_map → Qv, mapM_nil → Qw, map_append → QE, length_drop → Ut, all_cons → VI
open Nat renaming reduceAdd→zA,reduceMul→zM,reduceSub→zS,reduceEqDiff→zE,reduceLeDiff→zL
set_option linter.unusedSimpArgs false
set_option linter.unusedVariables false
set_option maxRecDepth 100000
namespace Go.Lg
open Go.Proofs
theorem JfY{m k:Nat}(hm:m<2^62):decide (Uq .and .i64 ((m>>>k:Nat):Int) 1=1)=m.testBit k:=by
 have hs:m>>>k<2^62:=by rw[Nat.shiftRight_eq_div_pow];exact Nat.lt_of_le_of_lt (Nat.div_le_self _ _) hm
 have e:(BitVec.ofInt 64 ((m>>>k:Nat):Int)&&&BitVec.ofInt 64 1).toNat=(m>>>k)&&&1:=by
  have h1:BitVec.ofInt 64 1=BitVec.ofNat 64 1:=rfl
  rw[h1]
  simp only[BitVec.toNat_and,BitVec.ofInt_natCast,BitVec.toNat_ofNat]
  rw[Nat.mod_eq_of_lt (by omega)]
 have e2:Uq .and .i64 ((m>>>k:Nat):Int) 1=(((m>>>k)%2:Nat):Int):=by
  unfold Uq
  show IntKind.wrap .i64 ((BitVec.ofInt 64 ((m>>>k:Nat):Int)&&&BitVec.ofInt 64 1).toNat:Int)=_
  rw[e,Nat.and_one_is_mod]
  exact Ku (by omega)
 rw[e2,Nat.testBit_eq_decide_div_mod_eq,Nat.shiftRight_eq_div_pow,decide_eq_decide]
 omega
section
variable{P:Program}{o:Oper}{st:St}{K:KV}{fo:Operand}{xs:Array Operand}{ts:Array TypeId}{f:FuncId}{args:List AV}{caps:List AV}{Q:KV}
theorem JZ.runFn(hc:Jn P f args st.h Q)(he:Ji P f)(ho:o.op= .call ⟨.value fo,xs,ts⟩)(ht:VX st.h (QY st.s fo)=some (f,caps))(ha:xs.toList.map (QY st.s)++caps=args)(hk:∀r H',Q r H'→K r H'):JZ P o st K:=by
 refine JZ.call ho ht he ?_
 rw[ha]
 exact hc.mono hk
end
def Kj(r:Z0)(os:List Nat)(g0 g1 g2 g3 g4 g5 g6:Nat)(f:FuncId)(o:List Nat)(vs:List Int):Jm:=
 [some ⟨g0,1,cR r⟩,some ⟨g1,1,[.f (J5 (JQ os))]⟩,some ⟨g2,1,cl (eI .i64) (JQ o)⟩,some ⟨g3,1,[.own 2 g2 0 os.length none]⟩,some ⟨g4,1,cl (eI .i64) vs⟩,some ⟨g5,1,[.own 4 g4 0 os.length none]⟩,
   some ⟨g6,1,[.fn f [(1,g1),(0,g0),(5,g5),(3,g3),(6,g6)]]⟩]
theorem Jct(r:Z0)(os:List Nat)(g0 g1 g2 g3 g4 g5 g6:Nat)(hos:os.length≤4)(hob:∀m∈os,m<32)(hk:r.kind=1∨r.kind=2∨r.kind=3∨(r.kind=4∨r.kind=5)∧2≤os.length):
 ∀(d i:Nat) (o:List Nat) (vs:List Int),i+d=os.length→o.length=os.length→vs.length=os.length→(∀x∈o,x<32)→(∀v∈vs,0≤v∧v≤4)→
 Jn Tryz.prog 148 [int i, .c (.ptr 1 g1 0), .c (.ptr 0 g0 0), .c (.ptr 5 g5 0), .c (.ptr 3 g3 0), .c (.ptr 6 g6 0)] (Kj r os g0 g1 g2 g3 g4 g5 g6 148 o vs)
  (fun v H'=>v= .tup []∧∃vs',vs'.length=os.length∧vs'.take i=vs.take i∧(∀v∈vs',0≤v∧v≤4)∧H'=Kj r os g0 g1 g2 g3 g4 g5 g6 148 (Z3 r (os.drop i) (vs.take i) o) vs')
 |0,i,o,vs,hd,hol,hvl,ho,hv=>by
  have hnl:(JQ os).length=os.length:=Zy os
  have hno:(JQ o).length=os.length:=by rw[Zy,hol]
  unfold Kj
  refine Jn.cw (c:=_) Tryz.func148 rfl (n:=53) Tryz.ntmps148 (rs:=[]) rfl ?_
  simp only[Je,Jf,zA,zS,Jd,Jb,Jc]
  simp(maxSteps:=999999)(disch:=omega)only[go_sem,zA,zM,zS,zE,zL]
  ((first|(with_reducible first|refine Jl ?_ ?_|refine Jj ?_ ?_|refine Jp ?_ ?_)|refine Jr ?_ ?_)<;>intro c1)
  · simp(maxSteps:=999999)(disch:=omega)only[go_sem,zA,zM,zS,zE,zL]
    have hown:Qy (Kj r os g0 g1 g2 g3 g4 g5 g6 148 o vs) (.own 4 g4 0 os.length none) vs [4]:=by
     have:=Qy.o (H:=Kj r os g0 g1 g2 g3 g4 g5 g6 148 o vs) 4 g4 none vs [] (by rw[Ju];unfold Kj;simp only[go_sem])
     rwa [hvl]at this
    unfold Kj at hown
    refine JZ.rdD (GD r vs (by omega) hv (by omega)) (⟨_,Tryz.func149,rfl,rfl⟩:Ji Tryz.prog 149) rfl rfl (UO rfl hown.snap) rfl ?_
    have hdr:os.drop i=[]:=List.drop_of_length_le (by omega)
    have htk:vs.take i=vs:=Js (by omega)
    simp(maxSteps:=999999)(disch:=omega)only[go_sem,zA,zM,zS,zE,zL]
    ((first|(with_reducible first|refine Jl ?_ ?_|refine Jj ?_ ?_|refine Jp ?_ ?_)|refine Jr ?_ ?_)<;>intro c2)
    · simp(maxSteps:=999999)(disch:=omega)only[go_sem,zA,zM,zS,zE,zL]
      refine JY (fun k:Nat=>os.length -k) (fun k=>k≤os.length) (fun k=>[.a, .a, .a, .a, .k, .a, .a, .a, .a, .a, .a, .a, .a, .a, .a, .a, .a, .k, .k, .p (int k), .a, .a, .a, .a, .a, .a, .a, .a, .a, .a, .a, .a, .a, .a, .a, .a, .a, .a, .a, .a, .a, .a, .a, .a, .a, .a, .a, .a, .a, .a, .a, .a, .a]) (fun k=>Kj r os g0 g1 g2 g3 g4 g5 g6 148 (VN o vs k) vs) 0 (Nat.zero_le _) (by simp(maxSteps:=999999)(disch:=omega)only[go_sem,zA,zM,zS,zE,zL];rfl) (by rw[FQ];exact J0.refl _) ?_
      intro k hk'
      have hkl:=XX (o:=o) (vs:=vs) (k:=k) (by omega)
      unfold Kj
      simp(maxSteps:=999999)(disch:=omega)only[go_sem,zA,zM,zS,zE,zL]
      ((first|(with_reducible first|refine Jl ?_ ?_|refine Jj ?_ ?_|refine Jp ?_ ?_)|refine Jr ?_ ?_)<;>intro c3)
      · have c3:k<os.length:=by omega
        have hx:=G9 (o:=o) (vs:=vs) (k:=k) (by omega) (by omega)
        have hpk:=hv (JA vs k) (by rw[Qt (by omega)];exact List.getElem_mem _)
        have hok:=ho (o[k]'(by omega)) (List.getElem_mem _)
        have hkn:(JQ (VN o vs k)).length=os.length:=by rw[Zy,hkl,hol]
        have hset:=G8 (o:=o) (vs:=vs) (k:=k) (by omega) (by omega)
        have hpw:2^(JA vs k).toNat<2^62:=Nat.pow_lt_pow_right (by omega) (by omega)
        simp(maxSteps:=999999)(disch:=omega)only[go_sem,zA,zM,zS,zE,zL]
        refine Q3 [0,1,2,3,4,5] [] none [6,7,8] [] [0,0,3,7,0,16,63,127,255] Zd (by kernel_rfl) ?_
        simp(maxSteps:=999999)(disch:=omega)only[go_sem,zA,zM,zS,zE,zL,hx,UP hpk,Br (show(o[k]'(by omega))<2^62 by omega) hpw]
        rw[Int.toNat_natCast,hset]
        exact⟨k+1,⟨by omega,by omega⟩,by push_cast;omega,J0.refl _⟩
      · have hke:k=vs.length:=by omega
        simp(maxSteps:=999999)(disch:=omega)only[go_sem,zA,zM,zS,zE,zL]
        refine⟨_,J0.refl _,rfl,vs,hvl,rfl,hv, ?_⟩
        rw[hdr,htk,hke,Na (by omega)]
        unfold Z3
        rw[if_pos c2]
    · simp(maxSteps:=999999)(disch:=omega)only[go_sem,zA,zM,zS,zE,zL]
      refine⟨_,J0.refl _,rfl,vs,hvl,rfl,hv, ?_⟩
      rw[hdr,htk]
      unfold Z3
      rw[if_neg (by rw[c2];simp)]
  · exfalso;omega
 |d+1,i,o,vs,hd,hol,hvl,ho,hv=>by
  have hnl:(JQ os).length=os.length:=Zy os
  have hio:i<os.length:=by omega
  have hm32:=hob (os[i]'hio) (List.getElem_mem _)
  have hmn:=Ni hio
  have hdr:os.drop i=os[i]'hio::os.drop (i+1):=List.drop_eq_getElem_cons hio
  have htl:(vs.take i).length=i:=by rw[JP];omega
  have hpre:∀v∈vs.take i,0≤v∧v≤4:=fun v h=>hv v (List.mem_of_mem_take h)
  generalize hM:os[i]'hio=M at hm32 hmn hdr
  unfold Kj
  refine Jn.cw (c:=_) Tryz.func148 rfl (n:=53) Tryz.ntmps148 (rs:=[]) rfl ?_
  simp only[Je,Jf,zA,zS,Jd,Jb,Jc]
  simp(maxSteps:=999999)(disch:=omega)only[go_sem,zA,zM,zS,zE,zL]
  ((first|(with_reducible first|refine Jl ?_ ?_|refine Jj ?_ ?_|refine Jp ?_ ?_)|refine Jr ?_ ?_)<;>intro c1)
  · exfalso;omega
  simp(maxSteps:=999999)(disch:=omega)only[go_sem,zA,zM,zS,zE,zL]
  refine Xq (fun(v:Nat) _ _=>5 -v) (fun(v:Nat) (o':List Nat) (vs':List Int)=>(1≤v∧v≤5)∧o'=(Z9 M (v -1)).foldl (fun o w=>Z3 r (os.drop (i+1)) (vs.take i++[w]) o) o∧vs'.length=os.length∧vs'.take i=vs.take i∧(∀v∈vs',0≤v∧v≤4)) (fun v _ _=>[.k, .k, .a, .k, .a, .k, .a, .a, .a, .p (int v), .a, .a, .a, .a, .a, .a, .a, .a, .a, .a, .a, .a, .a, .a, .a, .a, .a, .a, .a, .a, .a, .a, .a, .a, .a, .a, .a, .a, .a, .a, .a, .a, .a, .a, .a, .a, .a, .a, .a, .a, .a, .a, .a]) (fun _ o' vs'=>Kj r os g0 g1 g2 g3 g4 g5 g6 148 o' vs') 1 o vs
   ⟨⟨by omega,by omega⟩,rfl,hvl,rfl,hv⟩ (by simp(maxSteps:=999999)(disch:=omega)only[go_sem,zA,zM,zS,zE,zL];rfl) (J0.refl _) ?_
  rintro v o' vs' ⟨⟨hv1,hv5⟩,ho',hvl',htk,hv'⟩
  obtain⟨hol',hob'⟩:=Jb1 r (os.drop (i+1)) (vs.take i) (Z9 M (v -1)) o hpre (fun w hw=>by have:=K7 hw;omega) (by rw[htl,Ut];omega) ho
  rw[←ho']at hol' hob'
  unfold Kj
  simp(maxSteps:=999999)(disch:=omega)only[go_sem,zA,zM,zS,zE,zL]
  ((first|(with_reducible first|refine Jl ?_ ?_|refine Jj ?_ ?_|refine Jp ?_ ?_)|refine Jr ?_ ?_)<;>intro c2)
  · have hv4:v≤4:=by omega
    have hsucc:=Nj (m:=M) (k:=v -1) (by omega)
    rw[show v -1+1=v by omega]at hsucc
    simp(maxSteps:=999999)(disch:=omega)only[go_sem,zA,zM,zS,zE,zL,hmn,Ya (s:=M) (v:=(v:Int)) (by omega)]
    rw[JfY (by omega)]
    ((first|(with_reducible first|refine Jl ?_ ?_|refine Jj ?_ ?_|refine Jp ?_ ?_)|refine Jr ?_ ?_)<;>intro hb)
    · rw[Int.toNat_natCast]at hb
      rw[if_pos hb]at hsucc
      simp(maxSteps:=999999)(disch:=omega)only[go_sem,zA,zM,zS,zE,zL]
      have hset:(vs'.set i (v:Int)).take (i+1)=vs.take i++[(v:Int)]:=by
       rw[Qg (by rw[Jo];omega),List.take_set_of_le (Nat.le_refl _),htk,Za _ _ _ _ (by omega),if_pos rfl]
      have hsl:(vs'.set i (v:Int)).length=os.length:=by rw[Jo];exact hvl'
      have hsv:∀w∈vs'.set i (v:Int),0≤w∧w≤4:=fun w hw=>by
       rcases List.mem_or_eq_of_mem_set hw with h|h
       · exact hv' w h
       · omega
      have hrec:=Jct r os g0 g1 g2 g3 g4 g5 g6 hos hob hk d (i+1) o' (vs'.set i (v:Int)) (by omega) (by omega) hsl hob' hsv
      have e:int ((i+1:Nat):Int)=int ((i:Int)+1):=by push_cast;rfl
      rw[e,hset]at hrec
      refine JZ.runFn hrec (⟨_,Tryz.func148,rfl,rfl⟩:Ji Tryz.prog 148) rfl (by show VX _ (.c (.fn 148 [(1,g1),(0,g0),(5,g5),(3,g3),(6,g6)]))=_;simp[VX,look]) rfl ?_
      rintro _ _ ⟨rfl,vs2,l2,t2,b2,rfl⟩
      unfold Kj
      simp(maxSteps:=999999)(disch:=omega)only[go_sem,zA,zM,zS,zE,zL]
      refine⟨v+1,_,vs2,⟨⟨⟨by omega,by omega⟩, ?_,l2, ?_,b2⟩,by omega⟩,by push_cast;omega,J0.refl _⟩
      · rw[show v+1 -1=v by omega,hsucc,List.foldl_append,←ho'];rfl
      · have:=congrArg (List.take i) t2
        rw[List.take_take,Nat.min_eq_left (by omega)]at this
        rw[this,List.take_append_of_le_length (by rw[htl];exact Nat.le_refl _),List.take_take,Nat.min_self]
    · rw[Int.toNat_natCast]at hb
      rw[if_neg (by rw[hb];simp),Ju]at hsucc
      simp(maxSteps:=999999)(disch:=omega)only[go_sem,zA,zM,zS,zE,zL]
      refine⟨v+1,o',vs',⟨⟨⟨by omega,by omega⟩,by rw[show v+1 -1=v by omega,hsucc];exact ho',hvl',htk,hv'⟩,by omega⟩,by push_cast;omega,J0.refl _⟩
  · have hve:v=5:=by omega
    simp(maxSteps:=999999)(disch:=omega)only[go_sem,zA,zM,zS,zE,zL]
    refine⟨_,J0.refl _,rfl,vs',hvl',htk,hv', ?_⟩
    rw[hdr,W5,ho',hve]
theorem Ro(r:Z0)(os:List Nat)(hos:os.length≤4)(hob:∀m∈os,m<32)(hk:r.kind=1∨r.kind=2∨r.kind=3∨(r.kind=4∨r.kind=5)∧2≤os.length):
 Jn Tryz.prog 125 [aR r,QO (JQ os)] [] (WS (JQ (Z3 r os [] (Jd os.length 0)))):=by
 have hnl:(JQ os).length=os.length:=Zy os
 refine Jn.cw (c:=_) Tryz.func125 rfl (n:=18) Tryz.ntmps125 (rs:=[.tmp 4]) rfl ?_
 simp only[Je,Jf,zA,zS,Jd,Jb,Jc]
 simp(maxSteps:=999999)(disch:=omega)only[go_sem,zA,zM,zS,zE,zL]
 intro g0 g2 g3 g4 g5 g1 g6
 simp(maxSteps:=999999)(disch:=omega)only[go_sem,zA,zM,zS,zE,zL,J4,Qw,Ka,Option.bind_eq_bind,Option.pure_def,Option.bind_some]
 refine⟨rfl, ?_⟩
 have hrun:=Jct r os g0 g2 g3 g4 g5 g1 g6 hos hob hk os.length 0 (Jd os.length 0) (Jd os.length 0) (by omega) (by simp) (by simp) (fun x hx=>by rw[List.eq_of_mem_replicate hx];omega) (fun x hx=>by rw[List.eq_of_mem_replicate hx];omega)
 unfold Kj at hrun
 rw[RN]at hrun
 rw[hnl]
 refine JZ.runFn hrun (⟨_,Tryz.func148,rfl,rfl⟩:Ji Tryz.prog 148) rfl (by show VX _ (.c (.fn 148 [(1,g2),(0,g0),(5,g1),(3,g4),(6,g6)]))=_;simp[VX,look]) rfl ?_
 rintro _ _ ⟨rfl,vs',l',t',b',rfl⟩
 have hlen:(JQ (Z3 r os [] (Jd os.length 0))).length=os.length:=by
  rw[Zy,VU _ _ _ _ (by simp)]
  simp
 rw[JR,List.take_zero]
 simp(maxSteps:=999999)(disch:=omega)only[go_sem,zA,zM,zS,zE,zL]
 obtain⟨H2,hH2⟩:∃H2,H2=Kj r os g0 g2 g3 g4 g5 g1 g6 148 (Z3 r os [] (Jd os.length 0)) vs':=⟨_,rfl⟩
 have hown:Qy H2 (.own 2 g3 0 os.length none) (JQ (Z3 r os [] (Jd os.length 0))) [2]:=by
  have:=Qy.o (H:=H2) 2 g3 none (JQ (Z3 r os [] (Jd os.length 0))) [] (by rw[Ju,hH2];unfold Kj;simp only[go_sem])
  rwa [hlen]at this
 unfold Kj at hH2
 rw[←hH2]
 exact⟨Rt [2] H2,BG _ _,_,[2],rfl,hown.same fun i hi=>K9 hi (hown.lt i hi),YB hown.blk⟩
end Go.Lg

namespace Go.Lg
open Go.Proofs
def QL(ms:List Nat)(k:Nat):Nat:=ms.getD k 0
theorem Zf(ms:List Nat)(k:Nat):JA (JQ ms) k=((QL ms k:Nat):Int):=by
 unfold JA JQ QL
 rw[Int.toNat_natCast]
 simp only[List.getD,Qv]
 by_cases h:k<ms.length
 · rw[Jq h];rfl
 · rw[Jx (by omega)];rfl
theorem Qq(ms:List Nat):(JQ ms).length=ms.length:=by simp[JQ]
theorem VE(ms:List Nat)(k v:Nat):(JQ ms).set k ((v:Nat):Int)=JQ (ms.set k v):=by simp[JQ,List.map_set]
theorem Vz{b:List Nat}{k v:Nat}(h:k<b.length):Qk (cl (eI .i64) (JQ b)) (0+((k:Nat):Int).toNat*1) [CV.f (.int .i64 ((v:Nat):Int))]=cl (eI .i64) (JQ (b.set k v)):=by
 rw[Int.toNat_natCast,←VE]
 exact Vj (E:=eI .i64) (n:=1) (by rw[Qq];exact h)
theorem JkK{ms:List Nat}{k:Nat}(h:k<ms.length):JQ (ms.take (k+1))=JQ (ms.take k)++[((QL ms k:Nat):Int)]:=by
 have e:QL ms k=ms[k]:=by unfold QL;simp[List.getD,Jq h]
 rw[e,List.take_succ_eq_append_getElem h]
 unfold JQ
 rw[QE]
 rfl
theorem Jdb{a b:List Nat}:JQ a=JQ b↔a=b:=by
 constructor
 · intro h
   exact(List.map_inj_right (fun x y h=>by omega)).1 h
 · rintro rfl;rfl
theorem WX{ms:List Nat}{k v i:Nat}(h:k<ms.length):QL (ms.set k v) i=if i=k then v else QL ms i:=by
 unfold QL
 simp only[List.getD,List.getElem?_set]
 by_cases hi:k=i
 · subst hi;simp[h]
 · rw[if_neg hi,if_neg (Ne.symm hi)]
theorem JiM{ms:List Nat}{k:Nat}(h:ms.length≤k):QL ms k=0:=by
 unfold QL
 simp[List.getD,Jx h]
theorem JkP{ms:List Nat}{k:Nat}(h:k<ms.length):QL ms k∈ms:=by
 unfold QL
 simp[List.getD,Jq h]
theorem JfC{a b:List Nat}(hl:a.length=b.length)(h:∀k,k<a.length→QL a k=QL b k):a=b:=by
 refine List.ext_getElem hl fun i h1 h2=> ?_
 have:=h i h1
 unfold QL at this
 simpa[List.getD,Jq h1,Jq h2]using this
structure XT(ms:List Nat)(n:Nat):Prop where
 len:ms.length=n*n
 val:∀m∈ms,m≤2^(n+1) -2∧m%2=0
theorem XT.at{ms:List Nat}{n:Nat}(h:XT ms n)(k:Nat):QL ms k≤2^(n+1) -2∧QL ms k%2=0:=by
 by_cases hk:k<ms.length
 · exact h.val _ (JkP hk)
 · rw[JiM (by omega)];exact⟨Nat.zero_le _,rfl⟩
theorem Jc1{n:Nat}(hn:n=2∨n=3∨n=4):8≤2^(n+1)∧2^(n+1)≤32:=by rcases hn with rfl|rfl|rfl<;>decide
theorem XT.lt{ms:List Nat}{n:Nat}(hn:n=2∨n=3∨n=4)(h:XT ms n)(k:Nat):QL ms k≤30∧QL ms k%2=0:=by
 have:=h.at k
 have:=Jc1 hn
 omega
theorem XT.ok{ms:List Nat}{n:Nat}(h:XT ms n):GA (JQ ms) n:=by
 refine⟨by rw[Qq];exact h.len,fun k hk=> ?_⟩
 have:=h.at k
 rw[Zf]
 omega
theorem XT.set{ms:List Nat}{n k v:Nat}(h:XT ms n)(hv:v≤2^(n+1) -2∧v%2=0):XT (ms.set k v) n:=
 ⟨by rw[Jo];exact h.len,fun m hm=>by
   rcases List.mem_or_eq_of_mem_set hm with hm|rfl
   · exact h.val m hm
   · exact hv⟩
def Zi(m:Nat):Nat:=if m=2 then 1 else if m=4 then 2 else if m=8 then 3 else if m=16 then 4 else 0
theorem Jiu(m:Nat):Zi m≤4:=by
 unfold Zi
 repeat' split
 all_goals omega
theorem RP{m:Nat}(h:m≤30∧m%2=0):((Z9 m 4).length=1↔Zi m≠0)∧(Zi m≠0→Z9 m 4=[(Zi m:Int)]∧m=2^Zi m):=by
 have key:∀k:Nat,k<31→((Z9 k 4).length=1↔Zi k≠0)∨k%2=1:=by decide
 have key2:∀k:Nat,k<31→Zi k≠0→Z9 k 4=[(Zi k:Int)]∧k=2^Zi k:=by decide
 exact⟨(key m (by omega)).resolve_right (by omega),key2 m (by omega)⟩
def B1(o m:Nat):Nat:=o&&&(31^^^m)
theorem JeS(o m:Nat):B1 o m≤o:=Nat.and_le_left
theorem Jjj{o m:Nat}(h:o%2=0):B1 o m%2=0:=by
 unfold B1
 have:(o&&&(31^^^m))%2=0:=by
  have h1:(o&&&(31^^^m)).testBit 0=false:=by
   rw[Nat.testBit_and]
   have:o.testBit 0=false:=by simpa[Nat.testBit_zero]using h
   rw[this,Bool.false_and]
  rw[Nat.testBit_zero,decide_eq_false_iff_not]at h1
  omega
 exact this
theorem Vv{o m:Nat}(ho:o<32)(hm:m<32):Uq .andNot .i64 (o:Int) (m:Int)=((B1 o m:Nat):Int):=by
 have key:∀a:Nat,a<32→∀b:Nat,b<32→Uq .andNot .i64 (a:Int) (b:Int)=((B1 a b:Nat):Int):=by decide+kernel
 exact key o ho m hm
theorem Jbl{o v:Nat}(ho:o<32)(hv:v≤4):Uq .and .i64 (o:Int) ((2^v:Nat):Int)=((B1 o (31^^^2^v):Nat):Int):=by
 have key:∀a:Nat,a<32→∀b:Nat,b<5→Uq .and .i64 (a:Int) ((2^b:Nat):Int)=((B1 a (31^^^2^b):Nat):Int):=by decide+kernel
 exact key o ho v (by omega)
theorem JiQ{o b:Nat}(ho:o<32)(hb:5≤b):o.testBit b=false:=Nat.testBit_lt_two_pow (Nat.lt_of_lt_of_le ho (by have:(2:Nat)^5≤2^b:=Nat.pow_le_pow_right (by omega) hb;omega))
theorem Jld{o m b:Nat}(ho:o<32):(B1 o m).testBit b=(o.testBit b&& !m.testBit b):=by
 unfold B1
 rw[Nat.testBit_and,Nat.testBit_xor]
 by_cases hb:b<5
 · have h31:(31:Nat).testBit b=true:=by
    have:b=0∨b=1∨b=2∨b=3∨b=4:=by omega
    rcases this with rfl|rfl|rfl|rfl|rfl<;>rfl
   rw[h31,Bool.true_xor]
 · rw[JiQ ho (by omega)];rfl
def Ze(R:List (Nat×Nat))(ms:List Nat):List Nat:=R.foldl (fun o q=>o.set q.1 (B1 (QL o q.1) q.2)) ms
theorem Jjk(R S:List (Nat×Nat))(ms:List Nat):Ze (R++S) ms=Ze S (Ze R ms):=by unfold Ze;rw[List.foldl_append]
theorem WI(R:List (Nat×Nat))(c m:Nat)(ms:List Nat):Ze (R++[(c,m)]) ms=(Ze R ms).set c (B1 (QL (Ze R ms) c) m):=by rw[Jjk];rfl
theorem V7(R:List (Nat×Nat)):∀ms:List Nat,(Ze R ms).length=ms.length:=by
 induction R with
 |nil=>intro ms;rfl
 |cons q R ih=>intro ms;show(Ze R _).length=_;rw[ih,Jo]
theorem W0{n:Nat}(R:List (Nat×Nat)):∀{ms:List Nat},XT ms n→XT (Ze R ms) n:=by
 induction R with
 |nil=>intro ms h;exact h
 |cons q R ih=>
  intro ms h
  refine ih (ms:=ms.set q.1 _) (h.set ?_)
  have:=h.at q.1
  have:=JeS (QL ms q.1) q.2
  exact⟨by omega,Jjj (h.at q.1).2⟩
theorem JdP{R:List (Nat×Nat)}:∀{ms:List Nat},(∀k,QL ms k<32)→∀{c b:Nat},c<ms.length→(QL (Ze R ms) c).testBit b=((QL ms c).testBit b&&R.all fun q=> !(q.1==c&&q.2.testBit b)):=by
 induction R with
 |nil=>intro ms _ c b _;simp[Ze]
 |cons q R ih=>
  intro ms h c b hc
  have hlt:∀k,QL (ms.set q.1 (B1 (QL ms q.1) q.2)) k<32:=fun k=>by
   by_cases hq:q.1<ms.length
   · rw[WX hq]
     split
     · exact Nat.lt_of_le_of_lt (JeS _ _) (h _)
     · exact h k
   · rw[List.set_eq_of_length_le (by omega)];exact h k
  have e:Ze (q::R) ms=Ze R (ms.set q.1 (B1 (QL ms q.1) q.2)):=rfl
  rw[e,ih hlt (by rw[Jo];exact hc),VI]
  by_cases hq:q.1=c
  · rw[WX (by omega),if_pos hq.symm,←hq,Jld (h _)]
    simp[Bool.and_assoc]
  · have:QL (ms.set q.1 (B1 (QL ms q.1) q.2)) c=QL ms c:=by
     by_cases hq2:q.1<ms.length
     · rw[WX hq2,if_neg (Ne.symm hq)]
     · rw[List.set_eq_of_length_le (by omega)]
    rw[this]
    have hb:(q.1==c)=false:=by simpa using hq
    rw[hb,Bool.false_and,Bool.not_false,Bool.true_and]
theorem JdO{R S:List (Nat×Nat)}{ms:List Nat}(h:∀k,QL ms k<32)(hrs:∀q,q∈R↔q∈S):Ze R ms=Ze S ms:=by
 refine JfC (by rw[V7,V7]) fun k hk=>Nat.eq_of_testBit_eq fun b=> ?_
 rw[V7]at hk
 rw[JdP h hk,JdP h hk]
 congr 1
 rw[Bool.eq_iff_iff,List.all_eq_true,List.all_eq_true]
 exact⟨fun hr q hq=>hr q ((hrs q).2 hq),fun hr q hq=>hr q ((hrs q).1 hq)⟩
theorem ZW{α:Type}(f:Nat→List α)(k:Nat):(List.range (k+1)).flatMap f=(List.range k).flatMap f++f k:=by
 rw[List.range_succ,List.flatMap_append]
 simp
def WA(ms:List Nat)(n i:Nat)(c:Nat):List (Nat×Nat):=if c=i then[]else[(c,QL ms i)]
def Jai(ms:List Nat)(n i k:Nat):List (Nat×Nat):=WA ms n i (i/n*n+k)++WA ms n i (k*n+i%n)
def JcF(ms:List Nat)(n i:Nat):List (Nat×Nat):=if Zi (QL ms i)=0 then[]else(List.range n).flatMap (Jai ms n i)
def Jah(ms:List Nat)(n:Nat):List Nat:=Ze ((List.range (n*n)).flatMap (JcF ms n)) ms
def GR(ms:List Nat)(n i j:Nat):List (Nat×Nat):=if j≠i∧(j/n=i/n∨j%n=i%n)then[(j,QL ms i)]else[]
def JcE(ms:List Nat)(n i:Nat):List (Nat×Nat):=if Zi (QL ms i)=0 then[]else(List.range (n*n)).flatMap (GR ms n i)
theorem Jgh{n:Nat}(hn:n=2∨n=3∨n=4){i:Nat}(hi:i<n*n)(j:Nat):(∃k:Nat,k<n∧(j=i/n*n+k∨j=k*n+i%n))↔j<n*n∧(j/n=i/n∨j%n=i%n):=by
 constructor
 · rintro⟨k,hk,rfl|rfl⟩
   · refine⟨?_, .inl ?_⟩<;>rcases hn with rfl|rfl|rfl<;>omega
   · refine⟨?_, .inr ?_⟩<;>rcases hn with rfl|rfl|rfl<;>omega
 · rintro⟨hj,h|h⟩
   · refine⟨j%n,Nat.mod_lt _ (by omega), .inl ?_⟩
     rcases hn with rfl|rfl|rfl<;>omega
   · refine⟨j/n,by rw[Nat.div_lt_iff_lt_mul (by omega)];exact hj, .inr ?_⟩
     rcases hn with rfl|rfl|rfl<;>omega
theorem Jfl{n:Nat}(hn:n=2∨n=3∨n=4)(ms:List Nat){i:Nat}(hi:i<n*n)(q:Nat×Nat):q∈JcF ms n i↔q∈JcE ms n i:=by
 unfold JcF JcE
 split
 · exact Iff.rfl
 have hc:=Jgh hn hi
 have e1:q∈(List.range n).flatMap (Jai ms n i)↔(q.1≠i∧q.2=QL ms i)∧∃k:Nat,k<n∧(q.1=i/n*n+k∨q.1=k*n+i%n):=by
  rw[List.mem_flatMap]
  constructor
  · rintro⟨k,hk,hq⟩
    have hk:=List.mem_range.1 hk
    unfold Jai WA at hq
    rcases J2.1 hq with hq|hq<;>split at hq
    · cases hq
    · rename_i h;have hq:q=(i/n*n+k,QL ms i):=by simpa using hq
      subst hq;exact⟨⟨h,rfl⟩,k,hk, .inl rfl⟩
    · cases hq
    · rename_i h;have hq:q=(k*n+i%n,QL ms i):=by simpa using hq
      subst hq;exact⟨⟨h,rfl⟩,k,hk, .inr rfl⟩
  · rintro⟨⟨h1,h2⟩,k,hk,h3⟩
    refine⟨k,List.mem_range.2 hk, ?_⟩
    obtain⟨a,b⟩:=q
    simp only at h1 h2 h3
    subst h2
    unfold Jai WA
    rcases h3 with h3|h3
    · refine J2.2 (.inl ?_)
      rw[←h3,if_neg h1];simp
    · refine J2.2 (.inr ?_)
      rw[←h3,if_neg h1];simp
 have e2:q∈(List.range (n*n)).flatMap (GR ms n i)↔(q.1≠i∧q.2=QL ms i)∧q.1<n*n∧(q.1/n=i/n∨q.1%n=i%n):=by
  rw[List.mem_flatMap]
  constructor
  · rintro⟨j,hj,hq⟩
    have hj:=List.mem_range.1 hj
    unfold GR at hq
    split at hq
    · rename_i h;have hq:q=(j,QL ms i):=by simpa using hq
      subst hq;exact⟨⟨h.1,rfl⟩,hj,h.2⟩
    · cases hq
  · rintro⟨⟨h1,h2⟩,hj,h3⟩
    refine⟨q.1,List.mem_range.2 hj, ?_⟩
    obtain⟨a,b⟩:=q
    simp only at h1 h2 h3 hj⊢
    subst h2
    unfold GR
    rw[if_pos ⟨h1,h3⟩];simp
 rw[e1,e2,hc]
theorem Jh4{n:Nat}(hn:n=2∨n=3∨n=4){ms:List Nat}(h:XT ms n):Ze ((List.range (n*n)).flatMap (JcE ms n)) ms=Jah ms n:=by
 refine JdO (fun k=>by have:=h.lt hn k;omega) fun q=> ?_
 rw[List.mem_flatMap,List.mem_flatMap]
 constructor
 · rintro⟨i,hi,hq⟩;exact⟨i,hi,(Jfl hn ms (List.mem_range.1 hi) q).2 hq⟩
 · rintro⟨i,hi,hq⟩;exact⟨i,hi,(Jfl hn ms (List.mem_range.1 hi) q).1 hq⟩
end Go.Lg

namespace Go.Lg
open Go.Proofs
theorem Ve{n:Nat}(hn:n=2∨n=3∨n=4):JW Tryz.prog 111 [int n] (int ((2^(n+1) -2:Nat):Int)):=by
 have hpw:(2^(n+1):Nat)≤32∧8≤(2^(n+1):Nat):=by rcases hn with rfl|rfl|rfl<;>omega
 refine Jn.cw (c:=_) Tryz.func111 rfl (n:=7) Tryz.ntmps111 (rs:=[.tmp 2]) rfl ?_
 simp only[Je,Jf,zA,zS,Jd,Jb,Jc]
 simp(maxSteps:=999999)(disch:=omega)only[go_sem,zA,zM,zS,zE,zL,Jfk hn]
 omega
theorem JgH{xs:List Int}{n:Nat}(hn:n=2∨n=3∨n=4){c:Int}(h:JA xs c≤4):Uw xs n c<32:=by
 unfold Uw
 split
 · generalize JA xs c=v at*
   have:v.toNat=0∨v.toNat=1∨v.toNat=2∨v.toNat=3∨v.toNat=4:=by omega
   rcases this with h|h|h|h|h<;>rw[h]<;>omega
 · rcases hn with rfl|rfl|rfl<;>omega
theorem Gd{n:Nat}(hn:n=2∨n=3∨n=4)(r:Z0)(xs:List Int)(hr:Ql r n=true)(hg:Zk xs n):JW Tryz.prog 94 [aR r,QO xs,int n] (bool (Zn r xs n)):=by
 obtain⟨h1,h2,h3,_⟩:=Q9 hr
 have hxl:=hg.len
 have hsq:n*n≤16:=by rcases hn with rfl|rfl|rfl<;>omega
 have hpw:(2^(n+1):Nat)≤32∧8≤(2^(n+1):Nat):=by rcases hn with rfl|rfl|rfl<;>omega
 obtain⟨os,hos⟩:∃os,os=r.cells.map (Uw xs n):=⟨_,rfl⟩
 have hol:os.length=r.cells.length:=by rw[hos];simp
 have hnl:(JQ os).length=os.length:=Zy os
 have hx4:∀c∈r.cells,0≤JA xs c∧JA xs c≤n:=fun c hc=>by
  have:=h3 c hc
  obtain⟨k,rfl⟩:∃k:Nat,c=k:=⟨c.toNat,by omega⟩
  exact hg.val k (by omega)
 have hob:∀m∈os,m<32:=fun m hm=>by
  rw[hos]at hm
  obtain⟨c,hc,rfl⟩:=Qj.1 hm
  have:=hx4 c hc
  exact JgH hn (by omega)
 have hkind:r.kind=1∨r.kind=2∨r.kind=3∨(r.kind=4∨r.kind=5)∧2≤os.length:=by
  have hr':=hr
  simp only[Ql,decide_eq_true_eq]at hr'
  obtain⟨_,_,k3⟩:=hr'
  unfold Va at k3
  omega
 refine Jn.cw (c:=_) Tryz.func94 rfl (n:=43) Tryz.ntmps94 (rs:=[.tmp 6]) rfl ?_
 simp only[Je,Jf,zA,zS,Jd,Jb,Jc]
 simp(maxSteps:=999999)(disch:=omega)only[go_sem,zA,zM,zS,zE,zL]
 intro g1 g2
 refine Qp (fun(k g:Nat)=>os.length -k) (fun k g=>k≤os.length) (fun k g=>[.a, .k, .k, .k, .a, .a, .a, .p (.c (.own 1 g 0 k none)), .a, .a, .a, .a, .k, .k, .p (int k), .a, .a, .a, .a, .a, .a, .a, .a, .a, .a, .a, .a, .a, .a, .a, .a, .a, .a, .a, .a, .a, .a, .a, .a, .a, .a, .a, .a]) (fun k g=>[some ⟨g1,1,cR r⟩,some ⟨g,1,cl (eI .i64) ((JQ os).take k)⟩]) 0 g2 (Nat.zero_le _) (by simp(maxSteps:=999999)(disch:=omega)only[go_sem,zA,zM,zS,zE,zL];rfl) (J0.refl _) ?_
 intro k g hk
 simp(maxSteps:=999999)(disch:=omega)only[go_sem,zA,zM,zS,zE,zL]
 ((first|(with_reducible first|refine Jl ?_ ?_|refine Jj ?_ ?_|refine Jp ?_ ?_)|refine Jr ?_ ?_)<;>intro c1)
 · have c1:k<r.cells.length:=by omega
   have hmem:JA r.cells k∈r.cells:=ZP c1
   have hcb:=h3 _ hmem
   have hcv:=hx4 _ hmem
   have hM:(JQ os).take (k+1)=(JQ os).take k++[((Uw xs n (JA r.cells k):Nat):Int)]:=by
    rw[Qg (by omega),Ni (by omega)]
    simp only[hos,List.getElem_map]
    rw[Qt (by omega)]
    rfl
   have htl:((JQ os).take k).length=k:=by rw[JP,hnl];omega
   obtain⟨c,hc⟩:∃c:Nat,JA r.cells k=c:=⟨(JA r.cells k).toNat,by omega⟩
   rw[hc]at hcb hcv hM
   have hcl:c<xs.length:=by omega
   simp(maxSteps:=999999)(disch:=omega)only[go_sem,zA,zM,zS,zE,zL,hc]
   ((first|(with_reducible first|refine Jl ?_ ?_|refine Jj ?_ ?_|refine Jp ?_ ?_)|refine Jr ?_ ?_)<;>intro c2)
   · have hz:Uw xs n c=2^(JA xs c).toNat:=by unfold Uw;rw[if_pos c2]
     simp(maxSteps:=999999)(disch:=omega)only[go_sem,zA,zM,zS,zE,zL,UP (v:=JA xs c) (by omega)]
     intro g3 g4
     refine⟨k+1,g4,⟨by omega,by omega⟩,⟨⟨rfl,rfl⟩,by push_cast;omega⟩, ?_⟩
     rw[hM,hz]
     exact J0.app [_,_] [_]
   · have hz:Uw xs n c=2^(n+1) -2:=by unfold Uw;rw[if_neg c2]
     simp(maxSteps:=999999)(disch:=omega)only[go_sem,zA,zM,zS,zE,zL]
     first|refine JZ.rd (Ve hn) (⟨_,Tryz.func111,rfl,rfl⟩:Ji Tryz.prog 111) rfl rfl rfl rfl ?_|refine JK.rd (Ve hn) (⟨_,Tryz.func111,rfl,rfl⟩:Ji Tryz.prog 111) rfl rfl rfl rfl ?_
     simp(maxSteps:=999999)(disch:=omega)only[go_sem,zA,zM,zS,zE,zL]
     intro g3 g4
     refine⟨k+1,g4,⟨by omega,by omega⟩,⟨⟨rfl,rfl⟩,by push_cast;omega⟩, ?_⟩
     rw[hM,hz]
     exact J0.app [_,_] [_]
 · have hke:k=os.length:=by omega
   have hMe:(JQ os).take k=JQ os:=Js (by omega)
   simp(maxSteps:=999999)(disch:=omega)only[go_sem,zA,zM,zS,zE,zL]
   rw[hMe]
   have hown:Qy [some ⟨g1,1,cR r⟩,some ⟨g,1,cl (eI .i64) (JQ os)⟩] (.own 1 g 0 k none) (JQ os) [1]:=by
    have:=Qy.o (H:=[some ⟨g1,1,cR r⟩,some ⟨g,1,cl (eI .i64) (JQ os)⟩]) 1 g none (JQ os) [] (by rw[Ju];simp only[go_sem])
    rwa [hnl,←hke]at this
   refine JZ.mkDI (Ro r os (by omega) hob hkind) (⟨_,Tryz.func125,rfl,rfl⟩:Ji Tryz.prog 125) rfl rfl (UO rfl hown.snap) ?_
   intro c H2 S2 o2 hS2
   have hln:0<(JQ (Z3 r os [] (Jd os.length 0))).length:=by
    rw[Zy,VU _ _ _ _ (by simp)]
    simp
    omega
   obtain⟨id,g',lim,ys,rfl,rfl,hlk⟩:=o2.inv' hln
   have hch:Zn r xs n=((Z3 r os [] (Jd os.length 0)).getD 0 0 !=0):=by unfold Zn;rw[hol,←hos]
   rw[hch]
   have hld:ldP (some ⟨g',1,cl (eI .i64) (JQ (Z3 r os [] (Jd os.length 0))++ys)⟩) 0=some (int (((Z3 r os [] (Jd os.length 0)).getD 0 0:Nat):Int)):=by
    rw[Zy]at hln
    obtain⟨a,t,he⟩:=List.exists_cons_of_length_pos hln
    rw[he]
    rfl
   have hlk':look (some ⟨g1,1,cR r⟩::some ⟨g,1,cl (eI .i64) (JQ os)⟩::H2) id g'=some ⟨g',1,cl (eI .i64) (JQ (Z3 r os [] (Jd os.length 0))++ys)⟩:=hlk
   have hl0:0<(JQ (Z3 r os [] (Jd os.length 0))++ys).length:=by simp only[Jk];omega
   simp(maxSteps:=999999)(disch:=omega)only[go_sem,zA,zM,zS,zE,zL,hlk',Int.reduceToNat,hld]
   generalize(Z3 r os [] (Jd os.length 0)).getD 0 0=x
   by_cases hx:x=0
   · subst hx;rfl
   · rw[decide_eq_false (by omega)]
     simp[hx]
theorem NB{n line:Nat}(hn:n=2∨n=3∨n=4)(hl:line<2*n):Jn Tryz.prog 124 [int n,int line] [] (G6 (eI .i64) 1 (Zo n line)):=by
 have hb:(line:Int)*n≤28∧0≤(line:Int)*n:=by rcases hn with rfl|rfl|rfl<;>omega
 have hn4:2≤n∧n≤4:=by omega
 have hlen:=Ul n line
 refine Jn.cw (c:=_) Tryz.func124 rfl (n:=49) Tryz.ntmps124 (rs:=[.tmp 4]) rfl ?_
 simp only[Je,Jf,zA,zS,Jd,Jb,Jc]
 simp(maxSteps:=999999)(disch:=omega)only[go_sem,zA,zM,zS,zE,zL]
 first|refine JZ.rd (VM _) (⟨_,Tryz.func96,rfl,rfl⟩:Ji Tryz.prog 96) rfl rfl rfl rfl ?_|refine JK.rd (VM _) (⟨_,Tryz.func96,rfl,rfl⟩:Ji Tryz.prog 96) rfl rfl rfl rfl ?_
 simp(maxSteps:=999999)(disch:=omega)only[go_sem,zA,zM,zS,zE,zL]
 ((with_reducible first|refine JJ ?_ ?_|refine JF ?_ ?_|refine JU ?_ ?_|refine Jw ?_ ?_|refine JH ?_ ?_|refine JI ?_ ?_|refine JD ?_ ?_|refine JE ?_ ?_|refine JS ?_ ?_|refine JT ?_ ?_|refine Jy ?_ ?_|refine Jz ?_ ?_)<;>intro a1<;>simp(maxSteps:=999999)(disch:=omega)only[go_sem,zA,zM,zS,zE,zL,a1])
 rotate_left
 · exfalso;omega
 ((with_reducible first|refine JJ ?_ ?_|refine JF ?_ ?_|refine JU ?_ ?_|refine Jw ?_ ?_|refine JH ?_ ?_|refine JI ?_ ?_|refine JD ?_ ?_|refine JE ?_ ?_|refine JS ?_ ?_|refine JT ?_ ?_|refine Jy ?_ ?_|refine Jz ?_ ?_)<;>intro a2<;>simp(maxSteps:=999999)(disch:=omega)only[go_sem,zA,zM,zS,zE,zL,a2])
 · exfalso;omega
 ((first|(with_reducible first|refine Jl ?_ ?_|refine Jj ?_ ?_|refine Jp ?_ ?_)|refine Jr ?_ ?_)<;>intro a3)
 · exfalso;omega
 simp(maxSteps:=999999)(disch:=omega)only[go_sem,zA,zM,zS,zE,zL]
 intro g
 refine Qp (fun(k g:Nat)=>n -k) (fun k g=>k≤n) (fun k g=>[.k, .k, .a, .a, .a, .p (.c (.own 0 g 0 k none)), .a, .a, .a, .a, .a, .a, .a, .a, .a, .a, .a, .a, .a, .a, .a, .a, .k, .p (int k), .a, .a, .a, .a, .a, .a, .a, .a, .a, .a, .a, .a, .a, .a, .a, .a, .a, .a, .a, .a, .a, .a, .a, .a, .a]) (fun k g=>[some ⟨g,1,cl (eI .i64) ((Zo n line).take k)⟩]) 0 g
  (Nat.zero_le _) (by simp(maxSteps:=999999)(disch:=omega)only[go_sem,zA,zM,zS,zE,zL];rfl) (J0.refl _) ?_
 intro k g hk
 simp(maxSteps:=999999)(disch:=omega)only[go_sem,zA,zM,zS,zE,zL]
 ((first|(with_reducible first|refine Jl ?_ ?_|refine Jj ?_ ?_|refine Jp ?_ ?_)|refine Jr ?_ ?_)<;>intro h1)
 · have h1:k<n:=by omega
   have hkb:(k:Int)*n≤16∧0≤(k:Int)*n:=by rcases hn with rfl|rfl|rfl<;>omega
   have hne:=Wo (line:=line) h1
   simp(maxSteps:=999999)(disch:=omega)only[go_sem,zA,zM,zS,zE,zL]
   ((first|(with_reducible first|refine Jl ?_ ?_|refine Jj ?_ ?_|refine Jp ?_ ?_)|refine Jr ?_ ?_)<;>intro h4)
   · simp(maxSteps:=999999)(disch:=omega)only[go_sem,zA,zM,zS,zE,zL]
     intro g1 g2
     refine⟨k+1,g2,⟨by omega,by omega⟩,⟨⟨rfl,rfl⟩,by push_cast;omega⟩,Z4 ?_ (Qu _)⟩
     rw[Qg (by omega),hne,if_pos (by omega)]
     push_cast
     rfl
   · simp(maxSteps:=999999)(disch:=omega)only[go_sem,zA,zM,zS,zE,zL]
     intro g1 g2
     refine⟨k+1,g2,⟨by omega,by omega⟩,⟨⟨rfl,rfl⟩,by push_cast;omega⟩,Z4 ?_ (Qu _)⟩
     rw[Qg (by omega),hne,if_neg (by omega)]
     have:((k*n+line -n:Nat):Int)=(k:Int)*n+line -n:=by
      have:n≤k*n+line:=by omega
      omega
     rw[this]
 · have hi':k=n:=by omega
   subst hi'
   simp(maxSteps:=999999)(disch:=omega)only[go_sem,zA,zM,zS,zE,zL]
   rw[Js (by omega)]
   have:=ZO (E:=eI .i64) (n:=1) (g:=g) (xs:=Zo k line) (J0.refl [some ⟨g,1,cl (eI .i64) (Zo k line)⟩])
   rw[hlen]at this
   exact this
theorem UT{n line:Nat}(hn:n=2∨n=3∨n=4)(hl:line<2*n):JW Tryz.prog 124 [int n,int line] (QO (Zo n line)):=JW.own (NB hn hl)
end Go.Lg

namespace Go.Lg
open Go.Proofs
def YW(s:Nat):List CV:=(List.range 5).map fun i=> .f (.bool (s.testBit i))
theorem Jkj{g s v:Nat}(h:v≤4):ldP (some ⟨g,5,YW s⟩) (0+(v:Int).toNat*1)=some (bool (s.testBit v)):=by
 rw[Int.toNat_natCast,Nat.zero_add,Nat.mul_one]
 have:(YW s)[v]? =some (.f (.bool (s.testBit v))):=by
  unfold YW
  rw[Qv,List.getElem?_range (by omega)]
  rfl
 simp only[ldP,this]
theorem JcI{s v:Nat}(h:v≤4):Qk (YW s) (0+(v:Int).toNat*1) [.f (.bool true)]=YW (s|||2^v):=by
 rw[Int.toNat_natCast,Nat.zero_add,Nat.mul_one]
 refine List.ext_getElem (by simp[Qk,YW];omega) fun j h1 h2=> ?_
 have hj:j<5:=by simpa[YW]using h2
 simp only[YW,List.getElem_map,List.getElem_range,Nat.testBit_or,Nat.testBit_two_pow]
 have:v=0∨v=1∨v=2∨v=3∨v=4:=by omega
 have hj':j=0∨j=1∨j=2∨j=3∨j=4:=by omega
 rcases this with rfl|rfl|rfl|rfl|rfl<;>rcases hj' with rfl|rfl|rfl|rfl|rfl<;>simp[Qk,YW,List.range_succ]
theorem KQ{n:Nat}(hn:n=2∨n=3∨n=4)(xs:List Int)(hg:Zk xs n):JW Tryz.prog 93 [QO xs,int n] (bool (!UL xs n)):=by
 have hn4:2≤n∧n≤4:=by omega
 have hl:=hg.len
 have hsq:n*n≤16:=by rcases hn with rfl|rfl|rfl<;>omega
 refine Jn.cw (c:=_) Tryz.func93 rfl (n:=47) Tryz.ntmps93 (rs:=[.tmp 4]) rfl ?_
 simp only[Je,Jf,zA,zS,Jd,Jb,Jc]
 simp(maxSteps:=999999)(disch:=omega)only[go_sem,zA,zM,zS,zE,zL]
 first|refine JZ.rd (ZG xs n (by omega)) (⟨_,Tryz.func54,rfl,rfl⟩:Ji Tryz.prog 54) rfl rfl rfl rfl ?_|refine JK.rd (ZG xs n (by omega)) (⟨_,Tryz.func54,rfl,rfl⟩:Ji Tryz.prog 54) rfl rfl rfl rfl ?_
 simp(maxSteps:=999999)(disch:=omega)only[go_sem,zA,zM,zS,zE,zL]
 ((first|(with_reducible first|refine Jl ?_ ?_|refine Jj ?_ ?_|refine Jp ?_ ?_)|refine Jr ?_ ?_)<;>intro c1)
 rotate_left
 · exfalso;rw[hg.valid hn]at c1;cases c1
 simp(maxSteps:=999999)(disch:=omega)only[go_sem,zA,zM,zS,zE,zL]
 refine JY (fun i:Nat=>2*n -i) (fun i=>i≤2*n∧∀j,j<i→Vp xs (Zo n j) 0=false) (fun i=>[.k, .k, .a, .a, .a, .a, .a, .a, .a, .a, .a, .a, .a, .a, .k, .p (int i), .a, .a, .a, .a, .a, .a, .a, .a, .a, .a, .a, .a, .a, .a, .a, .a, .a, .a, .a, .a, .a, .a, .a, .a, .a, .a, .a, .a, .a, .a, .a]) (fun _=>[]) 0 ⟨Nat.zero_le _,fun j hj=>absurd hj (Nat.not_lt_zero _)⟩ (by simp(maxSteps:=999999)(disch:=omega)only[go_sem,zA,zM,zS,zE,zL];rfl) (Qu _) ?_
 rintro i ⟨hi,hno⟩
 simp(maxSteps:=999999)(disch:=omega)only[go_sem,zA,zM,zS,zE,zL]
 ((first|(with_reducible first|refine Jl ?_ ?_|refine Jj ?_ ?_|refine Jp ?_ ?_)|refine Jr ?_ ?_)<;>intro h1)
 · have h1:i<2*n:=by omega
   simp(maxSteps:=999999)(disch:=omega)only[go_sem,zA,zM,zS,zE,zL]
   intro g
   first|refine JZ.mk (UT hn h1) (⟨_,Tryz.func124,rfl,rfl⟩:Ji Tryz.prog 124) rfl rfl rfl rfl rfl ?_|refine JK.mk (UT hn h1) (⟨_,Tryz.func124,rfl,rfl⟩:Ji Tryz.prog 124) rfl rfl rfl rfl rfl ?_
   simp(maxSteps:=999999)(disch:=omega)only[go_sem,zA,zM,zS,zE,zL]
   have hlen:=Ul n i
   refine Qp (fun(k seen:Nat)=>n -k) (fun k seen=>k≤n∧Vp xs (Zo n i) 0=Vp xs ((Zo n i).drop k) seen∧seen<32) (fun k seen=>[.k, .k, .a, .a, .a, .a, .k, .a, .a, .a, .a, .a, .a, .a, .k, .k, .a, .a, .a, .a, .a, .k, .k, .p (int k), .a, .a, .a, .a, .a, .a, .a, .a, .a, .a, .a, .a, .a, .a, .a, .a, .a, .a, .a, .a, .a, .a, .a]) (fun _ seen=>[some ⟨g,5,YW seen⟩]) 0 0 ⟨Nat.zero_le _,rfl,by omega⟩ (by simp(maxSteps:=999999)(disch:=omega)only[go_sem,zA,zM,zS,zE,zL];rfl) (by exact J0.refl _) ?_
   rintro k seen ⟨hk,hc,hs⟩
   simp(maxSteps:=999999)(disch:=omega)only[go_sem,zA,zM,zS,zE,zL]
   ((first|(with_reducible first|refine Jl ?_ ?_|refine Jj ?_ ?_|refine Jp ?_ ?_)|refine Jr ?_ ?_)<;>intro h2)
   · have h2:k<n:=by omega
     obtain⟨hb0,hb1⟩:=Kw hn h1 h2
     obtain⟨c,hcc⟩:∃c:Nat,JA (Zo n i) k=c:=⟨(JA (Zo n i) k).toNat,by omega⟩
     have hcl:c<xs.length:=by omega
     have hv:=hg.val c hcl
     obtain⟨v,hvv⟩:∃v:Nat,JA xs c=v:=⟨(JA xs c).toNat,by omega⟩
     have hv4:v≤4:=by omega
     have hsl:(YW seen).length=5:=by simp[YW]
     have hcn:Vp xs ((Zo n i).drop k) seen=if(decide (0<v)&&seen.testBit v)=true then true else Vp xs ((Zo n i).drop (k+1)) (seen|||2^v):=by
      rw[List.drop_eq_getElem_cons (by omega),F9]
      have:(Zo n i)[k]'(by omega)=c:=by rw[←hcc,Qt (by omega)];rfl
      rw[this,hvv,Int.toNat_natCast]
      simp
     have hs2:seen|||2^v<32:=by
      refine Nat.or_lt_two_pow (n:=5) hs ?_
      have:v=0∨v=1∨v=2∨v=3∨v=4:=by omega
      rcases this with h|h|h|h|h<;>rw[h]<;>omega
     simp(maxSteps:=999999)(disch:=omega)only[go_sem,zA,zM,zS,zE,zL,hcc,hvv]
     ((with_reducible first|refine JJ ?_ ?_|refine JF ?_ ?_|refine JU ?_ ?_|refine Jw ?_ ?_|refine JH ?_ ?_|refine JI ?_ ?_|refine JD ?_ ?_|refine JE ?_ ?_|refine JS ?_ ?_|refine JT ?_ ?_|refine Jy ?_ ?_|refine Jz ?_ ?_)<;>intro d1<;>simp(maxSteps:=999999)(disch:=omega)only[go_sem,zA,zM,zS,zE,zL,d1])
     · have d1:0<v:=by omega
       simp(maxSteps:=999999)(disch:=omega)only[go_sem,zA,zM,zS,zE,zL,hcc,hvv,Jkj hv4]
       ((first|(with_reducible first|refine Jl ?_ ?_|refine Jj ?_ ?_|refine Jp ?_ ?_)|refine Jr ?_ ?_)<;>intro d2)
       · simp(maxSteps:=999999)(disch:=omega)only[go_sem,zA,zM,zS,zE,zL]
         have:UL xs n=true:=by
          unfold UL
          rw[List.any_eq_true]
          exact⟨i,List.mem_range.2 h1,by rw[hc,hcn,if_pos (by simp[d1,d2])]⟩
         rw[this]
         rfl
       · simp(maxSteps:=999999)(disch:=omega)only[go_sem,zA,zM,zS,zE,zL,hcc,hvv,JcI hv4]
         refine⟨k+1,seen|||2^v,⟨⟨by omega, ?_,hs2⟩,by omega⟩,by push_cast;omega,J0.refl _⟩
         rw[hc,hcn,if_neg (by simp[d2])]
     · simp(maxSteps:=999999)(disch:=omega)only[go_sem,zA,zM,zS,zE,zL,hcc,hvv,JcI hv4]
       refine⟨k+1,seen|||2^v,⟨⟨by omega, ?_,hs2⟩,by omega⟩,by push_cast;omega,J0.refl _⟩
       rw[hc,hcn,if_neg (by simp;omega)]
   · have hke:k=n:=by omega
     simp(maxSteps:=999999)(disch:=omega)only[go_sem,zA,zM,zS,zE,zL]
     refine⟨i+1,⟨⟨by omega,fun j hj=> ?_⟩,by omega⟩,by push_cast;omega,Qu _⟩
     by_cases hji:j=i
     · rw[hji,hc,List.drop_of_length_le (by omega)];rfl
     · exact hno j (by omega)
 · simp(maxSteps:=999999)(disch:=omega)only[go_sem,zA,zM,zS,zE,zL]
   have:UL xs n=false:=by
    unfold UL
    rw[List.any_eq_false]
    intro j hj
    rw[List.mem_range]at hj
    rw[hno j (by omega)]
    simp
   rw[this]
   rfl
end Go.Lg
