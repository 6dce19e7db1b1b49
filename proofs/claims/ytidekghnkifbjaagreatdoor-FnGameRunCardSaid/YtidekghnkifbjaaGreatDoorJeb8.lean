/- GpDB, GpDC, cut to what is needed. -/
import Derived.Test.YtidekghnkifbjaaGreatDoorJeb7
import Derived.Test.YtidekghnkifbjaaGreatDoorJea9
import Derived.Test.YtidekghnkifbjaaGreatDoorJeb0
import Derived.Test.YtidekghnkifbjaaGreatDoorJeb4
open List renaming getElem?_append_left → Ja, cons_append → Jb, nil_append → Jc, replicate → Jd, length_cons → Je, length_nil → Jf, getElem?_set_ne → Jg, getElem?_eq_some_iff → Jh, length_append → Jk, take_of_length_le → Js, append_assoc → Jt, append_nil → Ju, length_singleton → JL, length_take → JP, drop_zero → JR, getElem?_set_self → JX, mem_append → J2, mem_cons → Qn, nodup_append → Qo, map_cons → Qr, length_map → Qs, map_append → QE, not_mem_nil → Zh, map_nil → ZV, getElem?_cons_succ → Ue, length_drop → Ut, sum_cons → Wz
open Nat renaming reduceAdd→zA,reduceMul→zM,reduceSub→zS,reduceEqDiff→zE,reduceLeDiff→zL
set_option linter.unusedSimpArgs false
set_option linter.unusedVariables false
set_option maxRecDepth 100000
namespace Go.Lg
open Go.Proofs
theorem Ff(vs:List Int)(v:Int):V2 (vs++[v])=V2 vs*v:=by simp[V2]
theorem Jc0:∀(n:Nat) (vs:List Int),vs.length≤n→(∀v∈vs,0≤v∧v≤4)→0≤V2 vs∧V2 vs≤4^n:=by
 intro n
 induction n with
 |zero=>intro vs h _;have:vs=[]:=List.eq_nil_of_length_eq_zero (by omega);subst this;simp[V2]
 |succ n ih=>
  intro vs h hv
  rcases List.eq_nil_or_concat vs with rfl|⟨ws,w,rfl⟩
  · exact⟨by simp[V2],by simp only[V2,List.foldl_nil];have:(0:Int)<4^(n+1):=Int.pow_pos (by omega);omega⟩
  · obtain⟨h1,h2⟩:=ih ws (by simp at h;omega) fun v hm=>hv v (by simp[hm])
    have hw:=hv w (by simp)
    rw[List.concat_eq_append,Ff]
    refine⟨Int.mul_nonneg h1 hw.1, ?_⟩
    have:=Int.mul_le_mul h2 hw.2 hw.1 (by omega)
    rw[Int.pow_succ]
    exact this
theorem G4{vs:List Int}(h:vs.length≤4)(hv:∀v∈vs,0≤v∧v≤4)(k:Nat):0≤V2 (vs.take k)∧V2 (vs.take k)≤256:=by
 have:=Jc0 4 (vs.take k) (by simp;omega) fun v hm=>hv v (List.mem_of_mem_take hm)
 omega
theorem Jcw{vs:List Int}(h:vs.length≤4)(hv:∀v∈vs,0≤v∧v≤4)(k:Nat):0≤(vs.take k).sum∧(vs.take k).sum≤16:=by
 have gen:∀(ws:List Int),(∀v∈ws,0≤v∧v≤4)→0≤ws.sum∧ws.sum≤4*ws.length:=by
  intro ws hw
  induction ws with
  |nil=>simp
  |cons w ws ih=>
   have h1:=ih fun v hm=>hw v (by simp[hm])
   have h2:=hw w (by simp)
   simp only[Wz,Je]
   push_cast
   omega
 have:=gen (vs.take k) fun v hm=>hv v (List.mem_of_mem_take hm)
 have:(vs.take k).length≤4:=by simp;omega
 omega
theorem YG{vs:List Int}{k:Nat}(h:k<vs.length):(vs.take (k+1)).Nodup↔(vs.take k).Nodup∧∀i:Nat,i<k→JA vs i≠JA vs k:=by
 rw[Qg h,Qo]
 constructor
 · rintro⟨h1,_,h3⟩
   refine⟨h1,fun i hi=>h3 _ ?_ _ (by simp)⟩
   rw[Qt (by omega)]
   simp only[Int.toNat_natCast]
   exact List.mem_take_iff_getElem.2 ⟨i,by omega,rfl⟩
 · rintro⟨h1,h2⟩
   refine⟨h1,by simp,fun a ha b hb=> ?_⟩
   obtain⟨i,hi,rfl⟩:=List.mem_take_iff_getElem.1 ha
   have:=h2 i (by omega)
   rw[Qt (by omega)]at this
   simp only[Int.toNat_natCast]at this
   simp only[List.mem_singleton]at hb
   rw[hb]
   exact this
theorem Jdo(r:Z0)(vs:List Int)(hl:vs.length≤4)(hv:∀v∈vs,0≤v∧v≤4)(hk:r.kind=1∨r.kind=2∨r.kind=3∨2≤vs.length):JW Tryz.prog 172 [aR r,QO vs] (bool (V5 r vs)):=by
 have hnv:∀k:Nat,k<vs.length→0≤JA vs k∧JA vs k≤4:=fun k hk=>hv _ (by rw[Qt (by omega)];exact List.getElem_mem _)
 have hpt:=G4 hl hv
 have hst:=Jcw hl hv
 refine Jn.cw (c:=_) Tryz.func172 rfl (n:=86) Tryz.ntmps172 (rs:=[.tmp 4]) rfl ?_
 simp only[Je,Jf,zA,zS,Jd,Jb,Jc]
 simp(maxSteps:=999999)(disch:=omega)only[go_sem,zA,zM,zS,zE,zL]
 intro g
 refine JY (fun k:Nat=>vs.length -k) (fun k=>k≤vs.length) (fun k=>[.a, .k, .k, .a, .a, .p (int (vs.take k).sum), .p (int (V2 (vs.take k))), .p (bool (decide (vs.take k).Nodup)), .p (int k), .a, .a, .a, .a, .a, .a, .a, .a, .a, .a, .a, .a, .a, .a, .a, .a, .a, .a, .a, .a, .a, .a, .a, .a, .a, .a, .a, .a, .a, .a, .a, .a, .a, .a, .a, .a, .a, .a, .a, .a, .a, .a, .a, .a, .a, .a, .a, .a, .a, .a, .a, .a, .a, .a, .a, .a, .a, .a, .a, .a, .a, .a, .a, .a, .a, .a, .a, .a, .a, .a, .a, .a, .a, .a, .a, .a, .a]) (fun _=>[some ⟨g,1,cR r⟩]) 0 (Nat.zero_le _) (by simp(maxSteps:=999999)(disch:=omega)only[go_sem,zA,zM,zS,zE,zL];simp[V2]) (J0.refl _) ?_
 intro k hk'
 simp(maxSteps:=999999)(disch:=omega)only[go_sem,zA,zM,zS,zE,zL]
 ((first|(with_reducible first|refine Jl ?_ ?_|refine Jj ?_ ?_|refine Jp ?_ ?_)|refine Jr ?_ ?_)<;>intro h1)
 · have h1:k<vs.length:=by omega
   have e1:(vs.take (k+1)).sum=(vs.take k).sum+JA vs k:=by rw[Qg h1];simp
   have e2:V2 (vs.take (k+1))=V2 (vs.take k)*JA vs k:=by rw[Qg h1,Ff]
   have b1:=hst (k+1)
   have b2:=hpt (k+1)
   rw[e1]at b1
   rw[e2]at b2
   simp(maxSteps:=999999)(disch:=omega)only[go_sem,zA,zM,zS,zE,zL]
   refine JY (fun j:Nat=>k -j) (fun j=>j≤k) (fun j=>[.a, .k, .k, .a, .a, .k, .k, .p (bool (decide ((vs.take k).Nodup∧∀i:Nat,i<j→JA vs i≠JA vs k))), .k, .p (int j), .a, .a, .a, .a, .a, .a, .a, .a, .a, .a, .a, .a, .a, .a, .a, .a, .a, .a, .a, .a, .a, .a, .a, .a, .a, .a, .a, .a, .a, .a, .a, .a, .a, .a, .a, .a, .a, .a, .a, .a, .a, .a, .a, .a, .a, .a, .a, .a, .a, .a, .a, .a, .a, .a, .a, .a, .a, .a, .a, .a, .a, .a, .a, .a, .a, .a, .a, .a, .a, .a, .a, .a, .a, .a, .a, .a]) (fun _=>[some ⟨g,1,cR r⟩]) 0 (Nat.zero_le _) (by simp(maxSteps:=999999)(disch:=omega)only[go_sem,zA,zM,zS,zE,zL];exact⟨by simp,rfl⟩) (J0.refl _) ?_
   intro j hj
   have hd:((vs.take k).Nodup∧∀i:Nat,i<j+1→JA vs i≠JA vs k)↔((vs.take k).Nodup∧∀i:Nat,i<j→JA vs i≠JA vs k)∧JA vs j≠JA vs k:=by
    constructor
    · rintro⟨a,b⟩
      exact⟨⟨a,fun i hi=>b i (by omega)⟩,b j (by omega)⟩
    · rintro⟨⟨a,b⟩,c⟩
      refine⟨a,fun i hi=> ?_⟩
      by_cases hij:i=j
      · rw[hij];exact c
      · exact b i (by omega)
   generalize hb:decide ((vs.take k).Nodup∧∀i:Nat,i<j→JA vs i≠JA vs k)=b
   cases b with
   |false=>
    simp(maxSteps:=999999)(disch:=omega)only[go_sem,zA,zM,zS,zE,zL]
    ((first|(with_reducible first|refine Jl ?_ ?_|refine Jj ?_ ?_|refine Jp ?_ ?_)|refine Jr ?_ ?_)<;>intro h2)
    · have h2:j<k:=by omega
      simp(maxSteps:=999999)(disch:=omega)only[go_sem,zA,zM,zS,zE,zL]
      refine Zj Zd (by kernel_rfl) ?_
      simp(maxSteps:=999999)(disch:=omega)only[go_sem,Nat.reduceBEq,Bool.true_or,zA,zM,zS,zE,zL]
      refine⟨j+1,⟨by omega,by omega⟩,⟨?_,by push_cast;omega⟩,J0.refl _⟩
      rw[eq_comm,decide_eq_false_iff_not,hd]
      exact fun h=>(decide_eq_false_iff_not.1 hb) h.1
    · have hjk:j=k:=by omega
      simp(maxSteps:=999999)(disch:=omega)only[go_sem,zA,zM,zS,zE,zL]
      refine⟨k+1,⟨by omega,by omega⟩,⟨e1.symm,e2.symm, ?_,by push_cast;omega⟩,J0.refl _⟩
      rw[eq_comm,decide_eq_false_iff_not,YG h1,←hjk]
      rw[hjk]at hb⊢
      exact decide_eq_false_iff_not.1 hb
   |true=>
    simp(maxSteps:=999999)(disch:=omega)only[go_sem,zA,zM,zS,zE,zL]
    ((first|(with_reducible first|refine Jl ?_ ?_|refine Jj ?_ ?_|refine Jp ?_ ?_)|refine Jr ?_ ?_)<;>intro h2)
    · have h2:j<k:=by omega
      have hjl:j<vs.length:=by omega
      simp(maxSteps:=999999)(disch:=omega)only[go_sem,zA,zM,zS,zE,zL]
      refine Zj Zd (by kernel_rfl) ?_
      simp(maxSteps:=999999)(disch:=omega)only[go_sem,Nat.reduceBEq,Bool.true_or,zA,zM,zS,zE,zL]
      refine⟨j+1,⟨by omega,by omega⟩,⟨?_,by push_cast;omega⟩,J0.refl _⟩
      have hb':=of_decide_eq_true hb
      by_cases he:JA vs (j:Int)=JA vs (k:Int)
      · rw[decide_eq_true he,eq_comm,Bool.not_true,decide_eq_false_iff_not,hd]
        exact fun h=>h.2 he
      · rw[decide_eq_false he,eq_comm,Bool.not_false,decide_eq_true_eq,hd]
        exact⟨hb',he⟩
    · have hjk:j=k:=by omega
      simp(maxSteps:=999999)(disch:=omega)only[go_sem,zA,zM,zS,zE,zL]
      refine⟨k+1,⟨by omega,by omega⟩,⟨e1.symm,e2.symm, ?_,by push_cast;omega⟩,J0.refl _⟩
      rw[eq_comm,decide_eq_true_eq,YG h1]
      rw[hjk]at hb
      exact of_decide_eq_true hb
 · simp(maxSteps:=999999)(disch:=omega)only[go_sem,zA,zM,zS,zE,zL]
   rw[Js (by omega)]
   have hkl:vs.take k=vs:=Js (by omega)
   ((first|(with_reducible first|refine Jl ?_ ?_|refine Jj ?_ ?_|refine Jp ?_ ?_)|refine Jr ?_ ?_)<;>intro d1)
   · simp(maxSteps:=999999)(disch:=omega)only[go_sem,zA,zM,zS,zE,zL]
     unfold V5
     rw[if_pos d1]
   simp(maxSteps:=999999)(disch:=omega)only[go_sem,zA,zM,zS,zE,zL]
   ((first|(with_reducible first|refine Jl ?_ ?_|refine Jj ?_ ?_|refine Jp ?_ ?_)|refine Jr ?_ ?_)<;>intro d2)
   · simp(maxSteps:=999999)(disch:=omega)only[go_sem,zA,zM,zS,zE,zL]
     unfold V5
     rw[if_neg d1,if_pos d2]
   simp(maxSteps:=999999)(disch:=omega)only[go_sem,zA,zM,zS,zE,zL]
   ((first|(with_reducible first|refine Jl ?_ ?_|refine Jj ?_ ?_|refine Jp ?_ ?_)|refine Jr ?_ ?_)<;>intro d3)
   · simp(maxSteps:=999999)(disch:=omega)only[go_sem,zA,zM,zS,zE,zL]
     unfold V5
     rw[if_neg d1,if_neg d2,if_pos d3]
   have hl2:2≤vs.length:=by omega
   simp(maxSteps:=999999)(disch:=omega)only[go_sem,zA,zM,zS,zE,zL]
   have v0:0≤JA vs (0:Int)∧JA vs (0:Int)≤4:=hnv 0 (by omega)
   have v1:0≤JA vs (1:Int)∧JA vs (1:Int)≤4:=hnv 1 (by omega)
   ((first|(with_reducible first|refine Jl ?_ ?_|refine Jj ?_ ?_|refine Jp ?_ ?_)|refine Jr ?_ ?_)<;>intro d4)
   · simp(maxSteps:=999999)(disch:=omega)only[go_sem,zA,zM,zS,zE,zL]
     refine Zj Zd (by kernel_rfl) ?_
     simp(maxSteps:=999999)(disch:=omega)only[go_sem,Nat.reduceBEq,Bool.true_or,zA,zM,zS,zE,zL]
     unfold V5
     rw[if_neg d1,if_neg d2,if_neg d3,if_pos d4]
   · simp(maxSteps:=999999)(disch:=omega)only[go_sem,zA,zM,zS,zE,zL]
     refine Zj Zd (by kernel_rfl) ?_
     simp(maxSteps:=999999)(disch:=omega)only[go_sem,Nat.reduceBEq,Bool.true_or,zA,zM,zS,zE,zL]
     unfold V5
     rw[if_neg d1,if_neg d2,if_neg d3,if_neg d4,show(0:Int) -(JA vs 0 -JA vs 1)=JA vs 1 -JA vs 0 by omega]
end Go.Lg

namespace Go.Lg
open Go.Proofs
def Z9(m:Nat)(k:Nat):List Int:=(([1,2,3,4]:List Nat).take k).flatMap fun v=>if m.testBit v=true then[(v:Int)]else[]
theorem Nj{m k:Nat}(hk:k<4):Z9 m (k+1)=Z9 m k++if m.testBit (k+1)=true then[((k+1:Nat):Int)]else[]:=by
 have:k=0∨k=1∨k=2∨k=3:=by omega
 unfold Z9
 rcases this with rfl|rfl|rfl|rfl<;>simp
theorem Ja5(m k:Nat):(Z9 m k).length≤4:=by
 unfold Z9
 rw[List.length_flatMap]
 have:∀(l:List Nat),(l.map fun v=>(if m.testBit v=true then[(v:Int)]else[]).length).sum≤l.length:=by
  intro l
  induction l with
  |nil=>simp
  |cons v l ih=>
   simp only[Qr,Wz,Je]
   split<;>simp<;>omega
 exact Nat.le_trans (this _) (by simp;omega)
theorem K7{m k:Nat}{x:Int}(h:x∈Z9 m k):1≤x∧x≤4:=by
 unfold Z9 at h
 obtain⟨v,hv,hx⟩:=List.mem_flatMap.1 h
 have:=List.mem_of_mem_take hv
 split at hx
 · simp only[List.mem_singleton]at hx
   simp only[Qn,Zh,or_false]at this
   omega
 · simp at hx
theorem W5(r:Z0)(m:Nat)(ms:List Nat)(pre:List Int)(o:List Nat):Z3 r (m::ms) pre o=(Z9 m 4).foldl (fun o v=>Z3 r ms (pre++[v]) o) o:=by
 have e:Z3 r (m::ms) pre o=[1,2,3,4].foldl (fun o (v:Nat)=>if m.testBit v=true then Z3 r ms (pre++[(v:Int)]) o else o) o:=rfl
 rw[e,Z9,List.foldl_flatMap]
 have e2:(([1,2,3,4]:List Nat).take 4)=[1,2,3,4]:=rfl
 rw[e2]
 congr 1
 funext o v
 split<;>simp
theorem Jaa(m:Nat)(h:m≤30∧m%2=0):Jn Tryz.prog 106 [int m] [] (G6 (eI .i64) 1 (Z9 m 4)):=by
 have hm2:((m:Int)).tmod 2=0:=by rw[VW (by omega)];omega
 refine Jn.cw (c:=_) Tryz.func106 rfl (n:=29) Tryz.ntmps106 (rs:=[.tmp 2]) rfl ?_
 simp only[Je,Jf,zA,zS,Jd,Jb,Jc]
 simp(maxSteps:=999999)(disch:=omega)only[go_sem,zA,zM,zS,zE,zL]
 intro g
 refine Qp (fun(v g:Nat)=>5 -v) (fun v g=>1≤v∧v≤5) (fun v g=>[.k, .a, .a, .p (.c (.own 0 g 0 (Z9 m (v -1)).length none)), .p (int v), .a, .a, .a, .a, .a, .a, .a, .a, .a, .a, .a, .a, .a, .a, .a, .a, .a, .a, .a, .a, .a, .a, .a, .a]) (fun v g=>[some ⟨g,1,cl (eI .i64) (Z9 m (v -1))⟩]) 1 g ⟨by omega,by omega⟩ (by simp(maxSteps:=999999)(disch:=omega)only[go_sem,zA,zM,zS,zE,zL];exact⟨by simp[Z9],rfl⟩) (J0.refl _) ?_
 rintro v g ⟨hv1,hv2⟩
 have hlen:=Ja5 m (v -1)
 simp(maxSteps:=999999)(disch:=omega)only[go_sem,zA,zM,zS,zE,zL]
 ((with_reducible first|refine JJ ?_ ?_|refine JF ?_ ?_|refine JU ?_ ?_|refine Jw ?_ ?_|refine JH ?_ ?_|refine JI ?_ ?_|refine JD ?_ ?_|refine JE ?_ ?_|refine JS ?_ ?_|refine JT ?_ ?_|refine Jy ?_ ?_|refine Jz ?_ ?_)<;>intro h1<;>simp(maxSteps:=999999)(disch:=omega)only[go_sem,zA,zM,zS,zE,zL,h1])
 · first|refine JZ.rd (Qz _ _ _) (⟨_,Tryz.func40,rfl,rfl⟩:Ji Tryz.prog 40) rfl rfl rfl rfl ?_|refine JK.rd (Qz _ _ _) (⟨_,Tryz.func40,rfl,rfl⟩:Ji Tryz.prog 40) rfl rfl rfl rfl ?_
   simp(maxSteps:=999999)(disch:=omega)only[go_sem,zA,zM,zS,zE,zL]
   ((with_reducible first|refine JJ ?_ ?_|refine JF ?_ ?_|refine JU ?_ ?_|refine Jw ?_ ?_|refine JH ?_ ?_|refine JI ?_ ?_|refine JD ?_ ?_|refine JE ?_ ?_|refine JS ?_ ?_|refine JT ?_ ?_|refine Jy ?_ ?_|refine Jz ?_ ?_)<;>intro h2<;>simp(maxSteps:=999999)(disch:=omega)only[go_sem,zA,zM,zS,zE,zL,h2])
   rotate_left
   · exfalso;omega
   simp(maxSteps:=999999)(disch:=omega)only[go_sem,zA,zM,zS,zE,zL,hm2]
   have hv4:v≤4:=by omega
   have hsucc:=Nj (m:=m) (k:=v -1) (by omega)
   rw[show v -1+1=v by omega]at hsucc
   simp(maxSteps:=999999)(disch:=omega)only[go_sem,zA,zM,zS,zE,zL,Ya (s:=m) (v:=(v:Int)) (by omega),Jcb]
   rw[Int.toNat_natCast]
   ((first|(with_reducible first|refine Jl ?_ ?_|refine Jj ?_ ?_|refine Jp ?_ ?_)|refine Jr ?_ ?_)<;>intro hb)
   · rw[if_pos hb]at hsucc
     simp(maxSteps:=999999)(disch:=omega)only[go_sem,zA,zM,zS,zE,zL]
     intro g1 g2
     refine⟨v+1,g2,⟨⟨by omega,by omega⟩,by omega⟩,⟨?_,by push_cast;omega⟩,Z4 ?_ (Qu _)⟩
     · rw[show v+1 -1=v by omega,hsucc,Jk]
       exact⟨rfl,rfl⟩
     · rw[show v+1 -1=v by omega,hsucc,Q6]
   · rw[if_neg (by rw[hb];simp),Ju]at hsucc
     simp(maxSteps:=999999)(disch:=omega)only[go_sem,zA,zM,zS,zE,zL]
     refine⟨v+1,g,⟨⟨by omega,by omega⟩,by omega⟩,⟨?_,by push_cast;omega⟩,Z4 ?_ (J0.refl _)⟩
     · rw[show v+1 -1=v by omega,hsucc]
       exact⟨rfl,rfl⟩
     · rw[show v+1 -1=v by omega,hsucc]
 · have hv5:v=5:=by omega
   subst hv5
   exact ZO (J0.refl _)
theorem Uc(m:Nat)(h:m≤30∧m%2=0):JW Tryz.prog 106 [int m] (QO (Z9 m 4)):=JW.own (Jaa m h)
attribute [-go_sem] J9 Jv
theorem ZQ(o:List Nat)(vs:List Int):(orV o vs).length=min o.length vs.length:=by simp[orV]
theorem VU(r:Z0):∀(ms:List Nat) (pre:List Int) (o:List Nat),pre.length+ms.length=o.length→(Z3 r ms pre o).length=o.length
 |[],pre,o,h=>by
  unfold Z3
  split
  · rw[ZQ];simp at h;omega
  · rfl
 |m::ms,pre,o,h=>by
  rw[W5]
  have:∀(l:List Int) (o':List Nat),o'.length=o.length→(l.foldl (fun o v=>Z3 r ms (pre++[v]) o) o').length=o.length:=by
   intro l
   induction l with
   |nil=>intro o' h';exact h'
   |cons v l ih=>
    intro o' h'
    rw[List.foldl_cons]
    exact ih _ (by rw[VU r ms (pre++[v]) o' (by simp at h⊢;omega)];exact h')
  exact this _ _ rfl
theorem Jl0{o:List Nat}{vs:List Int}(ho:∀x∈o,x<32)(hv:∀v∈vs,0≤v∧v≤4):∀x∈orV o vs,x<32:=by
 intro x hx
 obtain⟨i,hi,rfl⟩:=List.mem_iff_getElem.1 hx
 have hi':=hi
 rw[ZQ]at hi'
 have hio:i<o.length:=by omega
 have hiv:i<vs.length:=by omega
 simp only[orV,List.getElem_zipWith]
 have h1:=ho _ (List.getElem_mem hio:o[i]∈o)
 have h2:=hv _ (List.getElem_mem hiv:vs[i]∈vs)
 refine Nat.or_lt_two_pow (n:=5) h1 ?_
 generalize vs[i]=w at h2
 have:w.toNat=0∨w.toNat=1∨w.toNat=2∨w.toNat=3∨w.toNat=4:=by omega
 rcases this with h|h|h|h|h<;>rw[h]<;>omega
theorem Jfd(r:Z0):∀(ms:List Nat) (pre:List Int) (o:List Nat),(∀v∈pre,0≤v∧v≤4)→(∀x∈o,x<32)→∀x∈Z3 r ms pre o,x<32
 |[],pre,o,hp,ho=>by
  unfold Z3
  split
  · exact Jl0 ho hp
  · exact ho
 |m::ms,pre,o,hp,ho=>by
  rw[W5]
  have:∀(l:List Int) (o':List Nat),(∀v∈l,0≤v∧v≤4)→(∀x∈o',x<32)→∀x∈l.foldl (fun o v=>Z3 r ms (pre++[v]) o) o',x<32:=by
   intro l
   induction l with
   |nil=>intro o' _ h';exact h'
   |cons v l ih=>
    intro o' hl h'
    rw[List.foldl_cons]
    refine ih _ (fun w hw=>hl w (by simp[hw])) (Jfd r ms (pre++[v]) o' (fun w hw=> ?_) h')
    rcases J2.1 hw with hw|hw
    · exact hp w hw
    · simp only[List.mem_singleton]at hw
      subst hw
      exact hl w (by simp)
  exact this _ _ (fun v hv=>by have:=K7 hv;omega) ho
theorem Jb1(r:Z0)(ms:List Nat)(pre:List Int):∀(l:List Int) (o:List Nat),(∀v∈pre,0≤v∧v≤4)→(∀v∈l,0≤v∧v≤4)→pre.length+1+ms.length=o.length→(∀x∈o,x<32)→
 (l.foldl (fun o v=>Z3 r ms (pre++[v]) o) o).length=o.length∧∀x∈l.foldl (fun o v=>Z3 r ms (pre++[v]) o) o,x<32
 |[],o,_,_,_,ho=>⟨rfl,ho⟩
 |v::l,o,hp,hl,hlen,ho=>by
  rw[List.foldl_cons]
  have h1:=VU r ms (pre++[v]) o (by simp;omega)
  have h2:=Jfd r ms (pre++[v]) o (fun w hw=>by
   rcases J2.1 hw with hw|hw
   · exact hp w hw
   · simp only[List.mem_singleton]at hw
     subst hw
     exact hl w (by simp)) ho
  obtain⟨k1,k2⟩:=Jb1 r ms pre l _ hp (fun w hw=>hl w (by simp[hw])) (by rw[h1];exact hlen) h2
  exact⟨by rw[k1,h1],k2⟩
def JQ(o:List Nat):List Int:=o.map fun(x:Nat)=>(x:Int)
theorem Zy(o:List Nat):(JQ o).length=o.length:=by simp[JQ]
theorem Ni{o:List Nat}{i:Nat}(h:i<o.length):JA (JQ o) i=(o[i]:Int):=by
 rw[Qt (by rw[Zy];omega)]
 simp[JQ]
theorem Nl:∀(n:Nat) (H:Jm) (j:Nat),j<n→(Zg (Jd n false++[true]) H)[j]? =H[j]?
 |0,_,_,h=>by omega
 |n+1,[],j,h=>by simp[List.replicate_succ,Zg]
 |n+1,x::H,j,h=>by
  rw[List.replicate_succ,Jb,Zg]
  cases j with
  |zero=>rfl
  |succ j=>
   simp only[Ue]
   exact Nl n H j (by omega)
theorem Nm:∀(n:Nat) (H:Jm),H.length≤n+1→∀(j:Nat) (b:Zv),n≤j→(Zg (Jd n false++[true]) H)[j]?≠some (some b)
 |0,[],h,j,b,hj=>by simp[Zg]
 |0,x::H,h,j,b,hj=>by
  have:H=[]:=List.eq_nil_of_length_eq_zero (by simpa using h)
  subst this
  cases j<;>simp[Zg]
 |n+1,[],h,j,b,hj=>by simp[List.replicate_succ,Zg]
 |n+1,x::H,h,j,b,hj=>by
  rw[List.replicate_succ,Jb,Zg]
  cases j with
  |zero=>omega
  |succ j=>
   simp only[Ue]
   exact Nm n H (by simpa using h) j b (by omega)
theorem JbJ(H:Jm):Zg (Jd H.length false++[true]) H=H:=by
 induction H with
 |nil=>rfl
 |cons x H ih=>rw[Je,List.replicate_succ,Jb,Zg,ih]
theorem Jix{n:Nat}{H H':Jm}(hl:H.length≤n+1)(h:∀j,j<n→H'[j]? =H[j]?):RM (Jd n false++[true]) H H':=fun id b hb=>by
 by_cases hn:id<n
 · rw[Nl n _ _ hn]at hb⊢
   rw[h id hn];exact hb
 · exact absurd hb (Nm n H hl id b (by omega))
theorem BW{P:Program}{H:Jm}{t:TypeId}{ei:TI}{K:KV}(ht:QW P t=some ei)(hz:ei.zero.length=ei.size∧ei.size=1∧ei.bytes=8){xs:List Int}(hx:xs.length≤2^40){id g:Nat}{lim:Option Nat}(hl:look H id g=some ⟨g,1,cl (eI .i64) xs⟩)
 (hk:∀c H' S,Ub (H++H') c xs S→(∀k∈S,H.length≤k∧k<H.length+H'.length)→(H'.length=S.length∧S.length≤1)→K (.c c) (H++H')):J9 P H t (.c .emp) (.c (.own id g 0 xs.length lim)) K:=by
 obtain⟨hz1,hz2,hz3⟩:=hz
 have et:((cl (eI .i64) xs).drop 0).take (xs.length*1)=cl (eI .i64) xs:=by rw[JR,Js (by rw[Qa];exact Nat.le_refl _)]
 unfold J9
 simp only[ht,hz1,hz2,if_true,elems,hl,et,WJ]
 split
 · rename_i h0
   have:xs=[]:=List.eq_nil_of_length_eq_zero h0
   subst this
   have:=hk .emp [] [] .m (by simp) (by simp)
   rwa [Ju]at this
 · refine⟨⟨by omega,by rw[hz3];omega⟩,fun g=> ?_⟩
   exact hk _ [some ⟨g,1,cl (eI .i64) xs⟩] [H.length] (.o H.length g xs (J8 (b:=⟨g,1,cl (eI .i64) xs⟩) (by simp))) (by simp) (by simp)
theorem Je2{P:Program}{H:Jm}{t:TypeId}{ei:TI}{K:KV}(ht:QW P t=some ei)(hz:ei.zero.length=ei.size∧ei.size=1∧ei.bytes=8){c:CV}{xs:List Int}{S:List Nat}(h:Ub H c xs S)(hx:xs.length≤2^40){v:Int}
 (hk:∀id g' H',look H' id g'=some ⟨g',1,cl (eI .i64) (xs++[v])⟩→(∀k,k<H.length→k∉S→H'[k]? =H[k]?)→(id∈S∨id=H.length)→(H'.length=H.length∨S=[]∧H'.length=H.length+1)→K (.c (.own id g' 0 (xs++[v]).length none)) H'):
 J9 P H t (.c c) (.c (.f (.sl 1 [.int .i64 v]))) K:=by
 obtain⟨hz1,hz2,hz3⟩:=hz
 unfold J9
 cases h with
 |m=>
  simp only[ht,hz1,hz2,if_true,elems,JL,Nat.mul_one,WJ]
  refine⟨⟨by omega,by omega⟩,fun g'=> ?_⟩
  exact hk H.length g' _ (J8 (b:=⟨g',1,cl (eI .i64) [v]⟩) (by simp;rfl)) (fun k hk _=>Ja hk) (.inr rfl) (.inr ⟨rfl,by simp⟩)
 |o id g2 xs hl2=>
  have hlt:id<H.length:=(Jh.1 (JG hl2).1).1
  simp only[ht,hz1,hz2,if_true,elems,JL,Nat.mul_one,hl2,WJ,Y4,Qa]
  refine⟨⟨trivial,by omega,trivial,by omega,by rw[hz3];omega⟩,fun g'=> ?_⟩
  have:=hk id g' (H.set id (some ⟨g',1,cl (eI .i64) xs++[.f (.int .i64 v)]⟩)) (J8 (b:=⟨g',1,cl (eI .i64) (xs++[v])⟩) (by rw[JX hlt,Q6];rfl)) (fun k _ hk=>by rw[Jg (by simp at hk;omega)]) (.inl (by simp)) (.inl (by simp))
  rw[Jk]at this
  exact this
theorem J6{H:Jm}{id j g:Nat}{x:Option Zv}(h:id≠j):look (H.set id x) j g=look H j g:=by
 unfold look;rw[Jg h]
theorem Jgl(P:Program)(s:List AV)(H:Jm):YD P s H []=some (.tup []):=rfl
attribute [go_sem] Jgl
def VN(o:List Nat)(vs:List Int)(k:Nat):List Nat:=(orV o vs).take k++o.drop k
theorem FQ(o:List Nat)(vs:List Int):VN o vs 0=o:=by simp[VN]
theorem XX{o:List Nat}{vs:List Int}{k:Nat}(h:vs.length=o.length):(VN o vs k).length=o.length:=by
 simp only[VN,Jk,JP,Ut,ZQ];omega
theorem Na{o:List Nat}{vs:List Int}(h:vs.length=o.length):VN o vs vs.length=orV o vs:=by
 unfold VN
 rw[Js (by rw[ZQ];omega),List.drop_of_length_le (by omega),Ju]
theorem G9{o:List Nat}{vs:List Int}{k:Nat}(hk:k<vs.length)(h:vs.length=o.length):JA (JQ (VN o vs k)) k=(o[k]'(by omega):Int):=by
 rw[Ni (by rw[XX h];omega)]
 congr 1
 unfold VN
 rw[List.getElem_append_right (by simp[ZQ];omega)]
 simp only[JP,ZQ,List.getElem_drop]
 congr 1
 omega
theorem G8{o:List Nat}{vs:List Int}{k:Nat}(hk:k<vs.length)(h:vs.length=o.length):(JQ (VN o vs k)).set k (((o[k]'(by omega))|||2^(JA vs k).toNat:Nat):Int)=JQ (VN o vs (k+1)):=by
 have hl:k<(orV o vs).length:=by rw[ZQ];omega
 unfold VN JQ
 rw[QE,QE,List.set_append_right _ _ (by simp[ZQ];omega),List.take_succ_eq_append_getElem hl,QE,Jt]
 congr 1
 rw[List.drop_eq_getElem_cons (show k<o.length by omega)]
 simp only[Qs,JP,ZQ,Qr,ZV]
 rw[show k -min k (min o.length vs.length)=0 by omega]
 simp only[List.set_cons_zero,Jb,Jc]
 congr 2
 simp only[orV,List.getElem_zipWith]
 rw[Qt (by omega)]
 simp
def WV(r:Z0)(ms:List Int)(k:Nat):List Nat:=(r.cells.drop k).map fun c=>(JA ms c).toNat
structure Jlk(r:Z0)(ms:List Int):Prop where
 len:r.cells.length≤4
 kind:r.kind=1∨r.kind=2∨r.kind=3∨r.cells.length=2
 cell:∀c∈r.cells,0≤c∧c<ms.length∧0≤JA ms c∧JA ms c≤30∧JA ms c%2=0
 mlen:ms.length≤100
def waysQ(r:Z0)(ms:List Int)(pre:List Int)(o:List Nat)(H:Jm)(fid fg:Nat):KV:=fun v H'=>v= .tup []∧look H' fid fg=some ⟨fg,1,cl (eI .i64) (JQ (Z3 r (WV r ms pre.length) pre o))⟩∧H.length≤H'.length∧∀k,k<H.length→k≠fid→H'[k]? =H[k]?
theorem Nt(r:Z0)(ms:List Int)(hr:Jlk r ms):∀(d:Nat) (H:Jm) (id g:Nat) (pre:List Int) (fid fg:Nat) (o:List Nat),pre.length+d=r.cells.length→look H id g=some ⟨g,1,cl (eI .i64) pre⟩→(∀v∈pre,0≤v∧v≤4)→id≠fid→
 look H fid fg=some ⟨fg,1,cl (eI .i64) (JQ o)⟩→o.length=r.cells.length→(∀x∈o,x<32)→Jn Tryz.prog 164 [aR r,QO ms, .c (.own id g 0 pre.length none), .c (.own fid fg 0 o.length none)] H (waysQ r ms pre o H fid fg)
 |0,H,id,g,pre,fid,fg,o,hd,hp,hpv,hne,hf,hol,ho=>by
  have hp4:pre.length≤4:=by have:=hr.len;omega
  have hlt:fid<H.length:=(Jh.1 (JG hf).1).1
  have hlp:id<H.length:=(Jh.1 (JG hp).1).1
  refine Jn.cw (c:=_) Tryz.func164 rfl (n:=68) Tryz.ntmps164 (rs:=[]) rfl ?_
  simp only[Je,Jf,zA,zS,Jd,Jb,Jc]
  simp(maxSteps:=999999)(disch:=omega)only[go_sem,zA,zM,zS,zE,zL]
  intro gb
  have hp':look (H++[some ⟨gb,1,cR r⟩]) id g=some ⟨g,1,cl (eI .i64) pre⟩:=JO hp
  have hf':look (H++[some ⟨gb,1,cR r⟩]) fid fg=some ⟨fg,1,cl (eI .i64) (JQ o)⟩:=JO hf
  have hb':look (H++[some ⟨gb,1,cR r⟩]) H.length gb=some ⟨gb,1,cR r⟩:=JC
  simp(maxSteps:=999999)(disch:=omega)only[go_sem,zA,zM,zS,zE,zL,hp',hb']
  ((first|(with_reducible first|refine Jl ?_ ?_|refine Jj ?_ ?_|refine Jp ?_ ?_)|refine Jr ?_ ?_)<;>intro c1)
  · simp(maxSteps:=999999)(disch:=omega)only[go_sem,zA,zM,zS,zE,zL,hp',hb']
    have hown:Qy (H++[some ⟨gb,1,cR r⟩]) (.own id g 0 pre.length none) pre [id]:=Qy.o id g none pre [] (by rw[Ju];exact hp')
    refine JZ.rdD (Jdo r pre (by have:=hr.len;omega) hpv (by have:=hr.kind;omega)) (⟨_,Tryz.func172,rfl,rfl⟩:Ji Tryz.prog 172) rfl rfl (UO rfl hown.snap) rfl ?_
    have hrem:WV r ms pre.length=[]:=by unfold WV;rw[List.drop_of_length_le (by omega)];rfl
    simp(maxSteps:=999999)(disch:=omega)only[go_sem,zA,zM,zS,zE,zL]
    ((first|(with_reducible first|refine Jl ?_ ?_|refine Jj ?_ ?_|refine Jp ?_ ?_)|refine Jr ?_ ?_)<;>intro c2)
    · simp(maxSteps:=999999)(disch:=omega)only[go_sem,zA,zM,zS,zE,zL]
      obtain⟨HK,hHK⟩:∃HK:Jm,HK=H++[some ⟨gb,1,cR r⟩]:=⟨_,rfl⟩
      rw[←hHK]at hp' hf' hb'⊢
      have hKl:HK.length=H.length+1:=by rw[hHK];simp
      have hKg:∀k,k<H.length→HK[k]? =H[k]? :=fun k hk=>by rw[hHK,Ja hk]
      clear hHK hown
      have hfK:fid<HK.length:=by omega
      have hp2:∀X,look (HK.set fid X) id g=some ⟨g,1,cl (eI .i64) pre⟩:=fun X=>by rw[J6 (Ne.symm hne)];exact hp'
      have hf2:∀cs,look (HK.set fid (some ⟨fg,1,cs⟩)) fid fg=some ⟨fg,1,cs⟩:=fun cs=>JM hfK
      refine JY (fun k:Nat=>pre.length -k) (fun k=>k≤pre.length) (fun k=>[.a, .a, .k, .k, .a, .a, .a, .a, .k, .p (int k), .a, .a, .a, .a, .a, .a, .a, .a, .a, .a, .a, .a, .a, .a, .a, .a, .a, .a, .a, .a, .a, .a, .a, .a, .a, .a, .a, .a, .a, .a, .a, .a, .a, .a, .a, .a, .a, .a, .a, .a, .a, .a, .a, .a, .a, .a, .a, .a, .a, .a, .a, .a, .a, .a, .a, .a, .a, .a]) (fun k=>HK.set fid (some ⟨fg,1,cl (eI .i64) (JQ (VN o pre k))⟩)) 0 (Nat.zero_le _) (by simp(maxSteps:=999999)(disch:=omega)only[go_sem,zA,zM,zS,zE,zL];rfl) (by rw[FQ];exact JbS (JG hf').1) ?_
      intro k hk
      have hkl:=XX (o:=o) (vs:=pre) (k:=k) (by omega)
      simp(maxSteps:=999999)(disch:=omega)only[go_sem,zA,zM,zS,zE,zL]
      ((first|(with_reducible first|refine Jl ?_ ?_|refine Jj ?_ ?_|refine Jp ?_ ?_)|refine Jr ?_ ?_)<;>intro c3)
      · have c3:k<pre.length:=by omega
        have hx:=G9 (o:=o) (vs:=pre) (k:=k) c3 (by omega)
        simp(maxSteps:=999999)(disch:=omega)only[go_sem,zA,zM,zS,zE,zL]
        have hpk:=hpv (JA pre k) (by rw[Qt (by omega)];exact List.getElem_mem _)
        have hok:=ho (o[k]'(by omega)) (List.getElem_mem _)
        have hkn:(JQ (VN o pre k)).length=o.length:=by rw[Zy,hkl]
        have hset:=G8 (o:=o) (vs:=pre) c3 (by omega)
        have hpw:2^(JA pre k).toNat<2^62:=Nat.pow_lt_pow_right (by omega) (by omega)
        refine Q3 [0,1,2,3,4,5,6,7,8,9,10,11] [] none [12,13] [] [0,0,0,0,12,28,0,0,192,448,960,2044,4095,8191] Zd (by kernel_rfl) ?_
        simp(maxSteps:=999999)(disch:=omega)only[go_sem,zA,zM,zS,zE,zL,hp2,hf2,hx,UP hpk,Br (show(o[k]'(by omega))<2^62 by omega) hpw,Jv]
        rw[Int.toNat_natCast]
        exact⟨k+1,⟨by omega,by omega⟩,by push_cast;omega,by rw[List.set_set,hset];exact J0.refl _⟩
      · have hke:k=pre.length:=by omega
        simp(maxSteps:=999999)(disch:=omega)only[go_sem,zA,zM,zS,zE,zL]
        refine⟨_,J0.refl _,rfl, ?_,by simp;omega,fun j hj hn=>by rw[Jg (Ne.symm hn),hKg j hj]⟩
        rw[hf2,hrem,hke,Na (by omega)]
        unfold Z3
        rw[if_pos c2]
    · simp(maxSteps:=999999)(disch:=omega)only[go_sem,zA,zM,zS,zE,zL]
      refine⟨_,J0.refl _,rfl, ?_,by simp,fun j hj hn=>Ja hj⟩
      rw[hf',hrem]
      unfold Z3
      rw[if_neg (by rw[c2];simp)]
  · exfalso;omega
 |d+1,H,id,g,pre,fid,fg,o,hd,hp,hpv,hne,hf,hol,ho=>by
  have hp4:r.cells.length≤4:=hr.len
  have hlt:fid<H.length:=(Jh.1 (JG hf).1).1
  have hlp:id<H.length:=(Jh.1 (JG hp).1).1
  have hkc:pre.length<r.cells.length:=by omega
  have hcell:=hr.cell (JA r.cells pre.length) (by rw[Qt (by omega)];exact List.getElem_mem _)
  obtain⟨m,hm⟩:∃m:Nat,JA ms (JA r.cells pre.length)=m:=⟨(JA ms (JA r.cells pre.length)).toNat,by omega⟩
  have hm30:m≤30∧m%2=0:=by omega
  have hml:=hr.mlen
  have hrem:WV r ms pre.length=m::WV r ms (pre.length+1):=by
   unfold WV
   rw[List.drop_eq_getElem_cons hkc,Qr]
   congr 1
   have:=hm
   rw[Qt (xs:=r.cells) (by omega)]at this
   simp only[Int.toNat_natCast]at this
   rw[this]
   rfl
  refine Jn.cw (c:=_) Tryz.func164 rfl (n:=68) Tryz.ntmps164 (rs:=[]) rfl ?_
  simp only[Je,Jf,zA,zS,Jd,Jb,Jc]
  simp(maxSteps:=999999)(disch:=omega)only[go_sem,zA,zM,zS,zE,zL]
  intro gb
  have hp':look (H++[some ⟨gb,1,cR r⟩]) id g=some ⟨g,1,cl (eI .i64) pre⟩:=JO hp
  have hf':look (H++[some ⟨gb,1,cR r⟩]) fid fg=some ⟨fg,1,cl (eI .i64) (JQ o)⟩:=JO hf
  have hb':look (H++[some ⟨gb,1,cR r⟩]) H.length gb=some ⟨gb,1,cR r⟩:=JC
  obtain⟨HK,hHK⟩:∃HK:Jm,HK=H++[some ⟨gb,1,cR r⟩]:=⟨_,rfl⟩
  rw[←hHK]at hp' hf' hb'⊢
  have hKl:HK.length=H.length+1:=by rw[hHK];simp
  have hKg:∀k,k<H.length→HK[k]? =H[k]? :=fun k hk=>by rw[hHK,Ja hk]
  clear hHK
  simp(maxSteps:=999999)(disch:=omega)only[go_sem,zA,zM,zS,zE,zL,hp',hb']
  ((first|(with_reducible first|refine Jl ?_ ?_|refine Jj ?_ ?_|refine Jp ?_ ?_)|refine Jr ?_ ?_)<;>intro c1)
  · exfalso;omega
  simp(maxSteps:=999999)(disch:=omega)only[go_sem,zA,zM,zS,zE,zL,hp',hb',hm]
  first|refine JZ.mk (Uc m hm30) (⟨_,Tryz.func106,rfl,rfl⟩:Ji Tryz.prog 106) rfl rfl rfl rfl rfl ?_|refine JK.mk (Uc m hm30) (⟨_,Tryz.func106,rfl,rfl⟩:Ji Tryz.prog 106) rfl rfl rfl rfl rfl ?_
  simp(maxSteps:=999999)(disch:=omega)only[go_sem,zA,zM,zS,zE,zL]
  have hL4:=Ja5 m 4
  have hLv:∀v∈Z9 m 4,1≤v∧v≤4:=fun v hv=>K7 hv
  generalize hL:Z9 m 4=L at hL4 hLv⊢
  refine Qp (fun(k:Nat) (HI:Jm)=>L.length -k) (fun k HI=>k≤L.length∧look HI fid fg=some ⟨fg,1,cl (eI .i64) (JQ ((L.take k).foldl (fun o v=>Z3 r (WV r ms (pre.length+1)) (pre++[v]) o) o))⟩∧HK.length≤HI.length∧∀j,j<HK.length→j≠fid→HI[j]? =HK[j]?) (fun k HI=>[.a, .k, .k, .k, .k, .a, .a, .a, .a, .a, .k, .p (int k), .a, .a, .a, .a, .a, .a, .a, .a, .a, .a, .a, .a, .a, .a, .a, .a, .a, .a, .a, .a, .a, .a, .a, .a, .a, .a, .a, .a, .a, .a, .a, .a, .a, .a, .a, .a, .a, .a, .a, .a, .a, .a, .a, .a, .a, .a, .a, .a, .a, .a, .a, .a, .a, .a, .a, .a]) (fun _ HI=>HI) 0 HK
   ⟨Nat.zero_le _,hf',Nat.le_refl _,fun _ _ _=>rfl⟩ (by simp(maxSteps:=999999)(disch:=omega)only[go_sem,zA,zM,zS,zE,zL];rfl) (J0.refl _) ?_
  rintro k HI ⟨hk,hfI,hlI,hfrI⟩
  have hpI:look HI id g=some ⟨g,1,cl (eI .i64) pre⟩:=by unfold look;rw[hfrI id (by omega) hne];exact hp'
  have hbI:look HI H.length gb=some ⟨gb,1,cR r⟩:=by unfold look;rw[hfrI H.length (by omega) (by omega)];exact hb'
  simp(maxSteps:=999999)(disch:=omega)only[go_sem,zA,zM,zS,zE,zL]
  ((first|(with_reducible first|refine Jl ?_ ?_|refine Jj ?_ ?_|refine Jp ?_ ?_)|refine Jr ?_ ?_)<;>intro c2)
  · have c2:k<L.length:=by omega
    have hv:=hLv (JA L k) (by rw[Qt (by omega)];exact List.getElem_mem _)
    have hms:=JbJ HI
    simp(maxSteps:=999999)(disch:=omega)only[go_sem,zA,zM,zS,zE,zL]
    refine Q3 [0,1,2,3,5,6,7,8,9,11,4,10] [2,9] none [12] (Jd HI.length false++[true]) [0,0,0,0,12,0,0,96,224,480,1020,0,4095] Zd (by kernel_rfl) ?_
    iterate 11 (rw[Jv];simp(maxSteps:=999999)(disch:=omega)only[go_sem,zA,zM,zS,zE,zL,hms,hbI,hpI])
    refine BW (Qb UE rfl Kh) ⟨rfl,rfl,rfl⟩ (by omega) hpI ?_
    intro c4 H4 S4 k4 hS4 hl4
    refine⟨Jix (by omega) (fun j hj=>Ja hj), ?_⟩
    rw[Jv]
    simp(maxSteps:=999999)(disch:=omega)only[go_sem,zA,zM,zS,zE,zL]
    refine Je2 (Qb UE rfl Kh) ⟨rfl,rfl,rfl⟩ k4 (by omega) ?_
    intro id5 g5 H5 l5 hf5 hid5 hl5
    have hl5':H5.length≤HI.length+1∧HI.length≤H5.length:=by
     rw[Jk]at hl5
     rcases hl5 with h|⟨h1,h2⟩
     · omega
     · rw[h1]at hl4
       simp only[Jf]at hl4
       omega
    refine⟨Jix (by rw[Jk];omega) (fun j hj=> ?_), ?_⟩
    · rw[hf5 j (by rw[Jk];omega) (fun hm=>by have:=hS4 j hm;omega)]
    have hlI5:∀j,j<HI.length→H5[j]? =HI[j]? :=fun j hj=>by
     rw[hf5 j (by rw[Jk];omega) (fun hm=>by have:=hS4 j hm;omega),Ja hj]
    have hid5':HI.length≤id5:=by
     rcases hid5 with h|h
     · exact(hS4 id5 h).1
     · rw[Jk]at h;omega
    have hfid:fid<HI.length:=by omega
    obtain⟨hrl,hok⟩:=Jb1 r (WV r ms (pre.length+1)) pre (L.take k) o hpv (fun v hm=>by have:=hLv v (List.mem_of_mem_take hm);omega) (by simp[WV];omega) ho
    rw[hol]at hrl
    have hpv':∀v∈pre++[JA L k],0≤v∧v≤4:=fun v hv'=>by
     rcases J2.1 hv' with h|h
     · exact hpv v h
     · simp only[List.mem_singleton]at h
       omega
    have hrec:=Nt r ms hr d H5 id5 g5 (pre++[JA L k]) fid fg _ (by simp;omega) l5 hpv' (by omega) (by unfold look;rw[hlI5 fid hfid];exact hfI) hrl hok
    rw[hrl,←hol,Jk,JL]at hrec
    have hfold:(L.take (k+1)).foldl (fun o v=>Z3 r (WV r ms (pre.length+1)) (pre++[v]) o) o=Z3 r (WV r ms (pre.length+1)) (pre++[JA L k]) ((L.take k).foldl (fun o v=>Z3 r (WV r ms (pre.length+1)) (pre++[v]) o) o):=by
     rw[Qg c2,List.foldl_append];rfl
    simp(maxSteps:=999999)(disch:=omega)only[go_sem,zA,zM,zS,zE,zL]
    refine JZ.run hrec (⟨_,Tryz.func164,rfl,rfl⟩:Ji Tryz.prog 164) rfl rfl ?_
    rintro _ H6 ⟨rfl,l6,len6,f6⟩
    rw[Jk,JL,←hfold]at l6
    simp(maxSteps:=999999)(disch:=omega)only[go_sem,zA,zM,zS,zE,zL]
    exact⟨k+1,H6,⟨⟨by omega,l6,by omega,fun j hj hn=>by rw[f6 j (by omega) hn,hlI5 j (by omega),hfrI j hj hn]⟩,by omega⟩,by push_cast;omega,J0.refl _⟩
  · simp(maxSteps:=999999)(disch:=omega)only[go_sem,zA,zM,zS,zE,zL]
    have hke:k=L.length:=by omega
    rw[hke,List.take_length]at hfI
    refine⟨_,J0.refl _,rfl, ?_,by omega,fun j hj hn=>by rw[hfrI j (by omega) hn,hKg j hj]⟩
    rw[hfI,hrem,W5,hL]
end Go.Lg
