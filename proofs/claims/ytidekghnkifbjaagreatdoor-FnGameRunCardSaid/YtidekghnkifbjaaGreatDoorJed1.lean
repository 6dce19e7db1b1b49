/- GpEH, GpFD, cut to what is needed. -/
import Derived.Test.YtidekghnkifbjaaGreatDoorJed0
import Derived.Test.YtidekghnkifbjaaGreatDoorJec0
open List renaming getElem?_append_left → Ja, cons_append → Jb, nil_append → Jc, replicate → Jd, length_cons → Je, length_nil → Jf, getElem?_eq_some_iff → Jh, length_append → Jk, take_of_length_le → Js, append_assoc → Jt, append_nil → Ju, length_singleton → JL, length_take → JP, mapM_cons → J4, mem_cons → Qn, mapM_nil → Qw, not_mem_nil → Zh
open Nat renaming reduceAdd→zA,reduceMul→zM,reduceSub→zS,reduceEqDiff→zE,reduceLeDiff→zL
set_option linter.unusedSimpArgs false
set_option linter.unusedVariables false
set_option maxRecDepth 100000
namespace Go.Lg
open Go.Proofs
attribute [-go_sem] J9 Jv
theorem Jaf{p:Q4}{n:Nat}(hp:Ux p n)(hv:JB p=true)(most:Nat)(hmo:1≤most∧most≤600)(H:Jm)(xs:List Int)(hg:Zk xs n)(hext:Ext p xs)(pid pg mid mg:Nat)(S:List Nat)(hml:look H mid mg=some ⟨mg,1,[.f (.int .i64 most)]⟩)(hmp:mid≠pid)(hmS:mid∉S)(hout:VT H pid pg [] S)(hSl:∀k∈S,k<H.length):
 Jn Tryz.prog 87 [aP p,QO xs, .c (.fn 88 [(pid,pg),(mid,mg)])] H (fun v H'=>v= .tup []∧∃S',VT H' pid pg (if QT p xs n=true then(ZM p n (n*n) xs).take most else[]) S'):=by
 have hn:=hp.hn
 have hz:=hp.size
 have hxl:=hg.len
 have hsq:4≤n*n∧n*n≤16:=by rcases hn with rfl|rfl|rfl<;>omega
 have hplt:pid<H.length:=by
  obtain⟨⟨oid,og,cs,o1,_⟩,_⟩:=hout
  exact(Jh.1 (JG o1).1).1
 refine Jn.cw (c:=_) Tryz.func87 rfl (n:=20) Tryz.ntmps87 (rs:=[]) rfl ?_
 simp only[Je,Jf,zA,zS,Jd,Jb,Jc]
 simp(maxSteps:=999999)(disch:=omega)only[go_sem,zA,zM,zS,zE,zL]
 intro g0 g1
 refine JZ.mkDQ (JdZ xs (by omega) (fun h=>by rw[h]at hxl;simp at hxl;omega)) (⟨_,Tryz.func89,rfl,rfl⟩:Ji Tryz.prog 89) rfl rfl rfl ?_
 intro g2
 obtain⟨HA,hHA⟩:∃HA:Jm,HA=H++[some ⟨g0,1,cP p⟩]++[some ⟨g1,1,[CV.fn 88 [(pid,pg),(mid,mg)]]⟩]++[some ⟨g2,1,cl (eI .i64) xs⟩]:=⟨_,rfl⟩
 have hAl:HA.length=H.length+3:=by rw[hHA];simp
 have hAg:∀k,k<H.length→HA[k]? =H[k]? :=fun k hk=>by rw[hHA,Jt,Jt,Ja hk]
 have a0:look HA H.length g0=some ⟨g0,1,cP p⟩:=by rw[hHA];exact JO (JO JC)
 have a1:look HA (H.length+1) g1=some ⟨g1,1,[CV.fn 88 [(pid,pg),(mid,mg)]]⟩:=by
  rw[hHA]
  refine JO ?_
  have:=JC (H:=H++[some ⟨g0,1,cP p⟩]) (g:=g1) (sz:=1) (cs:=[CV.fn 88 [(pid,pg),(mid,mg)]])
  rwa [Jk,JL]at this
 have a2:look HA (H.length+1+1) g2=some ⟨g2,1,cl (eI .i64) xs⟩:=by
  rw[hHA]
  have:=JC (H:=H++[some ⟨g0,1,cP p⟩]++[some ⟨g1,1,[CV.fn 88 [(pid,pg),(mid,mg)]]⟩]) (g:=g2) (sz:=1) (cs:=cl (eI .i64) xs)
  rwa [Jk,Jk,JL,JL]at this
 show vwK _ _ _ _ _ _ (.c (.own (H++[some ⟨g0,1,cP p⟩]++[some ⟨g1,1,[CV.fn 88 [(pid,pg),(mid,mg)]]⟩]:Jm).length g2 0 xs.length none)) (H++[some ⟨g0,1,cP p⟩]++[some ⟨g1,1,[CV.fn 88 [(pid,pg),(mid,mg)]]⟩]++[some ⟨g2,1,cl (eI .i64) xs⟩]:Jm)
 rw[←hHA]
 clear hHA
 simp(maxSteps:=999999)(disch:=omega)only[go_sem,zA,zM,zS,zE,zL,JC,QM]
 intro g3
 obtain⟨HB,hHB⟩:∃HB:Jm,HB=HA++[some ⟨g3,1,[CV.own (H.length+1+1) g2 0 xs.length none]⟩]:=⟨_,rfl⟩
 have hBl:HB.length=HA.length+1:=by rw[hHB];simp
 have b0:look HB H.length g0=some ⟨g0,1,cP p⟩:=by rw[hHB];exact JO a0
 have b1:look HB (H.length+1) g1=some ⟨g1,1,[CV.fn 88 [(pid,pg),(mid,mg)]]⟩:=by rw[hHB];exact JO a1
 have b2:look HB (H.length+1+1) g2=some ⟨g2,1,cl (eI .i64) xs⟩:=by rw[hHB];exact JO a2
 have b3:look HB HA.length g3=some ⟨g3,1,[CV.own (H.length+1+1) g2 0 xs.length none]⟩:=by rw[hHB];exact JC
 have hBg:∀k,k<H.length→HB[k]? =H[k]? :=fun k hk=>by rw[hHB,Ja (by omega)];exact hAg k hk
 rw[←hHB]
 clear hHB
 have hown:Qy HB (.own (H.length+1+1) g2 0 xs.length none) xs [H.length+1+1]:=Qy.o (H:=HB) (H.length+1+1) g2 none xs [] (by rw[Ju];exact b2)
 simp(maxSteps:=999999)(disch:=omega)only[go_sem,zA,zM,zS,zE,zL,b0,b3]
 refine JZ.rdD (KU hp hv xs hg) (⟨_,Tryz.func50,rfl,rfl⟩:Ji Tryz.prog 50) rfl rfl (UO rfl hown.snap) rfl ?_
 simp(maxSteps:=999999)(disch:=omega)only[go_sem,zA,zM,zS,zE,zL]
 ((first|(with_reducible first|refine Jl ?_ ?_|refine Jj ?_ ?_|refine Jp ?_ ?_)|refine Jr ?_ ?_)<;>intro c1)
 rotate_left
 · simp(maxSteps:=999999)(disch:=omega)only[go_sem,zA,zM,zS,zE,zL]
   exact⟨HB,J0.refl _,rfl,S,by rw[if_neg (by rw[c1];simp)];exact hout.same fun k hk=>hBg k (by rcases hk with rfl|hk;exact hplt;exact hSl k hk)⟩
 simp(maxSteps:=999999)(disch:=omega)only[go_sem,zA,zM,zS,zE,zL,b0,JC,QM]
 rw[hz]
 intro g4
 obtain⟨HC,hHC⟩:∃HC:Jm,HC=HB++[some ⟨g4,1,[CV.f (FV.int .i64 n)]⟩]:=⟨_,rfl⟩
 have hCl:HC.length=HB.length+1:=by rw[hHC];simp
 have lC:∀g sz cs,look (HC++[some ⟨g,sz,cs⟩]) (HB.length+1) g=some ⟨g,sz,cs⟩:=fun g sz cs=>by rw[←hCl];exact JC
 have sC:∀x y,(HC++[x]).set (HB.length+1) y=HC++[y]:=fun x y=>by rw[←hCl];exact QM
 have hC0:∀{k g:Nat} {b:Zv},look HB k g=some b→look HC k g=some b:=fun h=>by rw[hHC];exact JO h
 have c4:look HC HB.length g4=some ⟨g4,1,[CV.f (FV.int .i64 n)]⟩:=by rw[hHC];exact JC
 have hCg:∀k,k<H.length→HC[k]? =H[k]? :=fun k hk=>by rw[hHC,Ja (by omega)];exact hBg k hk
 rw[←hHC]
 clear hHC
 intro g5
 simp(maxSteps:=999999)(disch:=omega)only[go_sem,zA,zM,zS,zE,zL,lC,sC,J4,Qw,Ka,Option.bind_eq_bind,Option.pure_def,Option.bind_some]
 refine⟨rfl, ?_⟩
 obtain⟨HD,hHD⟩:∃HD:Jm,HD=HC++[some ⟨g5,1,[CV.fn 121 [(HA.length,g3),(H.length+1,g1),(HB.length+1,g5),(HB.length,g4),(H.length,g0)]]⟩]:=⟨_,rfl⟩
 have d5:look HD (HB.length+1) g5=some ⟨g5,1,[CV.fn 121 [(HA.length,g3),(H.length+1,g1),(HB.length+1,g5),(HB.length,g4),(H.length,g0)]]⟩:=by rw[hHD];exact lC _ _ _
 have hD0:∀{k g:Nat} {b:Zv},look HC k g=some b→look HD k g=some b:=fun h=>by rw[hHD];exact JO h
 have hDg:∀k,k<H.length→HD[k]? =H[k]? :=fun k hk=>by rw[hHD,Ja (by omega)];exact hCg k hk
 have hDl:HD.length=HC.length+1:=by rw[hHD];simp
 rw[←hHD]
 clear hHD
 have hmlt:=(Jh.1 (JG hml).1).1
 have hT:JdW 88 121 p n most ⟨HA.length,g3,H.length+1,g1,HB.length+1,g5,HB.length,g4,H.length,g0,mid,mg,pid,pg,H.length+1+1,g2⟩ HD:=
  ⟨by have:=hD0 (hC0 b3);rw[hxl]at this;exact this,hD0 (hC0 b1),d5,hD0 c4,hD0 (hC0 b0),by unfold look;rw[hDg mid hmlt];exact hml⟩
 have hrun:=Jbs hp most hmo.2 _ (by
  intro k hk
  simp only[Cap.ids,Qn,Zh,or_false]at hk⊢
  rcases hk with rfl|rfl|rfl|rfl|rfl|rfl<;>omega) (by show H.length+1+1≠pid;omega) (n*n) HD xs [] S (Nat.le_refl _) hg c1 hext hT (by
  intro k hk hS
  have:=hSl k hS
  simp only[Cap.ids,Qn,Zh,or_false]at hk
  rcases hk with rfl|rfl|rfl|rfl|rfl|rfl
  · omega
  · omega
  · omega
  · omega
  · omega
  · exact hmS hS) (hD0 (hC0 b2)) (fun h=>by have:=hSl _ h;simp only at this;omega) (by simp;omega) (hout.same fun k hk=>hDg k (by rcases hk with rfl|hk;exact hplt;exact hSl k hk)) (fun k hk=>by have:=hSl k hk;omega)
 rw[Nat.sub_self]at hrun
 refine JZ.runFn hrun (⟨_,Tryz.func121,rfl,rfl⟩:Ji Tryz.prog 121) rfl (RF (caps:=[(HA.length,g3),(H.length+1,g1),(HB.length+1,g5),(HB.length,g4),(H.length,g0)]) (by simp[hT.g,hT.t,hT.y,hT.z,hT.b])) rfl ?_
 rintro _ H2 ⟨l,hl,rfl,S2,ys,o2,_⟩
 simp(maxSteps:=999999)(disch:=omega)only[go_sem,zA,zM,zS,zE,zL]
 rw[Jc,Jf,Nat.sub_zero]at hl
 exact⟨H2,J0.refl _,rfl,S2,by rw[if_pos c1,←hl];exact o2⟩
theorem Xx{p:Q4}{n:Nat}(hp:Ux p n)(hv:JB p=true)(most:Nat)(hmo:1≤most∧most≤600)(xs:List Int)(hg:Zk xs n)(hext:Ext p xs):
 JW Tryz.prog 42 [aP p,QO xs,int most] (Bl eL (if QT p xs n=true then(ZM p n (n*n) xs).take most else[])):=by
 refine JW.iced ?_
 refine Jn.cw (c:=_) Tryz.func42 rfl (n:=14) Tryz.ntmps42 (rs:=[.tmp 6]) rfl ?_
 simp only[Je,Jf,zA,zS,Jd,Jb,Jc]
 simp(maxSteps:=999999)(disch:=omega)only[go_sem,zA,zM,zS,zE,zL,J4,Qw,Ka,Option.bind_eq_bind,Option.pure_def,Option.bind_some]
 intro g0 g1 g2 g3
 refine⟨rfl, ?_⟩
 have hr:=Jaf hp hv most hmo [some ⟨g0,1,cP p⟩,some ⟨g1,1,[.f (.int .i64 most)]⟩,some ⟨g2,1,[]⟩,some ⟨g3,1,[CV.own 2 g2 0 0 none]⟩] xs hg hext 3 g3 1 g1 [2] (by simp only[go_sem]) (by omega) (by simp)
  ⟨⟨2,g2,[],by simp only[go_sem],by simp only[go_sem],by simp,rfl,fun i hi=>by simp at hi⟩,by simp⟩ (by simp)
 refine JZ.run hr (⟨_,Tryz.func87,rfl,rfl⟩:Ji Tryz.prog 87) rfl rfl ?_
 rintro _ H2 ⟨rfl,S2,o2⟩
 generalize(if QT p xs n=true then(ZM p n (n*n) xs).take most else[])=R at o2
 obtain⟨oid,og,k1,k2⟩:=o2.frz
 simp(maxSteps:=999999)(disch:=omega)only[go_sem,zA,zM,zS,zE,zL,k1]
 exact Vc (by simp only[Vu,Xw,k2,Option.map_some])
end Go.Lg

namespace Go.Lg
open Go.Proofs
theorem JdF{p:Q4}{xs:List Int}:Ext p (Zw p.given xs):=fun k h=>by
 by_cases hk:k<p.given.length
 · rw[U9 hk]at h
   split at h
   · omega
   · omega
 · rw[Xp (by omega)];exact Int.le_refl _
theorem JdQ{p:Q4}{xs:List Int}{k:Nat}(hk:xs.length=k)(h:∀j:Nat,j<k→¬(0<JA p.given j∧0<JA xs j∧JA xs j≠JA p.given j)):clear p xs=true:=by
 simp only[clear,decide_eq_true_eq]
 exact fun j hj=>h j (by omega)
def Yp(a b:List Int)(k:Nat):List Int:=(Zw a b).take k++Jd (a.length -k) 0
theorem Jlf(a b:List Int):Yp a b 0=Jd a.length 0:=by simp[Yp]
theorem Jht{a b:List Int}{k:Nat}:(Yp a b k).length=a.length∨a.length<k:=by
 by_cases h:a.length<k
 · exact .inr h
 · left;simp[Yp,ZB];omega
theorem Jhu{a b:List Int}{k:Nat}(h:a.length=k):Yp a b k=Zw a b:=by
 unfold Yp
 rw[Js (by rw[ZB];omega),h,Nat.sub_self,List.replicate_zero,Ju]
theorem Jhs{a b:List Int}{k:Nat}{v:Int}(h:k<a.length)(hv:v=if 0<JA b k then JA b k else JA a k):(Yp a b k).set k v=Yp a b (k+1):=by
 have e:(Zw a b).take (k+1)=(Zw a b).take k++[v]:=by rw[Qg (by rw[ZB];exact h),U9 h,hv]
 unfold Yp
 rw[e,List.set_append_right _ _ (by rw[JP,ZB];omega),JP,ZB,Nat.min_eq_left (by omega),Nat.sub_self,show a.length -k=(a.length -(k+1))+1 by omega,List.replicate_succ,List.set_cons_zero,Jt]
 rfl
theorem X6(p:Q4)(xs:List Int)(hl:xs.length=p.given.length)(hl2:xs.length≤16)(h0:∀k:Nat,k<xs.length→0≤JA xs k∧0≤JA p.given k):JW Tryz.prog 37 [QO p.given,QO xs] (.tup [QO (if clear p xs=true then Zw p.given xs else[]),bool (clear p xs)]):=by
 refine JW.iced ?_
 refine Jn.cw (c:=_) Tryz.func37 rfl (n:=47) Tryz.ntmps37 (rs:=[.tmp 4, .tmp 5]) rfl ?_
 simp only[Je,Jf,zA,zS,Jd,Jb,Jc]
 simp(maxSteps:=999999)(disch:=omega)only[go_sem,zA,zM,zS,zE,zL]
 intro g
 refine JY (fun k:Nat=>xs.length -k) (fun k=>k≤xs.length∧∀j:Nat,j<k→¬(0<JA p.given j∧0<JA xs j∧JA xs j≠JA p.given j)) (fun k=>[.a, .k, .a, .a, .a, .a, .k, .a, .a, .a, .a, .a, .k, .k, .p (int k), .a, .a, .a, .a, .a, .a, .a, .a, .a, .a, .a, .a, .a, .a, .a, .a, .a, .a, .a, .a, .a, .a, .a, .a, .a, .a, .a, .a, .a, .a, .a, .a]) (fun k=>[some ⟨g,1,cl (eI .i64) (Yp p.given xs k)⟩]) 0 ⟨Nat.zero_le _,fun j hj=>absurd hj (Nat.not_lt_zero _)⟩ (by simp(maxSteps:=999999)(disch:=omega)only[go_sem,zA,zM,zS,zE,zL];rfl) (by rw[Jlf];exact J0.refl _) ?_
 rintro k ⟨hk,hno⟩
 have hbl:=Jht (a:=p.given) (b:=xs) (k:=k)
 simp(maxSteps:=999999)(disch:=omega)only[go_sem,zA,zM,zS,zE,zL]
 ((first|(with_reducible first|refine Jl ?_ ?_|refine Jj ?_ ?_|refine Jp ?_ ?_)|refine Jr ?_ ?_)<;>intro c1)
 · have c1:k<xs.length:=by omega
   have hx0:=h0 k c1
   have hbl:(Yp p.given xs k).length=p.given.length:=by omega
   have hgo:¬(0<JA p.given k∧0<JA xs k∧JA xs k≠JA p.given k)→∀j:Nat,j<k+1→¬(0<JA p.given j∧0<JA xs j∧JA xs j≠JA p.given j):=fun h j hj=>by
    by_cases hjk:j=k
    · rw[hjk];exact h
    · exact hno j (by omega)
   have hset:∀v:Int,v=max (JA p.given k) (JA xs k)→¬(0<JA p.given k∧0<JA xs k∧JA xs k≠JA p.given k)→(Yp p.given xs k).set k v=Yp p.given xs (k+1):=fun v hv h=>Jhs (by omega) (by
    rw[hv]
    by_cases a:0<JA xs k
    · rw[if_pos a]
      by_cases b:0<JA p.given k
      · have:JA xs k=JA p.given k:=by
         by_cases e:JA xs k=JA p.given k
         · exact e
         · exact absurd ⟨b,a,e⟩ h
        omega
      · omega
    · rw[if_neg a]
      omega)
   simp(maxSteps:=999999)(disch:=omega)only[go_sem,zA,zM,zS,zE,zL]
   rw[Int.toNat_natCast]
   ((with_reducible first|refine JJ ?_ ?_|refine JF ?_ ?_|refine JU ?_ ?_|refine Jw ?_ ?_|refine JH ?_ ?_|refine JI ?_ ?_|refine JD ?_ ?_|refine JE ?_ ?_|refine JS ?_ ?_|refine JT ?_ ?_|refine Jy ?_ ?_|refine Jz ?_ ?_)<;>intro d1<;>simp(maxSteps:=999999)(disch:=omega)only[go_sem,zA,zM,zS,zE,zL,d1])
   · ((with_reducible first|refine JJ ?_ ?_|refine JF ?_ ?_|refine JU ?_ ?_|refine Jw ?_ ?_|refine JH ?_ ?_|refine JI ?_ ?_|refine JD ?_ ?_|refine JE ?_ ?_|refine JS ?_ ?_|refine JT ?_ ?_|refine Jy ?_ ?_|refine Jz ?_ ?_)<;>intro d2<;>simp(maxSteps:=999999)(disch:=omega)only[go_sem,zA,zM,zS,zE,zL,d2])
     · ((first|(with_reducible first|refine Jl ?_ ?_|refine Jj ?_ ?_|refine Jp ?_ ?_)|refine Jr ?_ ?_)<;>intro d3)
       · simp(maxSteps:=999999)(disch:=omega)only[go_sem,zA,zM,zS,zE,zL]
         refine⟨k+1,⟨⟨by omega,hgo fun h=>h.2.2 d3.symm⟩,by omega⟩,by push_cast;omega, ?_⟩
         rw[hset _ rfl (fun h=>h.2.2 d3.symm)]
         exact J0.refl _
       · simp(maxSteps:=999999)(disch:=omega)only[go_sem,zA,zM,zS,zE,zL]
         have:clear p xs=false:=by
          simp only[clear,decide_eq_false_iff_not]
          exact fun h=>h k c1 ⟨d1,d2,fun h=>d3 h.symm⟩
         rw[this]
         exact Vc rfl
     · refine⟨k+1,⟨⟨by omega,hgo fun h=>d2 h.2.1⟩,by omega⟩,by push_cast;omega, ?_⟩
       rw[hset _ rfl (fun h=>d2 h.2.1)]
       exact J0.refl _
   · refine⟨k+1,⟨⟨by omega,hgo fun h=>d1 h.1⟩,by omega⟩,by push_cast;omega, ?_⟩
     rw[hset _ rfl (fun h=>d1 h.1)]
     exact J0.refl _
 · have hke:p.given.length=k:=by omega
   simp(maxSteps:=999999)(disch:=omega)only[go_sem,zA,zM,zS,zE,zL]
   rw[JdQ (by omega) hno,if_pos rfl,Jhu hke]
   have hown:Qy [some ⟨g,1,cl (eI .i64) (Zw p.given xs)⟩] (.own 0 g 0 p.given.length none) (Zw p.given xs) [0]:=by
    have:=Qy.o (H:=[some ⟨g,1,cl (eI .i64) (Zw p.given xs)⟩]) 0 g none (Zw p.given xs) [] (by rw[Ju];simp only[go_sem])
    rwa [ZB]at this
   have hf:=hown.frzC
   refine Vc ?_
   show(([_,_]:List AV).mapM (Xw _)).map AV.tup=_
   simp only[J4,Qw,Xw,hf,Option.bind_eq_bind,Option.pure_def,Option.map_some]
   rfl
theorem Kf(p:Q4)(xs:List Int)(most:Int)(hx:Rf p)(hl:xs.length≤2^40):JW Tryz.prog 95 [aP p,QO xs,int most] (int (WZ p xs most)):=by
 refine Jn.cw (c:=_) Tryz.func95 rfl (n:=41) Tryz.ntmps95 (rs:=[.tmp 6]) rfl ?_
 simp only[Je,Jf,zA,zS,Jd,Jb,Jc]
 simp(maxSteps:=999999)(disch:=omega)only[go_sem,zA,zM,zS,zE,zL]
 intro g
 first|refine JZ.rd (Qx p hx) (⟨_,Tryz.func41,rfl,rfl⟩:Ji Tryz.prog 41) rfl rfl rfl rfl ?_|refine JK.rd (Qx p hx) (⟨_,Tryz.func41,rfl,rfl⟩:Ji Tryz.prog 41) rfl rfl rfl rfl ?_
 simp(maxSteps:=999999)(disch:=omega)only[go_sem,zA,zM,zS,zE,zL]
 ((with_reducible first|refine JJ ?_ ?_|refine JF ?_ ?_|refine JU ?_ ?_|refine Jw ?_ ?_|refine JH ?_ ?_|refine JI ?_ ?_|refine JD ?_ ?_|refine JE ?_ ?_|refine JS ?_ ?_|refine JT ?_ ?_|refine Jy ?_ ?_|refine Jz ?_ ?_)<;>intro h1<;>simp(maxSteps:=999999)(disch:=omega)only[go_sem,zA,zM,zS,zE,zL,h1])
 rotate_left
 · unfold WZ
   rw[if_neg (fun h=>by rw[h.1]at h1;cases h1)]
 first|refine JZ.rd (ZG xs p.size (by omega)) (⟨_,Tryz.func54,rfl,rfl⟩:Ji Tryz.prog 54) rfl rfl rfl rfl ?_|refine JK.rd (ZG xs p.size (by omega)) (⟨_,Tryz.func54,rfl,rfl⟩:Ji Tryz.prog 54) rfl rfl rfl rfl ?_
 simp(maxSteps:=999999)(disch:=omega)only[go_sem,zA,zM,zS,zE,zL]
 ((with_reducible first|refine JJ ?_ ?_|refine JF ?_ ?_|refine JU ?_ ?_|refine Jw ?_ ?_|refine JH ?_ ?_|refine JI ?_ ?_|refine JD ?_ ?_|refine JE ?_ ?_|refine JS ?_ ?_|refine JT ?_ ?_|refine Jy ?_ ?_|refine Jz ?_ ?_)<;>intro h2<;>simp(maxSteps:=999999)(disch:=omega)only[go_sem,zA,zM,zS,zE,zL,h2])
 rotate_left
 · unfold WZ
   rw[if_neg (fun h=>by rw[h.2.1]at h2;cases h2)]
 ((with_reducible first|refine JJ ?_ ?_|refine JF ?_ ?_|refine JU ?_ ?_|refine Jw ?_ ?_|refine JH ?_ ?_|refine JI ?_ ?_|refine JD ?_ ?_|refine JE ?_ ?_|refine JS ?_ ?_|refine JT ?_ ?_|refine Jy ?_ ?_|refine Jz ?_ ?_)<;>intro h3<;>simp(maxSteps:=999999)(disch:=omega)only[go_sem,zA,zM,zS,zE,zL,h3])
 · unfold WZ
   rw[if_neg (by omega)]
 ((first|(with_reducible first|refine Jl ?_ ?_|refine Jj ?_ ?_|refine Jp ?_ ?_)|refine Jr ?_ ?_)<;>intro h4)
 · simp(maxSteps:=999999)(disch:=omega)only[go_sem,zA,zM,zS,zE,zL]
   unfold WZ
   rw[if_neg (by omega)]
 obtain⟨hp,hg,ha,hlen,hl4,hl16⟩:=Yk h1 h2
 obtain⟨k,rfl⟩:∃k:Nat,most=k:=⟨most.toNat,by omega⟩
 have hV:WZ p xs k=(NQ p p.size.toNat xs k).length:=by unfold WZ;rw[if_pos ⟨h1,h2,by omega,by omega⟩,Int.toNat_natCast]
 rw[hV]
 simp(maxSteps:=999999)(disch:=omega)only[go_sem,zA,zM,zS,zE,zL]
 first|refine JZ.mk (X6 p xs hlen.symm hl16 (fun k hk=>⟨(hg.val k hk).1,(ha.val k (by omega)).1⟩)) (⟨_,Tryz.func37,rfl,rfl⟩:Ji Tryz.prog 37) rfl rfl rfl rfl rfl ?_|refine JK.mk (X6 p xs hlen.symm hl16 (fun k hk=>⟨(hg.val k hk).1,(ha.val k (by omega)).1⟩)) (⟨_,Tryz.func37,rfl,rfl⟩:Ji Tryz.prog 37) rfl rfl rfl rfl rfl ?_
 simp(maxSteps:=999999)(disch:=omega)only[go_sem,zA,zM,zS,zE,zL]
 ((first|(with_reducible first|refine Jl ?_ ?_|refine Jj ?_ ?_|refine Jp ?_ ?_)|refine Jr ?_ ?_)<;>intro h5)
 rotate_left
 · simp(maxSteps:=999999)(disch:=omega)only[go_sem,zA,zM,zS,zE,zL]
   have:NQ p p.size.toNat xs k=[]:=by unfold NQ;rw[if_neg (fun h=>by rw[h.2]at h5;cases h5)]
   rw[this]
   rfl
 rw[if_pos h5]
 simp(maxSteps:=999999)(disch:=omega)only[go_sem,zA,zM,zS,zE,zL]
 first|refine JZ.mk (Xx hp h1 k (by omega) (Zw p.given xs) (W4 ha hg) JdF) (⟨_,Tryz.func42,rfl,rfl⟩:Ji Tryz.prog 42) rfl rfl rfl rfl rfl ?_|refine JK.mk (Xx hp h1 k (by omega) (Zw p.given xs) (W4 ha hg) JdF) (⟨_,Tryz.func42,rfl,rfl⟩:Ji Tryz.prog 42) rfl rfl rfl rfl rfl ?_
 simp(maxSteps:=999999)(disch:=omega)only[go_sem,zA,zM,zS,zE,zL]
 unfold NQ
 by_cases hf:QT p (Zw p.given xs) p.size.toNat=true
 · rw[if_pos hf,if_pos ⟨hf,h5⟩]
 · rw[if_neg hf,if_neg (fun h=>hf h.1)]
theorem RE(p:Q4)(xs:List Int)(hx:Rf p)(hl:xs.length≤2^40):JW Tryz.prog 51 [aP p,QO xs] (bool (Yo p xs)):=by
 rw[JdS]
 refine Jn.cw (c:=_) Tryz.func51 rfl (n:=9) Tryz.ntmps51 (rs:=[.tmp 4]) rfl ?_
 simp only[Je,Jf,zA,zS,Jd,Jb,Jc]
 simp(maxSteps:=999999)(disch:=omega)only[go_sem,zA,zM,zS,zE,zL]
 intro g
 first|refine JZ.rd (Kf p xs 1 hx hl) (⟨_,Tryz.func95,rfl,rfl⟩:Ji Tryz.prog 95) rfl rfl rfl rfl ?_|refine JK.rd (Kf p xs 1 hx hl) (⟨_,Tryz.func95,rfl,rfl⟩:Ji Tryz.prog 95) rfl rfl rfl rfl ?_
 simp(maxSteps:=999999)(disch:=omega)only[go_sem,zA,zM,zS,zE,zL]
end Go.Lg
