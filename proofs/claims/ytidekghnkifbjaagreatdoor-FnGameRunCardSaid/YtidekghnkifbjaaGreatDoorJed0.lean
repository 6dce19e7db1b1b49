/- GpMJ, GpFC, GpEF, GpEG, cut to what is needed. -/
import Derived.Test.YtidekghnkifbjaaGreatDoorJec9
import Derived.Test.YtidekghnkifbjaaGreatDoorJec3
import Derived.Test.YtidekghnkifbjaaGreatDoorJec6
import Derived.Test.YtidekghnkifbjaaGreatDoorJec0
open List renaming getElem?_append_left → Ja, cons_append → Jb, nil_append → Jc, replicate → Jd, length_cons → Je, length_nil → Jf, getElem?_set_ne → Jg, getElem?_eq_some_iff → Jh, length_append → Jk, length_set → Jo, take_of_length_le → Js, append_assoc → Jt, append_nil → Ju, getElem?_eq_none → Jx, length_singleton → JL, getElem?_append_right → J3, mem_cons → Qn, map_cons → Qr, not_mem_nil → Zh, map_nil → ZV
open Nat renaming reduceAdd→zA,reduceMul→zM,reduceSub→zS,reduceEqDiff→zE,reduceLeDiff→zL
set_option linter.unusedSimpArgs false
set_option linter.unusedVariables false
set_option maxRecDepth 100000
namespace Go.Lg
open Go.Proofs
theorem BZ{p:Q4}{n:Nat}(hp:Ux p n)(hv:JB p=true)(ms:List Nat)(hm:XT ms n)(t:Nat)(ht:1≤t∧t≤4):JW Tryz.prog 112 [aP p,QO (JQ ms),int t] (QO (JQ (Uk p t ms))):=by
 have hn:=hp.hn
 have hz:=hp.size
 have hzn:p.size.toNat=n:=by rw[hz];rfl
 have h1:=BY hn ms hm
 have h2:=FE hn ms hm
 have h3:=Gt hn ms hm
 have h4:=Gs hp hv ms hm
 rw[←hz]at h1 h2 h3
 have e:Uk p t ms=if t=1 then Jah ms n else if t=2 then ND ms n else if t=3 then Jam ms n else YC p ms:=by unfold Uk;rw[hzn]
 rw[e]
 obtain rfl|rfl|rfl|rfl:t=1∨t=2∨t=3∨t=4:=by omega
 · refine Jn.cw (c:=_) Tryz.func112 rfl (n:=34) Tryz.ntmps112 (rs:=[.tmp 6]) rfl ?_
   simp only[Je,Jf,zA,zS,Jd,Jb,Jc]
   simp(maxSteps:=999999)(disch:=omega)only[go_sem,zA,zM,zS,zE,zL]
   intro g
   first|refine JZ.rd (Qx p hp.sm) (⟨_,Tryz.func41,rfl,rfl⟩:Ji Tryz.prog 41) rfl rfl rfl rfl ?_|refine JK.rd (Qx p hp.sm) (⟨_,Tryz.func41,rfl,rfl⟩:Ji Tryz.prog 41) rfl rfl rfl rfl ?_
   simp(maxSteps:=999999)(disch:=omega)only[go_sem,zA,zM,zS,zE,zL]
   rw[hv]
   have d11:decide (((1:Nat):Int)=1)=true:=rfl
   simp(maxSteps:=999999)(disch:=omega)only[go_sem,zA,zM,zS,zE,zL,d11]
   first|refine JZ.mk (h1) (⟨_,Tryz.func137,rfl,rfl⟩:Ji Tryz.prog 137) rfl rfl rfl rfl rfl ?_|refine JK.mk (h1) (⟨_,Tryz.func137,rfl,rfl⟩:Ji Tryz.prog 137) rfl rfl rfl rfl rfl ?_
   simp(maxSteps:=999999)(disch:=omega)only[go_sem,zA,zM,zS,zE,zL]
 · refine Jn.cw (c:=_) Tryz.func112 rfl (n:=34) Tryz.ntmps112 (rs:=[.tmp 6]) rfl ?_
   simp only[Je,Jf,zA,zS,Jd,Jb,Jc]
   simp(maxSteps:=999999)(disch:=omega)only[go_sem,zA,zM,zS,zE,zL]
   intro g
   first|refine JZ.rd (Qx p hp.sm) (⟨_,Tryz.func41,rfl,rfl⟩:Ji Tryz.prog 41) rfl rfl rfl rfl ?_|refine JK.rd (Qx p hp.sm) (⟨_,Tryz.func41,rfl,rfl⟩:Ji Tryz.prog 41) rfl rfl rfl rfl ?_
   simp(maxSteps:=999999)(disch:=omega)only[go_sem,zA,zM,zS,zE,zL]
   rw[hv]
   have d21:decide (((2:Nat):Int)=1)=false:=rfl
   have d22:decide (((2:Nat):Int)=2)=true:=rfl
   simp(maxSteps:=999999)(disch:=omega)only[go_sem,zA,zM,zS,zE,zL,d21,d22]
   first|refine JZ.mk (h2) (⟨_,Tryz.func138,rfl,rfl⟩:Ji Tryz.prog 138) rfl rfl rfl rfl rfl ?_|refine JK.mk (h2) (⟨_,Tryz.func138,rfl,rfl⟩:Ji Tryz.prog 138) rfl rfl rfl rfl rfl ?_
   simp(maxSteps:=999999)(disch:=omega)only[go_sem,zA,zM,zS,zE,zL]
 · refine Jn.cw (c:=_) Tryz.func112 rfl (n:=34) Tryz.ntmps112 (rs:=[.tmp 6]) rfl ?_
   simp only[Je,Jf,zA,zS,Jd,Jb,Jc]
   simp(maxSteps:=999999)(disch:=omega)only[go_sem,zA,zM,zS,zE,zL]
   intro g
   first|refine JZ.rd (Qx p hp.sm) (⟨_,Tryz.func41,rfl,rfl⟩:Ji Tryz.prog 41) rfl rfl rfl rfl ?_|refine JK.rd (Qx p hp.sm) (⟨_,Tryz.func41,rfl,rfl⟩:Ji Tryz.prog 41) rfl rfl rfl rfl ?_
   simp(maxSteps:=999999)(disch:=omega)only[go_sem,zA,zM,zS,zE,zL]
   rw[hv]
   have d31:decide (((3:Nat):Int)=1)=false:=rfl
   have d32:decide (((3:Nat):Int)=2)=false:=rfl
   have d33:decide (((3:Nat):Int)=3)=true:=rfl
   simp(maxSteps:=999999)(disch:=omega)only[go_sem,zA,zM,zS,zE,zL,d31,d32,d33]
   first|refine JZ.mk (h3) (⟨_,Tryz.func139,rfl,rfl⟩:Ji Tryz.prog 139) rfl rfl rfl rfl rfl ?_|refine JK.mk (h3) (⟨_,Tryz.func139,rfl,rfl⟩:Ji Tryz.prog 139) rfl rfl rfl rfl rfl ?_
   simp(maxSteps:=999999)(disch:=omega)only[go_sem,zA,zM,zS,zE,zL]
 · refine Jn.cw (c:=_) Tryz.func112 rfl (n:=34) Tryz.ntmps112 (rs:=[.tmp 6]) rfl ?_
   simp only[Je,Jf,zA,zS,Jd,Jb,Jc]
   simp(maxSteps:=999999)(disch:=omega)only[go_sem,zA,zM,zS,zE,zL]
   intro g
   first|refine JZ.rd (Qx p hp.sm) (⟨_,Tryz.func41,rfl,rfl⟩:Ji Tryz.prog 41) rfl rfl rfl rfl ?_|refine JK.rd (Qx p hp.sm) (⟨_,Tryz.func41,rfl,rfl⟩:Ji Tryz.prog 41) rfl rfl rfl rfl ?_
   simp(maxSteps:=999999)(disch:=omega)only[go_sem,zA,zM,zS,zE,zL]
   rw[hv]
   have d41:decide (((4:Nat):Int)=1)=false:=rfl
   have d42:decide (((4:Nat):Int)=2)=false:=rfl
   have d43:decide (((4:Nat):Int)=3)=false:=rfl
   have d44:decide (((4:Nat):Int)=4)=true:=rfl
   simp(maxSteps:=999999)(disch:=omega)only[go_sem,zA,zM,zS,zE,zL,d41,d42,d43,d44]
   first|refine JZ.mk (h4) (⟨_,Tryz.func140,rfl,rfl⟩:Ji Tryz.prog 140) rfl rfl rfl rfl rfl ?_|refine JK.mk (h4) (⟨_,Tryz.func140,rfl,rfl⟩:Ji Tryz.prog 140) rfl rfl rfl rfl rfl ?_
   simp(maxSteps:=999999)(disch:=omega)only[go_sem,zA,zM,zS,zE,zL]
theorem Rk{p:Q4}{n:Nat}(hp:Ux p n)(hv:JB p=true)(ms:List Nat)(hm:XT ms n)(t:Nat)(ht:1≤t∧t≤4):JW Tryz.prog 107 [aP p,QO (JQ ms),int t] (QO (JQ (Uk p t ms))):=by
 have hmv:=Zr hp.hn (JQ ms) hm.ok
 rw[←hp.size]at hmv
 have hn:=hp.hn
 have hz:=hp.size
 have hzn:p.size.toNat=n:=by rw[hz];rfl
 have h1:=RJ hn ms hm
 have h2:=Bf hn ms hm
 have h3:=B8 hn ms hm
 have h4:=B7 hp hv ms hm
 rw[←hz]at h1 h2 h3
 have e:Uk p t ms=if t=1 then Jah ms n else if t=2 then ND ms n else if t=3 then Jam ms n else YC p ms:=by unfold Uk;rw[hzn]
 rw[e]
 obtain rfl|rfl|rfl|rfl:t=1∨t=2∨t=3∨t=4:=by omega
 · refine Jn.cw (c:=_) Tryz.func107 rfl (n:=43) Tryz.ntmps107 (rs:=[.tmp 6]) rfl ?_
   simp only[Je,Jf,zA,zS,Jd,Jb,Jc]
   simp(maxSteps:=999999)(disch:=omega)only[go_sem,zA,zM,zS,zE,zL]
   intro g
   first|refine JZ.rd (Qh p hp.sm) (⟨_,Tryz.func38,rfl,rfl⟩:Ji Tryz.prog 38) rfl rfl rfl rfl ?_|refine JK.rd (Qh p hp.sm) (⟨_,Tryz.func38,rfl,rfl⟩:Ji Tryz.prog 38) rfl rfl rfl rfl ?_
   simp(maxSteps:=999999)(disch:=omega)only[go_sem,zA,zM,zS,zE,zL]
   rw[hv]
   simp(maxSteps:=999999)(disch:=omega)only[go_sem,zA,zM,zS,zE,zL]
   first|refine JZ.rd (hmv) (⟨_,Tryz.func131,rfl,rfl⟩:Ji Tryz.prog 131) rfl rfl rfl rfl ?_|refine JK.rd (hmv) (⟨_,Tryz.func131,rfl,rfl⟩:Ji Tryz.prog 131) rfl rfl rfl rfl ?_
   simp(maxSteps:=999999)(disch:=omega)only[go_sem,zA,zM,zS,zE,zL]
   have d11:decide (((1:Nat):Int)=1)=true:=rfl
   simp(maxSteps:=999999)(disch:=omega)only[go_sem,zA,zM,zS,zE,zL,d11]
   first|refine JZ.mk (h1) (⟨_,Tryz.func132,rfl,rfl⟩:Ji Tryz.prog 132) rfl rfl rfl rfl rfl ?_|refine JK.mk (h1) (⟨_,Tryz.func132,rfl,rfl⟩:Ji Tryz.prog 132) rfl rfl rfl rfl rfl ?_
   simp(maxSteps:=999999)(disch:=omega)only[go_sem,zA,zM,zS,zE,zL]
 · refine Jn.cw (c:=_) Tryz.func107 rfl (n:=43) Tryz.ntmps107 (rs:=[.tmp 6]) rfl ?_
   simp only[Je,Jf,zA,zS,Jd,Jb,Jc]
   simp(maxSteps:=999999)(disch:=omega)only[go_sem,zA,zM,zS,zE,zL]
   intro g
   first|refine JZ.rd (Qh p hp.sm) (⟨_,Tryz.func38,rfl,rfl⟩:Ji Tryz.prog 38) rfl rfl rfl rfl ?_|refine JK.rd (Qh p hp.sm) (⟨_,Tryz.func38,rfl,rfl⟩:Ji Tryz.prog 38) rfl rfl rfl rfl ?_
   simp(maxSteps:=999999)(disch:=omega)only[go_sem,zA,zM,zS,zE,zL]
   rw[hv]
   simp(maxSteps:=999999)(disch:=omega)only[go_sem,zA,zM,zS,zE,zL]
   first|refine JZ.rd (hmv) (⟨_,Tryz.func131,rfl,rfl⟩:Ji Tryz.prog 131) rfl rfl rfl rfl ?_|refine JK.rd (hmv) (⟨_,Tryz.func131,rfl,rfl⟩:Ji Tryz.prog 131) rfl rfl rfl rfl ?_
   simp(maxSteps:=999999)(disch:=omega)only[go_sem,zA,zM,zS,zE,zL]
   have d21:decide (((2:Nat):Int)=1)=false:=rfl
   have d22:decide (((2:Nat):Int)=2)=true:=rfl
   simp(maxSteps:=999999)(disch:=omega)only[go_sem,zA,zM,zS,zE,zL,d21,d22]
   first|refine JZ.mk (h2) (⟨_,Tryz.func133,rfl,rfl⟩:Ji Tryz.prog 133) rfl rfl rfl rfl rfl ?_|refine JK.mk (h2) (⟨_,Tryz.func133,rfl,rfl⟩:Ji Tryz.prog 133) rfl rfl rfl rfl rfl ?_
   simp(maxSteps:=999999)(disch:=omega)only[go_sem,zA,zM,zS,zE,zL]
 · refine Jn.cw (c:=_) Tryz.func107 rfl (n:=43) Tryz.ntmps107 (rs:=[.tmp 6]) rfl ?_
   simp only[Je,Jf,zA,zS,Jd,Jb,Jc]
   simp(maxSteps:=999999)(disch:=omega)only[go_sem,zA,zM,zS,zE,zL]
   intro g
   first|refine JZ.rd (Qh p hp.sm) (⟨_,Tryz.func38,rfl,rfl⟩:Ji Tryz.prog 38) rfl rfl rfl rfl ?_|refine JK.rd (Qh p hp.sm) (⟨_,Tryz.func38,rfl,rfl⟩:Ji Tryz.prog 38) rfl rfl rfl rfl ?_
   simp(maxSteps:=999999)(disch:=omega)only[go_sem,zA,zM,zS,zE,zL]
   rw[hv]
   simp(maxSteps:=999999)(disch:=omega)only[go_sem,zA,zM,zS,zE,zL]
   first|refine JZ.rd (hmv) (⟨_,Tryz.func131,rfl,rfl⟩:Ji Tryz.prog 131) rfl rfl rfl rfl ?_|refine JK.rd (hmv) (⟨_,Tryz.func131,rfl,rfl⟩:Ji Tryz.prog 131) rfl rfl rfl rfl ?_
   simp(maxSteps:=999999)(disch:=omega)only[go_sem,zA,zM,zS,zE,zL]
   have d31:decide (((3:Nat):Int)=1)=false:=rfl
   have d32:decide (((3:Nat):Int)=2)=false:=rfl
   have d33:decide (((3:Nat):Int)=3)=true:=rfl
   simp(maxSteps:=999999)(disch:=omega)only[go_sem,zA,zM,zS,zE,zL,d31,d32,d33]
   first|refine JZ.mk (h3) (⟨_,Tryz.func134,rfl,rfl⟩:Ji Tryz.prog 134) rfl rfl rfl rfl rfl ?_|refine JK.mk (h3) (⟨_,Tryz.func134,rfl,rfl⟩:Ji Tryz.prog 134) rfl rfl rfl rfl rfl ?_
   simp(maxSteps:=999999)(disch:=omega)only[go_sem,zA,zM,zS,zE,zL]
 · refine Jn.cw (c:=_) Tryz.func107 rfl (n:=43) Tryz.ntmps107 (rs:=[.tmp 6]) rfl ?_
   simp only[Je,Jf,zA,zS,Jd,Jb,Jc]
   simp(maxSteps:=999999)(disch:=omega)only[go_sem,zA,zM,zS,zE,zL]
   intro g
   first|refine JZ.rd (Qh p hp.sm) (⟨_,Tryz.func38,rfl,rfl⟩:Ji Tryz.prog 38) rfl rfl rfl rfl ?_|refine JK.rd (Qh p hp.sm) (⟨_,Tryz.func38,rfl,rfl⟩:Ji Tryz.prog 38) rfl rfl rfl rfl ?_
   simp(maxSteps:=999999)(disch:=omega)only[go_sem,zA,zM,zS,zE,zL]
   rw[hv]
   simp(maxSteps:=999999)(disch:=omega)only[go_sem,zA,zM,zS,zE,zL]
   first|refine JZ.rd (hmv) (⟨_,Tryz.func131,rfl,rfl⟩:Ji Tryz.prog 131) rfl rfl rfl rfl ?_|refine JK.rd (hmv) (⟨_,Tryz.func131,rfl,rfl⟩:Ji Tryz.prog 131) rfl rfl rfl rfl ?_
   simp(maxSteps:=999999)(disch:=omega)only[go_sem,zA,zM,zS,zE,zL]
   have d41:decide (((4:Nat):Int)=1)=false:=rfl
   have d42:decide (((4:Nat):Int)=2)=false:=rfl
   have d43:decide (((4:Nat):Int)=3)=false:=rfl
   have d44:decide (((4:Nat):Int)=4)=true:=rfl
   simp(maxSteps:=999999)(disch:=omega)only[go_sem,zA,zM,zS,zE,zL,d41,d42,d43,d44]
   first|refine JZ.mk (h4) (⟨_,Tryz.func135,rfl,rfl⟩:Ji Tryz.prog 135) rfl rfl rfl rfl rfl ?_|refine JK.mk (h4) (⟨_,Tryz.func135,rfl,rfl⟩:Ji Tryz.prog 135) rfl rfl rfl rfl rfl ?_
   simp(maxSteps:=999999)(disch:=omega)only[go_sem,zA,zM,zS,zE,zL]
theorem Jar{p:Q4}{n:Nat}(hp:Ux p n)(hv:JB p=true)(ms:List Nat)(hm:XT ms n):JW Tryz.prog 80 [aP p,QO (JQ ms),int 4] (.tup [QO (if ZZ p ms=0 then[]else JQ (Uk p (ZZ p ms) ms)),int (ZZ p ms)]):=by
 have hsq:n*n≤16:=by rcases hp.hn with rfl|rfl|rfl<;>omega
 have hl:=hm.len
 refine JW.ice (Q:=fun v H'=>Vu H' v=some (.tup [QO (if ZZ p ms=0 then[]else JQ (Uk p (ZZ p ms) ms)),int (ZZ p ms)])) ?_ (fun r H' h=>h)
 refine Jn.cw (c:=_) Tryz.func80 rfl (n:=25) Tryz.ntmps80 (rs:=[.tmp 6, .tmp 7]) rfl ?_
 simp only[Je,Jf,zA,zS,Jd,Jb,Jc]
 simp(maxSteps:=999999)(disch:=omega)only[go_sem,zA,zM,zS,zE,zL]
 intro g
 refine JY (fun t:Nat=>5 -t) (fun t=>1≤t∧t≤5∧∀u,1≤u→u<t→Uk p u ms=ms) (fun t=>[.a, .k, .k, .k, .a, .a, .a, .a, .p (int t), .a, .a, .a, .a, .a, .a, .a, .a, .a, .a, .a, .a, .a, .a, .a, .a]) (fun _=>[some ⟨g,1,cP p⟩]) 1 ⟨by omega,by omega,fun u h1 h2=>by omega⟩ (by simp(maxSteps:=999999)(disch:=omega)only[go_sem,zA,zM,zS,zE,zL];rfl) (J0.refl _) ?_
 rintro t ⟨ht1,ht2,hall⟩
 simp(maxSteps:=999999)(disch:=omega)only[go_sem,zA,zM,zS,zE,zL]
 ((first|(with_reducible first|refine Jl ?_ ?_|refine Jj ?_ ?_|refine Jp ?_ ?_)|refine Jr ?_ ?_)<;>intro h1)
 · have h1:t≤4:=by omega
   simp(maxSteps:=999999)(disch:=omega)only[go_sem,zA,zM,zS,zE,zL]
   first|refine JZ.mk (BZ hp hv ms hm t ⟨ht1,h1⟩) (⟨_,Tryz.func112,rfl,rfl⟩:Ji Tryz.prog 112) rfl rfl rfl rfl rfl ?_|refine JK.mk (BZ hp hv ms hm t ⟨ht1,h1⟩) (⟨_,Tryz.func112,rfl,rfl⟩:Ji Tryz.prog 112) rfl rfl rfl rfl rfl ?_
   simp(maxSteps:=999999)(disch:=omega)only[go_sem,zA,zM,zS,zE,zL]
   have hnl:=(K6 (p:=p) (t:=t) hm).len
   first|refine JZ.rd (Jbp (JQ (Uk p t ms)) (JQ ms) (by rw[Qq];omega)) (⟨_,Tryz.func113,rfl,rfl⟩:Ji Tryz.prog 113) rfl rfl rfl rfl ?_|refine JK.rd (Jbp (JQ (Uk p t ms)) (JQ ms) (by rw[Qq];omega)) (⟨_,Tryz.func113,rfl,rfl⟩:Ji Tryz.prog 113) rfl rfl rfl rfl ?_
   simp(maxSteps:=999999)(disch:=omega)only[go_sem,zA,zM,zS,zE,zL]
   ((first|(with_reducible first|refine Jl ?_ ?_|refine Jj ?_ ?_|refine Jp ?_ ?_)|refine Jr ?_ ?_)<;>intro h2)
   · have h2:Uk p t ms=ms:=Jdb.1 h2
     simp(maxSteps:=999999)(disch:=omega)only[go_sem,zA,zM,zS,zE,zL]
     exact⟨t+1,⟨⟨by omega,by omega,fun u u1 u2=>by
      by_cases hut:u=t
      · rw[hut];exact h2
      · exact hall u u1 (by omega)⟩,by omega⟩,by push_cast;rfl,J0.refl _⟩
   · have h2:Uk p t ms≠ms:=fun h=>h2 (by rw[h])
     have e:=Jda ⟨ht1,h1⟩ hall h2
     rw[e,if_neg (by omega)]
     simp(maxSteps:=999999)(disch:=omega)only[go_sem,zA,zM,zS,zE,zL]
     exact⟨_,J0.refl _,rfl⟩
 · have hte:t=5:=by omega
   have e:=Jc8 (p:=p) (ms:=ms) fun u u1 u2=>hall u u1 (by omega)
   rw[e,if_pos rfl]
   simp(maxSteps:=999999)(disch:=omega)only[go_sem,zA,zM,zS,zE,zL]
   exact⟨_,J0.refl _,rfl⟩
end Go.Lg

namespace Go.Lg
open Go.Proofs
def Yo(p:Q4)(xs:List Int):Bool:=if JB p=true∧Qe xs p.size=true then decide ((NQ p p.size.toNat xs 1).length=1)else false
theorem JdS(p:Q4)(xs:List Int):Yo p xs=decide (WZ p xs 1=1):=by
 unfold Yo WZ
 by_cases h:JB p=true∧Qe xs p.size=true
 · rw[if_pos h,if_pos ⟨h.1,h.2,by omega,by omega⟩]
   rw[decide_eq_decide]
   have e:(1:Int).toNat=1:=rfl
   rw[e]
   omega
 · rw[if_neg h,if_neg (fun h'=>h ⟨h'.1,h'.2.1⟩)]
   rfl
theorem Jcr{p:Q4}{xs:List Int}(h:Rf p):Rf (Q5 p xs):=⟨by show(Zw p.given xs).length≤_;rw[ZB];exact h.1,h.2⟩
theorem Yk{p:Q4}{xs:List Int}(h1:JB p=true)(h2:Qe xs p.size=true):Ux p p.size.toNat∧Zk xs p.size.toNat∧Zk p.given p.size.toNat∧p.given.length=xs.length∧4≤xs.length∧xs.length≤16:=by
 obtain⟨hp,hz⟩:=Ux.of h1
 have hg:=Zk.of hp.hn (xs:=xs) (by rw[hz];exact h2)
 have ha:=Zk.of hp.hn (xs:=p.given) (by rw[hz];exact UH h1)
 have hsq:4≤p.size.toNat*p.size.toNat∧p.size.toNat*p.size.toNat≤16:=by
  have:=hp.hn
  rcases this with h|h|h<;>rw[h]<;>omega
 have:=hg.len
 have:=ha.len
 exact⟨hp,hg,ha,by omega,by omega,by omega⟩
theorem Kq(p:Q4)(xs:List Int)(hx:Rf p)(hl:xs.length≤2^40):JW Tryz.prog 77 [aP p,QO xs] (bool (Yo p xs)):=by
 refine Jn.cw (c:=_) Tryz.func77 rfl (n:=15) Tryz.ntmps77 (rs:=[.tmp 4]) rfl ?_
 simp only[Je,Jf,zA,zS,Jd,Jb,Jc]
 simp(maxSteps:=999999)(disch:=omega)only[go_sem,zA,zM,zS,zE,zL]
 intro g
 first|refine JZ.rd (ZY p xs hx hl) (⟨_,Tryz.func103,rfl,rfl⟩:Ji Tryz.prog 103) rfl rfl rfl rfl ?_|refine JK.rd (ZY p xs hx hl) (⟨_,Tryz.func103,rfl,rfl⟩:Ji Tryz.prog 103) rfl rfl rfl rfl ?_
 simp(maxSteps:=999999)(disch:=omega)only[go_sem,zA,zM,zS,zE,zL]
 cases hc:(JB p&&(Qe xs p.size&&QT p xs p.size.toNat))with
 |false=>
  simp(maxSteps:=999999)(disch:=omega)only[go_sem,zA,zM,zS,zE,zL]
  unfold Yo
  by_cases h:JB p=true∧Qe xs p.size=true
  · rw[if_pos h]
    obtain⟨hp,hg,_⟩:=Yk h.1 h.2
    rw[h.1,h.2,Bool.true_and,Bool.true_and]at hc
    rw[Jbh hp h.1 hg,if_neg (by rw[hc];simp)]
    rfl
  · rw[if_neg h]
 |true=>
  simp only[Bool.and_eq_true]at hc
  obtain⟨h1,h2,h4⟩:=hc
  obtain⟨hp,hg,ha,hlen,hl4,hl16⟩:=Yk h1 h2
  have hV:Yo p xs=decide ((NQ p p.size.toNat xs 1).length=1):=by unfold Yo;rw[if_pos ⟨h1,h2⟩]
  rw[hV,Jbh hp h1 hg,if_pos h4]
  simp(maxSteps:=999999)(disch:=omega)only[go_sem,zA,zM,zS,zE,zL]
  first|refine JZ.mk (XL p xs (by omega) (by omega) (by omega)) (⟨_,Tryz.func104,rfl,rfl⟩:Ji Tryz.prog 104) rfl rfl rfl rfl rfl ?_|refine JK.mk (XL p xs (by omega) (by omega) (by omega)) (⟨_,Tryz.func104,rfl,rfl⟩:Ji Tryz.prog 104) rfl rfl rfl rfl rfl ?_
  simp(maxSteps:=999999)(disch:=omega)only[go_sem,zA,zM,zS,zE,zL]
  have hle:=JjQ (Q5 p xs) 1
  first|refine JZ.mk (K8 (Q5 p xs) 1 (by omega) (Jcr hx)) (⟨_,Tryz.func110,rfl,rfl⟩:Ji Tryz.prog 110) rfl rfl rfl rfl rfl ?_|refine JK.mk (K8 (Q5 p xs) 1 (by omega) (Jcr hx)) (⟨_,Tryz.func110,rfl,rfl⟩:Ji Tryz.prog 110) rfl rfl rfl rfl rfl ?_
  simp(maxSteps:=999999)(disch:=omega)only[go_sem,zA,zM,zS,zE,zL]
  rw[decide_eq_decide]
  omega
end Go.Lg

namespace Go.Lg
open Go.Proofs
theorem JjI{P:Program}{H:Jm}{t e:TypeId}{ti:TI}{n:Nat}{cs:List FV}(ht:JV P t=some ti)(hk:ti.k= .slice e)(hn:0<n):Rj P H .eql t (.c (.f (.sl n cs))) (.c (.f .nil))=some (.c (.f (.bool false))):=by
 unfold Rj
 simp only[ht,hk,V4,if_neg (show¬n=0 by omega)]
 rfl
theorem Jeg{k g n:Nat}{xs:List Int}:Q7 k [some ⟨g,n,cl (eI .i64) xs⟩]=[some ⟨g,n,cl (eI .i64) xs⟩]:=by
 simp only[Q7,Qr,ZV,Option.map_some,ZJ,VZ]
section
variable{P:Program}{o:Oper}{st:St}{K:KV}{fo:Operand}{xs:Array Operand}{ts:Array TypeId}{f:FuncId}{args args':List AV}{zs:List Int}{ops:Array Oper}{s:List AV}{H:Jm}
theorem JZ.mkDQ(hc:Jn P f args' [] (G6 (eI .i64) 1 zs))(he:Ji P f)(ho:o.op= .call ⟨.value fo,xs,ts⟩)(ha:Qc st fo xs=some (f,args))(hs:args.mapM (Zx st.h)=some args')
 (hk:∀g,K (.c (.own st.h.length g 0 zs.length none)) (st.h++[some ⟨g,1,cl (eI .i64) zs⟩])):JZ P o st K:=
 JZ.mkD hc he ho ha hs fun r H' ⟨g,h1,h2⟩=>by
  subst h1 h2
  refine⟨⟨rfl,rfl,Wl fun id b hb=>by simp at hb⟩, ?_⟩
  rw[Jeg]
  have:=hk g
  rwa [←Nat.zero_add st.h.length]at this
theorem JK.mkDQ(hc:Jn P f args' [] (G6 (eI .i64) 1 zs))(he:Ji P f)(ho:o.op= .call ⟨.value fo,xs,ts⟩)(ha:Qc ⟨s,H⟩ fo xs=some (f,args))(hs:args.mapM (Zx H)=some args')
 (hk:∀g,K (.c (.own H.length g 0 zs.length none)) (H++[some ⟨g,1,cl (eI .i64) zs⟩])):JK P ops o s H K:=JK.call ho ha fun s' ha'=>JZ.mkDQ hc he ho ha' hs hk
end
theorem JdZ(xs:List Int)(hx:xs.length≤2^40)(h0:xs≠[]):Jn Tryz.prog 89 [QO xs] [] (G6 (eI .i64) 1 xs):=by
 have hp:0<xs.length:=List.length_pos_iff.2 h0
 refine Jn.cw (c:=_) Tryz.func89 rfl (n:=8) Tryz.ntmps89 (rs:=[.tmp 2]) rfl ?_
 simp only[Je,Jf,zA,zS,Jd,Jb,Jc]
 simp(maxSteps:=999999)(disch:=omega)only[go_sem,zA,zM,zS,zE,zL,JjI UE rfl hp]
 intro g g'
 rw[Nat.zero_add]
 exact ZO (J0.refl _)
attribute [-go_sem] J9 Jv
theorem JhT(most:Nat)(hmo:most≤600)(H:Jm)(gid gg:Nat)(xs:List Int)(pid pg mid mg:Nat)(ls:List (List Int))(S:List Nat)(hxl:0<xs.length∧xs.length≤16)(hgl:look H gid gg=some ⟨gg,1,cl (eI .i64) xs⟩)(hml:look H mid mg=some ⟨mg,1,[.f (.int .i64 most)]⟩)(hmp:mid≠pid)(hmS:mid∉S)(hls:ls.length<most)(hout:VT H pid pg ls S)(hSl:∀k∈S,k<H.length):
 Jn Tryz.prog 88 [.c (.own gid gg 0 xs.length none), .c (.ptr pid pg 0), .c (.ptr mid mg 0)] H (fun v H'=>v=bool (decide (ls.length+1<most))∧∃S',VT H' pid pg (ls++[xs]) S'∧(∀k∈S',k∈S∨H.length≤k)∧(∀k∈S',k<H'.length)∧H.length≤H'.length∧∀k,k<H.length→k≠pid→k∉S→H'[k]? =H[k]?):=by
 obtain⟨⟨oid,og,cs,o1,o2,o3,o4,o5⟩,opn⟩:=hout
 have hplt:pid<H.length:=(Jh.1 (JG o1).1).1
 have hpo:pid≠oid:=fun h=>opn (by rw[h];exact o3)
 have holt:oid<H.length:=hSl oid o3
 refine Jn.cw (c:=_) Tryz.func88 rfl (n:=14) Tryz.ntmps88 (rs:=[.tmp 4]) rfl ?_
 simp only[Je,Jf,zA,zS,Jd,Jb,Jc]
 simp(maxSteps:=999999)(disch:=omega)only[go_sem,zA,zM,zS,zE,zL]
 have hM1:look (Zg (ZS oid H.length (H.length+3)) H) pid pg=some ⟨pg,1,[.own oid og 0 ls.length none]⟩:=by rw[Ur (U7 hpo (by omega))];exact o1
 have hM2:XY (Zg (ZS oid H.length (H.length+3)) H) (.c (.ptr pid pg 0))=some (.c (.ptr pid pg 0)):=Vn hM1
 refine Q3 [0,1,2,3] [] none [4,5] (ZS oid H.length (H.length+3)) [0,0,2,6,15,31] Zd (by kernel_rfl) ?_
 iterate 3 (rw[Jv];simp(maxSteps:=999999)(disch:=omega)only[go_sem,zA,zM,zS,zE,zL,hM1,hM2])
 have hown:Qy H (.own gid gg 0 xs.length none) xs [gid]:=Qy.o (H:=H) gid gg none xs [] (by rw[Ju];exact hgl)
 refine JK.mkDQ (JdZ xs (by omega) (fun h=>by rw[h]at hxl;simp at hxl)) (⟨_,Tryz.func89,rfl,rfl⟩:Ji Tryz.prog 89) rfl rfl (Jcz hown.snap) ?_
 intro g4
 refine⟨ZR fun j b hj hb=>by rw[Ja (Jh.1 hb).1];exact hb, ?_⟩
 rw[Jv]
 simp(maxSteps:=999999)(disch:=omega)only[go_sem,zA,zM,zS,zE,zL]
 intro g5
 refine⟨ZR fun j b hj hb=>by rw[Ja (Jh.1 hb).1];exact hb, ?_⟩
 have l4:look (H++[some ⟨g4,1,cl (eI .i64) xs⟩]) H.length g4=some ⟨g4,1,cl (eI .i64) xs⟩:=JC
 have hbl:look (H++[some ⟨g4,1,cl (eI .i64) xs⟩]++[some ⟨g5,1,[CV.own H.length g4 0 xs.length none]⟩]) (H.length+1) g5=some ⟨g5,1,[CV.own H.length g4 0 xs.length none]⟩:=by
  have:=JC (H:=H++[some ⟨g4,1,cl (eI .i64) xs⟩]) (g:=g5) (sz:=1) (cs:=[CV.own H.length g4 0 xs.length none])
  rwa [Jk,JL]at this
 have hol:look (H++[some ⟨g4,1,cl (eI .i64) xs⟩]++[some ⟨g5,1,[CV.own H.length g4 0 xs.length none]⟩]) oid og=some ⟨og,1,cs⟩:=JO (JO o2)
 refine VH (Qb Jkb rfl UE) ⟨rfl,rfl,by decide⟩ (by omega) hol o4 hbl ?_
 intro g6
 obtain⟨HL,hHL⟩:∃HL:Jm,HL=(H++[some ⟨g4,1,cl (eI .i64) xs⟩]++[some ⟨g5,1,[CV.own H.length g4 0 xs.length none]⟩]:Jm).set oid (some ⟨g6,1,cs++[CV.own H.length g4 0 xs.length none]⟩):=⟨_,rfl⟩
 have hLl:HL.length=H.length+2:=by rw[hHL,Jo];simp
 have hL3:∀j,j<H.length→j≠oid→HL[j]? =H[j]? :=fun j hj hn=>by rw[hHL,Jg (Ne.symm hn),Jt,Ja hj]
 have hL1:look HL pid pg=some ⟨pg,1,[.own oid og 0 ls.length none]⟩:=by unfold look;rw[hL3 pid (by omega) hpo];exact o1
 have hL2:look HL oid g6=some ⟨g6,1,cs++[CV.own H.length g4 0 xs.length none]⟩:=by rw[hHL];exact JM (by simp;omega)
 have hL4:look HL H.length g4=some ⟨g4,1,cl (eI .i64) xs⟩:=by rw[hHL,J6 (by omega)];exact JO l4
 rw[←hHL]
 clear hHL
 have hL5:XY HL (.c (.ptr pid pg 0))=some (.c (.ptr pid pg 0)):=Vn hL1
 simp(maxSteps:=999999)(disch:=omega)only[go_sem,zA,zM,zS,zE,zL,hL1,hL5]
 obtain⟨HF,hHF⟩:∃HF:Jm,HF=HL.set pid (some ⟨pg,1,[CV.own oid g6 0 (ls.length+1) none]⟩):=⟨_,rfl⟩
 have hlen1:(ls++[xs]).length=ls.length+1:=by simp
 have hmlt:mid<H.length:=(Jh.1 (JG hml).1).1
 have hF1:look HF pid pg=some ⟨pg,1,[CV.own oid g6 0 (ls.length+1) none]⟩:=by rw[hHF];exact JM (by omega)
 have hF2:look HF mid mg=some ⟨mg,1,[.f (.int .i64 most)]⟩:=by
  rw[hHF,J6 (Ne.symm hmp)]
  unfold look
  rw[hL3 mid hmlt (fun h=>hmS (by rw[h];exact o3))]
  exact hml
 have hF3:look HF oid g6=some ⟨g6,1,cs++[CV.own H.length g4 0 xs.length none]⟩:=by rw[hHF,J6 hpo];exact hL2
 have hfin:VT HF pid pg (ls++[xs]) (H.length::S):=by
  rw[hHF]
  refine⟨⟨oid,g6,cs++[CV.own H.length g4 0 xs.length none],by rw[hlen1];exact JM (by omega),by rw[J6 hpo];exact hL2,by simp[o3],by simp[o4],fun i hi=> ?_⟩,by simp;exact⟨by omega,opn⟩⟩
  rw[hlen1]at hi
  by_cases hil:i<ls.length
  · obtain⟨id,g,k1,k2,k3,hio⟩:=o5 i hil
    have hidl:=hSl id k3
    refine⟨id,g,by rw[Ja (by omega)];rw[List.getElem_append_left hil];exact k1, ?_,by simp[k3],hio⟩
    rw[List.getElem_append_left hil,J6 (fun h=>opn (by rw[h];exact k3))]
    unfold look
    rw[hL3 id (by omega) hio]
    exact k2
  · have hie:i=ls.length:=by omega
    subst hie
    refine⟨H.length,g4, ?_, ?_,by simp,by omega⟩
    · rw[J3 (by omega),o4]
      simp
    · rw[J6 (by omega)]
      simp only[List.getElem_append_right (Nat.le_refl _),Nat.sub_self,List.getElem_singleton]
      exact hL4
 have hFl:HF.length=H.length+2:=by rw[hHF,Jo];omega
 have hFf:∀k,k<H.length→k≠pid→k∉S→HF[k]? =H[k]? :=fun k hk hkp hkS=>by rw[hHF,Jg (Ne.symm hkp),hL3 k (by omega) (fun h=>hkS (by rw[h];exact o3))]
 rw[←hHF]
 clear hHF
 simp(maxSteps:=999999)(disch:=omega)only[go_sem,zA,zM,zS,zE,zL,hF1,hF2,hF3]
 refine⟨HF,J0.refl _, ?_,H.length::S,hfin, ?_, ?_,by omega,hFf⟩
 · rw[show decide (((ls.length+1:Nat):Int)<most)=decide (ls.length+1<most)from decide_eq_decide.2 (by omega)]
 · intro k hk
   rcases Qn.1 hk with rfl|hk
   · exact .inr (by omega)
   · exact .inl hk
 · intro k hk
   rcases Qn.1 hk with rfl|hk
   · omega
   · have:=hSl k hk;omega
end Go.Lg

namespace Go.Lg
open Go.Proofs
attribute [-go_sem] J9 Jv
theorem setV{xs:List Int}{i:Nat}(h:i<xs.length)(w v:Int):Qk (cl (eI .i64) (xs.set i w)) (0+(i:Int).toNat*1) [.f (.int .i64 v)]=cl (eI .i64) (xs.set i v):=by
 have:=Vj (E:=eI .i64) (n:=1) (xs:=xs.set i w) (i:=i) (v:=v) (by rw[Jo];exact h)
 rw[List.set_set]at this
 exact this
theorem Zk.nn{xs:List Int}{n:Nat}(h:Zk xs n)(c:Int):0≤JA xs c:=by
 rw[Vb]
 by_cases hk:c.toNat<xs.length
 · exact(h.val _ hk).1
 · unfold JA
   rw[Int.toNat_natCast,List.getD_eq_getElem?_getD,Jx (by omega)]
   exact Int.le_refl _
theorem Ux.cells0{p:Q4}{n:Nat}(h:Ux p n):∀r∈p.rules,∀c∈r.cells,0≤c:=fun r hr c hc=>((Q9 (h.rv r hr)).2.2.1 c hc).1
structure Cap where
 gp:Nat
 gpg:Nat
 tb:Nat
 tbg:Nat
 ty:Nat
 tyg:Nat
 sz:Nat
 szg:Nat
 pb:Nat
 pbg:Nat
 mid:Nat
 mg:Nat
 pid:Nat
 pg:Nat
 gid:Nat
 gg:Nat
def Cap.ids(c:Cap):List Nat:=[c.gp,c.tb,c.ty,c.sz,c.pb,c.mid]
structure JdW(ft fy:FuncId)(p:Q4)(n most:Nat)(c:Cap)(H:Jm):Prop where
 g:look H c.gp c.gpg=some ⟨c.gpg,1,[.own c.gid c.gg 0 (n*n) none]⟩
 t:look H c.tb c.tbg=some ⟨c.tbg,1,[.fn ft [(c.pid,c.pg),(c.mid,c.mg)]]⟩
 y:look H c.ty c.tyg=some ⟨c.tyg,1,[.fn fy [(c.gp,c.gpg),(c.tb,c.tbg),(c.ty,c.tyg),(c.sz,c.szg),(c.pb,c.pbg)]]⟩
 z:look H c.sz c.szg=some ⟨c.szg,1,[.f (.int .i64 n)]⟩
 b:look H c.pb c.pbg=some ⟨c.pbg,1,cP p⟩
 m:look H c.mid c.mg=some ⟨c.mg,1,[.f (.int .i64 most)]⟩
theorem JdW.same{ft fy:FuncId}{p:Q4}{n most:Nat}{c:Cap}{H H':Jm}(h:JdW ft fy p n most c H)(hs:∀k∈c.ids,H'[k]? =H[k]?):JdW ft fy p n most c H':=by
 have k:∀i g b,i∈c.ids→look H i g=b→look H' i g=b:=fun i g b hi he=>by unfold look at*;rw[hs i hi];exact he
 exact⟨k _ _ _ (by simp[Cap.ids]) h.g,k _ _ _ (by simp[Cap.ids]) h.t,k _ _ _ (by simp[Cap.ids]) h.y,k _ _ _ (by simp[Cap.ids]) h.z,k _ _ _ (by simp[Cap.ids]) h.b,k _ _ _ (by simp[Cap.ids]) h.m⟩
theorem GS{xs:List Int}{i:Nat}{x:Int}(h:JA xs i=x):xs.set i x=xs:=by
 refine List.ext_getElem (by simp) fun j h1 h2=> ?_
 rw[List.getElem_set]
 split
 · rename_i hij
   subst hij
   rw[←h,Qt (by simpa using h2)]
   simp
 · rfl
def Ext(p:Q4)(xs:List Int):Prop:=∀k:Nat,JA xs k=0→JA p.given k≤0
theorem RF{H:Jm}{f:FuncId}{caps:List (Nat×Nat)}(h:∀c∈caps,(look H c.1 c.2).isSome=true):VX H (.c (.fn f caps))=some (f,caps.map fun c=> .c (.ptr c.1 c.2 0)):=by
 unfold VX
 exact if_pos (List.all_eq_true.2 h)
theorem JdW.lt{ft fy:FuncId}{p:Q4}{n most:Nat}{c:Cap}{H:Jm}(h:JdW ft fy p n most c H):∀k∈c.ids,k<H.length:=by
 intro k hk
 have hl:∀{i g:Nat} {b:Zv},look H i g=some b→i<H.length:=fun h=>(Jh.1 (JG h).1).1
 simp only[Cap.ids,Qn,Zh,or_false]at hk
 rcases hk with rfl|rfl|rfl|rfl|rfl|rfl
 · exact hl h.g
 · exact hl h.t
 · exact hl h.y
 · exact hl h.z
 · exact hl h.b
 · exact hl h.m
def tryQ(p:Q4)(n most:Nat)(c:Cap)(m:Nat)(xs:List Int)(ls:List (List Int))(S:List Nat)(H:Jm):KV:=fun v H'=>
 ∃l,l=ls++(ZM p n m xs).take (most -ls.length)∧v=bool (decide (l.length<most))∧∃S' ys,VT H' c.pid c.pg l S'∧(∀k∈S',k∈S∨H.length≤k)∧(∀k∈S',k<H'.length)∧H.length≤H'.length∧
  look H' c.gid c.gg=some ⟨c.gg,1,cl (eI .i64) ys⟩∧ys.length=xs.length∧(l.length<most→ys=xs)∧∀k,k<H.length→k≠c.pid→k∉S→k≠c.gid→H'[k]? =H[k]?
theorem Jbs{p:Q4}{n:Nat}(hp:Ux p n)(most:Nat)(hmo:most≤600)(c:Cap)(hcp:∀k∈c.ids,k≠c.pid∧k≠c.gid)(hgp:c.gid≠c.pid):
 ∀(m:Nat) (H:Jm) (xs:List Int) (ls:List (List Int)) (S:List Nat),m≤n*n→Zk xs n→QT p xs n=true→Ext p xs→JdW 88 121 p n most c H→(∀k∈c.ids,k∉S)→look H c.gid c.gg=some ⟨c.gg,1,cl (eI .i64) xs⟩→c.gid∉S→ls.length<most→VT H c.pid c.pg ls S→(∀k∈S,k<H.length)→
 Jn Tryz.prog 121 [int ((n*n -m:Nat):Int), .c (.ptr c.gp c.gpg 0), .c (.ptr c.tb c.tbg 0), .c (.ptr c.ty c.tyg 0), .c (.ptr c.sz c.szg 0), .c (.ptr c.pb c.pbg 0)] H (tryQ p n most c m xs ls S H)
 |0,H,xs,ls,S,hm,hg,hfit,hext,hT,hcS,hgl,hgS,hls,hout,hSl=>by
  have hn:=hp.hn
  have hxl:=hg.len
  have hsq:4≤n*n∧n*n≤16:=by rcases hn with rfl|rfl|rfl<;>omega
  have kg:=hT.g
  have kt:=hT.t
  refine Jn.cw (c:=_) Tryz.func121 rfl (n:=48) Tryz.ntmps121 (rs:=[.tmp 7]) rfl ?_
  simp only[Je,Jf,zA,zS,Jd,Jb,Jc]
  simp(maxSteps:=999999)(disch:=omega)only[go_sem,zA,zM,zS,zE,zL,kg,kt,hgl]
  ((first|(with_reducible first|refine Jl ?_ ?_|refine Jj ?_ ?_|refine Jp ?_ ?_)|refine Jr ?_ ?_)<;>intro c1)
  rotate_left
  · exfalso;omega
  simp(maxSteps:=999999)(disch:=omega)only[go_sem,zA,zM,zS,zE,zL,kg,kt,hgl]
  have hrun:=JhT most hmo H c.gid c.gg xs c.pid c.pg c.mid c.mg ls S (by omega) hgl hT.m (hcp c.mid (by simp[Cap.ids])).1 (hcS c.mid (by simp[Cap.ids])) hls hout hSl
  rw[hxl]at hrun
  have htg:VX H (.c (.fn 88 [(c.pid,c.pg),(c.mid,c.mg)]))=some (88,[.c (.ptr c.pid c.pg 0), .c (.ptr c.mid c.mg 0)]):=by
   obtain⟨⟨oid,og,cs,o1,_⟩,_⟩:=hout
   exact RF (caps:=[(c.pid,c.pg),(c.mid,c.mg)]) (by simp[o1,hT.m])
  refine JZ.runFn hrun (⟨_,Tryz.func88,rfl,rfl⟩:Ji Tryz.prog 88) rfl htg rfl ?_
  rintro _ H2 ⟨rfl,S2,o2,t1,t2,t3,t4⟩
  simp(maxSteps:=999999)(disch:=omega)only[go_sem,zA,zM,zS,zE,zL]
  have hs:ZM p n 0 xs=[xs]:=rfl
  have ht:(ZM p n 0 xs).take (most -ls.length)=[xs]:=by rw[hs,Js (by simp;omega)]
  refine⟨H2,J0.refl _,ls++[xs],by rw[ht], ?_,S2,xs,o2,t1,t2,t3, ?_,rfl,fun _=>rfl,fun k h1 h2 h3 _=>t4 k h1 h2 h3⟩
  · rw[Jk,JL]
  · have hglt:=(Jh.1 (JG hgl).1).1
    unfold look
    rw[t4 c.gid hglt hgp hgS]
    exact hgl
 |m+1,H,xs,ls,S,hm,hg,hfit,hext,hT,hcS,hgl,hgS,hls,hout,hSl=>by
  have hn:=hp.hn
  have hxl:=hg.len
  have hsq:4≤n*n∧n*n≤16:=by rcases hn with rfl|rfl|rfl<;>omega
  have kg:=hT.g
  have ky:=hT.y
  have kz:=hT.z
  have kb:=hT.b
  obtain⟨i,hi⟩:∃i,i=n*n -(m+1):=⟨_,rfl⟩
  have him:n*n -m=i+1:=by omega
  have hil:i<xs.length:=by omega
  have hxi:=hg.val i hil
  have hss:ZM p n (m+1) xs=if 0<JA xs i then ZM p n m xs else(vals n 1).flatMap fun(v:Nat)=>if QT p (xs.set i (v:Int)) n=true then ZM p n m (xs.set i (v:Int))else[]:=by
   have e:xs.length -(m+1)=i:=by omega
   conv=>lhs;rw[ZM,e]
   rfl
  have hglt:=(Jh.1 (JG hgl).1).1
  rw[←hi]
  have htgt:∀{HI:Jm},JdW 88 121 p n most c HI→VX HI (.c (.fn 121 [(c.gp,c.gpg),(c.tb,c.tbg),(c.ty,c.tyg),(c.sz,c.szg),(c.pb,c.pbg)]))=some (121,[.c (.ptr c.gp c.gpg 0), .c (.ptr c.tb c.tbg 0), .c (.ptr c.ty c.tyg 0), .c (.ptr c.sz c.szg 0), .c (.ptr c.pb c.pbg 0)]):=fun h=>
   RF (caps:=[(c.gp,c.gpg),(c.tb,c.tbg),(c.ty,c.tyg),(c.sz,c.szg),(c.pb,c.pbg)]) (by simp[h.g,h.t,h.y,h.z,h.b])
  refine Jn.cw (c:=_) Tryz.func121 rfl (n:=48) Tryz.ntmps121 (rs:=[.tmp 7]) rfl ?_
  simp only[Je,Jf,zA,zS,Jd,Jb,Jc]
  simp(maxSteps:=999999)(disch:=omega)only[go_sem,zA,zM,zS,zE,zL,kg,hgl]
  ((first|(with_reducible first|refine Jl ?_ ?_|refine Jj ?_ ?_|refine Jp ?_ ?_)|refine Jr ?_ ?_)<;>intro c1)
  · exfalso;omega
  simp(maxSteps:=999999)(disch:=omega)only[go_sem,zA,zM,zS,zE,zL,kg,hgl]
  ((first|(with_reducible first|refine Jl ?_ ?_|refine Jj ?_ ?_|refine Jp ?_ ?_)|refine Jr ?_ ?_)<;>intro c2)
  · simp(maxSteps:=999999)(disch:=omega)only[go_sem,zA,zM,zS,zE,zL,ky]
    have hrec:=Jbs hp most hmo c hcp hgp m H xs ls S (by omega) hg hfit hext hT hcS hgl hgS hls hout hSl
    rw[him,show int ((i+1:Nat):Int)=int ((i:Int)+1) by push_cast;rfl]at hrec
    refine JZ.runFn hrec (⟨_,Tryz.func121,rfl,rfl⟩:Ji Tryz.prog 121) rfl (htgt hT) rfl ?_
    rintro _ H2 ⟨l,hl,rfl,hrest⟩
    simp(maxSteps:=999999)(disch:=omega)only[go_sem,zA,zM,zS,zE,zL]
    exact⟨H2,J0.refl _,l,by rw[hss,if_pos c2];exact hl,rfl,hrest⟩
  · have h0:JA xs i=0:=by omega
    simp(maxSteps:=999999)(disch:=omega)only[go_sem,zA,zM,zS,zE,zL]
    refine Xq (fun(v:Nat) (HI:Jm) (l:List (List Int))=>n+1 -v) (fun v HI l=>1≤v∧v≤n+1∧Ft p n m xs i most (vals n v) l=Ft p n m xs i most (vals n 1) ls∧l.length<most∧H.length≤HI.length∧∃S' w,VT HI c.pid c.pg l S'∧(∀k∈S',k∈S∨H.length≤k)∧(∀k∈S',k<HI.length)∧look HI c.gid c.gg=some ⟨c.gg,1,cl (eI .i64) (xs.set i w)⟩∧∀k,k<H.length→k≠c.pid→k∉S→k≠c.gid→HI[k]? =H[k]?)
     (fun v _ _=>[.k, .k, .a, .k, .k, .k, .a, .a, .p (int v), .a, .a, .a, .a, .a, .a, .a, .a, .a, .a, .a, .a, .a, .a, .a, .a, .a, .a, .a, .a, .a, .a, .a, .a, .a, .a, .a, .a, .a, .a, .a, .a, .a, .a, .a, .a, .a, .a, .a]) (fun _ HI _=>HI) 1 H ls ⟨Nat.le_refl _,by omega,rfl,hls,Nat.le_refl _,S,0,hout,fun k hk=> .inl hk,hSl,by rw[GS h0];exact hgl,fun _ _ _ _ _=>rfl⟩ (by simp(maxSteps:=999999)(disch:=omega)only[go_sem,zA,zM,zS,zE,zL];rfl) (J0.refl _) ?_
    rintro v HI l ⟨hv1,hv2,hgo,hlm,hlI,S',w,oI,hS1,hS2,gI,hfI⟩
    have hlt:=hT.lt
    have hgoal:ZM p n (m+1) xs=(vals n 1).flatMap fun(v:Nat)=>if QT p (xs.set i (v:Int)) n=true then ZM p n m (xs.set i (v:Int))else[]:=by rw[hss,if_neg c2]
    have hTI:=hT.same (H':=HI) fun k hk=>hfI k (hlt k hk) (hcp k hk).1 (hcS k hk) (hcp k hk).2
    have hcS':∀k∈c.ids,k∉S':=fun k hk h=>by
     rcases hS1 k h with h|h
     · exact hcS k hk h
     · have:=hlt k hk;omega
    have hgS':c.gid∉S':=fun h=>by
     rcases hS1 _ h with h|h
     · exact hgS h
     · omega
    have kgI:=hTI.g
    have kzI:=hTI.z
    simp(maxSteps:=999999)(disch:=omega)only[go_sem,zA,zM,zS,zE,zL,kgI,kzI]
    ((first|(with_reducible first|refine Jl ?_ ?_|refine Jj ?_ ?_|refine Jp ?_ ?_)|refine Jr ?_ ?_)<;>intro d1)
    · have hvn:v≤n:=by omega
      have hset:=setV hil w (v:Int)
      simp(maxSteps:=999999)(disch:=omega)only[go_sem,zA,zM,zS,zE,zL,kgI,kzI,gI,hset]
      obtain⟨HN,hHN⟩:∃HN:Jm,HN=HI.set c.gid (some ⟨c.gg,1,cl (eI .i64) (xs.set i v)⟩):=⟨_,rfl⟩
      have hNl:HN.length=HI.length:=by rw[hHN,Jo]
      have hNg:∀k,k≠c.gid→HN[k]? =HI[k]? :=fun k hk=>by rw[hHN,Jg (Ne.symm hk)]
      have gN:look HN c.gid c.gg=some ⟨c.gg,1,cl (eI .i64) (xs.set i v)⟩:=by rw[hHN];exact JM (by omega)
      have hTN:=hTI.same (H':=HN) fun k hk=>hNg k (hcp k hk).2
      have oN:VT HN c.pid c.pg l S':=oI.same fun k hk=>hNg k (by rcases hk with rfl|hk;exact Ne.symm hgp;exact fun h=>hgS' (by rw[←h];exact hk))
      rw[←hHN]
      clear hHN
      have hgs:Zk (xs.set i (v:Int)) n:=⟨by rw[Jo];exact hxl,fun k hk=>by
       rw[Jo]at hk
       rw[Za _ _ _ _ hil]
       split
       · omega
       · exact hg.val k hk⟩
      have hown:Qy HN (.own c.gid c.gg 0 (n*n) none) (xs.set i (v:Int)) [c.gid]:=by
       have:=Qy.o (H:=HN) c.gid c.gg none (xs.set i (v:Int)) [] (by rw[Ju];exact gN)
       rwa [Jo,hxl]at this
      have bN:=hTN.b
      have ggN:=hTN.g
      simp(maxSteps:=999999)(disch:=omega)only[go_sem,zA,zM,zS,zE,zL,bN,ggN,gN]
      refine JZ.rdD (Jb8 hp (xs.set i (v:Int)) hgs i (by omega)) (⟨_,Tryz.func122,rfl,rfl⟩:Ji Tryz.prog 122) rfl rfl (Xj rfl hown.snap VO) rfl ?_
      have hstep:=Jhd hn (i:=i) (v:=v) hfit hxl hg.nn (by omega) hv1 h0 (hext i h0) hp.cells0
      rw[←hstep]
      have yN:=hTN.y
      simp(maxSteps:=999999)(disch:=omega)only[go_sem,zA,zM,zS,zE,zL,yN]
      ((with_reducible first|refine JJ ?_ ?_|refine JF ?_ ?_|refine JU ?_ ?_|refine Jw ?_ ?_|refine JH ?_ ?_|refine JI ?_ ?_|refine JD ?_ ?_|refine JE ?_ ?_|refine JS ?_ ?_|refine JT ?_ ?_|refine Jy ?_ ?_|refine Jz ?_ ?_)<;>intro c3<;>simp(maxSteps:=999999)(disch:=omega)only[go_sem,zA,zM,zS,zE,zL,c3])
      · simp(maxSteps:=999999)(disch:=omega)only[go_sem,zA,zM,zS,zE,zL,yN]
        have hexts:Ext p (xs.set i (v:Int)):=fun k hk=>by
         rw[Za _ _ _ _ hil]at hk
         split at hk
         · omega
         · exact hext k hk
        have hrec:=Jbs hp most hmo c hcp hgp m HN (xs.set i (v:Int)) l S' (by omega) hgs c3 hexts hTN hcS' gN hgS' hlm oN (fun k hk=>by have:=hS2 k hk;omega)
        rw[him,show int ((i+1:Nat):Int)=int ((i:Int)+1) by push_cast;rfl]at hrec
        refine JZ.runFn hrec (⟨_,Tryz.func121,rfl,rfl⟩:Ji Tryz.prog 121) rfl (htgt hTN) rfl ?_
        rintro _ H2 ⟨l2,hl2,rfl,S2,ys,o2,t1,t2,t3,t4,t5,t6,t7⟩
        have hgo2:Ft p n m xs i most (vals n (v+1)) l2=Ft p n m xs i most (vals n 1) ls:=by
         rw[←hgo,W6 ⟨hv1,hvn⟩]
         conv=>rhs;unfold Ft
         rw[if_pos hlm,if_pos c3,hl2]
        have hS2':∀k∈S2,k∈S∨H.length≤k:=fun k hk=>by
         rcases t1 k hk with h|h
         · exact hS1 k h
         · exact .inr (by omega)
        have hf2:∀k,k<H.length→k≠c.pid→k∉S→k≠c.gid→H2[k]? =H[k]? :=fun k h1 h2 h3 h4=>by
         have hkS':k∉S':=fun h=>by
          rcases hS1 k h with h|h
          · exact h3 h
          · omega
         rw[t7 k (by omega) h2 hkS' h4,hNg k h4,hfI k h1 h2 h3 h4]
        simp(maxSteps:=999999)(disch:=omega)only[go_sem,zA,zM,zS,zE,zL]
        ((first|(with_reducible first|refine Jl ?_ ?_|refine Jj ?_ ?_|refine Jp ?_ ?_)|refine Jr ?_ ?_)<;>intro d2)
        · simp(maxSteps:=999999)(disch:=omega)only[go_sem,zA,zM,zS,zE,zL]
          refine⟨v+1,H2,l2,⟨⟨by omega,by omega,hgo2,d2,by omega,S2,(v:Int),o2,hS2',t2, ?_,hf2⟩,by omega⟩,by push_cast;omega,J0.refl _⟩
          rw[t4,t6 d2]
        · simp(maxSteps:=999999)(disch:=omega)only[go_sem,zA,zM,zS,zE,zL]
          have hend:Ft p n m xs i most (vals n 1) ls=l2:=by rw[←hgo2];exact NF d2
          rw[KD _ _ _ _ _ _ _ _ (by omega),←hgoal]at hend
          exact⟨H2,J0.refl _,l2,hend.symm,by rw[decide_eq_false d2],S2,ys,o2,hS2',t2,by omega,t4,by rw[t5,Jo],fun h=>absurd h d2,hf2⟩
      · refine⟨v+1,HN,l,⟨⟨by omega,by omega, ?_,hlm,by omega,S',(v:Int),oN,hS1,fun k hk=>by have:=hS2 k hk;omega,gN,fun k h1 h2 h3 h4=>by rw[hNg k h4];exact hfI k h1 h2 h3 h4⟩,by omega⟩,by push_cast;omega,J0.refl _⟩
        rw[←hgo,W6 ⟨hv1,hvn⟩]
        conv=>rhs;unfold Ft
        rw[if_pos hlm,if_neg (by rw[c3];simp)]
    · have hve:v=n+1:=by omega
      have hset:=setV hil w 0
      simp(maxSteps:=999999)(disch:=omega)only[go_sem,zA,zM,zS,zE,zL,kgI,gI,hset]
      have hend:Ft p n m xs i most (vals n 1) ls=l:=by rw[←hgo,hve,GE];rfl
      rw[KD _ _ _ _ _ _ _ _ (by omega),←hgoal]at hend
      obtain⟨HN,hHN⟩:∃HN:Jm,HN=HI.set c.gid (some ⟨c.gg,1,cl (eI .i64) (xs.set i 0)⟩):=⟨_,rfl⟩
      have hNl:HN.length=HI.length:=by rw[hHN,Jo]
      have hNg:∀k,k≠c.gid→HN[k]? =HI[k]? :=fun k hk=>by rw[hHN,Jg (Ne.symm hk)]
      have gN:look HN c.gid c.gg=some ⟨c.gg,1,cl (eI .i64) xs⟩:=by rw[hHN,GS h0];exact JM (by omega)
      have oN:VT HN c.pid c.pg l S':=oI.same fun k hk=>hNg k (by rcases hk with rfl|hk;exact Ne.symm hgp;exact fun h=>hgS' (by rw[←h];exact hk))
      rw[←hHN]
      exact⟨HN,J0.refl _,l,hend.symm,by rw[decide_eq_true hlm],S',xs,oN,hS1,fun k hk=>by rw[hNl];exact hS2 k hk,by omega,gN,rfl,fun _=>rfl,fun k h1 h2 h3 h4=>by rw[hNg k h4];exact hfI k h1 h2 h3 h4⟩
end Go.Lg
