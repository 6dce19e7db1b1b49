/- GpWH, GpWI, cut to what is needed. -/
import Derived.Test.YtiahmfdabpafoaaGreatDoorKae0
open List renaming getElem?_eq_some_iff → Ja, getElem?_append_left → Jb, cons_append → Jc, nil_append → Jd, length_append → Je, length_cons → Jf, replicate → Jg, getElem?_eq_getElem → Jh, getElem?_set_ne → Jj, length_nil → Jl, append_assoc → Js, length_set → Jt, mapM_cons → Jz, length_take → JA, length_map → JL, length_singleton → JW, map_append → J1, mapM_nil → Qa, map_cons → Qf, mem_map → Qs, sum_cons → UV
open Nat renaming reduceAdd→zA,reduceMul→zM,reduceSub→zS,reduceEqDiff→zE,reduceLeDiff→zL
set_option linter.unusedSimpArgs false
set_option linter.unusedVariables false
set_option maxRecDepth 100000
namespace Go.Lg
open Go.Proofs
attribute [-go_sem] Qg
theorem Jcm{s:List UInt8}{k:Nat}(h:k<s.length):s.take (k+1)=s.take k++[s.getD k 0]:=by
 rw[List.take_add_one,Jh h,List.getD_eq_getElem?_getD,Jh h]
 rfl
theorem JeY{α:Type}[Inhabited α]{xs:List α}(h:xs≠[])(y d:α):xs.set (xs.length -1) y=xs.dropLast++[y]∧JM xs ((xs.length:Int) -1)=xs.getLastD d:=by
 have hp:0<xs.length:=List.length_pos_iff.2 h
 refine⟨?_, ?_⟩
 · apply List.ext_getElem
   · simp;omega
   · intro i h1 h2
     rw[List.getElem_set]
     split
     · rename_i h3
       subst h3
       rw[List.getElem_append_right (by simp)]
       simp
     · rename_i h3
       rw[Jt]at h1
       rw[List.getElem_append_left (by simp;omega),List.getElem_dropLast]
 · rw[Qu (by omega)]
   have:((xs.length:Int) -1).toNat=xs.length -1:=by omega
   simp only[this]
   rw[List.getLastD_eq_getLast?,List.getLast?_eq_getElem?,Jh (by omega)]
   rfl
theorem NX{t:List UInt8}(h:(Qt t).2.2=true):(Qt t).1.length≤2^40:=by
 have h3:=(WZ h).2.2
 have hl:=congrArg List.length h3
 have hv:J9 (QK t) (Ue t 0 -48)=true:=by
  cases hv:J9 (QK t) (Ue t 0 -48)with
  |true=>rfl
  |false=>
   have h2:=(WZ h).1
   have:Qk (QK t) (Ue t 0 -48)=[]:=by simp[Qk,hv]
   rw[this]at hl
   simp at hl
   omega
 have:=(Qz hv).2.2.2.1
 rw[(WZ h).2.1]
 show(QK t).length≤_
 omega
set_option maxHeartbeats 4000000 in
theorem WH(s:List UInt8)(hs:s.length≤2^30):Qd Tryz.prog 13 [Um s] (.tup [aP (ZF s),bool (Z1 s)]):=by
 have hCb:∀e:Int,0≤Ue s e∧Ue s e≤255:=UP s
 refine Qd.iced ?_
 refine Jq.cw (c:=_) Tryz.func13 rfl (n:=94) Tryz.ntmps13 (rs:=[.cell 2 26, .tmp 3]) rfl ?_
 simp only[Jf,Jl,zA,zS,Jg,Jc,Jd]
 simp(maxSteps:=999999)(disch:=omega)only[go_sem,zA,zM,zS,zE,zL]
 intro g0 g1
 refine Qj (fun(k g:Nat)=>s.length -k) (fun k g=>k≤s.length) (fun k g=>[.k, .a, .k, .a, .p (.c (.own 1 g 0 (Ql (s.take k)).length none)), .p (int k), .a, .a, .a, .a, .a, .a, .a, .a, .a, .a, .a, .a, .a, .a, .a, .a, .a, .a, .a, .a, .a, .a, .a, .a, .a, .a, .a, .a, .a, .a, .a, .a, .a, .a, .a, .a, .a, .a, .a, .a, .a, .a, .a, .a, .a, .a, .a, .a, .a, .a, .a, .a, .a, .a, .a, .a, .a, .a, .a, .a, .a, .a, .a, .a, .a, .a, .a, .a, .a, .a, .a, .a, .a, .a, .a, .a, .a, .a, .a, .a, .a, .a, .a, .a, .a, .a, .a, .a]) (fun k g=>[some ⟨g0,3,[.f (.int .i64 0), .f .nil, .f .nil]⟩,some ⟨g,1,cl eS (Ql (s.take k))⟩]) 0 g1
  (Nat.zero_le _) (by simp(maxSteps:=999999)(disch:=omega)only[go_sem,zA,zM,zS,zE,zL];exact⟨rfl,rfl⟩) (Qc.refl _) ?_
 rintro k g hk
 have hne:=Yl (s.take k)
 have hSl:=Y4 (s.take k)
 have hwl:∀w∈Ql (s.take k),w.length≤s.length:=fun w h=>Nat.le_trans (GU h) (by rw[JA];omega)
 have hsn:=XR (s.take k) (s.getD k 0)
 rw[JA]at hSl
 simp(maxSteps:=999999)(disch:=omega)only[go_sem,zA,zM,zS,zE,zL]
 by_cases hx:k<s.length∧(Ql (s.take k)).length≤22
 · have hsk:=Jcm hx.1
   rw[←hsk]at hsn
   generalize hL:Ql (s.take k)=L at hne hSl hwl hsn hx⊢
   have d1:decide ((k:Int)<s.length)=true:=decide_eq_true (by omega)
   have d2:decide ((L.length:Int)≤22)=true:=decide_eq_true (by omega)
   have hck:=hCb k
   have hcb:Ue s k=((s.getD k 0).toNat:Int):=rfl
   simp(maxSteps:=999999)(disch:=omega)only[go_sem,zA,zM,zS,zE,zL,d1,d2]
   have hpos:0<L.length:=List.length_pos_iff.2 hne
   ((first|(with_reducible first|refine Jo ?_ ?_|refine Jk ?_ ?_|refine Jp ?_ ?_)|refine Jr ?_ ?_)<;>intro c1)
   · have hb:s.getD k 0=32:=UInt8.toNat_inj.1 (by show _=32;omega)
     rw[if_pos hb]at hsn
     simp(maxSteps:=999999)(disch:=omega)only[go_sem,zA,zM,zS,zE,zL]
     intro g3
     simp(maxSteps:=999999)(disch:=omega)only[go_sem,zA,zM,zS,zE,zL,Qg]
     intro g4
     exact⟨k+1,g4,⟨by omega,by omega⟩,⟨⟨rfl,by rw[hsn];simp⟩,by push_cast;rfl⟩,by rw[hsn];exact Zq _ _ _ (Zq _ _ _ (J8 _))⟩
   · have hb:¬s.getD k 0=32:=fun h=>c1 (by rw[hcb,h];rfl)
     rw[if_neg hb]at hsn
     obtain⟨q1,q2⟩:=JeY hne (L.getLastD []++[s.getD k 0]) []
     have hsub:sub s k ((k:Int)+1)=[s.getD k 0]:=by
      unfold sub
      have e1:((k:Int)+1).toNat -(k:Int).toNat=1:=by omega
      rw[e1,Int.toNat_natCast,List.drop_eq_getElem_cons hx.1,List.take_succ_cons,List.take_zero,List.getD_eq_getElem?_getD,Jh hx.1]
      rfl
     have hlw:(L.getLastD []).length≤s.length:=by
      rw[←q2,Qu (by omega)]
      exact hwl _ (List.getElem_mem _)
     simp(maxSteps:=999999)(disch:=omega)only[go_sem,zA,zM,zS,zE,zL]
     refine Ua [0,1,2,3,4,5,6,7,8,9,10,11,12,13,14,15] [] none [16,17] [] Zr (by kernel_rfl) ?_
     simp(maxSteps:=999999)(disch:=omega)only[go_sem,Nat.reduceBEq,Bool.true_or,zA,zM,zS,zE,zL]
     simp(maxSteps:=999999)(disch:=omega)only[go_sem,zA,zM,zS,zE,zL,q2,hsub]
     rw[show((L.length:Int) -1).toNat=L.length -1 by omega,q1]
     exact⟨k+1,g,⟨by omega,by omega⟩,⟨⟨rfl,by rw[hsn];simp;omega⟩,by push_cast;rfl⟩,by rw[hsn];exact Qc.refl _⟩
 have hK:Jaz s k:=⟨hk,fun h=>by
  have:¬(Ql (s.take k)).length≤22:=fun h2=>hx ⟨h,h2⟩
  omega⟩
 have href1:=fun h1 h2 h3=>Jec (s:=s) (k:=k) hK h1 h2 h3
 have href2:V0 s→(Qt (GV (s.take k))).2.2=true∧(FR (s.take k)).all Q6=true∧Qy (XU (s.take k))=s:=fun ha=>by
  have e:=Jcy hK ha
  rw[e]
  exact⟨ha.1,ha.2.2.1,Bv ha⟩
 have hrp:XU (s.take k)=⟨(Qt (GV (s.take k))).2.1,(Qt (GV (s.take k))).1,(FR (s.take k)).map QA⟩:=rfl
 have hwe:=BG (s.take k)
 generalize XU (s.take k)=PU at href1 href2 hrp
 generalize GV (s.take k)=W at href1 href2 hrp hwe
 generalize FR (s.take k)=ws at href1 href2 hrp hwe
 generalize Ql (s.take k)=L at hne hSl hwl hwe hx⊢
 have hLl:L.length=ws.length+1:=by rw[hwe];rfl
 have hn0:JM L 0=W:=by rw[hwe];rfl
 have hnj:∀j:Nat,j<ws.length→JM L ((j:Int)+1)=JM ws j:=fun j hj=>by
  rw[hwe,Qu (by simp;omega),Qu (by omega)]
  have:((j:Int)+1).toNat=j+1:=by omega
  simp only[this,List.getElem_cons_succ,Int.toNat_natCast]
 have hWl:W.length≤s.length:=hwl W (by rw[hwe];simp)
 have hwj:∀j:Nat,j<ws.length→(JM ws j).length≤s.length:=fun j hj=>hwl _ (by
  rw[hwe,Qu (by omega)]
  exact List.mem_cons_of_mem _ (List.getElem_mem _))
 ((with_reducible first|refine JU ?_ ?_|refine JJ ?_ ?_|refine J6 ?_ ?_|refine Jx ?_ ?_|refine JS ?_ ?_|refine JT ?_ ?_|refine JH ?_ ?_|refine JI ?_ ?_|refine J4 ?_ ?_|refine J5 ?_ ?_|refine JC ?_ ?_|refine JD ?_ ?_)<;>intro e1<;>simp(maxSteps:=999999)(disch:=omega)only[go_sem,zA,zM,zS,zE,zL,e1])
 · ((first|(with_reducible first|refine Jo ?_ ?_|refine Jk ?_ ?_|refine Jp ?_ ?_)|refine Jr ?_ ?_)<;>intro e2)
   · exfalso;exact hx ⟨by omega,by omega⟩
   simp(maxSteps:=999999)(disch:=omega)only[go_sem,zA,zM,zS,zE,zL,hn0]
   first|refine Qh.mk (UR W (by omega)) (⟨_,Tryz.func29,rfl,rfl⟩:Jm Tryz.prog 29) rfl rfl rfl rfl rfl ?_|refine Qe.mk (UR W (by omega)) (⟨_,Tryz.func29,rfl,rfl⟩:Jm Tryz.prog 29) rfl rfl rfl rfl rfl ?_
   simp(maxSteps:=999999)(disch:=omega)only[go_sem,zA,zM,zS,zE,zL]
   intro g9
   obtain⟨z,gs,ok0,hz,hgs,hok0⟩:∃z gs ok0,(Qt W).2.1=z∧(Qt W).1=gs∧(Qt W).2.2=ok0:=⟨_,_,_,rfl,rfl,rfl⟩
   rw[hz,hgs]at hrp
   rw[hok0]at href1 href2
   rw[hz,hgs,hok0]
   refine Qj (fun(j:Nat) (b:Ji×CV×Bool)=>ws.length -j) (fun j b=>j≤ws.length∧b.2.2=(ok0&&(ws.take j).all Q6)∧look b.1 0 g0=some ⟨g0,3,[.f (.int .i64 0), .f .nil, .f .nil]⟩∧look b.1 1 g=some ⟨g,1,cl eS L⟩∧look b.1 2 g9=some ⟨g9,3,[.f (.int .i64 z), .f (QD gs),b.2.1]⟩∧Zt eR 3 b.1 b.2.1 ((ws.take j).map QA)∧∀i,Q1 b.2.1 i→3≤i)
    (fun j b=>[.k, .a, .k, .a, .k, .a, .a, .a, .p (bool b.2.2), .k, .p (int (j+1)), .a, .a, .a, .a, .a, .a, .a, .a, .a, .a, .a, .a, .a, .a, .a, .a, .a, .a, .a, .a, .a, .a, .a, .a, .a, .a, .a, .a, .a, .a, .a, .a, .a, .a, .a, .a, .a, .a, .a, .a, .a, .a, .a, .a, .a, .a, .a, .a, .a, .a, .a, .a, .a, .a, .a, .a, .a, .a, .a, .a, .a, .a, .a, .a, .a, .a, .a, .a, .a, .a, .a, .a, .a, .a, .a, .a, .a, .a, .a, .a, .a, .a, .a]) (fun _ b=>b.1) 0 ([some ⟨g0,3,[.f (.int .i64 0), .f .nil, .f .nil]⟩,some ⟨g,1,cl eS L⟩,some ⟨g9,3,[.f (.int .i64 z), .f (QD gs), .f .nil]⟩], .f .nil,ok0)
    ⟨Nat.zero_le _,by simp,by simp[look],by simp[look],by simp[look], .n,fun i h=>h.elim⟩ (by simp(maxSteps:=999999)(disch:=omega)only[go_sem,zA,zM,zS,zE,zL];rfl) (Qc.refl _) ?_
   rintro j ⟨HI,rc,ok⟩ ⟨hj,hok,k0,k1,k2,hol,hid⟩
   simp only at hok k0 k1 k2 hol hid⊢
   have hl0:0<HI.length:=(Ja.1 (Jw k0).1).1
   have hs0:∀cs,look (HI.set 0 (some ⟨g0,3,cs⟩)) 0 g0=some ⟨g0,3,cs⟩:=fun cs=>JK hl0
   by_cases hx2:j<ws.length∧ok=true
   · obtain⟨hjl,rfl⟩:=hx2
     have d3:decide ((j:Int)+1<(L.length:Int))=true:=decide_eq_true (by omega)
     have hwj':=hwj j hjl
     have hnj':=hnj j hjl
     have hlt2:2<HI.length:=(Ja.1 (Jw k2).1).1
     have hlt1:1<HI.length:=(Ja.1 (Jw k1).1).1
     simp(maxSteps:=999999)(disch:=omega)only[go_sem,zA,zM,zS,zE,zL,k1,d3,hnj']
     first|refine Qh.mk (Yv (UQ (JM ws j) (by omega))) (⟨_,Tryz.func30,rfl,rfl⟩:Jm Tryz.prog 30) rfl rfl rfl rfl rfl ?_|refine Qe.mk (Yv (UQ (JM ws j) (by omega))) (⟨_,Tryz.func30,rfl,rfl⟩:Jm Tryz.prog 30) rfl rfl rfl rfl rfl ?_
     simp(maxSteps:=999999)(disch:=omega)only[go_sem,zA,zM,zS,zE,zL]
     intro g11
     have a2:∀b,look (HI++[b]) 2 g9=some ⟨g9,3,[.f (.int .i64 z), .f (QD gs),rc]⟩:=fun b=>JR k2
     simp(maxSteps:=999999)(disch:=omega)only[go_sem,zA,zM,zS,zE,zL,JY,Up,a2]
     intro g12
     obtain⟨HC,hHC⟩:∃HC:Ji,HC=HI++[some ⟨g11,3,cR (QA (JM ws j))⟩]++[some ⟨g12,3,cR (QA (JM ws j))⟩]:=⟨_,rfl⟩
     have hCl:HC.length=HI.length+2:=by rw[hHC];simp
     have hCg:∀i,i<HI.length→HC[i]? =HI[i]? :=fun i hi=>by rw[hHC,Js,Jb hi]
     have c12:look HC (HI.length+1) g12=some ⟨g12,3,(eR (QA (JM ws j))).map CV.f⟩:=by
      rw[hHC]
      have:=JY (H:=HI++[some ⟨g11,3,cR (QA (JM ws j))⟩]) (g:=g12) (sz:=3) (cs:=cR (QA (JM ws j)))
      rw[Je,JW]at this
      exact this
     have hoC:Zt eR 3 HC rc ((ws.take j).map QA):=hol.same fun i _ hl=>hCg i hl
     rw[←hHC]
     clear hHC
     refine Xw (E:=eR) (n:=3) (v:=QA (JM ws j)) (JZ Rv rfl Rt) ⟨rfl,rfl,by decide,by decide⟩ hoC (by rw[JL,JA];omega) c12 ?_
     intro c' H' o' f' i' l' b'
     have hk:∀{i g:Nat} {b:ZG},i<3→i<HI.length→look HI i g=some b→look H' i g=some b:=fun h1 h2 h=>by
      unfold look at*
      rw[f' _ (by omega) (fun h3=>by have:=hid _ h3;omega),hCg _ h2];exact h
     have m0:=hk (by omega) hl0 k0
     have m1:=hk (by omega) hlt1 k1
     have m2:=hk (by omega) hlt2 k2
     have hs2:∀cs,look (H'.set 2 (some ⟨g9,3,cs⟩)) 2 g9=some ⟨g9,3,cs⟩:=fun cs=>JK (by omega)
     simp(maxSteps:=999999)(disch:=omega)only[go_sem,zA,zM,zS,zE,zL,m2]
     have hid':∀i,Q1 c' i→3≤i:=fun i h=>by
      rcases i' i h with h|h
      · exact hid i h
      · omega
     refine⟨j+1,(H'.set 2 (some ⟨g9,3,[.f (.int .i64 z), .f (QD gs),c']⟩),c',Q6 (JM ws j)),⟨⟨by omega, ?_, ?_, ?_,hs2 _, ?_,hid'⟩,by omega⟩,⟨rfl,by push_cast;rfl⟩,Qc.refl _⟩
     · rw[JX hjl,List.all_append,←Bool.and_assoc,←hok]
       simp
     · rw[J7 (by omega)];exact m0
     · rw[J7 (by omega)];exact m1
     · rw[JX hjl,J1]
       exact o'.same fun i h _=>by rw[Jj (by have:=hid' i h;omega)]
   have hrefuse:¬V0 s→ZF s=Y1∧Z1 s=false:=WY
   cases ok with
   |false=>
    have hna:¬V0 s:=fun h=>by
     obtain⟨q1,q2,_⟩:=href2 h
     have:(ws.take j).all Q6=true:=List.all_eq_true.2 fun w hw=>List.all_eq_true.1 q2 w (List.mem_of_mem_take hw)
     rw[q1,this]at hok
     cases hok
    obtain⟨f1,f2⟩:=hrefuse hna
    rw[f1,f2]
    simp(maxSteps:=999999)(disch:=omega)only[go_sem,zA,zM,zS,zE,zL,k1]
    ((with_reducible first|refine JU ?_ ?_|refine JJ ?_ ?_|refine J6 ?_ ?_|refine Jx ?_ ?_|refine JS ?_ ?_|refine JT ?_ ?_|refine JH ?_ ?_|refine JI ?_ ?_|refine J4 ?_ ?_|refine J5 ?_ ?_|refine JC ?_ ?_|refine JD ?_ ?_)<;>intro e3<;>simp(maxSteps:=999999)(disch:=omega)only[go_sem,zA,zM,zS,zE,zL,e3])
    · simp(maxSteps:=999999)(disch:=omega)only[go_sem,zA,zM,zS,zE,zL,k0,hs0,Bool.not_false,Bool.not_true]
      exact Q5 rfl
    · simp(maxSteps:=999999)(disch:=omega)only[go_sem,zA,zM,zS,zE,zL,k0,hs0,Bool.not_false,Bool.not_true]
      exact Q5 rfl
   |true=>
    have hjw:j=ws.length:=by
     have:¬j<ws.length:=fun h=>hx2 ⟨h,rfl⟩
     omega
    subst hjw
    rw[List.take_length]at hok hol
    have hok0':ok0=true∧ws.all Q6=true:=by
     have:=hok.symm
     simpa using this
    have d3:decide ((ws.length:Int)+1<(L.length:Int))=false:=decide_eq_false (by omega)
    have hgl:gs.length≤2^40:=by
     rw[←hgs]
     exact NX (hok0.trans hok0'.1)
    have hsm:BD PU:=by
     rw[hrp]
     refine⟨hgl,by show(ws.map QA).length≤_;rw[JL];omega,fun r hr=> ?_⟩
     obtain⟨w,_,rfl⟩:=Qs.1 hr
     exact Kc w
    have hsnp:QS HI (.agg [.f (.int .i64 z), .f (QD gs),rc])=some (aP PU):=by rw[hrp];exact Jd1 hol
    simp(maxSteps:=999999)(disch:=omega)only[go_sem,zA,zM,zS,zE,zL,k1,d3,k2]
    refine Qh.rdD (Zx PU hsm) (⟨_,Tryz.func7,rfl,rfl⟩:Jm Tryz.prog 7) rfl rfl (V3 hsnp) rfl ?_
    by_cases hpt:Qy PU=s
    · have d:=decide_eq_true hpt
      obtain⟨ha,hpu⟩:=href1 hok0'.1 hok0'.2 hpt
      rw[show Z1 s=true from decide_eq_true ha,←hpu]
      simp(maxSteps:=999999)(disch:=omega)only[go_sem,zA,zM,zS,zE,zL,d,k0,k2,hs0]
      have ho2:Zt eR 3 (HI.set 0 (some ⟨g0,3,[.f (.int .i64 z), .f (QD gs),rc]⟩)) rc (ws.map QA):=hol.same fun i h _=>by rw[Jj (by have:=hid i h;omega)]
      have v1:=ho2.frzC
      refine Q5 ?_
      generalize(HI.set 0 (some ⟨g0,3,[.f (.int .i64 z), .f (QD gs),rc]⟩):Ji)=HZ at v1
      have v2:∀x,frzC HZ (.f (.int .i64 x))=some (.f (.int .i64 x)):=fun x=>rfl
      have v3:∀x,frzC HZ (.f (.bool x))=some (.f (.bool x)):=fun x=>rfl
      have v4:frzC HZ (.f (QD gs))=some (.f (QD gs)):=rfl
      simp only[U7,Jz,Qa,Wf,v1,v2,v3,v4,hrp,Option.pure_def,Option.bind_eq_bind,Option.bind_some,Option.map_some]
    · have d:=decide_eq_false hpt
      obtain⟨f1,f2⟩:=hrefuse fun h=>hpt (href2 h).2.2
      rw[f1,f2]
      simp(maxSteps:=999999)(disch:=omega)only[go_sem,zA,zM,zS,zE,zL,d,k0,hs0]
      exact Q5 rfl
 · simp(maxSteps:=999999)(disch:=omega)only[go_sem,zA,zM,zS,zE,zL,hn0]
   first|refine Qh.mk (UR W (by omega)) (⟨_,Tryz.func29,rfl,rfl⟩:Jm Tryz.prog 29) rfl rfl rfl rfl rfl ?_|refine Qe.mk (UR W (by omega)) (⟨_,Tryz.func29,rfl,rfl⟩:Jm Tryz.prog 29) rfl rfl rfl rfl rfl ?_
   simp(maxSteps:=999999)(disch:=omega)only[go_sem,zA,zM,zS,zE,zL]
   intro g9
   obtain⟨z,gs,ok0,hz,hgs,hok0⟩:∃z gs ok0,(Qt W).2.1=z∧(Qt W).1=gs∧(Qt W).2.2=ok0:=⟨_,_,_,rfl,rfl,rfl⟩
   rw[hz,hgs]at hrp
   rw[hok0]at href1 href2
   rw[hz,hgs,hok0]
   refine Qj (fun(j:Nat) (b:Ji×CV×Bool)=>ws.length -j) (fun j b=>j≤ws.length∧b.2.2=(ok0&&(ws.take j).all Q6)∧look b.1 0 g0=some ⟨g0,3,[.f (.int .i64 0), .f .nil, .f .nil]⟩∧look b.1 1 g=some ⟨g,1,cl eS L⟩∧look b.1 2 g9=some ⟨g9,3,[.f (.int .i64 z), .f (QD gs),b.2.1]⟩∧Zt eR 3 b.1 b.2.1 ((ws.take j).map QA)∧∀i,Q1 b.2.1 i→3≤i)
    (fun j b=>[.k, .a, .k, .a, .k, .a, .a, .a, .p (bool b.2.2), .k, .p (int (j+1)), .a, .a, .a, .a, .a, .a, .a, .a, .a, .a, .a, .a, .a, .a, .a, .a, .a, .a, .a, .a, .a, .a, .a, .a, .a, .a, .a, .a, .a, .a, .a, .a, .a, .a, .a, .a, .a, .a, .a, .a, .a, .a, .a, .a, .a, .a, .a, .a, .a, .a, .a, .a, .a, .a, .a, .a, .a, .a, .a, .a, .a, .a, .a, .a, .a, .a, .a, .a, .a, .a, .a, .a, .a, .a, .a, .a, .a, .a, .a, .a, .a, .a, .a]) (fun _ b=>b.1) 0 ([some ⟨g0,3,[.f (.int .i64 0), .f .nil, .f .nil]⟩,some ⟨g,1,cl eS L⟩,some ⟨g9,3,[.f (.int .i64 z), .f (QD gs), .f .nil]⟩], .f .nil,ok0)
    ⟨Nat.zero_le _,by simp,by simp[look],by simp[look],by simp[look], .n,fun i h=>h.elim⟩ (by simp(maxSteps:=999999)(disch:=omega)only[go_sem,zA,zM,zS,zE,zL];rfl) (Qc.refl _) ?_
   rintro j ⟨HI,rc,ok⟩ ⟨hj,hok,k0,k1,k2,hol,hid⟩
   simp only at hok k0 k1 k2 hol hid⊢
   have hl0:0<HI.length:=(Ja.1 (Jw k0).1).1
   have hs0:∀cs,look (HI.set 0 (some ⟨g0,3,cs⟩)) 0 g0=some ⟨g0,3,cs⟩:=fun cs=>JK hl0
   by_cases hx2:j<ws.length∧ok=true
   · obtain⟨hjl,rfl⟩:=hx2
     have d3:decide ((j:Int)+1<(L.length:Int))=true:=decide_eq_true (by omega)
     have hwj':=hwj j hjl
     have hnj':=hnj j hjl
     have hlt2:2<HI.length:=(Ja.1 (Jw k2).1).1
     have hlt1:1<HI.length:=(Ja.1 (Jw k1).1).1
     simp(maxSteps:=999999)(disch:=omega)only[go_sem,zA,zM,zS,zE,zL,k1,d3,hnj']
     first|refine Qh.mk (Yv (UQ (JM ws j) (by omega))) (⟨_,Tryz.func30,rfl,rfl⟩:Jm Tryz.prog 30) rfl rfl rfl rfl rfl ?_|refine Qe.mk (Yv (UQ (JM ws j) (by omega))) (⟨_,Tryz.func30,rfl,rfl⟩:Jm Tryz.prog 30) rfl rfl rfl rfl rfl ?_
     simp(maxSteps:=999999)(disch:=omega)only[go_sem,zA,zM,zS,zE,zL]
     intro g11
     have a2:∀b,look (HI++[b]) 2 g9=some ⟨g9,3,[.f (.int .i64 z), .f (QD gs),rc]⟩:=fun b=>JR k2
     simp(maxSteps:=999999)(disch:=omega)only[go_sem,zA,zM,zS,zE,zL,JY,Up,a2]
     intro g12
     obtain⟨HC,hHC⟩:∃HC:Ji,HC=HI++[some ⟨g11,3,cR (QA (JM ws j))⟩]++[some ⟨g12,3,cR (QA (JM ws j))⟩]:=⟨_,rfl⟩
     have hCl:HC.length=HI.length+2:=by rw[hHC];simp
     have hCg:∀i,i<HI.length→HC[i]? =HI[i]? :=fun i hi=>by rw[hHC,Js,Jb hi]
     have c12:look HC (HI.length+1) g12=some ⟨g12,3,(eR (QA (JM ws j))).map CV.f⟩:=by
      rw[hHC]
      have:=JY (H:=HI++[some ⟨g11,3,cR (QA (JM ws j))⟩]) (g:=g12) (sz:=3) (cs:=cR (QA (JM ws j)))
      rw[Je,JW]at this
      exact this
     have hoC:Zt eR 3 HC rc ((ws.take j).map QA):=hol.same fun i _ hl=>hCg i hl
     rw[←hHC]
     clear hHC
     refine Xw (E:=eR) (n:=3) (v:=QA (JM ws j)) (JZ Rv rfl Rt) ⟨rfl,rfl,by decide,by decide⟩ hoC (by rw[JL,JA];omega) c12 ?_
     intro c' H' o' f' i' l' b'
     have hk:∀{i g:Nat} {b:ZG},i<3→i<HI.length→look HI i g=some b→look H' i g=some b:=fun h1 h2 h=>by
      unfold look at*
      rw[f' _ (by omega) (fun h3=>by have:=hid _ h3;omega),hCg _ h2];exact h
     have m0:=hk (by omega) hl0 k0
     have m1:=hk (by omega) hlt1 k1
     have m2:=hk (by omega) hlt2 k2
     have hs2:∀cs,look (H'.set 2 (some ⟨g9,3,cs⟩)) 2 g9=some ⟨g9,3,cs⟩:=fun cs=>JK (by omega)
     simp(maxSteps:=999999)(disch:=omega)only[go_sem,zA,zM,zS,zE,zL,m2]
     have hid':∀i,Q1 c' i→3≤i:=fun i h=>by
      rcases i' i h with h|h
      · exact hid i h
      · omega
     refine⟨j+1,(H'.set 2 (some ⟨g9,3,[.f (.int .i64 z), .f (QD gs),c']⟩),c',Q6 (JM ws j)),⟨⟨by omega, ?_, ?_, ?_,hs2 _, ?_,hid'⟩,by omega⟩,⟨rfl,by push_cast;rfl⟩,Qc.refl _⟩
     · rw[JX hjl,List.all_append,←Bool.and_assoc,←hok]
       simp
     · rw[J7 (by omega)];exact m0
     · rw[J7 (by omega)];exact m1
     · rw[JX hjl,J1]
       exact o'.same fun i h _=>by rw[Jj (by have:=hid' i h;omega)]
   have hrefuse:¬V0 s→ZF s=Y1∧Z1 s=false:=WY
   cases ok with
   |false=>
    have hna:¬V0 s:=fun h=>by
     obtain⟨q1,q2,_⟩:=href2 h
     have:(ws.take j).all Q6=true:=List.all_eq_true.2 fun w hw=>List.all_eq_true.1 q2 w (List.mem_of_mem_take hw)
     rw[q1,this]at hok
     cases hok
    obtain⟨f1,f2⟩:=hrefuse hna
    rw[f1,f2]
    simp(maxSteps:=999999)(disch:=omega)only[go_sem,zA,zM,zS,zE,zL,k1]
    ((with_reducible first|refine JU ?_ ?_|refine JJ ?_ ?_|refine J6 ?_ ?_|refine Jx ?_ ?_|refine JS ?_ ?_|refine JT ?_ ?_|refine JH ?_ ?_|refine JI ?_ ?_|refine J4 ?_ ?_|refine J5 ?_ ?_|refine JC ?_ ?_|refine JD ?_ ?_)<;>intro e3<;>simp(maxSteps:=999999)(disch:=omega)only[go_sem,zA,zM,zS,zE,zL,e3])
    · simp(maxSteps:=999999)(disch:=omega)only[go_sem,zA,zM,zS,zE,zL,k0,hs0,Bool.not_false,Bool.not_true]
      exact Q5 rfl
    · simp(maxSteps:=999999)(disch:=omega)only[go_sem,zA,zM,zS,zE,zL,k0,hs0,Bool.not_false,Bool.not_true]
      exact Q5 rfl
   |true=>
    have hjw:j=ws.length:=by
     have:¬j<ws.length:=fun h=>hx2 ⟨h,rfl⟩
     omega
    subst hjw
    rw[List.take_length]at hok hol
    have hok0':ok0=true∧ws.all Q6=true:=by
     have:=hok.symm
     simpa using this
    have d3:decide ((ws.length:Int)+1<(L.length:Int))=false:=decide_eq_false (by omega)
    have hgl:gs.length≤2^40:=by
     rw[←hgs]
     exact NX (hok0.trans hok0'.1)
    have hsm:BD PU:=by
     rw[hrp]
     refine⟨hgl,by show(ws.map QA).length≤_;rw[JL];omega,fun r hr=> ?_⟩
     obtain⟨w,_,rfl⟩:=Qs.1 hr
     exact Kc w
    have hsnp:QS HI (.agg [.f (.int .i64 z), .f (QD gs),rc])=some (aP PU):=by rw[hrp];exact Jd1 hol
    simp(maxSteps:=999999)(disch:=omega)only[go_sem,zA,zM,zS,zE,zL,k1,d3,k2]
    refine Qh.rdD (Zx PU hsm) (⟨_,Tryz.func7,rfl,rfl⟩:Jm Tryz.prog 7) rfl rfl (V3 hsnp) rfl ?_
    by_cases hpt:Qy PU=s
    · have d:=decide_eq_true hpt
      obtain⟨ha,hpu⟩:=href1 hok0'.1 hok0'.2 hpt
      rw[show Z1 s=true from decide_eq_true ha,←hpu]
      simp(maxSteps:=999999)(disch:=omega)only[go_sem,zA,zM,zS,zE,zL,d,k0,k2,hs0]
      have ho2:Zt eR 3 (HI.set 0 (some ⟨g0,3,[.f (.int .i64 z), .f (QD gs),rc]⟩)) rc (ws.map QA):=hol.same fun i h _=>by rw[Jj (by have:=hid i h;omega)]
      have v1:=ho2.frzC
      refine Q5 ?_
      generalize(HI.set 0 (some ⟨g0,3,[.f (.int .i64 z), .f (QD gs),rc]⟩):Ji)=HZ at v1
      have v2:∀x,frzC HZ (.f (.int .i64 x))=some (.f (.int .i64 x)):=fun x=>rfl
      have v3:∀x,frzC HZ (.f (.bool x))=some (.f (.bool x)):=fun x=>rfl
      have v4:frzC HZ (.f (QD gs))=some (.f (QD gs)):=rfl
      simp only[U7,Jz,Qa,Wf,v1,v2,v3,v4,hrp,Option.pure_def,Option.bind_eq_bind,Option.bind_some,Option.map_some]
    · have d:=decide_eq_false hpt
      obtain⟨f1,f2⟩:=hrefuse fun h=>hpt (href2 h).2.2
      rw[f1,f2]
      simp(maxSteps:=999999)(disch:=omega)only[go_sem,zA,zM,zS,zE,zL,d,k0,hs0]
      exact Q5 rfl
end Go.Lg

namespace Go.Lg
open Go.Proofs
section
variable{P:Program}{o:Oper}{st:St}{K:KV}{fo:Operand}{xs:Array Operand}{ts:Array TypeId}{f:FuncId}{args:List AV}{q:Zk}{b:Bool}
end
theorem Vj{P:Program}{f:FuncId}{args:List AV}{p:Zk}{b:Bool}(h:Jq P f args [] (JaM p b)):Qd P f args (.tup [aP p,bool b]):=
 Qd.ice h fun v H ⟨cs,S,e,o⟩=>by
  subst e
  obtain⟨c1,c2,S1,S2,rfl,_,h1,h2⟩:=o.ex
  have e:∀x,frzC H (.f (.int .i64 x))=some (.f (.int .i64 x)):=fun x=>rfl
  have e2:∀x,frzC H (.f (.bool x))=some (.f (.bool x)):=fun x=>rfl
  simp only[U7,Jz,Qa,Wf,h1.frzC,h2.frzC,e,e2,Option.pure_def,Option.bind_eq_bind,Option.bind_some,Option.map_some]
theorem JdQ:∀(rs:List Q2),(∀r∈rs,r.cells.length≤4)→wM rs≤6*rs.length
 |[],_=>by simp[wM]
 |r::rs,h=>by
  have h1:=h r (by simp)
  have h2:=JdQ rs fun x hx=>h x (by simp[hx])
  unfold wM at h2⊢
  simp only[Qf,UV,Jf]
  omega
theorem Jee(s:List UInt8):BD (ZF s)∧wMP (ZF s)≤2^20:=by
 by_cases ha:V0 s
 · obtain⟨hv,_⟩:=Kd (decide_eq_true ha:Z1 s=true)
   obtain⟨_,h2,h3⟩:=Vk hv
   have h1:=Xn hv
   have h4:∀r∈(ZF s).rules,r.cells.length≤4:=fun r hr=>(Wn (h3 r hr)).2
   have h5:=JdQ _ h4
   refine⟨⟨by omega,by omega,fun r hr=>by have:=h4 r hr;omega⟩, ?_⟩
   unfold wMP
   omega
 · rw[(WY ha).1]
   exact⟨⟨by decide,by decide,fun r hr=>by cases hr⟩,by decide⟩
end Go.Lg
