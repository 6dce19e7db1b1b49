/- GpWH, cut to what is needed. -/
import Derived.Test.YtiahmfdabpafoaaDoorIac7
open Nat renaming reduceAdd→zA,reduceMul→zM,reduceSub→zS,reduceEqDiff→zE,reduceLeDiff→zL
set_option linter.unusedSimpArgs false
set_option linter.unusedVariables false
set_option maxRecDepth 100000
namespace Go.Lg
open Go.Proofs
attribute [-go_sem] appendM
theorem take_snoc{s:List UInt8}{k:Nat}(h:k<s.length):s.take (k+1)=s.take k++[s.getD k 0]:=by
 rw[List.take_add_one,List.getElem?_eq_getElem h,List.getD_eq_getElem?_getD,List.getElem?_eq_getElem h]
 rfl
theorem last_set{α:Type}[Inhabited α]{xs:List α}(h:xs≠[])(y d:α):xs.set (xs.length -1) y=xs.dropLast++[y]∧nth xs ((xs.length:Int) -1)=xs.getLastD d:=by
 have hp:0<xs.length:=List.length_pos_iff.2 h
 refine⟨?_, ?_⟩
 · apply List.ext_getElem
   · simp;omega
   · intro i h1 h2
     rw[List.getElem_set]
     split
     · rename_i h3
       subst h3
       rw[List.getElem_append_right (by simp)]
       simp
     · rename_i h3
       rw[List.length_set]at h1
       rw[List.getElem_append_left (by simp;omega),List.getElem_dropLast]
 · rw[nth_eq (by omega)]
   have:((xs.length:Int) -1).toNat=xs.length -1:=by omega
   simp only[this]
   rw[List.getLastD_eq_getLast?,List.getLast?_eq_getElem?,List.getElem?_eq_getElem (by omega)]
   rfl
theorem grid_len{t:List UInt8}(h:(rdGrid t).2.2=true):(rdGrid t).1.length≤2^40:=by
 have h3:=(rd_yes h).2.2
 have hl:=congrArg List.length h3
 have hv:gridValid (cellsIn t) (chr t 0 -48)=true:=by
  cases hv:gridValid (cellsIn t) (chr t 0 -48)with
  |true=>rfl
  |false=>
   have h2:=(rd_yes h).1
   have:gridText (cellsIn t) (chr t 0 -48)=[]:=by simp[gridText,hv]
   rw[this]at hl
   simp at hl
   omega
 have:=(gridValid_bound hv).2.2.2.1
 rw[(rd_yes h).2.1]
 show(cellsIn t).length≤_
 omega
set_option maxHeartbeats 4000000 in
theorem sReadPuzzle_run(s:List UInt8)(hs:s.length≤2^30):Reads Tryd.prog 13 [txt s] (.tup [aP (readP s),bool (readPB s)]):=by
 have hCb:∀e:Int,0≤chr s e∧chr s e≤255:=chr_bound s
 refine Reads.iced ?_
 refine RunCall.cw (c:=_) Tryd.func13 rfl (n:=94) Tryd.ntmps13 (rs:=[.cell 2 32, .tmp 3]) rfl ?_
 simp only[List.length_cons,List.length_nil,zA,zS,List.replicate,List.cons_append,List.nil_append]
 simp(maxSteps:=999999)(disch:=omega)only[go_sem,zA,zM,zS,zE,zL]
 intro g0 g1
 refine loop_rule2 (fun(k g:Nat)=>s.length -k) (fun k g=>k≤s.length) (fun k g=>[.k, .a, .k, .a, .p (.c (.own 1 g 0 (splitL (s.take k)).length none)), .p (int k), .a, .a, .a, .a, .a, .a, .a, .a, .a, .a, .a, .a, .a, .a, .a, .a, .a, .a, .a, .a, .a, .a, .a, .a, .a, .a, .a, .a, .a, .a, .a, .a, .a, .a, .a, .a, .a, .a, .a, .a, .a, .a, .a, .a, .a, .a, .a, .a, .a, .a, .a, .a, .a, .a, .a, .a, .a, .a, .a, .a, .a, .a, .a, .a, .a, .a, .a, .a, .a, .a, .a, .a, .a, .a, .a, .a, .a, .a, .a, .a, .a, .a, .a, .a, .a, .a, .a, .a]) (fun k g=>[some ⟨g0,3,[.f (.int .i64 0), .f .nil, .f .nil]⟩,some ⟨g,1,cl eS (splitL (s.take k))⟩]) 0 g1
  (Nat.zero_le _) (by simp(maxSteps:=999999)(disch:=omega)only[go_sem,zA,zM,zS,zE,zL];exact⟨rfl,rfl⟩) (HLe.refl _) ?_
 rintro k g hk
 have hne:=split_ne (s.take k)
 have hSl:=split_len (s.take k)
 have hwl:∀w∈splitL (s.take k),w.length≤s.length:=fun w h=>Nat.le_trans (word_len h) (by rw[List.length_take];omega)
 have hsn:=split_snoc (s.take k) (s.getD k 0)
 rw[List.length_take]at hSl
 simp(maxSteps:=999999)(disch:=omega)only[go_sem,zA,zM,zS,zE,zL]
 by_cases hx:k<s.length∧(splitL (s.take k)).length≤22
 · have hsk:=take_snoc hx.1
   rw[←hsk]at hsn
   generalize hL:splitL (s.take k)=L at hne hSl hwl hsn hx⊢
   have d1:decide ((k:Int)<s.length)=true:=decide_eq_true (by omega)
   have d2:decide ((L.length:Int)≤22)=true:=decide_eq_true (by omega)
   have hck:=hCb k
   have hcb:chr s k=((s.getD k 0).toNat:Int):=rfl
   simp(maxSteps:=999999)(disch:=omega)only[go_sem,zA,zM,zS,zE,zL,d1,d2]
   have hpos:0<L.length:=List.length_pos_iff.2 hne
   ((first|(with_reducible first|refine condK_dec ?_ ?_|refine condK_ndec ?_ ?_|refine condK_nb ?_ ?_)|refine condK_b ?_ ?_)<;>intro c1)
   · have hb:s.getD k 0=32:=UInt8.toNat_inj.1 (by show _=32;omega)
     rw[if_pos hb]at hsn
     simp(maxSteps:=999999)(disch:=omega)only[go_sem,zA,zM,zS,zE,zL]
     intro g3
     simp(maxSteps:=999999)(disch:=omega)only[go_sem,zA,zM,zS,zE,zL,appendM]
     intro g4
     exact⟨k+1,g4,⟨by omega,by omega⟩,⟨⟨rfl,by rw[hsn];simp⟩,by push_cast;rfl⟩,by rw[hsn];exact hle_self _ _ _ (hle_self _ _ _ (hle_nil _))⟩
   · have hb:¬s.getD k 0=32:=fun h=>c1 (by rw[hcb,h];rfl)
     rw[if_neg hb]at hsn
     obtain⟨q1,q2⟩:=last_set hne (L.getLastD []++[s.getD k 0]) []
     have hsub:sub s k ((k:Int)+1)=[s.getD k 0]:=by
      unfold sub
      have e1:((k:Int)+1).toNat -(k:Int).toNat=1:=by omega
      rw[e1,Int.toNat_natCast,List.drop_eq_getElem_cons hx.1,List.take_succ_cons,List.take_zero,List.getD_eq_getElem?_getD,List.getElem?_eq_getElem hx.1]
      rfl
     have hlw:(L.getLastD []).length≤s.length:=by
      rw[←q2,nth_eq (by omega)]
      exact hwl _ (List.getElem_mem _)
     simp(maxSteps:=999999)(disch:=omega)only[go_sem,zA,zM,zS,zE,zL]
     refine drawP_lF [0,1,2,3,4,5,6,7,8,9,10,11,12,13,14,15] [] none [16,17] [] foll (by kernel_rfl) ?_
     simp(maxSteps:=999999)(disch:=omega)only[go_sem,Nat.reduceBEq,Bool.true_or,zA,zM,zS,zE,zL]
     simp(maxSteps:=999999)(disch:=omega)only[go_sem,zA,zM,zS,zE,zL,q2,hsub]
     rw[show((L.length:Int) -1).toNat=L.length -1 by omega,q1]
     exact⟨k+1,g,⟨by omega,by omega⟩,⟨⟨rfl,by rw[hsn];simp;omega⟩,by push_cast;rfl⟩,by rw[hsn];exact HLe.refl _⟩
 have hK:splitK s k:=⟨hk,fun h=>by
  have:¬(splitL (s.take k)).length≤22:=fun h2=>hx ⟨h,h2⟩
  omega⟩
 have href1:=fun h1 h2 h3=>ref_read (s:=s) (k:=k) hK h1 h2 h3
 have href2:accP s→(rdGrid (wHd (s.take k))).2.2=true∧(wTl (s.take k)).all readRB=true∧puzzleT (rdP (s.take k))=s:=fun ha=>by
  have e:=ref_read' hK ha
  rw[e]
  exact⟨ha.1,ha.2.2.1,acc_text ha⟩
 have hrp:rdP (s.take k)=⟨(rdGrid (wHd (s.take k))).2.1,(rdGrid (wHd (s.take k))).1,(wTl (s.take k)).map readR⟩:=rfl
 have hwe:=w_eq (s.take k)
 generalize rdP (s.take k)=PU at href1 href2 hrp
 generalize wHd (s.take k)=W at href1 href2 hrp hwe
 generalize wTl (s.take k)=ws at href1 href2 hrp hwe
 generalize splitL (s.take k)=L at hne hSl hwl hwe hx⊢
 have hLl:L.length=ws.length+1:=by rw[hwe];rfl
 have hn0:nth L 0=W:=by rw[hwe];rfl
 have hnj:∀j:Nat,j<ws.length→nth L ((j:Int)+1)=nth ws j:=fun j hj=>by
  rw[hwe,nth_eq (by simp;omega),nth_eq (by omega)]
  have:((j:Int)+1).toNat=j+1:=by omega
  simp only[this,List.getElem_cons_succ,Int.toNat_natCast]
 have hWl:W.length≤s.length:=hwl W (by rw[hwe];simp)
 have hwj:∀j:Nat,j<ws.length→(nth ws j).length≤s.length:=fun j hj=>hwl _ (by
  rw[hwe,nth_eq (by omega)]
  exact List.mem_cons_of_mem _ (List.getElem_mem _))
 ((with_reducible first|refine guardK_dec ?_ ?_|refine guardK_ndec ?_ ?_|refine guardK_nb ?_ ?_|refine guardK_split ?_ ?_|refine guardQ_dec ?_ ?_|refine guardL_dec ?_ ?_|refine guardQ_ndec ?_ ?_|refine guardL_ndec ?_ ?_|refine guardQ_nb ?_ ?_|refine guardL_nb ?_ ?_|refine guardQ_split ?_ ?_|refine guardL_split ?_ ?_)<;>intro e1<;>simp(maxSteps:=999999)(disch:=omega)only[go_sem,zA,zM,zS,zE,zL,e1])
 · ((first|(with_reducible first|refine condK_dec ?_ ?_|refine condK_ndec ?_ ?_|refine condK_nb ?_ ?_)|refine condK_b ?_ ?_)<;>intro e2)
   · exfalso;exact hx ⟨by omega,by omega⟩
   simp(maxSteps:=999999)(disch:=omega)only[go_sem,zA,zM,zS,zE,zL,hn0]
   first|refine OpS.mk (sReadGrid_run W (by omega)) (⟨_,Tryd.func37,rfl,rfl⟩:Enters Tryd.prog 37) rfl rfl rfl rfl rfl ?_|refine Loud.mk (sReadGrid_run W (by omega)) (⟨_,Tryd.func37,rfl,rfl⟩:Enters Tryd.prog 37) rfl rfl rfl rfl rfl ?_
   simp(maxSteps:=999999)(disch:=omega)only[go_sem,zA,zM,zS,zE,zL]
   intro g9
   obtain⟨z,gs,ok0,hz,hgs,hok0⟩:∃z gs ok0,(rdGrid W).2.1=z∧(rdGrid W).1=gs∧(rdGrid W).2.2=ok0:=⟨_,_,_,rfl,rfl,rfl⟩
   rw[hz,hgs]at hrp
   rw[hok0]at href1 href2
   rw[hz,hgs,hok0]
   refine loop_rule2 (fun(j:Nat) (b:Heap×CV×Bool)=>ws.length -j) (fun j b=>j≤ws.length∧b.2.2=(ok0&&(ws.take j).all readRB)∧look b.1 0 g0=some ⟨g0,3,[.f (.int .i64 0), .f .nil, .f .nil]⟩∧look b.1 1 g=some ⟨g,1,cl eS L⟩∧look b.1 2 g9=some ⟨g9,3,[.f (.int .i64 z), .f (fints gs),b.2.1]⟩∧OwnL eR 3 b.1 b.2.1 ((ws.take j).map readR)∧∀i,idsC b.2.1 i→3≤i)
    (fun j b=>[.k, .a, .k, .a, .k, .a, .a, .a, .p (bool b.2.2), .k, .p (int (j+1)), .a, .a, .a, .a, .a, .a, .a, .a, .a, .a, .a, .a, .a, .a, .a, .a, .a, .a, .a, .a, .a, .a, .a, .a, .a, .a, .a, .a, .a, .a, .a, .a, .a, .a, .a, .a, .a, .a, .a, .a, .a, .a, .a, .a, .a, .a, .a, .a, .a, .a, .a, .a, .a, .a, .a, .a, .a, .a, .a, .a, .a, .a, .a, .a, .a, .a, .a, .a, .a, .a, .a, .a, .a, .a, .a, .a, .a, .a, .a, .a, .a, .a, .a]) (fun _ b=>b.1) 0 ([some ⟨g0,3,[.f (.int .i64 0), .f .nil, .f .nil]⟩,some ⟨g,1,cl eS L⟩,some ⟨g9,3,[.f (.int .i64 z), .f (fints gs), .f .nil]⟩], .f .nil,ok0)
    ⟨Nat.zero_le _,by simp,by simp[look],by simp[look],by simp[look], .n,fun i h=>h.elim⟩ (by simp(maxSteps:=999999)(disch:=omega)only[go_sem,zA,zM,zS,zE,zL];rfl) (HLe.refl _) ?_
   rintro j ⟨HI,rc,ok⟩ ⟨hj,hok,k0,k1,k2,hol,hid⟩
   simp only at hok k0 k1 k2 hol hid⊢
   have hl0:0<HI.length:=(List.getElem?_eq_some_iff.1 (look_some k0).1).1
   have hs0:∀cs,look (HI.set 0 (some ⟨g0,3,cs⟩)) 0 g0=some ⟨g0,3,cs⟩:=fun cs=>look_set_eq' hl0
   by_cases hx2:j<ws.length∧ok=true
   · obtain⟨hjl,rfl⟩:=hx2
     have d3:decide ((j:Int)+1<(L.length:Int))=true:=decide_eq_true (by omega)
     have hwj':=hwj j hjl
     have hnj':=hnj j hjl
     have hlt2:2<HI.length:=(List.getElem?_eq_some_iff.1 (look_some k2).1).1
     have hlt1:1<HI.length:=(List.getElem?_eq_some_iff.1 (look_some k1).1).1
     simp(maxSteps:=999999)(disch:=omega)only[go_sem,zA,zM,zS,zE,zL,k1,d3,hnj']
     first|refine OpS.mk (readQ_rd (sReadRule_run (nth ws j) (by omega))) (⟨_,Tryd.func8,rfl,rfl⟩:Enters Tryd.prog 8) rfl rfl rfl rfl rfl ?_|refine Loud.mk (readQ_rd (sReadRule_run (nth ws j) (by omega))) (⟨_,Tryd.func8,rfl,rfl⟩:Enters Tryd.prog 8) rfl rfl rfl rfl rfl ?_
     simp(maxSteps:=999999)(disch:=omega)only[go_sem,zA,zM,zS,zE,zL]
     intro g11
     have a2:∀b,look (HI++[b]) 2 g9=some ⟨g9,3,[.f (.int .i64 z), .f (fints gs),rc]⟩:=fun b=>look_appL k2
     simp(maxSteps:=999999)(disch:=omega)only[go_sem,zA,zM,zS,zE,zL,look_last,set_last,a2]
     intro g12
     obtain⟨HC,hHC⟩:∃HC:Heap,HC=HI++[some ⟨g11,3,cR (readR (nth ws j))⟩]++[some ⟨g12,3,cR (readR (nth ws j))⟩]:=⟨_,rfl⟩
     have hCl:HC.length=HI.length+2:=by rw[hHC];simp
     have hCg:∀i,i<HI.length→HC[i]? =HI[i]? :=fun i hi=>by rw[hHC,List.append_assoc,List.getElem?_append_left hi]
     have c12:look HC (HI.length+1) g12=some ⟨g12,3,(eR (readR (nth ws j))).map CV.f⟩:=by
      rw[hHC]
      have:=look_last (H:=HI++[some ⟨g11,3,cR (readR (nth ws j))⟩]) (g:=g12) (sz:=3) (cs:=cR (readR (nth ws j)))
      rw[List.length_append,List.length_singleton]at this
      exact this
     have hoC:OwnL eR 3 HC rc ((ws.take j).map readR):=hol.same fun i _ hl=>hCg i hl
     rw[←hHC]
     clear hHC
     refine appendM_L (E:=eR) (n:=3) (v:=readR (nth ws j)) (sliceOf_of' ti30 rfl ti24) ⟨rfl,rfl,by decide,by decide⟩ hoC (by rw[List.length_map,List.length_take];omega) c12 ?_
     intro c' H' o' f' i' l' b'
     have hk:∀{i g:Nat} {b:Blk},i<3→i<HI.length→look HI i g=some b→look H' i g=some b:=fun h1 h2 h=>by
      unfold look at*
      rw[f' _ (by omega) (fun h3=>by have:=hid _ h3;omega),hCg _ h2];exact h
     have m0:=hk (by omega) hl0 k0
     have m1:=hk (by omega) hlt1 k1
     have m2:=hk (by omega) hlt2 k2
     have hs2:∀cs,look (H'.set 2 (some ⟨g9,3,cs⟩)) 2 g9=some ⟨g9,3,cs⟩:=fun cs=>look_set_eq' (by omega)
     simp(maxSteps:=999999)(disch:=omega)only[go_sem,zA,zM,zS,zE,zL,m2]
     have hid':∀i,idsC c' i→3≤i:=fun i h=>by
      rcases i' i h with h|h
      · exact hid i h
      · omega
     refine⟨j+1,(H'.set 2 (some ⟨g9,3,[.f (.int .i64 z), .f (fints gs),c']⟩),c',readRB (nth ws j)),⟨⟨by omega, ?_, ?_, ?_,hs2 _, ?_,hid'⟩,by omega⟩,⟨rfl,by push_cast;rfl⟩,HLe.refl _⟩
     · rw[take_succ_nth hjl,List.all_append,←Bool.and_assoc,←hok]
       simp
     · rw[look_set_ne' (by omega)];exact m0
     · rw[look_set_ne' (by omega)];exact m1
     · rw[take_succ_nth hjl,List.map_append]
       exact o'.same fun i h _=>by rw[List.getElem?_set_ne (by have:=hid' i h;omega)]
   have hrefuse:¬accP s→readP s=zeroP0∧readPB s=false:=readP_no
   cases ok with
   |false=>
    have hna:¬accP s:=fun h=>by
     obtain⟨q1,q2,_⟩:=href2 h
     have:(ws.take j).all readRB=true:=List.all_eq_true.2 fun w hw=>List.all_eq_true.1 q2 w (List.mem_of_mem_take hw)
     rw[q1,this]at hok
     cases hok
    obtain⟨f1,f2⟩:=hrefuse hna
    rw[f1,f2]
    simp(maxSteps:=999999)(disch:=omega)only[go_sem,zA,zM,zS,zE,zL,k1]
    ((with_reducible first|refine guardK_dec ?_ ?_|refine guardK_ndec ?_ ?_|refine guardK_nb ?_ ?_|refine guardK_split ?_ ?_|refine guardQ_dec ?_ ?_|refine guardL_dec ?_ ?_|refine guardQ_ndec ?_ ?_|refine guardL_ndec ?_ ?_|refine guardQ_nb ?_ ?_|refine guardL_nb ?_ ?_|refine guardQ_split ?_ ?_|refine guardL_split ?_ ?_)<;>intro e3<;>simp(maxSteps:=999999)(disch:=omega)only[go_sem,zA,zM,zS,zE,zL,e3])
    · simp(maxSteps:=999999)(disch:=omega)only[go_sem,zA,zM,zS,zE,zL,k0,hs0,Bool.not_false,Bool.not_true]
      exact lessQ_ice rfl
    · simp(maxSteps:=999999)(disch:=omega)only[go_sem,zA,zM,zS,zE,zL,k0,hs0,Bool.not_false,Bool.not_true]
      exact lessQ_ice rfl
   |true=>
    have hjw:j=ws.length:=by
     have:¬j<ws.length:=fun h=>hx2 ⟨h,rfl⟩
     omega
    subst hjw
    rw[List.take_length]at hok hol
    have hok0':ok0=true∧ws.all readRB=true:=by
     have:=hok.symm
     simpa using this
    have d3:decide ((ws.length:Int)+1<(L.length:Int))=false:=decide_eq_false (by omega)
    have hgl:gs.length≤2^40:=by
     rw[←hgs]
     exact grid_len (hok0.trans hok0'.1)
    have hsm:smP PU:=by
     rw[hrp]
     refine⟨hgl,by show(ws.map readR).length≤_;rw[List.length_map];omega,fun r hr=> ?_⟩
     obtain⟨w,_,rfl⟩:=List.mem_map.1 hr
     exact readR_len w
    have hsnp:snapD HI (.agg [.f (.int .i64 z), .f (fints gs),rc])=some (aP PU):=by rw[hrp];exact snapPo hol
    simp(maxSteps:=999999)(disch:=omega)only[go_sem,zA,zM,zS,zE,zL,k1,d3,k2]
    refine OpS.rdD (sPuzzleText_run PU hsm) (⟨_,Tryd.func27,rfl,rfl⟩:Enters Tryd.prog 27) rfl rfl (snap_one hsnp) rfl ?_
    by_cases hpt:puzzleT PU=s
    · have d:=decide_eq_true hpt
      obtain⟨ha,hpu⟩:=href1 hok0'.1 hok0'.2 hpt
      rw[show readPB s=true from decide_eq_true ha,←hpu]
      simp(maxSteps:=999999)(disch:=omega)only[go_sem,zA,zM,zS,zE,zL,d,k0,k2,hs0]
      have ho2:OwnL eR 3 (HI.set 0 (some ⟨g0,3,[.f (.int .i64 z), .f (fints gs),rc]⟩)) rc (ws.map readR):=hol.same fun i h _=>by rw[List.getElem?_set_ne (by have:=hid i h;omega)]
      have v1:=ho2.frzC
      refine lessQ_ice ?_
      generalize(HI.set 0 (some ⟨g0,3,[.f (.int .i64 z), .f (fints gs),rc]⟩):Heap)=HZ at v1
      have v2:∀x,frzC HZ (.f (.int .i64 x))=some (.f (.int .i64 x)):=fun x=>rfl
      have v3:∀x,frzC HZ (.f (.bool x))=some (.f (.bool x)):=fun x=>rfl
      have v4:frzC HZ (.f (fints gs))=some (.f (fints gs)):=rfl
      simp only[frzA,List.mapM_cons,List.mapM_nil,frz1,v1,v2,v3,v4,hrp,Option.pure_def,Option.bind_eq_bind,Option.bind_some,Option.map_some]
    · have d:=decide_eq_false hpt
      obtain⟨f1,f2⟩:=hrefuse fun h=>hpt (href2 h).2.2
      rw[f1,f2]
      simp(maxSteps:=999999)(disch:=omega)only[go_sem,zA,zM,zS,zE,zL,d,k0,hs0]
      exact lessQ_ice rfl
 · simp(maxSteps:=999999)(disch:=omega)only[go_sem,zA,zM,zS,zE,zL,hn0]
   first|refine OpS.mk (sReadGrid_run W (by omega)) (⟨_,Tryd.func37,rfl,rfl⟩:Enters Tryd.prog 37) rfl rfl rfl rfl rfl ?_|refine Loud.mk (sReadGrid_run W (by omega)) (⟨_,Tryd.func37,rfl,rfl⟩:Enters Tryd.prog 37) rfl rfl rfl rfl rfl ?_
   simp(maxSteps:=999999)(disch:=omega)only[go_sem,zA,zM,zS,zE,zL]
   intro g9
   obtain⟨z,gs,ok0,hz,hgs,hok0⟩:∃z gs ok0,(rdGrid W).2.1=z∧(rdGrid W).1=gs∧(rdGrid W).2.2=ok0:=⟨_,_,_,rfl,rfl,rfl⟩
   rw[hz,hgs]at hrp
   rw[hok0]at href1 href2
   rw[hz,hgs,hok0]
   refine loop_rule2 (fun(j:Nat) (b:Heap×CV×Bool)=>ws.length -j) (fun j b=>j≤ws.length∧b.2.2=(ok0&&(ws.take j).all readRB)∧look b.1 0 g0=some ⟨g0,3,[.f (.int .i64 0), .f .nil, .f .nil]⟩∧look b.1 1 g=some ⟨g,1,cl eS L⟩∧look b.1 2 g9=some ⟨g9,3,[.f (.int .i64 z), .f (fints gs),b.2.1]⟩∧OwnL eR 3 b.1 b.2.1 ((ws.take j).map readR)∧∀i,idsC b.2.1 i→3≤i)
    (fun j b=>[.k, .a, .k, .a, .k, .a, .a, .a, .p (bool b.2.2), .k, .p (int (j+1)), .a, .a, .a, .a, .a, .a, .a, .a, .a, .a, .a, .a, .a, .a, .a, .a, .a, .a, .a, .a, .a, .a, .a, .a, .a, .a, .a, .a, .a, .a, .a, .a, .a, .a, .a, .a, .a, .a, .a, .a, .a, .a, .a, .a, .a, .a, .a, .a, .a, .a, .a, .a, .a, .a, .a, .a, .a, .a, .a, .a, .a, .a, .a, .a, .a, .a, .a, .a, .a, .a, .a, .a, .a, .a, .a, .a, .a, .a, .a, .a, .a, .a, .a]) (fun _ b=>b.1) 0 ([some ⟨g0,3,[.f (.int .i64 0), .f .nil, .f .nil]⟩,some ⟨g,1,cl eS L⟩,some ⟨g9,3,[.f (.int .i64 z), .f (fints gs), .f .nil]⟩], .f .nil,ok0)
    ⟨Nat.zero_le _,by simp,by simp[look],by simp[look],by simp[look], .n,fun i h=>h.elim⟩ (by simp(maxSteps:=999999)(disch:=omega)only[go_sem,zA,zM,zS,zE,zL];rfl) (HLe.refl _) ?_
   rintro j ⟨HI,rc,ok⟩ ⟨hj,hok,k0,k1,k2,hol,hid⟩
   simp only at hok k0 k1 k2 hol hid⊢
   have hl0:0<HI.length:=(List.getElem?_eq_some_iff.1 (look_some k0).1).1
   have hs0:∀cs,look (HI.set 0 (some ⟨g0,3,cs⟩)) 0 g0=some ⟨g0,3,cs⟩:=fun cs=>look_set_eq' hl0
   by_cases hx2:j<ws.length∧ok=true
   · obtain⟨hjl,rfl⟩:=hx2
     have d3:decide ((j:Int)+1<(L.length:Int))=true:=decide_eq_true (by omega)
     have hwj':=hwj j hjl
     have hnj':=hnj j hjl
     have hlt2:2<HI.length:=(List.getElem?_eq_some_iff.1 (look_some k2).1).1
     have hlt1:1<HI.length:=(List.getElem?_eq_some_iff.1 (look_some k1).1).1
     simp(maxSteps:=999999)(disch:=omega)only[go_sem,zA,zM,zS,zE,zL,k1,d3,hnj']
     first|refine OpS.mk (readQ_rd (sReadRule_run (nth ws j) (by omega))) (⟨_,Tryd.func8,rfl,rfl⟩:Enters Tryd.prog 8) rfl rfl rfl rfl rfl ?_|refine Loud.mk (readQ_rd (sReadRule_run (nth ws j) (by omega))) (⟨_,Tryd.func8,rfl,rfl⟩:Enters Tryd.prog 8) rfl rfl rfl rfl rfl ?_
     simp(maxSteps:=999999)(disch:=omega)only[go_sem,zA,zM,zS,zE,zL]
     intro g11
     have a2:∀b,look (HI++[b]) 2 g9=some ⟨g9,3,[.f (.int .i64 z), .f (fints gs),rc]⟩:=fun b=>look_appL k2
     simp(maxSteps:=999999)(disch:=omega)only[go_sem,zA,zM,zS,zE,zL,look_last,set_last,a2]
     intro g12
     obtain⟨HC,hHC⟩:∃HC:Heap,HC=HI++[some ⟨g11,3,cR (readR (nth ws j))⟩]++[some ⟨g12,3,cR (readR (nth ws j))⟩]:=⟨_,rfl⟩
     have hCl:HC.length=HI.length+2:=by rw[hHC];simp
     have hCg:∀i,i<HI.length→HC[i]? =HI[i]? :=fun i hi=>by rw[hHC,List.append_assoc,List.getElem?_append_left hi]
     have c12:look HC (HI.length+1) g12=some ⟨g12,3,(eR (readR (nth ws j))).map CV.f⟩:=by
      rw[hHC]
      have:=look_last (H:=HI++[some ⟨g11,3,cR (readR (nth ws j))⟩]) (g:=g12) (sz:=3) (cs:=cR (readR (nth ws j)))
      rw[List.length_append,List.length_singleton]at this
      exact this
     have hoC:OwnL eR 3 HC rc ((ws.take j).map readR):=hol.same fun i _ hl=>hCg i hl
     rw[←hHC]
     clear hHC
     refine appendM_L (E:=eR) (n:=3) (v:=readR (nth ws j)) (sliceOf_of' ti30 rfl ti24) ⟨rfl,rfl,by decide,by decide⟩ hoC (by rw[List.length_map,List.length_take];omega) c12 ?_
     intro c' H' o' f' i' l' b'
     have hk:∀{i g:Nat} {b:Blk},i<3→i<HI.length→look HI i g=some b→look H' i g=some b:=fun h1 h2 h=>by
      unfold look at*
      rw[f' _ (by omega) (fun h3=>by have:=hid _ h3;omega),hCg _ h2];exact h
     have m0:=hk (by omega) hl0 k0
     have m1:=hk (by omega) hlt1 k1
     have m2:=hk (by omega) hlt2 k2
     have hs2:∀cs,look (H'.set 2 (some ⟨g9,3,cs⟩)) 2 g9=some ⟨g9,3,cs⟩:=fun cs=>look_set_eq' (by omega)
     simp(maxSteps:=999999)(disch:=omega)only[go_sem,zA,zM,zS,zE,zL,m2]
     have hid':∀i,idsC c' i→3≤i:=fun i h=>by
      rcases i' i h with h|h
      · exact hid i h
      · omega
     refine⟨j+1,(H'.set 2 (some ⟨g9,3,[.f (.int .i64 z), .f (fints gs),c']⟩),c',readRB (nth ws j)),⟨⟨by omega, ?_, ?_, ?_,hs2 _, ?_,hid'⟩,by omega⟩,⟨rfl,by push_cast;rfl⟩,HLe.refl _⟩
     · rw[take_succ_nth hjl,List.all_append,←Bool.and_assoc,←hok]
       simp
     · rw[look_set_ne' (by omega)];exact m0
     · rw[look_set_ne' (by omega)];exact m1
     · rw[take_succ_nth hjl,List.map_append]
       exact o'.same fun i h _=>by rw[List.getElem?_set_ne (by have:=hid' i h;omega)]
   have hrefuse:¬accP s→readP s=zeroP0∧readPB s=false:=readP_no
   cases ok with
   |false=>
    have hna:¬accP s:=fun h=>by
     obtain⟨q1,q2,_⟩:=href2 h
     have:(ws.take j).all readRB=true:=List.all_eq_true.2 fun w hw=>List.all_eq_true.1 q2 w (List.mem_of_mem_take hw)
     rw[q1,this]at hok
     cases hok
    obtain⟨f1,f2⟩:=hrefuse hna
    rw[f1,f2]
    simp(maxSteps:=999999)(disch:=omega)only[go_sem,zA,zM,zS,zE,zL,k1]
    ((with_reducible first|refine guardK_dec ?_ ?_|refine guardK_ndec ?_ ?_|refine guardK_nb ?_ ?_|refine guardK_split ?_ ?_|refine guardQ_dec ?_ ?_|refine guardL_dec ?_ ?_|refine guardQ_ndec ?_ ?_|refine guardL_ndec ?_ ?_|refine guardQ_nb ?_ ?_|refine guardL_nb ?_ ?_|refine guardQ_split ?_ ?_|refine guardL_split ?_ ?_)<;>intro e3<;>simp(maxSteps:=999999)(disch:=omega)only[go_sem,zA,zM,zS,zE,zL,e3])
    · simp(maxSteps:=999999)(disch:=omega)only[go_sem,zA,zM,zS,zE,zL,k0,hs0,Bool.not_false,Bool.not_true]
      exact lessQ_ice rfl
    · simp(maxSteps:=999999)(disch:=omega)only[go_sem,zA,zM,zS,zE,zL,k0,hs0,Bool.not_false,Bool.not_true]
      exact lessQ_ice rfl
   |true=>
    have hjw:j=ws.length:=by
     have:¬j<ws.length:=fun h=>hx2 ⟨h,rfl⟩
     omega
    subst hjw
    rw[List.take_length]at hok hol
    have hok0':ok0=true∧ws.all readRB=true:=by
     have:=hok.symm
     simpa using this
    have d3:decide ((ws.length:Int)+1<(L.length:Int))=false:=decide_eq_false (by omega)
    have hgl:gs.length≤2^40:=by
     rw[←hgs]
     exact grid_len (hok0.trans hok0'.1)
    have hsm:smP PU:=by
     rw[hrp]
     refine⟨hgl,by show(ws.map readR).length≤_;rw[List.length_map];omega,fun r hr=> ?_⟩
     obtain⟨w,_,rfl⟩:=List.mem_map.1 hr
     exact readR_len w
    have hsnp:snapD HI (.agg [.f (.int .i64 z), .f (fints gs),rc])=some (aP PU):=by rw[hrp];exact snapPo hol
    simp(maxSteps:=999999)(disch:=omega)only[go_sem,zA,zM,zS,zE,zL,k1,d3,k2]
    refine OpS.rdD (sPuzzleText_run PU hsm) (⟨_,Tryd.func27,rfl,rfl⟩:Enters Tryd.prog 27) rfl rfl (snap_one hsnp) rfl ?_
    by_cases hpt:puzzleT PU=s
    · have d:=decide_eq_true hpt
      obtain⟨ha,hpu⟩:=href1 hok0'.1 hok0'.2 hpt
      rw[show readPB s=true from decide_eq_true ha,←hpu]
      simp(maxSteps:=999999)(disch:=omega)only[go_sem,zA,zM,zS,zE,zL,d,k0,k2,hs0]
      have ho2:OwnL eR 3 (HI.set 0 (some ⟨g0,3,[.f (.int .i64 z), .f (fints gs),rc]⟩)) rc (ws.map readR):=hol.same fun i h _=>by rw[List.getElem?_set_ne (by have:=hid i h;omega)]
      have v1:=ho2.frzC
      refine lessQ_ice ?_
      generalize(HI.set 0 (some ⟨g0,3,[.f (.int .i64 z), .f (fints gs),rc]⟩):Heap)=HZ at v1
      have v2:∀x,frzC HZ (.f (.int .i64 x))=some (.f (.int .i64 x)):=fun x=>rfl
      have v3:∀x,frzC HZ (.f (.bool x))=some (.f (.bool x)):=fun x=>rfl
      have v4:frzC HZ (.f (fints gs))=some (.f (fints gs)):=rfl
      simp only[frzA,List.mapM_cons,List.mapM_nil,frz1,v1,v2,v3,v4,hrp,Option.pure_def,Option.bind_eq_bind,Option.bind_some,Option.map_some]
    · have d:=decide_eq_false hpt
      obtain⟨f1,f2⟩:=hrefuse fun h=>hpt (href2 h).2.2
      rw[f1,f2]
      simp(maxSteps:=999999)(disch:=omega)only[go_sem,zA,zM,zS,zE,zL,d,k0,hs0]
      exact lessQ_ice rfl
end Go.Lg
