/- GpYC, cut to what is needed. -/
import Derived.Test.YtpdaalgdkdpihaaXad2
open Nat renaming reduceAdd→zA,reduceMul→zM,reduceSub→zS,reduceEqDiff→zE,reduceLeDiff→zL
set_option linter.unusedSimpArgs false
set_option linter.unusedVariables false
set_option maxRecDepth 100000
namespace Go.Lg
open Go.Proofs
attribute [-go_sem] appendM lwF_cons
def SubZ(zs0 zs:List Int):Prop:=∀k:Nat,nth zs k=nth zs0 k∨nth zs k=0
theorem SubZ.set{zs0 zs:List Int}{k:Nat}(h:SubZ zs0 zs)(hk:k<zs.length):SubZ zs0 (zs.set k 0):=fun j=>by
 rw[nth_setN _ _ _ _ hk]
 split
 · exact .inr rfl
 · exact h j
def miniVQ(H:Heap)(z:Int)(zs0:List Int)(rs:List Rul):KV:=fun v H'=>H.length≤H'.length∧(∀i,i<H.length→H'[i]? =H[i]?)∧((∃c1 c2 c3,v= .tup [.agg [c1,c2,c3],bool false])∨∃gc rc zs,v= .tup [.agg [.f (.int .i64 z),gc,rc],bool true]∧(zs.length=zs0.length∧SubZ zs0 zs)∧PzO H' H.length z gc rc zs rs)
structure MiV(H HI:Heap)(XI xg g2:Nat)(z:Int)(zs0:List Int)(rs:List Rul):Prop where
 ex:∃gc rc zs,look HI XI xg=some ⟨xg,3,[.f (.int .i64 z),gc,rc]⟩∧(zs.length=zs0.length∧SubZ zs0 zs)∧PzO HI (H.length+2) z gc rc zs rs∧¬idsC gc XI∧¬idsC rc XI
 out:look HI (H.length+1) g2=some ⟨g2,3,[.f (.int .i64 0), .f .nil, .f .nil]⟩
 lt:H.length+2≤XI∧XI<HI.length
 frm:∀i,i<H.length→HI[i]? =H[i]?
theorem sMakeMinimal_vals(H:Heap)(z:Int)(gid gg:Nat)(zs:List Int)(rc:CV)(rs:List Rul)(hg:look H gid gg=some ⟨gg,1,cl (eI .i64) zs⟩)(hr:OwnL eR 3 H rc rs)(hz:zs.length≤2^30)(hx:smRs rs):
 RunCall Try.prog 87 [.agg [.f (.int .i64 z), .own gid gg 0 zs.length none,rc]] H (miniVQ H z zs rs):=by
 have hgX:∀L,look (H++L) gid gg=some ⟨gg,1,cl (eI .i64) zs⟩:=fun L=>look_appL hg
 have hsm:smP ⟨z,zs,rs⟩:=⟨by show zs.length≤_;omega,hx⟩
 refine RunCall.cw (c:=_) Try.func87 rfl (n:=42) Try.ntmps87 (rs:=[.cell 2 32, .tmp 3]) rfl ?_
 simp only[List.length_cons,List.length_nil,zA,zS,List.replicate,List.cons_append,List.nil_append]
 simp(maxSteps:=999999)(disch:=omega)only[go_sem,zA,zM,zS,zE,zL,look_off,look_off0,set_off,set_off0,List.append_assoc,List.cons_append,List.nil_append,List.length_append,hgX]
 intro g1 g2
 refine OpS.run (l1OwnPuzzle_gen _ z gid gg zs rc rs (hgX _) hr.app (by omega) hx) (⟨_,Try.func53,rfl,rfl⟩:Enters Try.prog 53) rfl rfl ?_
 rintro _ _ ⟨rfl,rfl⟩
 simp(maxSteps:=999999)(disch:=omega)only[go_sem,zA,zM,zS,zE,zL,look_off,look_off0,set_off,set_off0,List.append_assoc,List.cons_append,List.nil_append,List.length_append,hgX]
 first|refine OpS.rd (sPuzzleValid_run ⟨z,zs,rs⟩ hsm) (⟨_,Try.func36,rfl,rfl⟩:Enters Try.prog 36) rfl rfl rfl rfl ?_|refine Loud.rd (sPuzzleValid_run ⟨z,zs,rs⟩ hsm) (⟨_,Try.func36,rfl,rfl⟩:Enters Try.prog 36) rfl rfl rfl rfl ?_
 simp(maxSteps:=999999)(disch:=omega)only[go_sem,zA,zM,zS,zE,zL]
 ((with_reducible first|refine guardK_dec ?_ ?_|refine guardK_ndec ?_ ?_|refine guardK_nb ?_ ?_|refine guardK_split ?_ ?_|refine guardQ_dec ?_ ?_|refine guardL_dec ?_ ?_|refine guardQ_ndec ?_ ?_|refine guardL_ndec ?_ ?_|refine guardQ_nb ?_ ?_|refine guardL_nb ?_ ?_|refine guardQ_split ?_ ?_|refine guardL_split ?_ ?_)<;>intro h1<;>simp(maxSteps:=999999)(disch:=omega)only[go_sem,zA,zM,zS,zE,zL,h1])
 rotate_left
 · simp(maxSteps:=999999)(disch:=omega)only[go_sem,zA,zM,zS,zE,zL,look_off,look_off0,set_off,set_off0,List.append_assoc,List.cons_append,List.nil_append,List.length_append]
   exact⟨_,HLe.refl _,by simp,fun i hi=>List.getElem?_append_left hi, .inl ⟨_,_,_,rfl⟩⟩
 simp(maxSteps:=999999)(disch:=omega)only[go_sem,zA,zM,zS,zE,zL,look_off,look_off0,set_off,set_off0,List.append_assoc,List.cons_append,List.nil_append,List.length_append,hgX]
 first|refine OpS.rd (l10One_run ⟨z,zs,rs⟩ hsm) (⟨_,Try.func100,rfl,rfl⟩:Enters Try.prog 100) rfl rfl rfl rfl ?_|refine Loud.rd (l10One_run ⟨z,zs,rs⟩ hsm) (⟨_,Try.func100,rfl,rfl⟩:Enters Try.prog 100) rfl rfl rfl rfl ?_
 simp(maxSteps:=999999)(disch:=omega)only[go_sem,zA,zM,zS,zE,zL]
 ((first|(with_reducible first|refine condK_dec ?_ ?_|refine condK_ndec ?_ ?_|refine condK_nb ?_ ?_)|refine condK_b ?_ ?_)<;>intro h2)
 rotate_left
 · simp(maxSteps:=999999)(disch:=omega)only[go_sem,zA,zM,zS,zE,zL,look_off,look_off0,set_off,set_off0,List.append_assoc,List.cons_append,List.nil_append,List.length_append]
   exact⟨_,HLe.refl _,by simp,fun i hi=>List.getElem?_append_left hi, .inl ⟨_,_,_,rfl⟩⟩
 have hz4:4≤zs.length:=by
  exact(puz_facts' h1).2.1
 simp(maxSteps:=999999)(disch:=omega)only[go_sem,zA,zM,zS,zE,zL,look_off,look_off0,set_off,set_off0,List.append_assoc,List.cons_append,List.nil_append,List.length_append]
 refine drawP_lM [0,1,2,3,4,6,7,8,11,5,9,10] [2,6] (some 11) [12] [] [0,1,0,0,8,28,0,0,128,508,1023,0,4095] foll (by kernel_rfl) ?_
 iterate 9 (rw[lwF_cons];simp(maxSteps:=999999)(disch:=omega)only[go_sem,zA,zM,zS,zE,zL,look_off,look_off0,set_off,set_off0,List.append_assoc,List.cons_append,List.nil_append,List.length_append])
 rw[lwF_cons]
 simp(maxSteps:=999999)(disch:=omega)only[go_sem,zA,zM,zS,zE,zL,look_off,look_off0,set_off,set_off0,List.append_assoc,List.cons_append,List.nil_append,List.length_append]
 refine appendM_new (E:=eI .i64) (ys:=zs) (sliceOf_of' ti22 rfl ti3) ⟨rfl,rfl,by decide,by decide⟩ ⟨by omega,by omega⟩ elems_f ?_
 intro g3
 simp(maxSteps:=999999)(disch:=omega)only[go_sem,zA,zM,zS,zE,zL,look_off,look_off0,set_off,set_off0,List.append_assoc,List.cons_append,List.nil_append,List.length_append]
 refine⟨okM_tail _ [_,_] [_], ?_⟩
 rcases Nat.eq_zero_or_pos rs.length with h0|h0
 · have:rs=[]:=List.eq_nil_of_length_eq_zero h0
   subst this
   rw[lwF_cons]
   simp(maxSteps:=999999)(disch:=omega)only[go_sem,zA,zM,zS,zE,zL,look_off,look_off0,set_off,set_off0,List.append_assoc,List.cons_append,List.nil_append,List.length_append]
   have hapE:∀(H:Heap) (K:KV),K (.c .emp) H→appendM Try.prog H 30 (.c .emp) (.c (.f (fsl eR []))) K:=fun H K hk=>by
    unfold appendM
    rw[sliceOf_of' ti30 rfl ti81]
    exact hk
   refine hapE _ _ ?_
   simp(maxSteps:=999999)(disch:=omega)only[go_sem,zA,zM,zS,zE,zL,look_off,look_off0,set_off,set_off0,List.append_assoc,List.cons_append,List.nil_append,List.length_append]
   rw[lwF_cons]
   simp(maxSteps:=999999)(disch:=omega)only[go_sem,zA,zM,zS,zE,zL,look_off,look_off0,set_off,set_off0,List.append_assoc,List.cons_append,List.nil_append,List.length_append]
   intro g5
   obtain⟨HI,hHI⟩:∃HI:Heap,HI=H++[some ⟨g1,1,[.f (.int .i64 z), .f (fints zs), .f (fsl eR [])]⟩,some ⟨g2,3,[.f (.int .i64 0), .f .nil, .f .nil]⟩,some ⟨g3,1,cl (eI .i64) zs⟩,some ⟨g5,3,[.f (.int .i64 z), .own (H.length+2) g3 0 zs.length none, .emp]⟩]:=⟨_,rfl⟩
   have hm0:MiV H HI (H.length+3) g5 g2 z zs []:=
    {ex:=⟨.own (H.length+2) g3 0 zs.length none, .emp,zs,by rw[hHI,look_off];exact look_of (b:=⟨g5,3,[.f (.int .i64 z), .own (H.length+2) g3 0 zs.length none, .emp]⟩) rfl,⟨rfl,fun _=> .inl rfl⟩,⟨H.length+2,g3,rfl,by rw[hHI,look_off];exact look_of (b:=⟨g3,1,cl (eI .i64) zs⟩) rfl,Nat.le_refl _,by rw[hHI];exact .m,fun i h=>h.elim⟩,fun h=>by simp only[idsC]at h;omega,fun h=>h⟩
     out:=by rw[hHI,look_off];exact look_of (b:=⟨g2,3,[.f (.int .i64 0), .f .nil, .f .nil]⟩) rfl
     lt:=by rw[hHI];simp
     frm:=fun i hi=>by rw[hHI,List.getElem?_append_left hi]}
   rw[←hHI]
   clear hHI
   refine loop_rule2 (fun(k:Nat) (HI:Heap)=>zs.length -k) (fun k HI=>k≤zs.length∧MiV H HI (H.length+3) g5 g2 z zs []) (fun k HI=>[.a, .a, .k, .a, .k, .p (int k), .a, .a, .a, .a, .a, .a, .a, .a, .a, .a, .a, .a, .a, .a, .a, .a, .a, .a, .a, .a, .a, .a, .a, .a, .a, .a, .a, .a, .a, .a, .a, .a, .a, .a, .a, .a]) (fun _ HI=>HI) 0 HI ⟨Nat.zero_le _,hm0⟩ (by simp(maxSteps:=999999)(disch:=omega)only[go_sem,zA,zM,zS,zE,zL];rfl) (HLe.refl _) ?_
   rintro k HI ⟨hk,hm⟩
   obtain⟨gc,rc,zs',hx1,hx2,hx3,hx4,hx5⟩:=hm.ex
   have hsn:=hx3.snap
   have hout:=hm.out
   have hlt:=hm.lt
   obtain⟨gid',gg',rfl,hg1,hg2,hr1,hr2⟩:=hx3
   simp(maxSteps:=999999)(disch:=omega)only[go_sem,zA,zM,zS,zE,zL,hx1,hg1]
   ((first|(with_reducible first|refine condK_dec ?_ ?_|refine condK_ndec ?_ ?_|refine condK_nb ?_ ?_)|refine condK_b ?_ ?_)<;>intro c1)
   · have c1:k<zs'.length:=by omega
     have hsm':smP ⟨z,zs',[]⟩:=⟨by show zs'.length≤_;omega,hx⟩
     simp(maxSteps:=999999)(disch:=omega)only[go_sem,zA,zM,zS,zE,zL,hx1]
     refine OpS.rdD (sIsRedundant_run ⟨z,zs',[]⟩ k (by omega) hsm') (⟨_,Try.func101,rfl,rfl⟩:Enters Try.prog 101) rfl rfl (snap_two hsn snapD_int) rfl ?_
     simp(maxSteps:=999999)(disch:=omega)only[go_sem,zA,zM,zS,zE,zL]
     ((first|(with_reducible first|refine condK_dec ?_ ?_|refine condK_ndec ?_ ?_|refine condK_nb ?_ ?_)|refine condK_b ?_ ?_)<;>intro c2)
     · simp(maxSteps:=999999)(disch:=omega)only[go_sem,zA,zM,zS,zE,zL,hx1]
       refine OpS.run (l10Without_gen HI z gid' gg' k zs' rc hg1 c1 (by omega)) (⟨_,Try.func102,rfl,rfl⟩:Enters Try.prog 102) rfl rfl ?_
       rintro _ H5 ⟨id6,g6,rfl,w1,w2,w3,w4⟩
       have hid6:id6<H5.length:=(List.getElem?_eq_some_iff.1 (look_some w1).1).1
       have hx6:look H5 (H.length+3) g5=some ⟨g5,3,[.f (.int .i64 z), .own gid' gg' 0 zs'.length none,rc]⟩:=by unfold look at hx1⊢;rw[w4 _ hlt.2];exact hx1
       simp(maxSteps:=999999)(disch:=omega)only[go_sem,zA,zM,zS,zE,zL,hx6]
       have hset:∀i:Nat,i≠(H.length+3)→∀b,(H5.set (H.length+3) b)[i]? =H5[i]? :=fun i hi b=>by rw[List.getElem?_set_ne (Ne.symm hi)]
       refine⟨k+1,_,⟨⟨by omega, ?_⟩,by omega⟩,by push_cast;omega,HLe.refl _⟩
       exact{ex:=⟨.own id6 g6 0 zs'.length none,rc,zs'.set k 0,look_set_eq' (by omega),⟨by rw[List.length_set];exact hx2.1,hx2.2.set c1⟩,⟨id6,g6,by rw[List.length_set],by unfold look at w1⊢;rw[hset _ (by omega)];exact w1,by omega,hr1.same (fun i hi hl=>by
              rw[hset i (fun h=>hx5 (by rw[←h];exact hi)),w4 i hl]),fun i hi=>⟨(hr2 i hi).1,fun h=>by
              have:=hr1.lt i hi
              omega⟩⟩,fun h=>by simp only[idsC]at h;omega,hx5⟩
             out:=by unfold look at hout⊢;rw[hset _ (by omega),w4 _ (by omega)];exact hout
             lt:=by rw[List.length_set];omega
             frm:=fun i hi=>by rw[hset i (by omega),w4 i (by omega)];exact hm.frm i hi}
     · simp(maxSteps:=999999)(disch:=omega)only[go_sem,zA,zM,zS,zE,zL]
       exact⟨k+1,HI,⟨⟨by omega,hm⟩,by omega⟩,by push_cast;omega,HLe.refl _⟩
   · simp(maxSteps:=999999)(disch:=omega)only[go_sem,zA,zM,zS,zE,zL,hx1,hout]
     have hS:∀b,look (HI.set (H.length+1) (some ⟨g2,3,b⟩)) (H.length+1) g2=some ⟨g2,3,b⟩:=fun b=>look_set_eq' (by omega)
     simp(maxSteps:=999999)(disch:=omega)only[go_sem,zA,zM,zS,zE,zL,hS]
     refine⟨_,HLe.refl _,by rw[List.length_set];omega,fun i hi=>by rw[List.getElem?_set_ne (by omega)];exact hm.frm i hi, .inr ⟨_,_,zs',rfl,hx2, ?_⟩⟩
     refine(PzO.same (H:=HI) ⟨gid',gg',rfl,hg1,hg2,hr1,hr2⟩ fun i hi _ _=> ?_).n0 (by omega)
     rw[List.getElem?_set_ne (by omega)]
 · rw[lwF_cons]
   simp(maxSteps:=999999)(disch:=omega)only[go_sem,zA,zM,zS,zE,zL,look_off,look_off0,set_off,set_off0,List.append_assoc,List.cons_append,List.nil_append,List.length_append]
   refine appendM_new (E:=eR) (ys:=rs) (sliceOf_of' ti30 rfl ti81) ⟨rfl,rfl,by decide,by decide⟩ ⟨by omega,hx.1⟩ elems_f ?_
   intro g4
   simp(maxSteps:=999999)(disch:=omega)only[go_sem,zA,zM,zS,zE,zL,look_off,look_off0,set_off,set_off0,List.append_assoc,List.cons_append,List.nil_append,List.length_append]
   refine⟨okM_tail _ [_,_,_] [_], ?_⟩
   rw[lwF_cons]
   simp(maxSteps:=999999)(disch:=omega)only[go_sem,zA,zM,zS,zE,zL,look_off,look_off0,set_off,set_off0,List.append_assoc,List.cons_append,List.nil_append,List.length_append]
   intro g5
   obtain⟨HI,hHI⟩:∃HI:Heap,HI=H++[some ⟨g1,1,[.f (.int .i64 z), .f (fints zs), .f (fsl eR rs)]⟩,some ⟨g2,3,[.f (.int .i64 0), .f .nil, .f .nil]⟩,some ⟨g3,1,cl (eI .i64) zs⟩,some ⟨g4,3,cl eR rs⟩,some ⟨g5,3,[.f (.int .i64 z), .own (H.length+2) g3 0 zs.length none, .own (H.length+3) g4 0 rs.length none]⟩]:=⟨_,rfl⟩
   have hm0:MiV H HI (H.length+4) g5 g2 z zs rs:=
    {ex:=⟨.own (H.length+2) g3 0 zs.length none, .own (H.length+3) g4 0 rs.length none,zs,by rw[hHI,look_off];exact look_of (b:=⟨g5,3,[.f (.int .i64 z), .own (H.length+2) g3 0 zs.length none, .own (H.length+3) g4 0 rs.length none]⟩) rfl,⟨rfl,fun _=> .inl rfl⟩,⟨H.length+2,g3,rfl,by rw[hHI,look_off];exact look_of (b:=⟨g3,1,cl (eI .i64) zs⟩) rfl,Nat.le_refl _,by rw[hHI];exact OwnL.o (H.length+3) g4 rs (by rw[look_off];exact look_of (b:=⟨g4,3,cl eR rs⟩) rfl),fun i h=>by simp only[idsC]at h;omega⟩,fun h=>by simp only[idsC]at h;omega,fun h=>by simp only[idsC]at h;omega⟩
     out:=by rw[hHI,look_off];exact look_of (b:=⟨g2,3,[.f (.int .i64 0), .f .nil, .f .nil]⟩) rfl
     lt:=by rw[hHI];simp
     frm:=fun i hi=>by rw[hHI,List.getElem?_append_left hi]}
   rw[←hHI]
   clear hHI
   refine loop_rule2 (fun(k:Nat) (HI:Heap)=>zs.length -k) (fun k HI=>k≤zs.length∧MiV H HI (H.length+4) g5 g2 z zs rs) (fun k HI=>[.a, .a, .k, .a, .k, .p (int k), .a, .a, .a, .a, .a, .a, .a, .a, .a, .a, .a, .a, .a, .a, .a, .a, .a, .a, .a, .a, .a, .a, .a, .a, .a, .a, .a, .a, .a, .a, .a, .a, .a, .a, .a, .a]) (fun _ HI=>HI) 0 HI ⟨Nat.zero_le _,hm0⟩ (by simp(maxSteps:=999999)(disch:=omega)only[go_sem,zA,zM,zS,zE,zL];rfl) (HLe.refl _) ?_
   rintro k HI ⟨hk,hm⟩
   obtain⟨gc,rc,zs',hx1,hx2,hx3,hx4,hx5⟩:=hm.ex
   have hsn:=hx3.snap
   have hout:=hm.out
   have hlt:=hm.lt
   obtain⟨gid',gg',rfl,hg1,hg2,hr1,hr2⟩:=hx3
   simp(maxSteps:=999999)(disch:=omega)only[go_sem,zA,zM,zS,zE,zL,hx1,hg1]
   ((first|(with_reducible first|refine condK_dec ?_ ?_|refine condK_ndec ?_ ?_|refine condK_nb ?_ ?_)|refine condK_b ?_ ?_)<;>intro c1)
   · have c1:k<zs'.length:=by omega
     have hsm':smP ⟨z,zs',rs⟩:=⟨by show zs'.length≤_;omega,hx⟩
     simp(maxSteps:=999999)(disch:=omega)only[go_sem,zA,zM,zS,zE,zL,hx1]
     refine OpS.rdD (sIsRedundant_run ⟨z,zs',rs⟩ k (by omega) hsm') (⟨_,Try.func101,rfl,rfl⟩:Enters Try.prog 101) rfl rfl (snap_two hsn snapD_int) rfl ?_
     simp(maxSteps:=999999)(disch:=omega)only[go_sem,zA,zM,zS,zE,zL]
     ((first|(with_reducible first|refine condK_dec ?_ ?_|refine condK_ndec ?_ ?_|refine condK_nb ?_ ?_)|refine condK_b ?_ ?_)<;>intro c2)
     · simp(maxSteps:=999999)(disch:=omega)only[go_sem,zA,zM,zS,zE,zL,hx1]
       refine OpS.run (l10Without_gen HI z gid' gg' k zs' rc hg1 c1 (by omega)) (⟨_,Try.func102,rfl,rfl⟩:Enters Try.prog 102) rfl rfl ?_
       rintro _ H5 ⟨id6,g6,rfl,w1,w2,w3,w4⟩
       have hid6:id6<H5.length:=(List.getElem?_eq_some_iff.1 (look_some w1).1).1
       have hx6:look H5 (H.length+4) g5=some ⟨g5,3,[.f (.int .i64 z), .own gid' gg' 0 zs'.length none,rc]⟩:=by unfold look at hx1⊢;rw[w4 _ hlt.2];exact hx1
       simp(maxSteps:=999999)(disch:=omega)only[go_sem,zA,zM,zS,zE,zL,hx6]
       have hset:∀i:Nat,i≠(H.length+4)→∀b,(H5.set (H.length+4) b)[i]? =H5[i]? :=fun i hi b=>by rw[List.getElem?_set_ne (Ne.symm hi)]
       refine⟨k+1,_,⟨⟨by omega, ?_⟩,by omega⟩,by push_cast;omega,HLe.refl _⟩
       exact{ex:=⟨.own id6 g6 0 zs'.length none,rc,zs'.set k 0,look_set_eq' (by omega),⟨by rw[List.length_set];exact hx2.1,hx2.2.set c1⟩,⟨id6,g6,by rw[List.length_set],by unfold look at w1⊢;rw[hset _ (by omega)];exact w1,by omega,hr1.same (fun i hi hl=>by
              rw[hset i (fun h=>hx5 (by rw[←h];exact hi)),w4 i hl]),fun i hi=>⟨(hr2 i hi).1,fun h=>by
              have:=hr1.lt i hi
              omega⟩⟩,fun h=>by simp only[idsC]at h;omega,hx5⟩
             out:=by unfold look at hout⊢;rw[hset _ (by omega),w4 _ (by omega)];exact hout
             lt:=by rw[List.length_set];omega
             frm:=fun i hi=>by rw[hset i (by omega),w4 i (by omega)];exact hm.frm i hi}
     · simp(maxSteps:=999999)(disch:=omega)only[go_sem,zA,zM,zS,zE,zL]
       exact⟨k+1,HI,⟨⟨by omega,hm⟩,by omega⟩,by push_cast;omega,HLe.refl _⟩
   · simp(maxSteps:=999999)(disch:=omega)only[go_sem,zA,zM,zS,zE,zL,hx1,hout]
     have hS:∀b,look (HI.set (H.length+1) (some ⟨g2,3,b⟩)) (H.length+1) g2=some ⟨g2,3,b⟩:=fun b=>look_set_eq' (by omega)
     simp(maxSteps:=999999)(disch:=omega)only[go_sem,zA,zM,zS,zE,zL,hS]
     refine⟨_,HLe.refl _,by rw[List.length_set];omega,fun i hi=>by rw[List.getElem?_set_ne (by omega)];exact hm.frm i hi, .inr ⟨_,_,zs',rfl,hx2, ?_⟩⟩
     refine(PzO.same (H:=HI) ⟨gid',gg',rfl,hg1,hg2,hr1,hr2⟩ fun i hi _ _=> ?_).n0 (by omega)
     rw[List.getElem?_set_ne (by omega)]
end Go.Lg
