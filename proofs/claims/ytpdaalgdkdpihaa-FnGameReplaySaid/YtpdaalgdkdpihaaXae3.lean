/- GpYA, cut to what is needed. -/
import Derived.Test.YtpdaalgdkdpihaaXac6
open Nat renaming reduceAdd→zA,reduceMul→zM,reduceSub→zS,reduceEqDiff→zE,reduceLeDiff→zL
set_option linter.unusedSimpArgs false
set_option linter.unusedVariables false
set_option maxRecDepth 100000
namespace Go.Lg
open Go.Proofs
attribute [-go_sem] appendM lenO lwF_cons
def ValsN(n:Nat)(xs:List Int):Prop:=∀k:Nat,k<xs.length→1≤nth xs k∧nth xs k≤n
theorem srch_vals(n:Nat):∀(m:Nat) (xs:List Int) (l:Nat),m≤xs.length→(∀k:Nat,k<xs.length -m→1≤nth xs k∧nth xs k≤n)→(srch n m xs l).1≠[]→ValsN n (srch n m xs l).1
 |0,xs,l,hm,hv,hne=>by
  unfold srch at hne⊢
  split at hne
  · rename_i h
    rw[if_pos h]
    intro k hk
    exact hv k (by simpa using hk)
  · simp at hne
 |m+1,xs,l,hm,hv,hne=>by
  have key:∀(vs:List Nat),(∀v∈vs,1≤v∧v≤n)→∀l,(srchV n (srch n m) xs (xs.length -(m+1)) vs l).1≠[]→ValsN n (srchV n (srch n m) xs (xs.length -(m+1)) vs l).1:=by
   intro vs
   induction vs with
   |nil=>intro _ l h;simp[srchV]at h
   |cons v vs ih=>
    intro hvs l h
    have hv1:=hvs v (by simp)
    have ih:=ih fun w hw=>hvs w (by simp[hw])
    rw[srchV]at h⊢
    split at h
    · rename_i hc
      rw[if_pos hc]
      exact ih l h
    · rename_i hc
      rw[if_neg hc]
      split at h
      · rename_i hs
        rw[if_pos hs]
        refine srch_vals n m _ l (by rw[List.length_set];omega) (fun k hk=> ?_) hs
        rw[List.length_set]at hk
        rw[nth_setN _ _ _ _ (by omega)]
        split
        · omega
        · exact hv k (by omega)
      · rename_i hs
        rw[if_neg hs]
        exact ih _ h
  unfold srch at hne⊢
  exact key _ (fun v hv=>by
   obtain⟨w,hw,rfl⟩:=List.mem_map.1 hv
   have:=List.mem_range.1 hw
   omega) l hne
section
variable{P:Program}{o:Oper}{st:St}{K:KV}{fo:Operand}{xs:Array Operand}{ts:Array TypeId}{f:FuncId}{args:List AV}
def lenVQ(n k:Nat):KV:=fun v H=>∃xs id g,v= .c (.own id g 0 k none)∧look H id g=some ⟨g,1,cl (eI .i64) xs⟩∧xs.length=k∧ValsN n xs
theorem OpS.mkLV{n k:Nat}(hc:RunCall P f args [] (lenVQ n k))(he:Enters P f)(ho:o.op= .call ⟨.value fo,xs,ts⟩)(ha:callArgs st fo xs=some (f,args))(hf:args.all frozenA=true)
 (hk:∀(xs:List Int) id g H',look (st.h++H') id g=some ⟨g,1,cl (eI .i64) xs⟩→xs.length=k→st.h.length≤id→ValsN n xs→K (.c (.own id g 0 k none)) (st.h++H')):OpS P o st K:=
 OpS.mkQ hc he ho ha hf fun r H' ⟨xs,id,g,h1,h2,h3,h4⟩=>by
  subst h1
  refine⟨rfl,hk xs (id+st.h.length) g _ ?_ h3 (by omega) h4⟩
  rw[look_shiftH h2]
  simp only[shiftB,shift_cl]
end
theorem SquareNumber_vals{n:Nat}(hn:n=2∨n=3∨n=4)(number:Nat)(hm:number<manyS n):RunCall Try.prog 95 [int n,int number] [] (lenVQ n (n*n)):=by
 have hn4:2≤n∧n≤4:=by omega
 have hm6:manyS n≤576:=by unfold manyS;split<;>(try split)<;>omega
 have hsq:4≤n*n∧n*n≤16:=by rcases hn with rfl|rfl|rfl<;>omega
 have hsi:(n:Int)*n=((n*n:Nat):Int):=by push_cast;rfl
 refine RunCall.cw (c:=_) Try.func95 rfl (n:=27) Try.ntmps95 (rs:=[.tmp 4]) rfl ?_
 simp only[List.length_cons,List.length_nil,zA,zS,List.replicate,List.cons_append,List.nil_append]
 simp(maxSteps:=999999)(disch:=omega)only[go_sem,zA,zM,zS,zE,zL]
 first|refine OpS.rd (l1In_run _ _ _) (⟨_,Try.func63,rfl,rfl⟩:Enters Try.prog 63) rfl rfl rfl rfl ?_|refine Loud.rd (l1In_run _ _ _) (⟨_,Try.func63,rfl,rfl⟩:Enters Try.prog 63) rfl rfl rfl rfl ?_
 simp(maxSteps:=999999)(disch:=omega)only[go_sem,zA,zM,zS,zE,zL]
 ((with_reducible first|refine guardK_dec ?_ ?_|refine guardK_ndec ?_ ?_|refine guardK_nb ?_ ?_|refine guardK_split ?_ ?_|refine guardQ_dec ?_ ?_|refine guardL_dec ?_ ?_|refine guardQ_ndec ?_ ?_|refine guardL_ndec ?_ ?_|refine guardQ_nb ?_ ?_|refine guardL_nb ?_ ?_|refine guardQ_split ?_ ?_|refine guardL_split ?_ ?_)<;>intro h1<;>simp(maxSteps:=999999)(disch:=omega)only[go_sem,zA,zM,zS,zE,zL,h1])
 rotate_left
 · exfalso;omega
 ((first|(with_reducible first|refine condK_dec ?_ ?_|refine condK_ndec ?_ ?_|refine condK_nb ?_ ?_)|refine condK_b ?_ ?_)<;>intro h2)
 · exfalso;omega
 simp(maxSteps:=999999)(disch:=omega)only[go_sem,zA,zM,zS,zE,zL]
 intro g1
 simp(maxSteps:=999999)(disch:=omega)only[go_sem,zA,zM,zS,zE,zL,hsi]
 intro g2
 have hown:OwnI [some ⟨g1,1,[.f (.int .i64 (number:Int))]⟩,some ⟨g2,1,cl (eI .i64) (List.replicate (n*n) 0)⟩] (.own 1 g2 0 (n*n) none) (List.replicate (n*n) 0) [1]:=by
  have:=OwnI.o (H:=[some ⟨g1,1,[.f (.int .i64 (number:Int))]⟩,some ⟨g2,1,cl (eI .i64) (List.replicate (n*n) 0)⟩]) 1 g2 none (List.replicate (n*n) 0) [] (by rw[List.append_nil];simp only[go_sem])
  rwa [List.length_replicate]at this
 have hr:=l2Search_run hn (n*n) _ _ _ _ 0 g1 number (Nat.le_refl _) hown (by simp) (fun k _=>by rw[nth_zeros];omega) look_zero (by simp) (by omega)
 rw[Nat.sub_self]at hr
 refine OpS.run hr (⟨_,Try.func108,rfl,rfl⟩:Enters Try.prog 108) rfl rfl ?_
 rintro _ H2 ⟨c2,S2,rfl,o2,k2,n2,len2,f2⟩
 have hne0:List.replicate (n*n) (0:Int)≠[]:=by intro h0;have:=congrArg List.length h0;simp at this;omega
 obtain⟨hf,_⟩:=srch_found n (n*n) (List.replicate (n*n) 0) number hne0
 rw[cnt_many hn]at hf
 obtain⟨hfl,_⟩:=hf hm
 rw[List.length_replicate]at hfl
 obtain⟨id,g,lim,ys,rfl,rfl,hlk⟩:=o2.inv' (by omega)
 simp(maxSteps:=999999)(disch:=omega)only[go_sem,zA,zM,zS,zE,zL]
 intro g3
 refine appendM_copy (sliceOf_of' ti22 rfl ti3) ⟨rfl,rfl,rfl⟩ (by omega) hlk ?_
 intro g4
 simp(maxSteps:=999999)(disch:=omega)only[go_sem,zA,zM,zS,zE,zL]
 rw[hfl]
 exact⟨_,HLe.refl _,_,_,_,rfl,look_last,hfl,srch_vals n (n*n) _ number (by simp) (fun k hk=>by simp at hk) (hf hm).2⟩
def solvedVQ(n:Nat)(H:Heap)(id g:Nat)(B:Int):KV:=fun v H'=>∃cid cg,v= .c (.own cid cg 0 (n*n) none)∧GrdAt H H' id g (B+2) cid cg (n*n)∧∃zs:List Int,look H' cid cg=some ⟨cg,1,cl (eI .i64) zs⟩∧zs.length=n*n∧ValsN n zs
theorem l20Solved_vals{n:Nat}(hn:n=2∨n=3∨n=4)(H:Heap)(id g:Nat)(B:Int)(hr:RdAt H id g B)(hB:B≤2^39):RunCall Try.prog 82 [.c (.ptr id g 0),int n] H (solvedVQ n H id g B):=by
 have hlt:=hr.lt
 have hsq:4≤n*n∧n*n≤16:=by rcases hn with rfl|rfl|rfl<;>omega
 refine RunCall.cw (c:=_) Try.func82 rfl (n:=21) Try.ntmps82 (rs:=[.tmp 4]) rfl ?_
 simp only[List.length_cons,List.length_nil,zA,zS,List.replicate,List.cons_append,List.nil_append]
 simp(maxSteps:=999999)(disch:=omega)only[go_sem,zA,zM,zS,zE,zL]
 intro g1
 have hix:ldP (some ⟨g1,1,[.f (.int .i64 2), .f (.int .i64 12), .f (.int .i64 576)]⟩) (0+((n:Int) -2).toNat*1)=some (int (manyS n)):=by
  rcases hn with rfl|rfl|rfl<;>rfl
 simp(maxSteps:=999999)(disch:=omega)only[go_sem,zA,zM,zS,zE,zL,look_last,hix]
 have hm:=show manyS n=2∨manyS n=12∨manyS n=576 by rcases hn with rfl|rfl|rfl<;>simp[manyS]
 refine OpS.run (pick_run _ id g B 256 hr.app (by omega)) (⟨_,Try.func72,rfl,rfl⟩:Enters Try.prog 72) rfl rfl ?_
 rintro _ H2 ⟨⟨y1,rfl,y10,y11⟩,r2,f2⟩
 simp(maxSteps:=999999)(disch:=omega)only[go_sem,zA,zM,zS,zE,zL]
 refine OpS.run (pick_run _ id g (B+1) 3 r2 (by omega)) (⟨_,Try.func72,rfl,rfl⟩:Enters Try.prog 72) rfl rfl ?_
 rintro _ H3 ⟨⟨y2,rfl,y20,y21⟩,r3,f3⟩
 have y11:=y11 (by omega)
 have y21:=y21 (by omega)
 simp(maxSteps:=999999)(disch:=omega)only[go_sem,zA,zM,zS,zE,zL]
 obtain⟨number,hnum,hnl⟩:∃number:Nat,(y1*3+y2).tmod (manyS n:Int)=number∧number<manyS n:=by
  rw[tmod_nn (by omega)]
  have h1:=Int.emod_nonneg (y1*3+y2) (show(manyS n:Int)≠0 by omega)
  have h2:=Int.emod_lt_of_pos (y1*3+y2) (show(0:Int)<(manyS n:Int) by omega)
  exact⟨((y1*3+y2)%(manyS n:Int)).toNat,by omega,by omega⟩
 rw[hnum]
 refine OpS.mkLV (SquareNumber_vals hn number hnl) (⟨_,Try.func95,rfl,rfl⟩:Enters Try.prog 95) rfl rfl rfl ?_
 intro xs cid cg H4 hlk hl4 hc hvs
 have l3:H3.length=H.length+1:=by rw[f3.1,f2.1,List.length_append];rfl
 simp(maxSteps:=999999)(disch:=omega)only[go_sem,zA,zM,zS,zE,zL]
 refine⟨_,HLe.refl _,cid,cg,rfl,⟨⟨xs,hlk,by omega⟩,(r3.app (X:=H4)).mono (by omega),hlt,by simp at hc;omega,by simp;omega,fun k hk hne=> ?_⟩,xs,hlk,hl4,hvs⟩
 rw[List.getElem?_append_left (by omega),f3.2 k (by simp;exact hne),f2.2 k (by simp;exact hne),List.getElem?_append_left hk]
end Go.Lg
