/- GpCD, cut to what is needed. -/
import Derived.Test.YtiahmfdabpafoaaDoorGab7
open Nat renaming reduceAdd→zA,reduceMul→zM,reduceSub→zS,reduceEqDiff→zE,reduceLeDiff→zL
set_option linter.unusedSimpArgs false
set_option linter.unusedVariables false
set_option maxRecDepth 100000
namespace Go.Lg
open Go.Proofs
attribute [-go_sem] appendM lenO
theorem sliceOf_of'{P:Program}{t e:TypeId}{ti ei:TI}(ht:tinf P t=some ti)(hk:ti.k= .slice e)(he:tinf P e=some ei):sliceOf P t=some ei:=by
 unfold sliceOf;simp only[ht,hk,he]
theorem appendM_copy{P:Program}{HI:Heap}{t:TypeId}{ei:TI}{K:KV}(ht:sliceOf P t=some ei)(hz:ei.zero.length=ei.size∧ei.size=1∧ei.bytes=8){xs ys:List Int}(hx:0<xs.length∧xs.length≤2^40){id g g0:Nat}{lim:Option Nat}
 (hl:look HI id g=some ⟨g,1,cl (eI .i64) (xs++ys)⟩) (hk:∀g',K (.c (.own HI.length g' 0 xs.length none)) (HI++[some ⟨g',1,cl (eI .i64) xs⟩])):
 appendM P (HI++[some ⟨g0,1,[]⟩]) t (.c (.own HI.length g0 0 0 none)) (.c (.own id g 0 xs.length lim)) K:=by
 obtain⟨hz1,hz2,hz3⟩:=hz
 have hid:id<HI.length:=(List.getElem?_eq_some_iff.1 (look_some hl).1).1
 have hl':look (HI++[some ⟨g0,1,[]⟩]) id g=some ⟨g,1,cl (eI .i64) (xs++ys)⟩:=by rw[look_app_lt hid];exact hl
 have et:((cl (eI .i64) (xs++ys)).drop 0).take (xs.length*1)=cl (eI .i64) xs:=by
  rw[List.drop_zero,cl_append,List.take_append_of_le_length (by rw[cl_length];exact Nat.le_refl _),List.take_of_length_le (by rw[cl_length];exact Nat.le_refl _)]
 unfold appendM
 simp only[ht,hz1,hz2,if_true,elems,look_last,hl',et,appM]
 rw[if_neg (by omega)]
 simp only[List.length_nil,Nat.zero_mul,if_true,okP,Nat.zero_add,List.nil_append,set_last]
 exact⟨⟨trivial,by omega,trivial,by omega,by rw[hz3];omega⟩,hk⟩
theorem OwnI.inv'{H:Heap}{c:CV}{xs:List Int}{S:List Nat}(h:OwnI H c xs S)(hn:0<xs.length):∃id g lim ys,c= .own id g 0 xs.length lim∧S=[id]∧look H id g=some ⟨g,1,cl (eI .i64) (xs++ys)⟩:=by
 cases h with
 |e=>simp at hn
 |o id g lim xs ys h=>exact⟨id,g,lim,ys,rfl,rfl,h⟩
theorem OwnI.nzc'{H:Heap}{c:CV}{xs:List Int}{S:List Nat}(h:OwnI H c xs S):nzC c=c:=by cases h<;>rfl
theorem lenO_I{P:Program}{H:Heap}{t e:TypeId}{ti:TI}{c:CV}{xs:List Int}{S:List Nat}(h:OwnI H c xs S)(ht:tinf P t=some ti)(hk:ti.k= .slice e):lenO P H t (.c c)=some (.c (.f (.int .i64 xs.length))):=by
 cases h with
 |e=>simp only[lenO,ht,hk];rfl
 |o id g lim xs ys h=>simp only[lenO,ht,hk,h,Option.isSome_some,if_true]
theorem srchV_cons(n:Nat)(f:List Int→Nat→List Int×Nat)(xs:List Int)(i v:Nat)(vs:List Nat)(l:Nat):srchV n f xs i (v::vs) l=if clash (xs.set i v) n=true then srchV n f xs i vs l else if(f (xs.set i v) l).1≠[]then f (xs.set i v) l else srchV n f xs i vs (f (xs.set i v) l).2:=rfl
theorem vals_drop{n v:Nat}(h:1≤v∧v≤n):((List.range n).map (· +1)).drop (v -1)=v::((List.range n).map (· +1)).drop v:=by
 rw[List.drop_eq_getElem_cons (by simp;omega)]
 simp only[List.getElem_map,List.getElem_range]
 rw[show v -1+1=v by omega]
theorem srch_le(n:Nat):∀(m:Nat) (xs:List Int) (l:Nat),(srch n m xs l).2≤l
 |0,xs,l=>by unfold srch;split<;>simp
 |m+1,xs,l=>by
  unfold srch
  have:∀vs l,(srchV n (srch n m) xs (xs.length -(m+1)) vs l).2≤l:=by
   intro vs
   induction vs with
   |nil=>intro l;simp[srchV]
   |cons v vs ih=>
    intro l
    have h1:=srch_le n m (xs.set (xs.length -(m+1)) v) l
    unfold srchV
    split
    · exact ih l
    · split
      · exact h1
      · exact Nat.le_trans (ih _) h1
  exact this _ l
def srchQ(n m:Nat)(xs:List Int)(l:Nat)(H:Heap)(lid lg:Nat):KV:=fun v H'=>∃c S,v= .c c∧OwnI H' c (srch n m xs l).1 S∧look H' lid lg=some ⟨lg,1,[.f (.int .i64 ((srch n m xs l).2:Int))]⟩∧lid∉S∧H.length≤H'.length∧∀k,k<H.length→k≠lid→H'[k]? =H[k]?
theorem l2Search_run{n:Nat}(hn:n=2∨n=3∨n=4):∀(m:Nat) (H:Heap) (cg:CV) (xs:List Int) (S:List Nat) (lid lg l:Nat),m≤n*n→OwnI H cg xs S→xs.length=n*n→(∀k:Nat,k<xs.length→0≤nth xs k∧nth xs k≤4)→
 look H lid lg=some ⟨lg,1,[.f (.int .i64 (l:Int))]⟩→lid∉S→l<2^40→RunCall Tryd.prog 94 [.c cg,int n,int ((n*n -m:Nat):Int), .c (.ptr lid lg 0)] H (srchQ n m xs l H lid lg)
 |0,H,cg,xs,S,lid,lg,l,hm,hg,hxl,hxv,hl,hS,hl40=>by
  have hsq:4≤n*n∧n*n≤16:=by rcases hn with rfl|rfl|rfl<;>omega
  obtain⟨id,g,lim,ys,rfl,rfl,hlk⟩:=hg.inv' (by omega)
  have hlt:lid<H.length:=(List.getElem?_eq_some_iff.1 (look_some hl).1).1
  have nl:nilV H (.c (.ptr lid lg 0))=some (.c (.ptr lid lg 0)):=nilV_ptr hl
  refine RunCall.nz ?_
  refine RunCall.cw (c:=_) Tryd.func94 rfl (n:=52) Tryd.ntmps94 (rs:=[.tmp 8]) rfl ?_
  simp only[List.length_cons,List.length_nil,zA,zS,List.replicate,List.cons_append,List.nil_append]
  simp(maxSteps:=999999)(disch:=omega)only[go_sem,zA,zM,zS,zE,zL,hlk,lenO]
  have hnn:(n*n -0:Nat)=xs.length:=by omega
  ((first|(with_reducible first|refine condK_dec ?_ ?_|refine condK_ndec ?_ ?_|refine condK_nb ?_ ?_)|refine condK_b ?_ ?_)<;>intro h1)
  · simp(maxSteps:=999999)(disch:=omega)only[go_sem,zA,zM,zS,zE,zL,nl,hl,hlk]
    ((first|(with_reducible first|refine condK_dec ?_ ?_|refine condK_ndec ?_ ?_|refine condK_nb ?_ ?_)|refine condK_b ?_ ?_)<;>intro h2)
    · simp(maxSteps:=999999)(disch:=omega)only[go_sem,zA,zM,zS,zE,zL]
      have hl0:l=0:=by omega
      subst hl0
      exact⟨H,HLe.refl _, .own id g 0 xs.length lim,[id],rfl,hg,by rw[hl];rfl,hS,Nat.le_refl _,fun k _ _=>rfl⟩
    · simp(maxSteps:=999999)(disch:=omega)only[go_sem,zA,zM,zS,zE,zL,nl,hl,hlk]
      have e:srch n 0 xs l=([],l -1):=by unfold srch;rw[if_neg (by omega)]
      refine⟨_,HLe.refl _, .f (.sl 0 []),[],rfl,by rw[e];exact .e, ?_,by simp,by simp,fun k _ hk=>by rw[List.getElem?_set_ne (Ne.symm hk)]⟩
      rw[look_set_eq' hlt,e]
      have:((l -1:Nat):Int)=(l:Int) -1:=by omega
      rw[this]
  · exfalso;omega
 |m+1,H,cg,xs,S,lid,lg,l,hm,hg,hxl,hxv,hl,hS,hl40=>by
  have hsq:4≤n*n∧n*n≤16:=by rcases hn with rfl|rfl|rfl<;>omega
  have hn4:2≤n∧n≤4:=by omega
  obtain⟨id,g,lim,ys,rfl,rfl,hlk⟩:=hg.inv' (by omega)
  have hlt:lid<H.length:=(List.getElem?_eq_some_iff.1 (look_some hl).1).1
  have hidlt:id<H.length:=(List.getElem?_eq_some_iff.1 (look_some hlk).1).1
  have hne:id≠lid:=fun he=>hS (by simp[he])
  obtain⟨i,hi⟩:∃i:Nat,n*n -(m+1)=i:=⟨_,rfl⟩
  have hil:i<xs.length:=by omega
  have hsr:srch n (m+1) xs l=srchV n (srch n m) xs i ((List.range n).map (· +1)) l:=by
   unfold srch
   rw[show xs.length -(m+1)=i by omega]
  rw[hi]
  refine RunCall.nz ?_
  refine RunCall.cw (c:=_) Tryd.func94 rfl (n:=52) Tryd.ntmps94 (rs:=[.tmp 8]) rfl ?_
  simp only[List.length_cons,List.length_nil,zA,zS,List.replicate,List.cons_append,List.nil_append]
  simp(maxSteps:=999999)(disch:=omega)only[go_sem,zA,zM,zS,zE,zL,hlk,lenO]
  ((first|(with_reducible first|refine condK_dec ?_ ?_|refine condK_ndec ?_ ?_|refine condK_nb ?_ ?_)|refine condK_b ?_ ?_)<;>intro h1)
  · exfalso;omega
  simp(maxSteps:=999999)(disch:=omega)only[go_sem,zA,zM,zS,zE,zL]
  refine loop_rule3 (fun(v:Nat) (HI:Heap) (l':Nat)=>n+1 -v) (fun v HI l'=>1≤v∧v≤n+1∧srch n (m+1) xs l=srchV n (srch n m) xs i (((List.range n).map (· +1)).drop (v -1)) l'∧look HI lid lg=some ⟨lg,1,[.f (.int .i64 (l':Int))]⟩∧H.length≤HI.length∧(∀k,k<H.length→k≠lid→HI[k]? =H[k]?)∧l'≤l)
   (fun v HI l'=>[.k, .k, .k, .k, .a, .a, .a, .a, .a, .p (int v), .a, .a, .a, .a, .a, .a, .a, .a, .a, .a, .a, .a, .a, .a, .a, .a, .a, .a, .a, .a, .a, .a, .a, .a, .a, .a, .a, .a, .a, .a, .a, .a, .a, .a, .a, .a, .a, .a, .a, .a, .a, .a]) (fun _ HI _=>HI) 1 H l ⟨by omega,by omega,hsr,hl,Nat.le_refl _,fun _ _ _=>rfl,Nat.le_refl _⟩ (by simp(maxSteps:=999999)(disch:=omega)only[go_sem,zA,zM,zS,zE,zL];rfl) (HLe.refl _) ?_
  rintro v HI l' ⟨hv1,hv2,hs',hl',hlen',hfr,hll⟩
  have hlk':look HI id g=some ⟨g,1,cl (eI .i64) (xs++ys)⟩:=by unfold look;rw[hfr id hidlt hne];exact hlk
  simp(maxSteps:=999999)(disch:=omega)only[go_sem,zA,zM,zS,zE,zL]
  ((first|(with_reducible first|refine condK_dec ?_ ?_|refine condK_ndec ?_ ?_|refine condK_nb ?_ ?_)|refine condK_b ?_ ?_)<;>intro h2)
  · have hvn:v≤n:=by omega
    simp(maxSteps:=999999)(disch:=omega)only[go_sem,zA,zM,zS,zE,zL]
    intro g0
    refine appendM_copy (sliceOf_of' ti22 rfl ti3) ⟨rfl,rfl,rfl⟩ (by omega) hlk' ?_
    intro g1
    simp(maxSteps:=999999)(disch:=omega)only[go_sem,zA,zM,zS,zE,zL,look_last,set_last]
    rw[Int.toNat_natCast]
    have hown:OwnI (HI++[some ⟨g1,1,cl (eI .i64) (xs.set i v)⟩]) (.own HI.length g1 0 xs.length none) (xs.set i v) [HI.length]:=by
     have:=OwnI.o (H:=HI++[some ⟨g1,1,cl (eI .i64) (xs.set i v)⟩]) HI.length g1 none (xs.set i v) [] (by rw[List.append_nil];exact look_last)
     rwa [List.length_set]at this
    have hsv:∀k:Nat,k<(xs.set i (v:Int)).length→0≤nth (xs.set i (v:Int)) k∧nth (xs.set i (v:Int)) k≤4:=fun k hk=>by
     rw[List.length_set]at hk
     rw[nth_setN _ _ _ _ hil]
     split
     · omega
     · exact hxv k hk
    refine OpS.rdD (l2Clash_run hn (xs.set i v) (by rw[List.length_set];exact hxl) hsv) (⟨_,Tryd.func115,rfl,rfl⟩:Enters Tryd.prog 115) rfl rfl (snap_two hown.snap snapD_int) rfl ?_
    simp(maxSteps:=999999)(disch:=omega)only[go_sem,zA,zM,zS,zE,zL]
    ((first|(with_reducible first|refine condK_dec ?_ ?_|refine condK_ndec ?_ ?_|refine condK_nb ?_ ?_)|refine condK_b ?_ ?_)<;>intro h3)
    · simp(maxSteps:=999999)(disch:=omega)only[go_sem,zA,zM,zS,zE,zL]
      refine⟨v+1,HI,l',⟨⟨by omega,by omega, ?_,hl',hlen',hfr,hll⟩,by omega⟩,by push_cast;omega,HLe.app _ _⟩
      rw[hs',vals_drop ⟨hv1,hvn⟩,srchV_cons,if_pos h3,show v+1 -1=v by omega]
    · simp(maxSteps:=999999)(disch:=omega)only[go_sem,zA,zM,zS,zE,zL]
      have hlt':lid<HI.length:=by omega
      have hr:=l2Search_run hn m (HI++[some ⟨g1,1,cl (eI .i64) (xs.set i v)⟩]) _ _ _ lid lg l' (by omega) hown (by rw[List.length_set];exact hxl) hsv (by rw[look_app_lt hlt'];exact hl') (by simp;omega) (by omega)
      rw[show((n*n -m:Nat):Int)=(i:Int)+1 by omega]at hr
      refine OpS.run hr (⟨_,Tryd.func94,rfl,rfl⟩:Enters Tryd.prog 94) rfl rfl ?_
      rintro _ H2 ⟨c2,S2,rfl,o2,k2,n2,len2,f2⟩
      rw[List.length_append,List.length_singleton]at len2 f2
      have hle2:=srch_le n m (xs.set i v) l'
      have hlen2:lenO Tryd.prog H2 22 (.c c2)=some (.c (.f (.int .i64 ((srch n m (xs.set i v) l').1.length:Int)))):=lenO_I o2 ti22 rfl
      have hf2:∀k,k<H.length→k≠lid→H2[k]? =H[k]? :=fun k hk hne2=>by rw[f2 k (by omega) hne2,List.getElem?_append_left (by omega),hfr k hk hne2]
      simp(maxSteps:=999999)(disch:=omega)only[go_sem,zA,zM,zS,zE,zL,hlen2]
      ((first|(with_reducible first|refine condK_dec ?_ ?_|refine condK_ndec ?_ ?_|refine condK_nb ?_ ?_)|refine condK_b ?_ ?_)<;>intro h4)
      · simp(maxSteps:=999999)(disch:=omega)only[go_sem,zA,zM,zS,zE,zL]
        have hne2:(srch n m (xs.set i v) l').1≠[]:=fun h0=>by rw[h0]at h4;simp at h4
        have e:srch n (m+1) xs l=srch n m (xs.set i v) l':=by rw[hs',vals_drop ⟨hv1,hvn⟩,srchV_cons,if_neg (by rw[h3];simp),if_pos hne2]
        refine⟨H2,HLe.refl _,c2,S2, ?_,by rw[e];exact o2,by rw[e];exact k2,n2,by omega,hf2⟩
        show AV.c (nzC c2)=_
        rw[o2.nzc']
      · simp(maxSteps:=999999)(disch:=omega)only[go_sem,zA,zM,zS,zE,zL]
        have he2:(srch n m (xs.set i v) l').1=[]:=by
         have:¬0<(srch n m (xs.set i v) l').1.length:=by omega
         exact List.eq_nil_of_length_eq_zero (by omega)
        refine⟨v+1,H2,(srch n m (xs.set i v) l').2,⟨⟨by omega,by omega, ?_,k2,by omega,hf2,by omega⟩,by omega⟩,by push_cast;omega,HLe.refl _⟩
        rw[hs',vals_drop ⟨hv1,hvn⟩,srchV_cons,if_neg (by rw[h3];simp),if_neg (by rw[he2];simp),show v+1 -1=v by omega]
  · have hv:v=n+1:=by omega
    simp(maxSteps:=999999)(disch:=omega)only[go_sem,zA,zM,zS,zE,zL]
    have e:srch n (m+1) xs l=([],l'):=by
     rw[hs',hv,show n+1 -1=n by omega,List.drop_of_length_le (by simp)]
     rfl
    exact⟨HI,HLe.refl _, .f (.sl 0 []),[],rfl,by rw[e];exact .e,by rw[e];exact hl',by simp,hlen',hfr⟩
def lenQ(k:Nat):KV:=fun v H=>∃xs id g,v= .c (.own id g 0 k none)∧look H id g=some ⟨g,1,cl (eI .i64) xs⟩∧xs.length=k
theorem SquareNumber_run{n:Nat}(hn:n=2∨n=3∨n=4)(number:Nat)(hm:number<manyS n):RunCall Tryd.prog 70 [int n,int number] [] (lenQ (n*n)):=by
 have hn4:2≤n∧n≤4:=by omega
 have hm6:manyS n≤576:=by unfold manyS;split<;>(try split)<;>omega
 have hsq:4≤n*n∧n*n≤16:=by rcases hn with rfl|rfl|rfl<;>omega
 have hsi:(n:Int)*n=((n*n:Nat):Int):=by push_cast;rfl
 refine RunCall.cw (c:=_) Tryd.func70 rfl (n:=27) Tryd.ntmps70 (rs:=[.tmp 4]) rfl ?_
 simp only[List.length_cons,List.length_nil,zA,zS,List.replicate,List.cons_append,List.nil_append]
 simp(maxSteps:=999999)(disch:=omega)only[go_sem,zA,zM,zS,zE,zL]
 first|refine OpS.rd (l1In_run _ _ _) (⟨_,Tryd.func72,rfl,rfl⟩:Enters Tryd.prog 72) rfl rfl rfl rfl ?_|refine Loud.rd (l1In_run _ _ _) (⟨_,Tryd.func72,rfl,rfl⟩:Enters Tryd.prog 72) rfl rfl rfl rfl ?_
 simp(maxSteps:=999999)(disch:=omega)only[go_sem,zA,zM,zS,zE,zL]
 ((with_reducible first|refine guardK_dec ?_ ?_|refine guardK_ndec ?_ ?_|refine guardK_nb ?_ ?_|refine guardK_split ?_ ?_|refine guardQ_dec ?_ ?_|refine guardL_dec ?_ ?_|refine guardQ_ndec ?_ ?_|refine guardL_ndec ?_ ?_|refine guardQ_nb ?_ ?_|refine guardL_nb ?_ ?_|refine guardQ_split ?_ ?_|refine guardL_split ?_ ?_)<;>intro h1<;>simp(maxSteps:=999999)(disch:=omega)only[go_sem,zA,zM,zS,zE,zL,h1])
 rotate_left
 · exfalso;omega
 ((first|(with_reducible first|refine condK_dec ?_ ?_|refine condK_ndec ?_ ?_|refine condK_nb ?_ ?_)|refine condK_b ?_ ?_)<;>intro h2)
 · exfalso;omega
 simp(maxSteps:=999999)(disch:=omega)only[go_sem,zA,zM,zS,zE,zL]
 intro g1
 simp(maxSteps:=999999)(disch:=omega)only[go_sem,zA,zM,zS,zE,zL,hsi]
 intro g2
 have hown:OwnI [some ⟨g1,1,[.f (.int .i64 (number:Int))]⟩,some ⟨g2,1,cl (eI .i64) (List.replicate (n*n) 0)⟩] (.own 1 g2 0 (n*n) none) (List.replicate (n*n) 0) [1]:=by
  have:=OwnI.o (H:=[some ⟨g1,1,[.f (.int .i64 (number:Int))]⟩,some ⟨g2,1,cl (eI .i64) (List.replicate (n*n) 0)⟩]) 1 g2 none (List.replicate (n*n) 0) [] (by rw[List.append_nil];simp only[go_sem])
  rwa [List.length_replicate]at this
 have hr:=l2Search_run hn (n*n) _ _ _ _ 0 g1 number (Nat.le_refl _) hown (by simp) (fun k _=>by rw[nth_zeros];omega) look_zero (by simp) (by omega)
 rw[Nat.sub_self]at hr
 refine OpS.run hr (⟨_,Tryd.func94,rfl,rfl⟩:Enters Tryd.prog 94) rfl rfl ?_
 rintro _ H2 ⟨c2,S2,rfl,o2,k2,n2,len2,f2⟩
 have hne0:List.replicate (n*n) (0:Int)≠[]:=by intro h0;have:=congrArg List.length h0;simp at this;omega
 obtain⟨hf,_⟩:=srch_found n (n*n) (List.replicate (n*n) 0) number hne0
 rw[cnt_many hn]at hf
 obtain⟨hfl,_⟩:=hf hm
 rw[List.length_replicate]at hfl
 obtain⟨id,g,lim,ys,rfl,rfl,hlk⟩:=o2.inv' (by omega)
 simp(maxSteps:=999999)(disch:=omega)only[go_sem,zA,zM,zS,zE,zL]
 intro g3
 refine appendM_copy (sliceOf_of' ti22 rfl ti3) ⟨rfl,rfl,rfl⟩ (by omega) hlk ?_
 intro g4
 simp(maxSteps:=999999)(disch:=omega)only[go_sem,zA,zM,zS,zE,zL]
 rw[hfl]
 exact⟨_,HLe.refl _,_,_,_,rfl,look_last,hfl⟩
end Go.Lg
