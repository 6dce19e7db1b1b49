/- GpCD, GpCE, GpGA, GpDA, cut to what is needed. -/
import Derived.Test.YtiahmfdabpafoaaDoorHab9
import Derived.Test.YtiahmfdabpafoaaDoorHab7
import Derived.Test.YtiahmfdabpafoaaDoorHab8
import Derived.Test.YtiahmfdabpafoaaDoorHab4
open Nat renaming reduceAdd→zA,reduceMul→zM,reduceSub→zS,reduceEqDiff→zE,reduceLeDiff→zL
set_option linter.unusedSimpArgs false
set_option linter.unusedVariables false
set_option maxRecDepth 100000
namespace Go.Lg
open Go.Proofs
attribute [-go_sem] appendM lenO
theorem sliceOf_of'{P:Program}{t e:TypeId}{ti ei:TI}(ht:tinf P t=some ti)(hk:ti.k= .slice e)(he:tinf P e=some ei):sliceOf P t=some ei:=by
 unfold sliceOf;simp only[ht,hk,he]
theorem appendM_copy{P:Program}{HI:Heap}{t:TypeId}{ei:TI}{K:KV}(ht:sliceOf P t=some ei)(hz:ei.zero.length=ei.size∧ei.size=1∧ei.bytes=8){xs ys:List Int}(hx:0<xs.length∧xs.length≤2^40){id g g0:Nat}{lim:Option Nat}
 (hl:look HI id g=some ⟨g,1,cl (eI .i64) (xs++ys)⟩) (hk:∀g',K (.c (.own HI.length g' 0 xs.length none)) (HI++[some ⟨g',1,cl (eI .i64) xs⟩])):
 appendM P (HI++[some ⟨g0,1,[]⟩]) t (.c (.own HI.length g0 0 0 none)) (.c (.own id g 0 xs.length lim)) K:=by
 obtain⟨hz1,hz2,hz3⟩:=hz
 have hid:id<HI.length:=(List.getElem?_eq_some_iff.1 (look_some hl).1).1
 have hl':look (HI++[some ⟨g0,1,[]⟩]) id g=some ⟨g,1,cl (eI .i64) (xs++ys)⟩:=by rw[look_app_lt hid];exact hl
 have et:((cl (eI .i64) (xs++ys)).drop 0).take (xs.length*1)=cl (eI .i64) xs:=by
  rw[List.drop_zero,cl_append,List.take_append_of_le_length (by rw[cl_length];exact Nat.le_refl _),List.take_of_length_le (by rw[cl_length];exact Nat.le_refl _)]
 unfold appendM
 simp only[ht,hz1,hz2,if_true,elems,look_last,hl',et,appM]
 rw[if_neg (by omega)]
 simp only[List.length_nil,Nat.zero_mul,if_true,okP,Nat.zero_add,List.nil_append,set_last]
 exact⟨⟨trivial,by omega,trivial,by omega,by rw[hz3];omega⟩,hk⟩
theorem OwnI.inv'{H:Heap}{c:CV}{xs:List Int}{S:List Nat}(h:OwnI H c xs S)(hn:0<xs.length):∃id g lim ys,c= .own id g 0 xs.length lim∧S=[id]∧look H id g=some ⟨g,1,cl (eI .i64) (xs++ys)⟩:=by
 cases h with
 |e=>simp at hn
 |o id g lim xs ys h=>exact⟨id,g,lim,ys,rfl,rfl,h⟩
theorem OwnI.nzc'{H:Heap}{c:CV}{xs:List Int}{S:List Nat}(h:OwnI H c xs S):nzC c=c:=by cases h<;>rfl
theorem lenO_I{P:Program}{H:Heap}{t e:TypeId}{ti:TI}{c:CV}{xs:List Int}{S:List Nat}(h:OwnI H c xs S)(ht:tinf P t=some ti)(hk:ti.k= .slice e):lenO P H t (.c c)=some (.c (.f (.int .i64 xs.length))):=by
 cases h with
 |e=>simp only[lenO,ht,hk];rfl
 |o id g lim xs ys h=>simp only[lenO,ht,hk,h,Option.isSome_some,if_true]
theorem srchV_cons(n:Nat)(f:List Int→Nat→List Int×Nat)(xs:List Int)(i v:Nat)(vs:List Nat)(l:Nat):srchV n f xs i (v::vs) l=if clash (xs.set i v) n=true then srchV n f xs i vs l else if(f (xs.set i v) l).1≠[]then f (xs.set i v) l else srchV n f xs i vs (f (xs.set i v) l).2:=rfl
theorem vals_drop{n v:Nat}(h:1≤v∧v≤n):((List.range n).map (· +1)).drop (v -1)=v::((List.range n).map (· +1)).drop v:=by
 rw[List.drop_eq_getElem_cons (by simp;omega)]
 simp only[List.getElem_map,List.getElem_range]
 rw[show v -1+1=v by omega]
theorem srch_le(n:Nat):∀(m:Nat) (xs:List Int) (l:Nat),(srch n m xs l).2≤l
 |0,xs,l=>by unfold srch;split<;>simp
 |m+1,xs,l=>by
  unfold srch
  have:∀vs l,(srchV n (srch n m) xs (xs.length -(m+1)) vs l).2≤l:=by
   intro vs
   induction vs with
   |nil=>intro l;simp[srchV]
   |cons v vs ih=>
    intro l
    have h1:=srch_le n m (xs.set (xs.length -(m+1)) v) l
    unfold srchV
    split
    · exact ih l
    · split
      · exact h1
      · exact Nat.le_trans (ih _) h1
  exact this _ l
def srchQ(n m:Nat)(xs:List Int)(l:Nat)(H:Heap)(lid lg:Nat):KV:=fun v H'=>∃c S,v= .c c∧OwnI H' c (srch n m xs l).1 S∧look H' lid lg=some ⟨lg,1,[.f (.int .i64 ((srch n m xs l).2:Int))]⟩∧lid∉S∧H.length≤H'.length∧∀k,k<H.length→k≠lid→H'[k]? =H[k]?
theorem l2Search_run{n:Nat}(hn:n=2∨n=3∨n=4):∀(m:Nat) (H:Heap) (cg:CV) (xs:List Int) (S:List Nat) (lid lg l:Nat),m≤n*n→OwnI H cg xs S→xs.length=n*n→(∀k:Nat,k<xs.length→0≤nth xs k∧nth xs k≤4)→
 look H lid lg=some ⟨lg,1,[.f (.int .i64 (l:Int))]⟩→lid∉S→l<2^40→RunCall Tryd.prog 94 [.c cg,int n,int ((n*n -m:Nat):Int), .c (.ptr lid lg 0)] H (srchQ n m xs l H lid lg)
 |0,H,cg,xs,S,lid,lg,l,hm,hg,hxl,hxv,hl,hS,hl40=>by
  have hsq:4≤n*n∧n*n≤16:=by rcases hn with rfl|rfl|rfl<;>omega
  obtain⟨id,g,lim,ys,rfl,rfl,hlk⟩:=hg.inv' (by omega)
  have hlt:lid<H.length:=(List.getElem?_eq_some_iff.1 (look_some hl).1).1
  have nl:nilV H (.c (.ptr lid lg 0))=some (.c (.ptr lid lg 0)):=nilV_ptr hl
  refine RunCall.nz ?_
  refine RunCall.cw (c:=_) Tryd.func94 rfl (n:=52) Tryd.ntmps94 (rs:=[.tmp 8]) rfl ?_
  simp only[List.length_cons,List.length_nil,zA,zS,List.replicate,List.cons_append,List.nil_append]
  simp(maxSteps:=999999)(disch:=omega)only[go_sem,zA,zM,zS,zE,zL,hlk,lenO]
  have hnn:(n*n -0:Nat)=xs.length:=by omega
  ((first|(with_reducible first|refine condK_dec ?_ ?_|refine condK_ndec ?_ ?_|refine condK_nb ?_ ?_)|refine condK_b ?_ ?_)<;>intro h1)
  · simp(maxSteps:=999999)(disch:=omega)only[go_sem,zA,zM,zS,zE,zL,nl,hl,hlk]
    ((first|(with_reducible first|refine condK_dec ?_ ?_|refine condK_ndec ?_ ?_|refine condK_nb ?_ ?_)|refine condK_b ?_ ?_)<;>intro h2)
    · simp(maxSteps:=999999)(disch:=omega)only[go_sem,zA,zM,zS,zE,zL]
      have hl0:l=0:=by omega
      subst hl0
      exact⟨H,HLe.refl _, .own id g 0 xs.length lim,[id],rfl,hg,by rw[hl];rfl,hS,Nat.le_refl _,fun k _ _=>rfl⟩
    · simp(maxSteps:=999999)(disch:=omega)only[go_sem,zA,zM,zS,zE,zL,nl,hl,hlk]
      have e:srch n 0 xs l=([],l -1):=by unfold srch;rw[if_neg (by omega)]
      refine⟨_,HLe.refl _, .f (.sl 0 []),[],rfl,by rw[e];exact .e, ?_,by simp,by simp,fun k _ hk=>by rw[List.getElem?_set_ne (Ne.symm hk)]⟩
      rw[look_set_eq' hlt,e]
      have:((l -1:Nat):Int)=(l:Int) -1:=by omega
      rw[this]
  · exfalso;omega
 |m+1,H,cg,xs,S,lid,lg,l,hm,hg,hxl,hxv,hl,hS,hl40=>by
  have hsq:4≤n*n∧n*n≤16:=by rcases hn with rfl|rfl|rfl<;>omega
  have hn4:2≤n∧n≤4:=by omega
  obtain⟨id,g,lim,ys,rfl,rfl,hlk⟩:=hg.inv' (by omega)
  have hlt:lid<H.length:=(List.getElem?_eq_some_iff.1 (look_some hl).1).1
  have hidlt:id<H.length:=(List.getElem?_eq_some_iff.1 (look_some hlk).1).1
  have hne:id≠lid:=fun he=>hS (by simp[he])
  obtain⟨i,hi⟩:∃i:Nat,n*n -(m+1)=i:=⟨_,rfl⟩
  have hil:i<xs.length:=by omega
  have hsr:srch n (m+1) xs l=srchV n (srch n m) xs i ((List.range n).map (· +1)) l:=by
   unfold srch
   rw[show xs.length -(m+1)=i by omega]
  rw[hi]
  refine RunCall.nz ?_
  refine RunCall.cw (c:=_) Tryd.func94 rfl (n:=52) Tryd.ntmps94 (rs:=[.tmp 8]) rfl ?_
  simp only[List.length_cons,List.length_nil,zA,zS,List.replicate,List.cons_append,List.nil_append]
  simp(maxSteps:=999999)(disch:=omega)only[go_sem,zA,zM,zS,zE,zL,hlk,lenO]
  ((first|(with_reducible first|refine condK_dec ?_ ?_|refine condK_ndec ?_ ?_|refine condK_nb ?_ ?_)|refine condK_b ?_ ?_)<;>intro h1)
  · exfalso;omega
  simp(maxSteps:=999999)(disch:=omega)only[go_sem,zA,zM,zS,zE,zL]
  refine loop_rule3 (fun(v:Nat) (HI:Heap) (l':Nat)=>n+1 -v) (fun v HI l'=>1≤v∧v≤n+1∧srch n (m+1) xs l=srchV n (srch n m) xs i (((List.range n).map (· +1)).drop (v -1)) l'∧look HI lid lg=some ⟨lg,1,[.f (.int .i64 (l':Int))]⟩∧H.length≤HI.length∧(∀k,k<H.length→k≠lid→HI[k]? =H[k]?)∧l'≤l)
   (fun v HI l'=>[.k, .k, .k, .k, .a, .a, .a, .a, .a, .p (int v), .a, .a, .a, .a, .a, .a, .a, .a, .a, .a, .a, .a, .a, .a, .a, .a, .a, .a, .a, .a, .a, .a, .a, .a, .a, .a, .a, .a, .a, .a, .a, .a, .a, .a, .a, .a, .a, .a, .a, .a, .a, .a]) (fun _ HI _=>HI) 1 H l ⟨by omega,by omega,hsr,hl,Nat.le_refl _,fun _ _ _=>rfl,Nat.le_refl _⟩ (by simp(maxSteps:=999999)(disch:=omega)only[go_sem,zA,zM,zS,zE,zL];rfl) (HLe.refl _) ?_
  rintro v HI l' ⟨hv1,hv2,hs',hl',hlen',hfr,hll⟩
  have hlk':look HI id g=some ⟨g,1,cl (eI .i64) (xs++ys)⟩:=by unfold look;rw[hfr id hidlt hne];exact hlk
  simp(maxSteps:=999999)(disch:=omega)only[go_sem,zA,zM,zS,zE,zL]
  ((first|(with_reducible first|refine condK_dec ?_ ?_|refine condK_ndec ?_ ?_|refine condK_nb ?_ ?_)|refine condK_b ?_ ?_)<;>intro h2)
  · have hvn:v≤n:=by omega
    simp(maxSteps:=999999)(disch:=omega)only[go_sem,zA,zM,zS,zE,zL]
    intro g0
    refine appendM_copy (sliceOf_of' ti22 rfl ti3) ⟨rfl,rfl,rfl⟩ (by omega) hlk' ?_
    intro g1
    simp(maxSteps:=999999)(disch:=omega)only[go_sem,zA,zM,zS,zE,zL,look_last,set_last]
    rw[Int.toNat_natCast]
    have hown:OwnI (HI++[some ⟨g1,1,cl (eI .i64) (xs.set i v)⟩]) (.own HI.length g1 0 xs.length none) (xs.set i v) [HI.length]:=by
     have:=OwnI.o (H:=HI++[some ⟨g1,1,cl (eI .i64) (xs.set i v)⟩]) HI.length g1 none (xs.set i v) [] (by rw[List.append_nil];exact look_last)
     rwa [List.length_set]at this
    have hsv:∀k:Nat,k<(xs.set i (v:Int)).length→0≤nth (xs.set i (v:Int)) k∧nth (xs.set i (v:Int)) k≤4:=fun k hk=>by
     rw[List.length_set]at hk
     rw[nth_setN _ _ _ _ hil]
     split
     · omega
     · exact hxv k hk
    refine OpS.rdD (l2Clash_run hn (xs.set i v) (by rw[List.length_set];exact hxl) hsv) (⟨_,Tryd.func115,rfl,rfl⟩:Enters Tryd.prog 115) rfl rfl (snap_two hown.snap snapD_int) rfl ?_
    simp(maxSteps:=999999)(disch:=omega)only[go_sem,zA,zM,zS,zE,zL]
    ((first|(with_reducible first|refine condK_dec ?_ ?_|refine condK_ndec ?_ ?_|refine condK_nb ?_ ?_)|refine condK_b ?_ ?_)<;>intro h3)
    · simp(maxSteps:=999999)(disch:=omega)only[go_sem,zA,zM,zS,zE,zL]
      refine⟨v+1,HI,l',⟨⟨by omega,by omega, ?_,hl',hlen',hfr,hll⟩,by omega⟩,by push_cast;omega,HLe.app _ _⟩
      rw[hs',vals_drop ⟨hv1,hvn⟩,srchV_cons,if_pos h3,show v+1 -1=v by omega]
    · simp(maxSteps:=999999)(disch:=omega)only[go_sem,zA,zM,zS,zE,zL]
      have hlt':lid<HI.length:=by omega
      have hr:=l2Search_run hn m (HI++[some ⟨g1,1,cl (eI .i64) (xs.set i v)⟩]) _ _ _ lid lg l' (by omega) hown (by rw[List.length_set];exact hxl) hsv (by rw[look_app_lt hlt'];exact hl') (by simp;omega) (by omega)
      rw[show((n*n -m:Nat):Int)=(i:Int)+1 by omega]at hr
      refine OpS.run hr (⟨_,Tryd.func94,rfl,rfl⟩:Enters Tryd.prog 94) rfl rfl ?_
      rintro _ H2 ⟨c2,S2,rfl,o2,k2,n2,len2,f2⟩
      rw[List.length_append,List.length_singleton]at len2 f2
      have hle2:=srch_le n m (xs.set i v) l'
      have hlen2:lenO Tryd.prog H2 22 (.c c2)=some (.c (.f (.int .i64 ((srch n m (xs.set i v) l').1.length:Int)))):=lenO_I o2 ti22 rfl
      have hf2:∀k,k<H.length→k≠lid→H2[k]? =H[k]? :=fun k hk hne2=>by rw[f2 k (by omega) hne2,List.getElem?_append_left (by omega),hfr k hk hne2]
      simp(maxSteps:=999999)(disch:=omega)only[go_sem,zA,zM,zS,zE,zL,hlen2]
      ((first|(with_reducible first|refine condK_dec ?_ ?_|refine condK_ndec ?_ ?_|refine condK_nb ?_ ?_)|refine condK_b ?_ ?_)<;>intro h4)
      · simp(maxSteps:=999999)(disch:=omega)only[go_sem,zA,zM,zS,zE,zL]
        have hne2:(srch n m (xs.set i v) l').1≠[]:=fun h0=>by rw[h0]at h4;simp at h4
        have e:srch n (m+1) xs l=srch n m (xs.set i v) l':=by rw[hs',vals_drop ⟨hv1,hvn⟩,srchV_cons,if_neg (by rw[h3];simp),if_pos hne2]
        refine⟨H2,HLe.refl _,c2,S2, ?_,by rw[e];exact o2,by rw[e];exact k2,n2,by omega,hf2⟩
        show AV.c (nzC c2)=_
        rw[o2.nzc']
      · simp(maxSteps:=999999)(disch:=omega)only[go_sem,zA,zM,zS,zE,zL]
        have he2:(srch n m (xs.set i v) l').1=[]:=by
         have:¬0<(srch n m (xs.set i v) l').1.length:=by omega
         exact List.eq_nil_of_length_eq_zero (by omega)
        refine⟨v+1,H2,(srch n m (xs.set i v) l').2,⟨⟨by omega,by omega, ?_,k2,by omega,hf2,by omega⟩,by omega⟩,by push_cast;omega,HLe.refl _⟩
        rw[hs',vals_drop ⟨hv1,hvn⟩,srchV_cons,if_neg (by rw[h3];simp),if_neg (by rw[he2];simp),show v+1 -1=v by omega]
  · have hv:v=n+1:=by omega
    simp(maxSteps:=999999)(disch:=omega)only[go_sem,zA,zM,zS,zE,zL]
    have e:srch n (m+1) xs l=([],l'):=by
     rw[hs',hv,show n+1 -1=n by omega,List.drop_of_length_le (by simp)]
     rfl
    exact⟨HI,HLe.refl _, .f (.sl 0 []),[],rfl,by rw[e];exact .e,by rw[e];exact hl',by simp,hlen',hfr⟩
def lenQ(k:Nat):KV:=fun v H=>∃xs id g,v= .c (.own id g 0 k none)∧look H id g=some ⟨g,1,cl (eI .i64) xs⟩∧xs.length=k
theorem SquareNumber_run{n:Nat}(hn:n=2∨n=3∨n=4)(number:Nat)(hm:number<manyS n):RunCall Tryd.prog 70 [int n,int number] [] (lenQ (n*n)):=by
 have hn4:2≤n∧n≤4:=by omega
 have hm6:manyS n≤576:=by unfold manyS;split<;>(try split)<;>omega
 have hsq:4≤n*n∧n*n≤16:=by rcases hn with rfl|rfl|rfl<;>omega
 have hsi:(n:Int)*n=((n*n:Nat):Int):=by push_cast;rfl
 refine RunCall.cw (c:=_) Tryd.func70 rfl (n:=27) Tryd.ntmps70 (rs:=[.tmp 4]) rfl ?_
 simp only[List.length_cons,List.length_nil,zA,zS,List.replicate,List.cons_append,List.nil_append]
 simp(maxSteps:=999999)(disch:=omega)only[go_sem,zA,zM,zS,zE,zL]
 first|refine OpS.rd (l1In_run _ _ _) (⟨_,Tryd.func72,rfl,rfl⟩:Enters Tryd.prog 72) rfl rfl rfl rfl ?_|refine Loud.rd (l1In_run _ _ _) (⟨_,Tryd.func72,rfl,rfl⟩:Enters Tryd.prog 72) rfl rfl rfl rfl ?_
 simp(maxSteps:=999999)(disch:=omega)only[go_sem,zA,zM,zS,zE,zL]
 ((with_reducible first|refine guardK_dec ?_ ?_|refine guardK_ndec ?_ ?_|refine guardK_nb ?_ ?_|refine guardK_split ?_ ?_|refine guardQ_dec ?_ ?_|refine guardL_dec ?_ ?_|refine guardQ_ndec ?_ ?_|refine guardL_ndec ?_ ?_|refine guardQ_nb ?_ ?_|refine guardL_nb ?_ ?_|refine guardQ_split ?_ ?_|refine guardL_split ?_ ?_)<;>intro h1<;>simp(maxSteps:=999999)(disch:=omega)only[go_sem,zA,zM,zS,zE,zL,h1])
 rotate_left
 · exfalso;omega
 ((first|(with_reducible first|refine condK_dec ?_ ?_|refine condK_ndec ?_ ?_|refine condK_nb ?_ ?_)|refine condK_b ?_ ?_)<;>intro h2)
 · exfalso;omega
 simp(maxSteps:=999999)(disch:=omega)only[go_sem,zA,zM,zS,zE,zL]
 intro g1
 simp(maxSteps:=999999)(disch:=omega)only[go_sem,zA,zM,zS,zE,zL,hsi]
 intro g2
 have hown:OwnI [some ⟨g1,1,[.f (.int .i64 (number:Int))]⟩,some ⟨g2,1,cl (eI .i64) (List.replicate (n*n) 0)⟩] (.own 1 g2 0 (n*n) none) (List.replicate (n*n) 0) [1]:=by
  have:=OwnI.o (H:=[some ⟨g1,1,[.f (.int .i64 (number:Int))]⟩,some ⟨g2,1,cl (eI .i64) (List.replicate (n*n) 0)⟩]) 1 g2 none (List.replicate (n*n) 0) [] (by rw[List.append_nil];simp only[go_sem])
  rwa [List.length_replicate]at this
 have hr:=l2Search_run hn (n*n) _ _ _ _ 0 g1 number (Nat.le_refl _) hown (by simp) (fun k _=>by rw[nth_zeros];omega) look_zero (by simp) (by omega)
 rw[Nat.sub_self]at hr
 refine OpS.run hr (⟨_,Tryd.func94,rfl,rfl⟩:Enters Tryd.prog 94) rfl rfl ?_
 rintro _ H2 ⟨c2,S2,rfl,o2,k2,n2,len2,f2⟩
 have hne0:List.replicate (n*n) (0:Int)≠[]:=by intro h0;have:=congrArg List.length h0;simp at this;omega
 obtain⟨hf,_⟩:=srch_found n (n*n) (List.replicate (n*n) 0) number hne0
 rw[cnt_many hn]at hf
 obtain⟨hfl,_⟩:=hf hm
 rw[List.length_replicate]at hfl
 obtain⟨id,g,lim,ys,rfl,rfl,hlk⟩:=o2.inv' (by omega)
 simp(maxSteps:=999999)(disch:=omega)only[go_sem,zA,zM,zS,zE,zL]
 intro g3
 refine appendM_copy (sliceOf_of' ti22 rfl ti3) ⟨rfl,rfl,rfl⟩ (by omega) hlk ?_
 intro g4
 simp(maxSteps:=999999)(disch:=omega)only[go_sem,zA,zM,zS,zE,zL]
 rw[hfl]
 exact⟨_,HLe.refl _,_,_,_,rfl,look_last,hfl⟩
end Go.Lg

namespace Go.Lg
open Go.Proofs
section
variable{P:Program}{o:Oper}{st:St}{K:KV}{fo:Operand}{xs:Array Operand}{ts:Array TypeId}{f:FuncId}{args args':List AV}{zs:List Int}
theorem OpS.mkL{k:Nat}(hc:RunCall P f args [] (lenQ k))(he:Enters P f)(ho:o.op= .call ⟨.value fo,xs,ts⟩)(ha:callArgs st fo xs=some (f,args))(hf:args.all frozenA=true)
 (hk:∀(xs:List Int) id g H',look (st.h++H') id g=some ⟨g,1,cl (eI .i64) xs⟩→xs.length=k→st.h.length≤id→K (.c (.own id g 0 k none)) (st.h++H')):OpS P o st K:=
 OpS.mkQ hc he ho ha hf fun r H' ⟨xs,id,g,h1,h2,h3⟩=>by
  subst h1
  refine⟨rfl,hk xs (id+st.h.length) g _ ?_ h3 (by omega)⟩
  rw[look_shiftH h2]
  simp only[shiftB,shift_cl]
theorem OpS.mkF{Q:AV→Prop}(hc:RunCall P f args [] fun v _=>Q v)(he:Enters P f)(ho:o.op= .call ⟨.value fo,xs,ts⟩)(ha:callArgs st fo xs=some (f,args))(hf:args.all frozenA=true)
 (hk:∀v,Q v→tupOk v=true∧shiftA st.h.length v=v∧K v st.h):OpS P o st K:=by
 obtain⟨h1,h2⟩:=target_of ha
 refine OpS.call ho h1 he ?_
 rw[h2]
 refine(RunCall.frame hf hc fun r H' h=>(hk r h).1).weaker ?_
 rintro r H2 ⟨r',H',h3,rfl,rfl⟩
 exact⟨st.h,HLe.app _ _,by rw[(hk _ h3).2.1];exact(hk _ h3).2.2⟩
end
def GrdAt(H HI:Heap)(id g:Nat)(B:Int)(cid cg n2:Nat):Prop:=(∃zs:List Int,look HI cid cg=some ⟨cg,1,cl (eI .i64) zs⟩∧n2≤zs.length)∧RdAt HI id g B∧id<H.length∧H.length≤cid∧H.length≤HI.length∧∀k,k<H.length→k≠id→HI[k]? =H[k]?
theorem GrdAt.mono{H HI:Heap}{id g cid cg n2:Nat}{B B':Int}(h:GrdAt H HI id g B cid cg n2)(hb:B≤B'):GrdAt H HI id g B' cid cg n2:=by
 obtain⟨h1,h2,h3⟩:=h
 exact⟨h1,h2.mono hb,h3⟩
theorem GrdAt.pick{H HI H2:Heap}{id g cid cg n2:Nat}{B B':Int}(h:GrdAt H HI id g B cid cg n2)(hr:RdAt H2 id g B')(hf:Frm HI H2 [id]):GrdAt H H2 id g B' cid cg n2:=by
 obtain⟨⟨zs,h1,h2⟩,_,h3,h4,h5,h6⟩:=h
 refine⟨⟨zs,by rw[hf.look (by simp;omega)];exact h1,h2⟩,hr,h3,h4,by rw[hf.1];exact h5,fun k hk hne=> ?_⟩
 rw[hf.2 k (by simp;exact hne),h6 k hk hne]
theorem GrdAt.store{H HI:Heap}{id g cid cg n2:Nat}{B:Int}(h:GrdAt H HI id g B cid cg n2){zs:List Int}(hz:n2≤zs.length):GrdAt H (HI.set cid (some ⟨cg,1,cl (eI .i64) zs⟩)) id g B cid cg n2:=by
 obtain⟨⟨_,h1,_⟩,h2,h3,h4,h5,h6⟩:=h
 have hlt:cid<HI.length:=(List.getElem?_eq_some_iff.1 (look_some h1).1).1
 refine⟨⟨zs,look_set_eq' hlt,hz⟩,h2.same (by rw[List.getElem?_set_ne (by omega)]),h3,h4,by simpa using h5,fun k hk hne=> ?_⟩
 rw[List.getElem?_set_ne (by omega),h6 k hk hne]
theorem GrdAt.app{H HI X:Heap}{id g cid cg n2:Nat}{B:Int}(h:GrdAt H HI id g B cid cg n2):GrdAt H (HI++X) id g B cid cg n2:=by
 obtain⟨⟨zs,h1,h2⟩,h3,h4,h5,h6,h7⟩:=h
 refine⟨⟨zs,look_appL h1,h2⟩,h3.app,h4,h5,by rw[List.length_append];omega,fun k hk hne=> ?_⟩
 rw[List.getElem?_append_left (by omega),h7 k hk hne]
def solvedQ(n:Nat)(H:Heap)(id g:Nat)(B:Int):KV:=fun v H'=>∃cid cg,v= .c (.own cid cg 0 (n*n) none)∧GrdAt H H' id g (B+2) cid cg (n*n)
theorem l20Solved_run{n:Nat}(hn:n=2∨n=3∨n=4)(H:Heap)(id g:Nat)(B:Int)(hr:RdAt H id g B)(hB:B≤2^39):RunCall Tryd.prog 46 [.c (.ptr id g 0),int n] H (solvedQ n H id g B):=by
 have hlt:=hr.lt
 have hsq:4≤n*n∧n*n≤16:=by rcases hn with rfl|rfl|rfl<;>omega
 refine RunCall.cw (c:=_) Tryd.func46 rfl (n:=21) Tryd.ntmps46 (rs:=[.tmp 4]) rfl ?_
 simp only[List.length_cons,List.length_nil,zA,zS,List.replicate,List.cons_append,List.nil_append]
 simp(maxSteps:=999999)(disch:=omega)only[go_sem,zA,zM,zS,zE,zL]
 intro g1
 have hix:ldP (some ⟨g1,1,[.f (.int .i64 2), .f (.int .i64 12), .f (.int .i64 576)]⟩) (0+((n:Int) -2).toNat*1)=some (int (manyS n)):=by
  rcases hn with rfl|rfl|rfl<;>rfl
 simp(maxSteps:=999999)(disch:=omega)only[go_sem,zA,zM,zS,zE,zL,look_last,hix]
 have hm:=show manyS n=2∨manyS n=12∨manyS n=576 by rcases hn with rfl|rfl|rfl<;>simp[manyS]
 refine OpS.run (pick_run _ id g B 256 hr.app (by omega)) (⟨_,Tryd.func54,rfl,rfl⟩:Enters Tryd.prog 54) rfl rfl ?_
 rintro _ H2 ⟨⟨y1,rfl,y10,y11⟩,r2,f2⟩
 simp(maxSteps:=999999)(disch:=omega)only[go_sem,zA,zM,zS,zE,zL]
 refine OpS.run (pick_run _ id g (B+1) 3 r2 (by omega)) (⟨_,Tryd.func54,rfl,rfl⟩:Enters Tryd.prog 54) rfl rfl ?_
 rintro _ H3 ⟨⟨y2,rfl,y20,y21⟩,r3,f3⟩
 have y11:=y11 (by omega)
 have y21:=y21 (by omega)
 simp(maxSteps:=999999)(disch:=omega)only[go_sem,zA,zM,zS,zE,zL]
 obtain⟨number,hnum,hnl⟩:∃number:Nat,(y1*3+y2).tmod (manyS n:Int)=number∧number<manyS n:=by
  rw[tmod_nn (by omega)]
  have h1:=Int.emod_nonneg (y1*3+y2) (show(manyS n:Int)≠0 by omega)
  have h2:=Int.emod_lt_of_pos (y1*3+y2) (show(0:Int)<(manyS n:Int) by omega)
  exact⟨((y1*3+y2)%(manyS n:Int)).toNat,by omega,by omega⟩
 rw[hnum]
 refine OpS.mkL (SquareNumber_run hn number hnl) (⟨_,Tryd.func70,rfl,rfl⟩:Enters Tryd.prog 70) rfl rfl rfl ?_
 intro xs cid cg H4 hlk hl4 hc
 have l3:H3.length=H.length+1:=by rw[f3.1,f2.1,List.length_append];rfl
 simp(maxSteps:=999999)(disch:=omega)only[go_sem,zA,zM,zS,zE,zL]
 refine⟨_,HLe.refl _,cid,cg,rfl,⟨xs,hlk,by omega⟩,(r3.app (X:=H4)).mono (by omega),hlt,by simp at hc;omega,by simp;omega,fun k hk hne=> ?_⟩
 rw[List.getElem?_append_left (by omega),f3.2 k (by simp;exact hne),f2.2 k (by simp;exact hne),List.getElem?_append_left hk]
theorem frz_view{H:Heap}{id g off n:Nat}{lim:Option Nat}{zs:List Int}(h:look H id g=some ⟨g,1,cl (eI .i64) zs⟩)(hn:off+n≤zs.length):frzC H (.own id g off n lim)=some (.f (fints ((zs.drop off).take n))):=by
 have e:((cl (eI .i64) zs).drop off).take (n*1)=cl (eI .i64) ((zs.drop off).take n):=by
  have e1:(cl (eI .i64) zs).drop off=cl (eI .i64) (zs.drop off):=by
   have:=List.take_append_drop off zs
   conv=>lhs;rw[←this,cl_append]
   rw[List.drop_append_of_le_length (by rw[cl_length];simp;omega),List.drop_of_length_le (by rw[cl_length];simp;omega),List.nil_append]
  rw[e1,Nat.mul_one]
  have:=List.take_append_drop n (zs.drop off)
  conv=>lhs;rw[←this,cl_append]
  rw[List.take_append_of_le_length (by rw[cl_length];simp;omega),List.take_of_length_le (by rw[cl_length];simp;omega)]
 have hl:((zs.drop off).take n).length=n:=by simp;omega
 simp only[frzC,frz,h,e,frz_cl,Option.map_some]
 rw[show fints ((zs.drop off).take n)= .sl ((zs.drop off).take n).length (fl (eI .i64) ((zs.drop off).take n))from rfl,hl]
end Go.Lg

namespace Go.Lg
open Go.Proofs
attribute [-go_sem] appendM
inductive OwnL{α:Type}(E:α→List FV)(n:Nat)(H:Heap):CV→List α→Prop where
 |n:OwnL E n H (.f .nil) []
 |m:OwnL E n H .emp []
 |o (id g:Nat) (xs:List α) (h:look H id g=some ⟨g,n,cl E xs⟩):OwnL E n H (.own id g 0 xs.length none) xs
def idsC:CV→Nat→Prop
 | .own id _ _ _ _,k=>k=id
 |_,_=>False
section
variable{α:Type}{E:α→List FV}{n:Nat}{H H':Heap}{c:CV}{xs ys:List α}
theorem OwnL.same(h:OwnL E n H c xs)(hs:∀i,idsC c i→i<H.length→H'[i]? =H[i]?):OwnL E n H' c xs:=by
 cases h with
 |n=>exact .n
 |m=>exact .m
 |o id g xs h=>exact .o id g xs (by unfold look at*;rw[hs id rfl (List.getElem?_eq_some_iff.1 (look_some h).1).1];exact h)
theorem OwnL.lt(h:OwnL E n H c xs):∀i,idsC c i→i<H.length:=by
 cases h with
 |n=>exact fun i hi=>hi.elim
 |m=>exact fun i hi=>hi.elim
 |o id g xs h=>intro i hi;cases hi;exact(List.getElem?_eq_some_iff.1 (look_some h).1).1
theorem OwnL.app(h:OwnL E n H c xs):OwnL E n (H++H') c xs:=h.same fun i _ hl=>List.getElem?_append_left hl
theorem OwnL.snap[HSz E n](h:OwnL E n H c xs):snapD H (.c c)=some (rsl E xs):=by
 cases h with
 |n=>rfl
 |m=>rfl
 |o id g xs h=>
  have e:(cl E xs).take (xs.length*n)=cl E xs:=List.take_of_length_le (Nat.le_of_eq (cl_length xs))
  simp only[snapD,Lg.frzC,Lg.frz,h,List.drop_zero,e,frz_cl,Option.map_some]
theorem OwnL.frzC[HSz E n](h:OwnL E n H c xs):frzC H c=some (.f (fsl E xs)):=by
 have:=h.snap
 simp only[snapD,Option.map_eq_some_iff]at this
 obtain⟨y,h1,h2⟩:=this
 cases h2
 exact h1
theorem OwnL.len(P:Program)(h:OwnL E n H c xs){s:List AV}{t:TypeId}{ei:TI}(ht:sliceOf P t=some ei)(hs:ei.size=n):True:=trivial
end
theorem nzF_ints{k:IntKind}(xs:List Int):(fl (eI k) xs).map nzF=fl (eI k) xs:=by
 induction xs with
 |nil=>rfl
 |cons x xs ih=>
  show nzF _::(fl (eI k) xs).map nzF=_
  rw[ih];rfl
theorem nzF_rules(rs:List Rul):(fl eR rs).map nzF=fl eR rs:=by
 induction rs with
 |nil=>rfl
 |cons x xs ih=>
  show[nzF _,nzF _,nzF _]++(fl eR xs).map nzF=_
  rw[ih,fints,nzF_sl,nzF_ints];rfl
theorem frzS_cells{S:Nat→Bool}{H:Heap}{n:Nat}:∀(l:List FV),(l.map CV.f).mapM (frzS S H n)=some (l.map nzF)
 |[]=>rfl
 |x::l=>by
  rw[List.map_cons,List.mapM_cons,frzS_cells l]
  cases n<;>rfl
theorem OwnL.frzS{S:Nat→Bool}{H:Heap}{c:CV}{rs:List Rul}(h:OwnL eR 3 H c rs)(hs:∀i,idsC c i→S i=true)(m:Nat):frzS S H (m+1) c=some (fsl eR rs):=by
 cases h with
 |n=>rfl
 |m=>rfl
 |o id g xs h=>
  have e:(cl eR rs).take (rs.length*3)=cl eR rs:=List.take_of_length_le (Nat.le_of_eq (cl_length rs))
  simp only[Lg.frzS,hs id rfl,if_true,h,List.drop_zero,e]
  rw[show cl eR rs=(fl eR rs).map CV.f from rfl,frzS_cells,nzF_rules]
  rfl
theorem frzS_view{S:Nat→Bool}{H:Heap}{id g off n:Nat}{lim:Option Nat}{zs:List Int}(h:look H id g=some ⟨g,1,cl (eI .i64) zs⟩)(hs:S id=true)(hn:off+n≤zs.length)(m:Nat):Lg.frzS S H (m+1) (.own id g off n lim)=some (fints ((zs.drop off).take n)):=by
 have hv:=frz_view (lim:=lim) h hn
 have hl:((zs.drop off).take n).length=n:=by simp;omega
 simp only[frzC,frz,h,Option.map_map,Option.map_eq_some_iff]at hv
 obtain⟨l,h1,h2⟩:=hv
 simp only[Lg.frzS,hs,if_true,h]
 have e:((cl (eI .i64) zs).drop off).take (n*1)=cl (eI .i64) ((zs.drop off).take n):=by
  have e1:(cl (eI .i64) zs).drop off=cl (eI .i64) (zs.drop off):=by
   have:=List.take_append_drop off zs
   conv=>lhs;rw[←this,cl_append]
   rw[List.drop_append_of_le_length (by rw[cl_length];simp;omega),List.drop_of_length_le (by rw[cl_length];simp;omega),List.nil_append]
  rw[e1,Nat.mul_one]
  have:=List.take_append_drop n (zs.drop off)
  conv=>lhs;rw[←this,cl_append]
  rw[List.take_append_of_le_length (by rw[cl_length];simp;omega),List.take_of_length_le (by rw[cl_length];simp;omega)]
 rw[e,show cl (eI .i64) ((zs.drop off).take n)=(fl (eI .i64) ((zs.drop off).take n)).map CV.f from rfl,frzS_cells,nzF_ints,Option.map_some]
 rw[show fints ((zs.drop off).take n)= .sl ((zs.drop off).take n).length (fl (eI .i64) ((zs.drop off).take n))from rfl,hl]
theorem appendM_LL{α:Type}{E:α→List FV}{n:Nat}[HSz E n]{P:Program}{H:Heap}{t:TypeId}{ei:TI}{K:KV}(ht:sliceOf P t=some ei)(hz:ei.zero.length=ei.size∧ei.size=n∧0<n∧ei.bytes≤64){c:CV}{xs ys:List α}(h:OwnL E n H c xs)(hx:xs.length≤2^40∧ys.length≤2^40)
 {src:AV} (hel:elems H n src=some (ys.length,cl E ys))
 (hk:∀c' H',OwnL E n H' c' (xs++ys)→(∀k,k<H.length→¬idsC c k→H'[k]? =H[k]?)→(∀k,idsC c' k→idsC c k∨k=H.length)→H.length≤H'.length→(∀k,idsC c' k→k<H'.length)→K (.c c') H'):
 appendM P H t (.c c) src K:=by
 obtain⟨hz1,rfl,hz3,hz4⟩:=hz
 have hb:∀k:Nat,k≤2^41→k*ei.bytes≤140737488355328:=fun k hk=>by
  have:k*ei.bytes≤k*64:=Nat.mul_le_mul_left _ hz4
  omega
 unfold appendM
 rcases Nat.eq_zero_or_pos ys.length with h0|h0
 · have:ys=[]:=List.eq_nil_of_length_eq_zero h0
   subst this
   rw[List.append_nil]at hk
   have hr:=hk c H h (fun _ _ _=>rfl) (fun k hk=> .inl hk) (Nat.le_refl _) h.lt
   cases h with
   |n=>simp only[ht,hz1,if_true,hel];simp only[elems,appM];exact hr
   |m=>simp only[ht,hz1,if_true,hel];simp only[elems,appM];exact hr
   |o id g xs hl2=>
    have hcl:(cl E xs).length=xs.length*ei.size:=cl_length xs
    have hel2:elems H ei.size (.c (.own id g 0 xs.length none))=some (xs.length,cl E xs):=by
     simp only[elems,hl2,List.drop_zero,if_true,List.take_of_length_le (Nat.le_of_eq hcl)]
    simp only[ht,hz1,if_true,hel,hel2]
    simp only[appM]
    exact hr
 cases h with
 |n=>
  simp only[ht,hz1,if_true,hel]
  simp only[elems,appM,okP,newM]
  rw[if_neg (by omega)]
  refine⟨⟨by omega,hb _ (by omega)⟩,fun g'=> ?_⟩
  have:=OwnL.o (E:=E) (n:=ei.size) (H:=H++[some ⟨g',ei.size,cl E ys⟩]) H.length g' ys look_last
  exact hk _ _ this (fun k hk _=>List.getElem?_append_left hk) (fun k hk=> .inr hk) (by simp) (fun k hk=>by cases hk;simp)
 |m=>
  simp only[ht,hz1,if_true,hel]
  simp only[elems,appM,okP,newM]
  rw[if_neg (by omega)]
  refine⟨⟨by omega,hb _ (by omega)⟩,fun g'=> ?_⟩
  have:=OwnL.o (E:=E) (n:=ei.size) (H:=H++[some ⟨g',ei.size,cl E ys⟩]) H.length g' ys look_last
  exact hk _ _ this (fun k hk _=>List.getElem?_append_left hk) (fun k hk=> .inr hk) (by simp) (fun k hk=>by cases hk;simp)
 |o id g xs hl2=>
  have hlt:id<H.length:=(List.getElem?_eq_some_iff.1 (look_some hl2).1).1
  have hcl:(cl E xs).length=xs.length*ei.size:=cl_length xs
  have hel2:elems H ei.size (.c (.own id g 0 xs.length none))=some (xs.length,cl E xs):=by
   simp only[elems,hl2,List.drop_zero,if_true,List.take_of_length_le (Nat.le_of_eq hcl)]
  simp only[ht,hz1,if_true,hel,hel2]
  simp only[appM,hl2,hcl,if_true,okP]
  rw[if_neg (by omega)]
  refine⟨⟨by first|trivial|omega,hz3,trivial,by omega,hb _ (by omega)⟩,fun g'=> ?_⟩
  have:=OwnL.o (E:=E) (n:=ei.size) (H:=H.set id (some ⟨g',ei.size,cl E xs++cl E ys⟩)) id g' (xs++ys) (by rw[cl_append];exact look_set_eq' hlt)
  rw[List.length_append]at this
  exact hk _ _ this (fun k _ hk=>by rw[List.getElem?_set_ne (fun h=>hk h.symm)]) (fun k hk=> .inl hk) (by simp) (fun k hk=>by cases hk;simpa using hlt)
theorem elems_f{α:Type}{E:α→List FV}{n:Nat}[HSz E n]{H:Heap}{ys:List α}:elems H n (.c (.f (fsl E ys)))=some (ys.length,cl E ys):=by
 have:(fl E ys).length=ys.length*n:=fl_length ys
 simp only[elems]
 first|rfl|simp[this,cl]
end Go.Lg

namespace Go.Lg
open Go.Proofs
def prodV(vs:List Int):Int:=vs.foldl (fun a v=>a*v) 1
def holdsV(r:Rul)(vs:List Int):Bool:=
 if r.kind=1 then decide vs.Nodup else if r.kind=2 then decide (vs.sum=r.val)else if r.kind=3 then decide (prodV vs=r.val)
 else if r.kind=4 then decide (nth vs 0<nth vs 1)else decide (max (nth vs 0 -nth vs 1) (nth vs 1 -nth vs 0)=r.val)
def orV(o:List Nat)(vs:List Int):List Nat:=o.zipWith (fun x v=>x|||2^v.toNat) vs
def ways(r:Rul):List Nat→List Int→List Nat→List Nat
 |[],pre,o=>if holdsV r pre=true then orV o pre else o
 |m::ms,pre,o=>[1,2,3,4].foldl (fun o (v:Nat)=>if m.testBit v=true then ways r ms (pre++[(v:Int)]) o else o) o
def maskAt(xs:List Int)(n:Nat)(c:Int):Nat:=if 0<nth xs c then 2^(nth xs c).toNat else 2^(n+1) -2
def canHold(r:Rul)(xs:List Int)(n:Nat):Bool:=(ways r (r.cells.map (maskAt xs n)) [] (List.replicate r.cells.length 0)).getD 0 0 !=0
def clear(p:Puz)(xs:List Int):Bool:=decide (∀k:Nat,k<xs.length→¬(0<nth p.given k∧0<nth xs k∧nth xs k≠nth p.given k))
def fitsL(p:Puz)(xs:List Int)(n:Nat):Bool:=clear p xs&&(p.rules.all (fun r=>canHold r xs n)&& !clash xs n)
end Go.Lg
