/- GpDI, GpEF, cut to what is needed. -/
import Derived.Test.YtiahmfdabpafoaaDoorGac5
import Derived.Test.YtiahmfdabpafoaaDoorGac4
open Nat renaming reduceAdd→zA,reduceMul→zM,reduceSub→zS,reduceEqDiff→zE,reduceLeDiff→zL
set_option linter.unusedSimpArgs false
set_option linter.unusedVariables false
set_option maxRecDepth 100000
namespace Go.Lg
open Go.Proofs
attribute [-go_sem] appendM lwF_cons
theorem appendM_emp2{P:Program}{H:Heap}{t:TypeId}{ei:TI}{K:KV}(ht:sliceOf P t=some ei)(hz:ei.zero.length=ei.size∧ei.size=1∧ei.bytes=8){xs:List Int}(hx:xs.length≤2^40)
 (hk:∀c H' S,OwnE (H++H') c xs S→(∀k∈S,H.length≤k∧k<H.length+H'.length)→(H'.length=S.length∧S.length≤1)→K (.c c) (H++H')):appendM P H t (.c .emp) (.c (.f (.sl xs.length (fl (eI .i64) xs)))) K:=by
 obtain⟨hz1,hz2,hz3⟩:=hz
 unfold appendM
 simp only[ht,hz1,hz2,if_true,elems,fl_length,appM]
 split
 · rename_i h0
   have:xs=[]:=List.eq_nil_of_length_eq_zero h0
   subst this
   have:=hk .emp [] [] .m (by simp) (by simp)
   rwa [List.append_nil]at this
 · refine⟨⟨by omega,by rw[hz3];omega⟩,fun g=> ?_⟩
   exact hk _ [some ⟨g,1,cl (eI .i64) xs⟩] [H.length] (.o H.length g xs (look_of (b:=⟨g,1,cl (eI .i64) xs⟩) (by simp))) (by simp) (by simp)
theorem appendM_copyF{P:Program}{HI:Heap}{t:TypeId}{ei:TI}{K:KV}(ht:sliceOf P t=some ei)(hz:ei.zero.length=ei.size∧ei.size=1∧ei.bytes=8){xs:List Int}(hx:0<xs.length∧xs.length≤2^40){g0:Nat}
 (hk:∀g',K (.c (.own HI.length g' 0 xs.length none)) (HI++[some ⟨g',1,cl (eI .i64) xs⟩])):
 appendM P (HI++[some ⟨g0,1,[]⟩]) t (.c (.own HI.length g0 0 0 none)) (.c (.f (.sl xs.length (fl (eI .i64) xs)))) K:=by
 obtain⟨hz1,hz2,hz3⟩:=hz
 unfold appendM
 simp only[ht,hz1,hz2,if_true,elems,look_last,fl_length,appM,Nat.mul_one]
 rw[if_neg (by omega)]
 simp only[List.length_nil,Nat.zero_mul,if_true,okP,Nat.zero_add,List.nil_append,set_last]
 exact⟨⟨trivial,by omega,trivial,by omega,by rw[hz3];omega⟩,hk⟩
theorem l5Search_frz{p:Puz}{n:Nat}(hp:PuzN p n)(most:Nat)(hmo:most≤600)(m:Nat)(H:Heap)(xs:List Int)(pid pg:Nat)(ls:List (List Int))(S:List Nat)(hm:m≤n*n)(hg:GrdN xs n)(hls:ls.length<most)(hout:OutL H pid pg ls S)(hSl:∀k∈S,k<H.length):
 RunCall Tryd.prog 138 [aP p,ints xs,int ((n*n -m:Nat):Int),int most, .c (.ptr pid pg 0)] H (searchQ p n m xs ls most H pid pg S):=by
 have hn:=hp.hn
 have hz:=hp.size
 have hxl:=hg.len
 have hsq:4≤n*n∧n*n≤16:=by rcases hn with rfl|rfl|rfl<;>omega
 obtain⟨⟨oid,og,cs,o1,o2,o3,o4,o5⟩,opn⟩:=hout
 have hplt:pid<H.length:=(List.getElem?_eq_some_iff.1 (look_some o1).1).1
 refine RunCall.cw (c:=_) Tryd.func138 rfl (n:=70) Tryd.ntmps138 (rs:=[]) rfl ?_
 simp only[List.length_cons,List.length_nil,zA,zS,List.replicate,List.cons_append,List.nil_append]
 simp(maxSteps:=999999)(disch:=omega)only[go_sem,zA,zM,zS,zE,zL]
 intro gb
 obtain⟨HK,hHK⟩:∃HK:Heap,HK=H++[some ⟨gb,1,cP p⟩]:=⟨_,rfl⟩
 have hKl:HK.length=H.length+1:=by rw[hHK];simp
 have hKg:∀k,k<H.length→HK[k]? =H[k]? :=fun k hk=>by rw[hHK,List.getElem?_append_left hk]
 have bK:look HK H.length gb=some ⟨gb,1,cP p⟩:=by rw[hHK];exact look_last
 have oK:OutL HK pid pg ls S:=OutL.same ⟨⟨oid,og,cs,o1,o2,o3,o4,o5⟩,opn⟩ fun i hi=>hKg i (by rcases hi with rfl|hi;exact hplt;exact hSl i hi)
 rw[←hHK]
 clear hHK
 refine loop_rule (fun a:Nat=>n*n -a) (fun a=>n*n -m≤a∧a≤n*n∧sols p n (n*n -a) xs=sols p n m xs) (fun a=>[.a, .k, .p (int a), .k, .k, .k, .a, .a, .a, .a, .a, .a, .a, .a, .a, .a, .a, .a, .a, .a, .a, .a, .a, .a, .a, .a, .a, .a, .a, .a, .a, .a, .a, .a, .a, .a, .a, .a, .a, .a, .a, .a, .a, .a, .a, .a, .a, .a, .a, .a, .a, .a, .a, .a, .a, .a, .a, .a, .a, .a, .a, .a, .a, .a, .a, .a, .a, .a, .a, .a]) (fun _=>HK) (n*n -m) ⟨Nat.le_refl _,by omega,by rw[show n*n -(n*n -m)=m by omega]⟩ (by simp(maxSteps:=999999)(disch:=omega)only[go_sem,zA,zM,zS,zE,zL]) (HLe.refl _) ?_
 rintro a ⟨ha1,ha2,hsol⟩
 simp(maxSteps:=999999)(disch:=omega)only[go_sem,zA,zM,zS,zE,zL]
 ((with_reducible first|refine guardK_dec ?_ ?_|refine guardK_ndec ?_ ?_|refine guardK_nb ?_ ?_|refine guardK_split ?_ ?_|refine guardQ_dec ?_ ?_|refine guardL_dec ?_ ?_|refine guardQ_ndec ?_ ?_|refine guardL_ndec ?_ ?_|refine guardQ_nb ?_ ?_|refine guardL_nb ?_ ?_|refine guardQ_split ?_ ?_|refine guardL_split ?_ ?_)<;>intro h1<;>simp(maxSteps:=999999)(disch:=omega)only[go_sem,zA,zM,zS,zE,zL,h1])
 · have h1:a<xs.length:=by omega
   have hss:sols p n (n*n -a) xs=if 0<nth xs a then sols p n (n*n -(a+1)) xs else(vals n 1).flatMap fun(v:Nat)=>if fitsL p (xs.set a (v:Int)) n=true then sols p n (n*n -(a+1)) (xs.set a (v:Int))else[]:=by
    rw[show n*n -a=(n*n -(a+1))+1 by omega]
    have e:xs.length -(n*n -(a+1)+1)=a:=by omega
    conv=>lhs;rw[sols,e]
    rfl
   ((first|(with_reducible first|refine condK_dec ?_ ?_|refine condK_ndec ?_ ?_|refine condK_nb ?_ ?_)|refine condK_b ?_ ?_)<;>intro h2)
   · simp(maxSteps:=999999)(disch:=omega)only[go_sem,zA,zM,zS,zE,zL]
     exact⟨a+1,⟨⟨by omega,by omega,by rw[←hsol,hss,if_pos h2]⟩,by omega⟩,by push_cast;omega,HLe.refl _⟩
   · simp(maxSteps:=999999)(disch:=omega)only[go_sem,zA,zM,zS,zE,zL]
     ((first|(with_reducible first|refine condK_dec ?_ ?_|refine condK_ndec ?_ ?_|refine condK_nb ?_ ?_)|refine condK_b ?_ ?_)<;>intro h3)
     · exfalso;omega
     simp(maxSteps:=999999)(disch:=omega)only[go_sem,zA,zM,zS,zE,zL]
     have hgoal:sols p n m xs=(vals n 1).flatMap fun(v:Nat)=>if fitsL p (xs.set a (v:Int)) n=true then sols p n (n*n -(a+1)) (xs.set a (v:Int))else[]:=by rw[←hsol,hss,if_neg h2]
     refine loop_rule3 (fun(v:Nat) (HI:Heap) (l:List (List Int))=>n+1 -v) (fun v HI l=>1≤v∧v≤n+1∧goV p n (n*n -(a+1)) xs a most (vals n v) l=goV p n (n*n -(a+1)) xs a most (vals n 1) ls∧l.length≤most∧HK.length≤HI.length∧∃S',OutL HI pid pg l S'∧(∀k∈S',k∈S∨HK.length≤k)∧(∀k∈S',k<HI.length)∧∀k,k<HK.length→k≠pid→k∉S→HI[k]? =HK[k]?)
      (fun v _ _=>[.a, .k, .k, .k, .k, .k, .a, .a, .a, .a, .p (int v), .a, .a, .a, .a, .a, .a, .a, .a, .a, .a, .a, .a, .a, .a, .a, .a, .a, .a, .a, .a, .a, .a, .a, .a, .a, .a, .a, .a, .a, .a, .a, .a, .a, .a, .a, .a, .a, .a, .a, .a, .a, .a, .a, .a, .a, .a, .a, .a, .a, .a, .a, .a, .a, .a, .a, .a, .a, .a, .a]) (fun _ HI _=>HI) 1 HK ls ⟨Nat.le_refl _,by omega,rfl,by omega,Nat.le_refl _,S,oK,fun k hk=> .inl hk,fun k hk=>by have:=hSl k hk;omega,fun _ _ _ _=>rfl⟩ (by simp(maxSteps:=999999)(disch:=omega)only[go_sem,zA,zM,zS,zE,zL];rfl) (HLe.refl _) ?_
     rintro v HI l ⟨hv1,hv2,hgo,hlm,hlI,S',oI,hS1,hS2,hfI⟩
     have bI:look HI H.length gb=some ⟨gb,1,cP p⟩:=by unfold look;rw[hfI H.length (by omega) (by omega) (fun h=>by have:=hSl _ h;omega)];exact bK
     obtain⟨⟨oid',og',cs',q1,q2,q3,q4,q5⟩,qpn⟩:=oI
     have q6:nilV HI (.c (.ptr pid pg 0))=some (.c (.ptr pid pg 0)):=nilV_ptr q1
     simp(maxSteps:=999999)(disch:=omega)only[go_sem,zA,zM,zS,zE,zL,bI]
     ((with_reducible first|refine guardK_dec ?_ ?_|refine guardK_ndec ?_ ?_|refine guardK_nb ?_ ?_|refine guardK_split ?_ ?_|refine guardQ_dec ?_ ?_|refine guardL_dec ?_ ?_|refine guardQ_ndec ?_ ?_|refine guardL_ndec ?_ ?_|refine guardQ_nb ?_ ?_|refine guardL_nb ?_ ?_|refine guardQ_split ?_ ?_|refine guardL_split ?_ ?_)<;>intro c1<;>simp(maxSteps:=999999)(disch:=omega)only[go_sem,zA,zM,zS,zE,zL,c1])
     · have hvn:v≤n:=by omega
       simp(maxSteps:=999999)(disch:=omega)only[go_sem,zA,zM,zS,zE,zL,bI,q1,q2,q6]
       ((first|(with_reducible first|refine condK_dec ?_ ?_|refine condK_ndec ?_ ?_|refine condK_nb ?_ ?_)|refine condK_b ?_ ?_)<;>intro c2)
       · have c2:l.length<most:=by omega
         simp(maxSteps:=999999)(disch:=omega)only[go_sem,zA,zM,zS,zE,zL]
         intro g0
         refine appendM_copyF (sliceOf_of' ti22 rfl ti3) ⟨rfl,rfl,rfl⟩ (by omega) ?_
         intro g1
         simp(maxSteps:=999999)(disch:=omega)only[go_sem,zA,zM,zS,zE,zL,look_last,set_last]
         rw[Int.toNat_natCast]
         obtain⟨HN,hHN⟩:∃HN:Heap,HN=HI++[some ⟨g1,1,cl (eI .i64) (xs.set a v)⟩]:=⟨_,rfl⟩
         have hNl:HN.length=HI.length+1:=by rw[hHN];simp
         have hNg:∀k,k<HI.length→HN[k]? =HI[k]? :=fun k hk=>by rw[hHN,List.getElem?_append_left hk]
         have hle:HLe HN HI:=by rw[hHN];exact HLe.app _ _
         have bN:look HN H.length gb=some ⟨gb,1,cP p⟩:=by unfold look;rw[hNg H.length (by omega)];exact bI
         have nN:look HN HI.length g1=some ⟨g1,1,cl (eI .i64) (xs.set a v)⟩:=by rw[hHN];exact look_last
         have oN:OutL HN pid pg l S':=OutL.same ⟨⟨oid',og',cs',q1,q2,q3,q4,q5⟩,qpn⟩ fun i hi=>hNg i (by rcases hi with rfl|hi;omega;exact hS2 i hi)
         rw[←hHN]
         clear hHN
         have hgs:GrdN (xs.set a (v:Int)) n:=⟨by rw[List.length_set];exact hxl,fun k hk=>by
          rw[List.length_set]at hk
          rw[nth_setN _ _ _ _ h1]
          split
          · omega
          · exact hg.val k hk⟩
         have hown:OwnI HN (.own HI.length g1 0 xs.length none) (xs.set a (v:Int)) [HI.length]:=by
          have:=OwnI.o (H:=HN) HI.length g1 none (xs.set a (v:Int)) [] (by rw[List.append_nil];exact nN)
          rwa [List.length_set]at this
         simp(maxSteps:=999999)(disch:=omega)only[go_sem,zA,zM,zS,zE,zL,bN]
         refine OpS.rdD (l5Fits_run hp (xs.set a (v:Int)) hgs) (⟨_,Tryd.func120,rfl,rfl⟩:Enters Tryd.prog 120) rfl rfl (snap_two rfl hown.snap) rfl ?_
         simp(maxSteps:=999999)(disch:=omega)only[go_sem,zA,zM,zS,zE,zL]
         ((first|(with_reducible first|refine condK_dec ?_ ?_|refine condK_ndec ?_ ?_|refine condK_nb ?_ ?_)|refine condK_b ?_ ?_)<;>intro c3)
         · simp(maxSteps:=999999)(disch:=omega)only[go_sem,zA,zM,zS,zE,zL,bN]
           have hrec:=l5Search_run hp most hmo (n*n -(a+1)) HN HI.length g1 (xs.set a (v:Int)) pid pg l S' (by omega) hgs nN (fun h=>by have:=hS2 _ h;omega) (by omega) c2 oN (fun k hk=>by have:=hS2 k hk;omega)
           rw[List.length_set,show((n*n -(n*n -(a+1)):Nat):Int)=(a:Int)+1 by omega]at hrec
           refine OpS.run hrec (⟨_,Tryd.func138,rfl,rfl⟩:Enters Tryd.prog 138) rfl rfl ?_
           rintro _ H2 ⟨rfl,S2,oo,t1,t2,tl,tf⟩
           simp(maxSteps:=999999)(disch:=omega)only[go_sem,zA,zM,zS,zE,zL]
           refine⟨v+1,H2,l++(sols p n (n*n -(a+1)) (xs.set a (v:Int))).take (most -l.length),⟨⟨by omega,by omega, ?_,by simp;omega,by omega,S2,oo,fun k hk=> ?_,t2,fun k hk hkp hkS=> ?_⟩,by omega⟩,by push_cast;omega,HLe.refl _⟩
           · rw[←hgo,vals_cons ⟨hv1,hvn⟩]
             conv=>rhs;unfold goV
             rw[if_pos c2,if_pos c3]
           · rcases t1 k hk with h|h
             · rcases hS1 k h with h|h
               · exact .inl h
               · exact .inr h
             · exact .inr (by omega)
           · have hkS':k∉S':=fun h=>by
              rcases hS1 k h with h|h
              · exact hkS h
              · omega
             rw[tf k (by omega) hkp hkS',hNg k (by omega),hfI k hk hkp hkS]
         · simp(maxSteps:=999999)(disch:=omega)only[go_sem,zA,zM,zS,zE,zL]
           refine⟨v+1,HI,l,⟨⟨by omega,by omega, ?_,hlm,hlI,S',⟨⟨oid',og',cs',q1,q2,q3,q4,q5⟩,qpn⟩,hS1,hS2,hfI⟩,by omega⟩,by push_cast;omega,hle⟩
           rw[←hgo,vals_cons ⟨hv1,hvn⟩]
           conv=>rhs;unfold goV
           rw[if_pos c2,if_neg (by rw[c3];simp)]
       · simp(maxSteps:=999999)(disch:=omega)only[go_sem,zA,zM,zS,zE,zL]
         have hend:goV p n (n*n -(a+1)) xs a most (vals n 1) ls=l:=by rw[←hgo];exact goV_full (by omega)
         rw[goV_eq _ _ _ _ _ _ _ _ (by omega),←hgoal]at hend
         refine⟨HI,HLe.refl _,rfl,S', ?_,fun k hk=> ?_,hS2,by omega,fun k hk hkp hkS=>by rw[hfI k (by omega) hkp hkS,hKg k hk]⟩
         · rw[hend];exact⟨⟨oid',og',cs',q1,q2,q3,q4,q5⟩,qpn⟩
         · rcases hS1 k hk with h|h
           · exact .inl h
           · exact .inr (by omega)
     · have hve:v=n+1:=by omega
       have hend:goV p n (n*n -(a+1)) xs a most (vals n 1) ls=l:=by rw[←hgo,hve,vals_nil];rfl
       rw[goV_eq _ _ _ _ _ _ _ _ (by omega),←hgoal]at hend
       refine⟨HI,HLe.refl _,rfl,S', ?_,fun k hk=> ?_,hS2,by omega,fun k hk hkp hkS=>by rw[hfI k (by omega) hkp hkS,hKg k hk]⟩
       · rw[hend];exact⟨⟨oid',og',cs',q1,q2,q3,q4,q5⟩,qpn⟩
       · rcases hS1 k hk with h|h
         · exact .inl h
         · exact .inr (by omega)
 · have hae:a=n*n:=by omega
   ((first|(with_reducible first|refine condK_dec ?_ ?_|refine condK_ndec ?_ ?_|refine condK_nb ?_ ?_)|refine condK_b ?_ ?_)<;>intro h3)
   · simp(maxSteps:=999999)(disch:=omega)only[go_sem,zA,zM,zS,zE,zL]
     have hpo:pid≠oid:=fun h=>opn (by rw[h];exact o3)
     have holt:oid<H.length:=hSl oid o3
     have oK1:look HK pid pg=some ⟨pg,1,[.own oid og 0 ls.length none]⟩:=by unfold look;rw[hKg pid hplt];exact o1
     have oK2:look HK oid og=some ⟨og,1,cs⟩:=by unfold look;rw[hKg oid holt];exact o2
     have hM1:look (mask (hideM oid HK.length (HK.length+3)) HK) pid pg=some ⟨pg,1,[.own oid og 0 ls.length none]⟩:=by rw[look_mask (hideM_no hpo (by omega))];exact oK1
     have hM2:nilV (mask (hideM oid HK.length (HK.length+3)) HK) (.c (.ptr pid pg 0))=some (.c (.ptr pid pg 0)):=nilV_ptr hM1
     refine drawP_lM [0,1,2,3,4,5,6,7,8] [4] none [9,10] (hideM oid HK.length (HK.length+3)) [0,0,2,6,0,0,48,112,254,511,1023] foll (by kernel_rfl) ?_
     iterate 7 (rw[lwF_cons];simp(maxSteps:=999999)(disch:=omega)only[go_sem,zA,zM,zS,zE,zL,hM1,hM2])
     refine appendM_emp2 (sliceOf_of' ti22 rfl ti3) ⟨rfl,rfl,rfl⟩ (by omega) ?_
     intro c4 H4 S4 k4 hS4 hl4
     obtain⟨id4,g4,rfl,rfl,l4⟩:=k4.inv (by intro h0;rw[h0]at hxl;simp at hxl;omega)
     simp only[List.length_singleton]at hl4
     have hi4:=hS4 id4 (by simp)
     refine⟨okM_gen fun j b hj hb=>by rw[List.getElem?_append_left (List.getElem?_eq_some_iff.1 hb).1];exact hb, ?_⟩
     rw[lwF_cons]
     simp(maxSteps:=999999)(disch:=omega)only[go_sem,zA,zM,zS,zE,zL]
     intro g5
     refine⟨okM_gen fun j b hj hb=>by rw[List.getElem?_append_left (List.getElem?_eq_some_iff.1 hb).1];exact hb, ?_⟩
     rw[lwF_cons]
     simp(maxSteps:=999999)(disch:=omega)only[go_sem,zA,zM,zS,zE,zL]
     have hbl:look (HK++H4++[some ⟨g5,1,[CV.own id4 g4 0 xs.length none]⟩]) (HK.length+H4.length) g5=some ⟨g5,1,[CV.own id4 g4 0 xs.length none]⟩:=by
      have:=look_last (H:=HK++H4) (g:=g5) (sz:=1) (cs:=[CV.own id4 g4 0 xs.length none])
      rwa [List.length_append]at this
     have hol:look (HK++H4++[some ⟨g5,1,[CV.own id4 g4 0 xs.length none]⟩]) oid og=some ⟨og,1,cs⟩:=look_appL (look_appL oK2)
     refine appendM_cells (sliceOf_of' ti74 rfl ti22) ⟨rfl,rfl,by decide⟩ (by omega) hol o4 hbl ?_
     intro g6
     refine⟨okM_gen fun j b hj hb=>by
      have hjl:=(List.getElem?_eq_some_iff.1 hb).1
      simp only[List.length_append,List.length_singleton]at hjl
      obtain⟨hjo,_⟩:=hideM_yes hj (by omega)
      rw[List.getElem?_set_ne (Ne.symm hjo)];exact hb, ?_⟩
     obtain⟨HL,hHL⟩:∃HL:Heap,HL=(HK++H4++[some ⟨g5,1,[CV.own id4 g4 0 xs.length none]⟩]:Heap).set oid (some ⟨g6,1,cs++[CV.own id4 g4 0 xs.length none]⟩):=⟨_,rfl⟩
     have hLl:HL.length=HK.length+2:=by rw[hHL,List.length_set];simp;omega
     have hL3:∀j,j<HK.length→j≠oid→HL[j]? =HK[j]? :=fun j hj hn=>by rw[hHL,List.getElem?_set_ne (Ne.symm hn),List.append_assoc,List.getElem?_append_left hj]
     have hL1:look HL pid pg=some ⟨pg,1,[.own oid og 0 ls.length none]⟩:=by unfold look;rw[hL3 pid (by omega) hpo];exact oK1
     have hL2:look HL oid g6=some ⟨g6,1,cs++[CV.own id4 g4 0 xs.length none]⟩:=by rw[hHL];exact look_set_eq' (by simp;omega)
     have hL4:look HL id4 g4=some ⟨g4,1,cl (eI .i64) xs⟩:=by rw[hHL,look_set_ne' (by omega)];exact look_appL l4
     rw[←hHL]
     clear hHL
     have hL5:nilV HL (.c (.ptr pid pg 0))=some (.c (.ptr pid pg 0)):=nilV_ptr hL1
     simp(maxSteps:=999999)(disch:=omega)only[go_sem,zA,zM,zS,zE,zL,hL1,hL5]
     have hs1:sols p n m xs=[xs]:=by rw[←hsol,show n*n -a=0 by omega];rfl
     have hfin:OutL (HL.set pid (some ⟨pg,1,[CV.own oid g6 0 (ls.length+1) none]⟩)) pid pg (ls++[xs]) (id4::S):=by
      have hlen1:(ls++[xs]).length=ls.length+1:=by simp
      refine⟨⟨oid,g6,cs++[CV.own id4 g4 0 xs.length none],by rw[hlen1];exact look_set_eq' (by omega),by rw[look_set_ne' hpo];exact hL2,by simp[o3],by simp[o4],fun i hi=> ?_⟩,by simp;exact⟨by omega,opn⟩⟩
      rw[hlen1]at hi
      by_cases hil:i<ls.length
      · obtain⟨id,g,k1,k2,k3,hio⟩:=o5 i hil
        have hidl:=hSl id k3
        refine⟨id,g,by rw[List.getElem?_append_left (by omega)];rw[List.getElem_append_left hil];exact k1, ?_,by simp[k3],hio⟩
        rw[List.getElem_append_left hil,look_set_ne' (fun h=>opn (by rw[h];exact k3))]
        unfold look
        rw[hL3 id (by omega) hio,hKg id hidl]
        exact k2
      · have hie:i=ls.length:=by omega
        subst hie
        refine⟨id4,g4, ?_, ?_,by simp,by omega⟩
        · rw[List.getElem?_append_right (by omega),o4]
          simp
        · rw[look_set_ne' (by omega)]
          simp only[List.getElem_append_right (Nat.le_refl _),Nat.sub_self,List.getElem_singleton]
          exact hL4
     refine⟨_,HLe.refl _,rfl,id4::S, ?_, ?_, ?_,by simp;omega,fun k hk hkp hkS=> ?_⟩
     · rw[hs1,List.take_of_length_le (by simp;omega)]
       exact hfin
     · intro k hk
       rcases List.mem_cons.1 hk with rfl|hk
       · exact .inr (by omega)
       · exact .inl hk
     · intro k hk
       rw[List.length_set]
       rcases List.mem_cons.1 hk with rfl|hk
       · omega
       · have:=hSl k hk;omega
     · rw[List.getElem?_set_ne (Ne.symm hkp),hL3 k (by omega) (fun h=>hkS (by rw[h];exact o3)),hKg k hk]
   · exfalso;omega
end Go.Lg

namespace Go.Lg
open Go.Proofs
theorem binA_ne'{P:Program}{H:Heap}{t e:TypeId}{ti:TI}{n:Nat}{cs:List FV}(ht:tinf P t=some ti)(hk:ti.k= .slice e)(hn:0<n):binA P H .eql t (.c (.f (.sl n cs))) (.c (.f .nil))=some (.c (.f (.bool false))):=by
 unfold binA
 simp only[ht,hk,isNilV,if_neg (show¬n=0 by omega)]
 rfl
theorem shiftH_one{k g n:Nat}{xs:List Int}:shiftH k [some ⟨g,n,cl (eI .i64) xs⟩]=[some ⟨g,n,cl (eI .i64) xs⟩]:=by
 simp only[shiftH,List.map_cons,List.map_nil,Option.map_some,shiftB,shift_cl]
section
variable{P:Program}{o:Oper}{st:St}{K:KV}{fo:Operand}{xs:Array Operand}{ts:Array TypeId}{f:FuncId}{args args':List AV}{zs:List Int}{ops:Array Oper}{s:List AV}{H:Heap}
theorem OpS.mkDQ(hc:RunCall P f args' [] (ownQ (eI .i64) 1 zs))(he:Enters P f)(ho:o.op= .call ⟨.value fo,xs,ts⟩)(ha:callArgs st fo xs=some (f,args))(hs:args.mapM (snapD st.h)=some args')
 (hk:∀g,K (.c (.own st.h.length g 0 zs.length none)) (st.h++[some ⟨g,1,cl (eI .i64) zs⟩])):OpS P o st K:=
 OpS.mkD hc he ho ha hs fun r H' ⟨g,h1,h2⟩=>by
  subst h1 h2
  refine⟨⟨rfl,rfl,scalH_ints fun id b hb=>by simp at hb⟩, ?_⟩
  rw[shiftH_one]
  have:=hk g
  rwa [←Nat.zero_add st.h.length]at this
theorem Loud.mkDQ(hc:RunCall P f args' [] (ownQ (eI .i64) 1 zs))(he:Enters P f)(ho:o.op= .call ⟨.value fo,xs,ts⟩)(ha:callArgs ⟨s,H⟩ fo xs=some (f,args))(hs:args.mapM (snapD H)=some args')
 (hk:∀g,K (.c (.own H.length g 0 zs.length none)) (H++[some ⟨g,1,cl (eI .i64) zs⟩])):Loud P ops o s H K:=Loud.call ho ha fun s' ha'=>OpS.mkDQ hc he ho ha' hs hk
end
theorem Clone_q0(xs:List Int)(hx:xs.length≤2^40)(h0:xs≠[]):RunCall Tryd.prog 63 [ints xs] [] (ownQ (eI .i64) 1 xs):=by
 have hp:0<xs.length:=List.length_pos_iff.2 h0
 refine RunCall.cw (c:=_) Tryd.func63 rfl (n:=8) Tryd.ntmps63 (rs:=[.tmp 2]) rfl ?_
 simp only[List.length_cons,List.length_nil,zA,zS,List.replicate,List.cons_append,List.nil_append]
 simp(maxSteps:=999999)(disch:=omega)only[go_sem,zA,zM,zS,zE,zL,binA_ne' ti22 rfl hp]
 intro g g'
 rw[Nat.zero_add]
 exact lessQ_own (HLe.refl _)
attribute [-go_sem] appendM lwF_cons
theorem tell_run(most:Nat)(hmo:most≤600)(H:Heap)(gid gg:Nat)(xs:List Int)(pid pg mid mg:Nat)(ls:List (List Int))(S:List Nat)(hxl:0<xs.length∧xs.length≤16)(hgl:look H gid gg=some ⟨gg,1,cl (eI .i64) xs⟩)(hml:look H mid mg=some ⟨mg,1,[.f (.int .i64 most)]⟩)(hmp:mid≠pid)(hmS:mid∉S)(hls:ls.length<most)(hout:OutL H pid pg ls S)(hSl:∀k∈S,k<H.length):
 RunCall Tryd.prog 80 [.c (.own gid gg 0 xs.length none), .c (.ptr pid pg 0), .c (.ptr mid mg 0)] H (fun v H'=>v=bool (decide (ls.length+1<most))∧∃S',OutL H' pid pg (ls++[xs]) S'∧(∀k∈S',k∈S∨H.length≤k)∧(∀k∈S',k<H'.length)∧H.length≤H'.length∧∀k,k<H.length→k≠pid→k∉S→H'[k]? =H[k]?):=by
 obtain⟨⟨oid,og,cs,o1,o2,o3,o4,o5⟩,opn⟩:=hout
 have hplt:pid<H.length:=(List.getElem?_eq_some_iff.1 (look_some o1).1).1
 have hpo:pid≠oid:=fun h=>opn (by rw[h];exact o3)
 have holt:oid<H.length:=hSl oid o3
 refine RunCall.cw (c:=_) Tryd.func80 rfl (n:=14) Tryd.ntmps80 (rs:=[.tmp 4]) rfl ?_
 simp only[List.length_cons,List.length_nil,zA,zS,List.replicate,List.cons_append,List.nil_append]
 simp(maxSteps:=999999)(disch:=omega)only[go_sem,zA,zM,zS,zE,zL]
 have hM1:look (mask (hideM oid H.length (H.length+3)) H) pid pg=some ⟨pg,1,[.own oid og 0 ls.length none]⟩:=by rw[look_mask (hideM_no hpo (by omega))];exact o1
 have hM2:nilV (mask (hideM oid H.length (H.length+3)) H) (.c (.ptr pid pg 0))=some (.c (.ptr pid pg 0)):=nilV_ptr hM1
 refine drawP_lM [0,1,2,3] [] none [4,5] (hideM oid H.length (H.length+3)) [0,0,2,6,15,31] foll (by kernel_rfl) ?_
 iterate 3 (rw[lwF_cons];simp(maxSteps:=999999)(disch:=omega)only[go_sem,zA,zM,zS,zE,zL,hM1,hM2])
 have hown:OwnI H (.own gid gg 0 xs.length none) xs [gid]:=OwnI.o (H:=H) gid gg none xs [] (by rw[List.append_nil];exact hgl)
 refine Loud.mkDQ (Clone_q0 xs (by omega) (fun h=>by rw[h]at hxl;simp at hxl)) (⟨_,Tryd.func63,rfl,rfl⟩:Enters Tryd.prog 63) rfl rfl (snap_one hown.snap) ?_
 intro g4
 refine⟨okM_gen fun j b hj hb=>by rw[List.getElem?_append_left (List.getElem?_eq_some_iff.1 hb).1];exact hb, ?_⟩
 rw[lwF_cons]
 simp(maxSteps:=999999)(disch:=omega)only[go_sem,zA,zM,zS,zE,zL]
 intro g5
 refine⟨okM_gen fun j b hj hb=>by rw[List.getElem?_append_left (List.getElem?_eq_some_iff.1 hb).1];exact hb, ?_⟩
 have l4:look (H++[some ⟨g4,1,cl (eI .i64) xs⟩]) H.length g4=some ⟨g4,1,cl (eI .i64) xs⟩:=look_last
 have hbl:look (H++[some ⟨g4,1,cl (eI .i64) xs⟩]++[some ⟨g5,1,[CV.own H.length g4 0 xs.length none]⟩]) (H.length+1) g5=some ⟨g5,1,[CV.own H.length g4 0 xs.length none]⟩:=by
  have:=look_last (H:=H++[some ⟨g4,1,cl (eI .i64) xs⟩]) (g:=g5) (sz:=1) (cs:=[CV.own H.length g4 0 xs.length none])
  rwa [List.length_append,List.length_singleton]at this
 have hol:look (H++[some ⟨g4,1,cl (eI .i64) xs⟩]++[some ⟨g5,1,[CV.own H.length g4 0 xs.length none]⟩]) oid og=some ⟨og,1,cs⟩:=look_appL (look_appL o2)
 refine appendM_cells (sliceOf_of' ti74 rfl ti22) ⟨rfl,rfl,by decide⟩ (by omega) hol o4 hbl ?_
 intro g6
 obtain⟨HL,hHL⟩:∃HL:Heap,HL=(H++[some ⟨g4,1,cl (eI .i64) xs⟩]++[some ⟨g5,1,[CV.own H.length g4 0 xs.length none]⟩]:Heap).set oid (some ⟨g6,1,cs++[CV.own H.length g4 0 xs.length none]⟩):=⟨_,rfl⟩
 have hLl:HL.length=H.length+2:=by rw[hHL,List.length_set];simp
 have hL3:∀j,j<H.length→j≠oid→HL[j]? =H[j]? :=fun j hj hn=>by rw[hHL,List.getElem?_set_ne (Ne.symm hn),List.append_assoc,List.getElem?_append_left hj]
 have hL1:look HL pid pg=some ⟨pg,1,[.own oid og 0 ls.length none]⟩:=by unfold look;rw[hL3 pid (by omega) hpo];exact o1
 have hL2:look HL oid g6=some ⟨g6,1,cs++[CV.own H.length g4 0 xs.length none]⟩:=by rw[hHL];exact look_set_eq' (by simp;omega)
 have hL4:look HL H.length g4=some ⟨g4,1,cl (eI .i64) xs⟩:=by rw[hHL,look_set_ne' (by omega)];exact look_appL l4
 rw[←hHL]
 clear hHL
 have hL5:nilV HL (.c (.ptr pid pg 0))=some (.c (.ptr pid pg 0)):=nilV_ptr hL1
 simp(maxSteps:=999999)(disch:=omega)only[go_sem,zA,zM,zS,zE,zL,hL1,hL5]
 obtain⟨HF,hHF⟩:∃HF:Heap,HF=HL.set pid (some ⟨pg,1,[CV.own oid g6 0 (ls.length+1) none]⟩):=⟨_,rfl⟩
 have hlen1:(ls++[xs]).length=ls.length+1:=by simp
 have hmlt:mid<H.length:=(List.getElem?_eq_some_iff.1 (look_some hml).1).1
 have hF1:look HF pid pg=some ⟨pg,1,[CV.own oid g6 0 (ls.length+1) none]⟩:=by rw[hHF];exact look_set_eq' (by omega)
 have hF2:look HF mid mg=some ⟨mg,1,[.f (.int .i64 most)]⟩:=by
  rw[hHF,look_set_ne' (Ne.symm hmp)]
  unfold look
  rw[hL3 mid hmlt (fun h=>hmS (by rw[h];exact o3))]
  exact hml
 have hF3:look HF oid g6=some ⟨g6,1,cs++[CV.own H.length g4 0 xs.length none]⟩:=by rw[hHF,look_set_ne' hpo];exact hL2
 have hfin:OutL HF pid pg (ls++[xs]) (H.length::S):=by
  rw[hHF]
  refine⟨⟨oid,g6,cs++[CV.own H.length g4 0 xs.length none],by rw[hlen1];exact look_set_eq' (by omega),by rw[look_set_ne' hpo];exact hL2,by simp[o3],by simp[o4],fun i hi=> ?_⟩,by simp;exact⟨by omega,opn⟩⟩
  rw[hlen1]at hi
  by_cases hil:i<ls.length
  · obtain⟨id,g,k1,k2,k3,hio⟩:=o5 i hil
    have hidl:=hSl id k3
    refine⟨id,g,by rw[List.getElem?_append_left (by omega)];rw[List.getElem_append_left hil];exact k1, ?_,by simp[k3],hio⟩
    rw[List.getElem_append_left hil,look_set_ne' (fun h=>opn (by rw[h];exact k3))]
    unfold look
    rw[hL3 id (by omega) hio]
    exact k2
  · have hie:i=ls.length:=by omega
    subst hie
    refine⟨H.length,g4, ?_, ?_,by simp,by omega⟩
    · rw[List.getElem?_append_right (by omega),o4]
      simp
    · rw[look_set_ne' (by omega)]
      simp only[List.getElem_append_right (Nat.le_refl _),Nat.sub_self,List.getElem_singleton]
      exact hL4
 have hFl:HF.length=H.length+2:=by rw[hHF,List.length_set];omega
 have hFf:∀k,k<H.length→k≠pid→k∉S→HF[k]? =H[k]? :=fun k hk hkp hkS=>by rw[hHF,List.getElem?_set_ne (Ne.symm hkp),hL3 k (by omega) (fun h=>hkS (by rw[h];exact o3))]
 rw[←hHF]
 clear hHF
 simp(maxSteps:=999999)(disch:=omega)only[go_sem,zA,zM,zS,zE,zL,hF1,hF2,hF3]
 refine⟨HF,HLe.refl _, ?_,H.length::S,hfin, ?_, ?_,by omega,hFf⟩
 · rw[show decide (((ls.length+1:Nat):Int)<most)=decide (ls.length+1<most)from decide_eq_decide.2 (by omega)]
 · intro k hk
   rcases List.mem_cons.1 hk with rfl|hk
   · exact .inr (by omega)
   · exact .inl hk
 · intro k hk
   rcases List.mem_cons.1 hk with rfl|hk
   · omega
   · have:=hSl k hk;omega
end Go.Lg
