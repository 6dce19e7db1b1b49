/- GpDI, GpDJ, GpGB, cut to what is needed. -/
import Derived.Test.YtpdaalgdkdpihaaXac9
import Derived.Test.YtpdaalgdkdpihaaXac6
open Nat renaming reduceAdd→zA,reduceMul→zM,reduceSub→zS,reduceEqDiff→zE,reduceLeDiff→zL
set_option linter.unusedSimpArgs false
set_option linter.unusedVariables false
set_option maxRecDepth 100000
namespace Go.Lg
open Go.Proofs
attribute [-go_sem] appendM lwF_cons
theorem appendM_emp2{P:Program}{H:Heap}{t:TypeId}{ei:TI}{K:KV}(ht:sliceOf P t=some ei)(hz:ei.zero.length=ei.size∧ei.size=1∧ei.bytes=8){xs:List Int}(hx:xs.length≤2^40)
 (hk:∀c H' S,OwnE (H++H') c xs S→(∀k∈S,H.length≤k∧k<H.length+H'.length)→(H'.length=S.length∧S.length≤1)→K (.c c) (H++H')):appendM P H t (.c .emp) (.c (.f (.sl xs.length (fl (eI .i64) xs)))) K:=by
 obtain⟨hz1,hz2,hz3⟩:=hz
 unfold appendM
 simp only[ht,hz1,hz2,if_true,elems,fl_length,appM]
 split
 · rename_i h0
   have:xs=[]:=List.eq_nil_of_length_eq_zero h0
   subst this
   have:=hk .emp [] [] .m (by simp) (by simp)
   rwa [List.append_nil]at this
 · refine⟨⟨by omega,by rw[hz3];omega⟩,fun g=> ?_⟩
   exact hk _ [some ⟨g,1,cl (eI .i64) xs⟩] [H.length] (.o H.length g xs (look_of (b:=⟨g,1,cl (eI .i64) xs⟩) (by simp))) (by simp) (by simp)
theorem appendM_copyF{P:Program}{HI:Heap}{t:TypeId}{ei:TI}{K:KV}(ht:sliceOf P t=some ei)(hz:ei.zero.length=ei.size∧ei.size=1∧ei.bytes=8){xs:List Int}(hx:0<xs.length∧xs.length≤2^40){g0:Nat}
 (hk:∀g',K (.c (.own HI.length g' 0 xs.length none)) (HI++[some ⟨g',1,cl (eI .i64) xs⟩])):
 appendM P (HI++[some ⟨g0,1,[]⟩]) t (.c (.own HI.length g0 0 0 none)) (.c (.f (.sl xs.length (fl (eI .i64) xs)))) K:=by
 obtain⟨hz1,hz2,hz3⟩:=hz
 unfold appendM
 simp only[ht,hz1,hz2,if_true,elems,look_last,fl_length,appM,Nat.mul_one]
 rw[if_neg (by omega)]
 simp only[List.length_nil,Nat.zero_mul,if_true,okP,Nat.zero_add,List.nil_append,set_last]
 exact⟨⟨trivial,by omega,trivial,by omega,by rw[hz3];omega⟩,hk⟩
theorem l5Search_frz{p:Puz}{n:Nat}(hp:PuzN p n)(most:Nat)(hmo:most≤600)(m:Nat)(H:Heap)(xs:List Int)(pid pg:Nat)(ls:List (List Int))(S:List Nat)(hm:m≤n*n)(hg:GrdN xs n)(hls:ls.length<most)(hout:OutL H pid pg ls S)(hSl:∀k∈S,k<H.length):
 RunCall Try.prog 117 [aP p,ints xs,int ((n*n -m:Nat):Int),int most, .c (.ptr pid pg 0)] H (searchQ p n m xs ls most H pid pg S):=by
 have hn:=hp.hn
 have hz:=hp.size
 have hxl:=hg.len
 have hsq:4≤n*n∧n*n≤16:=by rcases hn with rfl|rfl|rfl<;>omega
 obtain⟨⟨oid,og,cs,o1,o2,o3,o4,o5⟩,opn⟩:=hout
 have hplt:pid<H.length:=(List.getElem?_eq_some_iff.1 (look_some o1).1).1
 refine RunCall.cw (c:=_) Try.func117 rfl (n:=70) Try.ntmps117 (rs:=[]) rfl ?_
 simp only[List.length_cons,List.length_nil,zA,zS,List.replicate,List.cons_append,List.nil_append]
 simp(maxSteps:=999999)(disch:=omega)only[go_sem,zA,zM,zS,zE,zL]
 intro gb
 obtain⟨HK,hHK⟩:∃HK:Heap,HK=H++[some ⟨gb,1,cP p⟩]:=⟨_,rfl⟩
 have hKl:HK.length=H.length+1:=by rw[hHK];simp
 have hKg:∀k,k<H.length→HK[k]? =H[k]? :=fun k hk=>by rw[hHK,List.getElem?_append_left hk]
 have bK:look HK H.length gb=some ⟨gb,1,cP p⟩:=by rw[hHK];exact look_last
 have oK:OutL HK pid pg ls S:=OutL.same ⟨⟨oid,og,cs,o1,o2,o3,o4,o5⟩,opn⟩ fun i hi=>hKg i (by rcases hi with rfl|hi;exact hplt;exact hSl i hi)
 rw[←hHK]
 clear hHK
 refine loop_rule (fun a:Nat=>n*n -a) (fun a=>n*n -m≤a∧a≤n*n∧sols p n (n*n -a) xs=sols p n m xs) (fun a=>[.a, .k, .p (int a), .k, .k, .k, .a, .a, .a, .a, .a, .a, .a, .a, .a, .a, .a, .a, .a, .a, .a, .a, .a, .a, .a, .a, .a, .a, .a, .a, .a, .a, .a, .a, .a, .a, .a, .a, .a, .a, .a, .a, .a, .a, .a, .a, .a, .a, .a, .a, .a, .a, .a, .a, .a, .a, .a, .a, .a, .a, .a, .a, .a, .a, .a, .a, .a, .a, .a, .a]) (fun _=>HK) (n*n -m) ⟨Nat.le_refl _,by omega,by rw[show n*n -(n*n -m)=m by omega]⟩ (by simp(maxSteps:=999999)(disch:=omega)only[go_sem,zA,zM,zS,zE,zL]) (HLe.refl _) ?_
 rintro a ⟨ha1,ha2,hsol⟩
 simp(maxSteps:=999999)(disch:=omega)only[go_sem,zA,zM,zS,zE,zL]
 ((with_reducible first|refine guardK_dec ?_ ?_|refine guardK_ndec ?_ ?_|refine guardK_nb ?_ ?_|refine guardK_split ?_ ?_|refine guardQ_dec ?_ ?_|refine guardL_dec ?_ ?_|refine guardQ_ndec ?_ ?_|refine guardL_ndec ?_ ?_|refine guardQ_nb ?_ ?_|refine guardL_nb ?_ ?_|refine guardQ_split ?_ ?_|refine guardL_split ?_ ?_)<;>intro h1<;>simp(maxSteps:=999999)(disch:=omega)only[go_sem,zA,zM,zS,zE,zL,h1])
 · have h1:a<xs.length:=by omega
   have hss:sols p n (n*n -a) xs=if 0<nth xs a then sols p n (n*n -(a+1)) xs else(vals n 1).flatMap fun(v:Nat)=>if fitsL p (xs.set a (v:Int)) n=true then sols p n (n*n -(a+1)) (xs.set a (v:Int))else[]:=by
    rw[show n*n -a=(n*n -(a+1))+1 by omega]
    have e:xs.length -(n*n -(a+1)+1)=a:=by omega
    conv=>lhs;rw[sols,e]
    rfl
   ((first|(with_reducible first|refine condK_dec ?_ ?_|refine condK_ndec ?_ ?_|refine condK_nb ?_ ?_)|refine condK_b ?_ ?_)<;>intro h2)
   · simp(maxSteps:=999999)(disch:=omega)only[go_sem,zA,zM,zS,zE,zL]
     exact⟨a+1,⟨⟨by omega,by omega,by rw[←hsol,hss,if_pos h2]⟩,by omega⟩,by push_cast;omega,HLe.refl _⟩
   · simp(maxSteps:=999999)(disch:=omega)only[go_sem,zA,zM,zS,zE,zL]
     ((first|(with_reducible first|refine condK_dec ?_ ?_|refine condK_ndec ?_ ?_|refine condK_nb ?_ ?_)|refine condK_b ?_ ?_)<;>intro h3)
     · exfalso;omega
     simp(maxSteps:=999999)(disch:=omega)only[go_sem,zA,zM,zS,zE,zL]
     have hgoal:sols p n m xs=(vals n 1).flatMap fun(v:Nat)=>if fitsL p (xs.set a (v:Int)) n=true then sols p n (n*n -(a+1)) (xs.set a (v:Int))else[]:=by rw[←hsol,hss,if_neg h2]
     refine loop_rule3 (fun(v:Nat) (HI:Heap) (l:List (List Int))=>n+1 -v) (fun v HI l=>1≤v∧v≤n+1∧goV p n (n*n -(a+1)) xs a most (vals n v) l=goV p n (n*n -(a+1)) xs a most (vals n 1) ls∧l.length≤most∧HK.length≤HI.length∧∃S',OutL HI pid pg l S'∧(∀k∈S',k∈S∨HK.length≤k)∧(∀k∈S',k<HI.length)∧∀k,k<HK.length→k≠pid→k∉S→HI[k]? =HK[k]?)
      (fun v _ _=>[.a, .k, .k, .k, .k, .k, .a, .a, .a, .a, .p (int v), .a, .a, .a, .a, .a, .a, .a, .a, .a, .a, .a, .a, .a, .a, .a, .a, .a, .a, .a, .a, .a, .a, .a, .a, .a, .a, .a, .a, .a, .a, .a, .a, .a, .a, .a, .a, .a, .a, .a, .a, .a, .a, .a, .a, .a, .a, .a, .a, .a, .a, .a, .a, .a, .a, .a, .a, .a, .a, .a]) (fun _ HI _=>HI) 1 HK ls ⟨Nat.le_refl _,by omega,rfl,by omega,Nat.le_refl _,S,oK,fun k hk=> .inl hk,fun k hk=>by have:=hSl k hk;omega,fun _ _ _ _=>rfl⟩ (by simp(maxSteps:=999999)(disch:=omega)only[go_sem,zA,zM,zS,zE,zL];rfl) (HLe.refl _) ?_
     rintro v HI l ⟨hv1,hv2,hgo,hlm,hlI,S',oI,hS1,hS2,hfI⟩
     have bI:look HI H.length gb=some ⟨gb,1,cP p⟩:=by unfold look;rw[hfI H.length (by omega) (by omega) (fun h=>by have:=hSl _ h;omega)];exact bK
     obtain⟨⟨oid',og',cs',q1,q2,q3,q4,q5⟩,qpn⟩:=oI
     have q6:nilV HI (.c (.ptr pid pg 0))=some (.c (.ptr pid pg 0)):=nilV_ptr q1
     simp(maxSteps:=999999)(disch:=omega)only[go_sem,zA,zM,zS,zE,zL,bI]
     ((with_reducible first|refine guardK_dec ?_ ?_|refine guardK_ndec ?_ ?_|refine guardK_nb ?_ ?_|refine guardK_split ?_ ?_|refine guardQ_dec ?_ ?_|refine guardL_dec ?_ ?_|refine guardQ_ndec ?_ ?_|refine guardL_ndec ?_ ?_|refine guardQ_nb ?_ ?_|refine guardL_nb ?_ ?_|refine guardQ_split ?_ ?_|refine guardL_split ?_ ?_)<;>intro c1<;>simp(maxSteps:=999999)(disch:=omega)only[go_sem,zA,zM,zS,zE,zL,c1])
     · have hvn:v≤n:=by omega
       simp(maxSteps:=999999)(disch:=omega)only[go_sem,zA,zM,zS,zE,zL,bI,q1,q2,q6]
       ((first|(with_reducible first|refine condK_dec ?_ ?_|refine condK_ndec ?_ ?_|refine condK_nb ?_ ?_)|refine condK_b ?_ ?_)<;>intro c2)
       · have c2:l.length<most:=by omega
         simp(maxSteps:=999999)(disch:=omega)only[go_sem,zA,zM,zS,zE,zL]
         intro g0
         refine appendM_copyF (sliceOf_of' ti22 rfl ti3) ⟨rfl,rfl,rfl⟩ (by omega) ?_
         intro g1
         simp(maxSteps:=999999)(disch:=omega)only[go_sem,zA,zM,zS,zE,zL,look_last,set_last]
         rw[Int.toNat_natCast]
         obtain⟨HN,hHN⟩:∃HN:Heap,HN=HI++[some ⟨g1,1,cl (eI .i64) (xs.set a v)⟩]:=⟨_,rfl⟩
         have hNl:HN.length=HI.length+1:=by rw[hHN];simp
         have hNg:∀k,k<HI.length→HN[k]? =HI[k]? :=fun k hk=>by rw[hHN,List.getElem?_append_left hk]
         have hle:HLe HN HI:=by rw[hHN];exact HLe.app _ _
         have bN:look HN H.length gb=some ⟨gb,1,cP p⟩:=by unfold look;rw[hNg H.length (by omega)];exact bI
         have nN:look HN HI.length g1=some ⟨g1,1,cl (eI .i64) (xs.set a v)⟩:=by rw[hHN];exact look_last
         have oN:OutL HN pid pg l S':=OutL.same ⟨⟨oid',og',cs',q1,q2,q3,q4,q5⟩,qpn⟩ fun i hi=>hNg i (by rcases hi with rfl|hi;omega;exact hS2 i hi)
         rw[←hHN]
         clear hHN
         have hgs:GrdN (xs.set a (v:Int)) n:=⟨by rw[List.length_set];exact hxl,fun k hk=>by
          rw[List.length_set]at hk
          rw[nth_setN _ _ _ _ h1]
          split
          · omega
          · exact hg.val k hk⟩
         have hown:OwnI HN (.own HI.length g1 0 xs.length none) (xs.set a (v:Int)) [HI.length]:=by
          have:=OwnI.o (H:=HN) HI.length g1 none (xs.set a (v:Int)) [] (by rw[List.append_nil];exact nN)
          rwa [List.length_set]at this
         simp(maxSteps:=999999)(disch:=omega)only[go_sem,zA,zM,zS,zE,zL,bN]
         refine OpS.rdD (l5Fits_run hp (xs.set a (v:Int)) hgs) (⟨_,Try.func109,rfl,rfl⟩:Enters Try.prog 109) rfl rfl (snap_two rfl hown.snap) rfl ?_
         simp(maxSteps:=999999)(disch:=omega)only[go_sem,zA,zM,zS,zE,zL]
         ((first|(with_reducible first|refine condK_dec ?_ ?_|refine condK_ndec ?_ ?_|refine condK_nb ?_ ?_)|refine condK_b ?_ ?_)<;>intro c3)
         · simp(maxSteps:=999999)(disch:=omega)only[go_sem,zA,zM,zS,zE,zL,bN]
           have hrec:=l5Search_run hp most hmo (n*n -(a+1)) HN HI.length g1 (xs.set a (v:Int)) pid pg l S' (by omega) hgs nN (fun h=>by have:=hS2 _ h;omega) (by omega) c2 oN (fun k hk=>by have:=hS2 k hk;omega)
           rw[List.length_set,show((n*n -(n*n -(a+1)):Nat):Int)=(a:Int)+1 by omega]at hrec
           refine OpS.run hrec (⟨_,Try.func117,rfl,rfl⟩:Enters Try.prog 117) rfl rfl ?_
           rintro _ H2 ⟨rfl,S2,oo,t1,t2,tl,tf⟩
           simp(maxSteps:=999999)(disch:=omega)only[go_sem,zA,zM,zS,zE,zL]
           refine⟨v+1,H2,l++(sols p n (n*n -(a+1)) (xs.set a (v:Int))).take (most -l.length),⟨⟨by omega,by omega, ?_,by simp;omega,by omega,S2,oo,fun k hk=> ?_,t2,fun k hk hkp hkS=> ?_⟩,by omega⟩,by push_cast;omega,HLe.refl _⟩
           · rw[←hgo,vals_cons ⟨hv1,hvn⟩]
             conv=>rhs;unfold goV
             rw[if_pos c2,if_pos c3]
           · rcases t1 k hk with h|h
             · rcases hS1 k h with h|h
               · exact .inl h
               · exact .inr h
             · exact .inr (by omega)
           · have hkS':k∉S':=fun h=>by
              rcases hS1 k h with h|h
              · exact hkS h
              · omega
             rw[tf k (by omega) hkp hkS',hNg k (by omega),hfI k hk hkp hkS]
         · simp(maxSteps:=999999)(disch:=omega)only[go_sem,zA,zM,zS,zE,zL]
           refine⟨v+1,HI,l,⟨⟨by omega,by omega, ?_,hlm,hlI,S',⟨⟨oid',og',cs',q1,q2,q3,q4,q5⟩,qpn⟩,hS1,hS2,hfI⟩,by omega⟩,by push_cast;omega,hle⟩
           rw[←hgo,vals_cons ⟨hv1,hvn⟩]
           conv=>rhs;unfold goV
           rw[if_pos c2,if_neg (by rw[c3];simp)]
       · simp(maxSteps:=999999)(disch:=omega)only[go_sem,zA,zM,zS,zE,zL]
         have hend:goV p n (n*n -(a+1)) xs a most (vals n 1) ls=l:=by rw[←hgo];exact goV_full (by omega)
         rw[goV_eq _ _ _ _ _ _ _ _ (by omega),←hgoal]at hend
         refine⟨HI,HLe.refl _,rfl,S', ?_,fun k hk=> ?_,hS2,by omega,fun k hk hkp hkS=>by rw[hfI k (by omega) hkp hkS,hKg k hk]⟩
         · rw[hend];exact⟨⟨oid',og',cs',q1,q2,q3,q4,q5⟩,qpn⟩
         · rcases hS1 k hk with h|h
           · exact .inl h
           · exact .inr (by omega)
     · have hve:v=n+1:=by omega
       have hend:goV p n (n*n -(a+1)) xs a most (vals n 1) ls=l:=by rw[←hgo,hve,vals_nil];rfl
       rw[goV_eq _ _ _ _ _ _ _ _ (by omega),←hgoal]at hend
       refine⟨HI,HLe.refl _,rfl,S', ?_,fun k hk=> ?_,hS2,by omega,fun k hk hkp hkS=>by rw[hfI k (by omega) hkp hkS,hKg k hk]⟩
       · rw[hend];exact⟨⟨oid',og',cs',q1,q2,q3,q4,q5⟩,qpn⟩
       · rcases hS1 k hk with h|h
         · exact .inl h
         · exact .inr (by omega)
 · have hae:a=n*n:=by omega
   ((first|(with_reducible first|refine condK_dec ?_ ?_|refine condK_ndec ?_ ?_|refine condK_nb ?_ ?_)|refine condK_b ?_ ?_)<;>intro h3)
   · simp(maxSteps:=999999)(disch:=omega)only[go_sem,zA,zM,zS,zE,zL]
     have hpo:pid≠oid:=fun h=>opn (by rw[h];exact o3)
     have holt:oid<H.length:=hSl oid o3
     have oK1:look HK pid pg=some ⟨pg,1,[.own oid og 0 ls.length none]⟩:=by unfold look;rw[hKg pid hplt];exact o1
     have oK2:look HK oid og=some ⟨og,1,cs⟩:=by unfold look;rw[hKg oid holt];exact o2
     have hM1:look (mask (hideM oid HK.length (HK.length+3)) HK) pid pg=some ⟨pg,1,[.own oid og 0 ls.length none]⟩:=by rw[look_mask (hideM_no hpo (by omega))];exact oK1
     have hM2:nilV (mask (hideM oid HK.length (HK.length+3)) HK) (.c (.ptr pid pg 0))=some (.c (.ptr pid pg 0)):=nilV_ptr hM1
     refine drawP_lM [0,1,2,3,4,5,6,7,8] [4] none [9,10] (hideM oid HK.length (HK.length+3)) [0,0,2,6,0,0,48,112,254,511,1023] foll (by kernel_rfl) ?_
     iterate 7 (rw[lwF_cons];simp(maxSteps:=999999)(disch:=omega)only[go_sem,zA,zM,zS,zE,zL,hM1,hM2])
     refine appendM_emp2 (sliceOf_of' ti22 rfl ti3) ⟨rfl,rfl,rfl⟩ (by omega) ?_
     intro c4 H4 S4 k4 hS4 hl4
     obtain⟨id4,g4,rfl,rfl,l4⟩:=k4.inv (by intro h0;rw[h0]at hxl;simp at hxl;omega)
     simp only[List.length_singleton]at hl4
     have hi4:=hS4 id4 (by simp)
     refine⟨okM_gen fun j b hj hb=>by rw[List.getElem?_append_left (List.getElem?_eq_some_iff.1 hb).1];exact hb, ?_⟩
     rw[lwF_cons]
     simp(maxSteps:=999999)(disch:=omega)only[go_sem,zA,zM,zS,zE,zL]
     intro g5
     refine⟨okM_gen fun j b hj hb=>by rw[List.getElem?_append_left (List.getElem?_eq_some_iff.1 hb).1];exact hb, ?_⟩
     rw[lwF_cons]
     simp(maxSteps:=999999)(disch:=omega)only[go_sem,zA,zM,zS,zE,zL]
     have hbl:look (HK++H4++[some ⟨g5,1,[CV.own id4 g4 0 xs.length none]⟩]) (HK.length+H4.length) g5=some ⟨g5,1,[CV.own id4 g4 0 xs.length none]⟩:=by
      have:=look_last (H:=HK++H4) (g:=g5) (sz:=1) (cs:=[CV.own id4 g4 0 xs.length none])
      rwa [List.length_append]at this
     have hol:look (HK++H4++[some ⟨g5,1,[CV.own id4 g4 0 xs.length none]⟩]) oid og=some ⟨og,1,cs⟩:=look_appL (look_appL oK2)
     refine appendM_cells (sliceOf_of' ti125 rfl ti22) ⟨rfl,rfl,by decide⟩ (by omega) hol o4 hbl ?_
     intro g6
     refine⟨okM_gen fun j b hj hb=>by
      have hjl:=(List.getElem?_eq_some_iff.1 hb).1
      simp only[List.length_append,List.length_singleton]at hjl
      obtain⟨hjo,_⟩:=hideM_yes hj (by omega)
      rw[List.getElem?_set_ne (Ne.symm hjo)];exact hb, ?_⟩
     obtain⟨HL,hHL⟩:∃HL:Heap,HL=(HK++H4++[some ⟨g5,1,[CV.own id4 g4 0 xs.length none]⟩]:Heap).set oid (some ⟨g6,1,cs++[CV.own id4 g4 0 xs.length none]⟩):=⟨_,rfl⟩
     have hLl:HL.length=HK.length+2:=by rw[hHL,List.length_set];simp;omega
     have hL3:∀j,j<HK.length→j≠oid→HL[j]? =HK[j]? :=fun j hj hn=>by rw[hHL,List.getElem?_set_ne (Ne.symm hn),List.append_assoc,List.getElem?_append_left hj]
     have hL1:look HL pid pg=some ⟨pg,1,[.own oid og 0 ls.length none]⟩:=by unfold look;rw[hL3 pid (by omega) hpo];exact oK1
     have hL2:look HL oid g6=some ⟨g6,1,cs++[CV.own id4 g4 0 xs.length none]⟩:=by rw[hHL];exact look_set_eq' (by simp;omega)
     have hL4:look HL id4 g4=some ⟨g4,1,cl (eI .i64) xs⟩:=by rw[hHL,look_set_ne' (by omega)];exact look_appL l4
     rw[←hHL]
     clear hHL
     have hL5:nilV HL (.c (.ptr pid pg 0))=some (.c (.ptr pid pg 0)):=nilV_ptr hL1
     simp(maxSteps:=999999)(disch:=omega)only[go_sem,zA,zM,zS,zE,zL,hL1,hL5]
     have hs1:sols p n m xs=[xs]:=by rw[←hsol,show n*n -a=0 by omega];rfl
     have hfin:OutL (HL.set pid (some ⟨pg,1,[CV.own oid g6 0 (ls.length+1) none]⟩)) pid pg (ls++[xs]) (id4::S):=by
      have hlen1:(ls++[xs]).length=ls.length+1:=by simp
      refine⟨⟨oid,g6,cs++[CV.own id4 g4 0 xs.length none],by rw[hlen1];exact look_set_eq' (by omega),by rw[look_set_ne' hpo];exact hL2,by simp[o3],by simp[o4],fun i hi=> ?_⟩,by simp;exact⟨by omega,opn⟩⟩
      rw[hlen1]at hi
      by_cases hil:i<ls.length
      · obtain⟨id,g,k1,k2,k3,hio⟩:=o5 i hil
        have hidl:=hSl id k3
        refine⟨id,g,by rw[List.getElem?_append_left (by omega)];rw[List.getElem_append_left hil];exact k1, ?_,by simp[k3],hio⟩
        rw[List.getElem_append_left hil,look_set_ne' (fun h=>opn (by rw[h];exact k3))]
        unfold look
        rw[hL3 id (by omega) hio,hKg id hidl]
        exact k2
      · have hie:i=ls.length:=by omega
        subst hie
        refine⟨id4,g4, ?_, ?_,by simp,by omega⟩
        · rw[List.getElem?_append_right (by omega),o4]
          simp
        · rw[look_set_ne' (by omega)]
          simp only[List.getElem_append_right (Nat.le_refl _),Nat.sub_self,List.getElem_singleton]
          exact hL4
     refine⟨_,HLe.refl _,rfl,id4::S, ?_, ?_, ?_,by simp;omega,fun k hk hkp hkS=> ?_⟩
     · rw[hs1,List.take_of_length_le (by simp;omega)]
       exact hfin
     · intro k hk
       rcases List.mem_cons.1 hk with rfl|hk
       · exact .inr (by omega)
       · exact .inl hk
     · intro k hk
       rw[List.length_set]
       rcases List.mem_cons.1 hk with rfl|hk
       · omega
       · have:=hSl k hk;omega
     · rw[List.getElem?_set_ne (Ne.symm hkp),hL3 k (by omega) (fun h=>hkS (by rw[h];exact o3)),hKg k hk]
   · exfalso;omega
end Go.Lg

namespace Go.Lg
open Go.Proofs
theorem mapM_of{α β:Type}{f:α→Option β}:∀(l:List α) (r:List β),l.length=r.length→(∀i (h:i<l.length) (h':i<r.length),f l[i]=some r[i])→l.mapM f=some r
 |[],[],_,_=>rfl
 |[],_::_,h,_=>by simp at h
 |_::_,[],h,_=>by simp at h
 |a::l,b::r,hl,h=>by
  have h0:=h 0 (by simp) (by simp)
  have ih:=mapM_of l r (by simpa using hl) fun i h1 h2=>h (i+1) (by simpa using h1) (by simpa using h2)
  simp only[List.getElem_cons_zero]at h0
  simp only[List.mapM_cons,h0,ih,Option.pure_def,Option.bind_eq_bind,Option.bind_some]
theorem OutL.frz{H:Heap}{pid pg:Nat}{ls:List (List Int)}{S:List Nat}(h:OutL H pid pg ls S):∃oid og,look H pid pg=some ⟨pg,1,[.own oid og 0 ls.length none]⟩∧frzC H (.own oid og 0 ls.length none)=some (.f (fsl eL ls)):=by
 obtain⟨⟨oid,og,cs,h1,h2,h3,h4,h5⟩,_⟩:=h
 refine⟨oid,og,h1, ?_⟩
 have hm:cs.mapM (Lg.frz H 5)=some (ls.map fints):=by
  refine mapM_of _ _ (by simp[h4]) fun i hi hi'=> ?_
  have hil:i<ls.length:=by omega
  obtain⟨id,g,k1,k2,k3,k4⟩:=h5 i hil
  have e:cs[i]= .own id g 0 ls[i].length none:=by
   rw[List.getElem?_eq_getElem hi]at k1
   exact Option.some.inj k1
  rw[e,List.getElem_map]
  exact(OwnI.o (H:=H) id g none ls[i] [] (by rw[List.append_nil];exact k2)).frz 4
 have et:(cs.drop 0).take (ls.length*1)=cs:=by rw[List.drop_zero,List.take_of_length_le (by omega)]
 have ef:ls.map fints=fl eL ls:=by
  have:∀l:List (List Int),l.map fints=fl eL l:=fun l=>by
   induction l with
   |nil=>rfl
   |cons x l ih=>simp only[List.map_cons,ih,fl,List.flatMap_cons,eL,List.cons_append,List.nil_append]
  exact this ls
 simp only[frzC,Lg.frz,h2,et,hm,Option.map_some,ef]
theorem puzzleValid_grid'{p:Puz}(h:puzzleValid p=true):gridValid p.given p.size=true:=by
 simp only[puzzleValid,Bool.and_eq_true]at h;exact h.1
def allS(p:Puz)(most:Nat):List (List Int):=if puzzleValid p=true∧fitsL p p.given p.size.toNat=true then(sols p p.size.toNat (p.size.toNat*p.size.toNat) p.given).take most else[]
theorem l5All_run(p:Puz)(most:Nat)(hmo:1≤most∧most≤600)(hx:smP p):Reads Try.prog 110 [aP p,int most] (rsl eL (allS p most)):=by
 have hgl:=hx.1
 refine Reads.iced ?_
 refine RunCall.cw (c:=_) Try.func110 rfl (n:=17) Try.ntmps110 (rs:=[.tmp 4]) rfl ?_
 simp only[List.length_cons,List.length_nil,zA,zS,List.replicate,List.cons_append,List.nil_append]
 simp(maxSteps:=999999)(disch:=omega)only[go_sem,zA,zM,zS,zE,zL]
 intro g1 g2 g3
 first|refine OpS.rd (sPuzzleFits_run p p.given hx hgl) (⟨_,Try.func98,rfl,rfl⟩:Enters Try.prog 98) rfl rfl rfl rfl ?_|refine Loud.rd (sPuzzleFits_run p p.given hx hgl) (⟨_,Try.func98,rfl,rfl⟩:Enters Try.prog 98) rfl rfl rfl rfl ?_
 simp(maxSteps:=999999)(disch:=omega)only[go_sem,zA,zM,zS,zE,zL]
 cases hc:(puzzleValid p&&(gridValid p.given p.size&&fitsL p p.given p.size.toNat))with
 |false=>
  simp(maxSteps:=999999)(disch:=omega)only[go_sem,zA,zM,zS,zE,zL]
  have:allS p most=[]:=by
   unfold allS
   rw[if_neg]
   rintro⟨h1,h2⟩
   rw[h1,puzzleValid_grid' h1,h2]at hc
   cases hc
  rw[this]
  exact lessQ_ice (by simp only[frzA,frz1,frzC,frz,go_sem];rfl)
 |true=>
  simp only[Bool.and_eq_true]at hc
  obtain⟨h1,h2,h3⟩:=hc
  obtain⟨hp,hs⟩:=PuzN.of h1
  have hg:=GrdN.of hp.hn (xs:=p.given) (by rw[hs];exact h2)
  have hall:allS p most=(sols p p.size.toNat (p.size.toNat*p.size.toNat) p.given).take most:=by unfold allS;rw[if_pos ⟨h1,h3⟩]
  generalize p.size.toNat=n at hp hs hg hall
  have hr:=l5Search_frz hp most hmo.2 (n*n) [some ⟨g1,1,cP p⟩,some ⟨g2,1,[]⟩,some ⟨g3,1,[CV.own 1 g2 0 0 none]⟩] p.given 2 g3 [] [1] (Nat.le_refl _) hg (by simp;omega)
   ⟨⟨1,g2,[],by simp only[go_sem],by simp only[go_sem],by simp,rfl,fun i hi=>by simp at hi⟩,by simp⟩ (by simp)
  rw[Nat.sub_self]at hr
  simp(maxSteps:=999999)(disch:=omega)only[go_sem,zA,zM,zS,zE,zL]
  refine OpS.run hr (⟨_,Try.func117,rfl,rfl⟩:Enters Try.prog 117) rfl rfl ?_
  rintro _ H2 ⟨rfl,S2,o2,_⟩
  rw[List.nil_append,List.length_nil,Nat.sub_zero,←hall]at o2
  obtain⟨oid,og,k1,k2⟩:=o2.frz
  simp(maxSteps:=999999)(disch:=omega)only[go_sem,zA,zM,zS,zE,zL,k1]
  exact lessQ_ice (by simp only[frzA,frz1,k2,Option.map_some])
end Go.Lg

namespace Go.Lg
open Go.Proofs
attribute [-go_sem] appendM lwF_cons
structure RlI(H HI:Heap)(id g:Nat)(B:Int)(m g8 g2:Nat)(ys:List Int):Prop where
 out:look HI H.length g8=some ⟨g8,3,[.f (.int .i64 0), .f .nil, .f (.int .i64 0)]⟩
 cells:look HI (H.length+1) g2=some ⟨g2,1,cl (eI .i64) ys⟩
 l1:1≤ys.length
 l4:ys.length≤4
 val:∀k:Nat,k<ys.length→0≤nth ys k∧nth ys k<(m:Int)*m
 rd:RdAt HI id g B
 lt:id<H.length
 ln:H.length+2≤HI.length
 frm:∀k,k<H.length→k≠id→HI[k]? =H[k]?
section
variable{H HI H2:Heap}{id g m g8 g2:Nat}{B B':Int}{ys:List Int}
theorem RlI.mono(h:RlI H HI id g B m g8 g2 ys)(hb:B≤B'):RlI H HI id g B' m g8 g2 ys:={h with rd:=h.rd.mono hb}
theorem RlI.pick(h:RlI H HI id g B m g8 g2 ys)(hr:RdAt H2 id g B')(hf:Frm HI H2 [id]):RlI H H2 id g B' m g8 g2 ys:=
 {out:=by rw[hf.look (by have:=h.lt;simp;omega)];exact h.out
  cells:=by rw[hf.look (by have:=h.lt;simp;omega)];exact h.cells
  l1:=h.l1,l4:=h.l4,val:=h.val,rd:=hr,lt:=h.lt,ln:=by rw[hf.1];exact h.ln
  frm:=fun k hk hn=>by rw[hf.2 k (by simpa using hn)];exact h.frm k hk hn}
theorem RlI.app{X:Heap}(h:RlI H HI id g B m g8 g2 ys):RlI H (HI++X) id g B m g8 g2 ys:=
 {out:=look_appL h.out,cells:=look_appL h.cells,l1:=h.l1,l4:=h.l4,val:=h.val,rd:=h.rd.app,lt:=h.lt
  ln:=by have:=h.ln;rw[List.length_append];omega
  frm:=fun k hk hn=>by rw[List.getElem?_append_left (by have:=h.ln;omega)];exact h.frm k hk hn}
theorem RlI.set(h:RlI H HI id g B m g8 g2 ys){g':Nat}{zs:List Int}(h1:1≤zs.length)(h4:zs.length≤4)(hv:∀k:Nat,k<zs.length→0≤nth zs k∧nth zs k<(m:Int)*m):RlI H (HI.set (H.length+1) (some ⟨g',1,cl (eI .i64) zs⟩)) id g B m g8 g' zs:=by
 have hl:=h.ln
 have ht:=h.lt
 exact{out:=by rw[look_set_ne' (by omega)];exact h.out
       cells:=look_set_eq' (by omega)
       l1:=h1,l4:=h4,val:=hv
       rd:=h.rd.same (by rw[List.getElem?_set_ne (by omega)])
       lt:=ht,ln:=by rw[List.length_set];exact hl
       frm:=fun k hk hn=>by rw[List.getElem?_set_ne (by omega)];exact h.frm k hk hn}
end
def CellO(H HE:Heap)(J:Nat)(c:CV)(xs:List Int):Prop:=c= .f (fints xs)∨∃(i g k:Nat) (ys:List Int),c= .own i g 0 k none∧look HE i g=some ⟨g,1,cl (eI .i64) ys⟩∧k≤ys.length∧xs=ys.take k∧H.length<i∧i≠J
theorem CellO.same{H HE HE':Heap}{J:Nat}{c:CV}{xs:List Int}(h:CellO H HE J c xs)(hs:∀i,H.length<i→i≠J→i<HE.length→HE'[i]? =HE[i]?):CellO H HE' J c xs:=by
 rcases h with h|⟨i,g,k,ys,h1,h2,h3,h4,h5,h6⟩
 · exact .inl h
 · exact .inr ⟨i,g,k,ys,h1,by unfold look at*;rw[hs i h5 h6 (List.getElem?_eq_some_iff.1 (look_some h2).1).1];exact h2,h3,h4,h5,h6⟩
theorem CellO.elems{H HE:Heap}{J:Nat}{c:CV}{xs:List Int}(h:CellO H HE J c xs):elems HE 1 (.c c)=some (xs.length,cl (eI .i64) xs):=by
 rcases h with rfl|⟨i,g,k,ys,rfl,h2,h3,rfl,h5,h6⟩
 · exact elems_f (E:=eI .i64) (ys:=xs)
 · have e:(cl (eI .i64) ys).take (k*1)=cl (eI .i64) (ys.take k):=by
    rw[Nat.mul_one]
    have:=List.take_append_drop k ys
    conv=>lhs;rw[←this,cl_append]
    rw[List.take_append_of_le_length (by rw[cl_length];simp;omega),List.take_of_length_le (by rw[cl_length];simp;omega)]
   simp only[Lg.elems,h2,if_true,List.drop_zero,e,List.length_take,Nat.min_eq_left h3]
theorem CellO.frz{H HE:Heap}{J:Nat}{c:CV}{xs:List Int}(h:CellO H HE J c xs):frzS (tailS H.length) HE 6 c=some (fints xs):=by
 rcases h with rfl|⟨i,g,k,ys,rfl,h2,h3,rfl,h5,h6⟩
 · show some (nzF (fints xs))=_
   rw[fints,nzF_sl,nzF_ints]
 · have:=frzS_view (S:=tailS H.length) (lim:=none) (n:=k) (off:=0) h2 (by simp[tailS];omega) (by omega) 5
   rw[List.drop_zero]at this
   exact this
structure RuO(H HE:Heap)(id g:Nat)(B:Int)(N g8 J g18:Nat)(xs:List Int):Prop where
 out:look HE H.length g8=some ⟨g8,3,[.f (.int .i64 0), .f .nil, .f (.int .i64 0)]⟩
 ex:∃a b c,look HE J g18=some ⟨g18,3,[.f (.int .i64 a),c, .f (.int .i64 b)]⟩∧CellO H HE J c xs
 l1:1≤xs.length
 l5:xs.length≤N
 rd:RdAt HE id g B
 lt:id<H.length
 ln:H.length<J∧J<HE.length
 frm:∀k,k<H.length→k≠id→HE[k]? =H[k]?
section
variable{H HE H2:Heap}{id g N g8 J g18:Nat}{B B':Int}{xs:List Int}
theorem RuO.mono(h:RuO H HE id g B N g8 J g18 xs)(hb:B≤B'):RuO H HE id g B' N g8 J g18 xs:={h with rd:=h.rd.mono hb}
theorem RuO.pick(h:RuO H HE id g B N g8 J g18 xs)(hr:RdAt H2 id g B')(hf:Frm HE H2 [id]):RuO H H2 id g B' N g8 J g18 xs:=by
 have hl:=h.lt
 have hn:=h.ln
 obtain⟨a,b,c,h1,h2⟩:=h.ex
 exact{out:=by rw[hf.look (by simp;omega)];exact h.out
       ex:=⟨a,b,c,by rw[hf.look (by simp;omega)];exact h1,h2.same fun i hi _ _=>hf.2 i (by simp;omega)⟩
       l1:=h.l1,l5:=h.l5,rd:=hr,lt:=hl,ln:=⟨hn.1,by rw[hf.1];exact hn.2⟩
       frm:=fun k hk hn=>by rw[hf.2 k (by simpa using hn)];exact h.frm k hk hn}
theorem RuO.app{X:Heap}(h:RuO H HE id g B N g8 J g18 xs):RuO H (HE++X) id g B N g8 J g18 xs:=by
 have hn:=h.ln
 obtain⟨a,b,c,h1,h2⟩:=h.ex
 exact{out:=look_appL h.out
       ex:=⟨a,b,c,look_appL h1,h2.same fun i _ _ hi=>List.getElem?_append_left hi⟩
       l1:=h.l1,l5:=h.l5,rd:=h.rd.app,lt:=h.lt,ln:=⟨hn.1,by rw[List.length_append];omega⟩
       frm:=fun k hk hn'=>by rw[List.getElem?_append_left (by omega)];exact h.frm k hk hn'}
theorem RuO.set(h:RuO H HE id g B N g8 J g18 xs){a b:Int}{c:CV}{zs:List Int}(hc:CellO H HE J c zs)(h1:1≤zs.length)(h5:zs.length≤N):RuO H (HE.set J (some ⟨g18,3,[.f (.int .i64 a),c, .f (.int .i64 b)]⟩)) id g B N g8 J g18 zs:=by
 have hn:=h.ln
 have hl:=h.lt
 exact{out:=by rw[look_set_ne' (by omega)];exact h.out
       ex:=⟨a,b,c,look_set_eq' hn.2,hc.same fun i _ hi _=>by rw[List.getElem?_set_ne (Ne.symm hi)]⟩
       l1:=h1,l5:=h5,rd:=h.rd.same (by rw[List.getElem?_set_ne (by omega)]),lt:=hl,ln:=⟨hn.1,by rw[List.length_set];exact hn.2⟩
       frm:=fun k hk hn'=>by rw[List.getElem?_set_ne (by omega)];exact h.frm k hk hn'}
theorem RuO.wid{N':Nat}(h:RuO H HE id g B N g8 J g18 xs)(hb:N≤N'):RuO H HE id g B N' g8 J g18 xs:={h with l5:=by have:=h.l5;omega}
theorem RuO.len(h:RuO H HE id g B N g8 J g18 xs):H.length+2≤HE.length:=by have:=h.ln;omega
end
theorem nth_app_l{α:Type}[Inhabited α]{xs ys:List α}{i:Nat}(h:i<xs.length):nth (xs++ys) i=nth xs i:=by
 rw[nth_eq (by rw[List.length_append];omega),nth_eq (xs:=xs) (by omega)]
 simp only[Int.toNat_natCast]
 exact List.getElem_append_left h
theorem nth_app_r{α:Type}[Inhabited α]{xs:List α}{v:α}:nth (xs++[v]) xs.length=v:=by
 rw[nth_eq (by rw[List.length_append];simp;omega)]
 simp
end Go.Lg
