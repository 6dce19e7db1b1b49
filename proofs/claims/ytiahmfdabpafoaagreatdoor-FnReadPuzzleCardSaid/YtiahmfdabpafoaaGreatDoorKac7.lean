/- GpDI, GpDJ, cut to what is needed. -/
import Derived.Test.YtiahmfdabpafoaaGreatDoorKac6
open List renaming getElem?_eq_some_iff → Ja, getElem?_append_left → Jb, cons_append → Jc, nil_append → Jd, length_append → Je, length_cons → Jf, replicate → Jg, getElem?_eq_getElem → Jh, getElem?_set_ne → Jj, length_nil → Jl, take_of_length_le → Jn, append_assoc → Js, length_set → Jt, append_nil → Jv, mapM_cons → Jz, drop_zero → JB, getElem?_append_right → JN, mem_cons → JV, length_singleton → JW, map_cons → Qf
open Nat renaming reduceAdd→zA,reduceMul→zM,reduceSub→zS,reduceEqDiff→zE,reduceLeDiff→zL
set_option linter.unusedSimpArgs false
set_option linter.unusedVariables false
set_option maxRecDepth 100000
namespace Go.Lg
open Go.Proofs
attribute [-go_sem] Qg JP
theorem GJ{P:Program}{H:Ji}{t:TypeId}{ei:TI}{K:KV}(ht:QJ P t=some ei)(hz:ei.zero.length=ei.size∧ei.size=1∧ei.bytes=8){xs:List Int}(hx:xs.length≤2^40)
 (hk:∀c H' S,WE (H++H') c xs S→(∀k∈S,H.length≤k∧k<H.length+H'.length)→(H'.length=S.length∧S.length≤1)→K (.c c) (H++H')):Qg P H t (.c .emp) (.c (.f (.sl xs.length (fl (eI .i64) xs)))) K:=by
 obtain⟨hz1,hz2,hz3⟩:=hz
 unfold Qg
 simp only[ht,hz1,hz2,if_true,elems,Z5,VI]
 split
 · rename_i h0
   have:xs=[]:=List.eq_nil_of_length_eq_zero h0
   subst this
   have:=hk .emp [] [] .m (by simp) (by simp)
   rwa [Jv]at this
 · refine⟨⟨by omega,by rw[hz3];omega⟩,fun g=> ?_⟩
   exact hk _ [some ⟨g,1,cl (eI .i64) xs⟩] [H.length] (.o H.length g xs (Qq (b:=⟨g,1,cl (eI .i64) xs⟩) (by simp))) (by simp) (by simp)
theorem B0{P:Program}{HI:Ji}{t:TypeId}{ei:TI}{K:KV}(ht:QJ P t=some ei)(hz:ei.zero.length=ei.size∧ei.size=1∧ei.bytes=8){xs:List Int}(hx:0<xs.length∧xs.length≤2^40){g0:Nat}
 (hk:∀g',K (.c (.own HI.length g' 0 xs.length none)) (HI++[some ⟨g',1,cl (eI .i64) xs⟩])):
 Qg P (HI++[some ⟨g0,1,[]⟩]) t (.c (.own HI.length g0 0 0 none)) (.c (.f (.sl xs.length (fl (eI .i64) xs)))) K:=by
 obtain⟨hz1,hz2,hz3⟩:=hz
 unfold Qg
 simp only[ht,hz1,hz2,if_true,elems,JY,Z5,VI,Nat.mul_one]
 rw[if_neg (by omega)]
 simp only[Jl,Nat.zero_mul,if_true,W0,Nat.zero_add,Jd,Up]
 exact⟨⟨trivial,by omega,trivial,by omega,by rw[hz3];omega⟩,hk⟩
theorem Gp{p:Zk}{n:Nat}(hp:B5 p n)(most:Nat)(hmo:most≤600)(m:Nat)(H:Ji)(xs:List Int)(pid pg:Nat)(ls:List (List Int))(S:List Nat)(hm:m≤n*n)(hg:XA xs n)(hls:ls.length<most)(hout:Wi H pid pg ls S)(hSl:∀k∈S,k<H.length):
 Jq Tryz.prog 88 [aP p,ZY xs,int ((n*n -m:Nat):Int),int most, .c (.ptr pid pg 0)] H (JbL p n m xs ls most H pid pg S):=by
 have hn:=hp.hn
 have hz:=hp.size
 have hxl:=hg.len
 have hsq:4≤n*n∧n*n≤16:=by rcases hn with rfl|rfl|rfl<;>omega
 obtain⟨⟨oid,og,cs,o1,o2,o3,o4,o5⟩,opn⟩:=hout
 have hplt:pid<H.length:=(Ja.1 (Jw o1).1).1
 refine Jq.cw (c:=_) Tryz.func88 rfl (n:=70) Tryz.ntmps88 (rs:=[]) rfl ?_
 simp only[Jf,Jl,zA,zS,Jg,Jc,Jd]
 simp(maxSteps:=999999)(disch:=omega)only[go_sem,zA,zM,zS,zE,zL]
 intro gb
 obtain⟨HK,hHK⟩:∃HK:Ji,HK=H++[some ⟨gb,1,cP p⟩]:=⟨_,rfl⟩
 have hKl:HK.length=H.length+1:=by rw[hHK];simp
 have hKg:∀k,k<H.length→HK[k]? =H[k]? :=fun k hk=>by rw[hHK,Jb hk]
 have bK:look HK H.length gb=some ⟨gb,1,cP p⟩:=by rw[hHK];exact JY
 have oK:Wi HK pid pg ls S:=Wi.same ⟨⟨oid,og,cs,o1,o2,o3,o4,o5⟩,opn⟩ fun i hi=>hKg i (by rcases hi with rfl|hi;exact hplt;exact hSl i hi)
 rw[←hHK]
 clear hHK
 refine Qw (fun a:Nat=>n*n -a) (fun a=>n*n -m≤a∧a≤n*n∧Ul p n (n*n -a) xs=Ul p n m xs) (fun a=>[.a, .k, .p (int a), .k, .k, .k, .a, .a, .a, .a, .a, .a, .a, .a, .a, .a, .a, .a, .a, .a, .a, .a, .a, .a, .a, .a, .a, .a, .a, .a, .a, .a, .a, .a, .a, .a, .a, .a, .a, .a, .a, .a, .a, .a, .a, .a, .a, .a, .a, .a, .a, .a, .a, .a, .a, .a, .a, .a, .a, .a, .a, .a, .a, .a, .a, .a, .a, .a, .a, .a]) (fun _=>HK) (n*n -m) ⟨Nat.le_refl _,by omega,by rw[show n*n -(n*n -m)=m by omega]⟩ (by simp(maxSteps:=999999)(disch:=omega)only[go_sem,zA,zM,zS,zE,zL]) (Qc.refl _) ?_
 rintro a ⟨ha1,ha2,hsol⟩
 simp(maxSteps:=999999)(disch:=omega)only[go_sem,zA,zM,zS,zE,zL]
 ((with_reducible first|refine JU ?_ ?_|refine JJ ?_ ?_|refine J6 ?_ ?_|refine Jx ?_ ?_|refine JS ?_ ?_|refine JT ?_ ?_|refine JH ?_ ?_|refine JI ?_ ?_|refine J4 ?_ ?_|refine J5 ?_ ?_|refine JC ?_ ?_|refine JD ?_ ?_)<;>intro h1<;>simp(maxSteps:=999999)(disch:=omega)only[go_sem,zA,zM,zS,zE,zL,h1])
 · have h1:a<xs.length:=by omega
   have hss:Ul p n (n*n -a) xs=if 0<JM xs a then Ul p n (n*n -(a+1)) xs else(vals n 1).flatMap fun(v:Nat)=>if UJ p (xs.set a (v:Int)) n=true then Ul p n (n*n -(a+1)) (xs.set a (v:Int))else[]:=by
    rw[show n*n -a=(n*n -(a+1))+1 by omega]
    have e:xs.length -(n*n -(a+1)+1)=a:=by omega
    conv=>lhs;rw[Ul,e]
    rfl
   ((first|(with_reducible first|refine Jo ?_ ?_|refine Jk ?_ ?_|refine Jp ?_ ?_)|refine Jr ?_ ?_)<;>intro h2)
   · simp(maxSteps:=999999)(disch:=omega)only[go_sem,zA,zM,zS,zE,zL]
     exact⟨a+1,⟨⟨by omega,by omega,by rw[←hsol,hss,if_pos h2]⟩,by omega⟩,by push_cast;omega,Qc.refl _⟩
   · simp(maxSteps:=999999)(disch:=omega)only[go_sem,zA,zM,zS,zE,zL]
     ((first|(with_reducible first|refine Jo ?_ ?_|refine Jk ?_ ?_|refine Jp ?_ ?_)|refine Jr ?_ ?_)<;>intro h3)
     · exfalso;omega
     simp(maxSteps:=999999)(disch:=omega)only[go_sem,zA,zM,zS,zE,zL]
     have hgoal:Ul p n m xs=(vals n 1).flatMap fun(v:Nat)=>if UJ p (xs.set a (v:Int)) n=true then Ul p n (n*n -(a+1)) (xs.set a (v:Int))else[]:=by rw[←hsol,hss,if_neg h2]
     refine XZ (fun(v:Nat) (HI:Ji) (l:List (List Int))=>n+1 -v) (fun v HI l=>1≤v∧v≤n+1∧Gu p n (n*n -(a+1)) xs a most (vals n v) l=Gu p n (n*n -(a+1)) xs a most (vals n 1) ls∧l.length≤most∧HK.length≤HI.length∧∃S',Wi HI pid pg l S'∧(∀k∈S',k∈S∨HK.length≤k)∧(∀k∈S',k<HI.length)∧∀k,k<HK.length→k≠pid→k∉S→HI[k]? =HK[k]?)
      (fun v _ _=>[.a, .k, .k, .k, .k, .k, .a, .a, .a, .a, .p (int v), .a, .a, .a, .a, .a, .a, .a, .a, .a, .a, .a, .a, .a, .a, .a, .a, .a, .a, .a, .a, .a, .a, .a, .a, .a, .a, .a, .a, .a, .a, .a, .a, .a, .a, .a, .a, .a, .a, .a, .a, .a, .a, .a, .a, .a, .a, .a, .a, .a, .a, .a, .a, .a, .a, .a, .a, .a, .a, .a]) (fun _ HI _=>HI) 1 HK ls ⟨Nat.le_refl _,by omega,rfl,by omega,Nat.le_refl _,S,oK,fun k hk=> .inl hk,fun k hk=>by have:=hSl k hk;omega,fun _ _ _ _=>rfl⟩ (by simp(maxSteps:=999999)(disch:=omega)only[go_sem,zA,zM,zS,zE,zL];rfl) (Qc.refl _) ?_
     rintro v HI l ⟨hv1,hv2,hgo,hlm,hlI,S',oI,hS1,hS2,hfI⟩
     have bI:look HI H.length gb=some ⟨gb,1,cP p⟩:=by unfold look;rw[hfI H.length (by omega) (by omega) (fun h=>by have:=hSl _ h;omega)];exact bK
     obtain⟨⟨oid',og',cs',q1,q2,q3,q4,q5⟩,qpn⟩:=oI
     have q6:Wq HI (.c (.ptr pid pg 0))=some (.c (.ptr pid pg 0)):=Uv q1
     simp(maxSteps:=999999)(disch:=omega)only[go_sem,zA,zM,zS,zE,zL,bI]
     ((with_reducible first|refine JU ?_ ?_|refine JJ ?_ ?_|refine J6 ?_ ?_|refine Jx ?_ ?_|refine JS ?_ ?_|refine JT ?_ ?_|refine JH ?_ ?_|refine JI ?_ ?_|refine J4 ?_ ?_|refine J5 ?_ ?_|refine JC ?_ ?_|refine JD ?_ ?_)<;>intro c1<;>simp(maxSteps:=999999)(disch:=omega)only[go_sem,zA,zM,zS,zE,zL,c1])
     · have hvn:v≤n:=by omega
       simp(maxSteps:=999999)(disch:=omega)only[go_sem,zA,zM,zS,zE,zL,bI,q1,q2,q6]
       ((first|(with_reducible first|refine Jo ?_ ?_|refine Jk ?_ ?_|refine Jp ?_ ?_)|refine Jr ?_ ?_)<;>intro c2)
       · have c2:l.length<most:=by omega
         simp(maxSteps:=999999)(disch:=omega)only[go_sem,zA,zM,zS,zE,zL]
         intro g0
         refine B0 (JZ UW rfl Ru) ⟨rfl,rfl,rfl⟩ (by omega) ?_
         intro g1
         simp(maxSteps:=999999)(disch:=omega)only[go_sem,zA,zM,zS,zE,zL,JY,Up]
         rw[Int.toNat_natCast]
         obtain⟨HN,hHN⟩:∃HN:Ji,HN=HI++[some ⟨g1,1,cl (eI .i64) (xs.set a v)⟩]:=⟨_,rfl⟩
         have hNl:HN.length=HI.length+1:=by rw[hHN];simp
         have hNg:∀k,k<HI.length→HN[k]? =HI[k]? :=fun k hk=>by rw[hHN,Jb hk]
         have hle:Qc HN HI:=by rw[hHN];exact Qc.app _ _
         have bN:look HN H.length gb=some ⟨gb,1,cP p⟩:=by unfold look;rw[hNg H.length (by omega)];exact bI
         have nN:look HN HI.length g1=some ⟨g1,1,cl (eI .i64) (xs.set a v)⟩:=by rw[hHN];exact JY
         have oN:Wi HN pid pg l S':=Wi.same ⟨⟨oid',og',cs',q1,q2,q3,q4,q5⟩,qpn⟩ fun i hi=>hNg i (by rcases hi with rfl|hi;omega;exact hS2 i hi)
         rw[←hHN]
         clear hHN
         have hgs:XA (xs.set a (v:Int)) n:=⟨by rw[Jt];exact hxl,fun k hk=>by
          rw[Jt]at hk
          rw[UZ _ _ _ _ h1]
          split
          · omega
          · exact hg.val k hk⟩
         have hown:Qv HN (.own HI.length g1 0 xs.length none) (xs.set a (v:Int)) [HI.length]:=by
          have:=Qv.o (H:=HN) HI.length g1 none (xs.set a (v:Int)) [] (by rw[Jv];exact nN)
          rwa [Jt]at this
         simp(maxSteps:=999999)(disch:=omega)only[go_sem,zA,zM,zS,zE,zL,bN]
         refine Qh.rdD (Ws hp (xs.set a (v:Int)) hgs) (⟨_,Tryz.func71,rfl,rfl⟩:Jm Tryz.prog 71) rfl rfl (UX rfl hown.snap) rfl ?_
         simp(maxSteps:=999999)(disch:=omega)only[go_sem,zA,zM,zS,zE,zL]
         ((first|(with_reducible first|refine Jo ?_ ?_|refine Jk ?_ ?_|refine Jp ?_ ?_)|refine Jr ?_ ?_)<;>intro c3)
         · simp(maxSteps:=999999)(disch:=omega)only[go_sem,zA,zM,zS,zE,zL,bN]
           have hrec:=Gn hp most hmo (n*n -(a+1)) HN HI.length g1 (xs.set a (v:Int)) pid pg l S' (by omega) hgs nN (fun h=>by have:=hS2 _ h;omega) (by omega) c2 oN (fun k hk=>by have:=hS2 k hk;omega)
           rw[Jt,show((n*n -(n*n -(a+1)):Nat):Int)=(a:Int)+1 by omega]at hrec
           refine Qh.run hrec (⟨_,Tryz.func88,rfl,rfl⟩:Jm Tryz.prog 88) rfl rfl ?_
           rintro _ H2 ⟨rfl,S2,oo,t1,t2,tl,tf⟩
           simp(maxSteps:=999999)(disch:=omega)only[go_sem,zA,zM,zS,zE,zL]
           refine⟨v+1,H2,l++(Ul p n (n*n -(a+1)) (xs.set a (v:Int))).take (most -l.length),⟨⟨by omega,by omega, ?_,by simp;omega,by omega,S2,oo,fun k hk=> ?_,t2,fun k hk hkp hkS=> ?_⟩,by omega⟩,by push_cast;omega,Qc.refl _⟩
           · rw[←hgo,Xg ⟨hv1,hvn⟩]
             conv=>rhs;unfold Gu
             rw[if_pos c2,if_pos c3]
           · rcases t1 k hk with h|h
             · rcases hS1 k h with h|h
               · exact .inl h
               · exact .inr h
             · exact .inr (by omega)
           · have hkS':k∉S':=fun h=>by
              rcases hS1 k h with h|h
              · exact hkS h
              · omega
             rw[tf k (by omega) hkp hkS',hNg k (by omega),hfI k hk hkp hkS]
         · simp(maxSteps:=999999)(disch:=omega)only[go_sem,zA,zM,zS,zE,zL]
           refine⟨v+1,HI,l,⟨⟨by omega,by omega, ?_,hlm,hlI,S',⟨⟨oid',og',cs',q1,q2,q3,q4,q5⟩,qpn⟩,hS1,hS2,hfI⟩,by omega⟩,by push_cast;omega,hle⟩
           rw[←hgo,Xg ⟨hv1,hvn⟩]
           conv=>rhs;unfold Gu
           rw[if_pos c2,if_neg (by rw[c3];simp)]
       · simp(maxSteps:=999999)(disch:=omega)only[go_sem,zA,zM,zS,zE,zL]
         have hend:Gu p n (n*n -(a+1)) xs a most (vals n 1) ls=l:=by rw[←hgo];exact NZ (by omega)
         rw[Kv _ _ _ _ _ _ _ _ (by omega),←hgoal]at hend
         refine⟨HI,Qc.refl _,rfl,S', ?_,fun k hk=> ?_,hS2,by omega,fun k hk hkp hkS=>by rw[hfI k (by omega) hkp hkS,hKg k hk]⟩
         · rw[hend];exact⟨⟨oid',og',cs',q1,q2,q3,q4,q5⟩,qpn⟩
         · rcases hS1 k hk with h|h
           · exact .inl h
           · exact .inr (by omega)
     · have hve:v=n+1:=by omega
       have hend:Gu p n (n*n -(a+1)) xs a most (vals n 1) ls=l:=by rw[←hgo,hve,GX];rfl
       rw[Kv _ _ _ _ _ _ _ _ (by omega),←hgoal]at hend
       refine⟨HI,Qc.refl _,rfl,S', ?_,fun k hk=> ?_,hS2,by omega,fun k hk hkp hkS=>by rw[hfI k (by omega) hkp hkS,hKg k hk]⟩
       · rw[hend];exact⟨⟨oid',og',cs',q1,q2,q3,q4,q5⟩,qpn⟩
       · rcases hS1 k hk with h|h
         · exact .inl h
         · exact .inr (by omega)
 · have hae:a=n*n:=by omega
   ((first|(with_reducible first|refine Jo ?_ ?_|refine Jk ?_ ?_|refine Jp ?_ ?_)|refine Jr ?_ ?_)<;>intro h3)
   · simp(maxSteps:=999999)(disch:=omega)only[go_sem,zA,zM,zS,zE,zL]
     have hpo:pid≠oid:=fun h=>opn (by rw[h];exact o3)
     have holt:oid<H.length:=hSl oid o3
     have oK1:look HK pid pg=some ⟨pg,1,[.own oid og 0 ls.length none]⟩:=by unfold look;rw[hKg pid hplt];exact o1
     have oK2:look HK oid og=some ⟨og,1,cs⟩:=by unfold look;rw[hKg oid holt];exact o2
     have hM1:look (QT (Z3 oid HK.length (HK.length+3)) HK) pid pg=some ⟨pg,1,[.own oid og 0 ls.length none]⟩:=by rw[UN (VB hpo (by omega))];exact oK1
     have hM2:Wq (QT (Z3 oid HK.length (HK.length+3)) HK) (.c (.ptr pid pg 0))=some (.c (.ptr pid pg 0)):=Uv hM1
     refine Zg [0,1,2,3,4,5,6,7,8] [4] none [9,10] (Z3 oid HK.length (HK.length+3)) [0,0,2,6,0,0,48,112,254,511,1023] Zr (by kernel_rfl) ?_
     iterate 7 (rw[JP];simp(maxSteps:=999999)(disch:=omega)only[go_sem,zA,zM,zS,zE,zL,hM1,hM2])
     refine GJ (JZ UW rfl Ru) ⟨rfl,rfl,rfl⟩ (by omega) ?_
     intro c4 H4 S4 k4 hS4 hl4
     obtain⟨id4,g4,rfl,rfl,l4⟩:=k4.inv (by intro h0;rw[h0]at hxl;simp at hxl;omega)
     simp only[JW]at hl4
     have hi4:=hS4 id4 (by simp)
     refine⟨ZX fun j b hj hb=>by rw[Jb (Ja.1 hb).1];exact hb, ?_⟩
     rw[JP]
     simp(maxSteps:=999999)(disch:=omega)only[go_sem,zA,zM,zS,zE,zL]
     intro g5
     refine⟨ZX fun j b hj hb=>by rw[Jb (Ja.1 hb).1];exact hb, ?_⟩
     rw[JP]
     simp(maxSteps:=999999)(disch:=omega)only[go_sem,zA,zM,zS,zE,zL]
     have hbl:look (HK++H4++[some ⟨g5,1,[CV.own id4 g4 0 xs.length none]⟩]) (HK.length+H4.length) g5=some ⟨g5,1,[CV.own id4 g4 0 xs.length none]⟩:=by
      have:=JY (H:=HK++H4) (g:=g5) (sz:=1) (cs:=[CV.own id4 g4 0 xs.length none])
      rwa [Je]at this
     have hol:look (HK++H4++[some ⟨g5,1,[CV.own id4 g4 0 xs.length none]⟩]) oid og=some ⟨og,1,cs⟩:=JR (JR oK2)
     refine UT (JZ Jhq rfl UW) ⟨rfl,rfl,by decide⟩ (by omega) hol o4 hbl ?_
     intro g6
     refine⟨ZX fun j b hj hb=>by
      have hjl:=(Ja.1 hb).1
      simp only[Je,JW]at hjl
      obtain⟨hjo,_⟩:=Vn hj (by omega)
      rw[Jj (Ne.symm hjo)];exact hb, ?_⟩
     obtain⟨HL,hHL⟩:∃HL:Ji,HL=(HK++H4++[some ⟨g5,1,[CV.own id4 g4 0 xs.length none]⟩]:Ji).set oid (some ⟨g6,1,cs++[CV.own id4 g4 0 xs.length none]⟩):=⟨_,rfl⟩
     have hLl:HL.length=HK.length+2:=by rw[hHL,Jt];simp;omega
     have hL3:∀j,j<HK.length→j≠oid→HL[j]? =HK[j]? :=fun j hj hn=>by rw[hHL,Jj (Ne.symm hn),Js,Jb hj]
     have hL1:look HL pid pg=some ⟨pg,1,[.own oid og 0 ls.length none]⟩:=by unfold look;rw[hL3 pid (by omega) hpo];exact oK1
     have hL2:look HL oid g6=some ⟨g6,1,cs++[CV.own id4 g4 0 xs.length none]⟩:=by rw[hHL];exact JK (by simp;omega)
     have hL4:look HL id4 g4=some ⟨g4,1,cl (eI .i64) xs⟩:=by rw[hHL,J7 (by omega)];exact JR l4
     rw[←hHL]
     clear hHL
     have hL5:Wq HL (.c (.ptr pid pg 0))=some (.c (.ptr pid pg 0)):=Uv hL1
     simp(maxSteps:=999999)(disch:=omega)only[go_sem,zA,zM,zS,zE,zL,hL1,hL5]
     have hs1:Ul p n m xs=[xs]:=by rw[←hsol,show n*n -a=0 by omega];rfl
     have hfin:Wi (HL.set pid (some ⟨pg,1,[CV.own oid g6 0 (ls.length+1) none]⟩)) pid pg (ls++[xs]) (id4::S):=by
      have hlen1:(ls++[xs]).length=ls.length+1:=by simp
      refine⟨⟨oid,g6,cs++[CV.own id4 g4 0 xs.length none],by rw[hlen1];exact JK (by omega),by rw[J7 hpo];exact hL2,by simp[o3],by simp[o4],fun i hi=> ?_⟩,by simp;exact⟨by omega,opn⟩⟩
      rw[hlen1]at hi
      by_cases hil:i<ls.length
      · obtain⟨id,g,k1,k2,k3,hio⟩:=o5 i hil
        have hidl:=hSl id k3
        refine⟨id,g,by rw[Jb (by omega)];rw[List.getElem_append_left hil];exact k1, ?_,by simp[k3],hio⟩
        rw[List.getElem_append_left hil,J7 (fun h=>opn (by rw[h];exact k3))]
        unfold look
        rw[hL3 id (by omega) hio,hKg id hidl]
        exact k2
      · have hie:i=ls.length:=by omega
        subst hie
        refine⟨id4,g4, ?_, ?_,by simp,by omega⟩
        · rw[JN (by omega),o4]
          simp
        · rw[J7 (by omega)]
          simp only[List.getElem_append_right (Nat.le_refl _),Nat.sub_self,List.getElem_singleton]
          exact hL4
     refine⟨_,Qc.refl _,rfl,id4::S, ?_, ?_, ?_,by simp;omega,fun k hk hkp hkS=> ?_⟩
     · rw[hs1,Jn (by simp;omega)]
       exact hfin
     · intro k hk
       rcases JV.1 hk with rfl|hk
       · exact .inr (by omega)
       · exact .inl hk
     · intro k hk
       rw[Jt]
       rcases JV.1 hk with rfl|hk
       · omega
       · have:=hSl k hk;omega
     · rw[Jj (Ne.symm hkp),hL3 k (by omega) (fun h=>hkS (by rw[h];exact o3)),hKg k hk]
   · exfalso;omega
end Go.Lg

namespace Go.Lg
open Go.Proofs
theorem JbX{α β:Type}{f:α→Option β}:∀(l:List α) (r:List β),l.length=r.length→(∀i (h:i<l.length) (h':i<r.length),f l[i]=some r[i])→l.mapM f=some r
 |[],[],_,_=>rfl
 |[],_::_,h,_=>by simp at h
 |_::_,[],h,_=>by simp at h
 |a::l,b::r,hl,h=>by
  have h0:=h 0 (by simp) (by simp)
  have ih:=JbX l r (by simpa using hl) fun i h1 h2=>h (i+1) (by simpa using h1) (by simpa using h2)
  simp only[List.getElem_cons_zero]at h0
  simp only[Jz,h0,ih,Option.pure_def,Option.bind_eq_bind,Option.bind_some]
theorem Wi.frz{H:Ji}{pid pg:Nat}{ls:List (List Int)}{S:List Nat}(h:Wi H pid pg ls S):∃oid og,look H pid pg=some ⟨pg,1,[.own oid og 0 ls.length none]⟩∧frzC H (.own oid og 0 ls.length none)=some (.f (WR eL ls)):=by
 obtain⟨⟨oid,og,cs,h1,h2,h3,h4,h5⟩,_⟩:=h
 refine⟨oid,og,h1, ?_⟩
 have hm:cs.mapM (Lg.frz H 5)=some (ls.map QD):=by
  refine JbX _ _ (by simp[h4]) fun i hi hi'=> ?_
  have hil:i<ls.length:=by omega
  obtain⟨id,g,k1,k2,k3,k4⟩:=h5 i hil
  have e:cs[i]= .own id g 0 ls[i].length none:=by
   rw[Jh hi]at k1
   exact Option.some.inj k1
  rw[e,List.getElem_map]
  exact(Qv.o (H:=H) id g none ls[i] [] (by rw[Jv];exact k2)).frz 4
 have et:(cs.drop 0).take (ls.length*1)=cs:=by rw[JB,Jn (by omega)]
 have ef:ls.map QD=fl eL ls:=by
  have:∀l:List (List Int),l.map QD=fl eL l:=fun l=>by
   induction l with
   |nil=>rfl
   |cons x l ih=>simp only[Qf,ih,fl,List.flatMap_cons,eL,Jc,Jd]
  exact this ls
 simp only[frzC,Lg.frz,h2,et,hm,Option.map_some,ef]
theorem VP{p:Zk}(h:JE p=true):J9 p.given p.size=true:=by
 simp only[JE,Bool.and_eq_true]at h;exact h.1
def B1(p:Zk)(most:Nat):List (List Int):=if JE p=true∧UJ p p.given p.size.toNat=true then(Ul p p.size.toNat (p.size.toNat*p.size.toNat) p.given).take most else[]
theorem FF(p:Zk)(most:Nat)(hmo:1≤most∧most≤600)(hx:BD p):Qd Tryz.prog 73 [aP p,int most] (Rj eL (B1 p most)):=by
 have hgl:=hx.1
 refine Qd.iced ?_
 refine Jq.cw (c:=_) Tryz.func73 rfl (n:=17) Tryz.ntmps73 (rs:=[.tmp 4]) rfl ?_
 simp only[Jf,Jl,zA,zS,Jg,Jc,Jd]
 simp(maxSteps:=999999)(disch:=omega)only[go_sem,zA,zM,zS,zE,zL]
 intro g1 g2 g3
 first|refine Qh.rd (Uc p p.given hx hgl) (⟨_,Tryz.func55,rfl,rfl⟩:Jm Tryz.prog 55) rfl rfl rfl rfl ?_|refine Qe.rd (Uc p p.given hx hgl) (⟨_,Tryz.func55,rfl,rfl⟩:Jm Tryz.prog 55) rfl rfl rfl rfl ?_
 simp(maxSteps:=999999)(disch:=omega)only[go_sem,zA,zM,zS,zE,zL]
 cases hc:(JE p&&(J9 p.given p.size&&UJ p p.given p.size.toNat))with
 |false=>
  simp(maxSteps:=999999)(disch:=omega)only[go_sem,zA,zM,zS,zE,zL]
  have:B1 p most=[]:=by
   unfold B1
   rw[if_neg]
   rintro⟨h1,h2⟩
   rw[h1,VP h1,h2]at hc
   cases hc
  rw[this]
  exact Q5 (by simp only[U7,Wf,frzC,frz,go_sem];rfl)
 |true=>
  simp only[Bool.and_eq_true]at hc
  obtain⟨h1,h2,h3⟩:=hc
  obtain⟨hp,hs⟩:=B5.of h1
  have hg:=XA.of hp.hn (xs:=p.given) (by rw[hs];exact h2)
  have hall:B1 p most=(Ul p p.size.toNat (p.size.toNat*p.size.toNat) p.given).take most:=by unfold B1;rw[if_pos ⟨h1,h3⟩]
  generalize p.size.toNat=n at hp hs hg hall
  have hr:=Gp hp most hmo.2 (n*n) [some ⟨g1,1,cP p⟩,some ⟨g2,1,[]⟩,some ⟨g3,1,[CV.own 1 g2 0 0 none]⟩] p.given 2 g3 [] [1] (Nat.le_refl _) hg (by simp;omega)
   ⟨⟨1,g2,[],by simp only[go_sem],by simp only[go_sem],by simp,rfl,fun i hi=>by simp at hi⟩,by simp⟩ (by simp)
  rw[Nat.sub_self]at hr
  simp(maxSteps:=999999)(disch:=omega)only[go_sem,zA,zM,zS,zE,zL]
  refine Qh.run hr (⟨_,Tryz.func88,rfl,rfl⟩:Jm Tryz.prog 88) rfl rfl ?_
  rintro _ H2 ⟨rfl,S2,o2,_⟩
  rw[Jd,Jl,Nat.sub_zero,←hall]at o2
  obtain⟨oid,og,k1,k2⟩:=o2.frz
  simp(maxSteps:=999999)(disch:=omega)only[go_sem,zA,zM,zS,zE,zL,k1]
  exact Q5 (by simp only[U7,Wf,k2,Option.map_some])
end Go.Lg
