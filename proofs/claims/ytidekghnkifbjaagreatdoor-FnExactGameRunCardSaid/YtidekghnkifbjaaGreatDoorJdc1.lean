/- GpDH, GpDI, GpDJ, cut to what is needed. -/
import Derived.Test.YtidekghnkifbjaaGreatDoorJdc0
open List renaming length_cons → Ja, cons_append → Jb, getElem?_append_left → Jc, nil_append → Jd, length_nil → Je, replicate → Jf, getElem?_eq_some_iff → Jh, getElem?_set_ne → Ji, getElem?_eq_getElem → Jl, length_set → Jp, length_append → Jq, take_of_length_le → Js, append_nil → Jt, length_singleton → JQ, getElem?_append_right → JV, append_assoc → JW, length_take → JX, drop_zero → J1, mapM_cons → J3, map_cons → Qh, mem_cons → Qn
open Nat renaming reduceAdd→zA,reduceMul→zM,reduceSub→zS,reduceEqDiff→zE,reduceLeDiff→zL
set_option linter.unusedSimpArgs false
set_option linter.unusedVariables false
set_option maxRecDepth 100000
namespace Go.Lg
open Go.Proofs
attribute [-go_sem] Qf J0
def BW(p:QR)(n m:Nat)(xs:List Int)(i most:Nat):List Nat→List (List Int)→List (List Int)
 |[],ls=>ls
 |v::vs,ls=>if ls.length<most then(if QJ p (xs.set i (v:Int)) n=true then BW p n m xs i most vs (ls++(ZB p n m (xs.set i (v:Int))).take (most -ls.length))else BW p n m xs i most vs ls)else ls
theorem Y9(p:QR)(n m:Nat)(xs:List Int)(i most:Nat):∀(vs:List Nat) (ls:List (List Int)),ls.length≤most→
 BW p n m xs i most vs ls=ls++(vs.flatMap fun(v:Nat)=>if QJ p (xs.set i (v:Int)) n=true then ZB p n m (xs.set i (v:Int))else[]).take (most -ls.length)
 |[],ls,_=>by simp[BW]
 |v::vs,ls,hl=>by
  unfold BW
  rw[List.flatMap_cons]
  by_cases h:ls.length<most
  · rw[if_pos h]
    by_cases hf:QJ p (xs.set i (v:Int)) n=true
    · rw[if_pos hf,if_pos hf,Y9 p n m xs i most vs _ (by simp;omega),JW,List.take_append]
      congr 2
      simp only[Jq,JX]
      by_cases hle:(ZB p n m (xs.set i (v:Int))).length≤most -ls.length
      · rw[Nat.min_eq_right hle]
        congr 1
        omega
      · rw[show most -(ls.length+min (most -ls.length) (ZB p n m (xs.set i (v:Int))).length)=0 by omega,show most -ls.length -(ZB p n m (xs.set i (v:Int))).length=0 by omega]
    · rw[if_neg hf,if_neg hf,Y9 p n m xs i most vs ls hl,Jd]
  · rw[if_neg h,show most -ls.length=0 by omega]
    simp
theorem G8{p:QR}{n m:Nat}{xs:List Int}{i most:Nat}{vs:List Nat}{ls:List (List Int)}(h:¬ls.length<most):BW p n m xs i most vs ls=ls:=by
 cases vs with
 |nil=>rfl
 |cons v vs=>unfold BW;rw[if_neg h]
def vals(n v:Nat):List Nat:=((List.range n).map (· +1)).drop (v -1)
theorem WU{n v:Nat}(h:1≤v∧v≤n):vals n v=v::vals n (v+1):=by
 unfold vals
 rw[JfB h,show v+1 -1=v by omega]
theorem F6{n:Nat}:vals n (n+1)=[]:=by unfold vals;exact List.drop_of_length_le (by simp)
theorem XE{P:Program}{H:Jn}{t:TypeId}{ei:TI}{K:KV}(ht:QT P t=some ei)(hz:ei.zero.length=ei.size∧ei.size=1∧ei.bytes≤24){oid og k sid sg:Nat}{lim:Option Nat}{cs:List CV}{c:CV}(hk:k≤2^40)
 (h1:look H oid og=some ⟨og,1,cs⟩) (h2:cs.length=k) (h3:look H sid sg=some ⟨sg,1,[c]⟩) (hK:∀g',K (.c (.own oid g' 0 (k+1) none)) (H.set oid (some ⟨g',1,cs++[c]⟩))):Qf P H t (.c (.own oid og 0 k none)) (.c (.own sid sg 0 1 lim)) K:=by
 obtain⟨hz1,hz2,hz3⟩:=hz
 unfold Qf
 have hb:(k+1)*ei.bytes≤140737488355328:=by
  have:(k+1)*ei.bytes≤(k+1)*24:=Nat.mul_le_mul_left _ hz3
  omega
 simp only[ht,hz1,hz2,if_true,elems,h1,h3,J1,Nat.one_mul,Nat.mul_one,YM,h2,KB]
 exact⟨⟨trivial,by omega,trivial,by omega,hb⟩,hK⟩
def JeS(p:QR)(n m:Nat)(xs:List Int)(ls:List (List Int))(most:Nat)(H:Jn)(pid pg:Nat)(S:List Nat):KV:=fun v H'=>v= .tup []∧∃S',VM H' pid pg (ls++(ZB p n m xs).take (most -ls.length)) S'∧(∀k∈S',k∈S∨H.length≤k)∧(∀k∈S',k<H'.length)∧H.length≤H'.length∧∀k,k<H.length→k≠pid→k∉S→H'[k]? =H[k]?
theorem Jbn{p:QR}{n:Nat}(hp:Uq p n)(most:Nat)(hmo:most≤600):∀(m:Nat) (H:Jn) (gid gg:Nat) (xs:List Int) (pid pg:Nat) (ls:List (List Int)) (S:List Nat),m≤n*n→Zd xs n→look H gid gg=some ⟨gg,1,cl (eI .i64) xs⟩→gid∉S→gid≠pid→ls.length<most→VM H pid pg ls S→(∀k∈S,k<H.length)→
 Jk Tryz.prog 136 [aP p, .c (.own gid gg 0 xs.length none),int ((n*n -m:Nat):Int),int most, .c (.ptr pid pg 0)] H (JeS p n m xs ls most H pid pg S):=by
 intro m
 induction m using Nat.strongRecOn with
 |_ m ih=>
 intro H gid gg xs pid pg ls S hm hg hgl hgS hgp hls hout hSl
 have hn:=hp.hn
 have hz:=hp.size
 have hxl:=hg.len
 have hsq:4≤n*n∧n*n≤16:=by rcases hn with rfl|rfl|rfl<;>omega
 obtain⟨⟨oid,og,cs,o1,o2,o3,o4,o5⟩,opn⟩:=hout
 have hglt:gid<H.length:=(Jh.1 (JH hgl).1).1
 have hplt:pid<H.length:=(Jh.1 (JH o1).1).1
 refine Jk.cw (c:=_) Tryz.func136 rfl (n:=70) Tryz.ntmps136 (rs:=[]) rfl ?_
 simp only[Ja,Je,zA,zS,Jf,Jb,Jd]
 simp(maxSteps:=999999)(disch:=omega)only[go_sem,zA,zM,zS,zE,zL]
 intro gb
 obtain⟨HK,hHK⟩:∃HK:Jn,HK=H++[some ⟨gb,1,cP p⟩]:=⟨_,rfl⟩
 have hKl:HK.length=H.length+1:=by rw[hHK];simp
 have hKg:∀k,k<H.length→HK[k]? =H[k]? :=fun k hk=>by rw[hHK,Jc hk]
 have gK:look HK gid gg=some ⟨gg,1,cl (eI .i64) xs⟩:=by unfold look;rw[hKg gid hglt];exact hgl
 have bK:look HK H.length gb=some ⟨gb,1,cP p⟩:=by rw[hHK];exact JF
 have oK:VM HK pid pg ls S:=VM.same ⟨⟨oid,og,cs,o1,o2,o3,o4,o5⟩,opn⟩ fun i hi=>hKg i (by rcases hi with rfl|hi;exact hplt;exact hSl i hi)
 rw[←hHK]
 clear hHK
 refine JO (fun a:Nat=>n*n -a) (fun a=>n*n -m≤a∧a≤n*n∧ZB p n (n*n -a) xs=ZB p n m xs) (fun a=>[.a, .k, .p (int a), .k, .k, .k, .a, .a, .a, .a, .a, .a, .a, .a, .a, .a, .a, .a, .a, .a, .a, .a, .a, .a, .a, .a, .a, .a, .a, .a, .a, .a, .a, .a, .a, .a, .a, .a, .a, .a, .a, .a, .a, .a, .a, .a, .a, .a, .a, .a, .a, .a, .a, .a, .a, .a, .a, .a, .a, .a, .a, .a, .a, .a, .a, .a, .a, .a, .a, .a]) (fun _=>HK) (n*n -m) ⟨Nat.le_refl _,by omega,by rw[show n*n -(n*n -m)=m by omega]⟩ (by simp(maxSteps:=999999)(disch:=omega)only[go_sem,zA,zM,zS,zE,zL]) (J5.refl _) ?_
 rintro a ⟨ha1,ha2,hsol⟩
 simp(maxSteps:=999999)(disch:=omega)only[go_sem,zA,zM,zS,zE,zL,gK]
 ((with_reducible first|refine JL ?_ ?_|refine JD ?_ ?_|refine JT ?_ ?_|refine Jv ?_ ?_|refine JJ ?_ ?_|refine JK ?_ ?_|refine JB ?_ ?_|refine JC ?_ ?_|refine JR ?_ ?_|refine JS ?_ ?_|refine Jw ?_ ?_|refine Jx ?_ ?_)<;>intro h1<;>simp(maxSteps:=999999)(disch:=omega)only[go_sem,zA,zM,zS,zE,zL,h1])
 · have h1:a<xs.length:=by omega
   have hss:ZB p n (n*n -a) xs=if 0<Jy xs a then ZB p n (n*n -(a+1)) xs else(vals n 1).flatMap fun(v:Nat)=>if QJ p (xs.set a (v:Int)) n=true then ZB p n (n*n -(a+1)) (xs.set a (v:Int))else[]:=by
    rw[show n*n -a=(n*n -(a+1))+1 by omega]
    have e:xs.length -(n*n -(a+1)+1)=a:=by omega
    conv=>lhs;rw[ZB,e]
    rfl
   simp(maxSteps:=999999)(disch:=omega)only[go_sem,zA,zM,zS,zE,zL,gK]
   ((first|(with_reducible first|refine Jm ?_ ?_|refine Jj ?_ ?_|refine Jo ?_ ?_)|refine Jr ?_ ?_)<;>intro h2)
   · simp(maxSteps:=999999)(disch:=omega)only[go_sem,zA,zM,zS,zE,zL]
     exact⟨a+1,⟨⟨by omega,by omega,by rw[←hsol,hss,if_pos h2]⟩,by omega⟩,by push_cast;omega,J5.refl _⟩
   · simp(maxSteps:=999999)(disch:=omega)only[go_sem,zA,zM,zS,zE,zL,gK]
     ((first|(with_reducible first|refine Jm ?_ ?_|refine Jj ?_ ?_|refine Jo ?_ ?_)|refine Jr ?_ ?_)<;>intro h3)
     · exfalso;omega
     simp(maxSteps:=999999)(disch:=omega)only[go_sem,zA,zM,zS,zE,zL]
     have hgoal:ZB p n m xs=(vals n 1).flatMap fun(v:Nat)=>if QJ p (xs.set a (v:Int)) n=true then ZB p n (n*n -(a+1)) (xs.set a (v:Int))else[]:=by rw[←hsol,hss,if_neg h2]
     refine Xa (fun(v:Nat) (HI:Jn) (l:List (List Int))=>n+1 -v) (fun v HI l=>1≤v∧v≤n+1∧BW p n (n*n -(a+1)) xs a most (vals n v) l=BW p n (n*n -(a+1)) xs a most (vals n 1) ls∧l.length≤most∧HK.length≤HI.length∧∃S',VM HI pid pg l S'∧(∀k∈S',k∈S∨HK.length≤k)∧(∀k∈S',k<HI.length)∧∀k,k<HK.length→k≠pid→k∉S→HI[k]? =HK[k]?)
      (fun v _ _=>[.a, .k, .k, .k, .k, .k, .a, .a, .a, .a, .p (int v), .a, .a, .a, .a, .a, .a, .a, .a, .a, .a, .a, .a, .a, .a, .a, .a, .a, .a, .a, .a, .a, .a, .a, .a, .a, .a, .a, .a, .a, .a, .a, .a, .a, .a, .a, .a, .a, .a, .a, .a, .a, .a, .a, .a, .a, .a, .a, .a, .a, .a, .a, .a, .a, .a, .a, .a, .a, .a, .a]) (fun _ HI _=>HI) 1 HK ls ⟨Nat.le_refl _,by omega,rfl,by omega,Nat.le_refl _,S,oK,fun k hk=> .inl hk,fun k hk=>by have:=hSl k hk;omega,fun _ _ _ _=>rfl⟩ (by simp(maxSteps:=999999)(disch:=omega)only[go_sem,zA,zM,zS,zE,zL];rfl) (J5.refl _) ?_
     rintro v HI l ⟨hv1,hv2,hgo,hlm,hlI,S',oI,hS1,hS2,hfI⟩
     have gI:look HI gid gg=some ⟨gg,1,cl (eI .i64) xs⟩:=by unfold look;rw[hfI gid (by omega) hgp hgS];exact gK
     have bI:look HI H.length gb=some ⟨gb,1,cP p⟩:=by unfold look;rw[hfI H.length (by omega) (by omega) (fun h=>by have:=hSl _ h;omega)];exact bK
     obtain⟨⟨oid',og',cs',q1,q2,q3,q4,q5⟩,qpn⟩:=oI
     have q6:YL HI (.c (.ptr pid pg 0))=some (.c (.ptr pid pg 0)):=Wu q1
     simp(maxSteps:=999999)(disch:=omega)only[go_sem,zA,zM,zS,zE,zL,bI]
     ((with_reducible first|refine JL ?_ ?_|refine JD ?_ ?_|refine JT ?_ ?_|refine Jv ?_ ?_|refine JJ ?_ ?_|refine JK ?_ ?_|refine JB ?_ ?_|refine JC ?_ ?_|refine JR ?_ ?_|refine JS ?_ ?_|refine Jw ?_ ?_|refine Jx ?_ ?_)<;>intro c1<;>simp(maxSteps:=999999)(disch:=omega)only[go_sem,zA,zM,zS,zE,zL,c1])
     · have hvn:v≤n:=by omega
       simp(maxSteps:=999999)(disch:=omega)only[go_sem,zA,zM,zS,zE,zL,bI,q1,q2,q6]
       ((first|(with_reducible first|refine Jm ?_ ?_|refine Jj ?_ ?_|refine Jo ?_ ?_)|refine Jr ?_ ?_)<;>intro c2)
       · have c2:l.length<most:=by omega
         simp(maxSteps:=999999)(disch:=omega)only[go_sem,zA,zM,zS,zE,zL]
         intro g0
         refine JbN (ys:=[]) (ZN WG rfl ti3) ⟨rfl,rfl,rfl⟩ (by omega) (by rw[Jt];exact gI) ?_
         intro g1
         simp(maxSteps:=999999)(disch:=omega)only[go_sem,zA,zM,zS,zE,zL,JF,Qy]
         rw[Int.toNat_natCast]
         obtain⟨HN,hHN⟩:∃HN:Jn,HN=HI++[some ⟨g1,1,cl (eI .i64) (xs.set a v)⟩]:=⟨_,rfl⟩
         have hNl:HN.length=HI.length+1:=by rw[hHN];simp
         have hNg:∀k,k<HI.length→HN[k]? =HI[k]? :=fun k hk=>by rw[hHN,Jc hk]
         have hle:J5 HN HI:=by rw[hHN];exact J5.app _ _
         have bN:look HN H.length gb=some ⟨gb,1,cP p⟩:=by unfold look;rw[hNg H.length (by omega)];exact bI
         have nN:look HN HI.length g1=some ⟨g1,1,cl (eI .i64) (xs.set a v)⟩:=by rw[hHN];exact JF
         have oN:VM HN pid pg l S':=VM.same ⟨⟨oid',og',cs',q1,q2,q3,q4,q5⟩,qpn⟩ fun i hi=>hNg i (by rcases hi with rfl|hi;omega;exact hS2 i hi)
         rw[←hHN]
         clear hHN
         have hgs:Zd (xs.set a (v:Int)) n:=⟨by rw[Jp];exact hxl,fun k hk=>by
          rw[Jp]at hk
          rw[Za _ _ _ _ h1]
          split
          · omega
          · exact hg.val k hk⟩
         have hown:Qr HN (.own HI.length g1 0 xs.length none) (xs.set a (v:Int)) [HI.length]:=by
          have:=Qr.o (H:=HN) HI.length g1 none (xs.set a (v:Int)) [] (by rw[Jt];exact nN)
          rwa [Jp]at this
         simp(maxSteps:=999999)(disch:=omega)only[go_sem,zA,zM,zS,zE,zL,bN]
         refine JU.rdD (Yl hp (xs.set a (v:Int)) hgs) (⟨_,Tryz.func130,rfl,rfl⟩:Jg Tryz.prog 130) rfl rfl (QW rfl hown.snap) rfl ?_
         simp(maxSteps:=999999)(disch:=omega)only[go_sem,zA,zM,zS,zE,zL]
         ((first|(with_reducible first|refine Jm ?_ ?_|refine Jj ?_ ?_|refine Jo ?_ ?_)|refine Jr ?_ ?_)<;>intro c3)
         · simp(maxSteps:=999999)(disch:=omega)only[go_sem,zA,zM,zS,zE,zL,bN]
           have hrec:=ih (n*n -(a+1)) (by omega) HN HI.length g1 (xs.set a (v:Int)) pid pg l S' (by omega) hgs nN (fun h=>by have:=hS2 _ h;omega) (by omega) c2 oN (fun k hk=>by have:=hS2 k hk;omega)
           rw[Jp,show((n*n -(n*n -(a+1)):Nat):Int)=(a:Int)+1 by omega]at hrec
           refine JU.run hrec (⟨_,Tryz.func136,rfl,rfl⟩:Jg Tryz.prog 136) rfl rfl ?_
           rintro _ H2 ⟨rfl,S2,oo,t1,t2,tl,tf⟩
           simp(maxSteps:=999999)(disch:=omega)only[go_sem,zA,zM,zS,zE,zL]
           refine⟨v+1,H2,l++(ZB p n (n*n -(a+1)) (xs.set a (v:Int))).take (most -l.length),⟨⟨by omega,by omega, ?_,by simp;omega,by omega,S2,oo,fun k hk=> ?_,t2,fun k hk hkp hkS=> ?_⟩,by omega⟩,by push_cast;omega,J5.refl _⟩
           · rw[←hgo,WU ⟨hv1,hvn⟩]
             conv=>rhs;unfold BW
             rw[if_pos c2,if_pos c3]
           · rcases t1 k hk with h|h
             · rcases hS1 k h with h|h
               · exact .inl h
               · exact .inr h
             · exact .inr (by omega)
           · have hkS':k∉S':=fun h=>by
              rcases hS1 k h with h|h
              · exact hkS h
              · omega
             rw[tf k (by omega) hkp hkS',hNg k (by omega),hfI k hk hkp hkS]
         · simp(maxSteps:=999999)(disch:=omega)only[go_sem,zA,zM,zS,zE,zL]
           refine⟨v+1,HI,l,⟨⟨by omega,by omega, ?_,hlm,hlI,S',⟨⟨oid',og',cs',q1,q2,q3,q4,q5⟩,qpn⟩,hS1,hS2,hfI⟩,by omega⟩,by push_cast;omega,hle⟩
           rw[←hgo,WU ⟨hv1,hvn⟩]
           conv=>rhs;unfold BW
           rw[if_pos c2,if_neg (by rw[c3];simp)]
       · simp(maxSteps:=999999)(disch:=omega)only[go_sem,zA,zM,zS,zE,zL]
         have hend:BW p n (n*n -(a+1)) xs a most (vals n 1) ls=l:=by rw[←hgo];exact G8 (by omega)
         rw[Y9 _ _ _ _ _ _ _ _ (by omega),←hgoal]at hend
         refine⟨HI,J5.refl _,rfl,S', ?_,fun k hk=> ?_,hS2,by omega,fun k hk hkp hkS=>by rw[hfI k (by omega) hkp hkS,hKg k hk]⟩
         · rw[hend];exact⟨⟨oid',og',cs',q1,q2,q3,q4,q5⟩,qpn⟩
         · rcases hS1 k hk with h|h
           · exact .inl h
           · exact .inr (by omega)
     · have hve:v=n+1:=by omega
       have hend:BW p n (n*n -(a+1)) xs a most (vals n 1) ls=l:=by rw[←hgo,hve,F6];rfl
       rw[Y9 _ _ _ _ _ _ _ _ (by omega),←hgoal]at hend
       refine⟨HI,J5.refl _,rfl,S', ?_,fun k hk=> ?_,hS2,by omega,fun k hk hkp hkS=>by rw[hfI k (by omega) hkp hkS,hKg k hk]⟩
       · rw[hend];exact⟨⟨oid',og',cs',q1,q2,q3,q4,q5⟩,qpn⟩
       · rcases hS1 k hk with h|h
         · exact .inl h
         · exact .inr (by omega)
 · have hae:a=n*n:=by omega
   simp(maxSteps:=999999)(disch:=omega)only[go_sem,zA,zM,zS,zE,zL,gK]
   ((first|(with_reducible first|refine Jm ?_ ?_|refine Jj ?_ ?_|refine Jo ?_ ?_)|refine Jr ?_ ?_)<;>intro h3)
   · simp(maxSteps:=999999)(disch:=omega)only[go_sem,zA,zM,zS,zE,zL]
     have hpo:pid≠oid:=fun h=>opn (by rw[h];exact o3)
     have holt:oid<H.length:=hSl oid o3
     have oK1:look HK pid pg=some ⟨pg,1,[.own oid og 0 ls.length none]⟩:=by unfold look;rw[hKg pid hplt];exact o1
     have oK2:look HK oid og=some ⟨og,1,cs⟩:=by unfold look;rw[hKg oid holt];exact o2
     have hM1:look (ZD (Xe oid HK.length (HK.length+3)) HK) pid pg=some ⟨pg,1,[.own oid og 0 ls.length none]⟩:=by rw[BM (G5 hpo (by omega))];exact oK1
     have hM2:YL (ZD (Xe oid HK.length (HK.length+3)) HK) (.c (.ptr pid pg 0))=some (.c (.ptr pid pg 0)):=Wu hM1
     refine Z5 [0,1,2,3,4,5,6,7,8] [4] none [9,10] (Xe oid HK.length (HK.length+3)) [0,0,2,6,0,0,48,112,254,511,1023] ZE (by kernel_rfl) ?_
     iterate 7 (rw[J0];simp(maxSteps:=999999)(disch:=omega)only[go_sem,zA,zM,zS,zE,zL,hM1,hM2])
     refine Bq (ZN WG rfl ti3) ⟨rfl,rfl,rfl⟩ (by omega) gK ?_
     intro c4 H4 S4 k4 hS4 hl4
     obtain⟨id4,g4,rfl,rfl,l4⟩:=k4.inv (by intro h0;rw[h0]at hxl;simp at hxl;omega)
     simp only[JQ]at hl4
     have hi4:=hS4 id4 (by simp)
     refine⟨Xr fun j b hj hb=>by rw[Jc (Jh.1 hb).1];exact hb, ?_⟩
     rw[J0]
     simp(maxSteps:=999999)(disch:=omega)only[go_sem,zA,zM,zS,zE,zL]
     intro g5
     refine⟨Xr fun j b hj hb=>by rw[Jc (Jh.1 hb).1];exact hb, ?_⟩
     rw[J0]
     simp(maxSteps:=999999)(disch:=omega)only[go_sem,zA,zM,zS,zE,zL]
     have hbl:look (HK++H4++[some ⟨g5,1,[CV.own id4 g4 0 xs.length none]⟩]) (HK.length+H4.length) g5=some ⟨g5,1,[CV.own id4 g4 0 xs.length none]⟩:=by
      have:=JF (H:=HK++H4) (g:=g5) (sz:=1) (cs:=[CV.own id4 g4 0 xs.length none])
      rwa [Jq]at this
     have hol:look (HK++H4++[some ⟨g5,1,[CV.own id4 g4 0 xs.length none]⟩]) oid og=some ⟨og,1,cs⟩:=J2 (J2 oK2)
     refine XE (ZN JjE rfl WG) ⟨rfl,rfl,by decide⟩ (by omega) hol o4 hbl ?_
     intro g6
     refine⟨Xr fun j b hj hb=>by
      have hjl:=(Jh.1 hb).1
      simp only[Jq,JQ]at hjl
      obtain⟨hjo,_⟩:=JaJ hj (by omega)
      rw[Ji (Ne.symm hjo)];exact hb, ?_⟩
     obtain⟨HL,hHL⟩:∃HL:Jn,HL=(HK++H4++[some ⟨g5,1,[CV.own id4 g4 0 xs.length none]⟩]:Jn).set oid (some ⟨g6,1,cs++[CV.own id4 g4 0 xs.length none]⟩):=⟨_,rfl⟩
     have hLl:HL.length=HK.length+2:=by rw[hHL,Jp];simp;omega
     have hL3:∀j,j<HK.length→j≠oid→HL[j]? =HK[j]? :=fun j hj hn=>by rw[hHL,Ji (Ne.symm hn),JW,Jc hj]
     have hL1:look HL pid pg=some ⟨pg,1,[.own oid og 0 ls.length none]⟩:=by unfold look;rw[hL3 pid (by omega) hpo];exact oK1
     have hL2:look HL oid g6=some ⟨g6,1,cs++[CV.own id4 g4 0 xs.length none]⟩:=by rw[hHL];exact J7 (by simp;omega)
     have hL4:look HL id4 g4=some ⟨g4,1,cl (eI .i64) xs⟩:=by rw[hHL,QA (by omega)];exact J2 l4
     rw[←hHL]
     clear hHL
     have hL5:YL HL (.c (.ptr pid pg 0))=some (.c (.ptr pid pg 0)):=Wu hL1
     simp(maxSteps:=999999)(disch:=omega)only[go_sem,zA,zM,zS,zE,zL,hL1,hL5]
     have hs1:ZB p n m xs=[xs]:=by rw[←hsol,show n*n -a=0 by omega];rfl
     have hfin:VM (HL.set pid (some ⟨pg,1,[CV.own oid g6 0 (ls.length+1) none]⟩)) pid pg (ls++[xs]) (id4::S):=by
      have hlen1:(ls++[xs]).length=ls.length+1:=by simp
      refine⟨⟨oid,g6,cs++[CV.own id4 g4 0 xs.length none],by rw[hlen1];exact J7 (by omega),by rw[QA hpo];exact hL2,by simp[o3],by simp[o4],fun i hi=> ?_⟩,by simp;exact⟨by omega,opn⟩⟩
      rw[hlen1]at hi
      by_cases hil:i<ls.length
      · obtain⟨id,g,k1,k2,k3,hio⟩:=o5 i hil
        have hidl:=hSl id k3
        refine⟨id,g,by rw[Jc (by omega)];rw[List.getElem_append_left hil];exact k1, ?_,by simp[k3],hio⟩
        rw[List.getElem_append_left hil,QA (fun h=>opn (by rw[h];exact k3))]
        unfold look
        rw[hL3 id (by omega) hio,hKg id hidl]
        exact k2
      · have hie:i=ls.length:=by omega
        subst hie
        refine⟨id4,g4, ?_, ?_,by simp,by omega⟩
        · rw[JV (by omega),o4]
          simp
        · rw[QA (by omega)]
          simp only[List.getElem_append_right (Nat.le_refl _),Nat.sub_self,List.getElem_singleton]
          exact hL4
     refine⟨_,J5.refl _,rfl,id4::S, ?_, ?_, ?_,by simp;omega,fun k hk hkp hkS=> ?_⟩
     · rw[hs1,Js (by simp;omega)]
       exact hfin
     · intro k hk
       rcases Qn.1 hk with rfl|hk
       · exact .inr (by omega)
       · exact .inl hk
     · intro k hk
       rw[Jp]
       rcases Qn.1 hk with rfl|hk
       · omega
       · have:=hSl k hk;omega
     · rw[Ji (Ne.symm hkp),hL3 k (by omega) (fun h=>hkS (by rw[h];exact o3)),hKg k hk]
   · exfalso;omega
end Go.Lg

namespace Go.Lg
open Go.Proofs
attribute [-go_sem] Qf J0
theorem JbM{P:Program}{H:Jn}{t:TypeId}{ei:TI}{K:KV}(ht:QT P t=some ei)(hz:ei.zero.length=ei.size∧ei.size=1∧ei.bytes=8){xs:List Int}(hx:xs.length≤2^40)
 (hk:∀c H' S,Ua (H++H') c xs S→(∀k∈S,H.length≤k∧k<H.length+H'.length)→(H'.length=S.length∧S.length≤1)→K (.c c) (H++H')):Qf P H t (.c .emp) (.c (.f (.sl xs.length (fl (eI .i64) xs)))) K:=by
 obtain⟨hz1,hz2,hz3⟩:=hz
 unfold Qf
 simp only[ht,hz1,hz2,if_true,elems,Wh,YM]
 split
 · rename_i h0
   have:xs=[]:=List.eq_nil_of_length_eq_zero h0
   subst this
   have:=hk .emp [] [] .m (by simp) (by simp)
   rwa [Jt]at this
 · refine⟨⟨by omega,by rw[hz3];omega⟩,fun g=> ?_⟩
   exact hk _ [some ⟨g,1,cl (eI .i64) xs⟩] [H.length] (.o H.length g xs (Qj (b:=⟨g,1,cl (eI .i64) xs⟩) (by simp))) (by simp) (by simp)
theorem K2{P:Program}{HI:Jn}{t:TypeId}{ei:TI}{K:KV}(ht:QT P t=some ei)(hz:ei.zero.length=ei.size∧ei.size=1∧ei.bytes=8){xs:List Int}(hx:0<xs.length∧xs.length≤2^40){g0:Nat}
 (hk:∀g',K (.c (.own HI.length g' 0 xs.length none)) (HI++[some ⟨g',1,cl (eI .i64) xs⟩])):
 Qf P (HI++[some ⟨g0,1,[]⟩]) t (.c (.own HI.length g0 0 0 none)) (.c (.f (.sl xs.length (fl (eI .i64) xs)))) K:=by
 obtain⟨hz1,hz2,hz3⟩:=hz
 unfold Qf
 simp only[ht,hz1,hz2,if_true,elems,JF,Wh,YM,Nat.mul_one]
 rw[if_neg (by omega)]
 simp only[Je,Nat.zero_mul,if_true,KB,Nat.zero_add,Jd,Qy]
 exact⟨⟨trivial,by omega,trivial,by omega,by rw[hz3];omega⟩,hk⟩
theorem Jbo{p:QR}{n:Nat}(hp:Uq p n)(most:Nat)(hmo:most≤600)(m:Nat)(H:Jn)(xs:List Int)(pid pg:Nat)(ls:List (List Int))(S:List Nat)(hm:m≤n*n)(hg:Zd xs n)(hls:ls.length<most)(hout:VM H pid pg ls S)(hSl:∀k∈S,k<H.length):
 Jk Tryz.prog 136 [aP p,QF xs,int ((n*n -m:Nat):Int),int most, .c (.ptr pid pg 0)] H (JeS p n m xs ls most H pid pg S):=by
 have hn:=hp.hn
 have hz:=hp.size
 have hxl:=hg.len
 have hsq:4≤n*n∧n*n≤16:=by rcases hn with rfl|rfl|rfl<;>omega
 obtain⟨⟨oid,og,cs,o1,o2,o3,o4,o5⟩,opn⟩:=hout
 have hplt:pid<H.length:=(Jh.1 (JH o1).1).1
 refine Jk.cw (c:=_) Tryz.func136 rfl (n:=70) Tryz.ntmps136 (rs:=[]) rfl ?_
 simp only[Ja,Je,zA,zS,Jf,Jb,Jd]
 simp(maxSteps:=999999)(disch:=omega)only[go_sem,zA,zM,zS,zE,zL]
 intro gb
 obtain⟨HK,hHK⟩:∃HK:Jn,HK=H++[some ⟨gb,1,cP p⟩]:=⟨_,rfl⟩
 have hKl:HK.length=H.length+1:=by rw[hHK];simp
 have hKg:∀k,k<H.length→HK[k]? =H[k]? :=fun k hk=>by rw[hHK,Jc hk]
 have bK:look HK H.length gb=some ⟨gb,1,cP p⟩:=by rw[hHK];exact JF
 have oK:VM HK pid pg ls S:=VM.same ⟨⟨oid,og,cs,o1,o2,o3,o4,o5⟩,opn⟩ fun i hi=>hKg i (by rcases hi with rfl|hi;exact hplt;exact hSl i hi)
 rw[←hHK]
 clear hHK
 refine JO (fun a:Nat=>n*n -a) (fun a=>n*n -m≤a∧a≤n*n∧ZB p n (n*n -a) xs=ZB p n m xs) (fun a=>[.a, .k, .p (int a), .k, .k, .k, .a, .a, .a, .a, .a, .a, .a, .a, .a, .a, .a, .a, .a, .a, .a, .a, .a, .a, .a, .a, .a, .a, .a, .a, .a, .a, .a, .a, .a, .a, .a, .a, .a, .a, .a, .a, .a, .a, .a, .a, .a, .a, .a, .a, .a, .a, .a, .a, .a, .a, .a, .a, .a, .a, .a, .a, .a, .a, .a, .a, .a, .a, .a, .a]) (fun _=>HK) (n*n -m) ⟨Nat.le_refl _,by omega,by rw[show n*n -(n*n -m)=m by omega]⟩ (by simp(maxSteps:=999999)(disch:=omega)only[go_sem,zA,zM,zS,zE,zL]) (J5.refl _) ?_
 rintro a ⟨ha1,ha2,hsol⟩
 simp(maxSteps:=999999)(disch:=omega)only[go_sem,zA,zM,zS,zE,zL]
 ((with_reducible first|refine JL ?_ ?_|refine JD ?_ ?_|refine JT ?_ ?_|refine Jv ?_ ?_|refine JJ ?_ ?_|refine JK ?_ ?_|refine JB ?_ ?_|refine JC ?_ ?_|refine JR ?_ ?_|refine JS ?_ ?_|refine Jw ?_ ?_|refine Jx ?_ ?_)<;>intro h1<;>simp(maxSteps:=999999)(disch:=omega)only[go_sem,zA,zM,zS,zE,zL,h1])
 · have h1:a<xs.length:=by omega
   have hss:ZB p n (n*n -a) xs=if 0<Jy xs a then ZB p n (n*n -(a+1)) xs else(vals n 1).flatMap fun(v:Nat)=>if QJ p (xs.set a (v:Int)) n=true then ZB p n (n*n -(a+1)) (xs.set a (v:Int))else[]:=by
    rw[show n*n -a=(n*n -(a+1))+1 by omega]
    have e:xs.length -(n*n -(a+1)+1)=a:=by omega
    conv=>lhs;rw[ZB,e]
    rfl
   ((first|(with_reducible first|refine Jm ?_ ?_|refine Jj ?_ ?_|refine Jo ?_ ?_)|refine Jr ?_ ?_)<;>intro h2)
   · simp(maxSteps:=999999)(disch:=omega)only[go_sem,zA,zM,zS,zE,zL]
     exact⟨a+1,⟨⟨by omega,by omega,by rw[←hsol,hss,if_pos h2]⟩,by omega⟩,by push_cast;omega,J5.refl _⟩
   · simp(maxSteps:=999999)(disch:=omega)only[go_sem,zA,zM,zS,zE,zL]
     ((first|(with_reducible first|refine Jm ?_ ?_|refine Jj ?_ ?_|refine Jo ?_ ?_)|refine Jr ?_ ?_)<;>intro h3)
     · exfalso;omega
     simp(maxSteps:=999999)(disch:=omega)only[go_sem,zA,zM,zS,zE,zL]
     have hgoal:ZB p n m xs=(vals n 1).flatMap fun(v:Nat)=>if QJ p (xs.set a (v:Int)) n=true then ZB p n (n*n -(a+1)) (xs.set a (v:Int))else[]:=by rw[←hsol,hss,if_neg h2]
     refine Xa (fun(v:Nat) (HI:Jn) (l:List (List Int))=>n+1 -v) (fun v HI l=>1≤v∧v≤n+1∧BW p n (n*n -(a+1)) xs a most (vals n v) l=BW p n (n*n -(a+1)) xs a most (vals n 1) ls∧l.length≤most∧HK.length≤HI.length∧∃S',VM HI pid pg l S'∧(∀k∈S',k∈S∨HK.length≤k)∧(∀k∈S',k<HI.length)∧∀k,k<HK.length→k≠pid→k∉S→HI[k]? =HK[k]?)
      (fun v _ _=>[.a, .k, .k, .k, .k, .k, .a, .a, .a, .a, .p (int v), .a, .a, .a, .a, .a, .a, .a, .a, .a, .a, .a, .a, .a, .a, .a, .a, .a, .a, .a, .a, .a, .a, .a, .a, .a, .a, .a, .a, .a, .a, .a, .a, .a, .a, .a, .a, .a, .a, .a, .a, .a, .a, .a, .a, .a, .a, .a, .a, .a, .a, .a, .a, .a, .a, .a, .a, .a, .a, .a]) (fun _ HI _=>HI) 1 HK ls ⟨Nat.le_refl _,by omega,rfl,by omega,Nat.le_refl _,S,oK,fun k hk=> .inl hk,fun k hk=>by have:=hSl k hk;omega,fun _ _ _ _=>rfl⟩ (by simp(maxSteps:=999999)(disch:=omega)only[go_sem,zA,zM,zS,zE,zL];rfl) (J5.refl _) ?_
     rintro v HI l ⟨hv1,hv2,hgo,hlm,hlI,S',oI,hS1,hS2,hfI⟩
     have bI:look HI H.length gb=some ⟨gb,1,cP p⟩:=by unfold look;rw[hfI H.length (by omega) (by omega) (fun h=>by have:=hSl _ h;omega)];exact bK
     obtain⟨⟨oid',og',cs',q1,q2,q3,q4,q5⟩,qpn⟩:=oI
     have q6:YL HI (.c (.ptr pid pg 0))=some (.c (.ptr pid pg 0)):=Wu q1
     simp(maxSteps:=999999)(disch:=omega)only[go_sem,zA,zM,zS,zE,zL,bI]
     ((with_reducible first|refine JL ?_ ?_|refine JD ?_ ?_|refine JT ?_ ?_|refine Jv ?_ ?_|refine JJ ?_ ?_|refine JK ?_ ?_|refine JB ?_ ?_|refine JC ?_ ?_|refine JR ?_ ?_|refine JS ?_ ?_|refine Jw ?_ ?_|refine Jx ?_ ?_)<;>intro c1<;>simp(maxSteps:=999999)(disch:=omega)only[go_sem,zA,zM,zS,zE,zL,c1])
     · have hvn:v≤n:=by omega
       simp(maxSteps:=999999)(disch:=omega)only[go_sem,zA,zM,zS,zE,zL,bI,q1,q2,q6]
       ((first|(with_reducible first|refine Jm ?_ ?_|refine Jj ?_ ?_|refine Jo ?_ ?_)|refine Jr ?_ ?_)<;>intro c2)
       · have c2:l.length<most:=by omega
         simp(maxSteps:=999999)(disch:=omega)only[go_sem,zA,zM,zS,zE,zL]
         intro g0
         refine K2 (ZN WG rfl ti3) ⟨rfl,rfl,rfl⟩ (by omega) ?_
         intro g1
         simp(maxSteps:=999999)(disch:=omega)only[go_sem,zA,zM,zS,zE,zL,JF,Qy]
         rw[Int.toNat_natCast]
         obtain⟨HN,hHN⟩:∃HN:Jn,HN=HI++[some ⟨g1,1,cl (eI .i64) (xs.set a v)⟩]:=⟨_,rfl⟩
         have hNl:HN.length=HI.length+1:=by rw[hHN];simp
         have hNg:∀k,k<HI.length→HN[k]? =HI[k]? :=fun k hk=>by rw[hHN,Jc hk]
         have hle:J5 HN HI:=by rw[hHN];exact J5.app _ _
         have bN:look HN H.length gb=some ⟨gb,1,cP p⟩:=by unfold look;rw[hNg H.length (by omega)];exact bI
         have nN:look HN HI.length g1=some ⟨g1,1,cl (eI .i64) (xs.set a v)⟩:=by rw[hHN];exact JF
         have oN:VM HN pid pg l S':=VM.same ⟨⟨oid',og',cs',q1,q2,q3,q4,q5⟩,qpn⟩ fun i hi=>hNg i (by rcases hi with rfl|hi;omega;exact hS2 i hi)
         rw[←hHN]
         clear hHN
         have hgs:Zd (xs.set a (v:Int)) n:=⟨by rw[Jp];exact hxl,fun k hk=>by
          rw[Jp]at hk
          rw[Za _ _ _ _ h1]
          split
          · omega
          · exact hg.val k hk⟩
         have hown:Qr HN (.own HI.length g1 0 xs.length none) (xs.set a (v:Int)) [HI.length]:=by
          have:=Qr.o (H:=HN) HI.length g1 none (xs.set a (v:Int)) [] (by rw[Jt];exact nN)
          rwa [Jp]at this
         simp(maxSteps:=999999)(disch:=omega)only[go_sem,zA,zM,zS,zE,zL,bN]
         refine JU.rdD (Yl hp (xs.set a (v:Int)) hgs) (⟨_,Tryz.func130,rfl,rfl⟩:Jg Tryz.prog 130) rfl rfl (QW rfl hown.snap) rfl ?_
         simp(maxSteps:=999999)(disch:=omega)only[go_sem,zA,zM,zS,zE,zL]
         ((first|(with_reducible first|refine Jm ?_ ?_|refine Jj ?_ ?_|refine Jo ?_ ?_)|refine Jr ?_ ?_)<;>intro c3)
         · simp(maxSteps:=999999)(disch:=omega)only[go_sem,zA,zM,zS,zE,zL,bN]
           have hrec:=Jbn hp most hmo (n*n -(a+1)) HN HI.length g1 (xs.set a (v:Int)) pid pg l S' (by omega) hgs nN (fun h=>by have:=hS2 _ h;omega) (by omega) c2 oN (fun k hk=>by have:=hS2 k hk;omega)
           rw[Jp,show((n*n -(n*n -(a+1)):Nat):Int)=(a:Int)+1 by omega]at hrec
           refine JU.run hrec (⟨_,Tryz.func136,rfl,rfl⟩:Jg Tryz.prog 136) rfl rfl ?_
           rintro _ H2 ⟨rfl,S2,oo,t1,t2,tl,tf⟩
           simp(maxSteps:=999999)(disch:=omega)only[go_sem,zA,zM,zS,zE,zL]
           refine⟨v+1,H2,l++(ZB p n (n*n -(a+1)) (xs.set a (v:Int))).take (most -l.length),⟨⟨by omega,by omega, ?_,by simp;omega,by omega,S2,oo,fun k hk=> ?_,t2,fun k hk hkp hkS=> ?_⟩,by omega⟩,by push_cast;omega,J5.refl _⟩
           · rw[←hgo,WU ⟨hv1,hvn⟩]
             conv=>rhs;unfold BW
             rw[if_pos c2,if_pos c3]
           · rcases t1 k hk with h|h
             · rcases hS1 k h with h|h
               · exact .inl h
               · exact .inr h
             · exact .inr (by omega)
           · have hkS':k∉S':=fun h=>by
              rcases hS1 k h with h|h
              · exact hkS h
              · omega
             rw[tf k (by omega) hkp hkS',hNg k (by omega),hfI k hk hkp hkS]
         · simp(maxSteps:=999999)(disch:=omega)only[go_sem,zA,zM,zS,zE,zL]
           refine⟨v+1,HI,l,⟨⟨by omega,by omega, ?_,hlm,hlI,S',⟨⟨oid',og',cs',q1,q2,q3,q4,q5⟩,qpn⟩,hS1,hS2,hfI⟩,by omega⟩,by push_cast;omega,hle⟩
           rw[←hgo,WU ⟨hv1,hvn⟩]
           conv=>rhs;unfold BW
           rw[if_pos c2,if_neg (by rw[c3];simp)]
       · simp(maxSteps:=999999)(disch:=omega)only[go_sem,zA,zM,zS,zE,zL]
         have hend:BW p n (n*n -(a+1)) xs a most (vals n 1) ls=l:=by rw[←hgo];exact G8 (by omega)
         rw[Y9 _ _ _ _ _ _ _ _ (by omega),←hgoal]at hend
         refine⟨HI,J5.refl _,rfl,S', ?_,fun k hk=> ?_,hS2,by omega,fun k hk hkp hkS=>by rw[hfI k (by omega) hkp hkS,hKg k hk]⟩
         · rw[hend];exact⟨⟨oid',og',cs',q1,q2,q3,q4,q5⟩,qpn⟩
         · rcases hS1 k hk with h|h
           · exact .inl h
           · exact .inr (by omega)
     · have hve:v=n+1:=by omega
       have hend:BW p n (n*n -(a+1)) xs a most (vals n 1) ls=l:=by rw[←hgo,hve,F6];rfl
       rw[Y9 _ _ _ _ _ _ _ _ (by omega),←hgoal]at hend
       refine⟨HI,J5.refl _,rfl,S', ?_,fun k hk=> ?_,hS2,by omega,fun k hk hkp hkS=>by rw[hfI k (by omega) hkp hkS,hKg k hk]⟩
       · rw[hend];exact⟨⟨oid',og',cs',q1,q2,q3,q4,q5⟩,qpn⟩
       · rcases hS1 k hk with h|h
         · exact .inl h
         · exact .inr (by omega)
 · have hae:a=n*n:=by omega
   ((first|(with_reducible first|refine Jm ?_ ?_|refine Jj ?_ ?_|refine Jo ?_ ?_)|refine Jr ?_ ?_)<;>intro h3)
   · simp(maxSteps:=999999)(disch:=omega)only[go_sem,zA,zM,zS,zE,zL]
     have hpo:pid≠oid:=fun h=>opn (by rw[h];exact o3)
     have holt:oid<H.length:=hSl oid o3
     have oK1:look HK pid pg=some ⟨pg,1,[.own oid og 0 ls.length none]⟩:=by unfold look;rw[hKg pid hplt];exact o1
     have oK2:look HK oid og=some ⟨og,1,cs⟩:=by unfold look;rw[hKg oid holt];exact o2
     have hM1:look (ZD (Xe oid HK.length (HK.length+3)) HK) pid pg=some ⟨pg,1,[.own oid og 0 ls.length none]⟩:=by rw[BM (G5 hpo (by omega))];exact oK1
     have hM2:YL (ZD (Xe oid HK.length (HK.length+3)) HK) (.c (.ptr pid pg 0))=some (.c (.ptr pid pg 0)):=Wu hM1
     refine Z5 [0,1,2,3,4,5,6,7,8] [4] none [9,10] (Xe oid HK.length (HK.length+3)) [0,0,2,6,0,0,48,112,254,511,1023] ZE (by kernel_rfl) ?_
     iterate 7 (rw[J0];simp(maxSteps:=999999)(disch:=omega)only[go_sem,zA,zM,zS,zE,zL,hM1,hM2])
     refine JbM (ZN WG rfl ti3) ⟨rfl,rfl,rfl⟩ (by omega) ?_
     intro c4 H4 S4 k4 hS4 hl4
     obtain⟨id4,g4,rfl,rfl,l4⟩:=k4.inv (by intro h0;rw[h0]at hxl;simp at hxl;omega)
     simp only[JQ]at hl4
     have hi4:=hS4 id4 (by simp)
     refine⟨Xr fun j b hj hb=>by rw[Jc (Jh.1 hb).1];exact hb, ?_⟩
     rw[J0]
     simp(maxSteps:=999999)(disch:=omega)only[go_sem,zA,zM,zS,zE,zL]
     intro g5
     refine⟨Xr fun j b hj hb=>by rw[Jc (Jh.1 hb).1];exact hb, ?_⟩
     rw[J0]
     simp(maxSteps:=999999)(disch:=omega)only[go_sem,zA,zM,zS,zE,zL]
     have hbl:look (HK++H4++[some ⟨g5,1,[CV.own id4 g4 0 xs.length none]⟩]) (HK.length+H4.length) g5=some ⟨g5,1,[CV.own id4 g4 0 xs.length none]⟩:=by
      have:=JF (H:=HK++H4) (g:=g5) (sz:=1) (cs:=[CV.own id4 g4 0 xs.length none])
      rwa [Jq]at this
     have hol:look (HK++H4++[some ⟨g5,1,[CV.own id4 g4 0 xs.length none]⟩]) oid og=some ⟨og,1,cs⟩:=J2 (J2 oK2)
     refine XE (ZN JjE rfl WG) ⟨rfl,rfl,by decide⟩ (by omega) hol o4 hbl ?_
     intro g6
     refine⟨Xr fun j b hj hb=>by
      have hjl:=(Jh.1 hb).1
      simp only[Jq,JQ]at hjl
      obtain⟨hjo,_⟩:=JaJ hj (by omega)
      rw[Ji (Ne.symm hjo)];exact hb, ?_⟩
     obtain⟨HL,hHL⟩:∃HL:Jn,HL=(HK++H4++[some ⟨g5,1,[CV.own id4 g4 0 xs.length none]⟩]:Jn).set oid (some ⟨g6,1,cs++[CV.own id4 g4 0 xs.length none]⟩):=⟨_,rfl⟩
     have hLl:HL.length=HK.length+2:=by rw[hHL,Jp];simp;omega
     have hL3:∀j,j<HK.length→j≠oid→HL[j]? =HK[j]? :=fun j hj hn=>by rw[hHL,Ji (Ne.symm hn),JW,Jc hj]
     have hL1:look HL pid pg=some ⟨pg,1,[.own oid og 0 ls.length none]⟩:=by unfold look;rw[hL3 pid (by omega) hpo];exact oK1
     have hL2:look HL oid g6=some ⟨g6,1,cs++[CV.own id4 g4 0 xs.length none]⟩:=by rw[hHL];exact J7 (by simp;omega)
     have hL4:look HL id4 g4=some ⟨g4,1,cl (eI .i64) xs⟩:=by rw[hHL,QA (by omega)];exact J2 l4
     rw[←hHL]
     clear hHL
     have hL5:YL HL (.c (.ptr pid pg 0))=some (.c (.ptr pid pg 0)):=Wu hL1
     simp(maxSteps:=999999)(disch:=omega)only[go_sem,zA,zM,zS,zE,zL,hL1,hL5]
     have hs1:ZB p n m xs=[xs]:=by rw[←hsol,show n*n -a=0 by omega];rfl
     have hfin:VM (HL.set pid (some ⟨pg,1,[CV.own oid g6 0 (ls.length+1) none]⟩)) pid pg (ls++[xs]) (id4::S):=by
      have hlen1:(ls++[xs]).length=ls.length+1:=by simp
      refine⟨⟨oid,g6,cs++[CV.own id4 g4 0 xs.length none],by rw[hlen1];exact J7 (by omega),by rw[QA hpo];exact hL2,by simp[o3],by simp[o4],fun i hi=> ?_⟩,by simp;exact⟨by omega,opn⟩⟩
      rw[hlen1]at hi
      by_cases hil:i<ls.length
      · obtain⟨id,g,k1,k2,k3,hio⟩:=o5 i hil
        have hidl:=hSl id k3
        refine⟨id,g,by rw[Jc (by omega)];rw[List.getElem_append_left hil];exact k1, ?_,by simp[k3],hio⟩
        rw[List.getElem_append_left hil,QA (fun h=>opn (by rw[h];exact k3))]
        unfold look
        rw[hL3 id (by omega) hio,hKg id hidl]
        exact k2
      · have hie:i=ls.length:=by omega
        subst hie
        refine⟨id4,g4, ?_, ?_,by simp,by omega⟩
        · rw[JV (by omega),o4]
          simp
        · rw[QA (by omega)]
          simp only[List.getElem_append_right (Nat.le_refl _),Nat.sub_self,List.getElem_singleton]
          exact hL4
     refine⟨_,J5.refl _,rfl,id4::S, ?_, ?_, ?_,by simp;omega,fun k hk hkp hkS=> ?_⟩
     · rw[hs1,Js (by simp;omega)]
       exact hfin
     · intro k hk
       rcases Qn.1 hk with rfl|hk
       · exact .inr (by omega)
       · exact .inl hk
     · intro k hk
       rw[Jp]
       rcases Qn.1 hk with rfl|hk
       · omega
       · have:=hSl k hk;omega
     · rw[Ji (Ne.symm hkp),hL3 k (by omega) (fun h=>hkS (by rw[h];exact o3)),hKg k hk]
   · exfalso;omega
end Go.Lg

namespace Go.Lg
open Go.Proofs
theorem Je5{α β:Type}{f:α→Option β}:∀(l:List α) (r:List β),l.length=r.length→(∀i (h:i<l.length) (h':i<r.length),f l[i]=some r[i])→l.mapM f=some r
 |[],[],_,_=>rfl
 |[],_::_,h,_=>by simp at h
 |_::_,[],h,_=>by simp at h
 |a::l,b::r,hl,h=>by
  have h0:=h 0 (by simp) (by simp)
  have ih:=Je5 l r (by simpa using hl) fun i h1 h2=>h (i+1) (by simpa using h1) (by simpa using h2)
  simp only[List.getElem_cons_zero]at h0
  simp only[J3,h0,ih,Option.pure_def,Option.bind_eq_bind,Option.bind_some]
theorem VM.frz{H:Jn}{pid pg:Nat}{ls:List (List Int)}{S:List Nat}(h:VM H pid pg ls S):∃oid og,look H pid pg=some ⟨pg,1,[.own oid og 0 ls.length none]⟩∧frzC H (.own oid og 0 ls.length none)=some (.f (VN eL ls)):=by
 obtain⟨⟨oid,og,cs,h1,h2,h3,h4,h5⟩,_⟩:=h
 refine⟨oid,og,h1, ?_⟩
 have hm:cs.mapM (Lg.frz H 5)=some (ls.map Ql):=by
  refine Je5 _ _ (by simp[h4]) fun i hi hi'=> ?_
  have hil:i<ls.length:=by omega
  obtain⟨id,g,k1,k2,k3,k4⟩:=h5 i hil
  have e:cs[i]= .own id g 0 ls[i].length none:=by
   rw[Jl hi]at k1
   exact Option.some.inj k1
  rw[e,List.getElem_map]
  exact(Qr.o (H:=H) id g none ls[i] [] (by rw[Jt];exact k2)).frz 4
 have et:(cs.drop 0).take (ls.length*1)=cs:=by rw[J1,Js (by omega)]
 have ef:ls.map Ql=fl eL ls:=by
  have:∀l:List (List Int),l.map Ql=fl eL l:=fun l=>by
   induction l with
   |nil=>rfl
   |cons x l ih=>simp only[Qh,ih,fl,List.flatMap_cons,eL,Jb,Jd]
  exact this ls
 simp only[frzC,Lg.frz,h2,et,hm,Option.map_some,ef]
theorem U5{p:QR}(h:JA p=true):Qc p.given p.size=true:=by
 simp only[JA,Bool.and_eq_true]at h;exact h.1
def N8(p:QR)(most:Nat):List (List Int):=if JA p=true∧QJ p p.given p.size.toNat=true then(ZB p p.size.toNat (p.size.toNat*p.size.toNat) p.given).take most else[]
theorem JaH(p:QR)(most:Nat)(hmo:1≤most∧most≤600)(hx:RC p):JM Tryz.prog 110 [aP p,int most] (Yf eL (N8 p most)):=by
 have hgl:=hx.1
 refine JM.iced ?_
 refine Jk.cw (c:=_) Tryz.func110 rfl (n:=17) Tryz.ntmps110 (rs:=[.tmp 4]) rfl ?_
 simp only[Ja,Je,zA,zS,Jf,Jb,Jd]
 simp(maxSteps:=999999)(disch:=omega)only[go_sem,zA,zM,zS,zE,zL]
 intro g1 g2 g3
 first|refine JU.rd (ZO p p.given hx hgl) (⟨_,Tryz.func103,rfl,rfl⟩:Jg Tryz.prog 103) rfl rfl rfl rfl ?_|refine JG.rd (ZO p p.given hx hgl) (⟨_,Tryz.func103,rfl,rfl⟩:Jg Tryz.prog 103) rfl rfl rfl rfl ?_
 simp(maxSteps:=999999)(disch:=omega)only[go_sem,zA,zM,zS,zE,zL]
 cases hc:(JA p&&(Qc p.given p.size&&QJ p p.given p.size.toNat))with
 |false=>
  simp(maxSteps:=999999)(disch:=omega)only[go_sem,zA,zM,zS,zE,zL]
  have:N8 p most=[]:=by
   unfold N8
   rw[if_neg]
   rintro⟨h1,h2⟩
   rw[h1,U5 h1,h2]at hc
   cases hc
  rw[this]
  exact VI (by simp only[Vu,XA,frzC,frz,go_sem];rfl)
 |true=>
  simp only[Bool.and_eq_true]at hc
  obtain⟨h1,h2,h3⟩:=hc
  obtain⟨hp,hs⟩:=Uq.of h1
  have hg:=Zd.of hp.hn (xs:=p.given) (by rw[hs];exact h2)
  have hall:N8 p most=(ZB p p.size.toNat (p.size.toNat*p.size.toNat) p.given).take most:=by unfold N8;rw[if_pos ⟨h1,h3⟩]
  generalize p.size.toNat=n at hp hs hg hall
  have hr:=Jbo hp most hmo.2 (n*n) [some ⟨g1,1,cP p⟩,some ⟨g2,1,[]⟩,some ⟨g3,1,[CV.own 1 g2 0 0 none]⟩] p.given 2 g3 [] [1] (Nat.le_refl _) hg (by simp;omega)
   ⟨⟨1,g2,[],by simp only[go_sem],by simp only[go_sem],by simp,rfl,fun i hi=>by simp at hi⟩,by simp⟩ (by simp)
  rw[Nat.sub_self]at hr
  simp(maxSteps:=999999)(disch:=omega)only[go_sem,zA,zM,zS,zE,zL]
  refine JU.run hr (⟨_,Tryz.func136,rfl,rfl⟩:Jg Tryz.prog 136) rfl rfl ?_
  rintro _ H2 ⟨rfl,S2,o2,_⟩
  rw[Jd,Je,Nat.sub_zero,←hall]at o2
  obtain⟨oid,og,k1,k2⟩:=o2.frz
  simp(maxSteps:=999999)(disch:=omega)only[go_sem,zA,zM,zS,zE,zL,k1]
  exact VI (by simp only[Vu,XA,k2,Option.map_some])
end Go.Lg
