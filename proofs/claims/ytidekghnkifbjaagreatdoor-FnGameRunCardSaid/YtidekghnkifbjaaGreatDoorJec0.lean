/- GpDH, GpDI, GpDJ, cut to what is needed. -/
import Derived.Test.YtidekghnkifbjaaGreatDoorJeb9
open List renaming getElem?_append_left → Ja, cons_append → Jb, nil_append → Jc, replicate → Jd, length_cons → Je, length_nil → Jf, getElem?_set_ne → Jg, getElem?_eq_some_iff → Jh, length_append → Jk, length_set → Jo, getElem?_eq_getElem → Jq, take_of_length_le → Js, append_assoc → Jt, append_nil → Ju, length_singleton → JL, length_take → JP, drop_zero → JR, getElem?_append_right → J3, mapM_cons → J4, mem_cons → Qn, map_cons → Qr
open Nat renaming reduceAdd→zA,reduceMul→zM,reduceSub→zS,reduceEqDiff→zE,reduceLeDiff→zL
set_option linter.unusedSimpArgs false
set_option linter.unusedVariables false
set_option maxRecDepth 100000
namespace Go.Lg
open Go.Proofs
attribute [-go_sem] J9 Jv
def Ft(p:Q4)(n m:Nat)(xs:List Int)(i most:Nat):List Nat→List (List Int)→List (List Int)
 |[],ls=>ls
 |v::vs,ls=>if ls.length<most then(if QT p (xs.set i (v:Int)) n=true then Ft p n m xs i most vs (ls++(ZM p n m (xs.set i (v:Int))).take (most -ls.length))else Ft p n m xs i most vs ls)else ls
theorem KD(p:Q4)(n m:Nat)(xs:List Int)(i most:Nat):∀(vs:List Nat) (ls:List (List Int)),ls.length≤most→
 Ft p n m xs i most vs ls=ls++(vs.flatMap fun(v:Nat)=>if QT p (xs.set i (v:Int)) n=true then ZM p n m (xs.set i (v:Int))else[]).take (most -ls.length)
 |[],ls,_=>by simp[Ft]
 |v::vs,ls,hl=>by
  unfold Ft
  rw[List.flatMap_cons]
  by_cases h:ls.length<most
  · rw[if_pos h]
    by_cases hf:QT p (xs.set i (v:Int)) n=true
    · rw[if_pos hf,if_pos hf,KD p n m xs i most vs _ (by simp;omega),Jt,List.take_append]
      congr 2
      simp only[Jk,JP]
      by_cases hle:(ZM p n m (xs.set i (v:Int))).length≤most -ls.length
      · rw[Nat.min_eq_right hle]
        congr 1
        omega
      · rw[show most -(ls.length+min (most -ls.length) (ZM p n m (xs.set i (v:Int))).length)=0 by omega,show most -ls.length -(ZM p n m (xs.set i (v:Int))).length=0 by omega]
    · rw[if_neg hf,if_neg hf,KD p n m xs i most vs ls hl,Jc]
  · rw[if_neg h,show most -ls.length=0 by omega]
    simp
theorem NF{p:Q4}{n m:Nat}{xs:List Int}{i most:Nat}{vs:List Nat}{ls:List (List Int)}(h:¬ls.length<most):Ft p n m xs i most vs ls=ls:=by
 cases vs with
 |nil=>rfl
 |cons v vs=>unfold Ft;rw[if_neg h]
def vals(n v:Nat):List Nat:=((List.range n).map (· +1)).drop (v -1)
theorem W6{n v:Nat}(h:1≤v∧v≤n):vals n v=v::vals n (v+1):=by
 unfold vals
 rw[KX h,show v+1 -1=v by omega]
theorem GE{n:Nat}:vals n (n+1)=[]:=by unfold vals;exact List.drop_of_length_le (by simp)
theorem VH{P:Program}{H:Jm}{t:TypeId}{ei:TI}{K:KV}(ht:QW P t=some ei)(hz:ei.zero.length=ei.size∧ei.size=1∧ei.bytes≤24){oid og k sid sg:Nat}{lim:Option Nat}{cs:List CV}{c:CV}(hk:k≤2^40)
 (h1:look H oid og=some ⟨og,1,cs⟩) (h2:cs.length=k) (h3:look H sid sg=some ⟨sg,1,[c]⟩) (hK:∀g',K (.c (.own oid g' 0 (k+1) none)) (H.set oid (some ⟨g',1,cs++[c]⟩))):J9 P H t (.c (.own oid og 0 k none)) (.c (.own sid sg 0 1 lim)) K:=by
 obtain⟨hz1,hz2,hz3⟩:=hz
 unfold J9
 have hb:(k+1)*ei.bytes≤140737488355328:=by
  have:(k+1)*ei.bytes≤(k+1)*24:=Nat.mul_le_mul_left _ hz3
  omega
 simp only[ht,hz1,hz2,if_true,elems,h1,h3,JR,Nat.one_mul,Nat.mul_one,WJ,h2,Y4]
 exact⟨⟨trivial,by omega,trivial,by omega,hb⟩,hK⟩
def Jfm(p:Q4)(n m:Nat)(xs:List Int)(ls:List (List Int))(most:Nat)(H:Jm)(pid pg:Nat)(S:List Nat):KV:=fun v H'=>v= .tup []∧∃S',VT H' pid pg (ls++(ZM p n m xs).take (most -ls.length)) S'∧(∀k∈S',k∈S∨H.length≤k)∧(∀k∈S',k<H'.length)∧H.length≤H'.length∧∀k,k<H.length→k≠pid→k∉S→H'[k]? =H[k]?
theorem JbO{p:Q4}{n:Nat}(hp:Ux p n)(most:Nat)(hmo:most≤600):∀(m:Nat) (H:Jm) (gid gg:Nat) (xs:List Int) (pid pg:Nat) (ls:List (List Int)) (S:List Nat),m≤n*n→Zk xs n→look H gid gg=some ⟨gg,1,cl (eI .i64) xs⟩→gid∉S→gid≠pid→ls.length<most→VT H pid pg ls S→(∀k∈S,k<H.length)→
 Jn Tryz.prog 136 [aP p, .c (.own gid gg 0 xs.length none),int ((n*n -m:Nat):Int),int most, .c (.ptr pid pg 0)] H (Jfm p n m xs ls most H pid pg S):=by
 intro m
 induction m using Nat.strongRecOn with
 |_ m ih=>
 intro H gid gg xs pid pg ls S hm hg hgl hgS hgp hls hout hSl
 have hn:=hp.hn
 have hz:=hp.size
 have hxl:=hg.len
 have hsq:4≤n*n∧n*n≤16:=by rcases hn with rfl|rfl|rfl<;>omega
 obtain⟨⟨oid,og,cs,o1,o2,o3,o4,o5⟩,opn⟩:=hout
 have hglt:gid<H.length:=(Jh.1 (JG hgl).1).1
 have hplt:pid<H.length:=(Jh.1 (JG o1).1).1
 refine Jn.cw (c:=_) Tryz.func136 rfl (n:=70) Tryz.ntmps136 (rs:=[]) rfl ?_
 simp only[Je,Jf,zA,zS,Jd,Jb,Jc]
 simp(maxSteps:=999999)(disch:=omega)only[go_sem,zA,zM,zS,zE,zL]
 intro gb
 obtain⟨HK,hHK⟩:∃HK:Jm,HK=H++[some ⟨gb,1,cP p⟩]:=⟨_,rfl⟩
 have hKl:HK.length=H.length+1:=by rw[hHK];simp
 have hKg:∀k,k<H.length→HK[k]? =H[k]? :=fun k hk=>by rw[hHK,Ja hk]
 have gK:look HK gid gg=some ⟨gg,1,cl (eI .i64) xs⟩:=by unfold look;rw[hKg gid hglt];exact hgl
 have bK:look HK H.length gb=some ⟨gb,1,cP p⟩:=by rw[hHK];exact JC
 have oK:VT HK pid pg ls S:=VT.same ⟨⟨oid,og,cs,o1,o2,o3,o4,o5⟩,opn⟩ fun i hi=>hKg i (by rcases hi with rfl|hi;exact hplt;exact hSl i hi)
 rw[←hHK]
 clear hHK
 refine JY (fun a:Nat=>n*n -a) (fun a=>n*n -m≤a∧a≤n*n∧ZM p n (n*n -a) xs=ZM p n m xs) (fun a=>[.a, .k, .p (int a), .k, .k, .k, .a, .a, .a, .a, .a, .a, .a, .a, .a, .a, .a, .a, .a, .a, .a, .a, .a, .a, .a, .a, .a, .a, .a, .a, .a, .a, .a, .a, .a, .a, .a, .a, .a, .a, .a, .a, .a, .a, .a, .a, .a, .a, .a, .a, .a, .a, .a, .a, .a, .a, .a, .a, .a, .a, .a, .a, .a, .a, .a, .a, .a, .a, .a, .a]) (fun _=>HK) (n*n -m) ⟨Nat.le_refl _,by omega,by rw[show n*n -(n*n -m)=m by omega]⟩ (by simp(maxSteps:=999999)(disch:=omega)only[go_sem,zA,zM,zS,zE,zL]) (J0.refl _) ?_
 rintro a ⟨ha1,ha2,hsol⟩
 simp(maxSteps:=999999)(disch:=omega)only[go_sem,zA,zM,zS,zE,zL,gK]
 ((with_reducible first|refine JJ ?_ ?_|refine JF ?_ ?_|refine JU ?_ ?_|refine Jw ?_ ?_|refine JH ?_ ?_|refine JI ?_ ?_|refine JD ?_ ?_|refine JE ?_ ?_|refine JS ?_ ?_|refine JT ?_ ?_|refine Jy ?_ ?_|refine Jz ?_ ?_)<;>intro h1<;>simp(maxSteps:=999999)(disch:=omega)only[go_sem,zA,zM,zS,zE,zL,h1])
 · have h1:a<xs.length:=by omega
   have hss:ZM p n (n*n -a) xs=if 0<JA xs a then ZM p n (n*n -(a+1)) xs else(vals n 1).flatMap fun(v:Nat)=>if QT p (xs.set a (v:Int)) n=true then ZM p n (n*n -(a+1)) (xs.set a (v:Int))else[]:=by
    rw[show n*n -a=(n*n -(a+1))+1 by omega]
    have e:xs.length -(n*n -(a+1)+1)=a:=by omega
    conv=>lhs;rw[ZM,e]
    rfl
   simp(maxSteps:=999999)(disch:=omega)only[go_sem,zA,zM,zS,zE,zL,gK]
   ((first|(with_reducible first|refine Jl ?_ ?_|refine Jj ?_ ?_|refine Jp ?_ ?_)|refine Jr ?_ ?_)<;>intro h2)
   · simp(maxSteps:=999999)(disch:=omega)only[go_sem,zA,zM,zS,zE,zL]
     exact⟨a+1,⟨⟨by omega,by omega,by rw[←hsol,hss,if_pos h2]⟩,by omega⟩,by push_cast;omega,J0.refl _⟩
   · simp(maxSteps:=999999)(disch:=omega)only[go_sem,zA,zM,zS,zE,zL,gK]
     ((first|(with_reducible first|refine Jl ?_ ?_|refine Jj ?_ ?_|refine Jp ?_ ?_)|refine Jr ?_ ?_)<;>intro h3)
     · exfalso;omega
     simp(maxSteps:=999999)(disch:=omega)only[go_sem,zA,zM,zS,zE,zL]
     have hgoal:ZM p n m xs=(vals n 1).flatMap fun(v:Nat)=>if QT p (xs.set a (v:Int)) n=true then ZM p n (n*n -(a+1)) (xs.set a (v:Int))else[]:=by rw[←hsol,hss,if_neg h2]
     refine Xq (fun(v:Nat) (HI:Jm) (l:List (List Int))=>n+1 -v) (fun v HI l=>1≤v∧v≤n+1∧Ft p n (n*n -(a+1)) xs a most (vals n v) l=Ft p n (n*n -(a+1)) xs a most (vals n 1) ls∧l.length≤most∧HK.length≤HI.length∧∃S',VT HI pid pg l S'∧(∀k∈S',k∈S∨HK.length≤k)∧(∀k∈S',k<HI.length)∧∀k,k<HK.length→k≠pid→k∉S→HI[k]? =HK[k]?)
      (fun v _ _=>[.a, .k, .k, .k, .k, .k, .a, .a, .a, .a, .p (int v), .a, .a, .a, .a, .a, .a, .a, .a, .a, .a, .a, .a, .a, .a, .a, .a, .a, .a, .a, .a, .a, .a, .a, .a, .a, .a, .a, .a, .a, .a, .a, .a, .a, .a, .a, .a, .a, .a, .a, .a, .a, .a, .a, .a, .a, .a, .a, .a, .a, .a, .a, .a, .a, .a, .a, .a, .a, .a, .a]) (fun _ HI _=>HI) 1 HK ls ⟨Nat.le_refl _,by omega,rfl,by omega,Nat.le_refl _,S,oK,fun k hk=> .inl hk,fun k hk=>by have:=hSl k hk;omega,fun _ _ _ _=>rfl⟩ (by simp(maxSteps:=999999)(disch:=omega)only[go_sem,zA,zM,zS,zE,zL];rfl) (J0.refl _) ?_
     rintro v HI l ⟨hv1,hv2,hgo,hlm,hlI,S',oI,hS1,hS2,hfI⟩
     have gI:look HI gid gg=some ⟨gg,1,cl (eI .i64) xs⟩:=by unfold look;rw[hfI gid (by omega) hgp hgS];exact gK
     have bI:look HI H.length gb=some ⟨gb,1,cP p⟩:=by unfold look;rw[hfI H.length (by omega) (by omega) (fun h=>by have:=hSl _ h;omega)];exact bK
     obtain⟨⟨oid',og',cs',q1,q2,q3,q4,q5⟩,qpn⟩:=oI
     have q6:XY HI (.c (.ptr pid pg 0))=some (.c (.ptr pid pg 0)):=Vn q1
     simp(maxSteps:=999999)(disch:=omega)only[go_sem,zA,zM,zS,zE,zL,bI]
     ((with_reducible first|refine JJ ?_ ?_|refine JF ?_ ?_|refine JU ?_ ?_|refine Jw ?_ ?_|refine JH ?_ ?_|refine JI ?_ ?_|refine JD ?_ ?_|refine JE ?_ ?_|refine JS ?_ ?_|refine JT ?_ ?_|refine Jy ?_ ?_|refine Jz ?_ ?_)<;>intro c1<;>simp(maxSteps:=999999)(disch:=omega)only[go_sem,zA,zM,zS,zE,zL,c1])
     · have hvn:v≤n:=by omega
       simp(maxSteps:=999999)(disch:=omega)only[go_sem,zA,zM,zS,zE,zL,bI,q1,q2,q6]
       ((first|(with_reducible first|refine Jl ?_ ?_|refine Jj ?_ ?_|refine Jp ?_ ?_)|refine Jr ?_ ?_)<;>intro c2)
       · have c2:l.length<most:=by omega
         simp(maxSteps:=999999)(disch:=omega)only[go_sem,zA,zM,zS,zE,zL]
         intro g0
         refine YQ (ys:=[]) (Qb UE rfl Kh) ⟨rfl,rfl,rfl⟩ (by omega) (by rw[Ju];exact gI) ?_
         intro g1
         simp(maxSteps:=999999)(disch:=omega)only[go_sem,zA,zM,zS,zE,zL,JC,QM]
         rw[Int.toNat_natCast]
         obtain⟨HN,hHN⟩:∃HN:Jm,HN=HI++[some ⟨g1,1,cl (eI .i64) (xs.set a v)⟩]:=⟨_,rfl⟩
         have hNl:HN.length=HI.length+1:=by rw[hHN];simp
         have hNg:∀k,k<HI.length→HN[k]? =HI[k]? :=fun k hk=>by rw[hHN,Ja hk]
         have hle:J0 HN HI:=by rw[hHN];exact J0.app _ _
         have bN:look HN H.length gb=some ⟨gb,1,cP p⟩:=by unfold look;rw[hNg H.length (by omega)];exact bI
         have nN:look HN HI.length g1=some ⟨g1,1,cl (eI .i64) (xs.set a v)⟩:=by rw[hHN];exact JC
         have oN:VT HN pid pg l S':=VT.same ⟨⟨oid',og',cs',q1,q2,q3,q4,q5⟩,qpn⟩ fun i hi=>hNg i (by rcases hi with rfl|hi;omega;exact hS2 i hi)
         rw[←hHN]
         clear hHN
         have hgs:Zk (xs.set a (v:Int)) n:=⟨by rw[Jo];exact hxl,fun k hk=>by
          rw[Jo]at hk
          rw[Za _ _ _ _ h1]
          split
          · omega
          · exact hg.val k hk⟩
         have hown:Qy HN (.own HI.length g1 0 xs.length none) (xs.set a (v:Int)) [HI.length]:=by
          have:=Qy.o (H:=HN) HI.length g1 none (xs.set a (v:Int)) [] (by rw[Ju];exact nN)
          rwa [Jo]at this
         simp(maxSteps:=999999)(disch:=omega)only[go_sem,zA,zM,zS,zE,zL,bN]
         refine JZ.rdD (YI hp (xs.set a (v:Int)) hgs) (⟨_,Tryz.func130,rfl,rfl⟩:Ji Tryz.prog 130) rfl rfl (UO rfl hown.snap) rfl ?_
         simp(maxSteps:=999999)(disch:=omega)only[go_sem,zA,zM,zS,zE,zL]
         ((first|(with_reducible first|refine Jl ?_ ?_|refine Jj ?_ ?_|refine Jp ?_ ?_)|refine Jr ?_ ?_)<;>intro c3)
         · simp(maxSteps:=999999)(disch:=omega)only[go_sem,zA,zM,zS,zE,zL,bN]
           have hrec:=ih (n*n -(a+1)) (by omega) HN HI.length g1 (xs.set a (v:Int)) pid pg l S' (by omega) hgs nN (fun h=>by have:=hS2 _ h;omega) (by omega) c2 oN (fun k hk=>by have:=hS2 k hk;omega)
           rw[Jo,show((n*n -(n*n -(a+1)):Nat):Int)=(a:Int)+1 by omega]at hrec
           refine JZ.run hrec (⟨_,Tryz.func136,rfl,rfl⟩:Ji Tryz.prog 136) rfl rfl ?_
           rintro _ H2 ⟨rfl,S2,oo,t1,t2,tl,tf⟩
           simp(maxSteps:=999999)(disch:=omega)only[go_sem,zA,zM,zS,zE,zL]
           refine⟨v+1,H2,l++(ZM p n (n*n -(a+1)) (xs.set a (v:Int))).take (most -l.length),⟨⟨by omega,by omega, ?_,by simp;omega,by omega,S2,oo,fun k hk=> ?_,t2,fun k hk hkp hkS=> ?_⟩,by omega⟩,by push_cast;omega,J0.refl _⟩
           · rw[←hgo,W6 ⟨hv1,hvn⟩]
             conv=>rhs;unfold Ft
             rw[if_pos c2,if_pos c3]
           · rcases t1 k hk with h|h
             · rcases hS1 k h with h|h
               · exact .inl h
               · exact .inr h
             · exact .inr (by omega)
           · have hkS':k∉S':=fun h=>by
              rcases hS1 k h with h|h
              · exact hkS h
              · omega
             rw[tf k (by omega) hkp hkS',hNg k (by omega),hfI k hk hkp hkS]
         · simp(maxSteps:=999999)(disch:=omega)only[go_sem,zA,zM,zS,zE,zL]
           refine⟨v+1,HI,l,⟨⟨by omega,by omega, ?_,hlm,hlI,S',⟨⟨oid',og',cs',q1,q2,q3,q4,q5⟩,qpn⟩,hS1,hS2,hfI⟩,by omega⟩,by push_cast;omega,hle⟩
           rw[←hgo,W6 ⟨hv1,hvn⟩]
           conv=>rhs;unfold Ft
           rw[if_pos c2,if_neg (by rw[c3];simp)]
       · simp(maxSteps:=999999)(disch:=omega)only[go_sem,zA,zM,zS,zE,zL]
         have hend:Ft p n (n*n -(a+1)) xs a most (vals n 1) ls=l:=by rw[←hgo];exact NF (by omega)
         rw[KD _ _ _ _ _ _ _ _ (by omega),←hgoal]at hend
         refine⟨HI,J0.refl _,rfl,S', ?_,fun k hk=> ?_,hS2,by omega,fun k hk hkp hkS=>by rw[hfI k (by omega) hkp hkS,hKg k hk]⟩
         · rw[hend];exact⟨⟨oid',og',cs',q1,q2,q3,q4,q5⟩,qpn⟩
         · rcases hS1 k hk with h|h
           · exact .inl h
           · exact .inr (by omega)
     · have hve:v=n+1:=by omega
       have hend:Ft p n (n*n -(a+1)) xs a most (vals n 1) ls=l:=by rw[←hgo,hve,GE];rfl
       rw[KD _ _ _ _ _ _ _ _ (by omega),←hgoal]at hend
       refine⟨HI,J0.refl _,rfl,S', ?_,fun k hk=> ?_,hS2,by omega,fun k hk hkp hkS=>by rw[hfI k (by omega) hkp hkS,hKg k hk]⟩
       · rw[hend];exact⟨⟨oid',og',cs',q1,q2,q3,q4,q5⟩,qpn⟩
       · rcases hS1 k hk with h|h
         · exact .inl h
         · exact .inr (by omega)
 · have hae:a=n*n:=by omega
   simp(maxSteps:=999999)(disch:=omega)only[go_sem,zA,zM,zS,zE,zL,gK]
   ((first|(with_reducible first|refine Jl ?_ ?_|refine Jj ?_ ?_|refine Jp ?_ ?_)|refine Jr ?_ ?_)<;>intro h3)
   · simp(maxSteps:=999999)(disch:=omega)only[go_sem,zA,zM,zS,zE,zL]
     have hpo:pid≠oid:=fun h=>opn (by rw[h];exact o3)
     have holt:oid<H.length:=hSl oid o3
     have oK1:look HK pid pg=some ⟨pg,1,[.own oid og 0 ls.length none]⟩:=by unfold look;rw[hKg pid hplt];exact o1
     have oK2:look HK oid og=some ⟨og,1,cs⟩:=by unfold look;rw[hKg oid holt];exact o2
     have hM1:look (Zg (ZS oid HK.length (HK.length+3)) HK) pid pg=some ⟨pg,1,[.own oid og 0 ls.length none]⟩:=by rw[Ur (U7 hpo (by omega))];exact oK1
     have hM2:XY (Zg (ZS oid HK.length (HK.length+3)) HK) (.c (.ptr pid pg 0))=some (.c (.ptr pid pg 0)):=Vn hM1
     refine Q3 [0,1,2,3,4,5,6,7,8] [4] none [9,10] (ZS oid HK.length (HK.length+3)) [0,0,2,6,0,0,48,112,254,511,1023] Zd (by kernel_rfl) ?_
     iterate 7 (rw[Jv];simp(maxSteps:=999999)(disch:=omega)only[go_sem,zA,zM,zS,zE,zL,hM1,hM2])
     refine BW (Qb UE rfl Kh) ⟨rfl,rfl,rfl⟩ (by omega) gK ?_
     intro c4 H4 S4 k4 hS4 hl4
     obtain⟨id4,g4,rfl,rfl,l4⟩:=k4.inv (by intro h0;rw[h0]at hxl;simp at hxl;omega)
     simp only[JL]at hl4
     have hi4:=hS4 id4 (by simp)
     refine⟨ZR fun j b hj hb=>by rw[Ja (Jh.1 hb).1];exact hb, ?_⟩
     rw[Jv]
     simp(maxSteps:=999999)(disch:=omega)only[go_sem,zA,zM,zS,zE,zL]
     intro g5
     refine⟨ZR fun j b hj hb=>by rw[Ja (Jh.1 hb).1];exact hb, ?_⟩
     rw[Jv]
     simp(maxSteps:=999999)(disch:=omega)only[go_sem,zA,zM,zS,zE,zL]
     have hbl:look (HK++H4++[some ⟨g5,1,[CV.own id4 g4 0 xs.length none]⟩]) (HK.length+H4.length) g5=some ⟨g5,1,[CV.own id4 g4 0 xs.length none]⟩:=by
      have:=JC (H:=HK++H4) (g:=g5) (sz:=1) (cs:=[CV.own id4 g4 0 xs.length none])
      rwa [Jk]at this
     have hol:look (HK++H4++[some ⟨g5,1,[CV.own id4 g4 0 xs.length none]⟩]) oid og=some ⟨og,1,cs⟩:=JO (JO oK2)
     refine VH (Qb Jkb rfl UE) ⟨rfl,rfl,by decide⟩ (by omega) hol o4 hbl ?_
     intro g6
     refine⟨ZR fun j b hj hb=>by
      have hjl:=(Jh.1 hb).1
      simp only[Jk,JL]at hjl
      obtain⟨hjo,_⟩:=Vt hj (by omega)
      rw[Jg (Ne.symm hjo)];exact hb, ?_⟩
     obtain⟨HL,hHL⟩:∃HL:Jm,HL=(HK++H4++[some ⟨g5,1,[CV.own id4 g4 0 xs.length none]⟩]:Jm).set oid (some ⟨g6,1,cs++[CV.own id4 g4 0 xs.length none]⟩):=⟨_,rfl⟩
     have hLl:HL.length=HK.length+2:=by rw[hHL,Jo];simp;omega
     have hL3:∀j,j<HK.length→j≠oid→HL[j]? =HK[j]? :=fun j hj hn=>by rw[hHL,Jg (Ne.symm hn),Jt,Ja hj]
     have hL1:look HL pid pg=some ⟨pg,1,[.own oid og 0 ls.length none]⟩:=by unfold look;rw[hL3 pid (by omega) hpo];exact oK1
     have hL2:look HL oid g6=some ⟨g6,1,cs++[CV.own id4 g4 0 xs.length none]⟩:=by rw[hHL];exact JM (by simp;omega)
     have hL4:look HL id4 g4=some ⟨g4,1,cl (eI .i64) xs⟩:=by rw[hHL,J6 (by omega)];exact JO l4
     rw[←hHL]
     clear hHL
     have hL5:XY HL (.c (.ptr pid pg 0))=some (.c (.ptr pid pg 0)):=Vn hL1
     simp(maxSteps:=999999)(disch:=omega)only[go_sem,zA,zM,zS,zE,zL,hL1,hL5]
     have hs1:ZM p n m xs=[xs]:=by rw[←hsol,show n*n -a=0 by omega];rfl
     have hfin:VT (HL.set pid (some ⟨pg,1,[CV.own oid g6 0 (ls.length+1) none]⟩)) pid pg (ls++[xs]) (id4::S):=by
      have hlen1:(ls++[xs]).length=ls.length+1:=by simp
      refine⟨⟨oid,g6,cs++[CV.own id4 g4 0 xs.length none],by rw[hlen1];exact JM (by omega),by rw[J6 hpo];exact hL2,by simp[o3],by simp[o4],fun i hi=> ?_⟩,by simp;exact⟨by omega,opn⟩⟩
      rw[hlen1]at hi
      by_cases hil:i<ls.length
      · obtain⟨id,g,k1,k2,k3,hio⟩:=o5 i hil
        have hidl:=hSl id k3
        refine⟨id,g,by rw[Ja (by omega)];rw[List.getElem_append_left hil];exact k1, ?_,by simp[k3],hio⟩
        rw[List.getElem_append_left hil,J6 (fun h=>opn (by rw[h];exact k3))]
        unfold look
        rw[hL3 id (by omega) hio,hKg id hidl]
        exact k2
      · have hie:i=ls.length:=by omega
        subst hie
        refine⟨id4,g4, ?_, ?_,by simp,by omega⟩
        · rw[J3 (by omega),o4]
          simp
        · rw[J6 (by omega)]
          simp only[List.getElem_append_right (Nat.le_refl _),Nat.sub_self,List.getElem_singleton]
          exact hL4
     refine⟨_,J0.refl _,rfl,id4::S, ?_, ?_, ?_,by simp;omega,fun k hk hkp hkS=> ?_⟩
     · rw[hs1,Js (by simp;omega)]
       exact hfin
     · intro k hk
       rcases Qn.1 hk with rfl|hk
       · exact .inr (by omega)
       · exact .inl hk
     · intro k hk
       rw[Jo]
       rcases Qn.1 hk with rfl|hk
       · omega
       · have:=hSl k hk;omega
     · rw[Jg (Ne.symm hkp),hL3 k (by omega) (fun h=>hkS (by rw[h];exact o3)),hKg k hk]
   · exfalso;omega
end Go.Lg

namespace Go.Lg
open Go.Proofs
attribute [-go_sem] J9 Jv
theorem Jcd{P:Program}{H:Jm}{t:TypeId}{ei:TI}{K:KV}(ht:QW P t=some ei)(hz:ei.zero.length=ei.size∧ei.size=1∧ei.bytes=8){xs:List Int}(hx:xs.length≤2^40)
 (hk:∀c H' S,Ub (H++H') c xs S→(∀k∈S,H.length≤k∧k<H.length+H'.length)→(H'.length=S.length∧S.length≤1)→K (.c c) (H++H')):J9 P H t (.c .emp) (.c (.f (.sl xs.length (fl (eI .i64) xs)))) K:=by
 obtain⟨hz1,hz2,hz3⟩:=hz
 unfold J9
 simp only[ht,hz1,hz2,if_true,elems,UD,WJ]
 split
 · rename_i h0
   have:xs=[]:=List.eq_nil_of_length_eq_zero h0
   subst this
   have:=hk .emp [] [] .m (by simp) (by simp)
   rwa [Ju]at this
 · refine⟨⟨by omega,by rw[hz3];omega⟩,fun g=> ?_⟩
   exact hk _ [some ⟨g,1,cl (eI .i64) xs⟩] [H.length] (.o H.length g xs (J8 (b:=⟨g,1,cl (eI .i64) xs⟩) (by simp))) (by simp) (by simp)
theorem RB{P:Program}{HI:Jm}{t:TypeId}{ei:TI}{K:KV}(ht:QW P t=some ei)(hz:ei.zero.length=ei.size∧ei.size=1∧ei.bytes=8){xs:List Int}(hx:0<xs.length∧xs.length≤2^40){g0:Nat}
 (hk:∀g',K (.c (.own HI.length g' 0 xs.length none)) (HI++[some ⟨g',1,cl (eI .i64) xs⟩])):
 J9 P (HI++[some ⟨g0,1,[]⟩]) t (.c (.own HI.length g0 0 0 none)) (.c (.f (.sl xs.length (fl (eI .i64) xs)))) K:=by
 obtain⟨hz1,hz2,hz3⟩:=hz
 unfold J9
 simp only[ht,hz1,hz2,if_true,elems,JC,UD,WJ,Nat.mul_one]
 rw[if_neg (by omega)]
 simp only[Jf,Nat.zero_mul,if_true,Y4,Nat.zero_add,Jc,QM]
 exact⟨⟨trivial,by omega,trivial,by omega,by rw[hz3];omega⟩,hk⟩
theorem JbP{p:Q4}{n:Nat}(hp:Ux p n)(most:Nat)(hmo:most≤600)(m:Nat)(H:Jm)(xs:List Int)(pid pg:Nat)(ls:List (List Int))(S:List Nat)(hm:m≤n*n)(hg:Zk xs n)(hls:ls.length<most)(hout:VT H pid pg ls S)(hSl:∀k∈S,k<H.length):
 Jn Tryz.prog 136 [aP p,QO xs,int ((n*n -m:Nat):Int),int most, .c (.ptr pid pg 0)] H (Jfm p n m xs ls most H pid pg S):=by
 have hn:=hp.hn
 have hz:=hp.size
 have hxl:=hg.len
 have hsq:4≤n*n∧n*n≤16:=by rcases hn with rfl|rfl|rfl<;>omega
 obtain⟨⟨oid,og,cs,o1,o2,o3,o4,o5⟩,opn⟩:=hout
 have hplt:pid<H.length:=(Jh.1 (JG o1).1).1
 refine Jn.cw (c:=_) Tryz.func136 rfl (n:=70) Tryz.ntmps136 (rs:=[]) rfl ?_
 simp only[Je,Jf,zA,zS,Jd,Jb,Jc]
 simp(maxSteps:=999999)(disch:=omega)only[go_sem,zA,zM,zS,zE,zL]
 intro gb
 obtain⟨HK,hHK⟩:∃HK:Jm,HK=H++[some ⟨gb,1,cP p⟩]:=⟨_,rfl⟩
 have hKl:HK.length=H.length+1:=by rw[hHK];simp
 have hKg:∀k,k<H.length→HK[k]? =H[k]? :=fun k hk=>by rw[hHK,Ja hk]
 have bK:look HK H.length gb=some ⟨gb,1,cP p⟩:=by rw[hHK];exact JC
 have oK:VT HK pid pg ls S:=VT.same ⟨⟨oid,og,cs,o1,o2,o3,o4,o5⟩,opn⟩ fun i hi=>hKg i (by rcases hi with rfl|hi;exact hplt;exact hSl i hi)
 rw[←hHK]
 clear hHK
 refine JY (fun a:Nat=>n*n -a) (fun a=>n*n -m≤a∧a≤n*n∧ZM p n (n*n -a) xs=ZM p n m xs) (fun a=>[.a, .k, .p (int a), .k, .k, .k, .a, .a, .a, .a, .a, .a, .a, .a, .a, .a, .a, .a, .a, .a, .a, .a, .a, .a, .a, .a, .a, .a, .a, .a, .a, .a, .a, .a, .a, .a, .a, .a, .a, .a, .a, .a, .a, .a, .a, .a, .a, .a, .a, .a, .a, .a, .a, .a, .a, .a, .a, .a, .a, .a, .a, .a, .a, .a, .a, .a, .a, .a, .a, .a]) (fun _=>HK) (n*n -m) ⟨Nat.le_refl _,by omega,by rw[show n*n -(n*n -m)=m by omega]⟩ (by simp(maxSteps:=999999)(disch:=omega)only[go_sem,zA,zM,zS,zE,zL]) (J0.refl _) ?_
 rintro a ⟨ha1,ha2,hsol⟩
 simp(maxSteps:=999999)(disch:=omega)only[go_sem,zA,zM,zS,zE,zL]
 ((with_reducible first|refine JJ ?_ ?_|refine JF ?_ ?_|refine JU ?_ ?_|refine Jw ?_ ?_|refine JH ?_ ?_|refine JI ?_ ?_|refine JD ?_ ?_|refine JE ?_ ?_|refine JS ?_ ?_|refine JT ?_ ?_|refine Jy ?_ ?_|refine Jz ?_ ?_)<;>intro h1<;>simp(maxSteps:=999999)(disch:=omega)only[go_sem,zA,zM,zS,zE,zL,h1])
 · have h1:a<xs.length:=by omega
   have hss:ZM p n (n*n -a) xs=if 0<JA xs a then ZM p n (n*n -(a+1)) xs else(vals n 1).flatMap fun(v:Nat)=>if QT p (xs.set a (v:Int)) n=true then ZM p n (n*n -(a+1)) (xs.set a (v:Int))else[]:=by
    rw[show n*n -a=(n*n -(a+1))+1 by omega]
    have e:xs.length -(n*n -(a+1)+1)=a:=by omega
    conv=>lhs;rw[ZM,e]
    rfl
   ((first|(with_reducible first|refine Jl ?_ ?_|refine Jj ?_ ?_|refine Jp ?_ ?_)|refine Jr ?_ ?_)<;>intro h2)
   · simp(maxSteps:=999999)(disch:=omega)only[go_sem,zA,zM,zS,zE,zL]
     exact⟨a+1,⟨⟨by omega,by omega,by rw[←hsol,hss,if_pos h2]⟩,by omega⟩,by push_cast;omega,J0.refl _⟩
   · simp(maxSteps:=999999)(disch:=omega)only[go_sem,zA,zM,zS,zE,zL]
     ((first|(with_reducible first|refine Jl ?_ ?_|refine Jj ?_ ?_|refine Jp ?_ ?_)|refine Jr ?_ ?_)<;>intro h3)
     · exfalso;omega
     simp(maxSteps:=999999)(disch:=omega)only[go_sem,zA,zM,zS,zE,zL]
     have hgoal:ZM p n m xs=(vals n 1).flatMap fun(v:Nat)=>if QT p (xs.set a (v:Int)) n=true then ZM p n (n*n -(a+1)) (xs.set a (v:Int))else[]:=by rw[←hsol,hss,if_neg h2]
     refine Xq (fun(v:Nat) (HI:Jm) (l:List (List Int))=>n+1 -v) (fun v HI l=>1≤v∧v≤n+1∧Ft p n (n*n -(a+1)) xs a most (vals n v) l=Ft p n (n*n -(a+1)) xs a most (vals n 1) ls∧l.length≤most∧HK.length≤HI.length∧∃S',VT HI pid pg l S'∧(∀k∈S',k∈S∨HK.length≤k)∧(∀k∈S',k<HI.length)∧∀k,k<HK.length→k≠pid→k∉S→HI[k]? =HK[k]?)
      (fun v _ _=>[.a, .k, .k, .k, .k, .k, .a, .a, .a, .a, .p (int v), .a, .a, .a, .a, .a, .a, .a, .a, .a, .a, .a, .a, .a, .a, .a, .a, .a, .a, .a, .a, .a, .a, .a, .a, .a, .a, .a, .a, .a, .a, .a, .a, .a, .a, .a, .a, .a, .a, .a, .a, .a, .a, .a, .a, .a, .a, .a, .a, .a, .a, .a, .a, .a, .a, .a, .a, .a, .a, .a]) (fun _ HI _=>HI) 1 HK ls ⟨Nat.le_refl _,by omega,rfl,by omega,Nat.le_refl _,S,oK,fun k hk=> .inl hk,fun k hk=>by have:=hSl k hk;omega,fun _ _ _ _=>rfl⟩ (by simp(maxSteps:=999999)(disch:=omega)only[go_sem,zA,zM,zS,zE,zL];rfl) (J0.refl _) ?_
     rintro v HI l ⟨hv1,hv2,hgo,hlm,hlI,S',oI,hS1,hS2,hfI⟩
     have bI:look HI H.length gb=some ⟨gb,1,cP p⟩:=by unfold look;rw[hfI H.length (by omega) (by omega) (fun h=>by have:=hSl _ h;omega)];exact bK
     obtain⟨⟨oid',og',cs',q1,q2,q3,q4,q5⟩,qpn⟩:=oI
     have q6:XY HI (.c (.ptr pid pg 0))=some (.c (.ptr pid pg 0)):=Vn q1
     simp(maxSteps:=999999)(disch:=omega)only[go_sem,zA,zM,zS,zE,zL,bI]
     ((with_reducible first|refine JJ ?_ ?_|refine JF ?_ ?_|refine JU ?_ ?_|refine Jw ?_ ?_|refine JH ?_ ?_|refine JI ?_ ?_|refine JD ?_ ?_|refine JE ?_ ?_|refine JS ?_ ?_|refine JT ?_ ?_|refine Jy ?_ ?_|refine Jz ?_ ?_)<;>intro c1<;>simp(maxSteps:=999999)(disch:=omega)only[go_sem,zA,zM,zS,zE,zL,c1])
     · have hvn:v≤n:=by omega
       simp(maxSteps:=999999)(disch:=omega)only[go_sem,zA,zM,zS,zE,zL,bI,q1,q2,q6]
       ((first|(with_reducible first|refine Jl ?_ ?_|refine Jj ?_ ?_|refine Jp ?_ ?_)|refine Jr ?_ ?_)<;>intro c2)
       · have c2:l.length<most:=by omega
         simp(maxSteps:=999999)(disch:=omega)only[go_sem,zA,zM,zS,zE,zL]
         intro g0
         refine RB (Qb UE rfl Kh) ⟨rfl,rfl,rfl⟩ (by omega) ?_
         intro g1
         simp(maxSteps:=999999)(disch:=omega)only[go_sem,zA,zM,zS,zE,zL,JC,QM]
         rw[Int.toNat_natCast]
         obtain⟨HN,hHN⟩:∃HN:Jm,HN=HI++[some ⟨g1,1,cl (eI .i64) (xs.set a v)⟩]:=⟨_,rfl⟩
         have hNl:HN.length=HI.length+1:=by rw[hHN];simp
         have hNg:∀k,k<HI.length→HN[k]? =HI[k]? :=fun k hk=>by rw[hHN,Ja hk]
         have hle:J0 HN HI:=by rw[hHN];exact J0.app _ _
         have bN:look HN H.length gb=some ⟨gb,1,cP p⟩:=by unfold look;rw[hNg H.length (by omega)];exact bI
         have nN:look HN HI.length g1=some ⟨g1,1,cl (eI .i64) (xs.set a v)⟩:=by rw[hHN];exact JC
         have oN:VT HN pid pg l S':=VT.same ⟨⟨oid',og',cs',q1,q2,q3,q4,q5⟩,qpn⟩ fun i hi=>hNg i (by rcases hi with rfl|hi;omega;exact hS2 i hi)
         rw[←hHN]
         clear hHN
         have hgs:Zk (xs.set a (v:Int)) n:=⟨by rw[Jo];exact hxl,fun k hk=>by
          rw[Jo]at hk
          rw[Za _ _ _ _ h1]
          split
          · omega
          · exact hg.val k hk⟩
         have hown:Qy HN (.own HI.length g1 0 xs.length none) (xs.set a (v:Int)) [HI.length]:=by
          have:=Qy.o (H:=HN) HI.length g1 none (xs.set a (v:Int)) [] (by rw[Ju];exact nN)
          rwa [Jo]at this
         simp(maxSteps:=999999)(disch:=omega)only[go_sem,zA,zM,zS,zE,zL,bN]
         refine JZ.rdD (YI hp (xs.set a (v:Int)) hgs) (⟨_,Tryz.func130,rfl,rfl⟩:Ji Tryz.prog 130) rfl rfl (UO rfl hown.snap) rfl ?_
         simp(maxSteps:=999999)(disch:=omega)only[go_sem,zA,zM,zS,zE,zL]
         ((first|(with_reducible first|refine Jl ?_ ?_|refine Jj ?_ ?_|refine Jp ?_ ?_)|refine Jr ?_ ?_)<;>intro c3)
         · simp(maxSteps:=999999)(disch:=omega)only[go_sem,zA,zM,zS,zE,zL,bN]
           have hrec:=JbO hp most hmo (n*n -(a+1)) HN HI.length g1 (xs.set a (v:Int)) pid pg l S' (by omega) hgs nN (fun h=>by have:=hS2 _ h;omega) (by omega) c2 oN (fun k hk=>by have:=hS2 k hk;omega)
           rw[Jo,show((n*n -(n*n -(a+1)):Nat):Int)=(a:Int)+1 by omega]at hrec
           refine JZ.run hrec (⟨_,Tryz.func136,rfl,rfl⟩:Ji Tryz.prog 136) rfl rfl ?_
           rintro _ H2 ⟨rfl,S2,oo,t1,t2,tl,tf⟩
           simp(maxSteps:=999999)(disch:=omega)only[go_sem,zA,zM,zS,zE,zL]
           refine⟨v+1,H2,l++(ZM p n (n*n -(a+1)) (xs.set a (v:Int))).take (most -l.length),⟨⟨by omega,by omega, ?_,by simp;omega,by omega,S2,oo,fun k hk=> ?_,t2,fun k hk hkp hkS=> ?_⟩,by omega⟩,by push_cast;omega,J0.refl _⟩
           · rw[←hgo,W6 ⟨hv1,hvn⟩]
             conv=>rhs;unfold Ft
             rw[if_pos c2,if_pos c3]
           · rcases t1 k hk with h|h
             · rcases hS1 k h with h|h
               · exact .inl h
               · exact .inr h
             · exact .inr (by omega)
           · have hkS':k∉S':=fun h=>by
              rcases hS1 k h with h|h
              · exact hkS h
              · omega
             rw[tf k (by omega) hkp hkS',hNg k (by omega),hfI k hk hkp hkS]
         · simp(maxSteps:=999999)(disch:=omega)only[go_sem,zA,zM,zS,zE,zL]
           refine⟨v+1,HI,l,⟨⟨by omega,by omega, ?_,hlm,hlI,S',⟨⟨oid',og',cs',q1,q2,q3,q4,q5⟩,qpn⟩,hS1,hS2,hfI⟩,by omega⟩,by push_cast;omega,hle⟩
           rw[←hgo,W6 ⟨hv1,hvn⟩]
           conv=>rhs;unfold Ft
           rw[if_pos c2,if_neg (by rw[c3];simp)]
       · simp(maxSteps:=999999)(disch:=omega)only[go_sem,zA,zM,zS,zE,zL]
         have hend:Ft p n (n*n -(a+1)) xs a most (vals n 1) ls=l:=by rw[←hgo];exact NF (by omega)
         rw[KD _ _ _ _ _ _ _ _ (by omega),←hgoal]at hend
         refine⟨HI,J0.refl _,rfl,S', ?_,fun k hk=> ?_,hS2,by omega,fun k hk hkp hkS=>by rw[hfI k (by omega) hkp hkS,hKg k hk]⟩
         · rw[hend];exact⟨⟨oid',og',cs',q1,q2,q3,q4,q5⟩,qpn⟩
         · rcases hS1 k hk with h|h
           · exact .inl h
           · exact .inr (by omega)
     · have hve:v=n+1:=by omega
       have hend:Ft p n (n*n -(a+1)) xs a most (vals n 1) ls=l:=by rw[←hgo,hve,GE];rfl
       rw[KD _ _ _ _ _ _ _ _ (by omega),←hgoal]at hend
       refine⟨HI,J0.refl _,rfl,S', ?_,fun k hk=> ?_,hS2,by omega,fun k hk hkp hkS=>by rw[hfI k (by omega) hkp hkS,hKg k hk]⟩
       · rw[hend];exact⟨⟨oid',og',cs',q1,q2,q3,q4,q5⟩,qpn⟩
       · rcases hS1 k hk with h|h
         · exact .inl h
         · exact .inr (by omega)
 · have hae:a=n*n:=by omega
   ((first|(with_reducible first|refine Jl ?_ ?_|refine Jj ?_ ?_|refine Jp ?_ ?_)|refine Jr ?_ ?_)<;>intro h3)
   · simp(maxSteps:=999999)(disch:=omega)only[go_sem,zA,zM,zS,zE,zL]
     have hpo:pid≠oid:=fun h=>opn (by rw[h];exact o3)
     have holt:oid<H.length:=hSl oid o3
     have oK1:look HK pid pg=some ⟨pg,1,[.own oid og 0 ls.length none]⟩:=by unfold look;rw[hKg pid hplt];exact o1
     have oK2:look HK oid og=some ⟨og,1,cs⟩:=by unfold look;rw[hKg oid holt];exact o2
     have hM1:look (Zg (ZS oid HK.length (HK.length+3)) HK) pid pg=some ⟨pg,1,[.own oid og 0 ls.length none]⟩:=by rw[Ur (U7 hpo (by omega))];exact oK1
     have hM2:XY (Zg (ZS oid HK.length (HK.length+3)) HK) (.c (.ptr pid pg 0))=some (.c (.ptr pid pg 0)):=Vn hM1
     refine Q3 [0,1,2,3,4,5,6,7,8] [4] none [9,10] (ZS oid HK.length (HK.length+3)) [0,0,2,6,0,0,48,112,254,511,1023] Zd (by kernel_rfl) ?_
     iterate 7 (rw[Jv];simp(maxSteps:=999999)(disch:=omega)only[go_sem,zA,zM,zS,zE,zL,hM1,hM2])
     refine Jcd (Qb UE rfl Kh) ⟨rfl,rfl,rfl⟩ (by omega) ?_
     intro c4 H4 S4 k4 hS4 hl4
     obtain⟨id4,g4,rfl,rfl,l4⟩:=k4.inv (by intro h0;rw[h0]at hxl;simp at hxl;omega)
     simp only[JL]at hl4
     have hi4:=hS4 id4 (by simp)
     refine⟨ZR fun j b hj hb=>by rw[Ja (Jh.1 hb).1];exact hb, ?_⟩
     rw[Jv]
     simp(maxSteps:=999999)(disch:=omega)only[go_sem,zA,zM,zS,zE,zL]
     intro g5
     refine⟨ZR fun j b hj hb=>by rw[Ja (Jh.1 hb).1];exact hb, ?_⟩
     rw[Jv]
     simp(maxSteps:=999999)(disch:=omega)only[go_sem,zA,zM,zS,zE,zL]
     have hbl:look (HK++H4++[some ⟨g5,1,[CV.own id4 g4 0 xs.length none]⟩]) (HK.length+H4.length) g5=some ⟨g5,1,[CV.own id4 g4 0 xs.length none]⟩:=by
      have:=JC (H:=HK++H4) (g:=g5) (sz:=1) (cs:=[CV.own id4 g4 0 xs.length none])
      rwa [Jk]at this
     have hol:look (HK++H4++[some ⟨g5,1,[CV.own id4 g4 0 xs.length none]⟩]) oid og=some ⟨og,1,cs⟩:=JO (JO oK2)
     refine VH (Qb Jkb rfl UE) ⟨rfl,rfl,by decide⟩ (by omega) hol o4 hbl ?_
     intro g6
     refine⟨ZR fun j b hj hb=>by
      have hjl:=(Jh.1 hb).1
      simp only[Jk,JL]at hjl
      obtain⟨hjo,_⟩:=Vt hj (by omega)
      rw[Jg (Ne.symm hjo)];exact hb, ?_⟩
     obtain⟨HL,hHL⟩:∃HL:Jm,HL=(HK++H4++[some ⟨g5,1,[CV.own id4 g4 0 xs.length none]⟩]:Jm).set oid (some ⟨g6,1,cs++[CV.own id4 g4 0 xs.length none]⟩):=⟨_,rfl⟩
     have hLl:HL.length=HK.length+2:=by rw[hHL,Jo];simp;omega
     have hL3:∀j,j<HK.length→j≠oid→HL[j]? =HK[j]? :=fun j hj hn=>by rw[hHL,Jg (Ne.symm hn),Jt,Ja hj]
     have hL1:look HL pid pg=some ⟨pg,1,[.own oid og 0 ls.length none]⟩:=by unfold look;rw[hL3 pid (by omega) hpo];exact oK1
     have hL2:look HL oid g6=some ⟨g6,1,cs++[CV.own id4 g4 0 xs.length none]⟩:=by rw[hHL];exact JM (by simp;omega)
     have hL4:look HL id4 g4=some ⟨g4,1,cl (eI .i64) xs⟩:=by rw[hHL,J6 (by omega)];exact JO l4
     rw[←hHL]
     clear hHL
     have hL5:XY HL (.c (.ptr pid pg 0))=some (.c (.ptr pid pg 0)):=Vn hL1
     simp(maxSteps:=999999)(disch:=omega)only[go_sem,zA,zM,zS,zE,zL,hL1,hL5]
     have hs1:ZM p n m xs=[xs]:=by rw[←hsol,show n*n -a=0 by omega];rfl
     have hfin:VT (HL.set pid (some ⟨pg,1,[CV.own oid g6 0 (ls.length+1) none]⟩)) pid pg (ls++[xs]) (id4::S):=by
      have hlen1:(ls++[xs]).length=ls.length+1:=by simp
      refine⟨⟨oid,g6,cs++[CV.own id4 g4 0 xs.length none],by rw[hlen1];exact JM (by omega),by rw[J6 hpo];exact hL2,by simp[o3],by simp[o4],fun i hi=> ?_⟩,by simp;exact⟨by omega,opn⟩⟩
      rw[hlen1]at hi
      by_cases hil:i<ls.length
      · obtain⟨id,g,k1,k2,k3,hio⟩:=o5 i hil
        have hidl:=hSl id k3
        refine⟨id,g,by rw[Ja (by omega)];rw[List.getElem_append_left hil];exact k1, ?_,by simp[k3],hio⟩
        rw[List.getElem_append_left hil,J6 (fun h=>opn (by rw[h];exact k3))]
        unfold look
        rw[hL3 id (by omega) hio,hKg id hidl]
        exact k2
      · have hie:i=ls.length:=by omega
        subst hie
        refine⟨id4,g4, ?_, ?_,by simp,by omega⟩
        · rw[J3 (by omega),o4]
          simp
        · rw[J6 (by omega)]
          simp only[List.getElem_append_right (Nat.le_refl _),Nat.sub_self,List.getElem_singleton]
          exact hL4
     refine⟨_,J0.refl _,rfl,id4::S, ?_, ?_, ?_,by simp;omega,fun k hk hkp hkS=> ?_⟩
     · rw[hs1,Js (by simp;omega)]
       exact hfin
     · intro k hk
       rcases Qn.1 hk with rfl|hk
       · exact .inr (by omega)
       · exact .inl hk
     · intro k hk
       rw[Jo]
       rcases Qn.1 hk with rfl|hk
       · omega
       · have:=hSl k hk;omega
     · rw[Jg (Ne.symm hkp),hL3 k (by omega) (fun h=>hkS (by rw[h];exact o3)),hKg k hk]
   · exfalso;omega
end Go.Lg

namespace Go.Lg
open Go.Proofs
theorem JfA{α β:Type}{f:α→Option β}:∀(l:List α) (r:List β),l.length=r.length→(∀i (h:i<l.length) (h':i<r.length),f l[i]=some r[i])→l.mapM f=some r
 |[],[],_,_=>rfl
 |[],_::_,h,_=>by simp at h
 |_::_,[],h,_=>by simp at h
 |a::l,b::r,hl,h=>by
  have h0:=h 0 (by simp) (by simp)
  have ih:=JfA l r (by simpa using hl) fun i h1 h2=>h (i+1) (by simpa using h1) (by simpa using h2)
  simp only[List.getElem_cons_zero]at h0
  simp only[J4,h0,ih,Option.pure_def,Option.bind_eq_bind,Option.bind_some]
theorem VT.frz{H:Jm}{pid pg:Nat}{ls:List (List Int)}{S:List Nat}(h:VT H pid pg ls S):∃oid og,look H pid pg=some ⟨pg,1,[.own oid og 0 ls.length none]⟩∧frzC H (.own oid og 0 ls.length none)=some (.f (Uu eL ls)):=by
 obtain⟨⟨oid,og,cs,h1,h2,h3,h4,h5⟩,_⟩:=h
 refine⟨oid,og,h1, ?_⟩
 have hm:cs.mapM (Lg.frz H 5)=some (ls.map J5):=by
  refine JfA _ _ (by simp[h4]) fun i hi hi'=> ?_
  have hil:i<ls.length:=by omega
  obtain⟨id,g,k1,k2,k3,k4⟩:=h5 i hil
  have e:cs[i]= .own id g 0 ls[i].length none:=by
   rw[Jq hi]at k1
   exact Option.some.inj k1
  rw[e,List.getElem_map]
  exact(Qy.o (H:=H) id g none ls[i] [] (by rw[Ju];exact k2)).frz 4
 have et:(cs.drop 0).take (ls.length*1)=cs:=by rw[JR,Js (by omega)]
 have ef:ls.map J5=fl eL ls:=by
  have:∀l:List (List Int),l.map J5=fl eL l:=fun l=>by
   induction l with
   |nil=>rfl
   |cons x l ih=>simp only[Qr,ih,fl,List.flatMap_cons,eL,Jb,Jc]
  exact this ls
 simp only[frzC,Lg.frz,h2,et,hm,Option.map_some,ef]
theorem UH{p:Q4}(h:JB p=true):Qe p.given p.size=true:=by
 simp only[JB,Bool.and_eq_true]at h;exact h.1
def R4(p:Q4)(most:Nat):List (List Int):=if JB p=true∧QT p p.given p.size.toNat=true then(ZM p p.size.toNat (p.size.toNat*p.size.toNat) p.given).take most else[]
theorem K8(p:Q4)(most:Nat)(hmo:1≤most∧most≤600)(hx:Rf p):JW Tryz.prog 110 [aP p,int most] (Bl eL (R4 p most)):=by
 have hgl:=hx.1
 refine JW.iced ?_
 refine Jn.cw (c:=_) Tryz.func110 rfl (n:=17) Tryz.ntmps110 (rs:=[.tmp 4]) rfl ?_
 simp only[Je,Jf,zA,zS,Jd,Jb,Jc]
 simp(maxSteps:=999999)(disch:=omega)only[go_sem,zA,zM,zS,zE,zL]
 intro g1 g2 g3
 first|refine JZ.rd (ZY p p.given hx hgl) (⟨_,Tryz.func103,rfl,rfl⟩:Ji Tryz.prog 103) rfl rfl rfl rfl ?_|refine JK.rd (ZY p p.given hx hgl) (⟨_,Tryz.func103,rfl,rfl⟩:Ji Tryz.prog 103) rfl rfl rfl rfl ?_
 simp(maxSteps:=999999)(disch:=omega)only[go_sem,zA,zM,zS,zE,zL]
 cases hc:(JB p&&(Qe p.given p.size&&QT p p.given p.size.toNat))with
 |false=>
  simp(maxSteps:=999999)(disch:=omega)only[go_sem,zA,zM,zS,zE,zL]
  have:R4 p most=[]:=by
   unfold R4
   rw[if_neg]
   rintro⟨h1,h2⟩
   rw[h1,UH h1,h2]at hc
   cases hc
  rw[this]
  exact Vc (by simp only[Vu,Xw,frzC,frz,go_sem];rfl)
 |true=>
  simp only[Bool.and_eq_true]at hc
  obtain⟨h1,h2,h3⟩:=hc
  obtain⟨hp,hs⟩:=Ux.of h1
  have hg:=Zk.of hp.hn (xs:=p.given) (by rw[hs];exact h2)
  have hall:R4 p most=(ZM p p.size.toNat (p.size.toNat*p.size.toNat) p.given).take most:=by unfold R4;rw[if_pos ⟨h1,h3⟩]
  generalize p.size.toNat=n at hp hs hg hall
  have hr:=JbP hp most hmo.2 (n*n) [some ⟨g1,1,cP p⟩,some ⟨g2,1,[]⟩,some ⟨g3,1,[CV.own 1 g2 0 0 none]⟩] p.given 2 g3 [] [1] (Nat.le_refl _) hg (by simp;omega)
   ⟨⟨1,g2,[],by simp only[go_sem],by simp only[go_sem],by simp,rfl,fun i hi=>by simp at hi⟩,by simp⟩ (by simp)
  rw[Nat.sub_self]at hr
  simp(maxSteps:=999999)(disch:=omega)only[go_sem,zA,zM,zS,zE,zL]
  refine JZ.run hr (⟨_,Tryz.func136,rfl,rfl⟩:Ji Tryz.prog 136) rfl rfl ?_
  rintro _ H2 ⟨rfl,S2,o2,_⟩
  rw[Jc,Jf,Nat.sub_zero,←hall]at o2
  obtain⟨oid,og,k1,k2⟩:=o2.frz
  simp(maxSteps:=999999)(disch:=omega)only[go_sem,zA,zM,zS,zE,zL,k1]
  exact Vc (by simp only[Vu,Xw,k2,Option.map_some])
end Go.Lg
