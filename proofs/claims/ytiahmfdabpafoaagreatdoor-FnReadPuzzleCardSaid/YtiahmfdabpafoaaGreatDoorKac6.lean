/- GpDH, cut to what is needed. -/
import Derived.Test.YtiahmfdabpafoaaGreatDoorKac5
open List renaming getElem?_eq_some_iff → Ja, getElem?_append_left → Jb, cons_append → Jc, nil_append → Jd, length_append → Je, length_cons → Jf, replicate → Jg, getElem?_set_ne → Jj, length_nil → Jl, take_of_length_le → Jn, append_assoc → Js, length_set → Jt, append_nil → Jv, length_take → JA, drop_zero → JB, getElem?_append_right → JN, mem_cons → JV, length_singleton → JW
open Nat renaming reduceAdd→zA,reduceMul→zM,reduceSub→zS,reduceEqDiff→zE,reduceLeDiff→zL
set_option linter.unusedSimpArgs false
set_option linter.unusedVariables false
set_option maxRecDepth 100000
namespace Go.Lg
open Go.Proofs
attribute [-go_sem] Qg JP
def Gu(p:Zk)(n m:Nat)(xs:List Int)(i most:Nat):List Nat→List (List Int)→List (List Int)
 |[],ls=>ls
 |v::vs,ls=>if ls.length<most then(if UJ p (xs.set i (v:Int)) n=true then Gu p n m xs i most vs (ls++(Ul p n m (xs.set i (v:Int))).take (most -ls.length))else Gu p n m xs i most vs ls)else ls
theorem Kv(p:Zk)(n m:Nat)(xs:List Int)(i most:Nat):∀(vs:List Nat) (ls:List (List Int)),ls.length≤most→
 Gu p n m xs i most vs ls=ls++(vs.flatMap fun(v:Nat)=>if UJ p (xs.set i (v:Int)) n=true then Ul p n m (xs.set i (v:Int))else[]).take (most -ls.length)
 |[],ls,_=>by simp[Gu]
 |v::vs,ls,hl=>by
  unfold Gu
  rw[List.flatMap_cons]
  by_cases h:ls.length<most
  · rw[if_pos h]
    by_cases hf:UJ p (xs.set i (v:Int)) n=true
    · rw[if_pos hf,if_pos hf,Kv p n m xs i most vs _ (by simp;omega),Js,List.take_append]
      congr 2
      simp only[Je,JA]
      by_cases hle:(Ul p n m (xs.set i (v:Int))).length≤most -ls.length
      · rw[Nat.min_eq_right hle]
        congr 1
        omega
      · rw[show most -(ls.length+min (most -ls.length) (Ul p n m (xs.set i (v:Int))).length)=0 by omega,show most -ls.length -(Ul p n m (xs.set i (v:Int))).length=0 by omega]
    · rw[if_neg hf,if_neg hf,Kv p n m xs i most vs ls hl,Jd]
  · rw[if_neg h,show most -ls.length=0 by omega]
    simp
theorem NZ{p:Zk}{n m:Nat}{xs:List Int}{i most:Nat}{vs:List Nat}{ls:List (List Int)}(h:¬ls.length<most):Gu p n m xs i most vs ls=ls:=by
 cases vs with
 |nil=>rfl
 |cons v vs=>unfold Gu;rw[if_neg h]
def vals(n v:Nat):List Nat:=((List.range n).map (· +1)).drop (v -1)
theorem Xg{n v:Nat}(h:1≤v∧v≤n):vals n v=v::vals n (v+1):=by
 unfold vals
 rw[Xf h,show v+1 -1=v by omega]
theorem GX{n:Nat}:vals n (n+1)=[]:=by unfold vals;exact List.drop_of_length_le (by simp)
theorem UT{P:Program}{H:Ji}{t:TypeId}{ei:TI}{K:KV}(ht:QJ P t=some ei)(hz:ei.zero.length=ei.size∧ei.size=1∧ei.bytes≤24){oid og k sid sg:Nat}{lim:Option Nat}{cs:List CV}{c:CV}(hk:k≤2^40)
 (h1:look H oid og=some ⟨og,1,cs⟩) (h2:cs.length=k) (h3:look H sid sg=some ⟨sg,1,[c]⟩) (hK:∀g',K (.c (.own oid g' 0 (k+1) none)) (H.set oid (some ⟨g',1,cs++[c]⟩))):Qg P H t (.c (.own oid og 0 k none)) (.c (.own sid sg 0 1 lim)) K:=by
 obtain⟨hz1,hz2,hz3⟩:=hz
 unfold Qg
 have hb:(k+1)*ei.bytes≤140737488355328:=by
  have:(k+1)*ei.bytes≤(k+1)*24:=Nat.mul_le_mul_left _ hz3
  omega
 simp only[ht,hz1,hz2,if_true,elems,h1,h3,JB,Nat.one_mul,Nat.mul_one,VI,h2,W0]
 exact⟨⟨trivial,by omega,trivial,by omega,hb⟩,hK⟩
def JbL(p:Zk)(n m:Nat)(xs:List Int)(ls:List (List Int))(most:Nat)(H:Ji)(pid pg:Nat)(S:List Nat):KV:=fun v H'=>v= .tup []∧∃S',Wi H' pid pg (ls++(Ul p n m xs).take (most -ls.length)) S'∧(∀k∈S',k∈S∨H.length≤k)∧(∀k∈S',k<H'.length)∧H.length≤H'.length∧∀k,k<H.length→k≠pid→k∉S→H'[k]? =H[k]?
theorem Gn{p:Zk}{n:Nat}(hp:B5 p n)(most:Nat)(hmo:most≤600):∀(m:Nat) (H:Ji) (gid gg:Nat) (xs:List Int) (pid pg:Nat) (ls:List (List Int)) (S:List Nat),m≤n*n→XA xs n→look H gid gg=some ⟨gg,1,cl (eI .i64) xs⟩→gid∉S→gid≠pid→ls.length<most→Wi H pid pg ls S→(∀k∈S,k<H.length)→
 Jq Tryz.prog 88 [aP p, .c (.own gid gg 0 xs.length none),int ((n*n -m:Nat):Int),int most, .c (.ptr pid pg 0)] H (JbL p n m xs ls most H pid pg S):=by
 intro m
 induction m using Nat.strongRecOn with
 |_ m ih=>
 intro H gid gg xs pid pg ls S hm hg hgl hgS hgp hls hout hSl
 have hn:=hp.hn
 have hz:=hp.size
 have hxl:=hg.len
 have hsq:4≤n*n∧n*n≤16:=by rcases hn with rfl|rfl|rfl<;>omega
 obtain⟨⟨oid,og,cs,o1,o2,o3,o4,o5⟩,opn⟩:=hout
 have hglt:gid<H.length:=(Ja.1 (Jw hgl).1).1
 have hplt:pid<H.length:=(Ja.1 (Jw o1).1).1
 refine Jq.cw (c:=_) Tryz.func88 rfl (n:=70) Tryz.ntmps88 (rs:=[]) rfl ?_
 simp only[Jf,Jl,zA,zS,Jg,Jc,Jd]
 simp(maxSteps:=999999)(disch:=omega)only[go_sem,zA,zM,zS,zE,zL]
 intro gb
 obtain⟨HK,hHK⟩:∃HK:Ji,HK=H++[some ⟨gb,1,cP p⟩]:=⟨_,rfl⟩
 have hKl:HK.length=H.length+1:=by rw[hHK];simp
 have hKg:∀k,k<H.length→HK[k]? =H[k]? :=fun k hk=>by rw[hHK,Jb hk]
 have gK:look HK gid gg=some ⟨gg,1,cl (eI .i64) xs⟩:=by unfold look;rw[hKg gid hglt];exact hgl
 have bK:look HK H.length gb=some ⟨gb,1,cP p⟩:=by rw[hHK];exact JY
 have oK:Wi HK pid pg ls S:=Wi.same ⟨⟨oid,og,cs,o1,o2,o3,o4,o5⟩,opn⟩ fun i hi=>hKg i (by rcases hi with rfl|hi;exact hplt;exact hSl i hi)
 rw[←hHK]
 clear hHK
 refine Qw (fun a:Nat=>n*n -a) (fun a=>n*n -m≤a∧a≤n*n∧Ul p n (n*n -a) xs=Ul p n m xs) (fun a=>[.a, .k, .p (int a), .k, .k, .k, .a, .a, .a, .a, .a, .a, .a, .a, .a, .a, .a, .a, .a, .a, .a, .a, .a, .a, .a, .a, .a, .a, .a, .a, .a, .a, .a, .a, .a, .a, .a, .a, .a, .a, .a, .a, .a, .a, .a, .a, .a, .a, .a, .a, .a, .a, .a, .a, .a, .a, .a, .a, .a, .a, .a, .a, .a, .a, .a, .a, .a, .a, .a, .a]) (fun _=>HK) (n*n -m) ⟨Nat.le_refl _,by omega,by rw[show n*n -(n*n -m)=m by omega]⟩ (by simp(maxSteps:=999999)(disch:=omega)only[go_sem,zA,zM,zS,zE,zL]) (Qc.refl _) ?_
 rintro a ⟨ha1,ha2,hsol⟩
 simp(maxSteps:=999999)(disch:=omega)only[go_sem,zA,zM,zS,zE,zL,gK]
 ((with_reducible first|refine JU ?_ ?_|refine JJ ?_ ?_|refine J6 ?_ ?_|refine Jx ?_ ?_|refine JS ?_ ?_|refine JT ?_ ?_|refine JH ?_ ?_|refine JI ?_ ?_|refine J4 ?_ ?_|refine J5 ?_ ?_|refine JC ?_ ?_|refine JD ?_ ?_)<;>intro h1<;>simp(maxSteps:=999999)(disch:=omega)only[go_sem,zA,zM,zS,zE,zL,h1])
 · have h1:a<xs.length:=by omega
   have hss:Ul p n (n*n -a) xs=if 0<JM xs a then Ul p n (n*n -(a+1)) xs else(vals n 1).flatMap fun(v:Nat)=>if UJ p (xs.set a (v:Int)) n=true then Ul p n (n*n -(a+1)) (xs.set a (v:Int))else[]:=by
    rw[show n*n -a=(n*n -(a+1))+1 by omega]
    have e:xs.length -(n*n -(a+1)+1)=a:=by omega
    conv=>lhs;rw[Ul,e]
    rfl
   simp(maxSteps:=999999)(disch:=omega)only[go_sem,zA,zM,zS,zE,zL,gK]
   ((first|(with_reducible first|refine Jo ?_ ?_|refine Jk ?_ ?_|refine Jp ?_ ?_)|refine Jr ?_ ?_)<;>intro h2)
   · simp(maxSteps:=999999)(disch:=omega)only[go_sem,zA,zM,zS,zE,zL]
     exact⟨a+1,⟨⟨by omega,by omega,by rw[←hsol,hss,if_pos h2]⟩,by omega⟩,by push_cast;omega,Qc.refl _⟩
   · simp(maxSteps:=999999)(disch:=omega)only[go_sem,zA,zM,zS,zE,zL,gK]
     ((first|(with_reducible first|refine Jo ?_ ?_|refine Jk ?_ ?_|refine Jp ?_ ?_)|refine Jr ?_ ?_)<;>intro h3)
     · exfalso;omega
     simp(maxSteps:=999999)(disch:=omega)only[go_sem,zA,zM,zS,zE,zL]
     have hgoal:Ul p n m xs=(vals n 1).flatMap fun(v:Nat)=>if UJ p (xs.set a (v:Int)) n=true then Ul p n (n*n -(a+1)) (xs.set a (v:Int))else[]:=by rw[←hsol,hss,if_neg h2]
     refine XZ (fun(v:Nat) (HI:Ji) (l:List (List Int))=>n+1 -v) (fun v HI l=>1≤v∧v≤n+1∧Gu p n (n*n -(a+1)) xs a most (vals n v) l=Gu p n (n*n -(a+1)) xs a most (vals n 1) ls∧l.length≤most∧HK.length≤HI.length∧∃S',Wi HI pid pg l S'∧(∀k∈S',k∈S∨HK.length≤k)∧(∀k∈S',k<HI.length)∧∀k,k<HK.length→k≠pid→k∉S→HI[k]? =HK[k]?)
      (fun v _ _=>[.a, .k, .k, .k, .k, .k, .a, .a, .a, .a, .p (int v), .a, .a, .a, .a, .a, .a, .a, .a, .a, .a, .a, .a, .a, .a, .a, .a, .a, .a, .a, .a, .a, .a, .a, .a, .a, .a, .a, .a, .a, .a, .a, .a, .a, .a, .a, .a, .a, .a, .a, .a, .a, .a, .a, .a, .a, .a, .a, .a, .a, .a, .a, .a, .a, .a, .a, .a, .a, .a, .a]) (fun _ HI _=>HI) 1 HK ls ⟨Nat.le_refl _,by omega,rfl,by omega,Nat.le_refl _,S,oK,fun k hk=> .inl hk,fun k hk=>by have:=hSl k hk;omega,fun _ _ _ _=>rfl⟩ (by simp(maxSteps:=999999)(disch:=omega)only[go_sem,zA,zM,zS,zE,zL];rfl) (Qc.refl _) ?_
     rintro v HI l ⟨hv1,hv2,hgo,hlm,hlI,S',oI,hS1,hS2,hfI⟩
     have gI:look HI gid gg=some ⟨gg,1,cl (eI .i64) xs⟩:=by unfold look;rw[hfI gid (by omega) hgp hgS];exact gK
     have bI:look HI H.length gb=some ⟨gb,1,cP p⟩:=by unfold look;rw[hfI H.length (by omega) (by omega) (fun h=>by have:=hSl _ h;omega)];exact bK
     obtain⟨⟨oid',og',cs',q1,q2,q3,q4,q5⟩,qpn⟩:=oI
     have q6:Wq HI (.c (.ptr pid pg 0))=some (.c (.ptr pid pg 0)):=Uv q1
     simp(maxSteps:=999999)(disch:=omega)only[go_sem,zA,zM,zS,zE,zL,bI]
     ((with_reducible first|refine JU ?_ ?_|refine JJ ?_ ?_|refine J6 ?_ ?_|refine Jx ?_ ?_|refine JS ?_ ?_|refine JT ?_ ?_|refine JH ?_ ?_|refine JI ?_ ?_|refine J4 ?_ ?_|refine J5 ?_ ?_|refine JC ?_ ?_|refine JD ?_ ?_)<;>intro c1<;>simp(maxSteps:=999999)(disch:=omega)only[go_sem,zA,zM,zS,zE,zL,c1])
     · have hvn:v≤n:=by omega
       simp(maxSteps:=999999)(disch:=omega)only[go_sem,zA,zM,zS,zE,zL,bI,q1,q2,q6]
       ((first|(with_reducible first|refine Jo ?_ ?_|refine Jk ?_ ?_|refine Jp ?_ ?_)|refine Jr ?_ ?_)<;>intro c2)
       · have c2:l.length<most:=by omega
         simp(maxSteps:=999999)(disch:=omega)only[go_sem,zA,zM,zS,zE,zL]
         intro g0
         refine WA (ys:=[]) (JZ UW rfl Ru) ⟨rfl,rfl,rfl⟩ (by omega) (by rw[Jv];exact gI) ?_
         intro g1
         simp(maxSteps:=999999)(disch:=omega)only[go_sem,zA,zM,zS,zE,zL,JY,Up]
         rw[Int.toNat_natCast]
         obtain⟨HN,hHN⟩:∃HN:Ji,HN=HI++[some ⟨g1,1,cl (eI .i64) (xs.set a v)⟩]:=⟨_,rfl⟩
         have hNl:HN.length=HI.length+1:=by rw[hHN];simp
         have hNg:∀k,k<HI.length→HN[k]? =HI[k]? :=fun k hk=>by rw[hHN,Jb hk]
         have hle:Qc HN HI:=by rw[hHN];exact Qc.app _ _
         have bN:look HN H.length gb=some ⟨gb,1,cP p⟩:=by unfold look;rw[hNg H.length (by omega)];exact bI
         have nN:look HN HI.length g1=some ⟨g1,1,cl (eI .i64) (xs.set a v)⟩:=by rw[hHN];exact JY
         have oN:Wi HN pid pg l S':=Wi.same ⟨⟨oid',og',cs',q1,q2,q3,q4,q5⟩,qpn⟩ fun i hi=>hNg i (by rcases hi with rfl|hi;omega;exact hS2 i hi)
         rw[←hHN]
         clear hHN
         have hgs:XA (xs.set a (v:Int)) n:=⟨by rw[Jt];exact hxl,fun k hk=>by
          rw[Jt]at hk
          rw[UZ _ _ _ _ h1]
          split
          · omega
          · exact hg.val k hk⟩
         have hown:Qv HN (.own HI.length g1 0 xs.length none) (xs.set a (v:Int)) [HI.length]:=by
          have:=Qv.o (H:=HN) HI.length g1 none (xs.set a (v:Int)) [] (by rw[Jv];exact nN)
          rwa [Jt]at this
         simp(maxSteps:=999999)(disch:=omega)only[go_sem,zA,zM,zS,zE,zL,bN]
         refine Qh.rdD (Ws hp (xs.set a (v:Int)) hgs) (⟨_,Tryz.func71,rfl,rfl⟩:Jm Tryz.prog 71) rfl rfl (UX rfl hown.snap) rfl ?_
         simp(maxSteps:=999999)(disch:=omega)only[go_sem,zA,zM,zS,zE,zL]
         ((first|(with_reducible first|refine Jo ?_ ?_|refine Jk ?_ ?_|refine Jp ?_ ?_)|refine Jr ?_ ?_)<;>intro c3)
         · simp(maxSteps:=999999)(disch:=omega)only[go_sem,zA,zM,zS,zE,zL,bN]
           have hrec:=ih (n*n -(a+1)) (by omega) HN HI.length g1 (xs.set a (v:Int)) pid pg l S' (by omega) hgs nN (fun h=>by have:=hS2 _ h;omega) (by omega) c2 oN (fun k hk=>by have:=hS2 k hk;omega)
           rw[Jt,show((n*n -(n*n -(a+1)):Nat):Int)=(a:Int)+1 by omega]at hrec
           refine Qh.run hrec (⟨_,Tryz.func88,rfl,rfl⟩:Jm Tryz.prog 88) rfl rfl ?_
           rintro _ H2 ⟨rfl,S2,oo,t1,t2,tl,tf⟩
           simp(maxSteps:=999999)(disch:=omega)only[go_sem,zA,zM,zS,zE,zL]
           refine⟨v+1,H2,l++(Ul p n (n*n -(a+1)) (xs.set a (v:Int))).take (most -l.length),⟨⟨by omega,by omega, ?_,by simp;omega,by omega,S2,oo,fun k hk=> ?_,t2,fun k hk hkp hkS=> ?_⟩,by omega⟩,by push_cast;omega,Qc.refl _⟩
           · rw[←hgo,Xg ⟨hv1,hvn⟩]
             conv=>rhs;unfold Gu
             rw[if_pos c2,if_pos c3]
           · rcases t1 k hk with h|h
             · rcases hS1 k h with h|h
               · exact .inl h
               · exact .inr h
             · exact .inr (by omega)
           · have hkS':k∉S':=fun h=>by
              rcases hS1 k h with h|h
              · exact hkS h
              · omega
             rw[tf k (by omega) hkp hkS',hNg k (by omega),hfI k hk hkp hkS]
         · simp(maxSteps:=999999)(disch:=omega)only[go_sem,zA,zM,zS,zE,zL]
           refine⟨v+1,HI,l,⟨⟨by omega,by omega, ?_,hlm,hlI,S',⟨⟨oid',og',cs',q1,q2,q3,q4,q5⟩,qpn⟩,hS1,hS2,hfI⟩,by omega⟩,by push_cast;omega,hle⟩
           rw[←hgo,Xg ⟨hv1,hvn⟩]
           conv=>rhs;unfold Gu
           rw[if_pos c2,if_neg (by rw[c3];simp)]
       · simp(maxSteps:=999999)(disch:=omega)only[go_sem,zA,zM,zS,zE,zL]
         have hend:Gu p n (n*n -(a+1)) xs a most (vals n 1) ls=l:=by rw[←hgo];exact NZ (by omega)
         rw[Kv _ _ _ _ _ _ _ _ (by omega),←hgoal]at hend
         refine⟨HI,Qc.refl _,rfl,S', ?_,fun k hk=> ?_,hS2,by omega,fun k hk hkp hkS=>by rw[hfI k (by omega) hkp hkS,hKg k hk]⟩
         · rw[hend];exact⟨⟨oid',og',cs',q1,q2,q3,q4,q5⟩,qpn⟩
         · rcases hS1 k hk with h|h
           · exact .inl h
           · exact .inr (by omega)
     · have hve:v=n+1:=by omega
       have hend:Gu p n (n*n -(a+1)) xs a most (vals n 1) ls=l:=by rw[←hgo,hve,GX];rfl
       rw[Kv _ _ _ _ _ _ _ _ (by omega),←hgoal]at hend
       refine⟨HI,Qc.refl _,rfl,S', ?_,fun k hk=> ?_,hS2,by omega,fun k hk hkp hkS=>by rw[hfI k (by omega) hkp hkS,hKg k hk]⟩
       · rw[hend];exact⟨⟨oid',og',cs',q1,q2,q3,q4,q5⟩,qpn⟩
       · rcases hS1 k hk with h|h
         · exact .inl h
         · exact .inr (by omega)
 · have hae:a=n*n:=by omega
   simp(maxSteps:=999999)(disch:=omega)only[go_sem,zA,zM,zS,zE,zL,gK]
   ((first|(with_reducible first|refine Jo ?_ ?_|refine Jk ?_ ?_|refine Jp ?_ ?_)|refine Jr ?_ ?_)<;>intro h3)
   · simp(maxSteps:=999999)(disch:=omega)only[go_sem,zA,zM,zS,zE,zL]
     have hpo:pid≠oid:=fun h=>opn (by rw[h];exact o3)
     have holt:oid<H.length:=hSl oid o3
     have oK1:look HK pid pg=some ⟨pg,1,[.own oid og 0 ls.length none]⟩:=by unfold look;rw[hKg pid hplt];exact o1
     have oK2:look HK oid og=some ⟨og,1,cs⟩:=by unfold look;rw[hKg oid holt];exact o2
     have hM1:look (QT (Z3 oid HK.length (HK.length+3)) HK) pid pg=some ⟨pg,1,[.own oid og 0 ls.length none]⟩:=by rw[UN (VB hpo (by omega))];exact oK1
     have hM2:Wq (QT (Z3 oid HK.length (HK.length+3)) HK) (.c (.ptr pid pg 0))=some (.c (.ptr pid pg 0)):=Uv hM1
     refine Zg [0,1,2,3,4,5,6,7,8] [4] none [9,10] (Z3 oid HK.length (HK.length+3)) [0,0,2,6,0,0,48,112,254,511,1023] Zr (by kernel_rfl) ?_
     iterate 7 (rw[JP];simp(maxSteps:=999999)(disch:=omega)only[go_sem,zA,zM,zS,zE,zL,hM1,hM2])
     refine YV (JZ UW rfl Ru) ⟨rfl,rfl,rfl⟩ (by omega) gK ?_
     intro c4 H4 S4 k4 hS4 hl4
     obtain⟨id4,g4,rfl,rfl,l4⟩:=k4.inv (by intro h0;rw[h0]at hxl;simp at hxl;omega)
     simp only[JW]at hl4
     have hi4:=hS4 id4 (by simp)
     refine⟨ZX fun j b hj hb=>by rw[Jb (Ja.1 hb).1];exact hb, ?_⟩
     rw[JP]
     simp(maxSteps:=999999)(disch:=omega)only[go_sem,zA,zM,zS,zE,zL]
     intro g5
     refine⟨ZX fun j b hj hb=>by rw[Jb (Ja.1 hb).1];exact hb, ?_⟩
     rw[JP]
     simp(maxSteps:=999999)(disch:=omega)only[go_sem,zA,zM,zS,zE,zL]
     have hbl:look (HK++H4++[some ⟨g5,1,[CV.own id4 g4 0 xs.length none]⟩]) (HK.length+H4.length) g5=some ⟨g5,1,[CV.own id4 g4 0 xs.length none]⟩:=by
      have:=JY (H:=HK++H4) (g:=g5) (sz:=1) (cs:=[CV.own id4 g4 0 xs.length none])
      rwa [Je]at this
     have hol:look (HK++H4++[some ⟨g5,1,[CV.own id4 g4 0 xs.length none]⟩]) oid og=some ⟨og,1,cs⟩:=JR (JR oK2)
     refine UT (JZ Jhq rfl UW) ⟨rfl,rfl,by decide⟩ (by omega) hol o4 hbl ?_
     intro g6
     refine⟨ZX fun j b hj hb=>by
      have hjl:=(Ja.1 hb).1
      simp only[Je,JW]at hjl
      obtain⟨hjo,_⟩:=Vn hj (by omega)
      rw[Jj (Ne.symm hjo)];exact hb, ?_⟩
     obtain⟨HL,hHL⟩:∃HL:Ji,HL=(HK++H4++[some ⟨g5,1,[CV.own id4 g4 0 xs.length none]⟩]:Ji).set oid (some ⟨g6,1,cs++[CV.own id4 g4 0 xs.length none]⟩):=⟨_,rfl⟩
     have hLl:HL.length=HK.length+2:=by rw[hHL,Jt];simp;omega
     have hL3:∀j,j<HK.length→j≠oid→HL[j]? =HK[j]? :=fun j hj hn=>by rw[hHL,Jj (Ne.symm hn),Js,Jb hj]
     have hL1:look HL pid pg=some ⟨pg,1,[.own oid og 0 ls.length none]⟩:=by unfold look;rw[hL3 pid (by omega) hpo];exact oK1
     have hL2:look HL oid g6=some ⟨g6,1,cs++[CV.own id4 g4 0 xs.length none]⟩:=by rw[hHL];exact JK (by simp;omega)
     have hL4:look HL id4 g4=some ⟨g4,1,cl (eI .i64) xs⟩:=by rw[hHL,J7 (by omega)];exact JR l4
     rw[←hHL]
     clear hHL
     have hL5:Wq HL (.c (.ptr pid pg 0))=some (.c (.ptr pid pg 0)):=Uv hL1
     simp(maxSteps:=999999)(disch:=omega)only[go_sem,zA,zM,zS,zE,zL,hL1,hL5]
     have hs1:Ul p n m xs=[xs]:=by rw[←hsol,show n*n -a=0 by omega];rfl
     have hfin:Wi (HL.set pid (some ⟨pg,1,[CV.own oid g6 0 (ls.length+1) none]⟩)) pid pg (ls++[xs]) (id4::S):=by
      have hlen1:(ls++[xs]).length=ls.length+1:=by simp
      refine⟨⟨oid,g6,cs++[CV.own id4 g4 0 xs.length none],by rw[hlen1];exact JK (by omega),by rw[J7 hpo];exact hL2,by simp[o3],by simp[o4],fun i hi=> ?_⟩,by simp;exact⟨by omega,opn⟩⟩
      rw[hlen1]at hi
      by_cases hil:i<ls.length
      · obtain⟨id,g,k1,k2,k3,hio⟩:=o5 i hil
        have hidl:=hSl id k3
        refine⟨id,g,by rw[Jb (by omega)];rw[List.getElem_append_left hil];exact k1, ?_,by simp[k3],hio⟩
        rw[List.getElem_append_left hil,J7 (fun h=>opn (by rw[h];exact k3))]
        unfold look
        rw[hL3 id (by omega) hio,hKg id hidl]
        exact k2
      · have hie:i=ls.length:=by omega
        subst hie
        refine⟨id4,g4, ?_, ?_,by simp,by omega⟩
        · rw[JN (by omega),o4]
          simp
        · rw[J7 (by omega)]
          simp only[List.getElem_append_right (Nat.le_refl _),Nat.sub_self,List.getElem_singleton]
          exact hL4
     refine⟨_,Qc.refl _,rfl,id4::S, ?_, ?_, ?_,by simp;omega,fun k hk hkp hkS=> ?_⟩
     · rw[hs1,Jn (by simp;omega)]
       exact hfin
     · intro k hk
       rcases JV.1 hk with rfl|hk
       · exact .inr (by omega)
       · exact .inl hk
     · intro k hk
       rw[Jt]
       rcases JV.1 hk with rfl|hk
       · omega
       · have:=hSl k hk;omega
     · rw[Jj (Ne.symm hkp),hL3 k (by omega) (fun h=>hkS (by rw[h];exact o3)),hKg k hk]
   · exfalso;omega
end Go.Lg
