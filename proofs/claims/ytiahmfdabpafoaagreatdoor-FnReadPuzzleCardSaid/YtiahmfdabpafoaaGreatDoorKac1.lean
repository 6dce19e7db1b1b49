/- GpCD, GpCE, cut to what is needed. -/
import Derived.Test.YtiahmfdabpafoaaGreatDoorKac0
open List renaming getElem?_eq_some_iff → Ja, getElem?_append_left → Jb, cons_append → Jc, nil_append → Jd, length_append → Je, length_cons → Jf, replicate → Jg, getElem?_set_ne → Jj, length_nil → Jl, take_of_length_le → Jn, length_set → Jt, append_nil → Jv, drop_zero → JB, length_singleton → JW, take_append_drop → QU, length_replicate → QV
open Nat renaming reduceAdd→zA,reduceMul→zM,reduceSub→zS,reduceEqDiff→zE,reduceLeDiff→zL
set_option linter.unusedSimpArgs false
set_option linter.unusedVariables false
set_option maxRecDepth 100000
namespace Go.Lg
open Go.Proofs
attribute [-go_sem] Qg Xz
theorem JZ{P:Program}{t e:TypeId}{ti ei:TI}(ht:Jy P t=some ti)(hk:ti.k= .slice e)(he:Jy P e=some ei):QJ P t=some ei:=by
 unfold QJ;simp only[ht,hk,he]
theorem WA{P:Program}{HI:Ji}{t:TypeId}{ei:TI}{K:KV}(ht:QJ P t=some ei)(hz:ei.zero.length=ei.size∧ei.size=1∧ei.bytes=8){xs ys:List Int}(hx:0<xs.length∧xs.length≤2^40){id g g0:Nat}{lim:Option Nat}
 (hl:look HI id g=some ⟨g,1,cl (eI .i64) (xs++ys)⟩) (hk:∀g',K (.c (.own HI.length g' 0 xs.length none)) (HI++[some ⟨g',1,cl (eI .i64) xs⟩])):
 Qg P (HI++[some ⟨g0,1,[]⟩]) t (.c (.own HI.length g0 0 0 none)) (.c (.own id g 0 xs.length lim)) K:=by
 obtain⟨hz1,hz2,hz3⟩:=hz
 have hid:id<HI.length:=(Ja.1 (Jw hl).1).1
 have hl':look (HI++[some ⟨g0,1,[]⟩]) id g=some ⟨g,1,cl (eI .i64) (xs++ys)⟩:=by rw[KU hid];exact hl
 have et:((cl (eI .i64) (xs++ys)).drop 0).take (xs.length*1)=cl (eI .i64) xs:=by
  rw[JB,QP,List.take_append_of_le_length (by rw[Qb];exact Nat.le_refl _),Jn (by rw[Qb];exact Nat.le_refl _)]
 unfold Qg
 simp only[ht,hz1,hz2,if_true,elems,JY,hl',et,VI]
 rw[if_neg (by omega)]
 simp only[Jl,Nat.zero_mul,if_true,W0,Nat.zero_add,Jd,Up]
 exact⟨⟨trivial,by omega,trivial,by omega,by rw[hz3];omega⟩,hk⟩
theorem Qv.inv'{H:Ji}{c:CV}{xs:List Int}{S:List Nat}(h:Qv H c xs S)(hn:0<xs.length):∃id g lim ys,c= .own id g 0 xs.length lim∧S=[id]∧look H id g=some ⟨g,1,cl (eI .i64) (xs++ys)⟩:=by
 cases h with
 |e=>simp at hn
 |o id g lim xs ys h=>exact⟨id,g,lim,ys,rfl,rfl,h⟩
theorem Qv.nzc'{H:Ji}{c:CV}{xs:List Int}{S:List Nat}(h:Qv H c xs S):nzC c=c:=by cases h<;>rfl
theorem JhR{P:Program}{H:Ji}{t e:TypeId}{ti:TI}{c:CV}{xs:List Int}{S:List Nat}(h:Qv H c xs S)(ht:Jy P t=some ti)(hk:ti.k= .slice e):Xz P H t (.c c)=some (.c (.f (.int .i64 xs.length))):=by
 cases h with
 |e=>simp only[Xz,ht,hk];rfl
 |o id g lim xs ys h=>simp only[Xz,ht,hk,h,Option.isSome_some,if_true]
theorem XP(n:Nat)(f:List Int→Nat→List Int×Nat)(xs:List Int)(i v:Nat)(vs:List Nat)(l:Nat):VK n f xs i (v::vs) l=if U2 (xs.set i v) n=true then VK n f xs i vs l else if(f (xs.set i v) l).1≠[]then f (xs.set i v) l else VK n f xs i vs (f (xs.set i v) l).2:=rfl
theorem Xf{n v:Nat}(h:1≤v∧v≤n):((List.range n).map (· +1)).drop (v -1)=v::((List.range n).map (· +1)).drop v:=by
 rw[List.drop_eq_getElem_cons (by simp;omega)]
 simp only[List.getElem_map,List.getElem_range]
 rw[show v -1+1=v by omega]
theorem JbK(n:Nat):∀(m:Nat) (xs:List Int) (l:Nat),(U5 n m xs l).2≤l
 |0,xs,l=>by unfold U5;split<;>simp
 |m+1,xs,l=>by
  unfold U5
  have:∀vs l,(VK n (U5 n m) xs (xs.length -(m+1)) vs l).2≤l:=by
   intro vs
   induction vs with
   |nil=>intro l;simp[VK]
   |cons v vs ih=>
    intro l
    have h1:=JbK n m (xs.set (xs.length -(m+1)) v) l
    unfold VK
    split
    · exact ih l
    · split
      · exact h1
      · exact Nat.le_trans (ih _) h1
  exact this _ l
def srchQ(n m:Nat)(xs:List Int)(l:Nat)(H:Ji)(lid lg:Nat):KV:=fun v H'=>∃c S,v= .c c∧Qv H' c (U5 n m xs l).1 S∧look H' lid lg=some ⟨lg,1,[.f (.int .i64 ((U5 n m xs l).2:Int))]⟩∧lid∉S∧H.length≤H'.length∧∀k,k<H.length→k≠lid→H'[k]? =H[k]?
theorem YD{n:Nat}(hn:n=2∨n=3∨n=4):∀(m:Nat) (H:Ji) (cg:CV) (xs:List Int) (S:List Nat) (lid lg l:Nat),m≤n*n→Qv H cg xs S→xs.length=n*n→(∀k:Nat,k<xs.length→0≤JM xs k∧JM xs k≤4)→
 look H lid lg=some ⟨lg,1,[.f (.int .i64 (l:Int))]⟩→lid∉S→l<2^40→Jq Tryz.prog 70 [.c cg,int n,int ((n*n -m:Nat):Int), .c (.ptr lid lg 0)] H (srchQ n m xs l H lid lg)
 |0,H,cg,xs,S,lid,lg,l,hm,hg,hxl,hxv,hl,hS,hl40=>by
  have hsq:4≤n*n∧n*n≤16:=by rcases hn with rfl|rfl|rfl<;>omega
  obtain⟨id,g,lim,ys,rfl,rfl,hlk⟩:=hg.inv' (by omega)
  have hlt:lid<H.length:=(Ja.1 (Jw hl).1).1
  have nl:Wq H (.c (.ptr lid lg 0))=some (.c (.ptr lid lg 0)):=Uv hl
  refine Jq.nz ?_
  refine Jq.cw (c:=_) Tryz.func70 rfl (n:=52) Tryz.ntmps70 (rs:=[.tmp 8]) rfl ?_
  simp only[Jf,Jl,zA,zS,Jg,Jc,Jd]
  simp(maxSteps:=999999)(disch:=omega)only[go_sem,zA,zM,zS,zE,zL,hlk,Xz]
  have hnn:(n*n -0:Nat)=xs.length:=by omega
  ((first|(with_reducible first|refine Jo ?_ ?_|refine Jk ?_ ?_|refine Jp ?_ ?_)|refine Jr ?_ ?_)<;>intro h1)
  · simp(maxSteps:=999999)(disch:=omega)only[go_sem,zA,zM,zS,zE,zL,nl,hl,hlk]
    ((first|(with_reducible first|refine Jo ?_ ?_|refine Jk ?_ ?_|refine Jp ?_ ?_)|refine Jr ?_ ?_)<;>intro h2)
    · simp(maxSteps:=999999)(disch:=omega)only[go_sem,zA,zM,zS,zE,zL]
      have hl0:l=0:=by omega
      subst hl0
      exact⟨H,Qc.refl _, .own id g 0 xs.length lim,[id],rfl,hg,by rw[hl];rfl,hS,Nat.le_refl _,fun k _ _=>rfl⟩
    · simp(maxSteps:=999999)(disch:=omega)only[go_sem,zA,zM,zS,zE,zL,nl,hl,hlk]
      have e:U5 n 0 xs l=([],l -1):=by unfold U5;rw[if_neg (by omega)]
      refine⟨_,Qc.refl _, .f (.sl 0 []),[],rfl,by rw[e];exact .e, ?_,by simp,by simp,fun k _ hk=>by rw[Jj (Ne.symm hk)]⟩
      rw[JK hlt,e]
      have:((l -1:Nat):Int)=(l:Int) -1:=by omega
      rw[this]
  · exfalso;omega
 |m+1,H,cg,xs,S,lid,lg,l,hm,hg,hxl,hxv,hl,hS,hl40=>by
  have hsq:4≤n*n∧n*n≤16:=by rcases hn with rfl|rfl|rfl<;>omega
  have hn4:2≤n∧n≤4:=by omega
  obtain⟨id,g,lim,ys,rfl,rfl,hlk⟩:=hg.inv' (by omega)
  have hlt:lid<H.length:=(Ja.1 (Jw hl).1).1
  have hidlt:id<H.length:=(Ja.1 (Jw hlk).1).1
  have hne:id≠lid:=fun he=>hS (by simp[he])
  obtain⟨i,hi⟩:∃i:Nat,n*n -(m+1)=i:=⟨_,rfl⟩
  have hil:i<xs.length:=by omega
  have hsr:U5 n (m+1) xs l=VK n (U5 n m) xs i ((List.range n).map (· +1)) l:=by
   unfold U5
   rw[show xs.length -(m+1)=i by omega]
  rw[hi]
  refine Jq.nz ?_
  refine Jq.cw (c:=_) Tryz.func70 rfl (n:=52) Tryz.ntmps70 (rs:=[.tmp 8]) rfl ?_
  simp only[Jf,Jl,zA,zS,Jg,Jc,Jd]
  simp(maxSteps:=999999)(disch:=omega)only[go_sem,zA,zM,zS,zE,zL,hlk,Xz]
  ((first|(with_reducible first|refine Jo ?_ ?_|refine Jk ?_ ?_|refine Jp ?_ ?_)|refine Jr ?_ ?_)<;>intro h1)
  · exfalso;omega
  simp(maxSteps:=999999)(disch:=omega)only[go_sem,zA,zM,zS,zE,zL]
  refine XZ (fun(v:Nat) (HI:Ji) (l':Nat)=>n+1 -v) (fun v HI l'=>1≤v∧v≤n+1∧U5 n (m+1) xs l=VK n (U5 n m) xs i (((List.range n).map (· +1)).drop (v -1)) l'∧look HI lid lg=some ⟨lg,1,[.f (.int .i64 (l':Int))]⟩∧H.length≤HI.length∧(∀k,k<H.length→k≠lid→HI[k]? =H[k]?)∧l'≤l)
   (fun v HI l'=>[.k, .k, .k, .k, .a, .a, .a, .a, .a, .p (int v), .a, .a, .a, .a, .a, .a, .a, .a, .a, .a, .a, .a, .a, .a, .a, .a, .a, .a, .a, .a, .a, .a, .a, .a, .a, .a, .a, .a, .a, .a, .a, .a, .a, .a, .a, .a, .a, .a, .a, .a, .a, .a]) (fun _ HI _=>HI) 1 H l ⟨by omega,by omega,hsr,hl,Nat.le_refl _,fun _ _ _=>rfl,Nat.le_refl _⟩ (by simp(maxSteps:=999999)(disch:=omega)only[go_sem,zA,zM,zS,zE,zL];rfl) (Qc.refl _) ?_
  rintro v HI l' ⟨hv1,hv2,hs',hl',hlen',hfr,hll⟩
  have hlk':look HI id g=some ⟨g,1,cl (eI .i64) (xs++ys)⟩:=by unfold look;rw[hfr id hidlt hne];exact hlk
  simp(maxSteps:=999999)(disch:=omega)only[go_sem,zA,zM,zS,zE,zL]
  ((first|(with_reducible first|refine Jo ?_ ?_|refine Jk ?_ ?_|refine Jp ?_ ?_)|refine Jr ?_ ?_)<;>intro h2)
  · have hvn:v≤n:=by omega
    simp(maxSteps:=999999)(disch:=omega)only[go_sem,zA,zM,zS,zE,zL]
    intro g0
    refine WA (JZ UW rfl Ru) ⟨rfl,rfl,rfl⟩ (by omega) hlk' ?_
    intro g1
    simp(maxSteps:=999999)(disch:=omega)only[go_sem,zA,zM,zS,zE,zL,JY,Up]
    rw[Int.toNat_natCast]
    have hown:Qv (HI++[some ⟨g1,1,cl (eI .i64) (xs.set i v)⟩]) (.own HI.length g1 0 xs.length none) (xs.set i v) [HI.length]:=by
     have:=Qv.o (H:=HI++[some ⟨g1,1,cl (eI .i64) (xs.set i v)⟩]) HI.length g1 none (xs.set i v) [] (by rw[Jv];exact JY)
     rwa [Jt]at this
    have hsv:∀k:Nat,k<(xs.set i (v:Int)).length→0≤JM (xs.set i (v:Int)) k∧JM (xs.set i (v:Int)) k≤4:=fun k hk=>by
     rw[Jt]at hk
     rw[UZ _ _ _ _ hil]
     split
     · omega
     · exact hxv k hk
    refine Qh.rdD (KX hn (xs.set i v) (by rw[Jt];exact hxl) hsv) (⟨_,Tryz.func85,rfl,rfl⟩:Jm Tryz.prog 85) rfl rfl (UX hown.snap V4) rfl ?_
    simp(maxSteps:=999999)(disch:=omega)only[go_sem,zA,zM,zS,zE,zL]
    ((first|(with_reducible first|refine Jo ?_ ?_|refine Jk ?_ ?_|refine Jp ?_ ?_)|refine Jr ?_ ?_)<;>intro h3)
    · simp(maxSteps:=999999)(disch:=omega)only[go_sem,zA,zM,zS,zE,zL]
      refine⟨v+1,HI,l',⟨⟨by omega,by omega, ?_,hl',hlen',hfr,hll⟩,by omega⟩,by push_cast;omega,Qc.app _ _⟩
      rw[hs',Xf ⟨hv1,hvn⟩,XP,if_pos h3,show v+1 -1=v by omega]
    · simp(maxSteps:=999999)(disch:=omega)only[go_sem,zA,zM,zS,zE,zL]
      have hlt':lid<HI.length:=by omega
      have hr:=YD hn m (HI++[some ⟨g1,1,cl (eI .i64) (xs.set i v)⟩]) _ _ _ lid lg l' (by omega) hown (by rw[Jt];exact hxl) hsv (by rw[KU hlt'];exact hl') (by simp;omega) (by omega)
      rw[show((n*n -m:Nat):Int)=(i:Int)+1 by omega]at hr
      refine Qh.run hr (⟨_,Tryz.func70,rfl,rfl⟩:Jm Tryz.prog 70) rfl rfl ?_
      rintro _ H2 ⟨c2,S2,rfl,o2,k2,n2,len2,f2⟩
      rw[Je,JW]at len2 f2
      have hle2:=JbK n m (xs.set i v) l'
      have hlen2:Xz Tryz.prog H2 23 (.c c2)=some (.c (.f (.int .i64 ((U5 n m (xs.set i v) l').1.length:Int)))):=JhR o2 UW rfl
      have hf2:∀k,k<H.length→k≠lid→H2[k]? =H[k]? :=fun k hk hne2=>by rw[f2 k (by omega) hne2,Jb (by omega),hfr k hk hne2]
      simp(maxSteps:=999999)(disch:=omega)only[go_sem,zA,zM,zS,zE,zL,hlen2]
      ((first|(with_reducible first|refine Jo ?_ ?_|refine Jk ?_ ?_|refine Jp ?_ ?_)|refine Jr ?_ ?_)<;>intro h4)
      · simp(maxSteps:=999999)(disch:=omega)only[go_sem,zA,zM,zS,zE,zL]
        have hne2:(U5 n m (xs.set i v) l').1≠[]:=fun h0=>by rw[h0]at h4;simp at h4
        have e:U5 n (m+1) xs l=U5 n m (xs.set i v) l':=by rw[hs',Xf ⟨hv1,hvn⟩,XP,if_neg (by rw[h3];simp),if_pos hne2]
        refine⟨H2,Qc.refl _,c2,S2, ?_,by rw[e];exact o2,by rw[e];exact k2,n2,by omega,hf2⟩
        show AV.c (nzC c2)=_
        rw[o2.nzc']
      · simp(maxSteps:=999999)(disch:=omega)only[go_sem,zA,zM,zS,zE,zL]
        have he2:(U5 n m (xs.set i v) l').1=[]:=by
         have:¬0<(U5 n m (xs.set i v) l').1.length:=by omega
         exact List.eq_nil_of_length_eq_zero (by omega)
        refine⟨v+1,H2,(U5 n m (xs.set i v) l').2,⟨⟨by omega,by omega, ?_,k2,by omega,hf2,by omega⟩,by omega⟩,by push_cast;omega,Qc.refl _⟩
        rw[hs',Xf ⟨hv1,hvn⟩,XP,if_neg (by rw[h3];simp),if_neg (by rw[he2];simp),show v+1 -1=v by omega]
  · have hv:v=n+1:=by omega
    simp(maxSteps:=999999)(disch:=omega)only[go_sem,zA,zM,zS,zE,zL]
    have e:U5 n (m+1) xs l=([],l'):=by
     rw[hs',hv,show n+1 -1=n by omega,List.drop_of_length_le (by simp)]
     rfl
    exact⟨HI,Qc.refl _, .f (.sl 0 []),[],rfl,by rw[e];exact .e,by rw[e];exact hl',by simp,hlen',hfr⟩
def lenQ(k:Nat):KV:=fun v H=>∃xs id g,v= .c (.own id g 0 k none)∧look H id g=some ⟨g,1,cl (eI .i64) xs⟩∧xs.length=k
theorem KC{n:Nat}(hn:n=2∨n=3∨n=4)(number:Nat)(hm:number<VR n):Jq Tryz.prog 52 [int n,int number] [] (lenQ (n*n)):=by
 have hn4:2≤n∧n≤4:=by omega
 have hm6:VR n≤576:=by unfold VR;split<;>(try split)<;>omega
 have hsq:4≤n*n∧n*n≤16:=by rcases hn with rfl|rfl|rfl<;>omega
 have hsi:(n:Int)*n=((n*n:Nat):Int):=by push_cast;rfl
 refine Jq.cw (c:=_) Tryz.func52 rfl (n:=27) Tryz.ntmps52 (rs:=[.tmp 4]) rfl ?_
 simp only[Jf,Jl,zA,zS,Jg,Jc,Jd]
 simp(maxSteps:=999999)(disch:=omega)only[go_sem,zA,zM,zS,zE,zL]
 first|refine Qh.rd (QF _ _ _) (⟨_,Tryz.func45,rfl,rfl⟩:Jm Tryz.prog 45) rfl rfl rfl rfl ?_|refine Qe.rd (QF _ _ _) (⟨_,Tryz.func45,rfl,rfl⟩:Jm Tryz.prog 45) rfl rfl rfl rfl ?_
 simp(maxSteps:=999999)(disch:=omega)only[go_sem,zA,zM,zS,zE,zL]
 ((with_reducible first|refine JU ?_ ?_|refine JJ ?_ ?_|refine J6 ?_ ?_|refine Jx ?_ ?_|refine JS ?_ ?_|refine JT ?_ ?_|refine JH ?_ ?_|refine JI ?_ ?_|refine J4 ?_ ?_|refine J5 ?_ ?_|refine JC ?_ ?_|refine JD ?_ ?_)<;>intro h1<;>simp(maxSteps:=999999)(disch:=omega)only[go_sem,zA,zM,zS,zE,zL,h1])
 rotate_left
 · exfalso;omega
 ((first|(with_reducible first|refine Jo ?_ ?_|refine Jk ?_ ?_|refine Jp ?_ ?_)|refine Jr ?_ ?_)<;>intro h2)
 · exfalso;omega
 simp(maxSteps:=999999)(disch:=omega)only[go_sem,zA,zM,zS,zE,zL]
 intro g1
 simp(maxSteps:=999999)(disch:=omega)only[go_sem,zA,zM,zS,zE,zL,hsi]
 intro g2
 have hown:Qv [some ⟨g1,1,[.f (.int .i64 (number:Int))]⟩,some ⟨g2,1,cl (eI .i64) (Jg (n*n) 0)⟩] (.own 1 g2 0 (n*n) none) (Jg (n*n) 0) [1]:=by
  have:=Qv.o (H:=[some ⟨g1,1,[.f (.int .i64 (number:Int))]⟩,some ⟨g2,1,cl (eI .i64) (Jg (n*n) 0)⟩]) 1 g2 none (Jg (n*n) 0) [] (by rw[Jv];simp only[go_sem])
  rwa [QV]at this
 have hr:=YD hn (n*n) _ _ _ _ 0 g1 number (Nat.le_refl _) hown (by simp) (fun k _=>by rw[Kg];omega) ZA (by simp) (by omega)
 rw[Nat.sub_self]at hr
 refine Qh.run hr (⟨_,Tryz.func70,rfl,rfl⟩:Jm Tryz.prog 70) rfl rfl ?_
 rintro _ H2 ⟨c2,S2,rfl,o2,k2,n2,len2,f2⟩
 have hne0:Jg (n*n) (0:Int)≠[]:=by intro h0;have:=congrArg List.length h0;simp at this;omega
 obtain⟨hf,_⟩:=RC n (n*n) (Jg (n*n) 0) number hne0
 rw[Jfl hn]at hf
 obtain⟨hfl,_⟩:=hf hm
 rw[QV]at hfl
 obtain⟨id,g,lim,ys,rfl,rfl,hlk⟩:=o2.inv' (by omega)
 simp(maxSteps:=999999)(disch:=omega)only[go_sem,zA,zM,zS,zE,zL]
 intro g3
 refine WA (JZ UW rfl Ru) ⟨rfl,rfl,rfl⟩ (by omega) hlk ?_
 intro g4
 simp(maxSteps:=999999)(disch:=omega)only[go_sem,zA,zM,zS,zE,zL]
 rw[hfl]
 exact⟨_,Qc.refl _,_,_,_,rfl,JY,hfl⟩
end Go.Lg

namespace Go.Lg
open Go.Proofs
section
variable{P:Program}{o:Oper}{st:St}{K:KV}{fo:Operand}{xs:Array Operand}{ts:Array TypeId}{f:FuncId}{args args':List AV}{zs:List Int}
theorem Qh.mkL{k:Nat}(hc:Jq P f args [] (lenQ k))(he:Jm P f)(ho:o.op= .call ⟨.value fo,xs,ts⟩)(ha:Qp st fo xs=some (f,args))(hf:args.all Zc=true)
 (hk:∀(xs:List Int) id g H',look (st.h++H') id g=some ⟨g,1,cl (eI .i64) xs⟩→xs.length=k→st.h.length≤id→K (.c (.own id g 0 k none)) (st.h++H')):Qh P o st K:=
 Qh.mkQ hc he ho ha hf fun r H' ⟨xs,id,g,h1,h2,h3⟩=>by
  subst h1
  refine⟨rfl,hk xs (id+st.h.length) g _ ?_ h3 (by omega)⟩
  rw[ZK h2]
  simp only[Q3,Vp]
theorem Qh.mkF{Q:AV→Prop}(hc:Jq P f args [] fun v _=>Q v)(he:Jm P f)(ho:o.op= .call ⟨.value fo,xs,ts⟩)(ha:Qp st fo xs=some (f,args))(hf:args.all Zc=true)
 (hk:∀v,Q v→XB v=true∧Vq st.h.length v=v∧K v st.h):Qh P o st K:=by
 obtain⟨h1,h2⟩:=Vi ha
 refine Qh.call ho h1 he ?_
 rw[h2]
 refine(Jq.frame hf hc fun r H' h=>(hk r h).1).weaker ?_
 rintro r H2 ⟨r',H',h3,rfl,rfl⟩
 exact⟨st.h,Qc.app _ _,by rw[(hk _ h3).2.1];exact(hk _ h3).2.2⟩
end
def Wj(H HI:Ji)(id g:Nat)(B:Int)(cid cg n2:Nat):Prop:=(∃zs:List Int,look HI cid cg=some ⟨cg,1,cl (eI .i64) zs⟩∧n2≤zs.length)∧Zj HI id g B∧id<H.length∧H.length≤cid∧H.length≤HI.length∧∀k,k<H.length→k≠id→HI[k]? =H[k]?
theorem Wj.mono{H HI:Ji}{id g cid cg n2:Nat}{B B':Int}(h:Wj H HI id g B cid cg n2)(hb:B≤B'):Wj H HI id g B' cid cg n2:=by
 obtain⟨h1,h2,h3⟩:=h
 exact⟨h1,h2.mono hb,h3⟩
theorem Wj.pick{H HI H2:Ji}{id g cid cg n2:Nat}{B B':Int}(h:Wj H HI id g B cid cg n2)(hr:Zj H2 id g B')(hf:UH HI H2 [id]):Wj H H2 id g B' cid cg n2:=by
 obtain⟨⟨zs,h1,h2⟩,_,h3,h4,h5,h6⟩:=h
 refine⟨⟨zs,by rw[hf.look (by simp;omega)];exact h1,h2⟩,hr,h3,h4,by rw[hf.1];exact h5,fun k hk hne=> ?_⟩
 rw[hf.2 k (by simp;exact hne),h6 k hk hne]
theorem Wj.store{H HI:Ji}{id g cid cg n2:Nat}{B:Int}(h:Wj H HI id g B cid cg n2){zs:List Int}(hz:n2≤zs.length):Wj H (HI.set cid (some ⟨cg,1,cl (eI .i64) zs⟩)) id g B cid cg n2:=by
 obtain⟨⟨_,h1,_⟩,h2,h3,h4,h5,h6⟩:=h
 have hlt:cid<HI.length:=(Ja.1 (Jw h1).1).1
 refine⟨⟨zs,JK hlt,hz⟩,h2.same (by rw[Jj (by omega)]),h3,h4,by simpa using h5,fun k hk hne=> ?_⟩
 rw[Jj (by omega),h6 k hk hne]
theorem Wj.app{H HI X:Ji}{id g cid cg n2:Nat}{B:Int}(h:Wj H HI id g B cid cg n2):Wj H (HI++X) id g B cid cg n2:=by
 obtain⟨⟨zs,h1,h2⟩,h3,h4,h5,h6,h7⟩:=h
 refine⟨⟨zs,JR h1,h2⟩,h3.app,h4,h5,by rw[Je];omega,fun k hk hne=> ?_⟩
 rw[Jb (by omega),h7 k hk hne]
def Jgb(n:Nat)(H:Ji)(id g:Nat)(B:Int):KV:=fun v H'=>∃cid cg,v= .c (.own cid cg 0 (n*n) none)∧Wj H H' id g (B+2) cid cg (n*n)
theorem BS{n:Nat}(hn:n=2∨n=3∨n=4)(H:Ji)(id g:Nat)(B:Int)(hr:Zj H id g B)(hB:B≤2^39):Jq Tryz.prog 34 [.c (.ptr id g 0),int n] H (Jgb n H id g B):=by
 have hlt:=hr.lt
 have hsq:4≤n*n∧n*n≤16:=by rcases hn with rfl|rfl|rfl<;>omega
 refine Jq.cw (c:=_) Tryz.func34 rfl (n:=21) Tryz.ntmps34 (rs:=[.tmp 4]) rfl ?_
 simp only[Jf,Jl,zA,zS,Jg,Jc,Jd]
 simp(maxSteps:=999999)(disch:=omega)only[go_sem,zA,zM,zS,zE,zL]
 intro g1
 have hix:ldP (some ⟨g1,1,[.f (.int .i64 2), .f (.int .i64 12), .f (.int .i64 576)]⟩) (0+((n:Int) -2).toNat*1)=some (int (VR n)):=by
  rcases hn with rfl|rfl|rfl<;>rfl
 simp(maxSteps:=999999)(disch:=omega)only[go_sem,zA,zM,zS,zE,zL,JY,hix]
 have hm:=show VR n=2∨VR n=12∨VR n=576 by rcases hn with rfl|rfl|rfl<;>simp[VR]
 refine Qh.run (QQ _ id g B 256 hr.app (by omega)) (⟨_,Tryz.func35,rfl,rfl⟩:Jm Tryz.prog 35) rfl rfl ?_
 rintro _ H2 ⟨⟨y1,rfl,y10,y11⟩,r2,f2⟩
 simp(maxSteps:=999999)(disch:=omega)only[go_sem,zA,zM,zS,zE,zL]
 refine Qh.run (QQ _ id g (B+1) 3 r2 (by omega)) (⟨_,Tryz.func35,rfl,rfl⟩:Jm Tryz.prog 35) rfl rfl ?_
 rintro _ H3 ⟨⟨y2,rfl,y20,y21⟩,r3,f3⟩
 have y11:=y11 (by omega)
 have y21:=y21 (by omega)
 simp(maxSteps:=999999)(disch:=omega)only[go_sem,zA,zM,zS,zE,zL]
 obtain⟨number,hnum,hnl⟩:∃number:Nat,(y1*3+y2).tmod (VR n:Int)=number∧number<VR n:=by
  rw[Un (by omega)]
  have h1:=Int.emod_nonneg (y1*3+y2) (show(VR n:Int)≠0 by omega)
  have h2:=Int.emod_lt_of_pos (y1*3+y2) (show(0:Int)<(VR n:Int) by omega)
  exact⟨((y1*3+y2)%(VR n:Int)).toNat,by omega,by omega⟩
 rw[hnum]
 refine Qh.mkL (KC hn number hnl) (⟨_,Tryz.func52,rfl,rfl⟩:Jm Tryz.prog 52) rfl rfl rfl ?_
 intro xs cid cg H4 hlk hl4 hc
 have l3:H3.length=H.length+1:=by rw[f3.1,f2.1,Je];rfl
 simp(maxSteps:=999999)(disch:=omega)only[go_sem,zA,zM,zS,zE,zL]
 refine⟨_,Qc.refl _,cid,cg,rfl,⟨xs,hlk,by omega⟩,(r3.app (X:=H4)).mono (by omega),hlt,by simp at hc;omega,by simp;omega,fun k hk hne=> ?_⟩
 rw[Jb (by omega),f3.2 k (by simp;exact hne),f2.2 k (by simp;exact hne),Jb hk]
theorem N1{H:Ji}{id g off n:Nat}{lim:Option Nat}{zs:List Int}(h:look H id g=some ⟨g,1,cl (eI .i64) zs⟩)(hn:off+n≤zs.length):frzC H (.own id g off n lim)=some (.f (QD ((zs.drop off).take n))):=by
 have e:((cl (eI .i64) zs).drop off).take (n*1)=cl (eI .i64) ((zs.drop off).take n):=by
  have e1:(cl (eI .i64) zs).drop off=cl (eI .i64) (zs.drop off):=by
   have:=QU off zs
   conv=>lhs;rw[←this,QP]
   rw[List.drop_append_of_le_length (by rw[Qb];simp;omega),List.drop_of_length_le (by rw[Qb];simp;omega),Jd]
  rw[e1,Nat.mul_one]
  have:=QU n (zs.drop off)
  conv=>lhs;rw[←this,QP]
  rw[List.take_append_of_le_length (by rw[Qb];simp;omega),Jn (by rw[Qb];simp;omega)]
 have hl:((zs.drop off).take n).length=n:=by simp;omega
 simp only[frzC,frz,h,e,X9,Option.map_some]
 rw[show QD ((zs.drop off).take n)= .sl ((zs.drop off).take n).length (fl (eI .i64) ((zs.drop off).take n))from rfl,hl]
end Go.Lg
