/- GpCD, GpCE, GpGA, GpDA, GpDB, cut to what is needed. -/
import Derived.Test.YtidekghnkifbjaaGreatDoorJab6
import Derived.Test.YtidekghnkifbjaaGreatDoorJab5
import Derived.Test.YtidekghnkifbjaaGreatDoorJab0
import Derived.Test.YtidekghnkifbjaaGreatDoorJaa9
open List renaming cons_append → Ja, getElem?_append_left → Jb, nil_append → Jc, replicate → Jd, length_cons → Je, length_nil → Jf, getElem?_eq_some_iff → Jg, getElem?_set_ne → Ji, length_append → Jk, length_set → Jo, take_of_length_le → Js, append_nil → Ju, drop_zero → JQ, length_singleton → JV, mapM_cons → J3, nodup_append → Qm, map_cons → Qq, length_map → Qr, take_append_drop → Zq, sum_cons → Vy
open Nat renaming reduceAdd→zA,reduceMul→zM,reduceSub→zS,reduceEqDiff→zE,reduceLeDiff→zL
set_option linter.unusedSimpArgs false
set_option linter.unusedVariables false
set_option maxRecDepth 100000
namespace Go.Lg
open Go.Proofs
attribute [-go_sem] J9 Y8
theorem Qi{P:Program}{t e:TypeId}{ti ei:TI}(ht:JS P t=some ti)(hk:ti.k= .slice e)(he:JS P e=some ei):QR P t=some ei:=by
 unfold QR;simp only[ht,hk,he]
theorem Yt{P:Program}{HI:Jm}{t:TypeId}{ei:TI}{K:KV}(ht:QR P t=some ei)(hz:ei.zero.length=ei.size∧ei.size=1∧ei.bytes=8){xs ys:List Int}(hx:0<xs.length∧xs.length≤2^40){id g g0:Nat}{lim:Option Nat}
 (hl:look HI id g=some ⟨g,1,cl (eI .i64) (xs++ys)⟩) (hk:∀g',K (.c (.own HI.length g' 0 xs.length none)) (HI++[some ⟨g',1,cl (eI .i64) xs⟩])):
 J9 P (HI++[some ⟨g0,1,[]⟩]) t (.c (.own HI.length g0 0 0 none)) (.c (.own id g 0 xs.length lim)) K:=by
 obtain⟨hz1,hz2,hz3⟩:=hz
 have hid:id<HI.length:=(Jg.1 (JJ hl).1).1
 have hl':look (HI++[some ⟨g0,1,[]⟩]) id g=some ⟨g,1,cl (eI .i64) (xs++ys)⟩:=by rw[Xo hid];exact hl
 have et:((cl (eI .i64) (xs++ys)).drop 0).take (xs.length*1)=cl (eI .i64) xs:=by
  rw[JQ,QZ,List.take_append_of_le_length (by rw[J7];exact Nat.le_refl _),Js (by rw[J7];exact Nat.le_refl _)]
 unfold J9
 simp only[ht,hz1,hz2,if_true,elems,JI,hl',et,WB]
 rw[if_neg (by omega)]
 simp only[Jf,Nat.zero_mul,if_true,YD,Nat.zero_add,Jc,QP]
 exact⟨⟨trivial,by omega,trivial,by omega,by rw[hz3];omega⟩,hk⟩
theorem Qw.inv'{H:Jm}{c:CV}{xs:List Int}{S:List Nat}(h:Qw H c xs S)(hn:0<xs.length):∃id g lim ys,c= .own id g 0 xs.length lim∧S=[id]∧look H id g=some ⟨g,1,cl (eI .i64) (xs++ys)⟩:=by
 cases h with
 |e=>simp at hn
 |o id g lim xs ys h=>exact⟨id,g,lim,ys,rfl,rfl,h⟩
theorem Qw.nzc'{H:Jm}{c:CV}{xs:List Int}{S:List Nat}(h:Qw H c xs S):nzC c=c:=by cases h<;>rfl
theorem JlQ{P:Program}{H:Jm}{t e:TypeId}{ti:TI}{c:CV}{xs:List Int}{S:List Nat}(h:Qw H c xs S)(ht:JS P t=some ti)(hk:ti.k= .slice e):Y8 P H t (.c c)=some (.c (.f (.int .i64 xs.length))):=by
 cases h with
 |e=>simp only[Y8,ht,hk];rfl
 |o id g lim xs ys h=>simp only[Y8,ht,hk,h,Option.isSome_some,if_true]
theorem Ri(n:Nat)(f:List Int→Nat→List Int×Nat)(xs:List Int)(i v:Nat)(vs:List Nat)(l:Nat):V8 n f xs i (v::vs) l=if UB (xs.set i v) n=true then V8 n f xs i vs l else if(f (xs.set i v) l).1≠[]then f (xs.set i v) l else V8 n f xs i vs (f (xs.set i v) l).2:=rfl
theorem KA{n v:Nat}(h:1≤v∧v≤n):((List.range n).map (· +1)).drop (v -1)=v::((List.range n).map (· +1)).drop v:=by
 rw[List.drop_eq_getElem_cons (by simp;omega)]
 simp only[List.getElem_map,List.getElem_range]
 rw[show v -1+1=v by omega]
theorem JeR(n:Nat):∀(m:Nat) (xs:List Int) (l:Nat),(VB n m xs l).2≤l
 |0,xs,l=>by unfold VB;split<;>simp
 |m+1,xs,l=>by
  unfold VB
  have:∀vs l,(V8 n (VB n m) xs (xs.length -(m+1)) vs l).2≤l:=by
   intro vs
   induction vs with
   |nil=>intro l;simp[V8]
   |cons v vs ih=>
    intro l
    have h1:=JeR n m (xs.set (xs.length -(m+1)) v) l
    unfold V8
    split
    · exact ih l
    · split
      · exact h1
      · exact Nat.le_trans (ih _) h1
  exact this _ l
def srchQ(n m:Nat)(xs:List Int)(l:Nat)(H:Jm)(lid lg:Nat):KV:=fun v H'=>∃c S,v= .c c∧Qw H' c (VB n m xs l).1 S∧look H' lid lg=some ⟨lg,1,[.f (.int .i64 ((VB n m xs l).2:Int))]⟩∧lid∉S∧H.length≤H'.length∧∀k,k<H.length→k≠lid→H'[k]? =H[k]?
theorem Be{n:Nat}(hn:n=2∨n=3∨n=4):∀(m:Nat) (H:Jm) (cg:CV) (xs:List Int) (S:List Nat) (lid lg l:Nat),m≤n*n→Qw H cg xs S→xs.length=n*n→(∀k:Nat,k<xs.length→0≤JA xs k∧JA xs k≤4)→
 look H lid lg=some ⟨lg,1,[.f (.int .i64 (l:Int))]⟩→lid∉S→l<2^40→Jn Tryz.prog 159 [.c cg,int n,int ((n*n -m:Nat):Int), .c (.ptr lid lg 0)] H (srchQ n m xs l H lid lg)
 |0,H,cg,xs,S,lid,lg,l,hm,hg,hxl,hxv,hl,hS,hl40=>by
  have hsq:4≤n*n∧n*n≤16:=by rcases hn with rfl|rfl|rfl<;>omega
  obtain⟨id,g,lim,ys,rfl,rfl,hlk⟩:=hg.inv' (by omega)
  have hlt:lid<H.length:=(Jg.1 (JJ hl).1).1
  have nl:Xz H (.c (.ptr lid lg 0))=some (.c (.ptr lid lg 0)):=Ve hl
  refine Jn.nz ?_
  refine Jn.cw (c:=_) Tryz.func159 rfl (n:=52) Tryz.ntmps159 (rs:=[.tmp 8]) rfl ?_
  simp only[Je,Jf,zA,zS,Jd,Ja,Jc]
  simp(maxSteps:=999999)(disch:=omega)only[go_sem,zA,zM,zS,zE,zL,hlk,Y8]
  have hnn:(n*n -0:Nat)=xs.length:=by omega
  ((first|(with_reducible first|refine Jl ?_ ?_|refine Jj ?_ ?_|refine Jp ?_ ?_)|refine Jr ?_ ?_)<;>intro h1)
  · simp(maxSteps:=999999)(disch:=omega)only[go_sem,zA,zM,zS,zE,zL,nl,hl,hlk]
    ((first|(with_reducible first|refine Jl ?_ ?_|refine Jj ?_ ?_|refine Jp ?_ ?_)|refine Jr ?_ ?_)<;>intro h2)
    · simp(maxSteps:=999999)(disch:=omega)only[go_sem,zA,zM,zS,zE,zL]
      have hl0:l=0:=by omega
      subst hl0
      exact⟨H,J0.refl _, .own id g 0 xs.length lim,[id],rfl,hg,by rw[hl];rfl,hS,Nat.le_refl _,fun k _ _=>rfl⟩
    · simp(maxSteps:=999999)(disch:=omega)only[go_sem,zA,zM,zS,zE,zL,nl,hl,hlk]
      have e:VB n 0 xs l=([],l -1):=by unfold VB;rw[if_neg (by omega)]
      refine⟨_,J0.refl _, .f (.sl 0 []),[],rfl,by rw[e];exact .e, ?_,by simp,by simp,fun k _ hk=>by rw[Ji (Ne.symm hk)]⟩
      rw[JU hlt,e]
      have:((l -1:Nat):Int)=(l:Int) -1:=by omega
      rw[this]
  · exfalso;omega
 |m+1,H,cg,xs,S,lid,lg,l,hm,hg,hxl,hxv,hl,hS,hl40=>by
  have hsq:4≤n*n∧n*n≤16:=by rcases hn with rfl|rfl|rfl<;>omega
  have hn4:2≤n∧n≤4:=by omega
  obtain⟨id,g,lim,ys,rfl,rfl,hlk⟩:=hg.inv' (by omega)
  have hlt:lid<H.length:=(Jg.1 (JJ hl).1).1
  have hidlt:id<H.length:=(Jg.1 (JJ hlk).1).1
  have hne:id≠lid:=fun he=>hS (by simp[he])
  obtain⟨i,hi⟩:∃i:Nat,n*n -(m+1)=i:=⟨_,rfl⟩
  have hil:i<xs.length:=by omega
  have hsr:VB n (m+1) xs l=V8 n (VB n m) xs i ((List.range n).map (· +1)) l:=by
   unfold VB
   rw[show xs.length -(m+1)=i by omega]
  rw[hi]
  refine Jn.nz ?_
  refine Jn.cw (c:=_) Tryz.func159 rfl (n:=52) Tryz.ntmps159 (rs:=[.tmp 8]) rfl ?_
  simp only[Je,Jf,zA,zS,Jd,Ja,Jc]
  simp(maxSteps:=999999)(disch:=omega)only[go_sem,zA,zM,zS,zE,zL,hlk,Y8]
  ((first|(with_reducible first|refine Jl ?_ ?_|refine Jj ?_ ?_|refine Jp ?_ ?_)|refine Jr ?_ ?_)<;>intro h1)
  · exfalso;omega
  simp(maxSteps:=999999)(disch:=omega)only[go_sem,zA,zM,zS,zE,zL]
  refine Xb (fun(v:Nat) (HI:Jm) (l':Nat)=>n+1 -v) (fun v HI l'=>1≤v∧v≤n+1∧VB n (m+1) xs l=V8 n (VB n m) xs i (((List.range n).map (· +1)).drop (v -1)) l'∧look HI lid lg=some ⟨lg,1,[.f (.int .i64 (l':Int))]⟩∧H.length≤HI.length∧(∀k,k<H.length→k≠lid→HI[k]? =H[k]?)∧l'≤l)
   (fun v HI l'=>[.k, .k, .k, .k, .a, .a, .a, .a, .a, .p (int v), .a, .a, .a, .a, .a, .a, .a, .a, .a, .a, .a, .a, .a, .a, .a, .a, .a, .a, .a, .a, .a, .a, .a, .a, .a, .a, .a, .a, .a, .a, .a, .a, .a, .a, .a, .a, .a, .a, .a, .a, .a, .a]) (fun _ HI _=>HI) 1 H l ⟨by omega,by omega,hsr,hl,Nat.le_refl _,fun _ _ _=>rfl,Nat.le_refl _⟩ (by simp(maxSteps:=999999)(disch:=omega)only[go_sem,zA,zM,zS,zE,zL];rfl) (J0.refl _) ?_
  rintro v HI l' ⟨hv1,hv2,hs',hl',hlen',hfr,hll⟩
  have hlk':look HI id g=some ⟨g,1,cl (eI .i64) (xs++ys)⟩:=by unfold look;rw[hfr id hidlt hne];exact hlk
  simp(maxSteps:=999999)(disch:=omega)only[go_sem,zA,zM,zS,zE,zL]
  ((first|(with_reducible first|refine Jl ?_ ?_|refine Jj ?_ ?_|refine Jp ?_ ?_)|refine Jr ?_ ?_)<;>intro h2)
  · have hvn:v≤n:=by omega
    simp(maxSteps:=999999)(disch:=omega)only[go_sem,zA,zM,zS,zE,zL]
    intro g0
    refine Yt (Qi Uv rfl YQ) ⟨rfl,rfl,rfl⟩ (by omega) hlk' ?_
    intro g1
    simp(maxSteps:=999999)(disch:=omega)only[go_sem,zA,zM,zS,zE,zL,JI,QP]
    rw[Int.toNat_natCast]
    have hown:Qw (HI++[some ⟨g1,1,cl (eI .i64) (xs.set i v)⟩]) (.own HI.length g1 0 xs.length none) (xs.set i v) [HI.length]:=by
     have:=Qw.o (H:=HI++[some ⟨g1,1,cl (eI .i64) (xs.set i v)⟩]) HI.length g1 none (xs.set i v) [] (by rw[Ju];exact JI)
     rwa [Jo]at this
    have hsv:∀k:Nat,k<(xs.set i (v:Int)).length→0≤JA (xs.set i (v:Int)) k∧JA (xs.set i (v:Int)) k≤4:=fun k hk=>by
     rw[Jo]at hk
     rw[Q3 _ _ _ _ hil]
     split
     · omega
     · exact hxv k hk
    refine JY.rdD (Fv hn (xs.set i v) (by rw[Jo];exact hxl) hsv) (⟨_,Tryz.func152,rfl,rfl⟩:Jh Tryz.prog 152) rfl rfl (US hown.snap VH) rfl ?_
    simp(maxSteps:=999999)(disch:=omega)only[go_sem,zA,zM,zS,zE,zL]
    ((first|(with_reducible first|refine Jl ?_ ?_|refine Jj ?_ ?_|refine Jp ?_ ?_)|refine Jr ?_ ?_)<;>intro h3)
    · simp(maxSteps:=999999)(disch:=omega)only[go_sem,zA,zM,zS,zE,zL]
      refine⟨v+1,HI,l',⟨⟨by omega,by omega, ?_,hl',hlen',hfr,hll⟩,by omega⟩,by push_cast;omega,J0.app _ _⟩
      rw[hs',KA ⟨hv1,hvn⟩,Ri,if_pos h3,show v+1 -1=v by omega]
    · simp(maxSteps:=999999)(disch:=omega)only[go_sem,zA,zM,zS,zE,zL]
      have hlt':lid<HI.length:=by omega
      have hr:=Be hn m (HI++[some ⟨g1,1,cl (eI .i64) (xs.set i v)⟩]) _ _ _ lid lg l' (by omega) hown (by rw[Jo];exact hxl) hsv (by rw[Xo hlt'];exact hl') (by simp;omega) (by omega)
      rw[show((n*n -m:Nat):Int)=(i:Int)+1 by omega]at hr
      refine JY.run hr (⟨_,Tryz.func159,rfl,rfl⟩:Jh Tryz.prog 159) rfl rfl ?_
      rintro _ H2 ⟨c2,S2,rfl,o2,k2,n2,len2,f2⟩
      rw[Jk,JV]at len2 f2
      have hle2:=JeR n m (xs.set i v) l'
      have hlen2:Y8 Tryz.prog H2 23 (.c c2)=some (.c (.f (.int .i64 ((VB n m (xs.set i v) l').1.length:Int)))):=JlQ o2 Uv rfl
      have hf2:∀k,k<H.length→k≠lid→H2[k]? =H[k]? :=fun k hk hne2=>by rw[f2 k (by omega) hne2,Jb (by omega),hfr k hk hne2]
      simp(maxSteps:=999999)(disch:=omega)only[go_sem,zA,zM,zS,zE,zL,hlen2]
      ((first|(with_reducible first|refine Jl ?_ ?_|refine Jj ?_ ?_|refine Jp ?_ ?_)|refine Jr ?_ ?_)<;>intro h4)
      · simp(maxSteps:=999999)(disch:=omega)only[go_sem,zA,zM,zS,zE,zL]
        have hne2:(VB n m (xs.set i v) l').1≠[]:=fun h0=>by rw[h0]at h4;simp at h4
        have e:VB n (m+1) xs l=VB n m (xs.set i v) l':=by rw[hs',KA ⟨hv1,hvn⟩,Ri,if_neg (by rw[h3];simp),if_pos hne2]
        refine⟨H2,J0.refl _,c2,S2, ?_,by rw[e];exact o2,by rw[e];exact k2,n2,by omega,hf2⟩
        show AV.c (nzC c2)=_
        rw[o2.nzc']
      · simp(maxSteps:=999999)(disch:=omega)only[go_sem,zA,zM,zS,zE,zL]
        have he2:(VB n m (xs.set i v) l').1=[]:=by
         have:¬0<(VB n m (xs.set i v) l').1.length:=by omega
         exact List.eq_nil_of_length_eq_zero (by omega)
        refine⟨v+1,H2,(VB n m (xs.set i v) l').2,⟨⟨by omega,by omega, ?_,k2,by omega,hf2,by omega⟩,by omega⟩,by push_cast;omega,J0.refl _⟩
        rw[hs',KA ⟨hv1,hvn⟩,Ri,if_neg (by rw[h3];simp),if_neg (by rw[he2];simp),show v+1 -1=v by omega]
  · have hv:v=n+1:=by omega
    simp(maxSteps:=999999)(disch:=omega)only[go_sem,zA,zM,zS,zE,zL]
    have e:VB n (m+1) xs l=([],l'):=by
     rw[hs',hv,show n+1 -1=n by omega,List.drop_of_length_le (by simp)]
     rfl
    exact⟨HI,J0.refl _, .f (.sl 0 []),[],rfl,by rw[e];exact .e,by rw[e];exact hl',by simp,hlen',hfr⟩
end Go.Lg

namespace Go.Lg
open Go.Proofs
section
variable{P:Program}{o:Oper}{st:St}{K:KV}{fo:Operand}{xs:Array Operand}{ts:Array TypeId}{f:FuncId}{args args':List AV}{zs:List Int}
theorem JY.mkF{Q:AV→Prop}(hc:Jn P f args [] fun v _=>Q v)(he:Jh P f)(ho:o.op= .call ⟨.value fo,xs,ts⟩)(ha:Qa st fo xs=some (f,args))(hf:args.all Q0=true)
 (hk:∀v,Q v→YV v=true∧WE st.h.length v=v∧K v st.h):JY P o st K:=by
 obtain⟨h1,h2⟩:=WY ha
 refine JY.call ho h1 he ?_
 rw[h2]
 refine(Jn.frame hf hc fun r H' h=>(hk r h).1).weaker ?_
 rintro r H2 ⟨r',H',h3,rfl,rfl⟩
 exact⟨st.h,J0.app _ _,by rw[(hk _ h3).2.1];exact(hk _ h3).2.2⟩
end
def Ya(H HI:Jm)(id g:Nat)(B:Int)(cid cg n2:Nat):Prop:=(∃zs:List Int,look HI cid cg=some ⟨cg,1,cl (eI .i64) zs⟩∧n2≤zs.length)∧Zl HI id g B∧id<H.length∧H.length≤cid∧H.length≤HI.length∧∀k,k<H.length→k≠id→HI[k]? =H[k]?
theorem Ya.mono{H HI:Jm}{id g cid cg n2:Nat}{B B':Int}(h:Ya H HI id g B cid cg n2)(hb:B≤B'):Ya H HI id g B' cid cg n2:=by
 obtain⟨h1,h2,h3⟩:=h
 exact⟨h1,h2.mono hb,h3⟩
theorem Ya.pick{H HI H2:Jm}{id g cid cg n2:Nat}{B B':Int}(h:Ya H HI id g B cid cg n2)(hr:Zl H2 id g B')(hf:Vn HI H2 [id]):Ya H H2 id g B' cid cg n2:=by
 obtain⟨⟨zs,h1,h2⟩,_,h3,h4,h5,h6⟩:=h
 refine⟨⟨zs,by rw[hf.look (by simp;omega)];exact h1,h2⟩,hr,h3,h4,by rw[hf.1];exact h5,fun k hk hne=> ?_⟩
 rw[hf.2 k (by simp;exact hne),h6 k hk hne]
theorem Ya.store{H HI:Jm}{id g cid cg n2:Nat}{B:Int}(h:Ya H HI id g B cid cg n2){zs:List Int}(hz:n2≤zs.length):Ya H (HI.set cid (some ⟨cg,1,cl (eI .i64) zs⟩)) id g B cid cg n2:=by
 obtain⟨⟨_,h1,_⟩,h2,h3,h4,h5,h6⟩:=h
 have hlt:cid<HI.length:=(Jg.1 (JJ h1).1).1
 refine⟨⟨zs,JU hlt,hz⟩,h2.same (by rw[Ji (by omega)]),h3,h4,by simpa using h5,fun k hk hne=> ?_⟩
 rw[Ji (by omega),h6 k hk hne]
theorem Ya.app{H HI X:Jm}{id g cid cg n2:Nat}{B:Int}(h:Ya H HI id g B cid cg n2):Ya H (HI++X) id g B cid cg n2:=by
 obtain⟨⟨zs,h1,h2⟩,h3,h4,h5,h6,h7⟩:=h
 refine⟨⟨zs,JX h1,h2⟩,h3.app,h4,h5,by rw[Jk];omega,fun k hk hne=> ?_⟩
 rw[Jb (by omega),h7 k hk hne]
theorem JcZ{H:Jm}{id g off n:Nat}{lim:Option Nat}{zs:List Int}(h:look H id g=some ⟨g,1,cl (eI .i64) zs⟩)(hn:off+n≤zs.length):frzC H (.own id g off n lim)=some (.f (Qf ((zs.drop off).take n))):=by
 have e:((cl (eI .i64) zs).drop off).take (n*1)=cl (eI .i64) ((zs.drop off).take n):=by
  have e1:(cl (eI .i64) zs).drop off=cl (eI .i64) (zs.drop off):=by
   have:=Zq off zs
   conv=>lhs;rw[←this,QZ]
   rw[List.drop_append_of_le_length (by rw[J7];simp;omega),List.drop_of_length_le (by rw[J7];simp;omega),Jc]
  rw[e1,Nat.mul_one]
  have:=Zq n (zs.drop off)
  conv=>lhs;rw[←this,QZ]
  rw[List.take_append_of_le_length (by rw[J7];simp;omega),Js (by rw[J7];simp;omega)]
 have hl:((zs.drop off).take n).length=n:=by simp;omega
 simp only[frzC,frz,h,e,B1,Option.map_some]
 rw[show Qf ((zs.drop off).take n)= .sl ((zs.drop off).take n).length (fl (eI .i64) ((zs.drop off).take n))from rfl,hl]
end Go.Lg

namespace Go.Lg
open Go.Proofs
attribute [-go_sem] J9
inductive ZV{α:Type}(E:α→List FV)(n:Nat)(H:Jm):CV→List α→Prop where
 |n:ZV E n H (.f .nil) []
 |m:ZV E n H .emp []
 |o (id g:Nat) (xs:List α) (h:look H id g=some ⟨g,n,cl E xs⟩):ZV E n H (.own id g 0 xs.length none) xs
def QO:CV→Nat→Prop
 | .own id _ _ _ _,k=>k=id
 |_,_=>False
section
variable{α:Type}{E:α→List FV}{n:Nat}{H H':Jm}{c:CV}{xs ys:List α}
theorem ZV.same(h:ZV E n H c xs)(hs:∀i,QO c i→i<H.length→H'[i]? =H[i]?):ZV E n H' c xs:=by
 cases h with
 |n=>exact .n
 |m=>exact .m
 |o id g xs h=>exact .o id g xs (by unfold look at*;rw[hs id rfl (Jg.1 (JJ h).1).1];exact h)
theorem ZV.lt(h:ZV E n H c xs):∀i,QO c i→i<H.length:=by
 cases h with
 |n=>exact fun i hi=>hi.elim
 |m=>exact fun i hi=>hi.elim
 |o id g xs h=>intro i hi;cases hi;exact(Jg.1 (JJ h).1).1
theorem ZV.app(h:ZV E n H c xs):ZV E n (H++H') c xs:=h.same fun i _ hl=>Jb hl
theorem ZV.snap[HSz E n](h:ZV E n H c xs):Zx H (.c c)=some (rsl E xs):=by
 cases h with
 |n=>rfl
 |m=>rfl
 |o id g xs h=>
  have e:(cl E xs).take (xs.length*n)=cl E xs:=Js (Nat.le_of_eq (J7 xs))
  simp only[Zx,Lg.frzC,Lg.frz,h,JQ,e,B1,Option.map_some]
theorem ZV.frzC[HSz E n](h:ZV E n H c xs):frzC H c=some (.f (Va E xs)):=by
 have:=h.snap
 simp only[Zx,Option.map_eq_some_iff]at this
 obtain⟨y,h1,h2⟩:=this
 cases h2
 exact h1
theorem ZV.len(P:Program)(h:ZV E n H c xs){s:List AV}{t:TypeId}{ei:TI}(ht:QR P t=some ei)(hs:ei.size=n):True:=trivial
end
theorem R6{k:IntKind}(xs:List Int):(fl (eI k) xs).map F0=fl (eI k) xs:=by
 induction xs with
 |nil=>rfl
 |cons x xs ih=>
  show F0 _::(fl (eI k) xs).map F0=_
  rw[ih];rfl
theorem Jf5(rs:List ZS):(fl eR rs).map F0=fl eR rs:=by
 induction rs with
 |nil=>rfl
 |cons x xs ih=>
  show[F0 _,F0 _,F0 _]++(fl eR xs).map F0=_
  rw[ih,Qf,GL,R6];rfl
theorem Yo{S:Nat→Bool}{H:Jm}{n:Nat}:∀(l:List FV),(l.map CV.f).mapM (frzS S H n)=some (l.map F0)
 |[]=>rfl
 |x::l=>by
  rw[Qq,J3,Yo l]
  cases n<;>rfl
theorem ZV.frzS{S:Nat→Bool}{H:Jm}{c:CV}{rs:List ZS}(h:ZV eR 3 H c rs)(hs:∀i,QO c i→S i=true)(m:Nat):frzS S H (m+1) c=some (Va eR rs):=by
 cases h with
 |n=>rfl
 |m=>rfl
 |o id g xs h=>
  have e:(cl eR rs).take (rs.length*3)=cl eR rs:=Js (Nat.le_of_eq (J7 rs))
  simp only[Lg.frzS,hs id rfl,if_true,h,JQ,e]
  rw[show cl eR rs=(fl eR rs).map CV.f from rfl,Yo,Jf5]
  rfl
theorem KL{S:Nat→Bool}{H:Jm}{id g off n:Nat}{lim:Option Nat}{zs:List Int}(h:look H id g=some ⟨g,1,cl (eI .i64) zs⟩)(hs:S id=true)(hn:off+n≤zs.length)(m:Nat):Lg.frzS S H (m+1) (.own id g off n lim)=some (Qf ((zs.drop off).take n)):=by
 have hv:=JcZ (lim:=lim) h hn
 have hl:((zs.drop off).take n).length=n:=by simp;omega
 simp only[frzC,frz,h,Option.map_map,Option.map_eq_some_iff]at hv
 obtain⟨l,h1,h2⟩:=hv
 simp only[Lg.frzS,hs,if_true,h]
 have e:((cl (eI .i64) zs).drop off).take (n*1)=cl (eI .i64) ((zs.drop off).take n):=by
  have e1:(cl (eI .i64) zs).drop off=cl (eI .i64) (zs.drop off):=by
   have:=Zq off zs
   conv=>lhs;rw[←this,QZ]
   rw[List.drop_append_of_le_length (by rw[J7];simp;omega),List.drop_of_length_le (by rw[J7];simp;omega),Jc]
  rw[e1,Nat.mul_one]
  have:=Zq n (zs.drop off)
  conv=>lhs;rw[←this,QZ]
  rw[List.take_append_of_le_length (by rw[J7];simp;omega),Js (by rw[J7];simp;omega)]
 rw[e,show cl (eI .i64) ((zs.drop off).take n)=(fl (eI .i64) ((zs.drop off).take n)).map CV.f from rfl,Yo,R6,Option.map_some]
 rw[show Qf ((zs.drop off).take n)= .sl ((zs.drop off).take n).length (fl (eI .i64) ((zs.drop off).take n))from rfl,hl]
theorem B9{α:Type}{E:α→List FV}{n:Nat}[HSz E n]{P:Program}{H:Jm}{t:TypeId}{ei:TI}{K:KV}(ht:QR P t=some ei)(hz:ei.zero.length=ei.size∧ei.size=n∧0<n∧ei.bytes≤64){c:CV}{xs:List α}(h:ZV E n H c xs)(hx:xs.length≤2^40)
 {sid sg:Nat} {lim:Option Nat} {v:α} (hl:look H sid sg=some ⟨sg,n,(E v).map CV.f⟩)
 (hk:∀c' H',ZV E n H' c' (xs++[v])→(∀k,k<H.length→¬QO c k→H'[k]? =H[k]?)→(∀k,QO c' k→QO c k∨k=H.length)→H.length≤H'.length→(∀k,QO c' k→k<H'.length)→K (.c c') H'):
 J9 P H t (.c c) (.c (.own sid sg 0 1 lim)) K:=by
 obtain⟨hz1,rfl,hz3,hz4⟩:=hz
 have hE:((E v).map CV.f).length=ei.size:=by rw[Qr];exact HSz.sz v
 have htk:(((E v).map CV.f).drop 0).take (1*ei.size)=(E v).map CV.f:=by rw[JQ,Nat.one_mul,Js (by omega)]
 have e1:cl E [v]=(E v).map CV.f:=by simp[cl,fl]
 have hb:∀k:Nat,k≤2^40→(k+1)*ei.bytes≤140737488355328:=fun k hk=>by
  have:(k+1)*ei.bytes≤(k+1)*64:=Nat.mul_le_mul_left _ hz4
  omega
 have hel:elems H ei.size (.c (.own sid sg 0 1 lim))=some (1,(E v).map CV.f):=by
  simp only[elems,hl,htk,if_true]
 unfold J9
 cases h with
 |n=>
  simp only[ht,hz1,if_true,hel]
  simp only[elems,WB,YD,KR]
  refine⟨⟨by omega,by have:=hb 0 (by omega);omega⟩,fun g'=> ?_⟩
  have:=ZV.o (E:=E) (n:=ei.size) (H:=H++[some ⟨g',ei.size,(E v).map CV.f⟩]) H.length g' [v] (by rw[e1];exact JI)
  exact hk _ _ this (fun k hk _=>Jb hk) (fun k hk=> .inr hk) (by simp) (fun k hk=>by cases hk;simp)
 |m=>
  simp only[ht,hz1,if_true,hel]
  simp only[elems,WB,YD,KR]
  refine⟨⟨by omega,by have:=hb 0 (by omega);omega⟩,fun g'=> ?_⟩
  have:=ZV.o (E:=E) (n:=ei.size) (H:=H++[some ⟨g',ei.size,(E v).map CV.f⟩]) H.length g' [v] (by rw[e1];exact JI)
  exact hk _ _ this (fun k hk _=>Jb hk) (fun k hk=> .inr hk) (by simp) (fun k hk=>by cases hk;simp)
 |o id g xs hl2=>
  have hlt:id<H.length:=(Jg.1 (JJ hl2).1).1
  have hcl:(cl E xs).length=xs.length*ei.size:=J7 xs
  have hel2:elems H ei.size (.c (.own id g 0 xs.length none))=some (xs.length,cl E xs):=by
   simp only[elems,hl2,JQ,if_true,Js (Nat.le_of_eq hcl)]
  simp only[ht,hz1,if_true,hel,hel2]
  simp only[WB,hl2,hcl,if_true,YD]
  refine⟨⟨by first|trivial|omega,hz3,trivial,by omega,hb _ hx⟩,fun g'=> ?_⟩
  have:=ZV.o (E:=E) (n:=ei.size) (H:=H.set id (some ⟨g',ei.size,cl E xs++(E v).map CV.f⟩)) id g' (xs++[v]) (by rw[QZ,e1];exact JU hlt)
  rw[Jk]at this
  exact hk _ _ this (fun k _ hk=>by rw[Ji (fun h=>hk h.symm)]) (fun k hk=> .inl hk) (by simp) (fun k hk=>by cases hk;simpa using hlt)
theorem Wl{α:Type}{E:α→List FV}{n:Nat}[HSz E n]{P:Program}{H:Jm}{t:TypeId}{ei:TI}{K:KV}(ht:QR P t=some ei)(hz:ei.zero.length=ei.size∧ei.size=n∧0<n∧ei.bytes≤64){c:CV}{xs ys:List α}(h:ZV E n H c xs)(hx:xs.length≤2^40∧ys.length≤2^40)
 {src:AV} (hel:elems H n src=some (ys.length,cl E ys))
 (hk:∀c' H',ZV E n H' c' (xs++ys)→(∀k,k<H.length→¬QO c k→H'[k]? =H[k]?)→(∀k,QO c' k→QO c k∨k=H.length)→H.length≤H'.length→(∀k,QO c' k→k<H'.length)→K (.c c') H'):
 J9 P H t (.c c) src K:=by
 obtain⟨hz1,rfl,hz3,hz4⟩:=hz
 have hb:∀k:Nat,k≤2^41→k*ei.bytes≤140737488355328:=fun k hk=>by
  have:k*ei.bytes≤k*64:=Nat.mul_le_mul_left _ hz4
  omega
 unfold J9
 rcases Nat.eq_zero_or_pos ys.length with h0|h0
 · have:ys=[]:=List.eq_nil_of_length_eq_zero h0
   subst this
   rw[Ju]at hk
   have hr:=hk c H h (fun _ _ _=>rfl) (fun k hk=> .inl hk) (Nat.le_refl _) h.lt
   cases h with
   |n=>simp only[ht,hz1,if_true,hel];simp only[elems,WB];exact hr
   |m=>simp only[ht,hz1,if_true,hel];simp only[elems,WB];exact hr
   |o id g xs hl2=>
    have hcl:(cl E xs).length=xs.length*ei.size:=J7 xs
    have hel2:elems H ei.size (.c (.own id g 0 xs.length none))=some (xs.length,cl E xs):=by
     simp only[elems,hl2,JQ,if_true,Js (Nat.le_of_eq hcl)]
    simp only[ht,hz1,if_true,hel,hel2]
    simp only[WB]
    exact hr
 cases h with
 |n=>
  simp only[ht,hz1,if_true,hel]
  simp only[elems,WB,YD,KR]
  rw[if_neg (by omega)]
  refine⟨⟨by omega,hb _ (by omega)⟩,fun g'=> ?_⟩
  have:=ZV.o (E:=E) (n:=ei.size) (H:=H++[some ⟨g',ei.size,cl E ys⟩]) H.length g' ys JI
  exact hk _ _ this (fun k hk _=>Jb hk) (fun k hk=> .inr hk) (by simp) (fun k hk=>by cases hk;simp)
 |m=>
  simp only[ht,hz1,if_true,hel]
  simp only[elems,WB,YD,KR]
  rw[if_neg (by omega)]
  refine⟨⟨by omega,hb _ (by omega)⟩,fun g'=> ?_⟩
  have:=ZV.o (E:=E) (n:=ei.size) (H:=H++[some ⟨g',ei.size,cl E ys⟩]) H.length g' ys JI
  exact hk _ _ this (fun k hk _=>Jb hk) (fun k hk=> .inr hk) (by simp) (fun k hk=>by cases hk;simp)
 |o id g xs hl2=>
  have hlt:id<H.length:=(Jg.1 (JJ hl2).1).1
  have hcl:(cl E xs).length=xs.length*ei.size:=J7 xs
  have hel2:elems H ei.size (.c (.own id g 0 xs.length none))=some (xs.length,cl E xs):=by
   simp only[elems,hl2,JQ,if_true,Js (Nat.le_of_eq hcl)]
  simp only[ht,hz1,if_true,hel,hel2]
  simp only[WB,hl2,hcl,if_true,YD]
  rw[if_neg (by omega)]
  refine⟨⟨by first|trivial|omega,hz3,trivial,by omega,hb _ (by omega)⟩,fun g'=> ?_⟩
  have:=ZV.o (E:=E) (n:=ei.size) (H:=H.set id (some ⟨g',ei.size,cl E xs++cl E ys⟩)) id g' (xs++ys) (by rw[QZ];exact JU hlt)
  rw[Jk]at this
  exact hk _ _ this (fun k _ hk=>by rw[Ji (fun h=>hk h.symm)]) (fun k hk=> .inl hk) (by simp) (fun k hk=>by cases hk;simpa using hlt)
theorem KO{α:Type}{E:α→List FV}{n:Nat}[HSz E n]{H:Jm}{ys:List α}:elems H n (.c (.f (Va E ys)))=some (ys.length,cl E ys):=by
 have:(fl E ys).length=ys.length*n:=Uu ys
 simp only[elems]
 first|rfl|simp[this,cl]
theorem Jkw{α:Type}{E:α→List FV}{n:Nat}[HSz E n]{H:Jm}{c:CV}{ys:List α}(h:ZV E n H c ys):elems H n (.c c)=some (ys.length,cl E ys):=by
 cases h with
 |n=>rfl
 |m=>rfl
 |o id g xs hl2=>
  have hcl:(cl E ys).length=ys.length*n:=J7 ys
  simp only[elems,hl2,JQ,if_true,Js (Nat.le_of_eq hcl)]
end Go.Lg

namespace Go.Lg
open Go.Proofs
def VV(vs:List Int):Int:=vs.foldl (fun a v=>a*v) 1
def VY(r:ZS)(vs:List Int):Bool:=
 if r.kind=1 then decide vs.Nodup else if r.kind=2 then decide (vs.sum=r.val)else if r.kind=3 then decide (VV vs=r.val)
 else if r.kind=4 then decide (JA vs 0<JA vs 1)else decide (max (JA vs 0 -JA vs 1) (JA vs 1 -JA vs 0)=r.val)
def orV(o:List Nat)(vs:List Int):List Nat:=o.zipWith (fun x v=>x|||2^v.toNat) vs
def ZT(r:ZS):List Nat→List Int→List Nat→List Nat
 |[],pre,o=>if VY r pre=true then orV o pre else o
 |m::ms,pre,o=>[1,2,3,4].foldl (fun o (v:Nat)=>if m.testBit v=true then ZT r ms (pre++[(v:Int)]) o else o) o
def Um(xs:List Int)(n:Nat)(c:Int):Nat:=if 0<JA xs c then 2^(JA xs c).toNat else 2^(n+1) -2
def Ze(r:ZS)(xs:List Int)(n:Nat):Bool:=(ZT r (r.cells.map (Um xs n)) [] (Jd r.cells.length 0)).getD 0 0 !=0
theorem N5{r:ZS}{xs ys:List Int}{n:Nat}(h:∀c∈r.cells,JA xs c=JA ys c):Ze r xs n=Ze r ys n:=by
 unfold Ze
 rw[List.map_congr_left (f:=Um xs n) (g:=Um ys n) fun c hc=>by unfold Um;rw[h c hc]]
def clear(p:QV)(xs:List Int):Bool:=decide (∀k:Nat,k<xs.length→¬(0<JA p.given k∧0<JA xs k∧JA xs k≠JA p.given k))
def QK(p:QV)(xs:List Int)(n:Nat):Bool:=clear p xs&&(p.rules.all (fun r=>Ze r xs n)&& !UB xs n)
def Xf(p:QV)(xs:List Int)(n i:Nat):Bool:=decide (∀j:Nat,j<n*n→j≠i→(j/n=i/n∨j%n=i%n)→JA xs j≠JA xs i)&&p.rules.all (fun r=> !r.cells.contains (i:Int)||Ze r xs n)
theorem JlD{n:Nat}{xs:List Int}{i v:Nat}(h:NC xs n)(hl:xs.length=n*n)(hi:i<n*n)(hv:1≤v)(h0:JA xs i=0):
 NC (xs.set i v) n↔∀j:Nat,j<n*n→j≠i→(j/n=i/n∨j%n=i%n)→JA (xs.set i (v:Int)) j≠v:=by
 have hset:∀k:Nat,JA (xs.set i (v:Int)) k=if k=i then(v:Int)else JA xs k:=fun k=>Q3 _ _ _ _ (by rw[hl];exact hi)
 constructor
 · intro hc j hj hne hln
   rcases Nat.lt_or_ge j i with h1|h1
   · have:=hc j i h1 hi hln
     rw[hset i,if_pos rfl]at this
     intro he
     rw[he]at this
     exact this (by omega) rfl
   · have:=hc i j (by omega) hj (hln.imp Eq.symm Eq.symm)
     rw[hset i,if_pos rfl]at this
     intro he
     rw[he]at this
     exact this (by omega) rfl
 · intro hc p q hpq hq hln hp
   by_cases hpi:p=i
   · subst hpi
     rw[hset p,if_pos rfl]
     exact fun he=>hc q hq (by omega) (hln.imp Eq.symm Eq.symm) he.symm
   · by_cases hqi:q=i
     · subst hqi
       rw[hset q,if_pos rfl]
       exact hc p (by omega) hpi hln
     · rw[hset p,if_neg hpi]at hp⊢
       rw[hset q,if_neg hqi]
       exact h p q hpq hq hln hp
theorem JgG{p:QV}{n:Nat}(hn:n=2∨n=3∨n=4){xs:List Int}{i v:Nat}(h:QK p xs n=true)(hl:xs.length=n*n)(hx:∀c:Int,0≤JA xs c)(hi:i<n*n)(hv:1≤v)(h0:JA xs i=0)(hg:JA p.given i≤0)(hcs:∀r∈p.rules,∀c∈r.cells,0≤c):
 QK p (xs.set i v) n=Xf p (xs.set i v) n i:=by
 have hset:∀k:Nat,JA (xs.set i (v:Int)) k=if k=i then(v:Int)else JA xs k:=fun k=>Q3 _ _ _ _ (by rw[hl];exact hi)
 have hx':∀c:Int,0≤JA (xs.set i (v:Int)) c:=fun c=>by
  rw[UZ,hset]
  split
  · omega
  · exact hx _
 simp only[QK,Bool.and_eq_true,clear,decide_eq_true_eq,Bool.not_eq_true',List.all_eq_true]at h
 obtain⟨h1,h2,h3⟩:=h
 have hclear:clear p (xs.set i v)=true:=by
  simp only[clear,decide_eq_true_eq]
  rintro k hk ⟨a,b,c⟩
  rw[hset]at b c
  by_cases hki:k=i
  · rw[hki]at a;omega
  · rw[if_neg hki]at b c
    exact h1 k (by simpa using hk) ⟨a,b,c⟩
 have hcl:(!UB (xs.set i (v:Int)) n)=decide (∀j:Nat,j<n*n→j≠i→(j/n=i/n∨j%n=i%n)→JA (xs.set i (v:Int)) j≠JA (xs.set i (v:Int)) i):=by
  rw[Bool.eq_iff_iff,Bool.not_eq_true',XZ hn hx',JlD ((XZ hn hx).1 h3) hl hi hv h0,decide_eq_true_eq,hset i,if_pos rfl]
 have hr:p.rules.all (fun r=>Ze r (xs.set i (v:Int)) n)=p.rules.all (fun r=> !r.cells.contains (i:Int)||Ze r (xs.set i (v:Int)) n):=by
  rw[Bool.eq_iff_iff]
  simp only[List.all_eq_true,Bool.or_eq_true,Bool.not_eq_true']
  constructor
  · exact fun k r hr=> .inr (k r hr)
  · intro k r hr
    rcases k r hr with k|k
    · rw[←h2 r hr]
      refine N5 fun c hc=> ?_
      have hci:c≠(i:Int):=fun he=>by rw[he]at hc;simp at k;exact k hc
      have hc0:=hcs r hr c hc
      obtain⟨m,rfl⟩:∃m:Nat,c=m:=⟨c.toNat,by omega⟩
      rw[hset,if_neg (by omega)]
    · exact k
 unfold QK Xf
 rw[hclear,hr,hcl,Bool.true_and,Bool.and_comm]
def ZA(p:QV)(n:Nat):Nat→List Int→List (List Int)
 |0,xs=>[xs]
 |m+1,xs=>if 0<JA xs ((xs.length -(m+1):Nat):Int)then ZA p n m xs else((List.range n).map (· +1)).flatMap fun(v:Nat)=>if QK p (xs.set (xs.length -(m+1)) (v:Int)) n=true then ZA p n m (xs.set (xs.length -(m+1)) (v:Int))else[]
end Go.Lg

namespace Go.Lg
open Go.Proofs
theorem BP(vs:List Int)(v:Int):VV (vs++[v])=VV vs*v:=by simp[VV]
theorem Jcr:∀(n:Nat) (vs:List Int),vs.length≤n→(∀v∈vs,0≤v∧v≤4)→0≤VV vs∧VV vs≤4^n:=by
 intro n
 induction n with
 |zero=>intro vs h _;have:vs=[]:=List.eq_nil_of_length_eq_zero (by omega);subst this;simp[VV]
 |succ n ih=>
  intro vs h hv
  rcases List.eq_nil_or_concat vs with rfl|⟨ws,w,rfl⟩
  · exact⟨by simp[VV],by simp only[VV,List.foldl_nil];have:(0:Int)<4^(n+1):=Int.pow_pos (by omega);omega⟩
  · obtain⟨h1,h2⟩:=ih ws (by simp at h;omega) fun v hm=>hv v (by simp[hm])
    have hw:=hv w (by simp)
    rw[List.concat_eq_append,BP]
    refine⟨Int.mul_nonneg h1 hw.1, ?_⟩
    have:=Int.mul_le_mul h2 hw.2 hw.1 (by omega)
    rw[Int.pow_succ]
    exact this
theorem GC{vs:List Int}(h:vs.length≤4)(hv:∀v∈vs,0≤v∧v≤4)(k:Nat):0≤VV (vs.take k)∧VV (vs.take k)≤256:=by
 have:=Jcr 4 (vs.take k) (by simp;omega) fun v hm=>hv v (List.mem_of_mem_take hm)
 omega
theorem JbZ{vs:List Int}(h:vs.length≤4)(hv:∀v∈vs,0≤v∧v≤4)(k:Nat):0≤(vs.take k).sum∧(vs.take k).sum≤16:=by
 have gen:∀(ws:List Int),(∀v∈ws,0≤v∧v≤4)→0≤ws.sum∧ws.sum≤4*ws.length:=by
  intro ws hw
  induction ws with
  |nil=>simp
  |cons w ws ih=>
   have h1:=ih fun v hm=>hw v (by simp[hm])
   have h2:=hw w (by simp)
   simp only[Vy,Je]
   push_cast
   omega
 have:=gen (vs.take k) fun v hm=>hv v (List.mem_of_mem_take hm)
 have:(vs.take k).length≤4:=by simp;omega
 omega
theorem Yk{vs:List Int}{k:Nat}(h:k<vs.length):(vs.take (k+1)).Nodup↔(vs.take k).Nodup∧∀i:Nat,i<k→JA vs i≠JA vs k:=by
 rw[Ql h,Qm]
 constructor
 · rintro⟨h1,_,h3⟩
   refine⟨h1,fun i hi=>h3 _ ?_ _ (by simp)⟩
   rw[Qs (by omega)]
   simp only[Int.toNat_natCast]
   exact List.mem_take_iff_getElem.2 ⟨i,by omega,rfl⟩
 · rintro⟨h1,h2⟩
   refine⟨h1,by simp,fun a ha b hb=> ?_⟩
   obtain⟨i,hi,rfl⟩:=List.mem_take_iff_getElem.1 ha
   have:=h2 i (by omega)
   rw[Qs (by omega)]at this
   simp only[Int.toNat_natCast]at this
   simp only[List.mem_singleton]at hb
   rw[hb]
   exact this
theorem JcO(r:ZS)(vs:List Int)(hl:vs.length≤4)(hv:∀v∈vs,0≤v∧v≤4)(hk:r.kind=1∨r.kind=2∨r.kind=3∨2≤vs.length):JW Tryz.prog 172 [aR r,QG vs] (bool (VY r vs)):=by
 have hnv:∀k:Nat,k<vs.length→0≤JA vs k∧JA vs k≤4:=fun k hk=>hv _ (by rw[Qs (by omega)];exact List.getElem_mem _)
 have hpt:=GC hl hv
 have hst:=JbZ hl hv
 refine Jn.cw (c:=_) Tryz.func172 rfl (n:=86) Tryz.ntmps172 (rs:=[.tmp 4]) rfl ?_
 simp only[Je,Jf,zA,zS,Jd,Ja,Jc]
 simp(maxSteps:=999999)(disch:=omega)only[go_sem,zA,zM,zS,zE,zL]
 intro g
 refine JT (fun k:Nat=>vs.length -k) (fun k=>k≤vs.length) (fun k=>[.a, .k, .k, .a, .a, .p (int (vs.take k).sum), .p (int (VV (vs.take k))), .p (bool (decide (vs.take k).Nodup)), .p (int k), .a, .a, .a, .a, .a, .a, .a, .a, .a, .a, .a, .a, .a, .a, .a, .a, .a, .a, .a, .a, .a, .a, .a, .a, .a, .a, .a, .a, .a, .a, .a, .a, .a, .a, .a, .a, .a, .a, .a, .a, .a, .a, .a, .a, .a, .a, .a, .a, .a, .a, .a, .a, .a, .a, .a, .a, .a, .a, .a, .a, .a, .a, .a, .a, .a, .a, .a, .a, .a, .a, .a, .a, .a, .a, .a, .a, .a]) (fun _=>[some ⟨g,1,cR r⟩]) 0 (Nat.zero_le _) (by simp(maxSteps:=999999)(disch:=omega)only[go_sem,zA,zM,zS,zE,zL];simp[VV]) (J0.refl _) ?_
 intro k hk'
 simp(maxSteps:=999999)(disch:=omega)only[go_sem,zA,zM,zS,zE,zL]
 ((first|(with_reducible first|refine Jl ?_ ?_|refine Jj ?_ ?_|refine Jp ?_ ?_)|refine Jr ?_ ?_)<;>intro h1)
 · have h1:k<vs.length:=by omega
   have e1:(vs.take (k+1)).sum=(vs.take k).sum+JA vs k:=by rw[Ql h1];simp
   have e2:VV (vs.take (k+1))=VV (vs.take k)*JA vs k:=by rw[Ql h1,BP]
   have b1:=hst (k+1)
   have b2:=hpt (k+1)
   rw[e1]at b1
   rw[e2]at b2
   simp(maxSteps:=999999)(disch:=omega)only[go_sem,zA,zM,zS,zE,zL]
   refine JT (fun j:Nat=>k -j) (fun j=>j≤k) (fun j=>[.a, .k, .k, .a, .a, .k, .k, .p (bool (decide ((vs.take k).Nodup∧∀i:Nat,i<j→JA vs i≠JA vs k))), .k, .p (int j), .a, .a, .a, .a, .a, .a, .a, .a, .a, .a, .a, .a, .a, .a, .a, .a, .a, .a, .a, .a, .a, .a, .a, .a, .a, .a, .a, .a, .a, .a, .a, .a, .a, .a, .a, .a, .a, .a, .a, .a, .a, .a, .a, .a, .a, .a, .a, .a, .a, .a, .a, .a, .a, .a, .a, .a, .a, .a, .a, .a, .a, .a, .a, .a, .a, .a, .a, .a, .a, .a, .a, .a, .a, .a, .a, .a]) (fun _=>[some ⟨g,1,cR r⟩]) 0 (Nat.zero_le _) (by simp(maxSteps:=999999)(disch:=omega)only[go_sem,zA,zM,zS,zE,zL];exact⟨by simp,rfl⟩) (J0.refl _) ?_
   intro j hj
   have hd:((vs.take k).Nodup∧∀i:Nat,i<j+1→JA vs i≠JA vs k)↔((vs.take k).Nodup∧∀i:Nat,i<j→JA vs i≠JA vs k)∧JA vs j≠JA vs k:=by
    constructor
    · rintro⟨a,b⟩
      exact⟨⟨a,fun i hi=>b i (by omega)⟩,b j (by omega)⟩
    · rintro⟨⟨a,b⟩,c⟩
      refine⟨a,fun i hi=> ?_⟩
      by_cases hij:i=j
      · rw[hij];exact c
      · exact b i (by omega)
   generalize hb:decide ((vs.take k).Nodup∧∀i:Nat,i<j→JA vs i≠JA vs k)=b
   cases b with
   |false=>
    simp(maxSteps:=999999)(disch:=omega)only[go_sem,zA,zM,zS,zE,zL]
    ((first|(with_reducible first|refine Jl ?_ ?_|refine Jj ?_ ?_|refine Jp ?_ ?_)|refine Jr ?_ ?_)<;>intro h2)
    · have h2:j<k:=by omega
      simp(maxSteps:=999999)(disch:=omega)only[go_sem,zA,zM,zS,zE,zL]
      refine Zj Zd (by kernel_rfl) ?_
      simp(maxSteps:=999999)(disch:=omega)only[go_sem,Nat.reduceBEq,Bool.true_or,zA,zM,zS,zE,zL]
      refine⟨j+1,⟨by omega,by omega⟩,⟨?_,by push_cast;omega⟩,J0.refl _⟩
      rw[eq_comm,decide_eq_false_iff_not,hd]
      exact fun h=>(decide_eq_false_iff_not.1 hb) h.1
    · have hjk:j=k:=by omega
      simp(maxSteps:=999999)(disch:=omega)only[go_sem,zA,zM,zS,zE,zL]
      refine⟨k+1,⟨by omega,by omega⟩,⟨e1.symm,e2.symm, ?_,by push_cast;omega⟩,J0.refl _⟩
      rw[eq_comm,decide_eq_false_iff_not,Yk h1,←hjk]
      rw[hjk]at hb⊢
      exact decide_eq_false_iff_not.1 hb
   |true=>
    simp(maxSteps:=999999)(disch:=omega)only[go_sem,zA,zM,zS,zE,zL]
    ((first|(with_reducible first|refine Jl ?_ ?_|refine Jj ?_ ?_|refine Jp ?_ ?_)|refine Jr ?_ ?_)<;>intro h2)
    · have h2:j<k:=by omega
      have hjl:j<vs.length:=by omega
      simp(maxSteps:=999999)(disch:=omega)only[go_sem,zA,zM,zS,zE,zL]
      refine Zj Zd (by kernel_rfl) ?_
      simp(maxSteps:=999999)(disch:=omega)only[go_sem,Nat.reduceBEq,Bool.true_or,zA,zM,zS,zE,zL]
      refine⟨j+1,⟨by omega,by omega⟩,⟨?_,by push_cast;omega⟩,J0.refl _⟩
      have hb':=of_decide_eq_true hb
      by_cases he:JA vs (j:Int)=JA vs (k:Int)
      · rw[decide_eq_true he,eq_comm,Bool.not_true,decide_eq_false_iff_not,hd]
        exact fun h=>h.2 he
      · rw[decide_eq_false he,eq_comm,Bool.not_false,decide_eq_true_eq,hd]
        exact⟨hb',he⟩
    · have hjk:j=k:=by omega
      simp(maxSteps:=999999)(disch:=omega)only[go_sem,zA,zM,zS,zE,zL]
      refine⟨k+1,⟨by omega,by omega⟩,⟨e1.symm,e2.symm, ?_,by push_cast;omega⟩,J0.refl _⟩
      rw[eq_comm,decide_eq_true_eq,Yk h1]
      rw[hjk]at hb
      exact of_decide_eq_true hb
 · simp(maxSteps:=999999)(disch:=omega)only[go_sem,zA,zM,zS,zE,zL]
   rw[Js (by omega)]
   have hkl:vs.take k=vs:=Js (by omega)
   ((first|(with_reducible first|refine Jl ?_ ?_|refine Jj ?_ ?_|refine Jp ?_ ?_)|refine Jr ?_ ?_)<;>intro d1)
   · simp(maxSteps:=999999)(disch:=omega)only[go_sem,zA,zM,zS,zE,zL]
     unfold VY
     rw[if_pos d1]
   simp(maxSteps:=999999)(disch:=omega)only[go_sem,zA,zM,zS,zE,zL]
   ((first|(with_reducible first|refine Jl ?_ ?_|refine Jj ?_ ?_|refine Jp ?_ ?_)|refine Jr ?_ ?_)<;>intro d2)
   · simp(maxSteps:=999999)(disch:=omega)only[go_sem,zA,zM,zS,zE,zL]
     unfold VY
     rw[if_neg d1,if_pos d2]
   simp(maxSteps:=999999)(disch:=omega)only[go_sem,zA,zM,zS,zE,zL]
   ((first|(with_reducible first|refine Jl ?_ ?_|refine Jj ?_ ?_|refine Jp ?_ ?_)|refine Jr ?_ ?_)<;>intro d3)
   · simp(maxSteps:=999999)(disch:=omega)only[go_sem,zA,zM,zS,zE,zL]
     unfold VY
     rw[if_neg d1,if_neg d2,if_pos d3]
   have hl2:2≤vs.length:=by omega
   simp(maxSteps:=999999)(disch:=omega)only[go_sem,zA,zM,zS,zE,zL]
   have v0:0≤JA vs (0:Int)∧JA vs (0:Int)≤4:=hnv 0 (by omega)
   have v1:0≤JA vs (1:Int)∧JA vs (1:Int)≤4:=hnv 1 (by omega)
   ((first|(with_reducible first|refine Jl ?_ ?_|refine Jj ?_ ?_|refine Jp ?_ ?_)|refine Jr ?_ ?_)<;>intro d4)
   · simp(maxSteps:=999999)(disch:=omega)only[go_sem,zA,zM,zS,zE,zL]
     refine Zj Zd (by kernel_rfl) ?_
     simp(maxSteps:=999999)(disch:=omega)only[go_sem,Nat.reduceBEq,Bool.true_or,zA,zM,zS,zE,zL]
     unfold VY
     rw[if_neg d1,if_neg d2,if_neg d3,if_pos d4]
   · simp(maxSteps:=999999)(disch:=omega)only[go_sem,zA,zM,zS,zE,zL]
     refine Zj Zd (by kernel_rfl) ?_
     simp(maxSteps:=999999)(disch:=omega)only[go_sem,Nat.reduceBEq,Bool.true_or,zA,zM,zS,zE,zL]
     unfold VY
     rw[if_neg d1,if_neg d2,if_neg d3,if_neg d4,show(0:Int) -(JA vs 0 -JA vs 1)=JA vs 1 -JA vs 0 by omega]
end Go.Lg
