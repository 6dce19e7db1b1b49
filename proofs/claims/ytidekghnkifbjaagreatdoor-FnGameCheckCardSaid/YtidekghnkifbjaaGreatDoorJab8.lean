/- GpDC, cut to what is needed. -/
import Derived.Test.YtidekghnkifbjaaGreatDoorJab7
import Derived.Test.YtidekghnkifbjaaGreatDoorJab4
open List renaming cons_append → Ja, getElem?_append_left → Jb, nil_append → Jc, replicate → Jd, length_cons → Je, length_nil → Jf, getElem?_eq_some_iff → Jg, getElem?_set_ne → Ji, length_append → Jk, take_of_length_le → Js, append_assoc → Jt, append_nil → Ju, length_take → JL, drop_zero → JQ, length_singleton → JV, mem_append → JZ, getElem?_set_self → J2, map_cons → Qq, length_map → Qr, mem_cons → Qx, map_append → QB, not_mem_nil → ZW, map_nil → ZZ, getElem?_cons_succ → Z6, length_drop → Uk, sum_cons → Vy
open Nat renaming reduceAdd→zA,reduceMul→zM,reduceSub→zS,reduceEqDiff→zE,reduceLeDiff→zL
set_option linter.unusedSimpArgs false
set_option linter.unusedVariables false
set_option maxRecDepth 100000
namespace Go.Lg
open Go.Proofs
def Z5(m:Nat)(k:Nat):List Int:=(([1,2,3,4]:List Nat).take k).flatMap fun v=>if m.testBit v=true then[(v:Int)]else[]
theorem GQ{m k:Nat}(hk:k<4):Z5 m (k+1)=Z5 m k++if m.testBit (k+1)=true then[((k+1:Nat):Int)]else[]:=by
 have:k=0∨k=1∨k=2∨k=3:=by omega
 unfold Z5
 rcases this with rfl|rfl|rfl|rfl<;>simp
theorem Jaz(m k:Nat):(Z5 m k).length≤4:=by
 unfold Z5
 rw[List.length_flatMap]
 have:∀(l:List Nat),(l.map fun v=>(if m.testBit v=true then[(v:Int)]else[]).length).sum≤l.length:=by
  intro l
  induction l with
  |nil=>simp
  |cons v l ih=>
   simp only[Qq,Vy,Je]
   split<;>simp<;>omega
 exact Nat.le_trans (this _) (by simp;omega)
theorem KI{m k:Nat}{x:Int}(h:x∈Z5 m k):1≤x∧x≤4:=by
 unfold Z5 at h
 obtain⟨v,hv,hx⟩:=List.mem_flatMap.1 h
 have:=List.mem_of_mem_take hv
 split at hx
 · simp only[List.mem_singleton]at hx
   simp only[Qx,ZW,or_false]at this
   omega
 · simp at hx
theorem WW(r:ZS)(m:Nat)(ms:List Nat)(pre:List Int)(o:List Nat):ZT r (m::ms) pre o=(Z5 m 4).foldl (fun o v=>ZT r ms (pre++[v]) o) o:=by
 have e:ZT r (m::ms) pre o=[1,2,3,4].foldl (fun o (v:Nat)=>if m.testBit v=true then ZT r ms (pre++[(v:Int)]) o else o) o:=rfl
 rw[e,Z5,List.foldl_flatMap]
 have e2:(([1,2,3,4]:List Nat).take 4)=[1,2,3,4]:=rfl
 rw[e2]
 congr 1
 funext o v
 split<;>simp
theorem NE(m:Nat)(h:m≤30∧m%2=0):Jn Tryz.prog 106 [int m] [] (GE (eI .i64) 1 (Z5 m 4)):=by
 have hm2:((m:Int)).tmod 2=0:=by rw[VQ (by omega)];omega
 refine Jn.cw (c:=_) Tryz.func106 rfl (n:=29) Tryz.ntmps106 (rs:=[.tmp 2]) rfl ?_
 simp only[Je,Jf,zA,zS,Jd,Ja,Jc]
 simp(maxSteps:=999999)(disch:=omega)only[go_sem,zA,zM,zS,zE,zL]
 intro g
 refine Qv (fun(v g:Nat)=>5 -v) (fun v g=>1≤v∧v≤5) (fun v g=>[.k, .a, .a, .p (.c (.own 0 g 0 (Z5 m (v -1)).length none)), .p (int v), .a, .a, .a, .a, .a, .a, .a, .a, .a, .a, .a, .a, .a, .a, .a, .a, .a, .a, .a, .a, .a, .a, .a, .a]) (fun v g=>[some ⟨g,1,cl (eI .i64) (Z5 m (v -1))⟩]) 1 g ⟨by omega,by omega⟩ (by simp(maxSteps:=999999)(disch:=omega)only[go_sem,zA,zM,zS,zE,zL];exact⟨by simp[Z5],rfl⟩) (J0.refl _) ?_
 rintro v g ⟨hv1,hv2⟩
 have hlen:=Jaz m (v -1)
 simp(maxSteps:=999999)(disch:=omega)only[go_sem,zA,zM,zS,zE,zL]
 ((with_reducible first|refine JH ?_ ?_|refine JD ?_ ?_|refine JP ?_ ?_|refine Jv ?_ ?_|refine JF ?_ ?_|refine JG ?_ ?_|refine JB ?_ ?_|refine JC ?_ ?_|refine JN ?_ ?_|refine JO ?_ ?_|refine Jw ?_ ?_|refine Jx ?_ ?_)<;>intro h1<;>simp(maxSteps:=999999)(disch:=omega)only[go_sem,zA,zM,zS,zE,zL,h1])
 · first|refine JY.rd (Qy _ _ _) (⟨_,Tryz.func40,rfl,rfl⟩:Jh Tryz.prog 40) rfl rfl rfl rfl ?_|refine JM.rd (Qy _ _ _) (⟨_,Tryz.func40,rfl,rfl⟩:Jh Tryz.prog 40) rfl rfl rfl rfl ?_
   simp(maxSteps:=999999)(disch:=omega)only[go_sem,zA,zM,zS,zE,zL]
   ((with_reducible first|refine JH ?_ ?_|refine JD ?_ ?_|refine JP ?_ ?_|refine Jv ?_ ?_|refine JF ?_ ?_|refine JG ?_ ?_|refine JB ?_ ?_|refine JC ?_ ?_|refine JN ?_ ?_|refine JO ?_ ?_|refine Jw ?_ ?_|refine Jx ?_ ?_)<;>intro h2<;>simp(maxSteps:=999999)(disch:=omega)only[go_sem,zA,zM,zS,zE,zL,h2])
   rotate_left
   · exfalso;omega
   simp(maxSteps:=999999)(disch:=omega)only[go_sem,zA,zM,zS,zE,zL,hm2]
   have hv4:v≤4:=by omega
   have hsucc:=GQ (m:=m) (k:=v -1) (by omega)
   rw[show v -1+1=v by omega]at hsucc
   simp(maxSteps:=999999)(disch:=omega)only[go_sem,zA,zM,zS,zE,zL,XJ (s:=m) (v:=(v:Int)) (by omega),JbF]
   rw[Int.toNat_natCast]
   ((first|(with_reducible first|refine Jl ?_ ?_|refine Jj ?_ ?_|refine Jp ?_ ?_)|refine Jr ?_ ?_)<;>intro hb)
   · rw[if_pos hb]at hsucc
     simp(maxSteps:=999999)(disch:=omega)only[go_sem,zA,zM,zS,zE,zL]
     intro g1 g2
     refine⟨v+1,g2,⟨⟨by omega,by omega⟩,by omega⟩,⟨?_,by push_cast;omega⟩,ZU ?_ (Qt _)⟩
     · rw[show v+1 -1=v by omega,hsucc,Jk]
       exact⟨rfl,rfl⟩
     · rw[show v+1 -1=v by omega,hsucc,QZ]
   · rw[if_neg (by rw[hb];simp),Ju]at hsucc
     simp(maxSteps:=999999)(disch:=omega)only[go_sem,zA,zM,zS,zE,zL]
     refine⟨v+1,g,⟨⟨by omega,by omega⟩,by omega⟩,⟨?_,by push_cast;omega⟩,ZU ?_ (J0.refl _)⟩
     · rw[show v+1 -1=v by omega,hsucc]
       exact⟨rfl,rfl⟩
     · rw[show v+1 -1=v by omega,hsucc]
 · have hv5:v=5:=by omega
   subst hv5
   exact ZD (J0.refl _)
theorem Z3(m:Nat)(h:m≤30∧m%2=0):JW Tryz.prog 106 [int m] (QG (Z5 m 4)):=JW.own (NE m h)
attribute [-go_sem] J9 JE
theorem ZJ(o:List Nat)(vs:List Int):(orV o vs).length=min o.length vs.length:=by simp[orV]
theorem VO(r:ZS):∀(ms:List Nat) (pre:List Int) (o:List Nat),pre.length+ms.length=o.length→(ZT r ms pre o).length=o.length
 |[],pre,o,h=>by
  unfold ZT
  split
  · rw[ZJ];simp at h;omega
  · rfl
 |m::ms,pre,o,h=>by
  rw[WW]
  have:∀(l:List Int) (o':List Nat),o'.length=o.length→(l.foldl (fun o v=>ZT r ms (pre++[v]) o) o').length=o.length:=by
   intro l
   induction l with
   |nil=>intro o' h';exact h'
   |cons v l ih=>
    intro o' h'
    rw[List.foldl_cons]
    exact ih _ (by rw[VO r ms (pre++[v]) o' (by simp at h⊢;omega)];exact h')
  exact this _ _ rfl
theorem Jlu{o:List Nat}{vs:List Int}(ho:∀x∈o,x<32)(hv:∀v∈vs,0≤v∧v≤4):∀x∈orV o vs,x<32:=by
 intro x hx
 obtain⟨i,hi,rfl⟩:=List.mem_iff_getElem.1 hx
 have hi':=hi
 rw[ZJ]at hi'
 have hio:i<o.length:=by omega
 have hiv:i<vs.length:=by omega
 simp only[orV,List.getElem_zipWith]
 have h1:=ho _ (List.getElem_mem hio:o[i]∈o)
 have h2:=hv _ (List.getElem_mem hiv:vs[i]∈vs)
 refine Nat.or_lt_two_pow (n:=5) h1 ?_
 generalize vs[i]=w at h2
 have:w.toNat=0∨w.toNat=1∨w.toNat=2∨w.toNat=3∨w.toNat=4:=by omega
 rcases this with h|h|h|h|h<;>rw[h]<;>omega
theorem JeM(r:ZS):∀(ms:List Nat) (pre:List Int) (o:List Nat),(∀v∈pre,0≤v∧v≤4)→(∀x∈o,x<32)→∀x∈ZT r ms pre o,x<32
 |[],pre,o,hp,ho=>by
  unfold ZT
  split
  · exact Jlu ho hp
  · exact ho
 |m::ms,pre,o,hp,ho=>by
  rw[WW]
  have:∀(l:List Int) (o':List Nat),(∀v∈l,0≤v∧v≤4)→(∀x∈o',x<32)→∀x∈l.foldl (fun o v=>ZT r ms (pre++[v]) o) o',x<32:=by
   intro l
   induction l with
   |nil=>intro o' _ h';exact h'
   |cons v l ih=>
    intro o' hl h'
    rw[List.foldl_cons]
    refine ih _ (fun w hw=>hl w (by simp[hw])) (JeM r ms (pre++[v]) o' (fun w hw=> ?_) h')
    rcases JZ.1 hw with hw|hw
    · exact hp w hw
    · simp only[List.mem_singleton]at hw
      subst hw
      exact hl w (by simp)
  exact this _ _ (fun v hv=>by have:=KI hv;omega) ho
theorem Jbt(r:ZS)(ms:List Nat)(pre:List Int):∀(l:List Int) (o:List Nat),(∀v∈pre,0≤v∧v≤4)→(∀v∈l,0≤v∧v≤4)→pre.length+1+ms.length=o.length→(∀x∈o,x<32)→
 (l.foldl (fun o v=>ZT r ms (pre++[v]) o) o).length=o.length∧∀x∈l.foldl (fun o v=>ZT r ms (pre++[v]) o) o,x<32
 |[],o,_,_,_,ho=>⟨rfl,ho⟩
 |v::l,o,hp,hl,hlen,ho=>by
  rw[List.foldl_cons]
  have h1:=VO r ms (pre++[v]) o (by simp;omega)
  have h2:=JeM r ms (pre++[v]) o (fun w hw=>by
   rcases JZ.1 hw with hw|hw
   · exact hp w hw
   · simp only[List.mem_singleton]at hw
     subst hw
     exact hl w (by simp)) ho
  obtain⟨k1,k2⟩:=Jbt r ms pre l _ hp (fun w hw=>hl w (by simp[hw])) (by rw[h1];exact hlen) h2
  exact⟨by rw[k1,h1],k2⟩
def JR(o:List Nat):List Int:=o.map fun(x:Nat)=>(x:Int)
theorem Zn(o:List Nat):(JR o).length=o.length:=by simp[JR]
theorem GP{o:List Nat}{i:Nat}(h:i<o.length):JA (JR o) i=(o[i]:Int):=by
 rw[Qs (by rw[Zn];omega)]
 simp[JR]
theorem GS:∀(n:Nat) (H:Jm) (j:Nat),j<n→(Zc (Jd n false++[true]) H)[j]? =H[j]?
 |0,_,_,h=>by omega
 |n+1,[],j,h=>by simp[List.replicate_succ,Zc]
 |n+1,x::H,j,h=>by
  rw[List.replicate_succ,Ja,Zc]
  cases j with
  |zero=>rfl
  |succ j=>
   simp only[Z6]
   exact GS n H j (by omega)
theorem GT:∀(n:Nat) (H:Jm),H.length≤n+1→∀(j:Nat) (b:Zv),n≤j→(Zc (Jd n false++[true]) H)[j]?≠some (some b)
 |0,[],h,j,b,hj=>by simp[Zc]
 |0,x::H,h,j,b,hj=>by
  have:H=[]:=List.eq_nil_of_length_eq_zero (by simpa using h)
  subst this
  cases j<;>simp[Zc]
 |n+1,[],h,j,b,hj=>by simp[List.replicate_succ,Zc]
 |n+1,x::H,h,j,b,hj=>by
  rw[List.replicate_succ,Ja,Zc]
  cases j with
  |zero=>omega
  |succ j=>
   simp only[Z6]
   exact GT n H (by simpa using h) j b (by omega)
theorem Jbc(H:Jm):Zc (Jd H.length false++[true]) H=H:=by
 induction H with
 |nil=>rfl
 |cons x H ih=>rw[Je,List.replicate_succ,Ja,Zc,ih]
theorem Jh4{n:Nat}{H H':Jm}(hl:H.length≤n+1)(h:∀j,j<n→H'[j]? =H[j]?):RD (Jd n false++[true]) H H':=fun id b hb=>by
 by_cases hn:id<n
 · rw[GS n _ _ hn]at hb⊢
   rw[h id hn];exact hb
 · exact absurd hb (GT n H hl id b (by omega))
theorem Bv{P:Program}{H:Jm}{t:TypeId}{ei:TI}{K:KV}(ht:QR P t=some ei)(hz:ei.zero.length=ei.size∧ei.size=1∧ei.bytes=8){xs:List Int}(hx:xs.length≤2^40){id g:Nat}{lim:Option Nat}(hl:look H id g=some ⟨g,1,cl (eI .i64) xs⟩)
 (hk:∀c H' S,Z2 (H++H') c xs S→(∀k∈S,H.length≤k∧k<H.length+H'.length)→(H'.length=S.length∧S.length≤1)→K (.c c) (H++H')):J9 P H t (.c .emp) (.c (.own id g 0 xs.length lim)) K:=by
 obtain⟨hz1,hz2,hz3⟩:=hz
 have et:((cl (eI .i64) xs).drop 0).take (xs.length*1)=cl (eI .i64) xs:=by rw[JQ,Js (by rw[J7];exact Nat.le_refl _)]
 unfold J9
 simp only[ht,hz1,hz2,if_true,elems,hl,et,WB]
 split
 · rename_i h0
   have:xs=[]:=List.eq_nil_of_length_eq_zero h0
   subst this
   have:=hk .emp [] [] .m (by simp) (by simp)
   rwa [Ju]at this
 · refine⟨⟨by omega,by rw[hz3];omega⟩,fun g=> ?_⟩
   exact hk _ [some ⟨g,1,cl (eI .i64) xs⟩] [H.length] (.o H.length g xs (J6 (b:=⟨g,1,cl (eI .i64) xs⟩) (by simp))) (by simp) (by simp)
theorem JeA{P:Program}{H:Jm}{t:TypeId}{ei:TI}{K:KV}(ht:QR P t=some ei)(hz:ei.zero.length=ei.size∧ei.size=1∧ei.bytes=8){c:CV}{xs:List Int}{S:List Nat}(h:Z2 H c xs S)(hx:xs.length≤2^40){v:Int}
 (hk:∀id g' H',look H' id g'=some ⟨g',1,cl (eI .i64) (xs++[v])⟩→(∀k,k<H.length→k∉S→H'[k]? =H[k]?)→(id∈S∨id=H.length)→(H'.length=H.length∨S=[]∧H'.length=H.length+1)→K (.c (.own id g' 0 (xs++[v]).length none)) H'):
 J9 P H t (.c c) (.c (.f (.sl 1 [.int .i64 v]))) K:=by
 obtain⟨hz1,hz2,hz3⟩:=hz
 unfold J9
 cases h with
 |m=>
  simp only[ht,hz1,hz2,if_true,elems,JV,Nat.mul_one,WB]
  refine⟨⟨by omega,by omega⟩,fun g'=> ?_⟩
  exact hk H.length g' _ (J6 (b:=⟨g',1,cl (eI .i64) [v]⟩) (by simp;rfl)) (fun k hk _=>Jb hk) (.inr rfl) (.inr ⟨rfl,by simp⟩)
 |o id g2 xs hl2=>
  have hlt:id<H.length:=(Jg.1 (JJ hl2).1).1
  simp only[ht,hz1,hz2,if_true,elems,JV,Nat.mul_one,hl2,WB,YD,J7]
  refine⟨⟨trivial,by omega,trivial,by omega,by rw[hz3];omega⟩,fun g'=> ?_⟩
  have:=hk id g' (H.set id (some ⟨g',1,cl (eI .i64) xs++[.f (.int .i64 v)]⟩)) (J6 (b:=⟨g',1,cl (eI .i64) (xs++[v])⟩) (by rw[J2 hlt,QZ];rfl)) (fun k _ hk=>by rw[Ji (by simp at hk;omega)]) (.inl (by simp)) (.inl (by simp))
  rw[Jk]at this
  exact this
theorem J5{H:Jm}{id j g:Nat}{x:Option Zv}(h:id≠j):look (H.set id x) j g=look H j g:=by
 unfold look;rw[Ji h]
theorem JfN(P:Program)(s:List AV)(H:Jm):Yh P s H []=some (.tup []):=rfl
attribute [go_sem] JfN
def VE(o:List Nat)(vs:List Int)(k:Nat):List Nat:=(orV o vs).take k++o.drop k
theorem Fm(o:List Nat)(vs:List Int):VE o vs 0=o:=by simp[VE]
theorem Xy{o:List Nat}{vs:List Int}{k:Nat}(h:vs.length=o.length):(VE o vs k).length=o.length:=by
 simp only[VE,Jk,JL,Uk,ZJ];omega
theorem GI{o:List Nat}{vs:List Int}(h:vs.length=o.length):VE o vs vs.length=orV o vs:=by
 unfold VE
 rw[Js (by rw[ZJ];omega),List.drop_of_length_le (by omega),Ju]
theorem GH{o:List Nat}{vs:List Int}{k:Nat}(hk:k<vs.length)(h:vs.length=o.length):JA (JR (VE o vs k)) k=(o[k]'(by omega):Int):=by
 rw[GP (by rw[Xy h];omega)]
 congr 1
 unfold VE
 rw[List.getElem_append_right (by simp[ZJ];omega)]
 simp only[JL,ZJ,List.getElem_drop]
 congr 1
 omega
theorem GG{o:List Nat}{vs:List Int}{k:Nat}(hk:k<vs.length)(h:vs.length=o.length):(JR (VE o vs k)).set k (((o[k]'(by omega))|||2^(JA vs k).toNat:Nat):Int)=JR (VE o vs (k+1)):=by
 have hl:k<(orV o vs).length:=by rw[ZJ];omega
 unfold VE JR
 rw[QB,QB,List.set_append_right _ _ (by simp[ZJ];omega),List.take_succ_eq_append_getElem hl,QB,Jt]
 congr 1
 rw[List.drop_eq_getElem_cons (show k<o.length by omega)]
 simp only[Qr,JL,ZJ,Qq,ZZ]
 rw[show k -min k (min o.length vs.length)=0 by omega]
 simp only[List.set_cons_zero,Ja,Jc]
 congr 2
 simp only[orV,List.getElem_zipWith]
 rw[Qs (by omega)]
 simp
def WN(r:ZS)(ms:List Int)(k:Nat):List Nat:=(r.cells.drop k).map fun c=>(JA ms c).toNat
structure JkO(r:ZS)(ms:List Int):Prop where
 len:r.cells.length≤4
 kind:r.kind=1∨r.kind=2∨r.kind=3∨r.cells.length=2
 cell:∀c∈r.cells,0≤c∧c<ms.length∧0≤JA ms c∧JA ms c≤30∧JA ms c%2=0
 mlen:ms.length≤100
def waysQ(r:ZS)(ms:List Int)(pre:List Int)(o:List Nat)(H:Jm)(fid fg:Nat):KV:=fun v H'=>v= .tup []∧look H' fid fg=some ⟨fg,1,cl (eI .i64) (JR (ZT r (WN r ms pre.length) pre o))⟩∧H.length≤H'.length∧∀k,k<H.length→k≠fid→H'[k]? =H[k]?
theorem G0(r:ZS)(ms:List Int)(hr:JkO r ms):∀(d:Nat) (H:Jm) (id g:Nat) (pre:List Int) (fid fg:Nat) (o:List Nat),pre.length+d=r.cells.length→look H id g=some ⟨g,1,cl (eI .i64) pre⟩→(∀v∈pre,0≤v∧v≤4)→id≠fid→
 look H fid fg=some ⟨fg,1,cl (eI .i64) (JR o)⟩→o.length=r.cells.length→(∀x∈o,x<32)→Jn Tryz.prog 164 [aR r,QG ms, .c (.own id g 0 pre.length none), .c (.own fid fg 0 o.length none)] H (waysQ r ms pre o H fid fg)
 |0,H,id,g,pre,fid,fg,o,hd,hp,hpv,hne,hf,hol,ho=>by
  have hp4:pre.length≤4:=by have:=hr.len;omega
  have hlt:fid<H.length:=(Jg.1 (JJ hf).1).1
  have hlp:id<H.length:=(Jg.1 (JJ hp).1).1
  refine Jn.cw (c:=_) Tryz.func164 rfl (n:=68) Tryz.ntmps164 (rs:=[]) rfl ?_
  simp only[Je,Jf,zA,zS,Jd,Ja,Jc]
  simp(maxSteps:=999999)(disch:=omega)only[go_sem,zA,zM,zS,zE,zL]
  intro gb
  have hp':look (H++[some ⟨gb,1,cR r⟩]) id g=some ⟨g,1,cl (eI .i64) pre⟩:=JX hp
  have hf':look (H++[some ⟨gb,1,cR r⟩]) fid fg=some ⟨fg,1,cl (eI .i64) (JR o)⟩:=JX hf
  have hb':look (H++[some ⟨gb,1,cR r⟩]) H.length gb=some ⟨gb,1,cR r⟩:=JI
  simp(maxSteps:=999999)(disch:=omega)only[go_sem,zA,zM,zS,zE,zL,hp',hb']
  ((first|(with_reducible first|refine Jl ?_ ?_|refine Jj ?_ ?_|refine Jp ?_ ?_)|refine Jr ?_ ?_)<;>intro c1)
  · simp(maxSteps:=999999)(disch:=omega)only[go_sem,zA,zM,zS,zE,zL,hp',hb']
    have hown:Qw (H++[some ⟨gb,1,cR r⟩]) (.own id g 0 pre.length none) pre [id]:=Qw.o id g none pre [] (by rw[Ju];exact hp')
    refine JY.rdD (JcO r pre (by have:=hr.len;omega) hpv (by have:=hr.kind;omega)) (⟨_,Tryz.func172,rfl,rfl⟩:Jh Tryz.prog 172) rfl rfl (US rfl hown.snap) rfl ?_
    have hrem:WN r ms pre.length=[]:=by unfold WN;rw[List.drop_of_length_le (by omega)];rfl
    simp(maxSteps:=999999)(disch:=omega)only[go_sem,zA,zM,zS,zE,zL]
    ((first|(with_reducible first|refine Jl ?_ ?_|refine Jj ?_ ?_|refine Jp ?_ ?_)|refine Jr ?_ ?_)<;>intro c2)
    · simp(maxSteps:=999999)(disch:=omega)only[go_sem,zA,zM,zS,zE,zL]
      obtain⟨HK,hHK⟩:∃HK:Jm,HK=H++[some ⟨gb,1,cR r⟩]:=⟨_,rfl⟩
      rw[←hHK]at hp' hf' hb'⊢
      have hKl:HK.length=H.length+1:=by rw[hHK];simp
      have hKg:∀k,k<H.length→HK[k]? =H[k]? :=fun k hk=>by rw[hHK,Jb hk]
      clear hHK hown
      have hfK:fid<HK.length:=by omega
      have hp2:∀X,look (HK.set fid X) id g=some ⟨g,1,cl (eI .i64) pre⟩:=fun X=>by rw[J5 (Ne.symm hne)];exact hp'
      have hf2:∀cs,look (HK.set fid (some ⟨fg,1,cs⟩)) fid fg=some ⟨fg,1,cs⟩:=fun cs=>JU hfK
      refine JT (fun k:Nat=>pre.length -k) (fun k=>k≤pre.length) (fun k=>[.a, .a, .k, .k, .a, .a, .a, .a, .k, .p (int k), .a, .a, .a, .a, .a, .a, .a, .a, .a, .a, .a, .a, .a, .a, .a, .a, .a, .a, .a, .a, .a, .a, .a, .a, .a, .a, .a, .a, .a, .a, .a, .a, .a, .a, .a, .a, .a, .a, .a, .a, .a, .a, .a, .a, .a, .a, .a, .a, .a, .a, .a, .a, .a, .a, .a, .a, .a, .a]) (fun k=>HK.set fid (some ⟨fg,1,cl (eI .i64) (JR (VE o pre k))⟩)) 0 (Nat.zero_le _) (by simp(maxSteps:=999999)(disch:=omega)only[go_sem,zA,zM,zS,zE,zL];rfl) (by rw[Fm];exact Jbl (JJ hf').1) ?_
      intro k hk
      have hkl:=Xy (o:=o) (vs:=pre) (k:=k) (by omega)
      simp(maxSteps:=999999)(disch:=omega)only[go_sem,zA,zM,zS,zE,zL]
      ((first|(with_reducible first|refine Jl ?_ ?_|refine Jj ?_ ?_|refine Jp ?_ ?_)|refine Jr ?_ ?_)<;>intro c3)
      · have c3:k<pre.length:=by omega
        have hx:=GH (o:=o) (vs:=pre) (k:=k) c3 (by omega)
        simp(maxSteps:=999999)(disch:=omega)only[go_sem,zA,zM,zS,zE,zL]
        have hpk:=hpv (JA pre k) (by rw[Qs (by omega)];exact List.getElem_mem _)
        have hok:=ho (o[k]'(by omega)) (List.getElem_mem _)
        have hkn:(JR (VE o pre k)).length=o.length:=by rw[Zn,hkl]
        have hset:=GG (o:=o) (vs:=pre) c3 (by omega)
        have hpw:2^(JA pre k).toNat<2^62:=Nat.pow_lt_pow_right (by omega) (by omega)
        refine Q4 [0,1,2,3,4,5,6,7,8,9,10,11] [] none [12,13] [] [0,0,0,0,12,28,0,0,192,448,960,2044,4095,8191] Zd (by kernel_rfl) ?_
        simp(maxSteps:=999999)(disch:=omega)only[go_sem,zA,zM,zS,zE,zL,hp2,hf2,hx,UE hpk,R4 (show(o[k]'(by omega))<2^62 by omega) hpw,JE]
        rw[Int.toNat_natCast]
        exact⟨k+1,⟨by omega,by omega⟩,by push_cast;omega,by rw[List.set_set,hset];exact J0.refl _⟩
      · have hke:k=pre.length:=by omega
        simp(maxSteps:=999999)(disch:=omega)only[go_sem,zA,zM,zS,zE,zL]
        refine⟨_,J0.refl _,rfl, ?_,by simp;omega,fun j hj hn=>by rw[Ji (Ne.symm hn),hKg j hj]⟩
        rw[hf2,hrem,hke,GI (by omega)]
        unfold ZT
        rw[if_pos c2]
    · simp(maxSteps:=999999)(disch:=omega)only[go_sem,zA,zM,zS,zE,zL]
      refine⟨_,J0.refl _,rfl, ?_,by simp,fun j hj hn=>Jb hj⟩
      rw[hf',hrem]
      unfold ZT
      rw[if_neg (by rw[c2];simp)]
  · exfalso;omega
 |d+1,H,id,g,pre,fid,fg,o,hd,hp,hpv,hne,hf,hol,ho=>by
  have hp4:r.cells.length≤4:=hr.len
  have hlt:fid<H.length:=(Jg.1 (JJ hf).1).1
  have hlp:id<H.length:=(Jg.1 (JJ hp).1).1
  have hkc:pre.length<r.cells.length:=by omega
  have hcell:=hr.cell (JA r.cells pre.length) (by rw[Qs (by omega)];exact List.getElem_mem _)
  obtain⟨m,hm⟩:∃m:Nat,JA ms (JA r.cells pre.length)=m:=⟨(JA ms (JA r.cells pre.length)).toNat,by omega⟩
  have hm30:m≤30∧m%2=0:=by omega
  have hml:=hr.mlen
  have hrem:WN r ms pre.length=m::WN r ms (pre.length+1):=by
   unfold WN
   rw[List.drop_eq_getElem_cons hkc,Qq]
   congr 1
   have:=hm
   rw[Qs (xs:=r.cells) (by omega)]at this
   simp only[Int.toNat_natCast]at this
   rw[this]
   rfl
  refine Jn.cw (c:=_) Tryz.func164 rfl (n:=68) Tryz.ntmps164 (rs:=[]) rfl ?_
  simp only[Je,Jf,zA,zS,Jd,Ja,Jc]
  simp(maxSteps:=999999)(disch:=omega)only[go_sem,zA,zM,zS,zE,zL]
  intro gb
  have hp':look (H++[some ⟨gb,1,cR r⟩]) id g=some ⟨g,1,cl (eI .i64) pre⟩:=JX hp
  have hf':look (H++[some ⟨gb,1,cR r⟩]) fid fg=some ⟨fg,1,cl (eI .i64) (JR o)⟩:=JX hf
  have hb':look (H++[some ⟨gb,1,cR r⟩]) H.length gb=some ⟨gb,1,cR r⟩:=JI
  obtain⟨HK,hHK⟩:∃HK:Jm,HK=H++[some ⟨gb,1,cR r⟩]:=⟨_,rfl⟩
  rw[←hHK]at hp' hf' hb'⊢
  have hKl:HK.length=H.length+1:=by rw[hHK];simp
  have hKg:∀k,k<H.length→HK[k]? =H[k]? :=fun k hk=>by rw[hHK,Jb hk]
  clear hHK
  simp(maxSteps:=999999)(disch:=omega)only[go_sem,zA,zM,zS,zE,zL,hp',hb']
  ((first|(with_reducible first|refine Jl ?_ ?_|refine Jj ?_ ?_|refine Jp ?_ ?_)|refine Jr ?_ ?_)<;>intro c1)
  · exfalso;omega
  simp(maxSteps:=999999)(disch:=omega)only[go_sem,zA,zM,zS,zE,zL,hp',hb',hm]
  first|refine JY.mk (Z3 m hm30) (⟨_,Tryz.func106,rfl,rfl⟩:Jh Tryz.prog 106) rfl rfl rfl rfl rfl ?_|refine JM.mk (Z3 m hm30) (⟨_,Tryz.func106,rfl,rfl⟩:Jh Tryz.prog 106) rfl rfl rfl rfl rfl ?_
  simp(maxSteps:=999999)(disch:=omega)only[go_sem,zA,zM,zS,zE,zL]
  have hL4:=Jaz m 4
  have hLv:∀v∈Z5 m 4,1≤v∧v≤4:=fun v hv=>KI hv
  generalize hL:Z5 m 4=L at hL4 hLv⊢
  refine Qv (fun(k:Nat) (HI:Jm)=>L.length -k) (fun k HI=>k≤L.length∧look HI fid fg=some ⟨fg,1,cl (eI .i64) (JR ((L.take k).foldl (fun o v=>ZT r (WN r ms (pre.length+1)) (pre++[v]) o) o))⟩∧HK.length≤HI.length∧∀j,j<HK.length→j≠fid→HI[j]? =HK[j]?) (fun k HI=>[.a, .k, .k, .k, .k, .a, .a, .a, .a, .a, .k, .p (int k), .a, .a, .a, .a, .a, .a, .a, .a, .a, .a, .a, .a, .a, .a, .a, .a, .a, .a, .a, .a, .a, .a, .a, .a, .a, .a, .a, .a, .a, .a, .a, .a, .a, .a, .a, .a, .a, .a, .a, .a, .a, .a, .a, .a, .a, .a, .a, .a, .a, .a, .a, .a, .a, .a, .a, .a]) (fun _ HI=>HI) 0 HK
   ⟨Nat.zero_le _,hf',Nat.le_refl _,fun _ _ _=>rfl⟩ (by simp(maxSteps:=999999)(disch:=omega)only[go_sem,zA,zM,zS,zE,zL];rfl) (J0.refl _) ?_
  rintro k HI ⟨hk,hfI,hlI,hfrI⟩
  have hpI:look HI id g=some ⟨g,1,cl (eI .i64) pre⟩:=by unfold look;rw[hfrI id (by omega) hne];exact hp'
  have hbI:look HI H.length gb=some ⟨gb,1,cR r⟩:=by unfold look;rw[hfrI H.length (by omega) (by omega)];exact hb'
  simp(maxSteps:=999999)(disch:=omega)only[go_sem,zA,zM,zS,zE,zL]
  ((first|(with_reducible first|refine Jl ?_ ?_|refine Jj ?_ ?_|refine Jp ?_ ?_)|refine Jr ?_ ?_)<;>intro c2)
  · have c2:k<L.length:=by omega
    have hv:=hLv (JA L k) (by rw[Qs (by omega)];exact List.getElem_mem _)
    have hms:=Jbc HI
    simp(maxSteps:=999999)(disch:=omega)only[go_sem,zA,zM,zS,zE,zL]
    refine Q4 [0,1,2,3,5,6,7,8,9,11,4,10] [2,9] none [12] (Jd HI.length false++[true]) [0,0,0,0,12,0,0,96,224,480,1020,0,4095] Zd (by kernel_rfl) ?_
    iterate 11 (rw[JE];simp(maxSteps:=999999)(disch:=omega)only[go_sem,zA,zM,zS,zE,zL,hms,hbI,hpI])
    refine Bv (Qi Uv rfl YQ) ⟨rfl,rfl,rfl⟩ (by omega) hpI ?_
    intro c4 H4 S4 k4 hS4 hl4
    refine⟨Jh4 (by omega) (fun j hj=>Jb hj), ?_⟩
    rw[JE]
    simp(maxSteps:=999999)(disch:=omega)only[go_sem,zA,zM,zS,zE,zL]
    refine JeA (Qi Uv rfl YQ) ⟨rfl,rfl,rfl⟩ k4 (by omega) ?_
    intro id5 g5 H5 l5 hf5 hid5 hl5
    have hl5':H5.length≤HI.length+1∧HI.length≤H5.length:=by
     rw[Jk]at hl5
     rcases hl5 with h|⟨h1,h2⟩
     · omega
     · rw[h1]at hl4
       simp only[Jf]at hl4
       omega
    refine⟨Jh4 (by rw[Jk];omega) (fun j hj=> ?_), ?_⟩
    · rw[hf5 j (by rw[Jk];omega) (fun hm=>by have:=hS4 j hm;omega)]
    have hlI5:∀j,j<HI.length→H5[j]? =HI[j]? :=fun j hj=>by
     rw[hf5 j (by rw[Jk];omega) (fun hm=>by have:=hS4 j hm;omega),Jb hj]
    have hid5':HI.length≤id5:=by
     rcases hid5 with h|h
     · exact(hS4 id5 h).1
     · rw[Jk]at h;omega
    have hfid:fid<HI.length:=by omega
    obtain⟨hrl,hok⟩:=Jbt r (WN r ms (pre.length+1)) pre (L.take k) o hpv (fun v hm=>by have:=hLv v (List.mem_of_mem_take hm);omega) (by simp[WN];omega) ho
    rw[hol]at hrl
    have hpv':∀v∈pre++[JA L k],0≤v∧v≤4:=fun v hv'=>by
     rcases JZ.1 hv' with h|h
     · exact hpv v h
     · simp only[List.mem_singleton]at h
       omega
    have hrec:=G0 r ms hr d H5 id5 g5 (pre++[JA L k]) fid fg _ (by simp;omega) l5 hpv' (by omega) (by unfold look;rw[hlI5 fid hfid];exact hfI) hrl hok
    rw[hrl,←hol,Jk,JV]at hrec
    have hfold:(L.take (k+1)).foldl (fun o v=>ZT r (WN r ms (pre.length+1)) (pre++[v]) o) o=ZT r (WN r ms (pre.length+1)) (pre++[JA L k]) ((L.take k).foldl (fun o v=>ZT r (WN r ms (pre.length+1)) (pre++[v]) o) o):=by
     rw[Ql c2,List.foldl_append];rfl
    simp(maxSteps:=999999)(disch:=omega)only[go_sem,zA,zM,zS,zE,zL]
    refine JY.run hrec (⟨_,Tryz.func164,rfl,rfl⟩:Jh Tryz.prog 164) rfl rfl ?_
    rintro _ H6 ⟨rfl,l6,len6,f6⟩
    rw[Jk,JV,←hfold]at l6
    simp(maxSteps:=999999)(disch:=omega)only[go_sem,zA,zM,zS,zE,zL]
    exact⟨k+1,H6,⟨⟨by omega,l6,by omega,fun j hj hn=>by rw[f6 j (by omega) hn,hlI5 j (by omega),hfrI j hj hn]⟩,by omega⟩,by push_cast;omega,J0.refl _⟩
  · simp(maxSteps:=999999)(disch:=omega)only[go_sem,zA,zM,zS,zE,zL]
    have hke:k=L.length:=by omega
    rw[hke,List.take_length]at hfI
    refine⟨_,J0.refl _,rfl, ?_,by omega,fun j hj hn=>by rw[hfrI j (by omega) hn,hKg j hj]⟩
    rw[hfI,hrem,WW,hL]
end Go.Lg
