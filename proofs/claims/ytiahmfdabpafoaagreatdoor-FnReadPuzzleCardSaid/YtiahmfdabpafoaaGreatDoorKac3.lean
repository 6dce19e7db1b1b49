/- GpDC, cut to what is needed. -/
import Derived.Test.YtiahmfdabpafoaaGreatDoorKac2
import Derived.Test.YtiahmfdabpafoaaGreatDoorKac1
open List renaming getElem?_eq_some_iff → Ja, getElem?_append_left → Jb, cons_append → Jc, nil_append → Jd, length_append → Je, length_cons → Jf, replicate → Jg, getElem?_set_ne → Jj, length_nil → Jl, take_of_length_le → Jn, append_assoc → Js, append_nil → Jv, length_take → JA, drop_zero → JB, mem_append → JF, length_map → JL, mem_cons → JV, length_singleton → JW, getElem?_set_self → J0, map_append → J1, map_cons → Qf, getElem?_cons_succ → Q0, not_mem_nil → Q9, map_nil → ZC, length_drop → ZI, sum_cons → UV
open Nat renaming reduceAdd→zA,reduceMul→zM,reduceSub→zS,reduceEqDiff→zE,reduceLeDiff→zL
set_option linter.unusedSimpArgs false
set_option linter.unusedVariables false
set_option maxRecDepth 100000
namespace Go.Lg
open Go.Proofs
def UI(m:Nat)(k:Nat):List Int:=(([1,2,3,4]:List Nat).take k).flatMap fun v=>if m.testBit v=true then[(v:Int)]else[]
theorem JaX{m k:Nat}(hk:k<4):UI m (k+1)=UI m k++if m.testBit (k+1)=true then[((k+1:Nat):Int)]else[]:=by
 have:k=0∨k=1∨k=2∨k=3:=by omega
 unfold UI
 rcases this with rfl|rfl|rfl|rfl<;>simp
theorem Fx(m k:Nat):(UI m k).length≤4:=by
 unfold UI
 rw[List.length_flatMap]
 have:∀(l:List Nat),(l.map fun v=>(if m.testBit v=true then[(v:Int)]else[]).length).sum≤l.length:=by
  intro l
  induction l with
  |nil=>simp
  |cons v l ih=>
   simp only[Qf,UV,Jf]
   split<;>simp<;>omega
 exact Nat.le_trans (this _) (by simp;omega)
theorem Fw{m k:Nat}{x:Int}(h:x∈UI m k):1≤x∧x≤4:=by
 unfold UI at h
 obtain⟨v,hv,hx⟩:=List.mem_flatMap.1 h
 have:=List.mem_of_mem_take hv
 split at hx
 · simp only[List.mem_singleton]at hx
   simp only[JV,Q9,or_false]at this
   omega
 · simp at hx
theorem Y3(r:Q2)(m:Nat)(ms:List Nat)(pre:List Int)(o:List Nat):VJ r (m::ms) pre o=(UI m 4).foldl (fun o v=>VJ r ms (pre++[v]) o) o:=by
 have e:VJ r (m::ms) pre o=[1,2,3,4].foldl (fun o (v:Nat)=>if m.testBit v=true then VJ r ms (pre++[(v:Int)]) o else o) o:=rfl
 rw[e,UI,List.foldl_flatMap]
 have e2:(([1,2,3,4]:List Nat).take 4)=[1,2,3,4]:=rfl
 rw[e2]
 congr 1
 funext o v
 split<;>simp
theorem Bz(m:Nat)(h:m≤30∧m%2=0):Jq Tryz.prog 115 [int m] [] (Jgq (eI .i64) 1 (UI m 4)):=by
 have hm2:((m:Int)).tmod 2=0:=by rw[Un (by omega)];omega
 refine Jq.cw (c:=_) Tryz.func115 rfl (n:=29) Tryz.ntmps115 (rs:=[.tmp 2]) rfl ?_
 simp only[Jf,Jl,zA,zS,Jg,Jc,Jd]
 simp(maxSteps:=999999)(disch:=omega)only[go_sem,zA,zM,zS,zE,zL]
 intro g
 refine Qj (fun(v g:Nat)=>5 -v) (fun v g=>1≤v∧v≤5) (fun v g=>[.k, .a, .a, .p (.c (.own 0 g 0 (UI m (v -1)).length none)), .p (int v), .a, .a, .a, .a, .a, .a, .a, .a, .a, .a, .a, .a, .a, .a, .a, .a, .a, .a, .a, .a, .a, .a, .a, .a]) (fun v g=>[some ⟨g,1,cl (eI .i64) (UI m (v -1))⟩]) 1 g ⟨by omega,by omega⟩ (by simp(maxSteps:=999999)(disch:=omega)only[go_sem,zA,zM,zS,zE,zL];exact⟨by simp[UI],rfl⟩) (Qc.refl _) ?_
 rintro v g ⟨hv1,hv2⟩
 have hlen:=Fx m (v -1)
 simp(maxSteps:=999999)(disch:=omega)only[go_sem,zA,zM,zS,zE,zL]
 ((with_reducible first|refine JU ?_ ?_|refine JJ ?_ ?_|refine J6 ?_ ?_|refine Jx ?_ ?_|refine JS ?_ ?_|refine JT ?_ ?_|refine JH ?_ ?_|refine JI ?_ ?_|refine J4 ?_ ?_|refine J5 ?_ ?_|refine JC ?_ ?_|refine JD ?_ ?_)<;>intro h1<;>simp(maxSteps:=999999)(disch:=omega)only[go_sem,zA,zM,zS,zE,zL,h1])
 · first|refine Qh.rd (QF _ _ _) (⟨_,Tryz.func45,rfl,rfl⟩:Jm Tryz.prog 45) rfl rfl rfl rfl ?_|refine Qe.rd (QF _ _ _) (⟨_,Tryz.func45,rfl,rfl⟩:Jm Tryz.prog 45) rfl rfl rfl rfl ?_
   simp(maxSteps:=999999)(disch:=omega)only[go_sem,zA,zM,zS,zE,zL]
   ((with_reducible first|refine JU ?_ ?_|refine JJ ?_ ?_|refine J6 ?_ ?_|refine Jx ?_ ?_|refine JS ?_ ?_|refine JT ?_ ?_|refine JH ?_ ?_|refine JI ?_ ?_|refine J4 ?_ ?_|refine J5 ?_ ?_|refine JC ?_ ?_|refine JD ?_ ?_)<;>intro h2<;>simp(maxSteps:=999999)(disch:=omega)only[go_sem,zA,zM,zS,zE,zL,h2])
   rotate_left
   · exfalso;omega
   simp(maxSteps:=999999)(disch:=omega)only[go_sem,zA,zM,zS,zE,zL,hm2]
   have hv4:v≤4:=by omega
   have hsucc:=JaX (m:=m) (k:=v -1) (by omega)
   rw[show v -1+1=v by omega]at hsucc
   simp(maxSteps:=999999)(disch:=omega)only[go_sem,zA,zM,zS,zE,zL,Fe (s:=m) (v:=(v:Int)) (by omega),Jcf]
   rw[Int.toNat_natCast]
   ((first|(with_reducible first|refine Jo ?_ ?_|refine Jk ?_ ?_|refine Jp ?_ ?_)|refine Jr ?_ ?_)<;>intro hb)
   · rw[if_pos hb]at hsucc
     simp(maxSteps:=999999)(disch:=omega)only[go_sem,zA,zM,zS,zE,zL]
     intro g1 g2
     refine⟨v+1,g2,⟨⟨by omega,by omega⟩,by omega⟩,⟨?_,by push_cast;omega⟩,Zd ?_ (J8 _)⟩
     · rw[show v+1 -1=v by omega,hsucc,Je]
       exact⟨rfl,rfl⟩
     · rw[show v+1 -1=v by omega,hsucc,QP]
   · rw[if_neg (by rw[hb];simp),Jv]at hsucc
     simp(maxSteps:=999999)(disch:=omega)only[go_sem,zA,zM,zS,zE,zL]
     refine⟨v+1,g,⟨⟨by omega,by omega⟩,by omega⟩,⟨?_,by push_cast;omega⟩,Zd ?_ (Qc.refl _)⟩
     · rw[show v+1 -1=v by omega,hsucc]
       exact⟨rfl,rfl⟩
     · rw[show v+1 -1=v by omega,hsucc]
 · have hv5:v=5:=by omega
   subst hv5
   exact Vm (Qc.refl _)
theorem Xc(m:Nat)(h:m≤30∧m%2=0):Qd Tryz.prog 115 [int m] (ZY (UI m 4)):=Qd.own (Bz m h)
attribute [-go_sem] Qg JP
theorem ZN(o:List Nat)(vs:List Int):(orV o vs).length=min o.length vs.length:=by simp[orV]
theorem Yj(r:Q2):∀(ms:List Nat) (pre:List Int) (o:List Nat),pre.length+ms.length=o.length→(VJ r ms pre o).length=o.length
 |[],pre,o,h=>by
  unfold VJ
  split
  · rw[ZN];simp at h;omega
  · rfl
 |m::ms,pre,o,h=>by
  rw[Y3]
  have:∀(l:List Int) (o':List Nat),o'.length=o.length→(l.foldl (fun o v=>VJ r ms (pre++[v]) o) o').length=o.length:=by
   intro l
   induction l with
   |nil=>intro o' h';exact h'
   |cons v l ih=>
    intro o' h'
    rw[List.foldl_cons]
    exact ih _ (by rw[Yj r ms (pre++[v]) o' (by simp at h⊢;omega)];exact h')
  exact this _ _ rfl
theorem JhD{o:List Nat}{vs:List Int}(ho:∀x∈o,x<32)(hv:∀v∈vs,0≤v∧v≤4):∀x∈orV o vs,x<32:=by
 intro x hx
 obtain⟨i,hi,rfl⟩:=List.mem_iff_getElem.1 hx
 have hi':=hi
 rw[ZN]at hi'
 have hio:i<o.length:=by omega
 have hiv:i<vs.length:=by omega
 simp only[orV,List.getElem_zipWith]
 have h1:=ho _ (List.getElem_mem hio:o[i]∈o)
 have h2:=hv _ (List.getElem_mem hiv:vs[i]∈vs)
 refine Nat.or_lt_two_pow (n:=5) h1 ?_
 generalize vs[i]=w at h2
 have:w.toNat=0∨w.toNat=1∨w.toNat=2∨w.toNat=3∨w.toNat=4:=by omega
 rcases this with h|h|h|h|h<;>rw[h]<;>omega
theorem JbC(r:Q2):∀(ms:List Nat) (pre:List Int) (o:List Nat),(∀v∈pre,0≤v∧v≤4)→(∀x∈o,x<32)→∀x∈VJ r ms pre o,x<32
 |[],pre,o,hp,ho=>by
  unfold VJ
  split
  · exact JhD ho hp
  · exact ho
 |m::ms,pre,o,hp,ho=>by
  rw[Y3]
  have:∀(l:List Int) (o':List Nat),(∀v∈l,0≤v∧v≤4)→(∀x∈o',x<32)→∀x∈l.foldl (fun o v=>VJ r ms (pre++[v]) o) o',x<32:=by
   intro l
   induction l with
   |nil=>intro o' _ h';exact h'
   |cons v l ih=>
    intro o' hl h'
    rw[List.foldl_cons]
    refine ih _ (fun w hw=>hl w (by simp[hw])) (JbC r ms (pre++[v]) o' (fun w hw=> ?_) h')
    rcases JF.1 hw with hw|hw
    · exact hp w hw
    · simp only[List.mem_singleton]at hw
      subst hw
      exact hl w (by simp)
  exact this _ _ (fun v hv=>by have:=Fw hv;omega) ho
theorem Jb6(r:Q2)(ms:List Nat)(pre:List Int):∀(l:List Int) (o:List Nat),(∀v∈pre,0≤v∧v≤4)→(∀v∈l,0≤v∧v≤4)→pre.length+1+ms.length=o.length→(∀x∈o,x<32)→
 (l.foldl (fun o v=>VJ r ms (pre++[v]) o) o).length=o.length∧∀x∈l.foldl (fun o v=>VJ r ms (pre++[v]) o) o,x<32
 |[],o,_,_,_,ho=>⟨rfl,ho⟩
 |v::l,o,hp,hl,hlen,ho=>by
  rw[List.foldl_cons]
  have h1:=Yj r ms (pre++[v]) o (by simp;omega)
  have h2:=JbC r ms (pre++[v]) o (fun w hw=>by
   rcases JF.1 hw with hw|hw
   · exact hp w hw
   · simp only[List.mem_singleton]at hw
     subst hw
     exact hl w (by simp)) ho
  obtain⟨k1,k2⟩:=Jb6 r ms pre l _ hp (fun w hw=>hl w (by simp[hw])) (by rw[h1];exact hlen) h2
  exact⟨by rw[k1,h1],k2⟩
def Z9(o:List Nat):List Int:=o.map fun(x:Nat)=>(x:Int)
theorem U0(o:List Nat):(Z9 o).length=o.length:=by simp[Z9]
theorem JeA{o:List Nat}{i:Nat}(h:i<o.length):JM (Z9 o) i=(o[i]:Int):=by
 rw[Qu (by rw[U0];omega)]
 simp[Z9]
theorem RV:∀(n:Nat) (H:Ji) (j:Nat),j<n→(QT (Jg n false++[true]) H)[j]? =H[j]?
 |0,_,_,h=>by omega
 |n+1,[],j,h=>by simp[List.replicate_succ,QT]
 |n+1,x::H,j,h=>by
  rw[List.replicate_succ,Jc,QT]
  cases j with
  |zero=>rfl
  |succ j=>
   simp only[Q0]
   exact RV n H j (by omega)
theorem RW:∀(n:Nat) (H:Ji),H.length≤n+1→∀(j:Nat) (b:ZG),n≤j→(QT (Jg n false++[true]) H)[j]?≠some (some b)
 |0,[],h,j,b,hj=>by simp[QT]
 |0,x::H,h,j,b,hj=>by
  have:H=[]:=List.eq_nil_of_length_eq_zero (by simpa using h)
  subst this
  cases j<;>simp[QT]
 |n+1,[],h,j,b,hj=>by simp[List.replicate_succ,QT]
 |n+1,x::H,h,j,b,hj=>by
  rw[List.replicate_succ,Jc,QT]
  cases j with
  |zero=>omega
  |succ j=>
   simp only[Q0]
   exact RW n H (by simpa using h) j b (by omega)
theorem Gd(H:Ji):QT (Jg H.length false++[true]) H=H:=by
 induction H with
 |nil=>rfl
 |cons x H ih=>rw[Jf,List.replicate_succ,Jc,QT,ih]
theorem Jew{n:Nat}{H H':Ji}(hl:H.length≤n+1)(h:∀j,j<n→H'[j]? =H[j]?):KO (Jg n false++[true]) H H':=fun id b hb=>by
 by_cases hn:id<n
 · rw[RV n _ _ hn]at hb⊢
   rw[h id hn];exact hb
 · exact absurd hb (RW n H hl id b (by omega))
theorem YV{P:Program}{H:Ji}{t:TypeId}{ei:TI}{K:KV}(ht:QJ P t=some ei)(hz:ei.zero.length=ei.size∧ei.size=1∧ei.bytes=8){xs:List Int}(hx:xs.length≤2^40){id g:Nat}{lim:Option Nat}(hl:look H id g=some ⟨g,1,cl (eI .i64) xs⟩)
 (hk:∀c H' S,WE (H++H') c xs S→(∀k∈S,H.length≤k∧k<H.length+H'.length)→(H'.length=S.length∧S.length≤1)→K (.c c) (H++H')):Qg P H t (.c .emp) (.c (.own id g 0 xs.length lim)) K:=by
 obtain⟨hz1,hz2,hz3⟩:=hz
 have et:((cl (eI .i64) xs).drop 0).take (xs.length*1)=cl (eI .i64) xs:=by rw[JB,Jn (by rw[Qb];exact Nat.le_refl _)]
 unfold Qg
 simp only[ht,hz1,hz2,if_true,elems,hl,et,VI]
 split
 · rename_i h0
   have:xs=[]:=List.eq_nil_of_length_eq_zero h0
   subst this
   have:=hk .emp [] [] .m (by simp) (by simp)
   rwa [Jv]at this
 · refine⟨⟨by omega,by rw[hz3];omega⟩,fun g=> ?_⟩
   exact hk _ [some ⟨g,1,cl (eI .i64) xs⟩] [H.length] (.o H.length g xs (Qq (b:=⟨g,1,cl (eI .i64) xs⟩) (by simp))) (by simp) (by simp)
theorem Jbw{P:Program}{H:Ji}{t:TypeId}{ei:TI}{K:KV}(ht:QJ P t=some ei)(hz:ei.zero.length=ei.size∧ei.size=1∧ei.bytes=8){c:CV}{xs:List Int}{S:List Nat}(h:WE H c xs S)(hx:xs.length≤2^40){v:Int}
 (hk:∀id g' H',look H' id g'=some ⟨g',1,cl (eI .i64) (xs++[v])⟩→(∀k,k<H.length→k∉S→H'[k]? =H[k]?)→(id∈S∨id=H.length)→(H'.length=H.length∨S=[]∧H'.length=H.length+1)→K (.c (.own id g' 0 (xs++[v]).length none)) H'):
 Qg P H t (.c c) (.c (.f (.sl 1 [.int .i64 v]))) K:=by
 obtain⟨hz1,hz2,hz3⟩:=hz
 unfold Qg
 cases h with
 |m=>
  simp only[ht,hz1,hz2,if_true,elems,JW,Nat.mul_one,VI]
  refine⟨⟨by omega,by omega⟩,fun g'=> ?_⟩
  exact hk H.length g' _ (Qq (b:=⟨g',1,cl (eI .i64) [v]⟩) (by simp;rfl)) (fun k hk _=>Jb hk) (.inr rfl) (.inr ⟨rfl,by simp⟩)
 |o id g2 xs hl2=>
  have hlt:id<H.length:=(Ja.1 (Jw hl2).1).1
  simp only[ht,hz1,hz2,if_true,elems,JW,Nat.mul_one,hl2,VI,W0,Qb]
  refine⟨⟨trivial,by omega,trivial,by omega,by rw[hz3];omega⟩,fun g'=> ?_⟩
  have:=hk id g' (H.set id (some ⟨g',1,cl (eI .i64) xs++[.f (.int .i64 v)]⟩)) (Qq (b:=⟨g',1,cl (eI .i64) (xs++[v])⟩) (by rw[J0 hlt,QP];rfl)) (fun k _ hk=>by rw[Jj (by simp at hk;omega)]) (.inl (by simp)) (.inl (by simp))
  rw[Je]at this
  exact this
theorem J7{H:Ji}{id j g:Nat}{x:Option ZG}(h:id≠j):look (H.set id x) j g=look H j g:=by
 unfold look;rw[Jj h]
theorem Jcv(P:Program)(s:List AV)(H:Ji):WP P s H []=some (.tup []):=rfl
attribute [go_sem] Jcv
def UL(o:List Nat)(vs:List Int)(k:Nat):List Nat:=(orV o vs).take k++o.drop k
theorem Nv(o:List Nat)(vs:List Int):UL o vs 0=o:=by simp[UL]
theorem XD{o:List Nat}{vs:List Int}{k:Nat}(h:vs.length=o.length):(UL o vs k).length=o.length:=by
 simp only[UL,Je,JA,ZI,ZN];omega
theorem JaS{o:List Nat}{vs:List Int}(h:vs.length=o.length):UL o vs vs.length=orV o vs:=by
 unfold UL
 rw[Jn (by rw[ZN];omega),List.drop_of_length_le (by omega),Jv]
theorem JaR{o:List Nat}{vs:List Int}{k:Nat}(hk:k<vs.length)(h:vs.length=o.length):JM (Z9 (UL o vs k)) k=(o[k]'(by omega):Int):=by
 rw[JeA (by rw[XD h];omega)]
 congr 1
 unfold UL
 rw[List.getElem_append_right (by simp[ZN];omega)]
 simp only[JA,ZN,List.getElem_drop]
 congr 1
 omega
theorem JaQ{o:List Nat}{vs:List Int}{k:Nat}(hk:k<vs.length)(h:vs.length=o.length):(Z9 (UL o vs k)).set k (((o[k]'(by omega))|||2^(JM vs k).toNat:Nat):Int)=Z9 (UL o vs (k+1)):=by
 have hl:k<(orV o vs).length:=by rw[ZN];omega
 unfold UL Z9
 rw[J1,J1,List.set_append_right _ _ (by simp[ZN];omega),List.take_succ_eq_append_getElem hl,J1,Js]
 congr 1
 rw[List.drop_eq_getElem_cons (show k<o.length by omega)]
 simp only[JL,JA,ZN,Qf,ZC]
 rw[show k -min k (min o.length vs.length)=0 by omega]
 simp only[List.set_cons_zero,Jc,Jd]
 congr 2
 simp only[orV,List.getElem_zipWith]
 rw[Qu (by omega)]
 simp
def WX(r:Q2)(ms:List Int)(k:Nat):List Nat:=(r.cells.drop k).map fun c=>(JM ms c).toNat
structure Jid(r:Q2)(ms:List Int):Prop where
 len:r.cells.length≤4
 kind:r.kind=1∨r.kind=2∨r.kind=3∨r.cells.length=2
 cell:∀c∈r.cells,0≤c∧c<ms.length∧0≤JM ms c∧JM ms c≤30∧JM ms c%2=0
 mlen:ms.length≤100
def waysQ(r:Q2)(ms:List Int)(pre:List Int)(o:List Nat)(H:Ji)(fid fg:Nat):KV:=fun v H'=>v= .tup []∧look H' fid fg=some ⟨fg,1,cl (eI .i64) (Z9 (VJ r (WX r ms pre.length) pre o))⟩∧H.length≤H'.length∧∀k,k<H.length→k≠fid→H'[k]? =H[k]?
theorem R4(r:Q2)(ms:List Int)(hr:Jid r ms):∀(d:Nat) (H:Ji) (id g:Nat) (pre:List Int) (fid fg:Nat) (o:List Nat),pre.length+d=r.cells.length→look H id g=some ⟨g,1,cl (eI .i64) pre⟩→(∀v∈pre,0≤v∧v≤4)→id≠fid→
 look H fid fg=some ⟨fg,1,cl (eI .i64) (Z9 o)⟩→o.length=r.cells.length→(∀x∈o,x<32)→Jq Tryz.prog 111 [aR r,ZY ms, .c (.own id g 0 pre.length none), .c (.own fid fg 0 o.length none)] H (waysQ r ms pre o H fid fg)
 |0,H,id,g,pre,fid,fg,o,hd,hp,hpv,hne,hf,hol,ho=>by
  have hp4:pre.length≤4:=by have:=hr.len;omega
  have hlt:fid<H.length:=(Ja.1 (Jw hf).1).1
  have hlp:id<H.length:=(Ja.1 (Jw hp).1).1
  refine Jq.cw (c:=_) Tryz.func111 rfl (n:=68) Tryz.ntmps111 (rs:=[]) rfl ?_
  simp only[Jf,Jl,zA,zS,Jg,Jc,Jd]
  simp(maxSteps:=999999)(disch:=omega)only[go_sem,zA,zM,zS,zE,zL]
  intro gb
  have hp':look (H++[some ⟨gb,1,cR r⟩]) id g=some ⟨g,1,cl (eI .i64) pre⟩:=JR hp
  have hf':look (H++[some ⟨gb,1,cR r⟩]) fid fg=some ⟨fg,1,cl (eI .i64) (Z9 o)⟩:=JR hf
  have hb':look (H++[some ⟨gb,1,cR r⟩]) H.length gb=some ⟨gb,1,cR r⟩:=JY
  simp(maxSteps:=999999)(disch:=omega)only[go_sem,zA,zM,zS,zE,zL,hp',hb']
  ((first|(with_reducible first|refine Jo ?_ ?_|refine Jk ?_ ?_|refine Jp ?_ ?_)|refine Jr ?_ ?_)<;>intro c1)
  · simp(maxSteps:=999999)(disch:=omega)only[go_sem,zA,zM,zS,zE,zL,hp',hb']
    have hown:Qv (H++[some ⟨gb,1,cR r⟩]) (.own id g 0 pre.length none) pre [id]:=Qv.o id g none pre [] (by rw[Jv];exact hp')
    refine Qh.rdD (NP r pre (by have:=hr.len;omega) hpv (by have:=hr.kind;omega)) (⟨_,Tryz.func114,rfl,rfl⟩:Jm Tryz.prog 114) rfl rfl (UX rfl hown.snap) rfl ?_
    have hrem:WX r ms pre.length=[]:=by unfold WX;rw[List.drop_of_length_le (by omega)];rfl
    simp(maxSteps:=999999)(disch:=omega)only[go_sem,zA,zM,zS,zE,zL]
    ((first|(with_reducible first|refine Jo ?_ ?_|refine Jk ?_ ?_|refine Jp ?_ ?_)|refine Jr ?_ ?_)<;>intro c2)
    · simp(maxSteps:=999999)(disch:=omega)only[go_sem,zA,zM,zS,zE,zL]
      obtain⟨HK,hHK⟩:∃HK:Ji,HK=H++[some ⟨gb,1,cR r⟩]:=⟨_,rfl⟩
      rw[←hHK]at hp' hf' hb'⊢
      have hKl:HK.length=H.length+1:=by rw[hHK];simp
      have hKg:∀k,k<H.length→HK[k]? =H[k]? :=fun k hk=>by rw[hHK,Jb hk]
      clear hHK hown
      have hfK:fid<HK.length:=by omega
      have hp2:∀X,look (HK.set fid X) id g=some ⟨g,1,cl (eI .i64) pre⟩:=fun X=>by rw[J7 (Ne.symm hne)];exact hp'
      have hf2:∀cs,look (HK.set fid (some ⟨fg,1,cs⟩)) fid fg=some ⟨fg,1,cs⟩:=fun cs=>JK hfK
      refine Qw (fun k:Nat=>pre.length -k) (fun k=>k≤pre.length) (fun k=>[.a, .a, .k, .k, .a, .a, .a, .a, .k, .p (int k), .a, .a, .a, .a, .a, .a, .a, .a, .a, .a, .a, .a, .a, .a, .a, .a, .a, .a, .a, .a, .a, .a, .a, .a, .a, .a, .a, .a, .a, .a, .a, .a, .a, .a, .a, .a, .a, .a, .a, .a, .a, .a, .a, .a, .a, .a, .a, .a, .a, .a, .a, .a, .a, .a, .a, .a, .a, .a]) (fun k=>HK.set fid (some ⟨fg,1,cl (eI .i64) (Z9 (UL o pre k))⟩)) 0 (Nat.zero_le _) (by simp(maxSteps:=999999)(disch:=omega)only[go_sem,zA,zM,zS,zE,zL];rfl) (by rw[Nv];exact Gs (Jw hf').1) ?_
      intro k hk
      have hkl:=XD (o:=o) (vs:=pre) (k:=k) (by omega)
      simp(maxSteps:=999999)(disch:=omega)only[go_sem,zA,zM,zS,zE,zL]
      ((first|(with_reducible first|refine Jo ?_ ?_|refine Jk ?_ ?_|refine Jp ?_ ?_)|refine Jr ?_ ?_)<;>intro c3)
      · have c3:k<pre.length:=by omega
        have hx:=JaR (o:=o) (vs:=pre) (k:=k) c3 (by omega)
        simp(maxSteps:=999999)(disch:=omega)only[go_sem,zA,zM,zS,zE,zL]
        have hpk:=hpv (JM pre k) (by rw[Qu (by omega)];exact List.getElem_mem _)
        have hok:=ho (o[k]'(by omega)) (List.getElem_mem _)
        have hkn:(Z9 (UL o pre k)).length=o.length:=by rw[U0,hkl]
        have hset:=JaQ (o:=o) (vs:=pre) c3 (by omega)
        have hpw:2^(JM pre k).toNat<2^62:=Nat.pow_lt_pow_right (by omega) (by omega)
        refine Zg [0,1,2,3,4,5,6,7,8,9,10,11] [] none [12,13] [] [0,0,0,0,12,28,0,0,192,448,960,2044,4095,8191] Zr (by kernel_rfl) ?_
        simp(maxSteps:=999999)(disch:=omega)only[go_sem,zA,zM,zS,zE,zL,hp2,hf2,hx,Xj hpk,RN (show(o[k]'(by omega))<2^62 by omega) hpw,JP]
        rw[Int.toNat_natCast]
        exact⟨k+1,⟨by omega,by omega⟩,by push_cast;omega,by rw[List.set_set,hset];exact Qc.refl _⟩
      · have hke:k=pre.length:=by omega
        simp(maxSteps:=999999)(disch:=omega)only[go_sem,zA,zM,zS,zE,zL]
        refine⟨_,Qc.refl _,rfl, ?_,by simp;omega,fun j hj hn=>by rw[Jj (Ne.symm hn),hKg j hj]⟩
        rw[hf2,hrem,hke,JaS (by omega)]
        unfold VJ
        rw[if_pos c2]
    · simp(maxSteps:=999999)(disch:=omega)only[go_sem,zA,zM,zS,zE,zL]
      refine⟨_,Qc.refl _,rfl, ?_,by simp,fun j hj hn=>Jb hj⟩
      rw[hf',hrem]
      unfold VJ
      rw[if_neg (by rw[c2];simp)]
  · exfalso;omega
 |d+1,H,id,g,pre,fid,fg,o,hd,hp,hpv,hne,hf,hol,ho=>by
  have hp4:r.cells.length≤4:=hr.len
  have hlt:fid<H.length:=(Ja.1 (Jw hf).1).1
  have hlp:id<H.length:=(Ja.1 (Jw hp).1).1
  have hkc:pre.length<r.cells.length:=by omega
  have hcell:=hr.cell (JM r.cells pre.length) (by rw[Qu (by omega)];exact List.getElem_mem _)
  obtain⟨m,hm⟩:∃m:Nat,JM ms (JM r.cells pre.length)=m:=⟨(JM ms (JM r.cells pre.length)).toNat,by omega⟩
  have hm30:m≤30∧m%2=0:=by omega
  have hml:=hr.mlen
  have hrem:WX r ms pre.length=m::WX r ms (pre.length+1):=by
   unfold WX
   rw[List.drop_eq_getElem_cons hkc,Qf]
   congr 1
   have:=hm
   rw[Qu (xs:=r.cells) (by omega)]at this
   simp only[Int.toNat_natCast]at this
   rw[this]
   rfl
  refine Jq.cw (c:=_) Tryz.func111 rfl (n:=68) Tryz.ntmps111 (rs:=[]) rfl ?_
  simp only[Jf,Jl,zA,zS,Jg,Jc,Jd]
  simp(maxSteps:=999999)(disch:=omega)only[go_sem,zA,zM,zS,zE,zL]
  intro gb
  have hp':look (H++[some ⟨gb,1,cR r⟩]) id g=some ⟨g,1,cl (eI .i64) pre⟩:=JR hp
  have hf':look (H++[some ⟨gb,1,cR r⟩]) fid fg=some ⟨fg,1,cl (eI .i64) (Z9 o)⟩:=JR hf
  have hb':look (H++[some ⟨gb,1,cR r⟩]) H.length gb=some ⟨gb,1,cR r⟩:=JY
  obtain⟨HK,hHK⟩:∃HK:Ji,HK=H++[some ⟨gb,1,cR r⟩]:=⟨_,rfl⟩
  rw[←hHK]at hp' hf' hb'⊢
  have hKl:HK.length=H.length+1:=by rw[hHK];simp
  have hKg:∀k,k<H.length→HK[k]? =H[k]? :=fun k hk=>by rw[hHK,Jb hk]
  clear hHK
  simp(maxSteps:=999999)(disch:=omega)only[go_sem,zA,zM,zS,zE,zL,hp',hb']
  ((first|(with_reducible first|refine Jo ?_ ?_|refine Jk ?_ ?_|refine Jp ?_ ?_)|refine Jr ?_ ?_)<;>intro c1)
  · exfalso;omega
  simp(maxSteps:=999999)(disch:=omega)only[go_sem,zA,zM,zS,zE,zL,hp',hb',hm]
  first|refine Qh.mk (Xc m hm30) (⟨_,Tryz.func115,rfl,rfl⟩:Jm Tryz.prog 115) rfl rfl rfl rfl rfl ?_|refine Qe.mk (Xc m hm30) (⟨_,Tryz.func115,rfl,rfl⟩:Jm Tryz.prog 115) rfl rfl rfl rfl rfl ?_
  simp(maxSteps:=999999)(disch:=omega)only[go_sem,zA,zM,zS,zE,zL]
  have hL4:=Fx m 4
  have hLv:∀v∈UI m 4,1≤v∧v≤4:=fun v hv=>Fw hv
  generalize hL:UI m 4=L at hL4 hLv⊢
  refine Qj (fun(k:Nat) (HI:Ji)=>L.length -k) (fun k HI=>k≤L.length∧look HI fid fg=some ⟨fg,1,cl (eI .i64) (Z9 ((L.take k).foldl (fun o v=>VJ r (WX r ms (pre.length+1)) (pre++[v]) o) o))⟩∧HK.length≤HI.length∧∀j,j<HK.length→j≠fid→HI[j]? =HK[j]?) (fun k HI=>[.a, .k, .k, .k, .k, .a, .a, .a, .a, .a, .k, .p (int k), .a, .a, .a, .a, .a, .a, .a, .a, .a, .a, .a, .a, .a, .a, .a, .a, .a, .a, .a, .a, .a, .a, .a, .a, .a, .a, .a, .a, .a, .a, .a, .a, .a, .a, .a, .a, .a, .a, .a, .a, .a, .a, .a, .a, .a, .a, .a, .a, .a, .a, .a, .a, .a, .a, .a, .a]) (fun _ HI=>HI) 0 HK
   ⟨Nat.zero_le _,hf',Nat.le_refl _,fun _ _ _=>rfl⟩ (by simp(maxSteps:=999999)(disch:=omega)only[go_sem,zA,zM,zS,zE,zL];rfl) (Qc.refl _) ?_
  rintro k HI ⟨hk,hfI,hlI,hfrI⟩
  have hpI:look HI id g=some ⟨g,1,cl (eI .i64) pre⟩:=by unfold look;rw[hfrI id (by omega) hne];exact hp'
  have hbI:look HI H.length gb=some ⟨gb,1,cR r⟩:=by unfold look;rw[hfrI H.length (by omega) (by omega)];exact hb'
  simp(maxSteps:=999999)(disch:=omega)only[go_sem,zA,zM,zS,zE,zL]
  ((first|(with_reducible first|refine Jo ?_ ?_|refine Jk ?_ ?_|refine Jp ?_ ?_)|refine Jr ?_ ?_)<;>intro c2)
  · have c2:k<L.length:=by omega
    have hv:=hLv (JM L k) (by rw[Qu (by omega)];exact List.getElem_mem _)
    have hms:=Gd HI
    simp(maxSteps:=999999)(disch:=omega)only[go_sem,zA,zM,zS,zE,zL]
    refine Zg [0,1,2,3,5,6,7,8,9,11,4,10] [2,9] none [12] (Jg HI.length false++[true]) [0,0,0,0,12,0,0,96,224,480,1020,0,4095] Zr (by kernel_rfl) ?_
    iterate 11 (rw[JP];simp(maxSteps:=999999)(disch:=omega)only[go_sem,zA,zM,zS,zE,zL,hms,hbI,hpI])
    refine YV (JZ UW rfl Ru) ⟨rfl,rfl,rfl⟩ (by omega) hpI ?_
    intro c4 H4 S4 k4 hS4 hl4
    refine⟨Jew (by omega) (fun j hj=>Jb hj), ?_⟩
    rw[JP]
    simp(maxSteps:=999999)(disch:=omega)only[go_sem,zA,zM,zS,zE,zL]
    refine Jbw (JZ UW rfl Ru) ⟨rfl,rfl,rfl⟩ k4 (by omega) ?_
    intro id5 g5 H5 l5 hf5 hid5 hl5
    have hl5':H5.length≤HI.length+1∧HI.length≤H5.length:=by
     rw[Je]at hl5
     rcases hl5 with h|⟨h1,h2⟩
     · omega
     · rw[h1]at hl4
       simp only[Jl]at hl4
       omega
    refine⟨Jew (by rw[Je];omega) (fun j hj=> ?_), ?_⟩
    · rw[hf5 j (by rw[Je];omega) (fun hm=>by have:=hS4 j hm;omega)]
    have hlI5:∀j,j<HI.length→H5[j]? =HI[j]? :=fun j hj=>by
     rw[hf5 j (by rw[Je];omega) (fun hm=>by have:=hS4 j hm;omega),Jb hj]
    have hid5':HI.length≤id5:=by
     rcases hid5 with h|h
     · exact(hS4 id5 h).1
     · rw[Je]at h;omega
    have hfid:fid<HI.length:=by omega
    obtain⟨hrl,hok⟩:=Jb6 r (WX r ms (pre.length+1)) pre (L.take k) o hpv (fun v hm=>by have:=hLv v (List.mem_of_mem_take hm);omega) (by simp[WX];omega) ho
    rw[hol]at hrl
    have hpv':∀v∈pre++[JM L k],0≤v∧v≤4:=fun v hv'=>by
     rcases JF.1 hv' with h|h
     · exact hpv v h
     · simp only[List.mem_singleton]at h
       omega
    have hrec:=R4 r ms hr d H5 id5 g5 (pre++[JM L k]) fid fg _ (by simp;omega) l5 hpv' (by omega) (by unfold look;rw[hlI5 fid hfid];exact hfI) hrl hok
    rw[hrl,←hol,Je,JW]at hrec
    have hfold:(L.take (k+1)).foldl (fun o v=>VJ r (WX r ms (pre.length+1)) (pre++[v]) o) o=VJ r (WX r ms (pre.length+1)) (pre++[JM L k]) ((L.take k).foldl (fun o v=>VJ r (WX r ms (pre.length+1)) (pre++[v]) o) o):=by
     rw[JX c2,List.foldl_append];rfl
    simp(maxSteps:=999999)(disch:=omega)only[go_sem,zA,zM,zS,zE,zL]
    refine Qh.run hrec (⟨_,Tryz.func111,rfl,rfl⟩:Jm Tryz.prog 111) rfl rfl ?_
    rintro _ H6 ⟨rfl,l6,len6,f6⟩
    rw[Je,JW,←hfold]at l6
    simp(maxSteps:=999999)(disch:=omega)only[go_sem,zA,zM,zS,zE,zL]
    exact⟨k+1,H6,⟨⟨by omega,l6,by omega,fun j hj hn=>by rw[f6 j (by omega) hn,hlI5 j (by omega),hfrI j hj hn]⟩,by omega⟩,by push_cast;omega,Qc.refl _⟩
  · simp(maxSteps:=999999)(disch:=omega)only[go_sem,zA,zM,zS,zE,zL]
    have hke:k=L.length:=by omega
    rw[hke,List.take_length]at hfI
    refine⟨_,Qc.refl _,rfl, ?_,by omega,fun j hj hn=>by rw[hfrI j (by omega) hn,hKg j hj]⟩
    rw[hfI,hrem,Y3,hL]
end Go.Lg
