/- GpDC, cut to what is needed. -/
import Derived.Test.YtidekghnkifbjaaGreatDoorJdb8
import Derived.Test.YtidekghnkifbjaaGreatDoorJdb5
open List renaming length_cons → Ja, cons_append → Jb, getElem?_append_left → Jc, nil_append → Jd, length_nil → Je, replicate → Jf, getElem?_eq_some_iff → Jh, getElem?_set_ne → Ji, length_append → Jq, take_of_length_le → Js, append_nil → Jt, getElem?_set_self → JE, mem_append → JI, length_singleton → JQ, append_assoc → JW, length_take → JX, drop_zero → J1, map_cons → Qh, length_map → Qi, mem_cons → Qn, map_append → Qo, sum_cons → Zw, map_nil → ZJ, getElem?_cons_succ → Z2, not_mem_nil → Ub, length_drop → Uc
open Nat renaming reduceAdd→zA,reduceMul→zM,reduceSub→zS,reduceEqDiff→zE,reduceLeDiff→zL
set_option linter.unusedSimpArgs false
set_option linter.unusedVariables false
set_option maxRecDepth 100000
namespace Go.Lg
open Go.Proofs
def Z0(m:Nat)(k:Nat):List Int:=(([1,2,3,4]:List Nat).take k).flatMap fun v=>if m.testBit v=true then[(v:Int)]else[]
theorem GH{m k:Nat}(hk:k<4):Z0 m (k+1)=Z0 m k++if m.testBit (k+1)=true then[((k+1:Nat):Int)]else[]:=by
 have:k=0∨k=1∨k=2∨k=3:=by omega
 unfold Z0
 rcases this with rfl|rfl|rfl|rfl<;>simp
theorem Jaz(m k:Nat):(Z0 m k).length≤4:=by
 unfold Z0
 rw[List.length_flatMap]
 have:∀(l:List Nat),(l.map fun v=>(if m.testBit v=true then[(v:Int)]else[]).length).sum≤l.length:=by
  intro l
  induction l with
  |nil=>simp
  |cons v l ih=>
   simp only[Qh,Zw,Ja]
   split<;>simp<;>omega
 exact Nat.le_trans (this _) (by simp;omega)
theorem Kw{m k:Nat}{x:Int}(h:x∈Z0 m k):1≤x∧x≤4:=by
 unfold Z0 at h
 obtain⟨v,hv,hx⟩:=List.mem_flatMap.1 h
 have:=List.mem_of_mem_take hv
 split at hx
 · simp only[List.mem_singleton]at hx
   simp only[Qn,Ub,or_false]at this
   omega
 · simp at hx
theorem WT(r:Zq)(m:Nat)(ms:List Nat)(pre:List Int)(o:List Nat):ZS r (m::ms) pre o=(Z0 m 4).foldl (fun o v=>ZS r ms (pre++[v]) o) o:=by
 have e:ZS r (m::ms) pre o=[1,2,3,4].foldl (fun o (v:Nat)=>if m.testBit v=true then ZS r ms (pre++[(v:Int)]) o else o) o:=rfl
 rw[e,Z0,List.foldl_flatMap]
 have e2:(([1,2,3,4]:List Nat).take 4)=[1,2,3,4]:=rfl
 rw[e2]
 congr 1
 funext o v
 split<;>simp
theorem NA(m:Nat)(h:m≤30∧m%2=0):Jk Tryz.prog 106 [int m] [] (RX (eI .i64) 1 (Z0 m 4)):=by
 have hm2:((m:Int)).tmod 2=0:=by rw[JaY (by omega)];omega
 refine Jk.cw (c:=_) Tryz.func106 rfl (n:=29) Tryz.ntmps106 (rs:=[.tmp 2]) rfl ?_
 simp only[Ja,Je,zA,zS,Jf,Jb,Jd]
 simp(maxSteps:=999999)(disch:=omega)only[go_sem,zA,zM,zS,zE,zL]
 intro g
 refine Qx (fun(v g:Nat)=>5 -v) (fun v g=>1≤v∧v≤5) (fun v g=>[.k, .a, .a, .p (.c (.own 0 g 0 (Z0 m (v -1)).length none)), .p (int v), .a, .a, .a, .a, .a, .a, .a, .a, .a, .a, .a, .a, .a, .a, .a, .a, .a, .a, .a, .a, .a, .a, .a, .a]) (fun v g=>[some ⟨g,1,cl (eI .i64) (Z0 m (v -1))⟩]) 1 g ⟨by omega,by omega⟩ (by simp(maxSteps:=999999)(disch:=omega)only[go_sem,zA,zM,zS,zE,zL];exact⟨by simp[Z0],rfl⟩) (J5.refl _) ?_
 rintro v g ⟨hv1,hv2⟩
 have hlen:=Jaz m (v -1)
 simp(maxSteps:=999999)(disch:=omega)only[go_sem,zA,zM,zS,zE,zL]
 ((with_reducible first|refine JL ?_ ?_|refine JD ?_ ?_|refine JT ?_ ?_|refine Jv ?_ ?_|refine JJ ?_ ?_|refine JK ?_ ?_|refine JB ?_ ?_|refine JC ?_ ?_|refine JR ?_ ?_|refine JS ?_ ?_|refine Jw ?_ ?_|refine Jx ?_ ?_)<;>intro h1<;>simp(maxSteps:=999999)(disch:=omega)only[go_sem,zA,zM,zS,zE,zL,h1])
 · first|refine JU.rd (QE _ _ _) (⟨_,Tryz.func40,rfl,rfl⟩:Jg Tryz.prog 40) rfl rfl rfl rfl ?_|refine JG.rd (QE _ _ _) (⟨_,Tryz.func40,rfl,rfl⟩:Jg Tryz.prog 40) rfl rfl rfl rfl ?_
   simp(maxSteps:=999999)(disch:=omega)only[go_sem,zA,zM,zS,zE,zL]
   ((with_reducible first|refine JL ?_ ?_|refine JD ?_ ?_|refine JT ?_ ?_|refine Jv ?_ ?_|refine JJ ?_ ?_|refine JK ?_ ?_|refine JB ?_ ?_|refine JC ?_ ?_|refine JR ?_ ?_|refine JS ?_ ?_|refine Jw ?_ ?_|refine Jx ?_ ?_)<;>intro h2<;>simp(maxSteps:=999999)(disch:=omega)only[go_sem,zA,zM,zS,zE,zL,h2])
   rotate_left
   · exfalso;omega
   simp(maxSteps:=999999)(disch:=omega)only[go_sem,zA,zM,zS,zE,zL,hm2]
   have hv4:v≤4:=by omega
   have hsucc:=GH (m:=m) (k:=v -1) (by omega)
   rw[show v -1+1=v by omega]at hsucc
   simp(maxSteps:=999999)(disch:=omega)only[go_sem,zA,zM,zS,zE,zL,XJ (s:=m) (v:=(v:Int)) (by omega),JbK]
   rw[Int.toNat_natCast]
   ((first|(with_reducible first|refine Jm ?_ ?_|refine Jj ?_ ?_|refine Jo ?_ ?_)|refine Jr ?_ ?_)<;>intro hb)
   · rw[if_pos hb]at hsucc
     simp(maxSteps:=999999)(disch:=omega)only[go_sem,zA,zM,zS,zE,zL]
     intro g1 g2
     refine⟨v+1,g2,⟨⟨by omega,by omega⟩,by omega⟩,⟨?_,by push_cast;omega⟩,ZY ?_ (J9 _)⟩
     · rw[show v+1 -1=v by omega,hsucc,Jq]
       exact⟨rfl,rfl⟩
     · rw[show v+1 -1=v by omega,hsucc,Q7]
   · rw[if_neg (by rw[hb];simp),Jt]at hsucc
     simp(maxSteps:=999999)(disch:=omega)only[go_sem,zA,zM,zS,zE,zL]
     refine⟨v+1,g,⟨⟨by omega,by omega⟩,by omega⟩,⟨?_,by push_cast;omega⟩,ZY ?_ (J5.refl _)⟩
     · rw[show v+1 -1=v by omega,hsucc]
       exact⟨rfl,rfl⟩
     · rw[show v+1 -1=v by omega,hsucc]
 · have hv5:v=5:=by omega
   subst hv5
   exact ZK (J5.refl _)
theorem ZZ(m:Nat)(h:m≤30∧m%2=0):JM Tryz.prog 106 [int m] (QF (Z0 m 4)):=JM.own (NA m h)
attribute [-go_sem] Qf J0
theorem ZG(o:List Nat)(vs:List Int):(orV o vs).length=min o.length vs.length:=by simp[orV]
theorem VO(r:Zq):∀(ms:List Nat) (pre:List Int) (o:List Nat),pre.length+ms.length=o.length→(ZS r ms pre o).length=o.length
 |[],pre,o,h=>by
  unfold ZS
  split
  · rw[ZG];simp at h;omega
  · rfl
 |m::ms,pre,o,h=>by
  rw[WT]
  have:∀(l:List Int) (o':List Nat),o'.length=o.length→(l.foldl (fun o v=>ZS r ms (pre++[v]) o) o').length=o.length:=by
   intro l
   induction l with
   |nil=>intro o' h';exact h'
   |cons v l ih=>
    intro o' h'
    rw[List.foldl_cons]
    exact ih _ (by rw[VO r ms (pre++[v]) o' (by simp at h⊢;omega)];exact h')
  exact this _ _ rfl
theorem Jlv{o:List Nat}{vs:List Int}(ho:∀x∈o,x<32)(hv:∀v∈vs,0≤v∧v≤4):∀x∈orV o vs,x<32:=by
 intro x hx
 obtain⟨i,hi,rfl⟩:=List.mem_iff_getElem.1 hx
 have hi':=hi
 rw[ZG]at hi'
 have hio:i<o.length:=by omega
 have hiv:i<vs.length:=by omega
 simp only[orV,List.getElem_zipWith]
 have h1:=ho _ (List.getElem_mem hio:o[i]∈o)
 have h2:=hv _ (List.getElem_mem hiv:vs[i]∈vs)
 refine Nat.or_lt_two_pow (n:=5) h1 ?_
 generalize vs[i]=w at h2
 have:w.toNat=0∨w.toNat=1∨w.toNat=2∨w.toNat=3∨w.toNat=4:=by omega
 rcases this with h|h|h|h|h<;>rw[h]<;>omega
theorem JeI(r:Zq):∀(ms:List Nat) (pre:List Int) (o:List Nat),(∀v∈pre,0≤v∧v≤4)→(∀x∈o,x<32)→∀x∈ZS r ms pre o,x<32
 |[],pre,o,hp,ho=>by
  unfold ZS
  split
  · exact Jlv ho hp
  · exact ho
 |m::ms,pre,o,hp,ho=>by
  rw[WT]
  have:∀(l:List Int) (o':List Nat),(∀v∈l,0≤v∧v≤4)→(∀x∈o',x<32)→∀x∈l.foldl (fun o v=>ZS r ms (pre++[v]) o) o',x<32:=by
   intro l
   induction l with
   |nil=>intro o' _ h';exact h'
   |cons v l ih=>
    intro o' hl h'
    rw[List.foldl_cons]
    refine ih _ (fun w hw=>hl w (by simp[hw])) (JeI r ms (pre++[v]) o' (fun w hw=> ?_) h')
    rcases JI.1 hw with hw|hw
    · exact hp w hw
    · simp only[List.mem_singleton]at hw
      subst hw
      exact hl w (by simp)
  exact this _ _ (fun v hv=>by have:=Kw hv;omega) ho
theorem JbA(r:Zq)(ms:List Nat)(pre:List Int):∀(l:List Int) (o:List Nat),(∀v∈pre,0≤v∧v≤4)→(∀v∈l,0≤v∧v≤4)→pre.length+1+ms.length=o.length→(∀x∈o,x<32)→
 (l.foldl (fun o v=>ZS r ms (pre++[v]) o) o).length=o.length∧∀x∈l.foldl (fun o v=>ZS r ms (pre++[v]) o) o,x<32
 |[],o,_,_,_,ho=>⟨rfl,ho⟩
 |v::l,o,hp,hl,hlen,ho=>by
  rw[List.foldl_cons]
  have h1:=VO r ms (pre++[v]) o (by simp;omega)
  have h2:=JeI r ms (pre++[v]) o (fun w hw=>by
   rcases JI.1 hw with hw|hw
   · exact hp w hw
   · simp only[List.mem_singleton]at hw
     subst hw
     exact hl w (by simp)) ho
  obtain⟨k1,k2⟩:=JbA r ms pre l _ hp (fun w hw=>hl w (by simp[hw])) (by rw[h1];exact hlen) h2
  exact⟨by rw[k1,h1],k2⟩
def JN(o:List Nat):List Int:=o.map fun(x:Nat)=>(x:Int)
theorem Zl(o:List Nat):(JN o).length=o.length:=by simp[JN]
theorem GG{o:List Nat}{i:Nat}(h:i<o.length):Jy (JN o) i=(o[i]:Int):=by
 rw[Qe (by rw[Zl];omega)]
 simp[JN]
theorem GL:∀(n:Nat) (H:Jn) (j:Nat),j<n→(ZD (Jf n false++[true]) H)[j]? =H[j]?
 |0,_,_,h=>by omega
 |n+1,[],j,h=>by simp[List.replicate_succ,ZD]
 |n+1,x::H,j,h=>by
  rw[List.replicate_succ,Jb,ZD]
  cases j with
  |zero=>rfl
  |succ j=>
   simp only[Z2]
   exact GL n H j (by omega)
theorem GM:∀(n:Nat) (H:Jn),H.length≤n+1→∀(j:Nat) (b:Zo),n≤j→(ZD (Jf n false++[true]) H)[j]?≠some (some b)
 |0,[],h,j,b,hj=>by simp[ZD]
 |0,x::H,h,j,b,hj=>by
  have:H=[]:=List.eq_nil_of_length_eq_zero (by simpa using h)
  subst this
  cases j<;>simp[ZD]
 |n+1,[],h,j,b,hj=>by simp[List.replicate_succ,ZD]
 |n+1,x::H,h,j,b,hj=>by
  rw[List.replicate_succ,Jb,ZD]
  cases j with
  |zero=>omega
  |succ j=>
   simp only[Z2]
   exact GM n H (by simpa using h) j b (by omega)
theorem Jbi(H:Jn):ZD (Jf H.length false++[true]) H=H:=by
 induction H with
 |nil=>rfl
 |cons x H ih=>rw[Ja,List.replicate_succ,Jb,ZD,ih]
theorem Jh1{n:Nat}{H H':Jn}(hl:H.length≤n+1)(h:∀j,j<n→H'[j]? =H[j]?):ND (Jf n false++[true]) H H':=fun id b hb=>by
 by_cases hn:id<n
 · rw[GL n _ _ hn]at hb⊢
   rw[h id hn];exact hb
 · exact absurd hb (GM n H hl id b (by omega))
theorem Bq{P:Program}{H:Jn}{t:TypeId}{ei:TI}{K:KV}(ht:QT P t=some ei)(hz:ei.zero.length=ei.size∧ei.size=1∧ei.bytes=8){xs:List Int}(hx:xs.length≤2^40){id g:Nat}{lim:Option Nat}(hl:look H id g=some ⟨g,1,cl (eI .i64) xs⟩)
 (hk:∀c H' S,Ua (H++H') c xs S→(∀k∈S,H.length≤k∧k<H.length+H'.length)→(H'.length=S.length∧S.length≤1)→K (.c c) (H++H')):Qf P H t (.c .emp) (.c (.own id g 0 xs.length lim)) K:=by
 obtain⟨hz1,hz2,hz3⟩:=hz
 have et:((cl (eI .i64) xs).drop 0).take (xs.length*1)=cl (eI .i64) xs:=by rw[J1,Js (by rw[Qu];exact Nat.le_refl _)]
 unfold Qf
 simp only[ht,hz1,hz2,if_true,elems,hl,et,YM]
 split
 · rename_i h0
   have:xs=[]:=List.eq_nil_of_length_eq_zero h0
   subst this
   have:=hk .emp [] [] .m (by simp) (by simp)
   rwa [Jt]at this
 · refine⟨⟨by omega,by rw[hz3];omega⟩,fun g=> ?_⟩
   exact hk _ [some ⟨g,1,cl (eI .i64) xs⟩] [H.length] (.o H.length g xs (Qj (b:=⟨g,1,cl (eI .i64) xs⟩) (by simp))) (by simp) (by simp)
theorem Jew{P:Program}{H:Jn}{t:TypeId}{ei:TI}{K:KV}(ht:QT P t=some ei)(hz:ei.zero.length=ei.size∧ei.size=1∧ei.bytes=8){c:CV}{xs:List Int}{S:List Nat}(h:Ua H c xs S)(hx:xs.length≤2^40){v:Int}
 (hk:∀id g' H',look H' id g'=some ⟨g',1,cl (eI .i64) (xs++[v])⟩→(∀k,k<H.length→k∉S→H'[k]? =H[k]?)→(id∈S∨id=H.length)→(H'.length=H.length∨S=[]∧H'.length=H.length+1)→K (.c (.own id g' 0 (xs++[v]).length none)) H'):
 Qf P H t (.c c) (.c (.f (.sl 1 [.int .i64 v]))) K:=by
 obtain⟨hz1,hz2,hz3⟩:=hz
 unfold Qf
 cases h with
 |m=>
  simp only[ht,hz1,hz2,if_true,elems,JQ,Nat.mul_one,YM]
  refine⟨⟨by omega,by omega⟩,fun g'=> ?_⟩
  exact hk H.length g' _ (Qj (b:=⟨g',1,cl (eI .i64) [v]⟩) (by simp;rfl)) (fun k hk _=>Jc hk) (.inr rfl) (.inr ⟨rfl,by simp⟩)
 |o id g2 xs hl2=>
  have hlt:id<H.length:=(Jh.1 (JH hl2).1).1
  simp only[ht,hz1,hz2,if_true,elems,JQ,Nat.mul_one,hl2,YM,KB,Qu]
  refine⟨⟨trivial,by omega,trivial,by omega,by rw[hz3];omega⟩,fun g'=> ?_⟩
  have:=hk id g' (H.set id (some ⟨g',1,cl (eI .i64) xs++[.f (.int .i64 v)]⟩)) (Qj (b:=⟨g',1,cl (eI .i64) (xs++[v])⟩) (by rw[JE hlt,Q7];rfl)) (fun k _ hk=>by rw[Ji (by simp at hk;omega)]) (.inl (by simp)) (.inl (by simp))
  rw[Jq]at this
  exact this
theorem QA{H:Jn}{id j g:Nat}{x:Option Zo}(h:id≠j):look (H.set id x) j g=look H j g:=by
 unfold look;rw[Ji h]
theorem JfQ(P:Program)(s:List AV)(H:Jn):Yg P s H []=some (.tup []):=rfl
attribute [go_sem] JfQ
def VB(o:List Nat)(vs:List Int)(k:Nat):List Nat:=(orV o vs).take k++o.drop k
theorem Fj(o:List Nat)(vs:List Int):VB o vs 0=o:=by simp[VB]
theorem Xy{o:List Nat}{vs:List Int}{k:Nat}(h:vs.length=o.length):(VB o vs k).length=o.length:=by
 simp only[VB,Jq,JX,Uc,ZG];omega
theorem Gz{o:List Nat}{vs:List Int}(h:vs.length=o.length):VB o vs vs.length=orV o vs:=by
 unfold VB
 rw[Js (by rw[ZG];omega),List.drop_of_length_le (by omega),Jt]
theorem Gy{o:List Nat}{vs:List Int}{k:Nat}(hk:k<vs.length)(h:vs.length=o.length):Jy (JN (VB o vs k)) k=(o[k]'(by omega):Int):=by
 rw[GG (by rw[Xy h];omega)]
 congr 1
 unfold VB
 rw[List.getElem_append_right (by simp[ZG];omega)]
 simp only[JX,ZG,List.getElem_drop]
 congr 1
 omega
theorem Gx{o:List Nat}{vs:List Int}{k:Nat}(hk:k<vs.length)(h:vs.length=o.length):(JN (VB o vs k)).set k (((o[k]'(by omega))|||2^(Jy vs k).toNat:Nat):Int)=JN (VB o vs (k+1)):=by
 have hl:k<(orV o vs).length:=by rw[ZG];omega
 unfold VB JN
 rw[Qo,Qo,List.set_append_right _ _ (by simp[ZG];omega),List.take_succ_eq_append_getElem hl,Qo,JW]
 congr 1
 rw[List.drop_eq_getElem_cons (show k<o.length by omega)]
 simp only[Qi,JX,ZG,Qh,ZJ]
 rw[show k -min k (min o.length vs.length)=0 by omega]
 simp only[List.set_cons_zero,Jb,Jd]
 congr 2
 simp only[orV,List.getElem_zipWith]
 rw[Qe (by omega)]
 simp
def WH(r:Zq)(ms:List Int)(k:Nat):List Nat:=(r.cells.drop k).map fun c=>(Jy ms c).toNat
structure JkO(r:Zq)(ms:List Int):Prop where
 len:r.cells.length≤4
 kind:r.kind=1∨r.kind=2∨r.kind=3∨r.cells.length=2
 cell:∀c∈r.cells,0≤c∧c<ms.length∧0≤Jy ms c∧Jy ms c≤30∧Jy ms c%2=0
 mlen:ms.length≤100
def waysQ(r:Zq)(ms:List Int)(pre:List Int)(o:List Nat)(H:Jn)(fid fg:Nat):KV:=fun v H'=>v= .tup []∧look H' fid fg=some ⟨fg,1,cl (eI .i64) (JN (ZS r (WH r ms pre.length) pre o))⟩∧H.length≤H'.length∧∀k,k<H.length→k≠fid→H'[k]? =H[k]?
theorem GX(r:Zq)(ms:List Int)(hr:JkO r ms):∀(d:Nat) (H:Jn) (id g:Nat) (pre:List Int) (fid fg:Nat) (o:List Nat),pre.length+d=r.cells.length→look H id g=some ⟨g,1,cl (eI .i64) pre⟩→(∀v∈pre,0≤v∧v≤4)→id≠fid→
 look H fid fg=some ⟨fg,1,cl (eI .i64) (JN o)⟩→o.length=r.cells.length→(∀x∈o,x<32)→Jk Tryz.prog 164 [aR r,QF ms, .c (.own id g 0 pre.length none), .c (.own fid fg 0 o.length none)] H (waysQ r ms pre o H fid fg)
 |0,H,id,g,pre,fid,fg,o,hd,hp,hpv,hne,hf,hol,ho=>by
  have hp4:pre.length≤4:=by have:=hr.len;omega
  have hlt:fid<H.length:=(Jh.1 (JH hf).1).1
  have hlp:id<H.length:=(Jh.1 (JH hp).1).1
  refine Jk.cw (c:=_) Tryz.func164 rfl (n:=68) Tryz.ntmps164 (rs:=[]) rfl ?_
  simp only[Ja,Je,zA,zS,Jf,Jb,Jd]
  simp(maxSteps:=999999)(disch:=omega)only[go_sem,zA,zM,zS,zE,zL]
  intro gb
  have hp':look (H++[some ⟨gb,1,cR r⟩]) id g=some ⟨g,1,cl (eI .i64) pre⟩:=J2 hp
  have hf':look (H++[some ⟨gb,1,cR r⟩]) fid fg=some ⟨fg,1,cl (eI .i64) (JN o)⟩:=J2 hf
  have hb':look (H++[some ⟨gb,1,cR r⟩]) H.length gb=some ⟨gb,1,cR r⟩:=JF
  simp(maxSteps:=999999)(disch:=omega)only[go_sem,zA,zM,zS,zE,zL,hp',hb']
  ((first|(with_reducible first|refine Jm ?_ ?_|refine Jj ?_ ?_|refine Jo ?_ ?_)|refine Jr ?_ ?_)<;>intro c1)
  · simp(maxSteps:=999999)(disch:=omega)only[go_sem,zA,zM,zS,zE,zL,hp',hb']
    have hown:Qr (H++[some ⟨gb,1,cR r⟩]) (.own id g 0 pre.length none) pre [id]:=Qr.o id g none pre [] (by rw[Jt];exact hp')
    refine JU.rdD (JcP r pre (by have:=hr.len;omega) hpv (by have:=hr.kind;omega)) (⟨_,Tryz.func172,rfl,rfl⟩:Jg Tryz.prog 172) rfl rfl (QW rfl hown.snap) rfl ?_
    have hrem:WH r ms pre.length=[]:=by unfold WH;rw[List.drop_of_length_le (by omega)];rfl
    simp(maxSteps:=999999)(disch:=omega)only[go_sem,zA,zM,zS,zE,zL]
    ((first|(with_reducible first|refine Jm ?_ ?_|refine Jj ?_ ?_|refine Jo ?_ ?_)|refine Jr ?_ ?_)<;>intro c2)
    · simp(maxSteps:=999999)(disch:=omega)only[go_sem,zA,zM,zS,zE,zL]
      obtain⟨HK,hHK⟩:∃HK:Jn,HK=H++[some ⟨gb,1,cR r⟩]:=⟨_,rfl⟩
      rw[←hHK]at hp' hf' hb'⊢
      have hKl:HK.length=H.length+1:=by rw[hHK];simp
      have hKg:∀k,k<H.length→HK[k]? =H[k]? :=fun k hk=>by rw[hHK,Jc hk]
      clear hHK hown
      have hfK:fid<HK.length:=by omega
      have hp2:∀X,look (HK.set fid X) id g=some ⟨g,1,cl (eI .i64) pre⟩:=fun X=>by rw[QA (Ne.symm hne)];exact hp'
      have hf2:∀cs,look (HK.set fid (some ⟨fg,1,cs⟩)) fid fg=some ⟨fg,1,cs⟩:=fun cs=>J7 hfK
      refine JO (fun k:Nat=>pre.length -k) (fun k=>k≤pre.length) (fun k=>[.a, .a, .k, .k, .a, .a, .a, .a, .k, .p (int k), .a, .a, .a, .a, .a, .a, .a, .a, .a, .a, .a, .a, .a, .a, .a, .a, .a, .a, .a, .a, .a, .a, .a, .a, .a, .a, .a, .a, .a, .a, .a, .a, .a, .a, .a, .a, .a, .a, .a, .a, .a, .a, .a, .a, .a, .a, .a, .a, .a, .a, .a, .a, .a, .a, .a, .a, .a, .a]) (fun k=>HK.set fid (some ⟨fg,1,cl (eI .i64) (JN (VB o pre k))⟩)) 0 (Nat.zero_le _) (by simp(maxSteps:=999999)(disch:=omega)only[go_sem,zA,zM,zS,zE,zL];rfl) (by rw[Fj];exact Yo (JH hf').1) ?_
      intro k hk
      have hkl:=Xy (o:=o) (vs:=pre) (k:=k) (by omega)
      simp(maxSteps:=999999)(disch:=omega)only[go_sem,zA,zM,zS,zE,zL]
      ((first|(with_reducible first|refine Jm ?_ ?_|refine Jj ?_ ?_|refine Jo ?_ ?_)|refine Jr ?_ ?_)<;>intro c3)
      · have c3:k<pre.length:=by omega
        have hx:=Gy (o:=o) (vs:=pre) (k:=k) c3 (by omega)
        simp(maxSteps:=999999)(disch:=omega)only[go_sem,zA,zM,zS,zE,zL]
        have hpk:=hpv (Jy pre k) (by rw[Qe (by omega)];exact List.getElem_mem _)
        have hok:=ho (o[k]'(by omega)) (List.getElem_mem _)
        have hkn:(JN (VB o pre k)).length=o.length:=by rw[Zl,hkl]
        have hset:=Gx (o:=o) (vs:=pre) c3 (by omega)
        have hpw:2^(Jy pre k).toNat<2^62:=Nat.pow_lt_pow_right (by omega) (by omega)
        refine Z5 [0,1,2,3,4,5,6,7,8,9,10,11] [] none [12,13] [] [0,0,0,0,12,28,0,0,192,448,960,2044,4095,8191] ZE (by kernel_rfl) ?_
        simp(maxSteps:=999999)(disch:=omega)only[go_sem,zA,zM,zS,zE,zL,hp2,hf2,hx,Uz hpk,RY (show(o[k]'(by omega))<2^62 by omega) hpw,J0]
        rw[Int.toNat_natCast]
        exact⟨k+1,⟨by omega,by omega⟩,by push_cast;omega,by rw[List.set_set,hset];exact J5.refl _⟩
      · have hke:k=pre.length:=by omega
        simp(maxSteps:=999999)(disch:=omega)only[go_sem,zA,zM,zS,zE,zL]
        refine⟨_,J5.refl _,rfl, ?_,by simp;omega,fun j hj hn=>by rw[Ji (Ne.symm hn),hKg j hj]⟩
        rw[hf2,hrem,hke,Gz (by omega)]
        unfold ZS
        rw[if_pos c2]
    · simp(maxSteps:=999999)(disch:=omega)only[go_sem,zA,zM,zS,zE,zL]
      refine⟨_,J5.refl _,rfl, ?_,by simp,fun j hj hn=>Jc hj⟩
      rw[hf',hrem]
      unfold ZS
      rw[if_neg (by rw[c2];simp)]
  · exfalso;omega
 |d+1,H,id,g,pre,fid,fg,o,hd,hp,hpv,hne,hf,hol,ho=>by
  have hp4:r.cells.length≤4:=hr.len
  have hlt:fid<H.length:=(Jh.1 (JH hf).1).1
  have hlp:id<H.length:=(Jh.1 (JH hp).1).1
  have hkc:pre.length<r.cells.length:=by omega
  have hcell:=hr.cell (Jy r.cells pre.length) (by rw[Qe (by omega)];exact List.getElem_mem _)
  obtain⟨m,hm⟩:∃m:Nat,Jy ms (Jy r.cells pre.length)=m:=⟨(Jy ms (Jy r.cells pre.length)).toNat,by omega⟩
  have hm30:m≤30∧m%2=0:=by omega
  have hml:=hr.mlen
  have hrem:WH r ms pre.length=m::WH r ms (pre.length+1):=by
   unfold WH
   rw[List.drop_eq_getElem_cons hkc,Qh]
   congr 1
   have:=hm
   rw[Qe (xs:=r.cells) (by omega)]at this
   simp only[Int.toNat_natCast]at this
   rw[this]
   rfl
  refine Jk.cw (c:=_) Tryz.func164 rfl (n:=68) Tryz.ntmps164 (rs:=[]) rfl ?_
  simp only[Ja,Je,zA,zS,Jf,Jb,Jd]
  simp(maxSteps:=999999)(disch:=omega)only[go_sem,zA,zM,zS,zE,zL]
  intro gb
  have hp':look (H++[some ⟨gb,1,cR r⟩]) id g=some ⟨g,1,cl (eI .i64) pre⟩:=J2 hp
  have hf':look (H++[some ⟨gb,1,cR r⟩]) fid fg=some ⟨fg,1,cl (eI .i64) (JN o)⟩:=J2 hf
  have hb':look (H++[some ⟨gb,1,cR r⟩]) H.length gb=some ⟨gb,1,cR r⟩:=JF
  obtain⟨HK,hHK⟩:∃HK:Jn,HK=H++[some ⟨gb,1,cR r⟩]:=⟨_,rfl⟩
  rw[←hHK]at hp' hf' hb'⊢
  have hKl:HK.length=H.length+1:=by rw[hHK];simp
  have hKg:∀k,k<H.length→HK[k]? =H[k]? :=fun k hk=>by rw[hHK,Jc hk]
  clear hHK
  simp(maxSteps:=999999)(disch:=omega)only[go_sem,zA,zM,zS,zE,zL,hp',hb']
  ((first|(with_reducible first|refine Jm ?_ ?_|refine Jj ?_ ?_|refine Jo ?_ ?_)|refine Jr ?_ ?_)<;>intro c1)
  · exfalso;omega
  simp(maxSteps:=999999)(disch:=omega)only[go_sem,zA,zM,zS,zE,zL,hp',hb',hm]
  first|refine JU.mk (ZZ m hm30) (⟨_,Tryz.func106,rfl,rfl⟩:Jg Tryz.prog 106) rfl rfl rfl rfl rfl ?_|refine JG.mk (ZZ m hm30) (⟨_,Tryz.func106,rfl,rfl⟩:Jg Tryz.prog 106) rfl rfl rfl rfl rfl ?_
  simp(maxSteps:=999999)(disch:=omega)only[go_sem,zA,zM,zS,zE,zL]
  have hL4:=Jaz m 4
  have hLv:∀v∈Z0 m 4,1≤v∧v≤4:=fun v hv=>Kw hv
  generalize hL:Z0 m 4=L at hL4 hLv⊢
  refine Qx (fun(k:Nat) (HI:Jn)=>L.length -k) (fun k HI=>k≤L.length∧look HI fid fg=some ⟨fg,1,cl (eI .i64) (JN ((L.take k).foldl (fun o v=>ZS r (WH r ms (pre.length+1)) (pre++[v]) o) o))⟩∧HK.length≤HI.length∧∀j,j<HK.length→j≠fid→HI[j]? =HK[j]?) (fun k HI=>[.a, .k, .k, .k, .k, .a, .a, .a, .a, .a, .k, .p (int k), .a, .a, .a, .a, .a, .a, .a, .a, .a, .a, .a, .a, .a, .a, .a, .a, .a, .a, .a, .a, .a, .a, .a, .a, .a, .a, .a, .a, .a, .a, .a, .a, .a, .a, .a, .a, .a, .a, .a, .a, .a, .a, .a, .a, .a, .a, .a, .a, .a, .a, .a, .a, .a, .a, .a, .a]) (fun _ HI=>HI) 0 HK
   ⟨Nat.zero_le _,hf',Nat.le_refl _,fun _ _ _=>rfl⟩ (by simp(maxSteps:=999999)(disch:=omega)only[go_sem,zA,zM,zS,zE,zL];rfl) (J5.refl _) ?_
  rintro k HI ⟨hk,hfI,hlI,hfrI⟩
  have hpI:look HI id g=some ⟨g,1,cl (eI .i64) pre⟩:=by unfold look;rw[hfrI id (by omega) hne];exact hp'
  have hbI:look HI H.length gb=some ⟨gb,1,cR r⟩:=by unfold look;rw[hfrI H.length (by omega) (by omega)];exact hb'
  simp(maxSteps:=999999)(disch:=omega)only[go_sem,zA,zM,zS,zE,zL]
  ((first|(with_reducible first|refine Jm ?_ ?_|refine Jj ?_ ?_|refine Jo ?_ ?_)|refine Jr ?_ ?_)<;>intro c2)
  · have c2:k<L.length:=by omega
    have hv:=hLv (Jy L k) (by rw[Qe (by omega)];exact List.getElem_mem _)
    have hms:=Jbi HI
    simp(maxSteps:=999999)(disch:=omega)only[go_sem,zA,zM,zS,zE,zL]
    refine Z5 [0,1,2,3,5,6,7,8,9,11,4,10] [2,9] none [12] (Jf HI.length false++[true]) [0,0,0,0,12,0,0,96,224,480,1020,0,4095] ZE (by kernel_rfl) ?_
    iterate 11 (rw[J0];simp(maxSteps:=999999)(disch:=omega)only[go_sem,zA,zM,zS,zE,zL,hms,hbI,hpI])
    refine Bq (ZN WG rfl ti3) ⟨rfl,rfl,rfl⟩ (by omega) hpI ?_
    intro c4 H4 S4 k4 hS4 hl4
    refine⟨Jh1 (by omega) (fun j hj=>Jc hj), ?_⟩
    rw[J0]
    simp(maxSteps:=999999)(disch:=omega)only[go_sem,zA,zM,zS,zE,zL]
    refine Jew (ZN WG rfl ti3) ⟨rfl,rfl,rfl⟩ k4 (by omega) ?_
    intro id5 g5 H5 l5 hf5 hid5 hl5
    have hl5':H5.length≤HI.length+1∧HI.length≤H5.length:=by
     rw[Jq]at hl5
     rcases hl5 with h|⟨h1,h2⟩
     · omega
     · rw[h1]at hl4
       simp only[Je]at hl4
       omega
    refine⟨Jh1 (by rw[Jq];omega) (fun j hj=> ?_), ?_⟩
    · rw[hf5 j (by rw[Jq];omega) (fun hm=>by have:=hS4 j hm;omega)]
    have hlI5:∀j,j<HI.length→H5[j]? =HI[j]? :=fun j hj=>by
     rw[hf5 j (by rw[Jq];omega) (fun hm=>by have:=hS4 j hm;omega),Jc hj]
    have hid5':HI.length≤id5:=by
     rcases hid5 with h|h
     · exact(hS4 id5 h).1
     · rw[Jq]at h;omega
    have hfid:fid<HI.length:=by omega
    obtain⟨hrl,hok⟩:=JbA r (WH r ms (pre.length+1)) pre (L.take k) o hpv (fun v hm=>by have:=hLv v (List.mem_of_mem_take hm);omega) (by simp[WH];omega) ho
    rw[hol]at hrl
    have hpv':∀v∈pre++[Jy L k],0≤v∧v≤4:=fun v hv'=>by
     rcases JI.1 hv' with h|h
     · exact hpv v h
     · simp only[List.mem_singleton]at h
       omega
    have hrec:=GX r ms hr d H5 id5 g5 (pre++[Jy L k]) fid fg _ (by simp;omega) l5 hpv' (by omega) (by unfold look;rw[hlI5 fid hfid];exact hfI) hrl hok
    rw[hrl,←hol,Jq,JQ]at hrec
    have hfold:(L.take (k+1)).foldl (fun o v=>ZS r (WH r ms (pre.length+1)) (pre++[v]) o) o=ZS r (WH r ms (pre.length+1)) (pre++[Jy L k]) ((L.take k).foldl (fun o v=>ZS r (WH r ms (pre.length+1)) (pre++[v]) o) o):=by
     rw[Qa c2,List.foldl_append];rfl
    simp(maxSteps:=999999)(disch:=omega)only[go_sem,zA,zM,zS,zE,zL]
    refine JU.run hrec (⟨_,Tryz.func164,rfl,rfl⟩:Jg Tryz.prog 164) rfl rfl ?_
    rintro _ H6 ⟨rfl,l6,len6,f6⟩
    rw[Jq,JQ,←hfold]at l6
    simp(maxSteps:=999999)(disch:=omega)only[go_sem,zA,zM,zS,zE,zL]
    exact⟨k+1,H6,⟨⟨by omega,l6,by omega,fun j hj hn=>by rw[f6 j (by omega) hn,hlI5 j (by omega),hfrI j hj hn]⟩,by omega⟩,by push_cast;omega,J5.refl _⟩
  · simp(maxSteps:=999999)(disch:=omega)only[go_sem,zA,zM,zS,zE,zL]
    have hke:k=L.length:=by omega
    rw[hke,List.take_length]at hfI
    refine⟨_,J5.refl _,rfl, ?_,by omega,fun j hj hn=>by rw[hfrI j (by omega) hn,hKg j hj]⟩
    rw[hfI,hrem,WT,hL]
end Go.Lg
