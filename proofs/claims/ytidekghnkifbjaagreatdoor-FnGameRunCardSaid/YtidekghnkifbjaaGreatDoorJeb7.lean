/- GpCB, GpCD, GpCE, GpGA, GpDA, cut to what is needed. -/
import Derived.Test.YtidekghnkifbjaaGreatDoorJeb6
import Derived.Test.YtidekghnkifbjaaGreatDoorJea9
import Derived.Test.YtidekghnkifbjaaGreatDoorJeb0
open List renaming getElem?_append_left → Ja, cons_append → Jb, nil_append → Jc, replicate → Jd, length_cons → Je, length_nil → Jf, getElem?_set_ne → Jg, getElem?_eq_some_iff → Jh, length_append → Jk, length_set → Jo, take_of_length_le → Js, append_nil → Ju, length_singleton → JL, drop_zero → JR, mapM_cons → J4, map_cons → Qr, length_map → Qs, take_append_drop → Q8
open Nat renaming reduceAdd→zA,reduceMul→zM,reduceSub→zS,reduceEqDiff→zE,reduceLeDiff→zL
set_option linter.unusedSimpArgs false
set_option linter.unusedVariables false
set_option maxRecDepth 100000
namespace Go.Lg
open Go.Proofs
theorem Ul(n line:Nat):(Zo n line).length=n:=by simp[Zo]
theorem Wo{n line k:Nat}(h:k<n):JA (Zo n line) k=if line<n then((line*n+k:Nat):Int)else((k*n+line -n:Nat):Int):=by
 rw[Qt (by rw[Ul];omega)]
 simp[Zo]
theorem Kw{n line k:Nat}(hn:n=2∨n=3∨n=4)(hl:line<2*n)(h:k<n):0≤JA (Zo n line) k∧JA (Zo n line) k<(n*n:Nat):=by
 rw[Wo h]
 split<;>rcases hn with rfl|rfl|rfl<;>omega
theorem JaH{n line:Nat}(hn:n=2∨n=3∨n=4)(hl:line<2*n):Jn Tryz.prog 154 [int n,int line] [] (G6 (eI .i64) 1 (Zo n line)):=by
 have hb:(line:Int)*n≤28∧0≤(line:Int)*n:=by rcases hn with rfl|rfl|rfl<;>omega
 have hn4:2≤n∧n≤4:=by omega
 have hlen:=Ul n line
 refine Jn.cw (c:=_) Tryz.func154 rfl (n:=46) Tryz.ntmps154 (rs:=[.tmp 4]) rfl ?_
 simp only[Je,Jf,zA,zS,Jd,Jb,Jc]
 simp(maxSteps:=999999)(disch:=omega)only[go_sem,zA,zM,zS,zE,zL]
 intro g
 refine Qp (fun(k g:Nat)=>n -k) (fun k g=>k≤n) (fun k g=>[.k, .k, .a, .a, .a, .p (.c (.own 0 g 0 k none)), .p (int k), .a, .a, .a, .a, .a, .a, .a, .a, .a, .a, .a, .a, .a, .a, .a, .a, .a, .a, .a, .a, .a, .a, .a, .a, .a, .a, .a, .a, .a, .a, .a, .a, .a, .a, .a, .a, .a, .a, .a]) (fun k g=>[some ⟨g,1,cl (eI .i64) ((Zo n line).take k)⟩]) 0 g
  (Nat.zero_le _) (by simp(maxSteps:=999999)(disch:=omega)only[go_sem,zA,zM,zS,zE,zL];rfl) (J0.refl _) ?_
 intro k g hk
 simp(maxSteps:=999999)(disch:=omega)only[go_sem,zA,zM,zS,zE,zL]
 ((with_reducible first|refine JJ ?_ ?_|refine JF ?_ ?_|refine JU ?_ ?_|refine Jw ?_ ?_|refine JH ?_ ?_|refine JI ?_ ?_|refine JD ?_ ?_|refine JE ?_ ?_|refine JS ?_ ?_|refine JT ?_ ?_|refine Jy ?_ ?_|refine Jz ?_ ?_)<;>intro h1<;>simp(maxSteps:=999999)(disch:=omega)only[go_sem,zA,zM,zS,zE,zL,h1])
 · first|refine JZ.rd (Qz _ _ _) (⟨_,Tryz.func40,rfl,rfl⟩:Ji Tryz.prog 40) rfl rfl rfl rfl ?_|refine JK.rd (Qz _ _ _) (⟨_,Tryz.func40,rfl,rfl⟩:Ji Tryz.prog 40) rfl rfl rfl rfl ?_
   simp(maxSteps:=999999)(disch:=omega)only[go_sem,zA,zM,zS,zE,zL]
   ((with_reducible first|refine JJ ?_ ?_|refine JF ?_ ?_|refine JU ?_ ?_|refine Jw ?_ ?_|refine JH ?_ ?_|refine JI ?_ ?_|refine JD ?_ ?_|refine JE ?_ ?_|refine JS ?_ ?_|refine JT ?_ ?_|refine Jy ?_ ?_|refine Jz ?_ ?_)<;>intro h2<;>simp(maxSteps:=999999)(disch:=omega)only[go_sem,zA,zM,zS,zE,zL,h2])
   rotate_left
   · exfalso;omega
   first|refine JZ.rd (Qz _ _ _) (⟨_,Tryz.func40,rfl,rfl⟩:Ji Tryz.prog 40) rfl rfl rfl rfl ?_|refine JK.rd (Qz _ _ _) (⟨_,Tryz.func40,rfl,rfl⟩:Ji Tryz.prog 40) rfl rfl rfl rfl ?_
   simp(maxSteps:=999999)(disch:=omega)only[go_sem,zA,zM,zS,zE,zL]
   have h1:k<n:=by omega
   have hkb:(k:Int)*n≤16∧0≤(k:Int)*n:=by rcases hn with rfl|rfl|rfl<;>omega
   have hne:=Wo (line:=line) h1
   ((first|(with_reducible first|refine Jl ?_ ?_|refine Jj ?_ ?_|refine Jp ?_ ?_)|refine Jr ?_ ?_)<;>intro h3)
   · simp(maxSteps:=999999)(disch:=omega)only[go_sem,zA,zM,zS,zE,zL]
     ((first|(with_reducible first|refine Jl ?_ ?_|refine Jj ?_ ?_|refine Jp ?_ ?_)|refine Jr ?_ ?_)<;>intro h4)
     · simp(maxSteps:=999999)(disch:=omega)only[go_sem,zA,zM,zS,zE,zL]
       intro g1 g2
       refine⟨k+1,g2,⟨by omega,by omega⟩,⟨⟨rfl,rfl⟩,by push_cast;omega⟩,Z4 ?_ (Qu _)⟩
       rw[Qg (by omega),hne,if_pos (by omega)]
       push_cast
       rfl
     · simp(maxSteps:=999999)(disch:=omega)only[go_sem,zA,zM,zS,zE,zL]
       intro g1 g2
       refine⟨k+1,g2,⟨by omega,by omega⟩,⟨⟨rfl,rfl⟩,by push_cast;omega⟩,Z4 ?_ (Qu _)⟩
       rw[Qg (by omega),hne,if_neg (by omega)]
       have:((k*n+line -n:Nat):Int)=(k:Int)*n+line -n:=by
        have:n≤k*n+line:=by omega
        omega
       rw[this]
   · exfalso;omega
 · have hi':k=n:=by omega
   subst hi'
   rw[Js (by omega)]
   have:=ZO (E:=eI .i64) (n:=1) (g:=g) (xs:=Zo k line) (J0.refl [some ⟨g,1,cl (eI .i64) (Zo k line)⟩])
   rw[hlen]at this
   exact this
theorem Vf{n line:Nat}(hn:n=2∨n=3∨n=4)(hl:line<2*n):JW Tryz.prog 154 [int n,int line] (QO (Zo n line)):=JW.own (JaH hn hl)
theorem UP{v:Int}(h:0≤v∧v≤4):UM .shl .i64 1 .i64 v=some (.int .i64 ((2^v.toNat:Nat):Int)):=by
 obtain⟨k,rfl⟩:∃k:Nat,v=k:=⟨v.toNat,by omega⟩
 have hk:k=0∨k=1∨k=2∨k=3∨k=4:=by omega
 rcases hk with rfl|rfl|rfl|rfl|rfl<;>rfl
theorem Ya{s:Nat}{v:Int}(h:0≤v∧v≤4):UM .shr .i64 (s:Int) .i64 v=some (.int .i64 ((s>>>v.toNat:Nat):Int)):=by
 obtain⟨k,rfl⟩:∃k:Nat,v=k:=⟨v.toNat,by omega⟩
 simp only[UM]
 rw[if_neg (by omega)]
 have hb:min (k:Int).toNat IntKind.i64.bits=k:=by
  rw[Int.toNat_natCast]
  have:IntKind.i64.bits=64:=rfl
  omega
 rw[hb,Int.toNat_natCast,Nat.shiftRight_eq_div_pow]
 have e:((s:Int)).fdiv (2^k)=((s/2^k:Nat):Int):=by
  rw[Int.fdiv_eq_ediv_of_nonneg _ (by have:(0:Int)<2^k:=Int.pow_pos (by omega);omega)]
  push_cast
  rfl
 rw[e]
theorem Br{a b:Nat}(ha:a<2^62)(hb:b<2^62):Uq .or .i64 (a:Int) (b:Int)=((a|||b:Nat):Int):=by
 have hz:a|||b<2^62:=Nat.or_lt_two_pow ha hb
 have e:(BitVec.ofInt 64 (a:Int)|||BitVec.ofInt 64 (b:Int)).toNat=a|||b:=by
  simp only[BitVec.toNat_or,BitVec.ofInt_natCast,BitVec.toNat_ofNat]
  rw[Nat.mod_eq_of_lt (by omega),Nat.mod_eq_of_lt (by omega)]
 unfold Uq
 show IntKind.wrap .i64 ((BitVec.ofInt 64 (a:Int)|||BitVec.ofInt 64 (b:Int)).toNat:Int)=_
 rw[e]
 exact Ku (by omega)
theorem Jcb{s k:Nat}:decide ((((s>>>k:Nat):Int)).tmod 2=1)=s.testBit k:=by
 rw[Nat.testBit_eq_decide_div_mod_eq,Nat.shiftRight_eq_div_pow]
 generalize s/2^k=m
 rw[VW (by omega),decide_eq_decide]
 omega
theorem F9(xs:List Int)(c:Int)(cs:List Int)(seen:Nat):Vp xs (c::cs) seen=if(decide (0<JA xs c)&&seen.testBit (JA xs c).toNat)=true then true else Vp xs cs (seen|||2^(JA xs c).toNat):=rfl
theorem FZ{n:Nat}(hn:n=2∨n=3∨n=4)(xs:List Int)(hl:xs.length=n*n)(hv:∀k:Nat,k<xs.length→0≤JA xs k∧JA xs k≤4):JW Tryz.prog 152 [QO xs,int n] (bool (UL xs n)):=by
 have hn4:2≤n∧n≤4:=by omega
 refine Jn.cw (c:=_) Tryz.func152 rfl (n:=45) Tryz.ntmps152 (rs:=[.tmp 4]) rfl ?_
 simp only[Je,Jf,zA,zS,Jd,Jb,Jc]
 simp(maxSteps:=999999)(disch:=omega)only[go_sem,zA,zM,zS,zE,zL]
 refine JY (fun i:Nat=>2*n -i) (fun i=>i≤2*n∧∀j,j<i→Vp xs (Zo n j) 0=false) (fun i=>[.k, .k, .a, .a, .a, .p (int i), .a, .a, .a, .a, .a, .a, .a, .a, .a, .a, .a, .a, .a, .a, .a, .a, .a, .a, .a, .a, .a, .a, .a, .a, .a, .a, .a, .a, .a, .a, .a, .a, .a, .a, .a, .a, .a, .a, .a]) (fun _=>[]) 0 ⟨Nat.zero_le _,fun j hj=>absurd hj (Nat.not_lt_zero _)⟩ (by simp(maxSteps:=999999)(disch:=omega)only[go_sem,zA,zM,zS,zE,zL];rfl) (Qu _) ?_
 rintro i ⟨hi,hno⟩
 simp(maxSteps:=999999)(disch:=omega)only[go_sem,zA,zM,zS,zE,zL]
 ((first|(with_reducible first|refine Jl ?_ ?_|refine Jj ?_ ?_|refine Jp ?_ ?_)|refine Jr ?_ ?_)<;>intro h1)
 · have h1:i<2*n:=by omega
   simp(maxSteps:=999999)(disch:=omega)only[go_sem,zA,zM,zS,zE,zL]
   first|refine JZ.mk (Vf hn h1) (⟨_,Tryz.func154,rfl,rfl⟩:Ji Tryz.prog 154) rfl rfl rfl rfl rfl ?_|refine JK.mk (Vf hn h1) (⟨_,Tryz.func154,rfl,rfl⟩:Ji Tryz.prog 154) rfl rfl rfl rfl rfl ?_
   simp(maxSteps:=999999)(disch:=omega)only[go_sem,zA,zM,zS,zE,zL]
   have hlen:=Ul n i
   refine Qp (fun(k seen:Nat)=>n -k) (fun k seen=>k≤n∧Vp xs (Zo n i) 0=Vp xs ((Zo n i).drop k) seen∧seen<32) (fun k seen=>[.k, .k, .a, .a, .a, .k, .k, .p (int seen), .p (int k), .a, .a, .a, .a, .a, .a, .a, .a, .a, .a, .a, .a, .a, .a, .a, .a, .a, .a, .a, .a, .a, .a, .a, .a, .a, .a, .a, .a, .a, .a, .a, .a, .a, .a, .a, .a]) (fun _ _=>[]) 0 0 ⟨Nat.zero_le _,rfl,by omega⟩ (by simp(maxSteps:=999999)(disch:=omega)only[go_sem,zA,zM,zS,zE,zL];rfl) (Qu _) ?_
   rintro k seen ⟨hk,hc,hs⟩
   simp(maxSteps:=999999)(disch:=omega)only[go_sem,zA,zM,zS,zE,zL]
   ((first|(with_reducible first|refine Jl ?_ ?_|refine Jj ?_ ?_|refine Jp ?_ ?_)|refine Jr ?_ ?_)<;>intro h2)
   · have h2:k<n:=by omega
     obtain⟨hb0,hb1⟩:=Kw hn h1 h2
     obtain⟨c,hcc⟩:∃c:Nat,JA (Zo n i) k=c:=⟨(JA (Zo n i) k).toNat,by omega⟩
     have hcl:c<xs.length:=by omega
     have hvc:=hv c hcl
     have hd:(Zo n i).drop k=(c:Int)::(Zo n i).drop (k+1):=by
      rw[List.drop_eq_getElem_cons (by omega),←hcc,Qt (by omega)]
      simp
     rw[hd,F9]at hc
     have hor:seen|||2^(JA xs c).toNat<32:=by
      refine Nat.or_lt_two_pow (n:=5) (by omega) ?_
      have:(JA xs c).toNat=0∨(JA xs c).toNat=1∨(JA xs c).toNat=2∨(JA xs c).toNat=3∨(JA xs c).toNat=4:=by omega
      rcases this with h|h|h|h|h<;>rw[h]<;>omega
     have hpw:2^(JA xs c).toNat<2^62:=Nat.pow_lt_pow_right (by omega) (by omega)
     simp(maxSteps:=999999)(disch:=omega)only[go_sem,zA,zM,zS,zE,zL,hcc]
     ((with_reducible first|refine JJ ?_ ?_|refine JF ?_ ?_|refine JU ?_ ?_|refine Jw ?_ ?_|refine JH ?_ ?_|refine JI ?_ ?_|refine JD ?_ ?_|refine JE ?_ ?_|refine JS ?_ ?_|refine JT ?_ ?_|refine Jy ?_ ?_|refine Jz ?_ ?_)<;>intro h3<;>simp(maxSteps:=999999)(disch:=omega)only[go_sem,zA,zM,zS,zE,zL,h3])
     · simp(maxSteps:=999999)(disch:=omega)only[go_sem,zA,zM,zS,zE,zL,Ya hvc,Jcb]
       ((first|(with_reducible first|refine Jl ?_ ?_|refine Jj ?_ ?_|refine Jp ?_ ?_)|refine Jr ?_ ?_)<;>intro h4)
       · simp(maxSteps:=999999)(disch:=omega)only[go_sem,zA,zM,zS,zE,zL]
         have hcl:Vp xs (Zo n i) 0=true:=by rw[hc,if_pos (by simp[h3,h4])]
         unfold UL
         rw[eq_comm,List.any_eq_true]
         exact⟨i,List.mem_range.2 h1,hcl⟩
       · simp(maxSteps:=999999)(disch:=omega)only[go_sem,zA,zM,zS,zE,zL,UP hvc,Br (show seen<2^62 by omega) hpw]
         exact⟨k+1,_,⟨⟨by omega,by rw[hc,if_neg (by simp[h4])],hor⟩,by omega⟩,⟨rfl,by push_cast;omega⟩,Qu _⟩
     · simp(maxSteps:=999999)(disch:=omega)only[go_sem,zA,zM,zS,zE,zL,UP hvc,Br (show seen<2^62 by omega) hpw]
       exact⟨k+1,_,⟨⟨by omega,by rw[hc,if_neg (by simp;omega)],hor⟩,by omega⟩,⟨rfl,by push_cast;omega⟩,Qu _⟩
   · have hkn:k=n:=by omega
     have hc':Vp xs (Zo n i) 0=false:=by rw[hc,hkn,List.drop_of_length_le (by omega)];rfl
     simp(maxSteps:=999999)(disch:=omega)only[go_sem,zA,zM,zS,zE,zL]
     refine⟨i+1,⟨⟨by omega,fun j hj=> ?_⟩,by omega⟩,by push_cast;omega,Qu _⟩
     by_cases hji:j=i
     · rw[hji];exact hc'
     · exact hno j (by omega)
 · simp(maxSteps:=999999)(disch:=omega)only[go_sem,zA,zM,zS,zE,zL]
   unfold UL
   rw[eq_comm,List.any_eq_false]
   intro j hj
   rw[hno j (by have:=List.mem_range.1 hj;omega)]
   simp
end Go.Lg

namespace Go.Lg
open Go.Proofs
attribute [-go_sem] J9 Kx
theorem Qb{P:Program}{t e:TypeId}{ti ei:TI}(ht:JV P t=some ti)(hk:ti.k= .slice e)(he:JV P e=some ei):QW P t=some ei:=by
 unfold QW;simp only[ht,hk,he]
theorem YQ{P:Program}{HI:Jm}{t:TypeId}{ei:TI}{K:KV}(ht:QW P t=some ei)(hz:ei.zero.length=ei.size∧ei.size=1∧ei.bytes=8){xs ys:List Int}(hx:0<xs.length∧xs.length≤2^40){id g g0:Nat}{lim:Option Nat}
 (hl:look HI id g=some ⟨g,1,cl (eI .i64) (xs++ys)⟩) (hk:∀g',K (.c (.own HI.length g' 0 xs.length none)) (HI++[some ⟨g',1,cl (eI .i64) xs⟩])):
 J9 P (HI++[some ⟨g0,1,[]⟩]) t (.c (.own HI.length g0 0 0 none)) (.c (.own id g 0 xs.length lim)) K:=by
 obtain⟨hz1,hz2,hz3⟩:=hz
 have hid:id<HI.length:=(Jh.1 (JG hl).1).1
 have hl':look (HI++[some ⟨g0,1,[]⟩]) id g=some ⟨g,1,cl (eI .i64) (xs++ys)⟩:=by rw[XK hid];exact hl
 have et:((cl (eI .i64) (xs++ys)).drop 0).take (xs.length*1)=cl (eI .i64) xs:=by
  rw[JR,Q6,List.take_append_of_le_length (by rw[Qa];exact Nat.le_refl _),Js (by rw[Qa];exact Nat.le_refl _)]
 unfold J9
 simp only[ht,hz1,hz2,if_true,elems,JC,hl',et,WJ]
 rw[if_neg (by omega)]
 simp only[Jf,Nat.zero_mul,if_true,Y4,Nat.zero_add,Jc,QM]
 exact⟨⟨trivial,by omega,trivial,by omega,by rw[hz3];omega⟩,hk⟩
theorem Qy.inv'{H:Jm}{c:CV}{xs:List Int}{S:List Nat}(h:Qy H c xs S)(hn:0<xs.length):∃id g lim ys,c= .own id g 0 xs.length lim∧S=[id]∧look H id g=some ⟨g,1,cl (eI .i64) (xs++ys)⟩:=by
 cases h with
 |e=>simp at hn
 |o id g lim xs ys h=>exact⟨id,g,lim,ys,rfl,rfl,h⟩
theorem Qy.nzc'{H:Jm}{c:CV}{xs:List Int}{S:List Nat}(h:Qy H c xs S):nzC c=c:=by cases h<;>rfl
theorem Jmi{P:Program}{H:Jm}{t e:TypeId}{ti:TI}{c:CV}{xs:List Int}{S:List Nat}(h:Qy H c xs S)(ht:JV P t=some ti)(hk:ti.k= .slice e):Kx P H t (.c c)=some (.c (.f (.int .i64 xs.length))):=by
 cases h with
 |e=>simp only[Kx,ht,hk];rfl
 |o id g lim xs ys h=>simp only[Kx,ht,hk,h,Option.isSome_some,if_true]
theorem RG(n:Nat)(f:List Int→Nat→List Int×Nat)(xs:List Int)(i v:Nat)(vs:List Nat)(l:Nat):Wh n f xs i (v::vs) l=if UL (xs.set i v) n=true then Wh n f xs i vs l else if(f (xs.set i v) l).1≠[]then f (xs.set i v) l else Wh n f xs i vs (f (xs.set i v) l).2:=rfl
theorem KX{n v:Nat}(h:1≤v∧v≤n):((List.range n).map (· +1)).drop (v -1)=v::((List.range n).map (· +1)).drop v:=by
 rw[List.drop_eq_getElem_cons (by simp;omega)]
 simp only[List.getElem_map,List.getElem_range]
 rw[show v -1+1=v by omega]
theorem Jfj(n:Nat):∀(m:Nat) (xs:List Int) (l:Nat),(VL n m xs l).2≤l
 |0,xs,l=>by unfold VL;split<;>simp
 |m+1,xs,l=>by
  unfold VL
  have:∀vs l,(Wh n (VL n m) xs (xs.length -(m+1)) vs l).2≤l:=by
   intro vs
   induction vs with
   |nil=>intro l;simp[Wh]
   |cons v vs ih=>
    intro l
    have h1:=Jfj n m (xs.set (xs.length -(m+1)) v) l
    unfold Wh
    split
    · exact ih l
    · split
      · exact h1
      · exact Nat.le_trans (ih _) h1
  exact this _ l
def srchQ(n m:Nat)(xs:List Int)(l:Nat)(H:Jm)(lid lg:Nat):KV:=fun v H'=>∃c S,v= .c c∧Qy H' c (VL n m xs l).1 S∧look H' lid lg=some ⟨lg,1,[.f (.int .i64 ((VL n m xs l).2:Int))]⟩∧lid∉S∧H.length≤H'.length∧∀k,k<H.length→k≠lid→H'[k]? =H[k]?
theorem BB{n:Nat}(hn:n=2∨n=3∨n=4):∀(m:Nat) (H:Jm) (cg:CV) (xs:List Int) (S:List Nat) (lid lg l:Nat),m≤n*n→Qy H cg xs S→xs.length=n*n→(∀k:Nat,k<xs.length→0≤JA xs k∧JA xs k≤4)→
 look H lid lg=some ⟨lg,1,[.f (.int .i64 (l:Int))]⟩→lid∉S→l<2^40→Jn Tryz.prog 159 [.c cg,int n,int ((n*n -m:Nat):Int), .c (.ptr lid lg 0)] H (srchQ n m xs l H lid lg)
 |0,H,cg,xs,S,lid,lg,l,hm,hg,hxl,hxv,hl,hS,hl40=>by
  have hsq:4≤n*n∧n*n≤16:=by rcases hn with rfl|rfl|rfl<;>omega
  obtain⟨id,g,lim,ys,rfl,rfl,hlk⟩:=hg.inv' (by omega)
  have hlt:lid<H.length:=(Jh.1 (JG hl).1).1
  have nl:XY H (.c (.ptr lid lg 0))=some (.c (.ptr lid lg 0)):=Vn hl
  refine Jn.nz ?_
  refine Jn.cw (c:=_) Tryz.func159 rfl (n:=52) Tryz.ntmps159 (rs:=[.tmp 8]) rfl ?_
  simp only[Je,Jf,zA,zS,Jd,Jb,Jc]
  simp(maxSteps:=999999)(disch:=omega)only[go_sem,zA,zM,zS,zE,zL,hlk,Kx]
  have hnn:(n*n -0:Nat)=xs.length:=by omega
  ((first|(with_reducible first|refine Jl ?_ ?_|refine Jj ?_ ?_|refine Jp ?_ ?_)|refine Jr ?_ ?_)<;>intro h1)
  · simp(maxSteps:=999999)(disch:=omega)only[go_sem,zA,zM,zS,zE,zL,nl,hl,hlk]
    ((first|(with_reducible first|refine Jl ?_ ?_|refine Jj ?_ ?_|refine Jp ?_ ?_)|refine Jr ?_ ?_)<;>intro h2)
    · simp(maxSteps:=999999)(disch:=omega)only[go_sem,zA,zM,zS,zE,zL]
      have hl0:l=0:=by omega
      subst hl0
      exact⟨H,J0.refl _, .own id g 0 xs.length lim,[id],rfl,hg,by rw[hl];rfl,hS,Nat.le_refl _,fun k _ _=>rfl⟩
    · simp(maxSteps:=999999)(disch:=omega)only[go_sem,zA,zM,zS,zE,zL,nl,hl,hlk]
      have e:VL n 0 xs l=([],l -1):=by unfold VL;rw[if_neg (by omega)]
      refine⟨_,J0.refl _, .f (.sl 0 []),[],rfl,by rw[e];exact .e, ?_,by simp,by simp,fun k _ hk=>by rw[Jg (Ne.symm hk)]⟩
      rw[JM hlt,e]
      have:((l -1:Nat):Int)=(l:Int) -1:=by omega
      rw[this]
  · exfalso;omega
 |m+1,H,cg,xs,S,lid,lg,l,hm,hg,hxl,hxv,hl,hS,hl40=>by
  have hsq:4≤n*n∧n*n≤16:=by rcases hn with rfl|rfl|rfl<;>omega
  have hn4:2≤n∧n≤4:=by omega
  obtain⟨id,g,lim,ys,rfl,rfl,hlk⟩:=hg.inv' (by omega)
  have hlt:lid<H.length:=(Jh.1 (JG hl).1).1
  have hidlt:id<H.length:=(Jh.1 (JG hlk).1).1
  have hne:id≠lid:=fun he=>hS (by simp[he])
  obtain⟨i,hi⟩:∃i:Nat,n*n -(m+1)=i:=⟨_,rfl⟩
  have hil:i<xs.length:=by omega
  have hsr:VL n (m+1) xs l=Wh n (VL n m) xs i ((List.range n).map (· +1)) l:=by
   unfold VL
   rw[show xs.length -(m+1)=i by omega]
  rw[hi]
  refine Jn.nz ?_
  refine Jn.cw (c:=_) Tryz.func159 rfl (n:=52) Tryz.ntmps159 (rs:=[.tmp 8]) rfl ?_
  simp only[Je,Jf,zA,zS,Jd,Jb,Jc]
  simp(maxSteps:=999999)(disch:=omega)only[go_sem,zA,zM,zS,zE,zL,hlk,Kx]
  ((first|(with_reducible first|refine Jl ?_ ?_|refine Jj ?_ ?_|refine Jp ?_ ?_)|refine Jr ?_ ?_)<;>intro h1)
  · exfalso;omega
  simp(maxSteps:=999999)(disch:=omega)only[go_sem,zA,zM,zS,zE,zL]
  refine Xq (fun(v:Nat) (HI:Jm) (l':Nat)=>n+1 -v) (fun v HI l'=>1≤v∧v≤n+1∧VL n (m+1) xs l=Wh n (VL n m) xs i (((List.range n).map (· +1)).drop (v -1)) l'∧look HI lid lg=some ⟨lg,1,[.f (.int .i64 (l':Int))]⟩∧H.length≤HI.length∧(∀k,k<H.length→k≠lid→HI[k]? =H[k]?)∧l'≤l)
   (fun v HI l'=>[.k, .k, .k, .k, .a, .a, .a, .a, .a, .p (int v), .a, .a, .a, .a, .a, .a, .a, .a, .a, .a, .a, .a, .a, .a, .a, .a, .a, .a, .a, .a, .a, .a, .a, .a, .a, .a, .a, .a, .a, .a, .a, .a, .a, .a, .a, .a, .a, .a, .a, .a, .a, .a]) (fun _ HI _=>HI) 1 H l ⟨by omega,by omega,hsr,hl,Nat.le_refl _,fun _ _ _=>rfl,Nat.le_refl _⟩ (by simp(maxSteps:=999999)(disch:=omega)only[go_sem,zA,zM,zS,zE,zL];rfl) (J0.refl _) ?_
  rintro v HI l' ⟨hv1,hv2,hs',hl',hlen',hfr,hll⟩
  have hlk':look HI id g=some ⟨g,1,cl (eI .i64) (xs++ys)⟩:=by unfold look;rw[hfr id hidlt hne];exact hlk
  simp(maxSteps:=999999)(disch:=omega)only[go_sem,zA,zM,zS,zE,zL]
  ((first|(with_reducible first|refine Jl ?_ ?_|refine Jj ?_ ?_|refine Jp ?_ ?_)|refine Jr ?_ ?_)<;>intro h2)
  · have hvn:v≤n:=by omega
    simp(maxSteps:=999999)(disch:=omega)only[go_sem,zA,zM,zS,zE,zL]
    intro g0
    refine YQ (Qb UE rfl Kh) ⟨rfl,rfl,rfl⟩ (by omega) hlk' ?_
    intro g1
    simp(maxSteps:=999999)(disch:=omega)only[go_sem,zA,zM,zS,zE,zL,JC,QM]
    rw[Int.toNat_natCast]
    have hown:Qy (HI++[some ⟨g1,1,cl (eI .i64) (xs.set i v)⟩]) (.own HI.length g1 0 xs.length none) (xs.set i v) [HI.length]:=by
     have:=Qy.o (H:=HI++[some ⟨g1,1,cl (eI .i64) (xs.set i v)⟩]) HI.length g1 none (xs.set i v) [] (by rw[Ju];exact JC)
     rwa [Jo]at this
    have hsv:∀k:Nat,k<(xs.set i (v:Int)).length→0≤JA (xs.set i (v:Int)) k∧JA (xs.set i (v:Int)) k≤4:=fun k hk=>by
     rw[Jo]at hk
     rw[Za _ _ _ _ hil]
     split
     · omega
     · exact hxv k hk
    refine JZ.rdD (FZ hn (xs.set i v) (by rw[Jo];exact hxl) hsv) (⟨_,Tryz.func152,rfl,rfl⟩:Ji Tryz.prog 152) rfl rfl (UO hown.snap VO) rfl ?_
    simp(maxSteps:=999999)(disch:=omega)only[go_sem,zA,zM,zS,zE,zL]
    ((first|(with_reducible first|refine Jl ?_ ?_|refine Jj ?_ ?_|refine Jp ?_ ?_)|refine Jr ?_ ?_)<;>intro h3)
    · simp(maxSteps:=999999)(disch:=omega)only[go_sem,zA,zM,zS,zE,zL]
      refine⟨v+1,HI,l',⟨⟨by omega,by omega, ?_,hl',hlen',hfr,hll⟩,by omega⟩,by push_cast;omega,J0.app _ _⟩
      rw[hs',KX ⟨hv1,hvn⟩,RG,if_pos h3,show v+1 -1=v by omega]
    · simp(maxSteps:=999999)(disch:=omega)only[go_sem,zA,zM,zS,zE,zL]
      have hlt':lid<HI.length:=by omega
      have hr:=BB hn m (HI++[some ⟨g1,1,cl (eI .i64) (xs.set i v)⟩]) _ _ _ lid lg l' (by omega) hown (by rw[Jo];exact hxl) hsv (by rw[XK hlt'];exact hl') (by simp;omega) (by omega)
      rw[show((n*n -m:Nat):Int)=(i:Int)+1 by omega]at hr
      refine JZ.run hr (⟨_,Tryz.func159,rfl,rfl⟩:Ji Tryz.prog 159) rfl rfl ?_
      rintro _ H2 ⟨c2,S2,rfl,o2,k2,n2,len2,f2⟩
      rw[Jk,JL]at len2 f2
      have hle2:=Jfj n m (xs.set i v) l'
      have hlen2:Kx Tryz.prog H2 23 (.c c2)=some (.c (.f (.int .i64 ((VL n m (xs.set i v) l').1.length:Int)))):=Jmi o2 UE rfl
      have hf2:∀k,k<H.length→k≠lid→H2[k]? =H[k]? :=fun k hk hne2=>by rw[f2 k (by omega) hne2,Ja (by omega),hfr k hk hne2]
      simp(maxSteps:=999999)(disch:=omega)only[go_sem,zA,zM,zS,zE,zL,hlen2]
      ((first|(with_reducible first|refine Jl ?_ ?_|refine Jj ?_ ?_|refine Jp ?_ ?_)|refine Jr ?_ ?_)<;>intro h4)
      · simp(maxSteps:=999999)(disch:=omega)only[go_sem,zA,zM,zS,zE,zL]
        have hne2:(VL n m (xs.set i v) l').1≠[]:=fun h0=>by rw[h0]at h4;simp at h4
        have e:VL n (m+1) xs l=VL n m (xs.set i v) l':=by rw[hs',KX ⟨hv1,hvn⟩,RG,if_neg (by rw[h3];simp),if_pos hne2]
        refine⟨H2,J0.refl _,c2,S2, ?_,by rw[e];exact o2,by rw[e];exact k2,n2,by omega,hf2⟩
        show AV.c (nzC c2)=_
        rw[o2.nzc']
      · simp(maxSteps:=999999)(disch:=omega)only[go_sem,zA,zM,zS,zE,zL]
        have he2:(VL n m (xs.set i v) l').1=[]:=by
         have:¬0<(VL n m (xs.set i v) l').1.length:=by omega
         exact List.eq_nil_of_length_eq_zero (by omega)
        refine⟨v+1,H2,(VL n m (xs.set i v) l').2,⟨⟨by omega,by omega, ?_,k2,by omega,hf2,by omega⟩,by omega⟩,by push_cast;omega,J0.refl _⟩
        rw[hs',KX ⟨hv1,hvn⟩,RG,if_neg (by rw[h3];simp),if_neg (by rw[he2];simp),show v+1 -1=v by omega]
  · have hv:v=n+1:=by omega
    simp(maxSteps:=999999)(disch:=omega)only[go_sem,zA,zM,zS,zE,zL]
    have e:VL n (m+1) xs l=([],l'):=by
     rw[hs',hv,show n+1 -1=n by omega,List.drop_of_length_le (by simp)]
     rfl
    exact⟨HI,J0.refl _, .f (.sl 0 []),[],rfl,by rw[e];exact .e,by rw[e];exact hl',by simp,hlen',hfr⟩
end Go.Lg

namespace Go.Lg
open Go.Proofs
section
variable{P:Program}{o:Oper}{st:St}{K:KV}{fo:Operand}{xs:Array Operand}{ts:Array TypeId}{f:FuncId}{args args':List AV}{zs:List Int}
theorem JZ.mkF{Q:AV→Prop}(hc:Jn P f args [] fun v _=>Q v)(he:Ji P f)(ho:o.op= .call ⟨.value fo,xs,ts⟩)(ha:Qc st fo xs=some (f,args))(hf:args.all Q2=true)
 (hk:∀v,Q v→Kl v=true∧WO st.h.length v=v∧K v st.h):JZ P o st K:=by
 obtain⟨h1,h2⟩:=W7 ha
 refine JZ.call ho h1 he ?_
 rw[h2]
 refine(Jn.frame hf hc fun r H' h=>(hk r h).1).weaker ?_
 rintro r H2 ⟨r',H',h3,rfl,rfl⟩
 exact⟨st.h,J0.app _ _,by rw[(hk _ h3).2.1];exact(hk _ h3).2.2⟩
end
def Yu(H HI:Jm)(id g:Nat)(B:Int)(cid cg n2:Nat):Prop:=(∃zs:List Int,look HI cid cg=some ⟨cg,1,cl (eI .i64) zs⟩∧n2≤zs.length)∧Zm HI id g B∧id<H.length∧H.length≤cid∧H.length≤HI.length∧∀k,k<H.length→k≠id→HI[k]? =H[k]?
theorem Yu.mono{H HI:Jm}{id g cid cg n2:Nat}{B B':Int}(h:Yu H HI id g B cid cg n2)(hb:B≤B'):Yu H HI id g B' cid cg n2:=by
 obtain⟨h1,h2,h3⟩:=h
 exact⟨h1,h2.mono hb,h3⟩
theorem Yu.pick{H HI H2:Jm}{id g cid cg n2:Nat}{B B':Int}(h:Yu H HI id g B cid cg n2)(hr:Zm H2 id g B')(hf:Vi HI H2 [id]):Yu H H2 id g B' cid cg n2:=by
 obtain⟨⟨zs,h1,h2⟩,_,h3,h4,h5,h6⟩:=h
 refine⟨⟨zs,by rw[hf.look (by simp;omega)];exact h1,h2⟩,hr,h3,h4,by rw[hf.1];exact h5,fun k hk hne=> ?_⟩
 rw[hf.2 k (by simp;exact hne),h6 k hk hne]
theorem Yu.store{H HI:Jm}{id g cid cg n2:Nat}{B:Int}(h:Yu H HI id g B cid cg n2){zs:List Int}(hz:n2≤zs.length):Yu H (HI.set cid (some ⟨cg,1,cl (eI .i64) zs⟩)) id g B cid cg n2:=by
 obtain⟨⟨_,h1,_⟩,h2,h3,h4,h5,h6⟩:=h
 have hlt:cid<HI.length:=(Jh.1 (JG h1).1).1
 refine⟨⟨zs,JM hlt,hz⟩,h2.same (by rw[Jg (by omega)]),h3,h4,by simpa using h5,fun k hk hne=> ?_⟩
 rw[Jg (by omega),h6 k hk hne]
theorem Yu.app{H HI X:Jm}{id g cid cg n2:Nat}{B:Int}(h:Yu H HI id g B cid cg n2):Yu H (HI++X) id g B cid cg n2:=by
 obtain⟨⟨zs,h1,h2⟩,h3,h4,h5,h6,h7⟩:=h
 refine⟨⟨zs,JO h1,h2⟩,h3.app,h4,h5,by rw[Jk];omega,fun k hk hne=> ?_⟩
 rw[Ja (by omega),h7 k hk hne]
theorem Jdx{H:Jm}{id g off n:Nat}{lim:Option Nat}{zs:List Int}(h:look H id g=some ⟨g,1,cl (eI .i64) zs⟩)(hn:off+n≤zs.length):frzC H (.own id g off n lim)=some (.f (J5 ((zs.drop off).take n))):=by
 have e:((cl (eI .i64) zs).drop off).take (n*1)=cl (eI .i64) ((zs.drop off).take n):=by
  have e1:(cl (eI .i64) zs).drop off=cl (eI .i64) (zs.drop off):=by
   have:=Q8 off zs
   conv=>lhs;rw[←this,Q6]
   rw[List.drop_append_of_le_length (by rw[Qa];simp;omega),List.drop_of_length_le (by rw[Qa];simp;omega),Jc]
  rw[e1,Nat.mul_one]
  have:=Q8 n (zs.drop off)
  conv=>lhs;rw[←this,Q6]
  rw[List.take_append_of_le_length (by rw[Qa];simp;omega),Js (by rw[Qa];simp;omega)]
 have hl:((zs.drop off).take n).length=n:=by simp;omega
 simp only[frzC,frz,h,e,Fu,Option.map_some]
 rw[show J5 ((zs.drop off).take n)= .sl ((zs.drop off).take n).length (fl (eI .i64) ((zs.drop off).take n))from rfl,hl]
end Go.Lg

namespace Go.Lg
open Go.Proofs
attribute [-go_sem] J9
inductive Zq{α:Type}(E:α→List FV)(n:Nat)(H:Jm):CV→List α→Prop where
 |n:Zq E n H (.f .nil) []
 |m:Zq E n H .emp []
 |o (id g:Nat) (xs:List α) (h:look H id g=some ⟨g,n,cl E xs⟩):Zq E n H (.own id g 0 xs.length none) xs
def QJ:CV→Nat→Prop
 | .own id _ _ _ _,k=>k=id
 |_,_=>False
section
variable{α:Type}{E:α→List FV}{n:Nat}{H H':Jm}{c:CV}{xs ys:List α}
theorem Zq.same(h:Zq E n H c xs)(hs:∀i,QJ c i→i<H.length→H'[i]? =H[i]?):Zq E n H' c xs:=by
 cases h with
 |n=>exact .n
 |m=>exact .m
 |o id g xs h=>exact .o id g xs (by unfold look at*;rw[hs id rfl (Jh.1 (JG h).1).1];exact h)
theorem Zq.lt(h:Zq E n H c xs):∀i,QJ c i→i<H.length:=by
 cases h with
 |n=>exact fun i hi=>hi.elim
 |m=>exact fun i hi=>hi.elim
 |o id g xs h=>intro i hi;cases hi;exact(Jh.1 (JG h).1).1
theorem Zq.app(h:Zq E n H c xs):Zq E n (H++H') c xs:=h.same fun i _ hl=>Ja hl
theorem Zq.snap[HSz E n](h:Zq E n H c xs):Zx H (.c c)=some (Bl E xs):=by
 cases h with
 |n=>rfl
 |m=>rfl
 |o id g xs h=>
  have e:(cl E xs).take (xs.length*n)=cl E xs:=Js (Nat.le_of_eq (Qa xs))
  simp only[Zx,Lg.frzC,Lg.frz,h,JR,e,Fu,Option.map_some]
theorem Zq.frzC[HSz E n](h:Zq E n H c xs):frzC H c=some (.f (Uu E xs)):=by
 have:=h.snap
 simp only[Zx,Option.map_eq_some_iff]at this
 obtain⟨y,h1,h2⟩:=this
 cases h2
 exact h1
theorem Zq.len(P:Program)(h:Zq E n H c xs){s:List AV}{t:TypeId}{ei:TI}(ht:QW P t=some ei)(hs:ei.size=n):True:=trivial
end
theorem Bs{k:IntKind}(xs:List Int):(fl (eI k) xs).map Fh=fl (eI k) xs:=by
 induction xs with
 |nil=>rfl
 |cons x xs ih=>
  show Fh _::(fl (eI k) xs).map Fh=_
  rw[ih];rfl
theorem JgB(rs:List Z0):(fl eR rs).map Fh=fl eR rs:=by
 induction rs with
 |nil=>rfl
 |cons x xs ih=>
  show[Fh _,Fh _,Fh _]++(fl eR xs).map Fh=_
  rw[ih,J5,Nd,Bs];rfl
theorem Xu{S:Nat→Bool}{H:Jm}{n:Nat}:∀(l:List FV),(l.map CV.f).mapM (frzS S H n)=some (l.map Fh)
 |[]=>rfl
 |x::l=>by
  rw[Qr,J4,Xu l]
  cases n<;>rfl
theorem Zq.frzS{S:Nat→Bool}{H:Jm}{c:CV}{rs:List Z0}(h:Zq eR 3 H c rs)(hs:∀i,QJ c i→S i=true)(m:Nat):frzS S H (m+1) c=some (Uu eR rs):=by
 cases h with
 |n=>rfl
 |m=>rfl
 |o id g xs h=>
  have e:(cl eR rs).take (rs.length*3)=cl eR rs:=Js (Nat.le_of_eq (Qa rs))
  simp only[Lg.frzS,hs id rfl,if_true,h,JR,e]
  rw[show cl eR rs=(fl eR rs).map CV.f from rfl,Xu,JgB]
  rfl
theorem Rb{S:Nat→Bool}{H:Jm}{id g off n:Nat}{lim:Option Nat}{zs:List Int}(h:look H id g=some ⟨g,1,cl (eI .i64) zs⟩)(hs:S id=true)(hn:off+n≤zs.length)(m:Nat):Lg.frzS S H (m+1) (.own id g off n lim)=some (J5 ((zs.drop off).take n)):=by
 have hv:=Jdx (lim:=lim) h hn
 have hl:((zs.drop off).take n).length=n:=by simp;omega
 simp only[frzC,frz,h,Option.map_map,Option.map_eq_some_iff]at hv
 obtain⟨l,h1,h2⟩:=hv
 simp only[Lg.frzS,hs,if_true,h]
 have e:((cl (eI .i64) zs).drop off).take (n*1)=cl (eI .i64) ((zs.drop off).take n):=by
  have e1:(cl (eI .i64) zs).drop off=cl (eI .i64) (zs.drop off):=by
   have:=Q8 off zs
   conv=>lhs;rw[←this,Q6]
   rw[List.drop_append_of_le_length (by rw[Qa];simp;omega),List.drop_of_length_le (by rw[Qa];simp;omega),Jc]
  rw[e1,Nat.mul_one]
  have:=Q8 n (zs.drop off)
  conv=>lhs;rw[←this,Q6]
  rw[List.take_append_of_le_length (by rw[Qa];simp;omega),Js (by rw[Qa];simp;omega)]
 rw[e,show cl (eI .i64) ((zs.drop off).take n)=(fl (eI .i64) ((zs.drop off).take n)).map CV.f from rfl,Xu,Bs,Option.map_some]
 rw[show J5 ((zs.drop off).take n)= .sl ((zs.drop off).take n).length (fl (eI .i64) ((zs.drop off).take n))from rfl,hl]
theorem Xh{α:Type}{E:α→List FV}{n:Nat}[HSz E n]{P:Program}{H:Jm}{t:TypeId}{ei:TI}{K:KV}(ht:QW P t=some ei)(hz:ei.zero.length=ei.size∧ei.size=n∧0<n∧ei.bytes≤64){c:CV}{xs:List α}(h:Zq E n H c xs)(hx:xs.length≤2^40)
 {sid sg:Nat} {lim:Option Nat} {v:α} (hl:look H sid sg=some ⟨sg,n,(E v).map CV.f⟩)
 (hk:∀c' H',Zq E n H' c' (xs++[v])→(∀k,k<H.length→¬QJ c k→H'[k]? =H[k]?)→(∀k,QJ c' k→QJ c k∨k=H.length)→H.length≤H'.length→(∀k,QJ c' k→k<H'.length)→K (.c c') H'):
 J9 P H t (.c c) (.c (.own sid sg 0 1 lim)) K:=by
 obtain⟨hz1,rfl,hz3,hz4⟩:=hz
 have hE:((E v).map CV.f).length=ei.size:=by rw[Qs];exact HSz.sz v
 have htk:(((E v).map CV.f).drop 0).take (1*ei.size)=(E v).map CV.f:=by rw[JR,Nat.one_mul,Js (by omega)]
 have e1:cl E [v]=(E v).map CV.f:=by simp[cl,fl]
 have hb:∀k:Nat,k≤2^40→(k+1)*ei.bytes≤140737488355328:=fun k hk=>by
  have:(k+1)*ei.bytes≤(k+1)*64:=Nat.mul_le_mul_left _ hz4
  omega
 have hel:elems H ei.size (.c (.own sid sg 0 1 lim))=some (1,(E v).map CV.f):=by
  simp only[elems,hl,htk,if_true]
 unfold J9
 cases h with
 |n=>
  simp only[ht,hz1,if_true,hel]
  simp only[elems,WJ,Y4,Rh]
  refine⟨⟨by omega,by have:=hb 0 (by omega);omega⟩,fun g'=> ?_⟩
  have:=Zq.o (E:=E) (n:=ei.size) (H:=H++[some ⟨g',ei.size,(E v).map CV.f⟩]) H.length g' [v] (by rw[e1];exact JC)
  exact hk _ _ this (fun k hk _=>Ja hk) (fun k hk=> .inr hk) (by simp) (fun k hk=>by cases hk;simp)
 |m=>
  simp only[ht,hz1,if_true,hel]
  simp only[elems,WJ,Y4,Rh]
  refine⟨⟨by omega,by have:=hb 0 (by omega);omega⟩,fun g'=> ?_⟩
  have:=Zq.o (E:=E) (n:=ei.size) (H:=H++[some ⟨g',ei.size,(E v).map CV.f⟩]) H.length g' [v] (by rw[e1];exact JC)
  exact hk _ _ this (fun k hk _=>Ja hk) (fun k hk=> .inr hk) (by simp) (fun k hk=>by cases hk;simp)
 |o id g xs hl2=>
  have hlt:id<H.length:=(Jh.1 (JG hl2).1).1
  have hcl:(cl E xs).length=xs.length*ei.size:=Qa xs
  have hel2:elems H ei.size (.c (.own id g 0 xs.length none))=some (xs.length,cl E xs):=by
   simp only[elems,hl2,JR,if_true,Js (Nat.le_of_eq hcl)]
  simp only[ht,hz1,if_true,hel,hel2]
  simp only[WJ,hl2,hcl,if_true,Y4]
  refine⟨⟨by first|trivial|omega,hz3,trivial,by omega,hb _ hx⟩,fun g'=> ?_⟩
  have:=Zq.o (E:=E) (n:=ei.size) (H:=H.set id (some ⟨g',ei.size,cl E xs++(E v).map CV.f⟩)) id g' (xs++[v]) (by rw[Q6,e1];exact JM hlt)
  rw[Jk]at this
  exact hk _ _ this (fun k _ hk=>by rw[Jg (fun h=>hk h.symm)]) (fun k hk=> .inl hk) (by simp) (fun k hk=>by cases hk;simpa using hlt)
theorem Ws{α:Type}{E:α→List FV}{n:Nat}[HSz E n]{P:Program}{H:Jm}{t:TypeId}{ei:TI}{K:KV}(ht:QW P t=some ei)(hz:ei.zero.length=ei.size∧ei.size=n∧0<n∧ei.bytes≤64){c:CV}{xs ys:List α}(h:Zq E n H c xs)(hx:xs.length≤2^40∧ys.length≤2^40)
 {src:AV} (hel:elems H n src=some (ys.length,cl E ys))
 (hk:∀c' H',Zq E n H' c' (xs++ys)→(∀k,k<H.length→¬QJ c k→H'[k]? =H[k]?)→(∀k,QJ c' k→QJ c k∨k=H.length)→H.length≤H'.length→(∀k,QJ c' k→k<H'.length)→K (.c c') H'):
 J9 P H t (.c c) src K:=by
 obtain⟨hz1,rfl,hz3,hz4⟩:=hz
 have hb:∀k:Nat,k≤2^41→k*ei.bytes≤140737488355328:=fun k hk=>by
  have:k*ei.bytes≤k*64:=Nat.mul_le_mul_left _ hz4
  omega
 unfold J9
 rcases Nat.eq_zero_or_pos ys.length with h0|h0
 · have:ys=[]:=List.eq_nil_of_length_eq_zero h0
   subst this
   rw[Ju]at hk
   have hr:=hk c H h (fun _ _ _=>rfl) (fun k hk=> .inl hk) (Nat.le_refl _) h.lt
   cases h with
   |n=>simp only[ht,hz1,if_true,hel];simp only[elems,WJ];exact hr
   |m=>simp only[ht,hz1,if_true,hel];simp only[elems,WJ];exact hr
   |o id g xs hl2=>
    have hcl:(cl E xs).length=xs.length*ei.size:=Qa xs
    have hel2:elems H ei.size (.c (.own id g 0 xs.length none))=some (xs.length,cl E xs):=by
     simp only[elems,hl2,JR,if_true,Js (Nat.le_of_eq hcl)]
    simp only[ht,hz1,if_true,hel,hel2]
    simp only[WJ]
    exact hr
 cases h with
 |n=>
  simp only[ht,hz1,if_true,hel]
  simp only[elems,WJ,Y4,Rh]
  rw[if_neg (by omega)]
  refine⟨⟨by omega,hb _ (by omega)⟩,fun g'=> ?_⟩
  have:=Zq.o (E:=E) (n:=ei.size) (H:=H++[some ⟨g',ei.size,cl E ys⟩]) H.length g' ys JC
  exact hk _ _ this (fun k hk _=>Ja hk) (fun k hk=> .inr hk) (by simp) (fun k hk=>by cases hk;simp)
 |m=>
  simp only[ht,hz1,if_true,hel]
  simp only[elems,WJ,Y4,Rh]
  rw[if_neg (by omega)]
  refine⟨⟨by omega,hb _ (by omega)⟩,fun g'=> ?_⟩
  have:=Zq.o (E:=E) (n:=ei.size) (H:=H++[some ⟨g',ei.size,cl E ys⟩]) H.length g' ys JC
  exact hk _ _ this (fun k hk _=>Ja hk) (fun k hk=> .inr hk) (by simp) (fun k hk=>by cases hk;simp)
 |o id g xs hl2=>
  have hlt:id<H.length:=(Jh.1 (JG hl2).1).1
  have hcl:(cl E xs).length=xs.length*ei.size:=Qa xs
  have hel2:elems H ei.size (.c (.own id g 0 xs.length none))=some (xs.length,cl E xs):=by
   simp only[elems,hl2,JR,if_true,Js (Nat.le_of_eq hcl)]
  simp only[ht,hz1,if_true,hel,hel2]
  simp only[WJ,hl2,hcl,if_true,Y4]
  rw[if_neg (by omega)]
  refine⟨⟨by first|trivial|omega,hz3,trivial,by omega,hb _ (by omega)⟩,fun g'=> ?_⟩
  have:=Zq.o (E:=E) (n:=ei.size) (H:=H.set id (some ⟨g',ei.size,cl E xs++cl E ys⟩)) id g' (xs++ys) (by rw[Q6];exact JM hlt)
  rw[Jk]at this
  exact hk _ _ this (fun k _ hk=>by rw[Jg (fun h=>hk h.symm)]) (fun k hk=> .inl hk) (by simp) (fun k hk=>by cases hk;simpa using hlt)
theorem XR{α:Type}{E:α→List FV}{n:Nat}[HSz E n]{H:Jm}{ys:List α}:elems H n (.c (.f (Uu E ys)))=some (ys.length,cl E ys):=by
 have:(fl E ys).length=ys.length*n:=UD ys
 simp only[elems]
 first|rfl|simp[this,cl]
theorem Jk4{α:Type}{E:α→List FV}{n:Nat}[HSz E n]{H:Jm}{c:CV}{ys:List α}(h:Zq E n H c ys):elems H n (.c c)=some (ys.length,cl E ys):=by
 cases h with
 |n=>rfl
 |m=>rfl
 |o id g xs hl2=>
  have hcl:(cl E ys).length=ys.length*n:=Qa ys
  simp only[elems,hl2,JR,if_true,Js (Nat.le_of_eq hcl)]
end Go.Lg

namespace Go.Lg
open Go.Proofs
def V2(vs:List Int):Int:=vs.foldl (fun a v=>a*v) 1
def V5(r:Z0)(vs:List Int):Bool:=
 if r.kind=1 then decide vs.Nodup else if r.kind=2 then decide (vs.sum=r.val)else if r.kind=3 then decide (V2 vs=r.val)
 else if r.kind=4 then decide (JA vs 0<JA vs 1)else decide (max (JA vs 0 -JA vs 1) (JA vs 1 -JA vs 0)=r.val)
def orV(o:List Nat)(vs:List Int):List Nat:=o.zipWith (fun x v=>x|||2^v.toNat) vs
def Z3(r:Z0):List Nat→List Int→List Nat→List Nat
 |[],pre,o=>if V5 r pre=true then orV o pre else o
 |m::ms,pre,o=>[1,2,3,4].foldl (fun o (v:Nat)=>if m.testBit v=true then Z3 r ms (pre++[(v:Int)]) o else o) o
def Uw(xs:List Int)(n:Nat)(c:Int):Nat:=if 0<JA xs c then 2^(JA xs c).toNat else 2^(n+1) -2
def Zn(r:Z0)(xs:List Int)(n:Nat):Bool:=(Z3 r (r.cells.map (Uw xs n)) [] (Jd r.cells.length 0)).getD 0 0 !=0
theorem JaB{r:Z0}{xs ys:List Int}{n:Nat}(h:∀c∈r.cells,JA xs c=JA ys c):Zn r xs n=Zn r ys n:=by
 unfold Zn
 rw[List.map_congr_left (f:=Uw xs n) (g:=Uw ys n) fun c hc=>by unfold Uw;rw[h c hc]]
def clear(p:Q4)(xs:List Int):Bool:=decide (∀k:Nat,k<xs.length→¬(0<JA p.given k∧0<JA xs k∧JA xs k≠JA p.given k))
def QT(p:Q4)(xs:List Int)(n:Nat):Bool:=clear p xs&&(p.rules.all (fun r=>Zn r xs n)&& !UL xs n)
def XB(p:Q4)(xs:List Int)(n i:Nat):Bool:=decide (∀j:Nat,j<n*n→j≠i→(j/n=i/n∨j%n=i%n)→JA xs j≠JA xs i)&&p.rules.all (fun r=> !r.cells.contains (i:Int)||Zn r xs n)
theorem Jl5{n:Nat}{xs:List Int}{i v:Nat}(h:NC xs n)(hl:xs.length=n*n)(hi:i<n*n)(hv:1≤v)(h0:JA xs i=0):
 NC (xs.set i v) n↔∀j:Nat,j<n*n→j≠i→(j/n=i/n∨j%n=i%n)→JA (xs.set i (v:Int)) j≠v:=by
 have hset:∀k:Nat,JA (xs.set i (v:Int)) k=if k=i then(v:Int)else JA xs k:=fun k=>Za _ _ _ _ (by rw[hl];exact hi)
 constructor
 · intro hc j hj hne hln
   rcases Nat.lt_or_ge j i with h1|h1
   · have:=hc j i h1 hi hln
     rw[hset i,if_pos rfl]at this
     intro he
     rw[he]at this
     exact this (by omega) rfl
   · have:=hc i j (by omega) hj (hln.imp Eq.symm Eq.symm)
     rw[hset i,if_pos rfl]at this
     intro he
     rw[he]at this
     exact this (by omega) rfl
 · intro hc p q hpq hq hln hp
   by_cases hpi:p=i
   · subst hpi
     rw[hset p,if_pos rfl]
     exact fun he=>hc q hq (by omega) (hln.imp Eq.symm Eq.symm) he.symm
   · by_cases hqi:q=i
     · subst hqi
       rw[hset q,if_pos rfl]
       exact hc p (by omega) hpi hln
     · rw[hset p,if_neg hpi]at hp⊢
       rw[hset q,if_neg hqi]
       exact h p q hpq hq hln hp
theorem Jhd{p:Q4}{n:Nat}(hn:n=2∨n=3∨n=4){xs:List Int}{i v:Nat}(h:QT p xs n=true)(hl:xs.length=n*n)(hx:∀c:Int,0≤JA xs c)(hi:i<n*n)(hv:1≤v)(h0:JA xs i=0)(hg:JA p.given i≤0)(hcs:∀r∈p.rules,∀c∈r.cells,0≤c):
 QT p (xs.set i v) n=XB p (xs.set i v) n i:=by
 have hset:∀k:Nat,JA (xs.set i (v:Int)) k=if k=i then(v:Int)else JA xs k:=fun k=>Za _ _ _ _ (by rw[hl];exact hi)
 have hx':∀c:Int,0≤JA (xs.set i (v:Int)) c:=fun c=>by
  rw[Vb,hset]
  split
  · omega
  · exact hx _
 simp only[QT,Bool.and_eq_true,clear,decide_eq_true_eq,Bool.not_eq_true',List.all_eq_true]at h
 obtain⟨h1,h2,h3⟩:=h
 have hclear:clear p (xs.set i v)=true:=by
  simp only[clear,decide_eq_true_eq]
  rintro k hk ⟨a,b,c⟩
  rw[hset]at b c
  by_cases hki:k=i
  · rw[hki]at a;omega
  · rw[if_neg hki]at b c
    exact h1 k (by simpa using hk) ⟨a,b,c⟩
 have hcl:(!UL (xs.set i (v:Int)) n)=decide (∀j:Nat,j<n*n→j≠i→(j/n=i/n∨j%n=i%n)→JA (xs.set i (v:Int)) j≠JA (xs.set i (v:Int)) i):=by
  rw[Bool.eq_iff_iff,Bool.not_eq_true',Yn hn hx',Jl5 ((Yn hn hx).1 h3) hl hi hv h0,decide_eq_true_eq,hset i,if_pos rfl]
 have hr:p.rules.all (fun r=>Zn r (xs.set i (v:Int)) n)=p.rules.all (fun r=> !r.cells.contains (i:Int)||Zn r (xs.set i (v:Int)) n):=by
  rw[Bool.eq_iff_iff]
  simp only[List.all_eq_true,Bool.or_eq_true,Bool.not_eq_true']
  constructor
  · exact fun k r hr=> .inr (k r hr)
  · intro k r hr
    rcases k r hr with k|k
    · rw[←h2 r hr]
      refine JaB fun c hc=> ?_
      have hci:c≠(i:Int):=fun he=>by rw[he]at hc;simp at k;exact k hc
      have hc0:=hcs r hr c hc
      obtain⟨m,rfl⟩:∃m:Nat,c=m:=⟨c.toNat,by omega⟩
      rw[hset,if_neg (by omega)]
    · exact k
 unfold QT XB
 rw[hclear,hr,hcl,Bool.true_and,Bool.and_comm]
def ZM(p:Q4)(n:Nat):Nat→List Int→List (List Int)
 |0,xs=>[xs]
 |m+1,xs=>if 0<JA xs ((xs.length -(m+1):Nat):Int)then ZM p n m xs else((List.range n).map (· +1)).flatMap fun(v:Nat)=>if QT p (xs.set (xs.length -(m+1)) (v:Int)) n=true then ZM p n m (xs.set (xs.length -(m+1)) (v:Int))else[]
end Go.Lg
