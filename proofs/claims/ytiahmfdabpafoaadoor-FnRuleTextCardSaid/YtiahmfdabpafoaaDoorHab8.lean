/- GpCA, GpCC, cut to what is needed. -/
import Derived.Test.YtiahmfdabpafoaaDoorHab6
import Derived.Test.YtiahmfdabpafoaaDoorHab7
import Derived.Test.YtiahmfdabpafoaaDoorHab5
import Derived.KernelRfl
open Nat renaming reduceAdd→zA,reduceMul→zM,reduceSub→zS,reduceEqDiff→zE,reduceLeDiff→zL
set_option linter.unusedSimpArgs false
set_option linter.unusedVariables false
set_option maxRecDepth 100000
namespace Go.Lg
open Go.Proofs
def RdAt(H:Heap)(id g:Nat)(B:Int):Prop:=∃(sz:Nat) (b:List Int) (p:Int),look H id g=some ⟨g,sz,[.f (.sl b.length (fl (eI .u8) b)), .f (.int .i64 p)]⟩∧b.length≤2000∧(∀x∈b,0≤x∧x≤255)∧0≤p∧p≤B
theorem RdAt.mono{H:Heap}{id g:Nat}{B B':Int}(h:RdAt H id g B)(hb:B≤B'):RdAt H id g B':=by
 obtain⟨sz,b,p,h1,h2,h3,h4,h5⟩:=h
 exact⟨sz,b,p,h1,h2,h3,h4,by omega⟩
theorem RdAt.same{H H':Heap}{id g:Nat}{B:Int}(h:RdAt H id g B)(hs:H'[id]? =H[id]?):RdAt H' id g B:=by
 obtain⟨sz,b,p,h1,h2⟩:=h
 exact⟨sz,b,p,by unfold look at*;rw[hs];exact h1,h2⟩
theorem RdAt.lt{H:Heap}{id g:Nat}{B:Int}(h:RdAt H id g B):id<H.length:=by
 obtain⟨sz,b,p,h1,_⟩:=h
 exact(List.getElem?_eq_some_iff.1 (look_some h1).1).1
theorem xor_nat{a b:Int}(ha:0≤a∧a<2^62)(hb:0≤b∧b<2^62):0≤bitsI .xor .i64 a b∧bitsI .xor .i64 a b<2^62:=by
 obtain⟨x,rfl⟩:∃x:Nat,a=x:=⟨a.toNat,by omega⟩
 obtain⟨y,rfl⟩:∃y:Nat,b=y:=⟨b.toNat,by omega⟩
 have hx:x<2^62:=by omega
 have hy:y<2^62:=by omega
 have hz:x^^^y<2^62:=Nat.xor_lt_two_pow hx hy
 have e:(BitVec.ofInt 64 (x:Int)^^^BitVec.ofInt 64 (y:Int)).toNat=x^^^y:=by
  simp only[BitVec.toNat_xor,BitVec.ofInt_natCast,BitVec.toNat_ofNat]
  rw[Nat.mod_eq_of_lt (by omega),Nat.mod_eq_of_lt (by omega)]
 have e2:bitsI .xor .i64 (x:Int) (y:Int)=((x^^^y:Nat):Int):=by
  unfold bitsI
  show IntKind.wrap .i64 ((BitVec.ofInt 64 (x:Int)^^^BitVec.ofInt 64 (y:Int)).toNat:Int)=_
  rw[e]
  exact ok_i64 (by omega)
 rw[e2]
 omega
theorem look_set_eq'{H:Heap}{id g sz:Nat}{cs:List CV}(h:id<H.length):look (H.set id (some ⟨g,sz,cs⟩)) id g=some ⟨g,sz,cs⟩:=look_of (b:=⟨g,sz,cs⟩) (by rw[List.getElem?_set_self h])
theorem tdiv_nn{a b:Int}(h:0≤a):a.tdiv b=a/b:=Int.tdiv_eq_ediv_of_nonneg h
theorem tmod_nn{a b:Int}(h:0≤a):a.tmod b=a%b:=Int.tmod_eq_emod_of_nonneg h
theorem nilV_ptr{H:Heap}{id g off:Nat}{b:Blk}(h:look H id g=some b):nilV H (.c (.ptr id g off))=some (.c (.ptr id g off)):=by simp[nilV,h]
def pickQ(H:Heap)(id g:Nat)(B n:Int):KV:=fun v H'=>(∃y,v=int y∧0≤y∧(1≤n→y<n))∧RdAt H' id g (B+1)∧Frm H H' [id]
theorem pick_run(H:Heap)(id g:Nat)(B n:Int)(hr:RdAt H id g B)(hB:B≤2^40):RunCall Tryd.prog 54 [.c (.ptr id g 0),int n] H (pickQ H id g B n):=by
 have hlt:=hr.lt
 obtain⟨sz,b,p,hl,hb1,hb2,hp0,hp1⟩:=hr
 have hs:∀x,look (H.set id (some ⟨g,sz,x⟩)) id g=some ⟨g,sz,x⟩:=fun x=>look_set_eq' hlt
 have fin:∀y,0≤y→(1≤n→y<n)→lessQ (H.set id (some ⟨g,sz,[.f (.sl b.length (fl (eI .u8) b)), .f (.int .i64 (p+1))]⟩)) (pickQ H id g B n) (int y):=fun y h0 h1=>
  ⟨_,HLe.refl _,⟨y,rfl,h0,h1⟩,⟨sz,b,p+1,hs _,hb1,hb2,by omega,by omega⟩,Frm.set _ _ _⟩
 have nl:nilV H (.c (.ptr id g 0))=some (.c (.ptr id g 0)):=nilV_ptr hl
 have ns:∀x,nilV (H.set id (some ⟨g,sz,x⟩)) (.c (.ptr id g 0))=some (.c (.ptr id g 0)):=fun x=>nilV_ptr (hs x)
 refine RunCall.cw (c:=_) Tryd.func54 rfl (n:=99) Tryd.ntmps54 (rs:=[.tmp 4]) rfl ?_
 simp only[List.length_cons,List.length_nil,zA,zS,List.replicate,List.cons_append,List.nil_append]
 simp(maxSteps:=999999)(disch:=omega)only[go_sem,zA,zM,zS,zE,zL,hl,hs,nl,ns]
 ((with_reducible first|refine guardK_dec ?_ ?_|refine guardK_ndec ?_ ?_|refine guardK_nb ?_ ?_|refine guardK_split ?_ ?_|refine guardQ_dec ?_ ?_|refine guardL_dec ?_ ?_|refine guardQ_ndec ?_ ?_|refine guardL_ndec ?_ ?_|refine guardQ_nb ?_ ?_|refine guardL_nb ?_ ?_|refine guardQ_split ?_ ?_|refine guardL_split ?_ ?_)<;>intro h1<;>simp(maxSteps:=999999)(disch:=omega)only[go_sem,zA,zM,zS,zE,zL,h1])
 · exact fin 0 (by omega) (by omega)
 simp(maxSteps:=999999)(disch:=omega)only[go_sem,zA,zM,zS,zE,zL,hl,hs,nl,ns]
 ((first|(with_reducible first|refine condK_dec ?_ ?_|refine condK_ndec ?_ ?_|refine condK_nb ?_ ?_)|refine condK_b ?_ ?_)<;>intro h2)
 · simp(maxSteps:=999999)(disch:=omega)only[go_sem,zA,zM,zS,zE,zL]
   have:b.length=0:=by omega
   exact fin 0 (by omega) (by omega)
 have hbl:0<b.length:=by omega
 simp(maxSteps:=999999)(disch:=omega)only[go_sem,zA,zM,zS,zE,zL,hl,hs,nl,ns]
 obtain⟨i,hi⟩:∃i:Nat,p+1 -1=i:=⟨p.toNat,by omega⟩
 rw[hi]
 have hbm:∀k:Nat,k<b.length→0≤nth b k∧nth b k≤255:=fun k hk=>hb2 _ (by rw[nth_eq (by omega)];exact List.getElem_mem _)
 ((first|(with_reducible first|refine condK_dec ?_ ?_|refine condK_ndec ?_ ?_|refine condK_nb ?_ ?_)|refine condK_b ?_ ?_)<;>intro h3)
 · have hil:i<b.length:=by omega
   have hx:=hbm i hil
   simp(maxSteps:=999999)(disch:=omega)only[go_sem,zA,zM,zS,zE,zL,hl,hs,nl,ns]
   rw[tmod_nn hx.1]
   exact fin _ (Int.emod_nonneg _ (by omega)) (fun h=>Int.emod_lt_of_pos _ (by omega))
 simp(maxSteps:=999999)(disch:=omega)only[go_sem,zA,zM,zS,zE,zL]
 have hi40:(i:Int)≤2^40:=by omega
 have hbz:(0:Int)<(b.length:Int):=by omega
 obtain⟨j1,e1⟩:∃j:Nat,((i:Int)).tmod (b.length:Int)=j:=⟨(((i:Int)).tmod (b.length:Int)).toNat,by rw[tmod_nn (by omega)];have:=Int.emod_nonneg (i:Int) (show(b.length:Int)≠0 by omega);omega⟩
 obtain⟨j2,e2⟩:∃j:Nat,((i:Int)*7+3).tmod (b.length:Int)=j:=⟨(((i:Int)*7+3).tmod (b.length:Int)).toNat,by rw[tmod_nn (by omega)];have:=Int.emod_nonneg ((i:Int)*7+3) (show(b.length:Int)≠0 by omega);omega⟩
 obtain⟨q,e3⟩:∃j:Nat,((i:Int)).tdiv (b.length:Int)=j:=⟨(((i:Int)).tdiv (b.length:Int)).toNat,by rw[tdiv_nn (by omega)];have:=Int.ediv_nonneg (show(0:Int)≤i by omega) (show(0:Int)≤b.length by omega);omega⟩
 have l1:j1<b.length:=by rw[tmod_nn (by omega)]at e1;have:=Int.emod_lt_of_pos (i:Int) hbz;omega
 have l2:j2<b.length:=by rw[tmod_nn (by omega)]at e2;have:=Int.emod_lt_of_pos ((i:Int)*7+3) hbz;omega
 have l3:(q:Int)≤i:=by rw[tdiv_nn (by omega)]at e3;have:=Int.ediv_le_self (b.length:Int) (show(0:Int)≤i by omega);omega
 have m1:=hbm j1 l1
 have m2:=hbm j2 l2
 refine drawP_q foll (by kernel_rfl) ?_
 simp(maxSteps:=999999)(disch:=omega)only[go_sem,zA,zM,zS,zE,zL,hl,hs,nl,ns,e1,e2,e3]
 generalize hX:nth b ↑j1*131+nth b ↑j2*1117+↑i*29+↑q*53=X
 have hX0:0≤X∧X<2^60:=by omega
 have hd:X.tdiv 64=X/64:=tdiv_nn hX0.1
 rw[hd,ok_i64 (n:=X/64) (by omega)]
 have hx:=xor_nat (a:=X) (b:=X/64) (by omega) (by omega)
 rw[tmod_nn hx.1]
 exact fin _ (Int.emod_nonneg _ (by omega)) (fun h=>Int.emod_lt_of_pos _ (by omega))
theorem RdAt.take{H:Heap}{id g n:Nat}{B:Int}(h:RdAt H id g B)(hn:id<n):RdAt (H.take n) id g B:=h.same (by rw[List.getElem?_take_of_lt hn])
theorem RdAt.app{H X:Heap}{id g:Nat}{B:Int}(h:RdAt H id g B):RdAt (H++X) id g B:=h.same (by rw[List.getElem?_append_left h.lt])
theorem Frm.last{H H2:Heap}{id sz gb:Nat}{cs:List CV}(f:Frm (H++[some ⟨gb,sz,cs⟩]) H2 [id])(hid:id<H.length):Lg.look H2 H.length gb=some ⟨gb,sz,cs⟩:=by
 rw[f.look (by simp;omega)];exact look_last
theorem odd_run(H:Heap)(id g:Nat)(B n:Int)(hr:RdAt H id g B)(hB:B≤2^40)(hn:n≤1000):RunCall Tryd.prog 53 [.c (.ptr id g 0),int n] H (fun v H'=>(∃b:Bool,v=bool b∧(n≤0→b=false))∧RdAt H' id g (B+1)∧Frm H H' [id]):=by
 refine RunCall.cw (c:=_) Tryd.func53 rfl (n:=15) Tryd.ntmps53 (rs:=[.tmp 4]) rfl ?_
 simp only[List.length_cons,List.length_nil,zA,zS,List.replicate,List.cons_append,List.nil_append]
 simp(maxSteps:=999999)(disch:=omega)only[go_sem,zA,zM,zS,zE,zL]
 ((with_reducible first|refine guardK_dec ?_ ?_|refine guardK_ndec ?_ ?_|refine guardK_nb ?_ ?_|refine guardK_split ?_ ?_|refine guardQ_dec ?_ ?_|refine guardL_dec ?_ ?_|refine guardQ_ndec ?_ ?_|refine guardL_ndec ?_ ?_|refine guardQ_nb ?_ ?_|refine guardL_nb ?_ ?_|refine guardQ_split ?_ ?_|refine guardL_split ?_ ?_)<;>intro h1<;>simp(maxSteps:=999999)(disch:=omega)only[go_sem,zA,zM,zS,zE,zL,h1])
 · refine OpS.run (pick_run H id g B n hr hB) (⟨_,Tryd.func54,rfl,rfl⟩:Enters Tryd.prog 54) rfl rfl ?_
   rintro _ H1 ⟨⟨y,rfl,y0,y1⟩,r1,f1⟩
   simp(maxSteps:=999999)(disch:=omega)only[go_sem,zA,zM,zS,zE,zL]
   exact⟨_,HLe.refl _,⟨_,rfl,fun h=>by omega⟩,r1,f1⟩
 · exact⟨_,HLe.refl _,⟨_,rfl,fun h=>rfl⟩,hr.mono (by omega),Frm.refl _ _⟩
theorem l20Open_run(b:List Int)(hb:∀x∈b,0≤x∧x≤255)(hl:b.length≤2^40):RunCall Tryd.prog 44 [rsl (eI .u8) b] [] (fun v H'=>∃g,v= .c (.ptr 0 g 0)∧RdAt H' 0 g 0∧H'.length=1):=by
 refine RunCall.cw (c:=_) Tryd.func44 rfl (n:=11) Tryd.ntmps44 (rs:=[.tmp 2]) rfl ?_
 simp only[List.length_cons,List.length_nil,zA,zS,List.replicate,List.cons_append,List.nil_append]
 simp(maxSteps:=999999)(disch:=omega)only[go_sem,zA,zM,zS,zE,zL]
 ((first|(with_reducible first|refine condK_dec ?_ ?_|refine condK_ndec ?_ ?_|refine condK_nb ?_ ?_)|refine condK_b ?_ ?_)<;>intro h)
 · simp(maxSteps:=999999)(disch:=omega)only[go_sem,zA,zM,zS,zE,zL]
   intro g
   refine⟨_,HLe.refl _,g,rfl,⟨1,sub b 0 2000,0,by rw[look_zero], ?_, ?_,by omega,by omega⟩,rfl⟩
   · simp[sub];omega
   · intro x hx
     exact hb x (List.mem_of_mem_drop (List.mem_of_mem_take hx))
 · simp(maxSteps:=999999)(disch:=omega)only[go_sem,zA,zM,zS,zE,zL]
   intro g
   exact⟨_,HLe.refl _,g,rfl,⟨1,b,0,by rw[look_zero],by omega,hb,by omega,by omega⟩,rfl⟩
end Go.Lg

namespace Go.Lg
open Go.Proofs
def lineC(n line:Nat):List Int:=(List.range n).map fun k=>if line<n then((line*n+k:Nat):Int)else((k*n+line -n:Nat):Int)
def clashC(xs:List Int):List Int→Nat→Bool
 |[],_=>false
 |c::cs,seen=>if 0<nth xs c&&seen.testBit (nth xs c).toNat then true else clashC xs cs (seen|||2^(nth xs c).toNat)
def clash(xs:List Int)(n:Nat):Bool:=(List.range (2*n)).any fun line=>clashC xs (lineC n line) 0
def srchV(n:Nat)(f:List Int→Nat→List Int×Nat)(xs:List Int)(i:Nat):List Nat→Nat→List Int×Nat
 |[],l=>([],l)
 |v::vs,l=>if clash (xs.set i v) n=true then srchV n f xs i vs l else if(f (xs.set i v) l).1≠[]then f (xs.set i v) l else srchV n f xs i vs (f (xs.set i v) l).2
def srch(n:Nat):Nat→List Int→Nat→List Int×Nat
 |0,xs,l=>if l=0 then(xs,0)else([],l -1)
 |m+1,xs,l=>srchV n (srch n m) xs (xs.length -(m+1)) ((List.range n).map (· +1)) l
def cntV(n:Nat)(f:List Int→Nat)(xs:List Int)(i:Nat):List Nat→Nat
 |[]=>0
 |v::vs=>(if clash (xs.set i v) n=true then 0 else f (xs.set i v))+cntV n f xs i vs
def cntS(n:Nat):Nat→List Int→Nat
 |0,_=>1
 |m+1,xs=>cntV n (cntS n m) xs (xs.length -(m+1)) ((List.range n).map (· +1))
def Found(xs:List Int)(c l:Nat)(r:List Int×Nat):Prop:=(l<c→r.1.length=xs.length∧r.1≠[])∧(c≤l→r=([],l -c))
theorem srchV_found(n:Nat)(f:List Int→Nat→List Int×Nat)(g:List Int→Nat)(xs:List Int)(i:Nat)(h:∀ys l,ys.length=xs.length→Found ys (g ys) l (f ys l)):∀(vs:List Nat) (l:Nat),Found xs (cntV n g xs i vs) l (srchV n f xs i vs l)
 |[],l=>⟨fun h=>by simp[cntV]at h,fun h=>by simp[srchV,cntV]⟩
 |v::vs,l=>by
  have ih:=fun l=>srchV_found n f g xs i h vs l
  have hl:(xs.set i (v:Int)).length=xs.length:=by simp
  obtain⟨h1,h2⟩:=h (xs.set i v) l hl
  unfold srchV cntV
  by_cases hc:clash (xs.set i v) n=true
  · simp only[if_pos hc,Nat.zero_add];exact ih l
  · simp only[if_neg hc]
    by_cases hlt:l<g (xs.set i v)
    · obtain⟨k1,k2⟩:=h1 hlt
      rw[if_pos k2]
      exact⟨fun _=>⟨by rw[k1,hl],k2⟩,fun hle=>by omega⟩
    · have e:=h2 (by omega)
      rw[e]
      simp only[ne_eq,not_true_eq_false,if_false]
      obtain⟨q1,q2⟩:=ih (l -g (xs.set i v))
      refine⟨fun h=>q1 (by omega),fun h=> ?_⟩
      rw[q2 (by omega)]
      congr 1
      omega
theorem srch_found(n:Nat):∀(m:Nat) (xs:List Int) (l:Nat),xs≠[]→Found xs (cntS n m xs) l (srch n m xs l)
 |0,xs,l,hx=>by
  unfold srch cntS
  refine⟨fun h=> ?_,fun h=> ?_⟩
  · rw[if_pos (by omega)];exact⟨rfl,hx⟩
  · rw[if_neg (by omega)]
 |m+1,xs,l,hx=>by
  unfold srch cntS
  refine srchV_found n _ _ xs _ (fun ys l hl=>srch_found n m ys l fun h0=>hx ?_) _ l
  rw[h0]at hl
  exact List.eq_nil_of_length_eq_zero hl.symm
theorem nth_setN(l:List Int)(i:Nat)(v:Int)(k:Nat)(h:i<l.length):nth (l.set i v) (k:Int)=if k=i then v else nth l k:=by
 rw[nth_set _ _ _ _ h (by omega)]
 by_cases hk:k=i
 · rw[if_pos (by omega),if_pos hk]
 · rw[if_neg (by omega),if_neg hk]
theorem clashC_false{ys:List Int}(h0:∀c:Int,0≤nth ys c):∀(cells:List Int) (seen:Nat),clashC ys cells seen=false↔(∀c∈cells,0<nth ys c→seen.testBit (nth ys c).toNat=false)∧cells.Pairwise (fun c d=>0<nth ys c→nth ys c≠nth ys d)
 |[],seen=>by simp[clashC]
 |c::cs,seen=>by
  have ih:=clashC_false h0 cs (seen|||2^(nth ys c).toNat)
  have hc:=h0 c
  unfold clashC
  by_cases hs:(decide (0<nth ys c)&&seen.testBit (nth ys c).toNat)=true
  · rw[if_pos hs]
    simp only[Bool.and_eq_true,decide_eq_true_eq]at hs
    refine⟨fun h=>(by cases h),fun h=> ?_⟩
    have:=h.1 c (by simp) hs.1
    rw[hs.2]at this
    cases this
  · rw[if_neg hs,ih]
    simp only[Bool.and_eq_true,decide_eq_true_eq,not_and,Bool.not_eq_true]at hs
    simp only[Nat.testBit_or,Nat.testBit_two_pow,Bool.or_eq_false_iff,decide_eq_false_iff_not,List.pairwise_cons,List.mem_cons]
    constructor
    · rintro⟨h1,h2⟩
      refine⟨fun d hd=> ?_,fun d hd hp he=> ?_,h2⟩
      · rcases hd with rfl|hd
        · exact hs
        · exact fun hp=>(h1 d hd hp).1
      · have:=(h1 d hd (by omega)).2
        omega
    · rintro⟨h1,h2,h3⟩
      refine⟨fun d hd hp=>⟨h1 d (.inr hd) hp,fun he=> ?_⟩,h3⟩
      have:=h0 d
      have:=h2 d hd (by omega)
      omega
def NC(ys:List Int)(n:Nat):Prop:=∀p q:Nat,p<q→q<n*n→(p/n=q/n∨p%n=q%n)→0<nth ys p→nth ys p≠nth ys q
theorem pairwise_range{n:Nat}{f:Nat→Int}{R:Int→Int→Prop}:((List.range n).map f).Pairwise R↔∀a b:Nat,a<b→b<n→R (f a) (f b):=by
 rw[List.pairwise_map,List.pairwise_iff_getElem]
 simp only[List.length_range,List.getElem_range]
 exact⟨fun h a b hab hb=>h a b (by omega) hb hab,fun h a b ha hb hab=>h a b hab hb⟩
theorem clash_nc{ys:List Int}{n:Nat}(hn:n=2∨n=3∨n=4)(h0:∀c:Int,0≤nth ys c):clash ys n=false↔NC ys n:=by
 unfold clash lineC
 rw[List.any_eq_false]
 simp only[List.mem_range,Bool.not_eq_true]
 constructor
 · intro h p q hpq hq hl hp
   rcases hl with hl|hl
   · have h1:=((clashC_false h0 _ 0).1 (h (p/n) (by rcases hn with rfl|rfl|rfl<;>omega))).2
     rw[pairwise_range]at h1
     have hr:p/n<n:=by rcases hn with rfl|rfl|rfl<;>omega
     have:=h1 (p%n) (q%n) (by rcases hn with rfl|rfl|rfl<;>omega) (by rcases hn with rfl|rfl|rfl<;>omega)
     rw[if_pos hr,if_pos hr]at this
     have e1:p/n*n+p%n=p:=by rcases hn with rfl|rfl|rfl<;>omega
     have e2:p/n*n+q%n=q:=by rcases hn with rfl|rfl|rfl<;>omega
     rw[e1,e2]at this
     exact this hp
   · have hc:p%n<n:=by rcases hn with rfl|rfl|rfl<;>omega
     have h1:=((clashC_false h0 _ 0).1 (h (n+p%n) (by omega))).2
     rw[pairwise_range]at h1
     have:=h1 (p/n) (q/n) (by rcases hn with rfl|rfl|rfl<;>omega) (by rcases hn with rfl|rfl|rfl<;>omega)
     rw[if_neg (by omega),if_neg (by omega)]at this
     have e1:p/n*n+(n+p%n) -n=p:=by rcases hn with rfl|rfl|rfl<;>omega
     have e2:q/n*n+(n+p%n) -n=q:=by rcases hn with rfl|rfl|rfl<;>omega
     rw[e1,e2]at this
     exact this hp
 · intro h line hl
   rw[clashC_false h0]
   refine⟨fun c _ _=>Nat.zero_testBit _, ?_⟩
   rw[pairwise_range]
   intro a b hab hb
   split
   · refine h (line*n+a) (line*n+b) (by omega) ?_ (.inl ?_)
     · rcases hn with rfl|rfl|rfl<;>omega
     · rcases hn with rfl|rfl|rfl<;>omega
   · refine h (a*n+line -n) (b*n+line -n) ?_ ?_ (.inr ?_)
     · rcases hn with rfl|rfl|rfl<;>omega
     · rcases hn with rfl|rfl|rfl<;>omega
     · rcases hn with rfl|rfl|rfl<;>omega
structure OkS(n:Nat)(xs:List Int)(i:Nat):Prop where
 len:xs.length=n*n
 lo:∀k:Nat,k<i→1≤nth xs k∧nth xs k≤n
 hi:∀k:Nat,i≤k→nth xs k=0
 nc:NC xs n
theorem nth_toNat(xs:List Int)(c:Int):nth xs c=nth xs ((c.toNat:Nat):Int):=by unfold nth;rw[Int.toNat_natCast]
theorem OkS.pos{n:Nat}{xs:List Int}{i:Nat}(h:OkS n xs i)(c:Int):0≤nth xs c:=by
 rw[nth_toNat]
 generalize c.toNat=k
 by_cases hk:k<i
 · have:=(h.lo k hk).1;omega
 · rw[h.hi k (by omega)];exact Int.le_refl 0
theorem clash_step{n:Nat}(hn:n=2∨n=3∨n=4){xs:List Int}{i v:Nat}(h:OkS n xs i)(hi:i<n*n)(hv:1≤v∧v≤n):
 (clash (xs.set i v) n=false↔∀j:Nat,j<i→(j/n=i/n∨j%n=i%n)→nth xs j≠v)∧(clash (xs.set i v) n=false→OkS n (xs.set i v) (i+1)):=by
 have hset:∀k:Nat,nth (xs.set i (v:Int)) k=if k=i then(v:Int)else nth xs k:=fun k=>nth_setN _ _ _ _ (by rw[h.len];exact hi)
 have h0:∀c:Int,0≤nth (xs.set i (v:Int)) c:=fun c=>by
  rw[nth_toNat,hset]
  split
  · omega
  · exact h.pos _
 have key:clash (xs.set i v) n=false↔∀j:Nat,j<i→(j/n=i/n∨j%n=i%n)→nth xs j≠v:=by
  rw[clash_nc hn h0]
  constructor
  · intro hc j hj hl
    have:=hc j i hj hi hl
    rw[hset,hset,if_neg (by omega),if_pos rfl]at this
    exact this (by have:=(h.lo j hj).1;omega)
  · intro hc p q hpq hq hl hp
    rw[hset]at hp⊢
    rw[hset]
    by_cases hpi:p=i
    · rw[if_pos hpi,if_neg (by omega),h.hi q (by omega)];omega
    · rw[if_neg hpi]at hp⊢
      by_cases hqi:q=i
      · rw[if_pos hqi]
        subst hqi
        exact hc p hpq hl
      · rw[if_neg hqi]
        exact h.nc p q hpq hq hl hp
 refine⟨key,fun hc=>⟨by simp[h.len],fun k hk=> ?_,fun k hk=> ?_,(clash_nc hn h0).1 hc⟩⟩
 · rw[hset]
   split
   · omega
   · exact h.lo k (by omega)
 · rw[hset,if_neg (by omega)]
   exact h.hi k (by omega)
def sumV(f:Nat→Nat):List Nat→Nat
 |[]=>0
 |v::vs=>f v+sumV f vs
theorem sumV_congr{f g:Nat→Nat}:∀(vs:List Nat),(∀v∈vs,f v=g v)→sumV f vs=sumV g vs
 |[],_=>rfl
 |v::vs,h=>by simp only[sumV];rw[h v (by simp),sumV_congr vs fun w hw=>h w (by simp[hw])]
theorem cntV_sum(n:Nat)(f:List Int→Nat)(xs:List Int)(i:Nat):∀vs,cntV n f xs i vs=sumV (fun v=>if clash (xs.set i v) n=true then 0 else f (xs.set i v)) vs
 |[]=>rfl
 |v::vs=>by simp only[cntV,sumV];rw[cntV_sum n f xs i vs]
def cF(n:Nat):Nat→Nat→Nat→Nat
 |0,_,_=>1
 |m+1,R,C=>sumV (fun v=>if(R.testBit v||C.testBit (8*((n*n -(m+1))%n)+v))=true then 0 else cF n m (if(n*n -(m+1))%n+1=n then 0 else R|||2^v) (C|||2^(8*((n*n -(m+1))%n)+v))) ((List.range n).map (· +1))
structure InvS(n:Nat)(xs:List Int)(i R C:Nat):Prop where
 row:∀v:Nat,1≤v→v≤n→(R.testBit v=true↔∃j:Nat,j<i∧j/n=i/n∧nth xs j=v)
 col:∀c v:Nat,c<n→1≤v→v≤n→(C.testBit (8*c+v)=true↔∃j:Nat,j<i∧j%n=c∧nth xs j=v)
theorem cF_eq{n:Nat}(hn:n=2∨n=3∨n=4):∀(m i:Nat) (xs:List Int) (R C:Nat),i+m=n*n→OkS n xs i→InvS n xs i R C→cntS n m xs=cF n m R C
 |0,_,_,_,_,_,_,_=>rfl
 |m+1,i,xs,R,C,him,ho,hI=>by
  have hi:i<n*n:=by omega
  have e1:xs.length -(m+1)=i:=by rw[ho.len];omega
  have e2:n*n -(m+1)=i:=by omega
  unfold cntS cF
  rw[cntV_sum,e1,e2]
  refine sumV_congr _ fun v hv=> ?_
  obtain⟨v',hv',rfl⟩:=List.mem_map.1 hv
  have hv2:1≤v'+1∧v'+1≤n:=by have:=List.mem_range.1 hv';omega
  generalize v'+1=v at hv2⊢
  obtain⟨k1,k2⟩:=clash_step hn ho hi hv2
  have hcn:i%n<n:=by rcases hn with rfl|rfl|rfl<;>omega
  have hcl:clash (xs.set i (v:Int)) n=(R.testBit v||C.testBit (8*(i%n)+v)):=by
   rw[Bool.eq_iff_iff,Bool.or_eq_true,hI.row v hv2.1 hv2.2,hI.col _ v hcn hv2.1 hv2.2]
   constructor
   · intro hc
     have:¬∀j:Nat,j<i→(j/n=i/n∨j%n=i%n)→nth xs j≠v:=fun h=>by rw[k1.2 h]at hc;cases hc
     have:∃j:Nat,j<i∧(j/n=i/n∨j%n=i%n)∧nth xs j=v:=Classical.byContradiction fun hno=>this fun j hj hl he=>hno ⟨j,hj,hl,he⟩
     obtain⟨j,hj,hl,he⟩:=this
     rcases hl with hl|hl
     · exact .inl ⟨j,hj,hl,he⟩
     · exact .inr ⟨j,hj,hl,he⟩
   · intro hc
     cases hcc:clash (xs.set i (v:Int)) n with
     |true=>rfl
     |false=>
      have:=k1.1 hcc
      rcases hc with⟨j,hj,hl,he⟩|⟨j,hj,hl,he⟩
      · exact absurd he (this j hj (.inl hl))
      · exact absurd he (this j hj (.inr hl))
  rw[hcl]
  by_cases hcc:(R.testBit v||C.testBit (8*(i%n)+v))=true
  · rw[if_pos hcc,if_pos hcc]
  · rw[if_neg hcc,if_neg hcc]
    have hcf:clash (xs.set i (v:Int)) n=false:=by rw[hcl];simpa using hcc
    have hset:∀k:Nat,k<i+1→nth (xs.set i (v:Int)) k=if k=i then(v:Int)else nth xs k:=fun k hk=>nth_setN _ _ _ _ (by rw[ho.len];exact hi)
    refine cF_eq hn m (i+1) _ _ _ (by omega) (k2 hcf) ⟨fun w hw1 hw2=> ?_,fun c w hc hw1 hw2=> ?_⟩
    · split
      · rename_i hend
        rw[Nat.zero_testBit]
        refine⟨fun h=>(by cases h),fun⟨j,hj,hl,_⟩=> ?_⟩
        exfalso
        rcases hn with rfl|rfl|rfl<;>omega
      · rename_i hend
        have hrow:(i+1)/n=i/n:=by rcases hn with rfl|rfl|rfl<;>omega
        rw[Nat.testBit_or,Nat.testBit_two_pow,Bool.or_eq_true,hI.row w hw1 hw2,decide_eq_true_eq,hrow]
        constructor
        · rintro(⟨j,hj,hl,he⟩|rfl)
          · exact⟨j,by omega,hl,by rw[hset j (by omega),if_neg (by omega)];exact he⟩
          · exact⟨i,by omega,rfl,by rw[hset i (by omega),if_pos rfl]⟩
        · rintro⟨j,hj,hl,he⟩
          rw[hset j hj]at he
          split at he
          · exact .inr (by omega)
          · exact .inl ⟨j,by omega,hl,he⟩
    · rw[Nat.testBit_or,Nat.testBit_two_pow,Bool.or_eq_true,hI.col c w hc hw1 hw2,decide_eq_true_eq]
      constructor
      · rintro(⟨j,hj,hl,he⟩|he)
        · exact⟨j,by omega,hl,by rw[hset j (by omega),if_neg (by omega)];exact he⟩
        · exact⟨i,by omega,by rcases hn with rfl|rfl|rfl<;>omega,by rw[hset i (by omega),if_pos rfl];rcases hn with rfl|rfl|rfl<;>omega⟩
      · rintro⟨j,hj,hl,he⟩
        rw[hset j hj]at he
        split at he
        · rename_i hji
          subst hji
          exact .inr (by omega)
        · exact .inl ⟨j,by omega,hl,he⟩
theorem nth_zeros(n:Nat)(c:Int):nth (List.replicate n (0:Int)) c=0:=by
 simp only[nth,List.getD,List.getElem?_replicate]
 split<;>rfl
theorem okS_zeros(n:Nat):OkS n (List.replicate (n*n) 0) 0:=⟨by simp,fun k hk=>by omega,fun k _=>nth_zeros _ _,fun p q _ _ _ h=>by rw[nth_zeros]at h;omega⟩
theorem invS_zeros(n:Nat):InvS n (List.replicate (n*n) 0) 0 0 0:=⟨fun v _ _=>by rw[Nat.zero_testBit];simp,fun c v _ _ _=>by rw[Nat.zero_testBit];simp⟩
def manyS(n:Nat):Nat:=if n=2 then 2 else if n=3 then 12 else 576
theorem cF_two:cF 2 4 0 0=2:=by kernel_rfl
theorem cF_three:cF 3 9 0 0=12:=by kernel_rfl
theorem cF_four:cF 4 16 0 0=576:=by kernel_rfl
theorem cnt_many{n:Nat}(hn:n=2∨n=3∨n=4):cntS n (n*n) (List.replicate (n*n) 0)=manyS n:=by
 rw[cF_eq hn (n*n) 0 _ 0 0 (by omega) (okS_zeros n) (invS_zeros n)]
 rcases hn with rfl|rfl|rfl
 · exact cF_two
 · exact cF_three
 · exact cF_four
end Go.Lg
