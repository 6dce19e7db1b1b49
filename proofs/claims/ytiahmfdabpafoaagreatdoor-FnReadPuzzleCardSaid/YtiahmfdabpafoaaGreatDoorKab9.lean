/- GpCA, GpCC, cut to what is needed. -/
import Derived.Test.YtiahmfdabpafoaaGreatDoorKab7
import Derived.Test.YtiahmfdabpafoaaGreatDoorKab8
import Derived.Test.YtiahmfdabpafoaaGreatDoorKab5
import Derived.KernelRfl
open List renaming getElem?_eq_some_iff → Ja, getElem?_append_left → Jb, cons_append → Jc, nil_append → Jd, length_append → Je, length_cons → Jf, replicate → Jg, length_nil → Jl, getElem?_eq_none → Ju, length_take → JA, getElem?_take_of_lt → JG, mem_cons → JV, getElem?_set_self → J0, mem_map → Qs
open Nat renaming reduceAdd→zA,reduceMul→zM,reduceSub→zS,reduceEqDiff→zE,reduceLeDiff→zL
set_option linter.unusedSimpArgs false
set_option linter.unusedVariables false
set_option maxRecDepth 100000
namespace Go.Lg
open Go.Proofs
def Zj(H:Ji)(id g:Nat)(B:Int):Prop:=∃(sz:Nat) (b:List Int) (p:Int),look H id g=some ⟨g,sz,[.f (.sl b.length (fl (eI .u8) b)), .f (.int .i64 p)]⟩∧b.length≤2000∧(∀x∈b,0≤x∧x≤255)∧0≤p∧p≤B
theorem Zj.mono{H:Ji}{id g:Nat}{B B':Int}(h:Zj H id g B)(hb:B≤B'):Zj H id g B':=by
 obtain⟨sz,b,p,h1,h2,h3,h4,h5⟩:=h
 exact⟨sz,b,p,h1,h2,h3,h4,by omega⟩
theorem Zj.same{H H':Ji}{id g:Nat}{B:Int}(h:Zj H id g B)(hs:H'[id]? =H[id]?):Zj H' id g B:=by
 obtain⟨sz,b,p,h1,h2⟩:=h
 exact⟨sz,b,p,by unfold look at*;rw[hs];exact h1,h2⟩
theorem Zj.lt{H:Ji}{id g:Nat}{B:Int}(h:Zj H id g B):id<H.length:=by
 obtain⟨sz,b,p,h1,_⟩:=h
 exact(Ja.1 (Jw h1).1).1
theorem Jf3{a b:Int}(ha:0≤a∧a<2^62)(hb:0≤b∧b<2^62):0≤U3 .xor .i64 a b∧U3 .xor .i64 a b<2^62:=by
 obtain⟨x,rfl⟩:∃x:Nat,a=x:=⟨a.toNat,by omega⟩
 obtain⟨y,rfl⟩:∃y:Nat,b=y:=⟨b.toNat,by omega⟩
 have hx:x<2^62:=by omega
 have hy:y<2^62:=by omega
 have hz:x^^^y<2^62:=Nat.xor_lt_two_pow hx hy
 have e:(BitVec.ofInt 64 (x:Int)^^^BitVec.ofInt 64 (y:Int)).toNat=x^^^y:=by
  simp only[BitVec.toNat_xor,BitVec.ofInt_natCast,BitVec.toNat_ofNat]
  rw[Nat.mod_eq_of_lt (by omega),Nat.mod_eq_of_lt (by omega)]
 have e2:U3 .xor .i64 (x:Int) (y:Int)=((x^^^y:Nat):Int):=by
  unfold U3
  show IntKind.wrap .i64 ((BitVec.ofInt 64 (x:Int)^^^BitVec.ofInt 64 (y:Int)).toNat:Int)=_
  rw[e]
  exact F8 (by omega)
 rw[e2]
 omega
theorem JK{H:Ji}{id g sz:Nat}{cs:List CV}(h:id<H.length):look (H.set id (some ⟨g,sz,cs⟩)) id g=some ⟨g,sz,cs⟩:=Qq (b:=⟨g,sz,cs⟩) (by rw[J0 h])
theorem Yk{a b:Int}(h:0≤a):a.tdiv b=a/b:=Int.tdiv_eq_ediv_of_nonneg h
theorem Un{a b:Int}(h:0≤a):a.tmod b=a%b:=Int.tmod_eq_emod_of_nonneg h
theorem Uv{H:Ji}{id g off:Nat}{b:ZG}(h:look H id g=some b):Wq H (.c (.ptr id g off))=some (.c (.ptr id g off)):=by simp[Wq,h]
def Jhc(H:Ji)(id g:Nat)(B n:Int):KV:=fun v H'=>(∃y,v=int y∧0≤y∧(1≤n→y<n))∧Zj H' id g (B+1)∧UH H H' [id]
theorem QQ(H:Ji)(id g:Nat)(B n:Int)(hr:Zj H id g B)(hB:B≤2^40):Jq Tryz.prog 35 [.c (.ptr id g 0),int n] H (Jhc H id g B n):=by
 have hlt:=hr.lt
 obtain⟨sz,b,p,hl,hb1,hb2,hp0,hp1⟩:=hr
 have hs:∀x,look (H.set id (some ⟨g,sz,x⟩)) id g=some ⟨g,sz,x⟩:=fun x=>JK hlt
 have fin:∀y,0≤y→(1≤n→y<n)→Wa (H.set id (some ⟨g,sz,[.f (.sl b.length (fl (eI .u8) b)), .f (.int .i64 (p+1))]⟩)) (Jhc H id g B n) (int y):=fun y h0 h1=>
  ⟨_,Qc.refl _,⟨y,rfl,h0,h1⟩,⟨sz,b,p+1,hs _,hb1,hb2,by omega,by omega⟩,UH.set _ _ _⟩
 have nl:Wq H (.c (.ptr id g 0))=some (.c (.ptr id g 0)):=Uv hl
 have ns:∀x,Wq (H.set id (some ⟨g,sz,x⟩)) (.c (.ptr id g 0))=some (.c (.ptr id g 0)):=fun x=>Uv (hs x)
 refine Jq.cw (c:=_) Tryz.func35 rfl (n:=99) Tryz.ntmps35 (rs:=[.tmp 4]) rfl ?_
 simp only[Jf,Jl,zA,zS,Jg,Jc,Jd]
 simp(maxSteps:=999999)(disch:=omega)only[go_sem,zA,zM,zS,zE,zL,hl,hs,nl,ns]
 ((with_reducible first|refine JU ?_ ?_|refine JJ ?_ ?_|refine J6 ?_ ?_|refine Jx ?_ ?_|refine JS ?_ ?_|refine JT ?_ ?_|refine JH ?_ ?_|refine JI ?_ ?_|refine J4 ?_ ?_|refine J5 ?_ ?_|refine JC ?_ ?_|refine JD ?_ ?_)<;>intro h1<;>simp(maxSteps:=999999)(disch:=omega)only[go_sem,zA,zM,zS,zE,zL,h1])
 · exact fin 0 (by omega) (by omega)
 simp(maxSteps:=999999)(disch:=omega)only[go_sem,zA,zM,zS,zE,zL,hl,hs,nl,ns]
 ((first|(with_reducible first|refine Jo ?_ ?_|refine Jk ?_ ?_|refine Jp ?_ ?_)|refine Jr ?_ ?_)<;>intro h2)
 · simp(maxSteps:=999999)(disch:=omega)only[go_sem,zA,zM,zS,zE,zL]
   have:b.length=0:=by omega
   exact fin 0 (by omega) (by omega)
 have hbl:0<b.length:=by omega
 simp(maxSteps:=999999)(disch:=omega)only[go_sem,zA,zM,zS,zE,zL,hl,hs,nl,ns]
 obtain⟨i,hi⟩:∃i:Nat,p+1 -1=i:=⟨p.toNat,by omega⟩
 rw[hi]
 have hbm:∀k:Nat,k<b.length→0≤JM b k∧JM b k≤255:=fun k hk=>hb2 _ (by rw[Qu (by omega)];exact List.getElem_mem _)
 ((first|(with_reducible first|refine Jo ?_ ?_|refine Jk ?_ ?_|refine Jp ?_ ?_)|refine Jr ?_ ?_)<;>intro h3)
 · have hil:i<b.length:=by omega
   have hx:=hbm i hil
   simp(maxSteps:=999999)(disch:=omega)only[go_sem,zA,zM,zS,zE,zL,hl,hs,nl,ns]
   rw[Un hx.1]
   exact fin _ (Int.emod_nonneg _ (by omega)) (fun h=>Int.emod_lt_of_pos _ (by omega))
 simp(maxSteps:=999999)(disch:=omega)only[go_sem,zA,zM,zS,zE,zL]
 have hi40:(i:Int)≤2^40:=by omega
 have hbz:(0:Int)<(b.length:Int):=by omega
 obtain⟨j1,e1⟩:∃j:Nat,((i:Int)).tmod (b.length:Int)=j:=⟨(((i:Int)).tmod (b.length:Int)).toNat,by rw[Un (by omega)];have:=Int.emod_nonneg (i:Int) (show(b.length:Int)≠0 by omega);omega⟩
 obtain⟨j2,e2⟩:∃j:Nat,((i:Int)*7+3).tmod (b.length:Int)=j:=⟨(((i:Int)*7+3).tmod (b.length:Int)).toNat,by rw[Un (by omega)];have:=Int.emod_nonneg ((i:Int)*7+3) (show(b.length:Int)≠0 by omega);omega⟩
 obtain⟨q,e3⟩:∃j:Nat,((i:Int)).tdiv (b.length:Int)=j:=⟨(((i:Int)).tdiv (b.length:Int)).toNat,by rw[Yk (by omega)];have:=Int.ediv_nonneg (show(0:Int)≤i by omega) (show(0:Int)≤b.length by omega);omega⟩
 have l1:j1<b.length:=by rw[Un (by omega)]at e1;have:=Int.emod_lt_of_pos (i:Int) hbz;omega
 have l2:j2<b.length:=by rw[Un (by omega)]at e2;have:=Int.emod_lt_of_pos ((i:Int)*7+3) hbz;omega
 have l3:(q:Int)≤i:=by rw[Yk (by omega)]at e3;have:=Int.ediv_le_self (b.length:Int) (show(0:Int)≤i by omega);omega
 have m1:=hbm j1 l1
 have m2:=hbm j2 l2
 refine Q7 Zr (by kernel_rfl) ?_
 simp(maxSteps:=999999)(disch:=omega)only[go_sem,zA,zM,zS,zE,zL,hl,hs,nl,ns,e1,e2,e3]
 generalize hX:JM b ↑j1*131+JM b ↑j2*1117+↑i*29+↑q*53=X
 have hX0:0≤X∧X<2^60:=by omega
 have hd:X.tdiv 64=X/64:=Yk hX0.1
 rw[hd,F8 (n:=X/64) (by omega)]
 have hx:=Jf3 (a:=X) (b:=X/64) (by omega) (by omega)
 rw[Un hx.1]
 exact fin _ (Int.emod_nonneg _ (by omega)) (fun h=>Int.emod_lt_of_pos _ (by omega))
theorem NW(H:Ji)(n:Nat):Qc H (H.take n):=fun id b h=>by
 rw[List.getElem?_take]at h
 split at h
 · exact h
 · cases h
theorem N5{H H1 H2 X:Ji}{T:List Nat}(f1:UH H H1 T)(f2:UH (H1++X) H2 T):UH H (H2.take H.length) T:=by
 have hl:H2.length=H1.length+X.length:=by rw[f2.1,Je]
 refine⟨by rw[JA,hl,f1.1];omega,fun i hi=> ?_⟩
 by_cases h:i<H.length
 · rw[JG h,f2.2 i hi,Jb (by rw[f1.1];exact h),f1.2 i hi]
 · rw[List.getElem?_take_eq_none (by omega),Ju (by omega)]
theorem Zj.take{H:Ji}{id g n:Nat}{B:Int}(h:Zj H id g B)(hn:id<n):Zj (H.take n) id g B:=h.same (by rw[JG hn])
theorem Zj.app{H X:Ji}{id g:Nat}{B:Int}(h:Zj H id g B):Zj (H++X) id g B:=h.same (by rw[Jb h.lt])
theorem UH.last{H H2:Ji}{id sz gb:Nat}{cs:List CV}(f:UH (H++[some ⟨gb,sz,cs⟩]) H2 [id])(hid:id<H.length):Lg.look H2 H.length gb=some ⟨gb,sz,cs⟩:=by
 rw[f.look (by simp;omega)];exact JY
theorem Rk(H:Ji)(id g:Nat)(B n:Int)(hr:Zj H id g B)(hB:B≤2^40)(hn:n≤1000):Jq Tryz.prog 41 [.c (.ptr id g 0),int n] H (fun v H'=>(∃b:Bool,v=bool b∧(n≤0→b=false))∧Zj H' id g (B+1)∧UH H H' [id]):=by
 refine Jq.cw (c:=_) Tryz.func41 rfl (n:=15) Tryz.ntmps41 (rs:=[.tmp 4]) rfl ?_
 simp only[Jf,Jl,zA,zS,Jg,Jc,Jd]
 simp(maxSteps:=999999)(disch:=omega)only[go_sem,zA,zM,zS,zE,zL]
 ((with_reducible first|refine JU ?_ ?_|refine JJ ?_ ?_|refine J6 ?_ ?_|refine Jx ?_ ?_|refine JS ?_ ?_|refine JT ?_ ?_|refine JH ?_ ?_|refine JI ?_ ?_|refine J4 ?_ ?_|refine J5 ?_ ?_|refine JC ?_ ?_|refine JD ?_ ?_)<;>intro h1<;>simp(maxSteps:=999999)(disch:=omega)only[go_sem,zA,zM,zS,zE,zL,h1])
 · refine Qh.run (QQ H id g B n hr hB) (⟨_,Tryz.func35,rfl,rfl⟩:Jm Tryz.prog 35) rfl rfl ?_
   rintro _ H1 ⟨⟨y,rfl,y0,y1⟩,r1,f1⟩
   simp(maxSteps:=999999)(disch:=omega)only[go_sem,zA,zM,zS,zE,zL]
   exact⟨_,Qc.refl _,⟨_,rfl,fun h=>by omega⟩,r1,f1⟩
 · exact⟨_,Qc.refl _,⟨_,rfl,fun h=>rfl⟩,hr.mono (by omega),UH.refl _ _⟩
theorem NR(H:Ji)(id g:Nat)(B n:Int)(hr:Zj H id g B)(hB:B≤2^39)(hn:n≤1000):Jq Tryz.prog 33 [.c (.ptr id g 0),int n] H (fun v H'=>(∃y,v=int y∧-1≤y∧y≤5∧(n≤0→2≤y∧y≤4))∧Zj H' id g (B+2)∧UH H H' [id]):=by
 refine Jq.cw (c:=_) Tryz.func33 rfl (n:=18) Tryz.ntmps33 (rs:=[.tmp 4]) rfl ?_
 simp only[Jf,Jl,zA,zS,Jg,Jc,Jd]
 simp(maxSteps:=999999)(disch:=omega)only[go_sem,zA,zM,zS,zE,zL]
 refine Qh.run (Rk H id g B n hr (by omega) hn) (⟨_,Tryz.func41,rfl,rfl⟩:Jm Tryz.prog 41) rfl rfl ?_
 rintro _ H1 ⟨⟨b,rfl,hb⟩,r1,f1⟩
 simp(maxSteps:=999999)(disch:=omega)only[go_sem,zA,zM,zS,zE,zL]
 have hlt:id<H1.length:=r1.lt
 have hlt':id<H.length:=hr.lt
 ((first|(with_reducible first|refine Jo ?_ ?_|refine Jk ?_ ?_|refine Jp ?_ ?_)|refine Jr ?_ ?_)<;>intro h)
 · simp(maxSteps:=999999)(disch:=omega)only[go_sem,zA,zM,zS,zE,zL]
   intro gb
   refine Qh.run (QQ _ id g (B+1) 3 r1.app (by omega)) (⟨_,Tryz.func35,rfl,rfl⟩:Jm Tryz.prog 35) rfl rfl ?_
   rintro _ H2 ⟨⟨y,rfl,y0,y1⟩,r2,f2⟩
   have hb2:=f2.last hlt
   have y1:=y1 (by omega)
   have hn0:¬n≤0:=fun h0=>by rw[hb h0]at h;cases h
   obtain rfl|rfl|rfl:y=0∨y=1∨y=2:=by omega
   all_goals
    simp(maxSteps:=999999)(disch:=omega)only[go_sem,zA,zM,zS,zE,zL,hb2,Int.reduceToNat]
    exact⟨_,NW _ _,⟨_,rfl,by omega,by omega,by omega⟩,(r2.take hlt').mono (by omega),N5 f1 f2⟩
 · simp(maxSteps:=999999)(disch:=omega)only[go_sem,zA,zM,zS,zE,zL]
   intro gb
   refine Qh.run (QQ _ id g (B+1) 5 r1.app (by omega)) (⟨_,Tryz.func35,rfl,rfl⟩:Jm Tryz.prog 35) rfl rfl ?_
   rintro _ H2 ⟨⟨y,rfl,y0,y1⟩,r2,f2⟩
   have hb2:=f2.last hlt
   have y1:=y1 (by omega)
   obtain rfl|rfl|rfl|rfl|rfl:y=0∨y=1∨y=2∨y=3∨y=4:=by omega
   all_goals
    simp(maxSteps:=999999)(disch:=omega)only[go_sem,zA,zM,zS,zE,zL,hb2,Int.reduceToNat]
    exact⟨_,NW _ _,⟨_,rfl,by omega,by omega,by omega⟩,(r2.take hlt').mono (by omega),N5 f1 f2⟩
theorem KZ(b:List Int)(hb:∀x∈b,0≤x∧x≤255)(hl:b.length≤2^40):Jq Tryz.prog 16 [Rj (eI .u8) b] [] (fun v H'=>∃g,v= .c (.ptr 0 g 0)∧Zj H' 0 g 0∧H'.length=1):=by
 refine Jq.cw (c:=_) Tryz.func16 rfl (n:=11) Tryz.ntmps16 (rs:=[.tmp 2]) rfl ?_
 simp only[Jf,Jl,zA,zS,Jg,Jc,Jd]
 simp(maxSteps:=999999)(disch:=omega)only[go_sem,zA,zM,zS,zE,zL]
 ((first|(with_reducible first|refine Jo ?_ ?_|refine Jk ?_ ?_|refine Jp ?_ ?_)|refine Jr ?_ ?_)<;>intro h)
 · simp(maxSteps:=999999)(disch:=omega)only[go_sem,zA,zM,zS,zE,zL]
   intro g
   refine⟨_,Qc.refl _,g,rfl,⟨1,sub b 0 2000,0,by rw[ZA], ?_, ?_,by omega,by omega⟩,rfl⟩
   · simp[sub];omega
   · intro x hx
     exact hb x (List.mem_of_mem_drop (List.mem_of_mem_take hx))
 · simp(maxSteps:=999999)(disch:=omega)only[go_sem,zA,zM,zS,zE,zL]
   intro g
   exact⟨_,Qc.refl _,g,rfl,⟨1,b,0,by rw[ZA],by omega,hb,by omega,by omega⟩,rfl⟩
end Go.Lg

namespace Go.Lg
open Go.Proofs
def Z2(n line:Nat):List Int:=(List.range n).map fun k=>if line<n then((line*n+k:Nat):Int)else((k*n+line -n:Nat):Int)
def U8(xs:List Int):List Int→Nat→Bool
 |[],_=>false
 |c::cs,seen=>if 0<JM xs c&&seen.testBit (JM xs c).toNat then true else U8 xs cs (seen|||2^(JM xs c).toNat)
def U2(xs:List Int)(n:Nat):Bool:=(List.range (2*n)).any fun line=>U8 xs (Z2 n line) 0
def VK(n:Nat)(f:List Int→Nat→List Int×Nat)(xs:List Int)(i:Nat):List Nat→Nat→List Int×Nat
 |[],l=>([],l)
 |v::vs,l=>if U2 (xs.set i v) n=true then VK n f xs i vs l else if(f (xs.set i v) l).1≠[]then f (xs.set i v) l else VK n f xs i vs (f (xs.set i v) l).2
def U5(n:Nat):Nat→List Int→Nat→List Int×Nat
 |0,xs,l=>if l=0 then(xs,0)else([],l -1)
 |m+1,xs,l=>VK n (U5 n m) xs (xs.length -(m+1)) ((List.range n).map (· +1)) l
def Jag(n:Nat)(f:List Int→Nat)(xs:List Int)(i:Nat):List Nat→Nat
 |[]=>0
 |v::vs=>(if U2 (xs.set i v) n=true then 0 else f (xs.set i v))+Jag n f xs i vs
def Jbl(n:Nat):Nat→List Int→Nat
 |0,_=>1
 |m+1,xs=>Jag n (Jbl n m) xs (xs.length -(m+1)) ((List.range n).map (· +1))
def JfY(xs:List Int)(c l:Nat)(r:List Int×Nat):Prop:=(l<c→r.1.length=xs.length∧r.1≠[])∧(c≤l→r=([],l -c))
theorem KG(n:Nat)(f:List Int→Nat→List Int×Nat)(g:List Int→Nat)(xs:List Int)(i:Nat)(h:∀ys l,ys.length=xs.length→JfY ys (g ys) l (f ys l)):∀(vs:List Nat) (l:Nat),JfY xs (Jag n g xs i vs) l (VK n f xs i vs l)
 |[],l=>⟨fun h=>by simp[Jag]at h,fun h=>by simp[VK,Jag]⟩
 |v::vs,l=>by
  have ih:=fun l=>KG n f g xs i h vs l
  have hl:(xs.set i (v:Int)).length=xs.length:=by simp
  obtain⟨h1,h2⟩:=h (xs.set i v) l hl
  unfold VK Jag
  by_cases hc:U2 (xs.set i v) n=true
  · simp only[if_pos hc,Nat.zero_add];exact ih l
  · simp only[if_neg hc]
    by_cases hlt:l<g (xs.set i v)
    · obtain⟨k1,k2⟩:=h1 hlt
      rw[if_pos k2]
      exact⟨fun _=>⟨by rw[k1,hl],k2⟩,fun hle=>by omega⟩
    · have e:=h2 (by omega)
      rw[e]
      simp only[ne_eq,not_true_eq_false,if_false]
      obtain⟨q1,q2⟩:=ih (l -g (xs.set i v))
      refine⟨fun h=>q1 (by omega),fun h=> ?_⟩
      rw[q2 (by omega)]
      congr 1
      omega
theorem RC(n:Nat):∀(m:Nat) (xs:List Int) (l:Nat),xs≠[]→JfY xs (Jbl n m xs) l (U5 n m xs l)
 |0,xs,l,hx=>by
  unfold U5 Jbl
  refine⟨fun h=> ?_,fun h=> ?_⟩
  · rw[if_pos (by omega)];exact⟨rfl,hx⟩
  · rw[if_neg (by omega)]
 |m+1,xs,l,hx=>by
  unfold U5 Jbl
  refine KG n _ _ xs _ (fun ys l hl=>RC n m ys l fun h0=>hx ?_) _ l
  rw[h0]at hl
  exact List.eq_nil_of_length_eq_zero hl.symm
theorem UZ(l:List Int)(i:Nat)(v:Int)(k:Nat)(h:i<l.length):JM (l.set i v) (k:Int)=if k=i then v else JM l k:=by
 rw[JgD _ _ _ _ h (by omega)]
 by_cases hk:k=i
 · rw[if_pos (by omega),if_pos hk]
 · rw[if_neg (by omega),if_neg hk]
theorem Ve{ys:List Int}(h0:∀c:Int,0≤JM ys c):∀(cells:List Int) (seen:Nat),U8 ys cells seen=false↔(∀c∈cells,0<JM ys c→seen.testBit (JM ys c).toNat=false)∧cells.Pairwise (fun c d=>0<JM ys c→JM ys c≠JM ys d)
 |[],seen=>by simp[U8]
 |c::cs,seen=>by
  have ih:=Ve h0 cs (seen|||2^(JM ys c).toNat)
  have hc:=h0 c
  unfold U8
  by_cases hs:(decide (0<JM ys c)&&seen.testBit (JM ys c).toNat)=true
  · rw[if_pos hs]
    simp only[Bool.and_eq_true,decide_eq_true_eq]at hs
    refine⟨fun h=>(by cases h),fun h=> ?_⟩
    have:=h.1 c (by simp) hs.1
    rw[hs.2]at this
    cases this
  · rw[if_neg hs,ih]
    simp only[Bool.and_eq_true,decide_eq_true_eq,not_and,Bool.not_eq_true]at hs
    simp only[Nat.testBit_or,Nat.testBit_two_pow,Bool.or_eq_false_iff,decide_eq_false_iff_not,List.pairwise_cons,JV]
    constructor
    · rintro⟨h1,h2⟩
      refine⟨fun d hd=> ?_,fun d hd hp he=> ?_,h2⟩
      · rcases hd with rfl|hd
        · exact hs
        · exact fun hp=>(h1 d hd hp).1
      · have:=(h1 d hd (by omega)).2
        omega
    · rintro⟨h1,h2,h3⟩
      refine⟨fun d hd hp=>⟨h1 d (.inr hd) hp,fun he=> ?_⟩,h3⟩
      have:=h0 d
      have:=h2 d hd (by omega)
      omega
def NC(ys:List Int)(n:Nat):Prop:=∀p q:Nat,p<q→q<n*n→(p/n=q/n∨p%n=q%n)→0<JM ys p→JM ys p≠JM ys q
theorem Vu{n:Nat}{f:Nat→Int}{R:Int→Int→Prop}:((List.range n).map f).Pairwise R↔∀a b:Nat,a<b→b<n→R (f a) (f b):=by
 rw[List.pairwise_map,List.pairwise_iff_getElem]
 simp only[List.length_range,List.getElem_range]
 exact⟨fun h a b hab hb=>h a b (by omega) hb hab,fun h a b ha hb hab=>h a b hab hb⟩
theorem Jah{ys:List Int}{n:Nat}(hn:n=2∨n=3∨n=4)(h0:∀c:Int,0≤JM ys c):U2 ys n=false↔NC ys n:=by
 unfold U2 Z2
 rw[List.any_eq_false]
 simp only[List.mem_range,Bool.not_eq_true]
 constructor
 · intro h p q hpq hq hl hp
   rcases hl with hl|hl
   · have h1:=((Ve h0 _ 0).1 (h (p/n) (by rcases hn with rfl|rfl|rfl<;>omega))).2
     rw[Vu]at h1
     have hr:p/n<n:=by rcases hn with rfl|rfl|rfl<;>omega
     have:=h1 (p%n) (q%n) (by rcases hn with rfl|rfl|rfl<;>omega) (by rcases hn with rfl|rfl|rfl<;>omega)
     rw[if_pos hr,if_pos hr]at this
     have e1:p/n*n+p%n=p:=by rcases hn with rfl|rfl|rfl<;>omega
     have e2:p/n*n+q%n=q:=by rcases hn with rfl|rfl|rfl<;>omega
     rw[e1,e2]at this
     exact this hp
   · have hc:p%n<n:=by rcases hn with rfl|rfl|rfl<;>omega
     have h1:=((Ve h0 _ 0).1 (h (n+p%n) (by omega))).2
     rw[Vu]at h1
     have:=h1 (p/n) (q/n) (by rcases hn with rfl|rfl|rfl<;>omega) (by rcases hn with rfl|rfl|rfl<;>omega)
     rw[if_neg (by omega),if_neg (by omega)]at this
     have e1:p/n*n+(n+p%n) -n=p:=by rcases hn with rfl|rfl|rfl<;>omega
     have e2:q/n*n+(n+p%n) -n=q:=by rcases hn with rfl|rfl|rfl<;>omega
     rw[e1,e2]at this
     exact this hp
 · intro h line hl
   rw[Ve h0]
   refine⟨fun c _ _=>Nat.zero_testBit _, ?_⟩
   rw[Vu]
   intro a b hab hb
   split
   · refine h (line*n+a) (line*n+b) (by omega) ?_ (.inl ?_)
     · rcases hn with rfl|rfl|rfl<;>omega
     · rcases hn with rfl|rfl|rfl<;>omega
   · refine h (a*n+line -n) (b*n+line -n) ?_ ?_ (.inr ?_)
     · rcases hn with rfl|rfl|rfl<;>omega
     · rcases hn with rfl|rfl|rfl<;>omega
     · rcases hn with rfl|rfl|rfl<;>omega
structure OkS(n:Nat)(xs:List Int)(i:Nat):Prop where
 len:xs.length=n*n
 lo:∀k:Nat,k<i→1≤JM xs k∧JM xs k≤n
 hi:∀k:Nat,i≤k→JM xs k=0
 nc:NC xs n
theorem Ft(xs:List Int)(c:Int):JM xs c=JM xs ((c.toNat:Nat):Int):=by unfold JM;rw[Int.toNat_natCast]
theorem OkS.pos{n:Nat}{xs:List Int}{i:Nat}(h:OkS n xs i)(c:Int):0≤JM xs c:=by
 rw[Ft]
 generalize c.toNat=k
 by_cases hk:k<i
 · have:=(h.lo k hk).1;omega
 · rw[h.hi k (by omega)];exact Int.le_refl 0
theorem Jbn{n:Nat}(hn:n=2∨n=3∨n=4){xs:List Int}{i v:Nat}(h:OkS n xs i)(hi:i<n*n)(hv:1≤v∧v≤n):
 (U2 (xs.set i v) n=false↔∀j:Nat,j<i→(j/n=i/n∨j%n=i%n)→JM xs j≠v)∧(U2 (xs.set i v) n=false→OkS n (xs.set i v) (i+1)):=by
 have hset:∀k:Nat,JM (xs.set i (v:Int)) k=if k=i then(v:Int)else JM xs k:=fun k=>UZ _ _ _ _ (by rw[h.len];exact hi)
 have h0:∀c:Int,0≤JM (xs.set i (v:Int)) c:=fun c=>by
  rw[Ft,hset]
  split
  · omega
  · exact h.pos _
 have key:U2 (xs.set i v) n=false↔∀j:Nat,j<i→(j/n=i/n∨j%n=i%n)→JM xs j≠v:=by
  rw[Jah hn h0]
  constructor
  · intro hc j hj hl
    have:=hc j i hj hi hl
    rw[hset,hset,if_neg (by omega),if_pos rfl]at this
    exact this (by have:=(h.lo j hj).1;omega)
  · intro hc p q hpq hq hl hp
    rw[hset]at hp⊢
    rw[hset]
    by_cases hpi:p=i
    · rw[if_pos hpi,if_neg (by omega),h.hi q (by omega)];omega
    · rw[if_neg hpi]at hp⊢
      by_cases hqi:q=i
      · rw[if_pos hqi]
        subst hqi
        exact hc p hpq hl
      · rw[if_neg hqi]
        exact h.nc p q hpq hq hl hp
 refine⟨key,fun hc=>⟨by simp[h.len],fun k hk=> ?_,fun k hk=> ?_,(Jah hn h0).1 hc⟩⟩
 · rw[hset]
   split
   · omega
   · exact h.lo k (by omega)
 · rw[hset,if_neg (by omega)]
   exact h.hi k (by omega)
def Jax(f:Nat→Nat):List Nat→Nat
 |[]=>0
 |v::vs=>f v+Jax f vs
theorem Rz{f g:Nat→Nat}:∀(vs:List Nat),(∀v∈vs,f v=g v)→Jax f vs=Jax g vs
 |[],_=>rfl
 |v::vs,h=>by simp only[Jax];rw[h v (by simp),Rz vs fun w hw=>h w (by simp[hw])]
theorem Jaf(n:Nat)(f:List Int→Nat)(xs:List Int)(i:Nat):∀vs,Jag n f xs i vs=Jax (fun v=>if U2 (xs.set i v) n=true then 0 else f (xs.set i v)) vs
 |[]=>rfl
 |v::vs=>by simp only[Jag,Jax];rw[Jaf n f xs i vs]
def cF(n:Nat):Nat→Nat→Nat→Nat
 |0,_,_=>1
 |m+1,R,C=>Jax (fun v=>if(R.testBit v||C.testBit (8*((n*n -(m+1))%n)+v))=true then 0 else cF n m (if(n*n -(m+1))%n+1=n then 0 else R|||2^v) (C|||2^(8*((n*n -(m+1))%n)+v))) ((List.range n).map (· +1))
structure InvS(n:Nat)(xs:List Int)(i R C:Nat):Prop where
 row:∀v:Nat,1≤v→v≤n→(R.testBit v=true↔∃j:Nat,j<i∧j/n=i/n∧JM xs j=v)
 col:∀c v:Nat,c<n→1≤v→v≤n→(C.testBit (8*c+v)=true↔∃j:Nat,j<i∧j%n=c∧JM xs j=v)
theorem Jhh{n:Nat}(hn:n=2∨n=3∨n=4):∀(m i:Nat) (xs:List Int) (R C:Nat),i+m=n*n→OkS n xs i→InvS n xs i R C→Jbl n m xs=cF n m R C
 |0,_,_,_,_,_,_,_=>rfl
 |m+1,i,xs,R,C,him,ho,hI=>by
  have hi:i<n*n:=by omega
  have e1:xs.length -(m+1)=i:=by rw[ho.len];omega
  have e2:n*n -(m+1)=i:=by omega
  unfold Jbl cF
  rw[Jaf,e1,e2]
  refine Rz _ fun v hv=> ?_
  obtain⟨v',hv',rfl⟩:=Qs.1 hv
  have hv2:1≤v'+1∧v'+1≤n:=by have:=List.mem_range.1 hv';omega
  generalize v'+1=v at hv2⊢
  obtain⟨k1,k2⟩:=Jbn hn ho hi hv2
  have hcn:i%n<n:=by rcases hn with rfl|rfl|rfl<;>omega
  have hcl:U2 (xs.set i (v:Int)) n=(R.testBit v||C.testBit (8*(i%n)+v)):=by
   rw[Bool.eq_iff_iff,Bool.or_eq_true,hI.row v hv2.1 hv2.2,hI.col _ v hcn hv2.1 hv2.2]
   constructor
   · intro hc
     have:¬∀j:Nat,j<i→(j/n=i/n∨j%n=i%n)→JM xs j≠v:=fun h=>by rw[k1.2 h]at hc;cases hc
     have:∃j:Nat,j<i∧(j/n=i/n∨j%n=i%n)∧JM xs j=v:=Classical.byContradiction fun hno=>this fun j hj hl he=>hno ⟨j,hj,hl,he⟩
     obtain⟨j,hj,hl,he⟩:=this
     rcases hl with hl|hl
     · exact .inl ⟨j,hj,hl,he⟩
     · exact .inr ⟨j,hj,hl,he⟩
   · intro hc
     cases hcc:U2 (xs.set i (v:Int)) n with
     |true=>rfl
     |false=>
      have:=k1.1 hcc
      rcases hc with⟨j,hj,hl,he⟩|⟨j,hj,hl,he⟩
      · exact absurd he (this j hj (.inl hl))
      · exact absurd he (this j hj (.inr hl))
  rw[hcl]
  by_cases hcc:(R.testBit v||C.testBit (8*(i%n)+v))=true
  · rw[if_pos hcc,if_pos hcc]
  · rw[if_neg hcc,if_neg hcc]
    have hcf:U2 (xs.set i (v:Int)) n=false:=by rw[hcl];simpa using hcc
    have hset:∀k:Nat,k<i+1→JM (xs.set i (v:Int)) k=if k=i then(v:Int)else JM xs k:=fun k hk=>UZ _ _ _ _ (by rw[ho.len];exact hi)
    refine Jhh hn m (i+1) _ _ _ (by omega) (k2 hcf) ⟨fun w hw1 hw2=> ?_,fun c w hc hw1 hw2=> ?_⟩
    · split
      · rename_i hend
        rw[Nat.zero_testBit]
        refine⟨fun h=>(by cases h),fun⟨j,hj,hl,_⟩=> ?_⟩
        exfalso
        rcases hn with rfl|rfl|rfl<;>omega
      · rename_i hend
        have hrow:(i+1)/n=i/n:=by rcases hn with rfl|rfl|rfl<;>omega
        rw[Nat.testBit_or,Nat.testBit_two_pow,Bool.or_eq_true,hI.row w hw1 hw2,decide_eq_true_eq,hrow]
        constructor
        · rintro(⟨j,hj,hl,he⟩|rfl)
          · exact⟨j,by omega,hl,by rw[hset j (by omega),if_neg (by omega)];exact he⟩
          · exact⟨i,by omega,rfl,by rw[hset i (by omega),if_pos rfl]⟩
        · rintro⟨j,hj,hl,he⟩
          rw[hset j hj]at he
          split at he
          · exact .inr (by omega)
          · exact .inl ⟨j,by omega,hl,he⟩
    · rw[Nat.testBit_or,Nat.testBit_two_pow,Bool.or_eq_true,hI.col c w hc hw1 hw2,decide_eq_true_eq]
      constructor
      · rintro(⟨j,hj,hl,he⟩|he)
        · exact⟨j,by omega,hl,by rw[hset j (by omega),if_neg (by omega)];exact he⟩
        · exact⟨i,by omega,by rcases hn with rfl|rfl|rfl<;>omega,by rw[hset i (by omega),if_pos rfl];rcases hn with rfl|rfl|rfl<;>omega⟩
      · rintro⟨j,hj,hl,he⟩
        rw[hset j hj]at he
        split at he
        · rename_i hji
          subst hji
          exact .inr (by omega)
        · exact .inl ⟨j,by omega,hl,he⟩
theorem Kg(n:Nat)(c:Int):JM (Jg n (0:Int)) c=0:=by
 simp only[JM,List.getD,List.getElem?_replicate]
 split<;>rfl
theorem JcN(n:Nat):OkS n (Jg (n*n) 0) 0:=⟨by simp,fun k hk=>by omega,fun k _=>Kg _ _,fun p q _ _ _ h=>by rw[Kg]at h;omega⟩
theorem Ja9(n:Nat):InvS n (Jg (n*n) 0) 0 0 0:=⟨fun v _ _=>by rw[Nat.zero_testBit];simp,fun c v _ _ _=>by rw[Nat.zero_testBit];simp⟩
def VR(n:Nat):Nat:=if n=2 then 2 else if n=3 then 12 else 576
theorem Jh9:cF 2 4 0 0=2:=by kernel_rfl
theorem Jfo:cF 3 9 0 0=12:=by kernel_rfl
theorem Jg3:cF 4 16 0 0=576:=by kernel_rfl
theorem Jfl{n:Nat}(hn:n=2∨n=3∨n=4):Jbl n (n*n) (Jg (n*n) 0)=VR n:=by
 rw[Jhh hn (n*n) 0 _ 0 0 (by omega) (JcN n) (Ja9 n)]
 rcases hn with rfl|rfl|rfl
 · exact Jh9
 · exact Jfo
 · exact Jg3
end Go.Lg
