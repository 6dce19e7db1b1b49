/- GpCA, GpCC, GpCB, cut to what is needed. -/
import Derived.Test.YtidekghnkifbjaaGreatDoorJab3
import Derived.Test.YtidekghnkifbjaaGreatDoorJab5
import Derived.Test.YtidekghnkifbjaaGreatDoorJab0
import Derived.KernelRfl
import Derived.Test.YtidekghnkifbjaaGreatDoorJaa9
open List renaming cons_append → Ja, getElem?_append_left → Jb, nil_append → Jc, replicate → Jd, length_cons → Je, length_nil → Jf, getElem?_eq_some_iff → Jg, length_append → Jk, take_of_length_le → Js, getElem?_eq_none → Jz, length_take → JL, getElem?_set_self → J2, getElem?_take_of_lt → Qd, mem_map → Qh, mem_cons → Qx
open Nat renaming reduceAdd→zA,reduceMul→zM,reduceSub→zS,reduceEqDiff→zE,reduceLeDiff→zL
set_option linter.unusedSimpArgs false
set_option linter.unusedVariables false
set_option maxRecDepth 100000
namespace Go.Lg
open Go.Proofs
def Zl(H:Jm)(id g:Nat)(B:Int):Prop:=∃(sz:Nat) (b:List Int) (p:Int),look H id g=some ⟨g,sz,[.f (.sl b.length (fl (eI .u8) b)), .f (.int .i64 p)]⟩∧b.length≤2000∧(∀x∈b,0≤x∧x≤255)∧0≤p∧p≤B
theorem Zl.mono{H:Jm}{id g:Nat}{B B':Int}(h:Zl H id g B)(hb:B≤B'):Zl H id g B':=by
 obtain⟨sz,b,p,h1,h2,h3,h4,h5⟩:=h
 exact⟨sz,b,p,h1,h2,h3,h4,by omega⟩
theorem Zl.same{H H':Jm}{id g:Nat}{B:Int}(h:Zl H id g B)(hs:H'[id]? =H[id]?):Zl H' id g B:=by
 obtain⟨sz,b,p,h1,h2⟩:=h
 exact⟨sz,b,p,by unfold look at*;rw[hs];exact h1,h2⟩
theorem Zl.lt{H:Jm}{id g:Nat}{B:Int}(h:Zl H id g B):id<H.length:=by
 obtain⟨sz,b,p,h1,_⟩:=h
 exact(Jg.1 (JJ h1).1).1
theorem JjB{a b:Int}(ha:0≤a∧a<2^62)(hb:0≤b∧b<2^62):0≤Ug .xor .i64 a b∧Ug .xor .i64 a b<2^62:=by
 obtain⟨x,rfl⟩:∃x:Nat,a=x:=⟨a.toNat,by omega⟩
 obtain⟨y,rfl⟩:∃y:Nat,b=y:=⟨b.toNat,by omega⟩
 have hx:x<2^62:=by omega
 have hy:y<2^62:=by omega
 have hz:x^^^y<2^62:=Nat.xor_lt_two_pow hx hy
 have e:(BitVec.ofInt 64 (x:Int)^^^BitVec.ofInt 64 (y:Int)).toNat=x^^^y:=by
  simp only[BitVec.toNat_xor,BitVec.ofInt_natCast,BitVec.toNat_ofNat]
  rw[Nat.mod_eq_of_lt (by omega),Nat.mod_eq_of_lt (by omega)]
 have e2:Ug .xor .i64 (x:Int) (y:Int)=((x^^^y:Nat):Int):=by
  unfold Ug
  show IntKind.wrap .i64 ((BitVec.ofInt 64 (x:Int)^^^BitVec.ofInt 64 (y:Int)).toNat:Int)=_
  rw[e]
  exact Y5 (by omega)
 rw[e2]
 omega
theorem JU{H:Jm}{id g sz:Nat}{cs:List CV}(h:id<H.length):look (H.set id (some ⟨g,sz,cs⟩)) id g=some ⟨g,sz,cs⟩:=J6 (b:=⟨g,sz,cs⟩) (by rw[J2 h])
theorem RH{a b:Int}(h:0≤a):a.tdiv b=a/b:=Int.tdiv_eq_ediv_of_nonneg h
theorem VQ{a b:Int}(h:0≤a):a.tmod b=a%b:=Int.tmod_eq_emod_of_nonneg h
theorem Ve{H:Jm}{id g off:Nat}{b:Zv}(h:look H id g=some b):Xz H (.c (.ptr id g off))=some (.c (.ptr id g off)):=by simp[Xz,h]
def JkX(H:Jm)(id g:Nat)(B n:Int):KV:=fun v H'=>(∃y,v=int y∧0≤y∧(1≤n→y<n))∧Zl H' id g (B+1)∧Vn H H' [id]
theorem QL(H:Jm)(id g:Nat)(B n:Int)(hr:Zl H id g B)(hB:B≤2^40):Jn Tryz.prog 68 [.c (.ptr id g 0),int n] H (JkX H id g B n):=by
 have hlt:=hr.lt
 obtain⟨sz,b,p,hl,hb1,hb2,hp0,hp1⟩:=hr
 have hs:∀x,look (H.set id (some ⟨g,sz,x⟩)) id g=some ⟨g,sz,x⟩:=fun x=>JU hlt
 have fin:∀y,0≤y→(1≤n→y<n)→Uy (H.set id (some ⟨g,sz,[.f (.sl b.length (fl (eI .u8) b)), .f (.int .i64 (p+1))]⟩)) (JkX H id g B n) (int y):=fun y h0 h1=>
  ⟨_,J0.refl _,⟨y,rfl,h0,h1⟩,⟨sz,b,p+1,hs _,hb1,hb2,by omega,by omega⟩,Vn.set _ _ _⟩
 have nl:Xz H (.c (.ptr id g 0))=some (.c (.ptr id g 0)):=Ve hl
 have ns:∀x,Xz (H.set id (some ⟨g,sz,x⟩)) (.c (.ptr id g 0))=some (.c (.ptr id g 0)):=fun x=>Ve (hs x)
 refine Jn.cw (c:=_) Tryz.func68 rfl (n:=99) Tryz.ntmps68 (rs:=[.tmp 4]) rfl ?_
 simp only[Je,Jf,zA,zS,Jd,Ja,Jc]
 simp(maxSteps:=999999)(disch:=omega)only[go_sem,zA,zM,zS,zE,zL,hl,hs,nl,ns]
 ((with_reducible first|refine JH ?_ ?_|refine JD ?_ ?_|refine JP ?_ ?_|refine Jv ?_ ?_|refine JF ?_ ?_|refine JG ?_ ?_|refine JB ?_ ?_|refine JC ?_ ?_|refine JN ?_ ?_|refine JO ?_ ?_|refine Jw ?_ ?_|refine Jx ?_ ?_)<;>intro h1<;>simp(maxSteps:=999999)(disch:=omega)only[go_sem,zA,zM,zS,zE,zL,h1])
 · exact fin 0 (by omega) (by omega)
 simp(maxSteps:=999999)(disch:=omega)only[go_sem,zA,zM,zS,zE,zL,hl,hs,nl,ns]
 ((first|(with_reducible first|refine Jl ?_ ?_|refine Jj ?_ ?_|refine Jp ?_ ?_)|refine Jr ?_ ?_)<;>intro h2)
 · simp(maxSteps:=999999)(disch:=omega)only[go_sem,zA,zM,zS,zE,zL]
   have:b.length=0:=by omega
   exact fin 0 (by omega) (by omega)
 have hbl:0<b.length:=by omega
 simp(maxSteps:=999999)(disch:=omega)only[go_sem,zA,zM,zS,zE,zL,hl,hs,nl,ns]
 obtain⟨i,hi⟩:∃i:Nat,p+1 -1=i:=⟨p.toNat,by omega⟩
 rw[hi]
 have hbm:∀k:Nat,k<b.length→0≤JA b k∧JA b k≤255:=fun k hk=>hb2 _ (by rw[Qs (by omega)];exact List.getElem_mem _)
 ((first|(with_reducible first|refine Jl ?_ ?_|refine Jj ?_ ?_|refine Jp ?_ ?_)|refine Jr ?_ ?_)<;>intro h3)
 · have hil:i<b.length:=by omega
   have hx:=hbm i hil
   simp(maxSteps:=999999)(disch:=omega)only[go_sem,zA,zM,zS,zE,zL,hl,hs,nl,ns]
   rw[VQ hx.1]
   exact fin _ (Int.emod_nonneg _ (by omega)) (fun h=>Int.emod_lt_of_pos _ (by omega))
 simp(maxSteps:=999999)(disch:=omega)only[go_sem,zA,zM,zS,zE,zL]
 have hi40:(i:Int)≤2^40:=by omega
 have hbz:(0:Int)<(b.length:Int):=by omega
 obtain⟨j1,e1⟩:∃j:Nat,((i:Int)).tmod (b.length:Int)=j:=⟨(((i:Int)).tmod (b.length:Int)).toNat,by rw[VQ (by omega)];have:=Int.emod_nonneg (i:Int) (show(b.length:Int)≠0 by omega);omega⟩
 obtain⟨j2,e2⟩:∃j:Nat,((i:Int)*7+3).tmod (b.length:Int)=j:=⟨(((i:Int)*7+3).tmod (b.length:Int)).toNat,by rw[VQ (by omega)];have:=Int.emod_nonneg ((i:Int)*7+3) (show(b.length:Int)≠0 by omega);omega⟩
 obtain⟨q,e3⟩:∃j:Nat,((i:Int)).tdiv (b.length:Int)=j:=⟨(((i:Int)).tdiv (b.length:Int)).toNat,by rw[RH (by omega)];have:=Int.ediv_nonneg (show(0:Int)≤i by omega) (show(0:Int)≤b.length by omega);omega⟩
 have l1:j1<b.length:=by rw[VQ (by omega)]at e1;have:=Int.emod_lt_of_pos (i:Int) hbz;omega
 have l2:j2<b.length:=by rw[VQ (by omega)]at e2;have:=Int.emod_lt_of_pos ((i:Int)*7+3) hbz;omega
 have l3:(q:Int)≤i:=by rw[RH (by omega)]at e3;have:=Int.ediv_le_self (b.length:Int) (show(0:Int)≤i by omega);omega
 have m1:=hbm j1 l1
 have m2:=hbm j2 l2
 refine Zj Zd (by kernel_rfl) ?_
 simp(maxSteps:=999999)(disch:=omega)only[go_sem,zA,zM,zS,zE,zL,hl,hs,nl,ns,e1,e2,e3]
 generalize hX:JA b ↑j1*131+JA b ↑j2*1117+↑i*29+↑q*53=X
 have hX0:0≤X∧X<2^60:=by omega
 have hd:X.tdiv 64=X/64:=RH hX0.1
 rw[hd,Y5 (n:=X/64) (by omega)]
 have hx:=JjB (a:=X) (b:=X/64) (by omega) (by omega)
 rw[VQ hx.1]
 exact fin _ (Int.emod_nonneg _ (by omega)) (fun h=>Int.emod_lt_of_pos _ (by omega))
theorem JcU(H:Jm)(n:Nat):J0 H (H.take n):=fun id b h=>by
 rw[List.getElem?_take]at h
 split at h
 · exact h
 · cases h
theorem Jc1{H H1 H2 X:Jm}{T:List Nat}(f1:Vn H H1 T)(f2:Vn (H1++X) H2 T):Vn H (H2.take H.length) T:=by
 have hl:H2.length=H1.length+X.length:=by rw[f2.1,Jk]
 refine⟨by rw[JL,hl,f1.1];omega,fun i hi=> ?_⟩
 by_cases h:i<H.length
 · rw[Qd h,f2.2 i hi,Jb (by rw[f1.1];exact h),f1.2 i hi]
 · rw[List.getElem?_take_eq_none (by omega),Jz (by omega)]
theorem Zl.take{H:Jm}{id g n:Nat}{B:Int}(h:Zl H id g B)(hn:id<n):Zl (H.take n) id g B:=h.same (by rw[Qd hn])
theorem Zl.app{H X:Jm}{id g:Nat}{B:Int}(h:Zl H id g B):Zl (H++X) id g B:=h.same (by rw[Jb h.lt])
theorem Vn.last{H H2:Jm}{id sz gb:Nat}{cs:List CV}(f:Vn (H++[some ⟨gb,sz,cs⟩]) H2 [id])(hid:id<H.length):Lg.look H2 H.length gb=some ⟨gb,sz,cs⟩:=by
 rw[f.look (by simp;omega)];exact JI
theorem R5(H:Jm)(id g:Nat)(B n:Int)(hr:Zl H id g B)(hB:B≤2^40)(hn:n≤1000):Jn Tryz.prog 70 [.c (.ptr id g 0),int n] H (fun v H'=>(∃b:Bool,v=bool b∧(n≤0→b=false))∧Zl H' id g (B+1)∧Vn H H' [id]):=by
 refine Jn.cw (c:=_) Tryz.func70 rfl (n:=15) Tryz.ntmps70 (rs:=[.tmp 4]) rfl ?_
 simp only[Je,Jf,zA,zS,Jd,Ja,Jc]
 simp(maxSteps:=999999)(disch:=omega)only[go_sem,zA,zM,zS,zE,zL]
 ((with_reducible first|refine JH ?_ ?_|refine JD ?_ ?_|refine JP ?_ ?_|refine Jv ?_ ?_|refine JF ?_ ?_|refine JG ?_ ?_|refine JB ?_ ?_|refine JC ?_ ?_|refine JN ?_ ?_|refine JO ?_ ?_|refine Jw ?_ ?_|refine Jx ?_ ?_)<;>intro h1<;>simp(maxSteps:=999999)(disch:=omega)only[go_sem,zA,zM,zS,zE,zL,h1])
 · refine JY.run (QL H id g B n hr hB) (⟨_,Tryz.func68,rfl,rfl⟩:Jh Tryz.prog 68) rfl rfl ?_
   rintro _ H1 ⟨⟨y,rfl,y0,y1⟩,r1,f1⟩
   simp(maxSteps:=999999)(disch:=omega)only[go_sem,zA,zM,zS,zE,zL]
   exact⟨_,J0.refl _,⟨_,rfl,fun h=>by omega⟩,r1,f1⟩
 · exact⟨_,J0.refl _,⟨_,rfl,fun h=>rfl⟩,hr.mono (by omega),Vn.refl _ _⟩
theorem JcP(H:Jm)(id g:Nat)(B n:Int)(hr:Zl H id g B)(hB:B≤2^39)(hn:n≤1000):Jn Tryz.prog 115 [.c (.ptr id g 0),int n] H (fun v H'=>(∃y,v=int y∧-1≤y∧y≤5∧(n≤0→2≤y∧y≤4))∧Zl H' id g (B+2)∧Vn H H' [id]):=by
 refine Jn.cw (c:=_) Tryz.func115 rfl (n:=18) Tryz.ntmps115 (rs:=[.tmp 4]) rfl ?_
 simp only[Je,Jf,zA,zS,Jd,Ja,Jc]
 simp(maxSteps:=999999)(disch:=omega)only[go_sem,zA,zM,zS,zE,zL]
 refine JY.run (R5 H id g B n hr (by omega) hn) (⟨_,Tryz.func70,rfl,rfl⟩:Jh Tryz.prog 70) rfl rfl ?_
 rintro _ H1 ⟨⟨b,rfl,hb⟩,r1,f1⟩
 simp(maxSteps:=999999)(disch:=omega)only[go_sem,zA,zM,zS,zE,zL]
 have hlt:id<H1.length:=r1.lt
 have hlt':id<H.length:=hr.lt
 ((first|(with_reducible first|refine Jl ?_ ?_|refine Jj ?_ ?_|refine Jp ?_ ?_)|refine Jr ?_ ?_)<;>intro h)
 · simp(maxSteps:=999999)(disch:=omega)only[go_sem,zA,zM,zS,zE,zL]
   intro gb
   refine JY.run (QL _ id g (B+1) 3 r1.app (by omega)) (⟨_,Tryz.func68,rfl,rfl⟩:Jh Tryz.prog 68) rfl rfl ?_
   rintro _ H2 ⟨⟨y,rfl,y0,y1⟩,r2,f2⟩
   have hb2:=f2.last hlt
   have y1:=y1 (by omega)
   have hn0:¬n≤0:=fun h0=>by rw[hb h0]at h;cases h
   obtain rfl|rfl|rfl:y=0∨y=1∨y=2:=by omega
   all_goals
    simp(maxSteps:=999999)(disch:=omega)only[go_sem,zA,zM,zS,zE,zL,hb2,Int.reduceToNat]
    exact⟨_,JcU _ _,⟨_,rfl,by omega,by omega,by omega⟩,(r2.take hlt').mono (by omega),Jc1 f1 f2⟩
 · simp(maxSteps:=999999)(disch:=omega)only[go_sem,zA,zM,zS,zE,zL]
   intro gb
   refine JY.run (QL _ id g (B+1) 5 r1.app (by omega)) (⟨_,Tryz.func68,rfl,rfl⟩:Jh Tryz.prog 68) rfl rfl ?_
   rintro _ H2 ⟨⟨y,rfl,y0,y1⟩,r2,f2⟩
   have hb2:=f2.last hlt
   have y1:=y1 (by omega)
   obtain rfl|rfl|rfl|rfl|rfl:y=0∨y=1∨y=2∨y=3∨y=4:=by omega
   all_goals
    simp(maxSteps:=999999)(disch:=omega)only[go_sem,zA,zM,zS,zE,zL,hb2,Int.reduceToNat]
    exact⟨_,JcU _ _,⟨_,rfl,by omega,by omega,by omega⟩,(r2.take hlt').mono (by omega),Jc1 f1 f2⟩
theorem JcQ(b:List Int)(hb:∀x∈b,0≤x∧x≤255)(hl:b.length≤2^40):Jn Tryz.prog 36 [rsl (eI .u8) b] [] (fun v H'=>∃g,v= .c (.ptr 0 g 0)∧Zl H' 0 g 0∧H'.length=1):=by
 refine Jn.cw (c:=_) Tryz.func36 rfl (n:=11) Tryz.ntmps36 (rs:=[.tmp 2]) rfl ?_
 simp only[Je,Jf,zA,zS,Jd,Ja,Jc]
 simp(maxSteps:=999999)(disch:=omega)only[go_sem,zA,zM,zS,zE,zL]
 ((first|(with_reducible first|refine Jl ?_ ?_|refine Jj ?_ ?_|refine Jp ?_ ?_)|refine Jr ?_ ?_)<;>intro h)
 · simp(maxSteps:=999999)(disch:=omega)only[go_sem,zA,zM,zS,zE,zL]
   intro g
   refine⟨_,J0.refl _,g,rfl,⟨1,sub b 0 2000,0,by rw[VI], ?_, ?_,by omega,by omega⟩,rfl⟩
   · simp[sub];omega
   · intro x hx
     exact hb x (List.mem_of_mem_drop (List.mem_of_mem_take hx))
 · simp(maxSteps:=999999)(disch:=omega)only[go_sem,zA,zM,zS,zE,zL]
   intro g
   exact⟨_,J0.refl _,g,rfl,⟨1,b,0,by rw[VI],by omega,hb,by omega,by omega⟩,rfl⟩
end Go.Lg

namespace Go.Lg
open Go.Proofs
def Zf(n line:Nat):List Int:=(List.range n).map fun k=>if line<n then((line*n+k:Nat):Int)else((k*n+line -n:Nat):Int)
def Vg(xs:List Int):List Int→Nat→Bool
 |[],_=>false
 |c::cs,seen=>if 0<JA xs c&&seen.testBit (JA xs c).toNat then true else Vg xs cs (seen|||2^(JA xs c).toNat)
def UB(xs:List Int)(n:Nat):Bool:=(List.range (2*n)).any fun line=>Vg xs (Zf n line) 0
def V8(n:Nat)(f:List Int→Nat→List Int×Nat)(xs:List Int)(i:Nat):List Nat→Nat→List Int×Nat
 |[],l=>([],l)
 |v::vs,l=>if UB (xs.set i v) n=true then V8 n f xs i vs l else if(f (xs.set i v) l).1≠[]then f (xs.set i v) l else V8 n f xs i vs (f (xs.set i v) l).2
def VB(n:Nat):Nat→List Int→Nat→List Int×Nat
 |0,xs,l=>if l=0 then(xs,0)else([],l -1)
 |m+1,xs,l=>V8 n (VB n m) xs (xs.length -(m+1)) ((List.range n).map (· +1)) l
def Jdf(n:Nat)(f:List Int→Nat)(xs:List Int)(i:Nat):List Nat→Nat
 |[]=>0
 |v::vs=>(if UB (xs.set i v) n=true then 0 else f (xs.set i v))+Jdf n f xs i vs
def Jen(n:Nat):Nat→List Int→Nat
 |0,_=>1
 |m+1,xs=>Jdf n (Jen n m) xs (xs.length -(m+1)) ((List.range n).map (· +1))
def Jjt(xs:List Int)(c l:Nat)(r:List Int×Nat):Prop:=(l<c→r.1.length=xs.length∧r.1≠[])∧(c≤l→r=([],l -c))
theorem Fe(n:Nat)(f:List Int→Nat→List Int×Nat)(g:List Int→Nat)(xs:List Int)(i:Nat)(h:∀ys l,ys.length=xs.length→Jjt ys (g ys) l (f ys l)):∀(vs:List Nat) (l:Nat),Jjt xs (Jdf n g xs i vs) l (V8 n f xs i vs l)
 |[],l=>⟨fun h=>by simp[Jdf]at h,fun h=>by simp[V8,Jdf]⟩
 |v::vs,l=>by
  have ih:=fun l=>Fe n f g xs i h vs l
  have hl:(xs.set i (v:Int)).length=xs.length:=by simp
  obtain⟨h1,h2⟩:=h (xs.set i v) l hl
  unfold V8 Jdf
  by_cases hc:UB (xs.set i v) n=true
  · simp only[if_pos hc,Nat.zero_add];exact ih l
  · simp only[if_neg hc]
    by_cases hlt:l<g (xs.set i v)
    · obtain⟨k1,k2⟩:=h1 hlt
      rw[if_pos k2]
      exact⟨fun _=>⟨by rw[k1,hl],k2⟩,fun hle=>by omega⟩
    · have e:=h2 (by omega)
      rw[e]
      simp only[ne_eq,not_true_eq_false,if_false]
      obtain⟨q1,q2⟩:=ih (l -g (xs.set i v))
      refine⟨fun h=>q1 (by omega),fun h=> ?_⟩
      rw[q2 (by omega)]
      congr 1
      omega
theorem Gq(n:Nat):∀(m:Nat) (xs:List Int) (l:Nat),xs≠[]→Jjt xs (Jen n m xs) l (VB n m xs l)
 |0,xs,l,hx=>by
  unfold VB Jen
  refine⟨fun h=> ?_,fun h=> ?_⟩
  · rw[if_pos (by omega)];exact⟨rfl,hx⟩
  · rw[if_neg (by omega)]
 |m+1,xs,l,hx=>by
  unfold VB Jen
  refine Fe n _ _ xs _ (fun ys l hl=>Gq n m ys l fun h0=>hx ?_) _ l
  rw[h0]at hl
  exact List.eq_nil_of_length_eq_zero hl.symm
theorem Q3(l:List Int)(i:Nat)(v:Int)(k:Nat)(h:i<l.length):JA (l.set i v) (k:Int)=if k=i then v else JA l k:=by
 rw[R7 _ _ _ _ h (by omega)]
 by_cases hk:k=i
 · rw[if_pos (by omega),if_pos hk]
 · rw[if_neg (by omega),if_neg hk]
theorem WT{ys:List Int}(h0:∀c:Int,0≤JA ys c):∀(cells:List Int) (seen:Nat),Vg ys cells seen=false↔(∀c∈cells,0<JA ys c→seen.testBit (JA ys c).toNat=false)∧cells.Pairwise (fun c d=>0<JA ys c→JA ys c≠JA ys d)
 |[],seen=>by simp[Vg]
 |c::cs,seen=>by
  have ih:=WT h0 cs (seen|||2^(JA ys c).toNat)
  have hc:=h0 c
  unfold Vg
  by_cases hs:(decide (0<JA ys c)&&seen.testBit (JA ys c).toNat)=true
  · rw[if_pos hs]
    simp only[Bool.and_eq_true,decide_eq_true_eq]at hs
    refine⟨fun h=>(by cases h),fun h=> ?_⟩
    have:=h.1 c (by simp) hs.1
    rw[hs.2]at this
    cases this
  · rw[if_neg hs,ih]
    simp only[Bool.and_eq_true,decide_eq_true_eq,not_and,Bool.not_eq_true]at hs
    simp only[Nat.testBit_or,Nat.testBit_two_pow,Bool.or_eq_false_iff,decide_eq_false_iff_not,List.pairwise_cons,Qx]
    constructor
    · rintro⟨h1,h2⟩
      refine⟨fun d hd=> ?_,fun d hd hp he=> ?_,h2⟩
      · rcases hd with rfl|hd
        · exact hs
        · exact fun hp=>(h1 d hd hp).1
      · have:=(h1 d hd (by omega)).2
        omega
    · rintro⟨h1,h2,h3⟩
      refine⟨fun d hd hp=>⟨h1 d (.inr hd) hp,fun he=> ?_⟩,h3⟩
      have:=h0 d
      have:=h2 d hd (by omega)
      omega
def NC(ys:List Int)(n:Nat):Prop:=∀p q:Nat,p<q→q<n*n→(p/n=q/n∨p%n=q%n)→0<JA ys p→JA ys p≠JA ys q
theorem W9{n:Nat}{f:Nat→Int}{R:Int→Int→Prop}:((List.range n).map f).Pairwise R↔∀a b:Nat,a<b→b<n→R (f a) (f b):=by
 rw[List.pairwise_map,List.pairwise_iff_getElem]
 simp only[List.length_range,List.getElem_range]
 exact⟨fun h a b hab hb=>h a b (by omega) hb hab,fun h a b ha hb hab=>h a b hab hb⟩
theorem XZ{ys:List Int}{n:Nat}(hn:n=2∨n=3∨n=4)(h0:∀c:Int,0≤JA ys c):UB ys n=false↔NC ys n:=by
 unfold UB Zf
 rw[List.any_eq_false]
 simp only[List.mem_range,Bool.not_eq_true]
 constructor
 · intro h p q hpq hq hl hp
   rcases hl with hl|hl
   · have h1:=((WT h0 _ 0).1 (h (p/n) (by rcases hn with rfl|rfl|rfl<;>omega))).2
     rw[W9]at h1
     have hr:p/n<n:=by rcases hn with rfl|rfl|rfl<;>omega
     have:=h1 (p%n) (q%n) (by rcases hn with rfl|rfl|rfl<;>omega) (by rcases hn with rfl|rfl|rfl<;>omega)
     rw[if_pos hr,if_pos hr]at this
     have e1:p/n*n+p%n=p:=by rcases hn with rfl|rfl|rfl<;>omega
     have e2:p/n*n+q%n=q:=by rcases hn with rfl|rfl|rfl<;>omega
     rw[e1,e2]at this
     exact this hp
   · have hc:p%n<n:=by rcases hn with rfl|rfl|rfl<;>omega
     have h1:=((WT h0 _ 0).1 (h (n+p%n) (by omega))).2
     rw[W9]at h1
     have:=h1 (p/n) (q/n) (by rcases hn with rfl|rfl|rfl<;>omega) (by rcases hn with rfl|rfl|rfl<;>omega)
     rw[if_neg (by omega),if_neg (by omega)]at this
     have e1:p/n*n+(n+p%n) -n=p:=by rcases hn with rfl|rfl|rfl<;>omega
     have e2:q/n*n+(n+p%n) -n=q:=by rcases hn with rfl|rfl|rfl<;>omega
     rw[e1,e2]at this
     exact this hp
 · intro h line hl
   rw[WT h0]
   refine⟨fun c _ _=>Nat.zero_testBit _, ?_⟩
   rw[W9]
   intro a b hab hb
   split
   · refine h (line*n+a) (line*n+b) (by omega) ?_ (.inl ?_)
     · rcases hn with rfl|rfl|rfl<;>omega
     · rcases hn with rfl|rfl|rfl<;>omega
   · refine h (a*n+line -n) (b*n+line -n) ?_ ?_ (.inr ?_)
     · rcases hn with rfl|rfl|rfl<;>omega
     · rcases hn with rfl|rfl|rfl<;>omega
     · rcases hn with rfl|rfl|rfl<;>omega
structure OkS(n:Nat)(xs:List Int)(i:Nat):Prop where
 len:xs.length=n*n
 lo:∀k:Nat,k<i→1≤JA xs k∧JA xs k≤n
 hi:∀k:Nat,i≤k→JA xs k=0
 nc:NC xs n
theorem UZ(xs:List Int)(c:Int):JA xs c=JA xs ((c.toNat:Nat):Int):=by unfold JA;rw[Int.toNat_natCast]
theorem OkS.pos{n:Nat}{xs:List Int}{i:Nat}(h:OkS n xs i)(c:Int):0≤JA xs c:=by
 rw[UZ]
 generalize c.toNat=k
 by_cases hk:k<i
 · have:=(h.lo k hk).1;omega
 · rw[h.hi k (by omega)];exact Int.le_refl 0
theorem Jeq{n:Nat}(hn:n=2∨n=3∨n=4){xs:List Int}{i v:Nat}(h:OkS n xs i)(hi:i<n*n)(hv:1≤v∧v≤n):
 (UB (xs.set i v) n=false↔∀j:Nat,j<i→(j/n=i/n∨j%n=i%n)→JA xs j≠v)∧(UB (xs.set i v) n=false→OkS n (xs.set i v) (i+1)):=by
 have hset:∀k:Nat,JA (xs.set i (v:Int)) k=if k=i then(v:Int)else JA xs k:=fun k=>Q3 _ _ _ _ (by rw[h.len];exact hi)
 have h0:∀c:Int,0≤JA (xs.set i (v:Int)) c:=fun c=>by
  rw[UZ,hset]
  split
  · omega
  · exact h.pos _
 have key:UB (xs.set i v) n=false↔∀j:Nat,j<i→(j/n=i/n∨j%n=i%n)→JA xs j≠v:=by
  rw[XZ hn h0]
  constructor
  · intro hc j hj hl
    have:=hc j i hj hi hl
    rw[hset,hset,if_neg (by omega),if_pos rfl]at this
    exact this (by have:=(h.lo j hj).1;omega)
  · intro hc p q hpq hq hl hp
    rw[hset]at hp⊢
    rw[hset]
    by_cases hpi:p=i
    · rw[if_pos hpi,if_neg (by omega),h.hi q (by omega)];omega
    · rw[if_neg hpi]at hp⊢
      by_cases hqi:q=i
      · rw[if_pos hqi]
        subst hqi
        exact hc p hpq hl
      · rw[if_neg hqi]
        exact h.nc p q hpq hq hl hp
 refine⟨key,fun hc=>⟨by simp[h.len],fun k hk=> ?_,fun k hk=> ?_,(XZ hn h0).1 hc⟩⟩
 · rw[hset]
   split
   · omega
   · exact h.lo k (by omega)
 · rw[hset,if_neg (by omega)]
   exact h.hi k (by omega)
def JdE(f:Nat→Nat):List Nat→Nat
 |[]=>0
 |v::vs=>f v+JdE f vs
theorem Gm{f g:Nat→Nat}:∀(vs:List Nat),(∀v∈vs,f v=g v)→JdE f vs=JdE g vs
 |[],_=>rfl
 |v::vs,h=>by simp only[JdE];rw[h v (by simp),Gm vs fun w hw=>h w (by simp[hw])]
theorem Jde(n:Nat)(f:List Int→Nat)(xs:List Int)(i:Nat):∀vs,Jdf n f xs i vs=JdE (fun v=>if UB (xs.set i v) n=true then 0 else f (xs.set i v)) vs
 |[]=>rfl
 |v::vs=>by simp only[Jdf,JdE];rw[Jde n f xs i vs]
def cF(n:Nat):Nat→Nat→Nat→Nat
 |0,_,_=>1
 |m+1,R,C=>JdE (fun v=>if(R.testBit v||C.testBit (8*((n*n -(m+1))%n)+v))=true then 0 else cF n m (if(n*n -(m+1))%n+1=n then 0 else R|||2^v) (C|||2^(8*((n*n -(m+1))%n)+v))) ((List.range n).map (· +1))
structure InvS(n:Nat)(xs:List Int)(i R C:Nat):Prop where
 row:∀v:Nat,1≤v→v≤n→(R.testBit v=true↔∃j:Nat,j<i∧j/n=i/n∧JA xs j=v)
 col:∀c v:Nat,c<n→1≤v→v≤n→(C.testBit (8*c+v)=true↔∃j:Nat,j<i∧j%n=c∧JA xs j=v)
theorem Jk2{n:Nat}(hn:n=2∨n=3∨n=4):∀(m i:Nat) (xs:List Int) (R C:Nat),i+m=n*n→OkS n xs i→InvS n xs i R C→Jen n m xs=cF n m R C
 |0,_,_,_,_,_,_,_=>rfl
 |m+1,i,xs,R,C,him,ho,hI=>by
  have hi:i<n*n:=by omega
  have e1:xs.length -(m+1)=i:=by rw[ho.len];omega
  have e2:n*n -(m+1)=i:=by omega
  unfold Jen cF
  rw[Jde,e1,e2]
  refine Gm _ fun v hv=> ?_
  obtain⟨v',hv',rfl⟩:=Qh.1 hv
  have hv2:1≤v'+1∧v'+1≤n:=by have:=List.mem_range.1 hv';omega
  generalize v'+1=v at hv2⊢
  obtain⟨k1,k2⟩:=Jeq hn ho hi hv2
  have hcn:i%n<n:=by rcases hn with rfl|rfl|rfl<;>omega
  have hcl:UB (xs.set i (v:Int)) n=(R.testBit v||C.testBit (8*(i%n)+v)):=by
   rw[Bool.eq_iff_iff,Bool.or_eq_true,hI.row v hv2.1 hv2.2,hI.col _ v hcn hv2.1 hv2.2]
   constructor
   · intro hc
     have:¬∀j:Nat,j<i→(j/n=i/n∨j%n=i%n)→JA xs j≠v:=fun h=>by rw[k1.2 h]at hc;cases hc
     have:∃j:Nat,j<i∧(j/n=i/n∨j%n=i%n)∧JA xs j=v:=Classical.byContradiction fun hno=>this fun j hj hl he=>hno ⟨j,hj,hl,he⟩
     obtain⟨j,hj,hl,he⟩:=this
     rcases hl with hl|hl
     · exact .inl ⟨j,hj,hl,he⟩
     · exact .inr ⟨j,hj,hl,he⟩
   · intro hc
     cases hcc:UB (xs.set i (v:Int)) n with
     |true=>rfl
     |false=>
      have:=k1.1 hcc
      rcases hc with⟨j,hj,hl,he⟩|⟨j,hj,hl,he⟩
      · exact absurd he (this j hj (.inl hl))
      · exact absurd he (this j hj (.inr hl))
  rw[hcl]
  by_cases hcc:(R.testBit v||C.testBit (8*(i%n)+v))=true
  · rw[if_pos hcc,if_pos hcc]
  · rw[if_neg hcc,if_neg hcc]
    have hcf:UB (xs.set i (v:Int)) n=false:=by rw[hcl];simpa using hcc
    have hset:∀k:Nat,k<i+1→JA (xs.set i (v:Int)) k=if k=i then(v:Int)else JA xs k:=fun k hk=>Q3 _ _ _ _ (by rw[ho.len];exact hi)
    refine Jk2 hn m (i+1) _ _ _ (by omega) (k2 hcf) ⟨fun w hw1 hw2=> ?_,fun c w hc hw1 hw2=> ?_⟩
    · split
      · rename_i hend
        rw[Nat.zero_testBit]
        refine⟨fun h=>(by cases h),fun⟨j,hj,hl,_⟩=> ?_⟩
        exfalso
        rcases hn with rfl|rfl|rfl<;>omega
      · rename_i hend
        have hrow:(i+1)/n=i/n:=by rcases hn with rfl|rfl|rfl<;>omega
        rw[Nat.testBit_or,Nat.testBit_two_pow,Bool.or_eq_true,hI.row w hw1 hw2,decide_eq_true_eq,hrow]
        constructor
        · rintro(⟨j,hj,hl,he⟩|rfl)
          · exact⟨j,by omega,hl,by rw[hset j (by omega),if_neg (by omega)];exact he⟩
          · exact⟨i,by omega,rfl,by rw[hset i (by omega),if_pos rfl]⟩
        · rintro⟨j,hj,hl,he⟩
          rw[hset j hj]at he
          split at he
          · exact .inr (by omega)
          · exact .inl ⟨j,by omega,hl,he⟩
    · rw[Nat.testBit_or,Nat.testBit_two_pow,Bool.or_eq_true,hI.col c w hc hw1 hw2,decide_eq_true_eq]
      constructor
      · rintro(⟨j,hj,hl,he⟩|he)
        · exact⟨j,by omega,hl,by rw[hset j (by omega),if_neg (by omega)];exact he⟩
        · exact⟨i,by omega,by rcases hn with rfl|rfl|rfl<;>omega,by rw[hset i (by omega),if_pos rfl];rcases hn with rfl|rfl|rfl<;>omega⟩
      · rintro⟨j,hj,hl,he⟩
        rw[hset j hj]at he
        split at he
        · rename_i hji
          subst hji
          exact .inr (by omega)
        · exact .inl ⟨j,by omega,hl,he⟩
theorem W1(n:Nat)(c:Int):JA (Jd n (0:Int)) c=0:=by
 simp only[JA,List.getD,List.getElem?_replicate]
 split<;>rfl
theorem Jf4(n:Nat):OkS n (Jd (n*n) 0) 0:=⟨by simp,fun k hk=>by omega,fun k _=>W1 _ _,fun p q _ _ _ h=>by rw[W1]at h;omega⟩
theorem Jeb(n:Nat):InvS n (Jd (n*n) 0) 0 0 0:=⟨fun v _ _=>by rw[Nat.zero_testBit];simp,fun c v _ _ _=>by rw[Nat.zero_testBit];simp⟩
def Xn(n:Nat):Nat:=if n=2 then 2 else if n=3 then 12 else 576
theorem Jl4:cF 2 4 0 0=2:=by kernel_rfl
theorem JiW:cF 3 9 0 0=12:=by kernel_rfl
theorem JkG:cF 4 16 0 0=576:=by kernel_rfl
theorem JiP{n:Nat}(hn:n=2∨n=3∨n=4):Jen n (n*n) (Jd (n*n) 0)=Xn n:=by
 rw[Jk2 hn (n*n) 0 _ 0 0 (by omega) (Jf4 n) (Jeb n)]
 rcases hn with rfl|rfl|rfl
 · exact Jl4
 · exact JiW
 · exact JkG
end Go.Lg

namespace Go.Lg
open Go.Proofs
theorem Ud(n line:Nat):(Zf n line).length=n:=by simp[Zf]
theorem Wi{n line k:Nat}(h:k<n):JA (Zf n line) k=if line<n then((line*n+k:Nat):Int)else((k*n+line -n:Nat):Int):=by
 rw[Qs (by rw[Ud];omega)]
 simp[Zf]
theorem Y7{n line k:Nat}(hn:n=2∨n=3∨n=4)(hl:line<2*n)(h:k<n):0≤JA (Zf n line) k∧JA (Zf n line) k<(n*n:Nat):=by
 rw[Wi h]
 split<;>rcases hn with rfl|rfl|rfl<;>omega
theorem Jac{n line:Nat}(hn:n=2∨n=3∨n=4)(hl:line<2*n):Jn Tryz.prog 154 [int n,int line] [] (GE (eI .i64) 1 (Zf n line)):=by
 have hb:(line:Int)*n≤28∧0≤(line:Int)*n:=by rcases hn with rfl|rfl|rfl<;>omega
 have hn4:2≤n∧n≤4:=by omega
 have hlen:=Ud n line
 refine Jn.cw (c:=_) Tryz.func154 rfl (n:=46) Tryz.ntmps154 (rs:=[.tmp 4]) rfl ?_
 simp only[Je,Jf,zA,zS,Jd,Ja,Jc]
 simp(maxSteps:=999999)(disch:=omega)only[go_sem,zA,zM,zS,zE,zL]
 intro g
 refine Qv (fun(k g:Nat)=>n -k) (fun k g=>k≤n) (fun k g=>[.k, .k, .a, .a, .a, .p (.c (.own 0 g 0 k none)), .p (int k), .a, .a, .a, .a, .a, .a, .a, .a, .a, .a, .a, .a, .a, .a, .a, .a, .a, .a, .a, .a, .a, .a, .a, .a, .a, .a, .a, .a, .a, .a, .a, .a, .a, .a, .a, .a, .a, .a, .a]) (fun k g=>[some ⟨g,1,cl (eI .i64) ((Zf n line).take k)⟩]) 0 g
  (Nat.zero_le _) (by simp(maxSteps:=999999)(disch:=omega)only[go_sem,zA,zM,zS,zE,zL];rfl) (J0.refl _) ?_
 intro k g hk
 simp(maxSteps:=999999)(disch:=omega)only[go_sem,zA,zM,zS,zE,zL]
 ((with_reducible first|refine JH ?_ ?_|refine JD ?_ ?_|refine JP ?_ ?_|refine Jv ?_ ?_|refine JF ?_ ?_|refine JG ?_ ?_|refine JB ?_ ?_|refine JC ?_ ?_|refine JN ?_ ?_|refine JO ?_ ?_|refine Jw ?_ ?_|refine Jx ?_ ?_)<;>intro h1<;>simp(maxSteps:=999999)(disch:=omega)only[go_sem,zA,zM,zS,zE,zL,h1])
 · first|refine JY.rd (Qy _ _ _) (⟨_,Tryz.func40,rfl,rfl⟩:Jh Tryz.prog 40) rfl rfl rfl rfl ?_|refine JM.rd (Qy _ _ _) (⟨_,Tryz.func40,rfl,rfl⟩:Jh Tryz.prog 40) rfl rfl rfl rfl ?_
   simp(maxSteps:=999999)(disch:=omega)only[go_sem,zA,zM,zS,zE,zL]
   ((with_reducible first|refine JH ?_ ?_|refine JD ?_ ?_|refine JP ?_ ?_|refine Jv ?_ ?_|refine JF ?_ ?_|refine JG ?_ ?_|refine JB ?_ ?_|refine JC ?_ ?_|refine JN ?_ ?_|refine JO ?_ ?_|refine Jw ?_ ?_|refine Jx ?_ ?_)<;>intro h2<;>simp(maxSteps:=999999)(disch:=omega)only[go_sem,zA,zM,zS,zE,zL,h2])
   rotate_left
   · exfalso;omega
   first|refine JY.rd (Qy _ _ _) (⟨_,Tryz.func40,rfl,rfl⟩:Jh Tryz.prog 40) rfl rfl rfl rfl ?_|refine JM.rd (Qy _ _ _) (⟨_,Tryz.func40,rfl,rfl⟩:Jh Tryz.prog 40) rfl rfl rfl rfl ?_
   simp(maxSteps:=999999)(disch:=omega)only[go_sem,zA,zM,zS,zE,zL]
   have h1:k<n:=by omega
   have hkb:(k:Int)*n≤16∧0≤(k:Int)*n:=by rcases hn with rfl|rfl|rfl<;>omega
   have hne:=Wi (line:=line) h1
   ((first|(with_reducible first|refine Jl ?_ ?_|refine Jj ?_ ?_|refine Jp ?_ ?_)|refine Jr ?_ ?_)<;>intro h3)
   · simp(maxSteps:=999999)(disch:=omega)only[go_sem,zA,zM,zS,zE,zL]
     ((first|(with_reducible first|refine Jl ?_ ?_|refine Jj ?_ ?_|refine Jp ?_ ?_)|refine Jr ?_ ?_)<;>intro h4)
     · simp(maxSteps:=999999)(disch:=omega)only[go_sem,zA,zM,zS,zE,zL]
       intro g1 g2
       refine⟨k+1,g2,⟨by omega,by omega⟩,⟨⟨rfl,rfl⟩,by push_cast;omega⟩,ZU ?_ (Qt _)⟩
       rw[Ql (by omega),hne,if_pos (by omega)]
       push_cast
       rfl
     · simp(maxSteps:=999999)(disch:=omega)only[go_sem,zA,zM,zS,zE,zL]
       intro g1 g2
       refine⟨k+1,g2,⟨by omega,by omega⟩,⟨⟨rfl,rfl⟩,by push_cast;omega⟩,ZU ?_ (Qt _)⟩
       rw[Ql (by omega),hne,if_neg (by omega)]
       have:((k*n+line -n:Nat):Int)=(k:Int)*n+line -n:=by
        have:n≤k*n+line:=by omega
        omega
       rw[this]
   · exfalso;omega
 · have hi':k=n:=by omega
   subst hi'
   rw[Js (by omega)]
   have:=ZD (E:=eI .i64) (n:=1) (g:=g) (xs:=Zf k line) (J0.refl [some ⟨g,1,cl (eI .i64) (Zf k line)⟩])
   rw[hlen]at this
   exact this
theorem U6{n line:Nat}(hn:n=2∨n=3∨n=4)(hl:line<2*n):JW Tryz.prog 154 [int n,int line] (QG (Zf n line)):=JW.own (Jac hn hl)
theorem UE{v:Int}(h:0≤v∧v≤4):UC .shl .i64 1 .i64 v=some (.int .i64 ((2^v.toNat:Nat):Int)):=by
 obtain⟨k,rfl⟩:∃k:Nat,v=k:=⟨v.toNat,by omega⟩
 have hk:k=0∨k=1∨k=2∨k=3∨k=4:=by omega
 rcases hk with rfl|rfl|rfl|rfl|rfl<;>rfl
theorem XJ{s:Nat}{v:Int}(h:0≤v∧v≤4):UC .shr .i64 (s:Int) .i64 v=some (.int .i64 ((s>>>v.toNat:Nat):Int)):=by
 obtain⟨k,rfl⟩:∃k:Nat,v=k:=⟨v.toNat,by omega⟩
 simp only[UC]
 rw[if_neg (by omega)]
 have hb:min (k:Int).toNat IntKind.i64.bits=k:=by
  rw[Int.toNat_natCast]
  have:IntKind.i64.bits=64:=rfl
  omega
 rw[hb,Int.toNat_natCast,Nat.shiftRight_eq_div_pow]
 have e:((s:Int)).fdiv (2^k)=((s/2^k:Nat):Int):=by
  rw[Int.fdiv_eq_ediv_of_nonneg _ (by have:(0:Int)<2^k:=Int.pow_pos (by omega);omega)]
  push_cast
  rfl
 rw[e]
theorem R4{a b:Nat}(ha:a<2^62)(hb:b<2^62):Ug .or .i64 (a:Int) (b:Int)=((a|||b:Nat):Int):=by
 have hz:a|||b<2^62:=Nat.or_lt_two_pow ha hb
 have e:(BitVec.ofInt 64 (a:Int)|||BitVec.ofInt 64 (b:Int)).toNat=a|||b:=by
  simp only[BitVec.toNat_or,BitVec.ofInt_natCast,BitVec.toNat_ofNat]
  rw[Nat.mod_eq_of_lt (by omega),Nat.mod_eq_of_lt (by omega)]
 unfold Ug
 show IntKind.wrap .i64 ((BitVec.ofInt 64 (a:Int)|||BitVec.ofInt 64 (b:Int)).toNat:Int)=_
 rw[e]
 exact Y5 (by omega)
theorem JbF{s k:Nat}:decide ((((s>>>k:Nat):Int)).tmod 2=1)=s.testBit k:=by
 rw[Nat.testBit_eq_decide_div_mod_eq,Nat.shiftRight_eq_div_pow]
 generalize s/2^k=m
 rw[VQ (by omega),decide_eq_decide]
 omega
theorem FE(xs:List Int)(c:Int)(cs:List Int)(seen:Nat):Vg xs (c::cs) seen=if(decide (0<JA xs c)&&seen.testBit (JA xs c).toNat)=true then true else Vg xs cs (seen|||2^(JA xs c).toNat):=rfl
theorem Fv{n:Nat}(hn:n=2∨n=3∨n=4)(xs:List Int)(hl:xs.length=n*n)(hv:∀k:Nat,k<xs.length→0≤JA xs k∧JA xs k≤4):JW Tryz.prog 152 [QG xs,int n] (bool (UB xs n)):=by
 have hn4:2≤n∧n≤4:=by omega
 refine Jn.cw (c:=_) Tryz.func152 rfl (n:=45) Tryz.ntmps152 (rs:=[.tmp 4]) rfl ?_
 simp only[Je,Jf,zA,zS,Jd,Ja,Jc]
 simp(maxSteps:=999999)(disch:=omega)only[go_sem,zA,zM,zS,zE,zL]
 refine JT (fun i:Nat=>2*n -i) (fun i=>i≤2*n∧∀j,j<i→Vg xs (Zf n j) 0=false) (fun i=>[.k, .k, .a, .a, .a, .p (int i), .a, .a, .a, .a, .a, .a, .a, .a, .a, .a, .a, .a, .a, .a, .a, .a, .a, .a, .a, .a, .a, .a, .a, .a, .a, .a, .a, .a, .a, .a, .a, .a, .a, .a, .a, .a, .a, .a, .a]) (fun _=>[]) 0 ⟨Nat.zero_le _,fun j hj=>absurd hj (Nat.not_lt_zero _)⟩ (by simp(maxSteps:=999999)(disch:=omega)only[go_sem,zA,zM,zS,zE,zL];rfl) (Qt _) ?_
 rintro i ⟨hi,hno⟩
 simp(maxSteps:=999999)(disch:=omega)only[go_sem,zA,zM,zS,zE,zL]
 ((first|(with_reducible first|refine Jl ?_ ?_|refine Jj ?_ ?_|refine Jp ?_ ?_)|refine Jr ?_ ?_)<;>intro h1)
 · have h1:i<2*n:=by omega
   simp(maxSteps:=999999)(disch:=omega)only[go_sem,zA,zM,zS,zE,zL]
   first|refine JY.mk (U6 hn h1) (⟨_,Tryz.func154,rfl,rfl⟩:Jh Tryz.prog 154) rfl rfl rfl rfl rfl ?_|refine JM.mk (U6 hn h1) (⟨_,Tryz.func154,rfl,rfl⟩:Jh Tryz.prog 154) rfl rfl rfl rfl rfl ?_
   simp(maxSteps:=999999)(disch:=omega)only[go_sem,zA,zM,zS,zE,zL]
   have hlen:=Ud n i
   refine Qv (fun(k seen:Nat)=>n -k) (fun k seen=>k≤n∧Vg xs (Zf n i) 0=Vg xs ((Zf n i).drop k) seen∧seen<32) (fun k seen=>[.k, .k, .a, .a, .a, .k, .k, .p (int seen), .p (int k), .a, .a, .a, .a, .a, .a, .a, .a, .a, .a, .a, .a, .a, .a, .a, .a, .a, .a, .a, .a, .a, .a, .a, .a, .a, .a, .a, .a, .a, .a, .a, .a, .a, .a, .a, .a]) (fun _ _=>[]) 0 0 ⟨Nat.zero_le _,rfl,by omega⟩ (by simp(maxSteps:=999999)(disch:=omega)only[go_sem,zA,zM,zS,zE,zL];rfl) (Qt _) ?_
   rintro k seen ⟨hk,hc,hs⟩
   simp(maxSteps:=999999)(disch:=omega)only[go_sem,zA,zM,zS,zE,zL]
   ((first|(with_reducible first|refine Jl ?_ ?_|refine Jj ?_ ?_|refine Jp ?_ ?_)|refine Jr ?_ ?_)<;>intro h2)
   · have h2:k<n:=by omega
     obtain⟨hb0,hb1⟩:=Y7 hn h1 h2
     obtain⟨c,hcc⟩:∃c:Nat,JA (Zf n i) k=c:=⟨(JA (Zf n i) k).toNat,by omega⟩
     have hcl:c<xs.length:=by omega
     have hvc:=hv c hcl
     have hd:(Zf n i).drop k=(c:Int)::(Zf n i).drop (k+1):=by
      rw[List.drop_eq_getElem_cons (by omega),←hcc,Qs (by omega)]
      simp
     rw[hd,FE]at hc
     have hor:seen|||2^(JA xs c).toNat<32:=by
      refine Nat.or_lt_two_pow (n:=5) (by omega) ?_
      have:(JA xs c).toNat=0∨(JA xs c).toNat=1∨(JA xs c).toNat=2∨(JA xs c).toNat=3∨(JA xs c).toNat=4:=by omega
      rcases this with h|h|h|h|h<;>rw[h]<;>omega
     have hpw:2^(JA xs c).toNat<2^62:=Nat.pow_lt_pow_right (by omega) (by omega)
     simp(maxSteps:=999999)(disch:=omega)only[go_sem,zA,zM,zS,zE,zL,hcc]
     ((with_reducible first|refine JH ?_ ?_|refine JD ?_ ?_|refine JP ?_ ?_|refine Jv ?_ ?_|refine JF ?_ ?_|refine JG ?_ ?_|refine JB ?_ ?_|refine JC ?_ ?_|refine JN ?_ ?_|refine JO ?_ ?_|refine Jw ?_ ?_|refine Jx ?_ ?_)<;>intro h3<;>simp(maxSteps:=999999)(disch:=omega)only[go_sem,zA,zM,zS,zE,zL,h3])
     · simp(maxSteps:=999999)(disch:=omega)only[go_sem,zA,zM,zS,zE,zL,XJ hvc,JbF]
       ((first|(with_reducible first|refine Jl ?_ ?_|refine Jj ?_ ?_|refine Jp ?_ ?_)|refine Jr ?_ ?_)<;>intro h4)
       · simp(maxSteps:=999999)(disch:=omega)only[go_sem,zA,zM,zS,zE,zL]
         have hcl:Vg xs (Zf n i) 0=true:=by rw[hc,if_pos (by simp[h3,h4])]
         unfold UB
         rw[eq_comm,List.any_eq_true]
         exact⟨i,List.mem_range.2 h1,hcl⟩
       · simp(maxSteps:=999999)(disch:=omega)only[go_sem,zA,zM,zS,zE,zL,UE hvc,R4 (show seen<2^62 by omega) hpw]
         exact⟨k+1,_,⟨⟨by omega,by rw[hc,if_neg (by simp[h4])],hor⟩,by omega⟩,⟨rfl,by push_cast;omega⟩,Qt _⟩
     · simp(maxSteps:=999999)(disch:=omega)only[go_sem,zA,zM,zS,zE,zL,UE hvc,R4 (show seen<2^62 by omega) hpw]
       exact⟨k+1,_,⟨⟨by omega,by rw[hc,if_neg (by simp;omega)],hor⟩,by omega⟩,⟨rfl,by push_cast;omega⟩,Qt _⟩
   · have hkn:k=n:=by omega
     have hc':Vg xs (Zf n i) 0=false:=by rw[hc,hkn,List.drop_of_length_le (by omega)];rfl
     simp(maxSteps:=999999)(disch:=omega)only[go_sem,zA,zM,zS,zE,zL]
     refine⟨i+1,⟨⟨by omega,fun j hj=> ?_⟩,by omega⟩,by push_cast;omega,Qt _⟩
     by_cases hji:j=i
     · rw[hji];exact hc'
     · exact hno j (by omega)
 · simp(maxSteps:=999999)(disch:=omega)only[go_sem,zA,zM,zS,zE,zL]
   unfold UB
   rw[eq_comm,List.any_eq_false]
   intro j hj
   rw[hno j (by have:=List.mem_range.1 hj;omega)]
   simp
end Go.Lg
