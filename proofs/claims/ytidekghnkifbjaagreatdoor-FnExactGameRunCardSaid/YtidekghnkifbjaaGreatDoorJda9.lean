/- LgQ, LgTy, LgT, LgT2, LgR, LgT3, cut to what is needed. -/
import Derived.Test.YtidekghnkifbjaaGreatDoorJda8
import Derived.Test.YtidekghnkifbjaaGreatDoorProg
import Derived.KernelRfl
import Derived.ProofKit
import Derived.OpenShut
import Derived.ShutString
import Derived.ChangeOld
import Derived.SizedLaws
import Derived.ChangeSlices
import Derived.Carry
open List renaming length_cons → Ja, cons_append → Jb, nil_append → Jd, length_nil → Je, replicate → Jf, getElem?_eq_some_iff → Jh, getElem?_set_ne → Ji, getElem?_eq_getElem → Jl, length_set → Jp, length_append → Jq, take_of_length_le → Js, append_nil → Jt, getElem?_eq_none → Ju, getElem?_take_of_lt → Jz, getElem?_set_self → JE, length_singleton → JQ, length_take → JX, drop_zero → J1, mapM_cons → J3, mem_map → Qg, map_cons → Qh, length_map → Qi, getElem?_map → Qk, map_append → Qo, length_replicate → Q5, map_nil → ZJ, length_drop → Uc
open Nat renaming reduceAdd→zA,reduceMul→zM,reduceSub→zS,reduceEqDiff→zE,reduceLeDiff→zL
set_option linter.unusedSimpArgs false
set_option linter.unusedVariables false
namespace Go.Lg
class HSz {α:Type} (E:α→List FV) (n:outParam Nat):Prop where
 sz:∀x,(E x).length=n
def fl{α:Type}(E:α→List FV)(xs:List α):List FV:=xs.flatMap E
def cl{α:Type}(E:α→List FV)(xs:List α):List CV:=(fl E xs).map .f
abbrev VN {α:Type} (E:α→List FV) (xs:List α):FV:= .sl xs.length (fl E xs)
abbrev Yf {α:Type} (E:α→List FV) (xs:List α):AV:= .c (.f (VN E xs))
def Jy{α:Type}[Inhabited α](xs:List α)(e:Int):α:=xs.getD e.toNat default
section
variable{α:Type}{E:α→List FV}{n:Nat}
theorem Wh[h:HSz E n](xs:List α):(fl E xs).length=xs.length*n:=by
 induction xs with
 |nil=>simp[fl]
 |cons x xs ih=>simp only[fl,List.flatMap_cons,Jq,h.sz,Ja]at ih⊢;rw[ih,Nat.add_mul];omega
theorem Qu[h:HSz E n](xs:List α):(cl E xs).length=xs.length*n:=by simp[cl,Wh]
theorem Q7(xs ys:List α):cl E (xs++ys)=cl E xs++cl E ys:=by simp[cl,fl]
theorem JiO(x:α):cl E [x]=(E x).map .f:=by simp[cl,fl]
theorem FZ[h:HSz E n]:∀(xs:List α) (i:Nat),(fl E xs).drop (i*n)=fl E (xs.drop i)
 |[],i=>by simp[fl]
 |x::xs,0=>by simp
 |x::xs,i+1=>by
  have ih:=FZ xs i
  have:(i+1)*n=(E x).length+i*n:=by rw[h.sz,Nat.add_mul];omega
  rw[this]
  simp only[fl,List.flatMap_cons,List.drop_append,List.drop_succ_cons]at ih⊢
  rw[List.drop_eq_nil_of_le (by omega),Nat.add_sub_cancel_left,ih]
  rfl
theorem FY[h:HSz E n]:∀(xs:List α) (i:Nat),(fl E xs).take (i*n)=fl E (xs.take i)
 |[],i=>by simp[fl]
 |x::xs,0=>by simp[fl]
 |x::xs,i+1=>by
  have ih:=FY xs i
  have:(i+1)*n=(E x).length+i*n:=by rw[h.sz,Nat.add_mul];omega
  rw[this]
  simp only[fl,List.flatMap_cons,List.take_append,List.take_succ_cons]at ih⊢
  rw[Js (by omega),Nat.add_sub_cancel_left,ih]
theorem JiD[h:HSz E n](xs:List α){i:Nat}(hi:i<xs.length):((fl E xs).drop (i*n)).take n=E xs[i]:=by
 rw[FZ,List.drop_eq_getElem_cons hi]
 simp only[fl,List.flatMap_cons]
 rw[List.take_append_of_le_length (by rw[h.sz];exact Nat.le_refl _),Js (by rw[h.sz];exact Nat.le_refl _)]
theorem Qe[Inhabited α]{xs:List α}{e:Int}(h:0≤e∧e<(xs.length:Int)):Jy xs e=xs[e.toNat]'(by omega):=by
 simp[Jy,List.getD,Jl (show e.toNat<xs.length by omega)]
theorem JiQ[Inhabited α][hs:HSz E n]{H:Jn}{xs:List α}{e:Int}(h:0≤e∧e<(xs.length:Int)):Z9 H (.fp (fl E xs) (e.toNat*n)) n=some ((E (Jy xs e)).map .f):=by
 have hi:e.toNat<xs.length:=by omega
 simp only[Z9]
 rw[JiD xs hi,Wh,Qe h,if_pos]
 rw[←Nat.succ_mul]
 exact Nat.mul_le_mul_right _ hi
theorem Bf[hs:HSz E n]{xs:List α}{i j:Nat}(hi:i<xs.length)(hj:j<n):(fl E xs)[i*n+j]? =some ((E xs[i]).getD j .nil):=by
 have h:=JiD (E:=E) xs hi
 have h2:=congrArg (fun l=>l[j]?) h
 simp only[Jz hj,List.getElem?_drop]at h2
 rw[h2,List.getD,Jl (by rw[hs.sz];exact hj)]
 rfl
theorem Jil[Inhabited α][hs:HSz E 1]{H:Jn}{xs:List α}{e:Int}(h:0≤e∧e<(xs.length:Int)):Fq H (.fp (fl E xs) (e.toNat*1))=some (.c (.f ((E (Jy xs e)).getD 0 .nil))):=by
 have hi:e.toNat<xs.length:=by omega
 have:=Bf (E:=E) (xs:=xs) hi (Nat.lt_succ_self 0)
 rw[JcN,Qe h]
 rw[Nat.add_zero]at this
 rw[this];rfl
theorem Jgf[Inhabited α][hs:HSz E n]{H:Jn}{xs:List α}{e:Int}{j:Nat}(h:0≤e∧e<(xs.length:Int))(hj:j<n):Fq H (.fp (fl E xs) (e.toNat*n+j))=some (.c (.f ((E (Jy xs e)).getD j .nil))):=by
 have hi:e.toNat<xs.length:=by omega
 rw[JcN,Qe h,Bf hi hj];rfl
def ldP(b:Option Zo)(off:Nat):Option AV:=match b with
 |some b=>match b.cs[off]? with
  |some c=>some (.c c)
  |none=>none
 |none=>none
theorem Jge{H:Jn}{id g off:Nat}:Fq H (.ptr id g off)=ldP (look H id g) off:=by
 unfold Fq ldP
 simp only[Z9]
 cases hl:look H id g with
 |none=>simp only[hl]
 |some b=>
  simp only[hl]
  by_cases h:off<b.cs.length
  · rw[if_pos (by omega),Jl h]
    have:(b.cs.drop off).take 1=[b.cs[off]]:=by
     rw[List.drop_eq_getElem_cons h];rfl
    rw[this]
  · rw[if_neg (by omega),Ju (by omega)]
theorem GV{b:Zo}{off:Nat}:ldP (some b) off=(b.cs[off]?).map .c:=by
 simp only[ldP]
 cases b.cs[off]? <;>rfl
theorem JlQ[Inhabited α][hs:HSz E 1]{g sz:Nat}{xs:List α}{e:Int}(h:0≤e∧e<(xs.length:Int)):ldP (some ⟨g,sz,cl E xs⟩) (0+e.toNat*1)=some (.c (.f ((E (Jy xs e)).getD 0 .nil))):=by
 have hi:e.toNat<xs.length:=by omega
 have:=Bf (E:=E) (xs:=xs) hi (Nat.lt_succ_self 0)
 rw[Nat.add_zero]at this
 rw[GV,Nat.zero_add,Qe h]
 simp only[cl,Qk,this,Option.map_some]
theorem XR{g sz:Nat}{cs:List CV}{H:Jn}:look (some ⟨g,sz,cs⟩::H) 0 g=some ⟨g,sz,cs⟩:=by simp[look]
theorem Jgd{x:Option Zo}{H:Jn}{i g:Nat}:look (x::H) (i+1) g=look H i g:=by simp[look]
theorem VE[hs:HSz E n]{xs:List α}{i:Nat}{v:α}(h:i<xs.length):J6 (cl E xs) (0+i*n) ((E v).map .f)=cl E (xs.set i v):=by
 have e1:(cl E xs).take (0+i*n)=cl E (xs.take i):=by rw[Nat.zero_add];simp only[cl,←List.map_take,FY]
 have e2:(cl E xs).drop (0+i*n+((E v).map CV.f).length)=cl E (xs.drop (i+1)):=by
  rw[Qi,hs.sz,Nat.zero_add,←Nat.succ_mul];simp only[cl,←List.map_drop,FZ]
 rw[J6,e1,e2,List.set_eq_take_append_cons_drop,if_pos h]
 simp[cl,fl]
end
def eI(k:IntKind)(x:Int):List FV:=[.int k x]
instance(k:IntKind):HSz (eI k) 1:=⟨fun _=>rfl⟩
abbrev Ql (xs:List Int):FV:=VN (eI .i64) xs
abbrev QF (xs:List Int):AV:= .c (.f (Ql xs))
theorem Jl0(k:IntKind)(x:Int)(d:FV):(eI k x).getD 0 d= .int k x:=rfl
theorem setI{k:IntKind}{xs:List Int}{e v:Int}(h:0≤e∧e<(xs.length:Int)):J6 (cl (eI k) xs) (0+e.toNat*1) [.f (.int k v)]=cl (eI k) (xs.set e.toNat v):=
 VE (E:=eI k) (by omega)
theorem addI{k:IntKind}{xs:List Int}{v:Int}:cl (eI k) xs++[.f (.int k v)]=cl (eI k) (xs++[v]):=by rw[Q7,JiO];rfl
theorem Jk5(n:Nat)(k:IntKind):QL (n*1) [.f (.int k 0)]=cl (eI k) (Jf n 0):=by
 simp only[QL,Nat.mul_one,JQ,Nat.mod_one]
 induction n with
 |zero=>rfl
 |succ n ih=>rw[List.range_succ,Qo,ih,List.replicate_succ',Q7];rfl
theorem Jha(z:List CV):QL 0 z=[]:=rfl
def bs(l:List UInt8):ByteArray:=⟨l.toArray⟩
abbrev W0 (l:List UInt8):AV:= .c (.f (.str (bs l)))
def eS(l:List UInt8):List FV:=[.str (bs l)]
instance:HSz eS 1:=⟨fun _=>rfl⟩
theorem JlX(x:List UInt8)(d:FV):(eS x).getD 0 d= .str (bs x):=rfl
theorem addS{xs:List (List UInt8)}{v:List UInt8}:cl eS xs++[.f (.str (bs v))]=cl eS (xs++[v]):=by rw[Q7,JiO];rfl
theorem F0(l:List UInt8):(bs l).size=l.length:=by simp[bs,ByteArray.size]
theorem Jl5(a b:List UInt8):bs a++bs b=bs (a++b):=by
 apply ByteArray.ext
 simp[bs,ByteArray.data_append]
def u8(n:Int):UInt8:=UInt8.ofNat n.toNat
theorem JlW{s:List AV}(l:List UInt8):QO s (.const (.string ⟨l.toArray⟩))=W0 l:=rfl
def XY(l:List UInt8)(e:Int):Int:=((l.getD e.toNat 0).toNat:Int)
theorem JgQ(l:List UInt8)(e:Int):Np (bs l) e.toNat=XY l e:=rfl
def sub{α:Type}(l:List α)(a b:Int):List α:=(l.drop a.toNat).take (b.toNat -a.toNat)
theorem Jen(l:List UInt8)(a b:Nat):(bs l).extract a b=bs ((l.drop a).take (b -a)):=by
 apply ByteArray.ext
 simp[bs,ByteArray.extract,ByteArray.copySlice]
theorem Jhp(xs:List Int):strOfNums xs=bs (xs.map u8):=rfl
theorem Jjc{P:Program}{H:Jn}{t:TypeId}{a b:List UInt8}:KE P H .add t (W0 a) (W0 b)=if a.length+b.length≤9223372036854775807 then some (W0 (a++b))else none:=by
 simp only[KE,F0,Jl5]
theorem Jaf(l:List UInt8):(bs l).toList=l:=by simp[bs,ByteArray.toList_eq]
theorem Jjb{P:Program}{H:Jn}{t:TypeId}{a b:List UInt8}:KE P H .eql t (W0 a) (W0 b)=some (bool (decide (a=b))):=by
 have:(a==b)=decide (a=b):=by rw[Bool.eq_iff_iff];simp
 simp only[KE,Jaf,this]
theorem Ji8{P:Program}{H:Jn}{t:TypeId}{a b:List UInt8}:KE P H .neq t (W0 a) (W0 b)=some (bool (!decide (a=b))):=by
 have:(a==b)=decide (a=b):=by rw[Bool.eq_iff_iff];simp
 simp only[KE,Jaf,this]
theorem JgZ{P:Program}{H:Jn}{t:TypeId}{a b:Bool}:KE P H .eql t (bool a) (bool b)=match JP P t with
 |some ti=>match ti.k with
  | .bool=>some (bool (decide (a=b)))
  |_=>none
 |none=>none:=by
 have:(a==b)=decide (a=b):=by rw[Bool.eq_iff_iff];simp
 simp only[KE,this]
 cases JP P t with
 |none=>rfl
 |some ti=>simp only;cases ti.k<;>rfl
theorem JgY{P:Program}{H:Jn}{t:TypeId}{a b:Bool}:KE P H .neq t (bool a) (bool b)=match JP P t with
 |some ti=>match ti.k with
  | .bool=>some (bool (!decide (a=b)))
  |_=>none
 |none=>none:=by
 have:(a==b)=decide (a=b):=by rw[Bool.eq_iff_iff];simp
 simp only[KE,this]
 cases JP P t with
 |none=>rfl
 |some ti=>simp only;cases ti.k<;>rfl
theorem Jle(xs:List Int):u8s (cl (eI .u8) xs)=some xs:=by
 have:cl (eI .u8) xs=xs.map fun n=>CV.f (.int .u8 n):=by
  induction xs with
  |nil=>rfl
  |cons x xs ih=>simp only[cl,fl,List.flatMap_cons,Qo,Qh]at ih⊢;rw[ih];rfl
 rw[this,JeM]
theorem Jhf(xs:List Int)(n:Nat):u8s ((cl (eI .u8) xs).take n)=some (xs.take n):=by
 have:=congrArg (List.take n) (show cl (eI .u8) xs=xs.map fun n=>CV.f (.int .u8 n) by
  induction xs with
  |nil=>rfl
  |cons x xs ih=>simp only[cl,fl,List.flatMap_cons,Qo,Qh]at ih⊢;rw[ih];rfl)
 rw[this,←List.map_take,JeM]
theorem JjF{α:Type}{E:α→List FV}[h:HSz E 1](xs:List α):((cl E xs).drop 0).take xs.length=cl E xs:=by
 rw[J1,Js (by rw[Qu];omega)]
theorem Jb1{α:Type}{E:α→List FV}{n:Nat}[h:HSz E n](xs:List α):((cl E xs).drop 0).take (xs.length*n)=cl E xs:=by
 rw[J1,Js (by rw[Qu];omega)]
theorem Jhj{α:Type}{E:α→List FV}[h:HSz E 1](xs:List α):(cl E xs).take xs.length=cl E xs:=by
 rw[Js (by rw[Qu];omega)]
theorem Jhi{α:Type}{E:α→List FV}{n:Nat}[h:HSz E n](xs:List α):(cl E xs).take (xs.length*n)=cl E xs:=by
 rw[Js (by rw[Qu];omega)]
theorem ile_t{α:Sort _}{a b:Int}{x y:α}(h:a≤b):(if a≤b then x else y)=x:=if_pos h
def JgN(sz n:Nat)(cs:List FV)(l h:Nat):Option AV:=if l≤h∧h≤n then some (.c (.f (.sl (h -l) ((cs.drop (l*sz)).take ((h -l)*sz)))))else none
def JgM(l:List UInt8)(a b:Nat):Option AV:=if a≤b∧b≤l.length then some (W0 ((l.drop a).take (b -a)))else none
theorem JfM{P:Program}{H:Jn}{t:TypeId}{n:Nat}{cs:List FV}{lo hi:Option Nat}:Vy P H t (.c (.f (.sl n cs))) lo hi none=match QT P t with
 |some ei=>JgN ei.size n cs (lo.getD 0) (hi.getD n)
 |none=>none:=by
 simp only[Vy,QT]
 cases JP P t with
 |none=>rfl
 |some ti=>
  simp only
  cases ti.k with
  |slice e=>
   simp only
   cases JP P e with
   |none=>rfl
   |some ei=>
    simp only[JgN,Option.getD_none]
    have:(lo.getD 0≤hi.getD n∧hi.getD n≤hi.getD n∧hi.getD n≤n∧((none:Option Nat).isSome=true→hi.isSome=true))↔(lo.getD 0≤hi.getD n∧hi.getD n≤n):=by simp
    by_cases h:lo.getD 0≤hi.getD n∧hi.getD n≤n
    · rw[if_pos (this.2 h),if_pos h];simp
    · rw[if_neg (fun hh=>h (this.1 hh)),if_neg h]
  |_=>rfl
theorem JdI{P:Program}{H:Jn}{t:TypeId}{l:List UInt8}{lo hi:Option Nat}:Vy P H t (W0 l) lo hi none=match JP P t with
 |some ti=>(match ti.k with
  | .str=>JgM l (lo.getD 0) (hi.getD l.length)
  |_=>none)
 |none=>none:=by
 simp only[Vy,F0]
 cases JP P t with
 |none=>rfl
 |some ti=>
  simp only
  cases ti.k with
  |str=>
   simp only[JgM,F0,Jen]
  |_=>rfl
theorem JbF{α:Type}{E:α→List FV}{sz:Nat}[h:HSz E sz]{xs:List α}{a b:Int}(hb:0≤a∧a≤b∧b≤xs.length):JgN sz xs.length (fl E xs) a.toNat b.toNat=some (Yf E (sub xs a b)):=by
 have hl:(sub xs a b).length=b.toNat -a.toNat:=by simp[sub];omega
 simp only[JgN]
 rw[if_pos (by omega),FZ,FY]
 unfold Yf VN
 rw[hl];rfl
theorem Nm{l:List UInt8}{a b:Int}(hb:0≤a∧a≤b∧b≤l.length):JgM l a.toNat b.toNat=some (W0 (sub l a b)):=by
 simp only[JgM]
 rw[if_pos (by omega)];rfl
theorem Ge{α:Type}{xs:List α}{a b:Int}(hb:0≤a∧a≤b∧b≤xs.length):((sub xs a b).length:Int)=b -a:=by simp[sub];omega
theorem Jke{α:Type}[Inhabited α]{xs:List α}{a b:Int}{j:Nat}(hb:0≤a∧a≤b∧b≤xs.length)(hj:(j:Int)<b -a):Jy (sub xs a b) j=Jy xs (a+j):=by
 rw[Qe (by rw[Ge hb];omega),Qe (by omega)]
 simp only[sub,List.getElem_take,List.getElem_drop]
 congr 1
 omega
theorem BX{α:Type}{E:α→List FV}{H:Jn}{n:Nat}(xs:List α):(cl E xs).mapM (frz H n)=some (fl E xs):=by
 have:∀l:List FV,(l.map CV.f).mapM (frz H n)=some l:=by
  intro l
  induction l with
  |nil=>rfl
  |cons x l ih=>
   rw[Qh,J3,ih]
   cases n<;>rfl
 exact this _
theorem XV{α:Type}{E:α→List FV}{n:Nat}[h:HSz E n]{H:Jn}{id g:Nat}{lim:Option Nat}{xs:List α}(hl:look H id g=some ⟨g,n,cl E xs⟩):Vu H (.c (.own id g 0 xs.length lim))=some (Yf E xs):=by
 simp only[Vu,XA,frzC,frz,hl,Jb1,BX,Option.map_some]
def RX{α:Type}(E:α→List FV)(n:Nat)(xs:List α):KV:=fun r H=>∃g,r= .c (.own 0 g 0 xs.length none)∧H=[some ⟨g,n,cl E xs⟩]
theorem Jci{α:Type}{E:α→List FV}{n g:Nat}{xs:List α}(h:∀x∈xs,∀y∈E x,Jak y=true):XK [some ⟨g,n,cl E xs⟩]:=by
 intro id b hb c hc
 have:id=0:=by
  have:=(Jh.1 hb).1
  simpa using this
 subst this
 simp at hb
 subst hb
 simp only[cl,fl,Qg,List.mem_flatMap]at hc
 obtain⟨y,⟨x,hx,hy⟩,rfl⟩:=hc
 exact h x hx y hy
theorem Kt:XK []:=fun id b hb=>by simp at hb
theorem JkT(k:IntKind)(xs:List Int):∀x∈xs,∀y∈eI k x,Jak y=true:=fun x _ y hy=>by simp[eI]at hy;subst hy;rfl
theorem scalS(xs:List (List UInt8)):∀x∈xs,∀y∈eS x,Jak y=true:=fun x _ y hy=>by simp[eS]at hy;subst hy;rfl
theorem JM.own{α:Type}{E:α→List FV}{n:Nat}[h:HSz E n]{P:Program}{f:FuncId}{args:List AV}{xs:List α}(hc:Jk P f args [] (RX E n xs)):JM P f args (Yf E xs):=
 JM.ice hc fun r H' ⟨g,h1,h2⟩=>by subst h1 h2;exact XV XR
theorem VU{α:Type}[Inhabited α](l:List α)(i:Nat)(v:α)(e:Int)(h:i<l.length)(he:0≤e):Jy (l.set i v) e=if e=i then v else Jy l e:=by
 simp only[Jy,List.getD,List.getElem?_set]
 by_cases h1:i=e.toNat
 · rw[if_pos h1,if_pos (by omega),if_pos (by omega)];rfl
 · rw[if_neg h1,if_neg (by omega)]
theorem V0{α:Type}[Inhabited α]{a b:List α}(hl:a.length=b.length)(h:∀j:Nat,j<a.length→Jy a j=Jy b j):a=b:=by
 apply List.ext_getElem hl
 intro i h1 h2
 have:=h i h1
 rw[Qe (by omega),Qe (by omega)]at this
 simpa using this
theorem ZK{α:Type}{E:α→List FV}{n g:Nat}{xs:List α}{H:Jn}(h:J5 H [some ⟨g,n,cl E xs⟩]):Uo H (RX E n xs) (.c (.own 0 g 0 xs.length none)):=⟨_,h,g,rfl,rfl⟩
theorem Qa{α:Type}[Inhabited α]{xs:List α}{i:Nat}(h:i<xs.length):xs.take (i+1)=xs.take i++[Jy xs i]:=by
 rw[List.take_succ_eq_append_getElem h,Qe (by omega)];simp
theorem W3{α:Type}{E:α→List FV}{k:Nat}(xs:List α):(cl E xs).map (ZT k)=cl E xs:=by
 simp only[cl,List.map_map]
 rfl
theorem Jim{Q:KV}{H:Jn}{v:AV}:Uo H (nzQ Q) v=Uo H Q (nzA v):=propext Iff.rfl
theorem VI{H:Jn}{v r:AV}(h:Vu H r=some v):Uo H (iceQ v) r:=⟨H,J5.refl _,h⟩
theorem Yo{H:Jn}{id:Nat}{x:Option Zo}(h:H[id]? =some x):J5 H (H.set id x):=by
 have:H.set id x=H:=by
  apply List.ext_getElem?
  intro j
  by_cases hj:id=j
  · subst hj
    rw[JE (Jh.1 h).1,h]
  · rw[Ji hj]
 rw[this];exact J5.refl _
theorem JfO(x:Option Zo)(H:Jn)(b:Option Zo):List.set (x::H) 0 b=b::H:=rfl
def UQ(k:Int)(n:Nat):List Int:=(List.range n).map fun i:Nat=>k+i
theorem Zh(k:Int)(n:Nat):(UQ k n).length=n:=by simp[UQ]
theorem JaB{k:Int}{n i:Nat}(h:i<n):Jy (UQ k n) i=k+i:=by
 rw[Qe (by rw[Zh];omega)]
 simp[UQ]
theorem Jdx{E:Int→List FV}[h:HSz E 1](k:Int)(n:Nat):(cl E (UQ k n)).take (n*1)=cl E (UQ k n):=by
 rw[Js (by rw[Qu,Zh];exact Nat.le_refl _)]
theorem U7{a b:Int}(h:¬a<b):decide (a<b)=false:=decide_eq_false h
theorem Z6{a b:Int}(h:a<b):decide (a<b)=true:=decide_eq_true h
theorem Xs{a b:Int}(h:¬a≤b):decide (a≤b)=false:=decide_eq_false h
theorem VW{a b:Int}(h:a≤b):decide (a≤b)=true:=decide_eq_true h
theorem Vv{a b:Int}(h:¬a=b):decide (a=b)=false:=decide_eq_false h
theorem Ut{a b:Int}(h:a=b):decide (a=b)=true:=decide_eq_true h
theorem setS{xs:List (List UInt8)}{e:Int}{v:List UInt8}(h:0≤e∧e<(xs.length:Int)):J6 (cl eS xs) (0+e.toNat*1) [.f (.str (bs v))]=cl eS (xs.set e.toNat v):=
 VE (E:=eS) (by omega)
theorem Jk4(n:Nat):QL (n*1) [.f (.str (ByteArray.mk #[]))]=cl eS (Jf n []):=by
 simp only[QL,Nat.mul_one,JQ,Nat.mod_one]
 induction n with
 |zero=>rfl
 |succ n ih=>rw[List.range_succ,Qo,ih,List.replicate_succ',Q7];rfl
def Jeh(k:Nat)(out:List UInt8):List UInt8:=if h:k=0 then out else Jeh (k/10) (u8 (48+(k%10:Nat))::out)
termination_by k
decreasing_by omega
def GJ(k:Int):List UInt8:=if k≤0 then[109,48]else 109::Jeh k.toNat []
def XQ(k:Int)(n:Nat):List (List UInt8):=(List.range n).map fun i:Nat=>GJ (k+i)
theorem Un(k:Int)(n:Nat):(XQ k n).length=n:=by simp[XQ]
theorem BL{k:Int}{n i:Nat}(h:i<n):Jy (XQ k n) i=GJ (k+i):=by
 rw[Qe (by rw[Un];omega)]
 simp[XQ]
theorem Jdy(k:Int)(n:Nat):(cl eS (XQ k n)).take (n*1)=cl eS (XQ k n):=by
 rw[Js (by rw[Qu,Un];exact Nat.le_refl _)]
attribute [go_sem] setS addS Jk4 Un Jdy JdJ V4 ile_t JfM JdI JbF Nm Option.getD_some Option.getD_none Zh Jdx JfO W3 eq_self Bool.not_true Bool.not_false decide_false Jim Jil Jgf JiQ Jge JlQ XR Jgd setI addI Jk5 JlW F0 JgQ Jhp Jjc Jjb Ji8 JgZ JgY Option.isSome_some Option.isSome_none nzA nz1 nzC Q1 ZF ZJ Option.map_some Nj Wb shift1 ZT u8s Jle Jhf JjF Jb1 Jhj Jhi
 Jl0 JlX Ja0 WP JbO JiT BK QT Nq Je6 YM Qf RJ KD decide_true decide_eq_true_eq Bool.and_true Bool.true_and Jt Jha J1 List.take_zero List.take_succ_cons List.take_nil elems Vc WF Bj BP Qu JkG JiL
 Jb Jd Ja Je Jq List.set_cons_zero List.set_cons_succ reduceCtorEq and_self Qh ZJ JX Q5 Jp Qi Uc
end Go.Lg

namespace Go.Lg
open Go.Proofs
theorem ti1:JP Tryz.prog 1=some ⟨.func,1,8,[.nilf]⟩:=by kernel_rfl
theorem ti2:JP Tryz.prog 2=some ⟨.int .i64,1,8,[.f (.int .i64 0)]⟩:=by kernel_rfl
theorem ti3:JP Tryz.prog 3=some ⟨.int .i64,1,8,[.f (.int .i64 0)]⟩:=by kernel_rfl
theorem ti4:JP Tryz.prog 4=some ⟨.bool,1,1,[.f (.bool false)]⟩:=by kernel_rfl
theorem ti5:JP Tryz.prog 5=some ⟨.int .u8,1,1,[.f (.int .u8 0)]⟩:=by kernel_rfl
theorem ti6:JP Tryz.prog 6=some ⟨.int .u8,1,1,[.f (.int .u8 0)]⟩:=by kernel_rfl
theorem ti7:JP Tryz.prog 7=some ⟨.struct [(2,0),(3,1),(4,2),(6,3)],4,24,[.f (.int .i64 0), .f (.int .i64 0), .f (.bool false), .f (.int .u8 0)]⟩:=by kernel_rfl
theorem ti8:JP Tryz.prog 8=some ⟨.struct [(2,0),(3,1),(4,2),(6,3)],4,24,[.f (.int .i64 0), .f (.int .i64 0), .f (.bool false), .f (.int .u8 0)]⟩:=by kernel_rfl
theorem ti9:JP Tryz.prog 9=some ⟨.str,1,16,[.f (.str (ByteArray.mk #[]))]⟩:=by kernel_rfl
theorem ti10:JP Tryz.prog 10=some ⟨.str,1,16,[.f (.str (ByteArray.mk #[]))]⟩:=by kernel_rfl
theorem ti11:JP Tryz.prog 11=some ⟨.str,1,16,[.f (.str (ByteArray.mk #[]))]⟩:=by kernel_rfl
theorem ti12:JP Tryz.prog 12=some ⟨.int .u64,1,8,[.f (.int .u64 0)]⟩:=by kernel_rfl
theorem ti13:JP Tryz.prog 13=some ⟨.struct [(9,0),(12,1)],2,24,[.f (.str (ByteArray.mk #[])), .f (.int .u64 0)]⟩:=by kernel_rfl
theorem ti14:JP Tryz.prog 14=some ⟨.struct [(9,0),(12,1)],2,24,[.f (.str (ByteArray.mk #[])), .f (.int .u64 0)]⟩:=by kernel_rfl
theorem ti15:JP Tryz.prog 15=some ⟨.ptr 162,1,8,[.nilp]⟩:=by kernel_rfl
theorem ti16:JP Tryz.prog 16=some ⟨.ptr 165,1,8,[.nilp]⟩:=by kernel_rfl
theorem ti17:JP Tryz.prog 17=some ⟨.ptr 174,1,8,[.nilp]⟩:=by kernel_rfl
theorem ti18:JP Tryz.prog 18=some ⟨.struct [(17,0)],1,8,[.nilp]⟩:=by kernel_rfl
theorem ti19:JP Tryz.prog 19=some ⟨.struct [(17,0)],1,8,[.nilp]⟩:=by kernel_rfl
theorem ti21:JP Tryz.prog 21=some ⟨.int .i32,1,4,[.f (.int .i32 0)]⟩:=by kernel_rfl
theorem ti22:JP Tryz.prog 22=some ⟨.slice 5,1,24,[.f .nil]⟩:=by kernel_rfl
theorem WG:JP Tryz.prog 23=some ⟨.slice 3,1,24,[.f .nil]⟩:=by kernel_rfl
theorem ti24:JP Tryz.prog 24=some ⟨.slice 101,1,24,[.f .nil]⟩:=by kernel_rfl
theorem ti25:JP Tryz.prog 25=some ⟨.struct [(3,0),(23,1),(24,2)],3,56,[.f (.int .i64 0), .f .nil, .f .nil]⟩:=by kernel_rfl
theorem ti26:JP Tryz.prog 26=some ⟨.struct [(3,0),(23,1),(24,2)],3,56,[.f (.int .i64 0), .f .nil, .f .nil]⟩:=by kernel_rfl
theorem ti27:JP Tryz.prog 27=some ⟨.struct [(26,0),(23,3),(23,4)],5,104,[.f (.int .i64 0), .f .nil, .f .nil, .f .nil, .f .nil]⟩:=by kernel_rfl
theorem ti28:JP Tryz.prog 28=some ⟨.struct [(26,0),(23,3),(23,4)],5,104,[.f (.int .i64 0), .f .nil, .f .nil, .f .nil, .f .nil]⟩:=by kernel_rfl
theorem ti29:JP Tryz.prog 29=some ⟨.func,1,8,[.nilf]⟩:=by kernel_rfl
theorem ti30:JP Tryz.prog 30=some ⟨.func,1,8,[.nilf]⟩:=by kernel_rfl
theorem ti31:JP Tryz.prog 31=some ⟨.func,1,8,[.nilf]⟩:=by kernel_rfl
theorem ti32:JP Tryz.prog 32=some ⟨.func,1,8,[.nilf]⟩:=by kernel_rfl
theorem ti33:JP Tryz.prog 33=some ⟨.func,1,8,[.nilf]⟩:=by kernel_rfl
theorem ti34:JP Tryz.prog 34=some ⟨.func,1,8,[.nilf]⟩:=by kernel_rfl
theorem ti36:JP Tryz.prog 36=some ⟨.func,1,8,[.nilf]⟩:=by kernel_rfl
theorem ti37:JP Tryz.prog 37=some ⟨.func,1,8,[.nilf]⟩:=by kernel_rfl
theorem ti38:JP Tryz.prog 38=some ⟨.func,1,8,[.nilf]⟩:=by kernel_rfl
theorem ti39:JP Tryz.prog 39=some ⟨.slice 127,1,24,[.f .nil]⟩:=by kernel_rfl
theorem ti40:JP Tryz.prog 40=some ⟨.struct [(3,0),(23,1),(39,2)],3,56,[.f (.int .i64 0), .f .nil, .f .nil]⟩:=by kernel_rfl
theorem ti41:JP Tryz.prog 41=some ⟨.struct [(3,0),(23,1),(39,2)],3,56,[.f (.int .i64 0), .f .nil, .f .nil]⟩:=by kernel_rfl
theorem ti42:JP Tryz.prog 42=some ⟨.struct [(41,0),(23,3),(23,4)],5,104,[.f (.int .i64 0), .f .nil, .f .nil, .f .nil, .f .nil]⟩:=by kernel_rfl
theorem ti43:JP Tryz.prog 43=some ⟨.struct [(41,0),(23,3),(23,4)],5,104,[.f (.int .i64 0), .f .nil, .f .nil, .f .nil, .f .nil]⟩:=by kernel_rfl
theorem Jlg:JP Tryz.prog 44=some ⟨.slice 9,1,24,[.f .nil]⟩:=by kernel_rfl
theorem ti45:JP Tryz.prog 45=some ⟨.func,1,8,[.nilf]⟩:=by kernel_rfl
theorem ti46:JP Tryz.prog 46=some ⟨.func,1,8,[.nilf]⟩:=by kernel_rfl
theorem ti48:JP Tryz.prog 48=some ⟨.func,1,8,[.nilf]⟩:=by kernel_rfl
theorem ti49:JP Tryz.prog 49=some ⟨.func,1,8,[.nilf]⟩:=by kernel_rfl
theorem ti50:JP Tryz.prog 50=some ⟨.func,1,8,[.nilf]⟩:=by kernel_rfl
theorem ti51:JP Tryz.prog 51=some ⟨.func,1,8,[.nilf]⟩:=by kernel_rfl
theorem ti52:JP Tryz.prog 52=some ⟨.func,1,8,[.nilf]⟩:=by kernel_rfl
theorem ti53:JP Tryz.prog 53=some ⟨.func,1,8,[.nilf]⟩:=by kernel_rfl
theorem ti54:JP Tryz.prog 54=some ⟨.func,1,8,[.nilf]⟩:=by kernel_rfl
theorem ti55:JP Tryz.prog 55=some ⟨.func,1,8,[.nilf]⟩:=by kernel_rfl
theorem ti56:JP Tryz.prog 56=some ⟨.func,1,8,[.nilf]⟩:=by kernel_rfl
theorem ti57:JP Tryz.prog 57=some ⟨.func,1,8,[.nilf]⟩:=by kernel_rfl
theorem ti58:JP Tryz.prog 58=some ⟨.struct [(3,0),(3,1),(3,2)],3,24,[.f (.int .i64 0), .f (.int .i64 0), .f (.int .i64 0)]⟩:=by kernel_rfl
theorem ti59:JP Tryz.prog 59=some ⟨.struct [(3,0),(3,1),(3,2)],3,24,[.f (.int .i64 0), .f (.int .i64 0), .f (.int .i64 0)]⟩:=by kernel_rfl
theorem ti61:JP Tryz.prog 61=some ⟨.func,1,8,[.nilf]⟩:=by kernel_rfl
theorem ti62:JP Tryz.prog 62=some ⟨.func,1,8,[.nilf]⟩:=by kernel_rfl
theorem ti63:JP Tryz.prog 63=some ⟨.ptr 98,1,8,[.nilp]⟩:=by kernel_rfl
theorem ti64:JP Tryz.prog 64=some ⟨.func,1,8,[.nilf]⟩:=by kernel_rfl
theorem ti66:JP Tryz.prog 66=some ⟨.func,1,8,[.nilf]⟩:=by kernel_rfl
theorem ti67:JP Tryz.prog 67=some ⟨.func,1,8,[.nilf]⟩:=by kernel_rfl
theorem ti68:JP Tryz.prog 68=some ⟨.func,1,8,[.nilf]⟩:=by kernel_rfl
theorem ti69:JP Tryz.prog 69=some ⟨.slice 4,1,24,[.f .nil]⟩:=by kernel_rfl
theorem ti70:JP Tryz.prog 70=some ⟨.func,1,8,[.nilf]⟩:=by kernel_rfl
theorem JjE:JP Tryz.prog 71=some ⟨.slice 23,1,24,[.f .nil]⟩:=by kernel_rfl
theorem ti72:JP Tryz.prog 72=some ⟨.func,1,8,[.nilf]⟩:=by kernel_rfl
theorem ti73:JP Tryz.prog 73=some ⟨.func,1,8,[.nilf]⟩:=by kernel_rfl
theorem ti74:JP Tryz.prog 74=some ⟨.func,1,8,[.nilf]⟩:=by kernel_rfl
theorem ti75:JP Tryz.prog 75=some ⟨.func,1,8,[.nilf]⟩:=by kernel_rfl
theorem ti77:JP Tryz.prog 77=some ⟨.func,1,8,[.nilf]⟩:=by kernel_rfl
theorem ti78:JP Tryz.prog 78=some ⟨.func,1,8,[.nilf]⟩:=by kernel_rfl
theorem ti79:JP Tryz.prog 79=some ⟨.func,1,8,[.nilf]⟩:=by kernel_rfl
theorem ti80:JP Tryz.prog 80=some ⟨.func,1,8,[.nilf]⟩:=by kernel_rfl
theorem ti81:JP Tryz.prog 81=some ⟨.func,1,8,[.nilf]⟩:=by kernel_rfl
theorem ti82:JP Tryz.prog 82=some ⟨.func,1,8,[.nilf]⟩:=by kernel_rfl
theorem ti83:JP Tryz.prog 83=some ⟨.func,1,8,[.nilf]⟩:=by kernel_rfl
theorem ti84:JP Tryz.prog 84=some ⟨.func,1,8,[.nilf]⟩:=by kernel_rfl
theorem ti85:JP Tryz.prog 85=some ⟨.func,1,8,[.nilf]⟩:=by kernel_rfl
theorem ti86:JP Tryz.prog 86=some ⟨.func,1,8,[.nilf]⟩:=by kernel_rfl
theorem ti87:JP Tryz.prog 87=some ⟨.func,1,8,[.nilf]⟩:=by kernel_rfl
theorem ti88:JP Tryz.prog 88=some ⟨.func,1,8,[.nilf]⟩:=by kernel_rfl
theorem ti89:JP Tryz.prog 89=some ⟨.func,1,8,[.nilf]⟩:=by kernel_rfl
theorem ti90:JP Tryz.prog 90=some ⟨.func,1,8,[.nilf]⟩:=by kernel_rfl
theorem ti91:JP Tryz.prog 91=some ⟨.func,1,8,[.nilf]⟩:=by kernel_rfl
theorem ti92:JP Tryz.prog 92=some ⟨.func,1,8,[.nilf]⟩:=by kernel_rfl
theorem ti94:JP Tryz.prog 94=some ⟨.func,1,8,[.nilf]⟩:=by kernel_rfl
theorem ti95:JP Tryz.prog 95=some ⟨.func,1,8,[.nilf]⟩:=by kernel_rfl
theorem ti96:JP Tryz.prog 96=some ⟨.func,1,8,[.nilf]⟩:=by kernel_rfl
theorem ti97:JP Tryz.prog 97=some ⟨.struct [(22,0),(3,1)],2,32,[.f .nil, .f (.int .i64 0)]⟩:=by kernel_rfl
theorem ti98:JP Tryz.prog 98=some ⟨.struct [(22,0),(3,1)],2,32,[.f .nil, .f (.int .i64 0)]⟩:=by kernel_rfl
theorem ti99:JP Tryz.prog 99=some ⟨.func,1,8,[.nilf]⟩:=by kernel_rfl
theorem ti100:JP Tryz.prog 100=some ⟨.struct [(3,0),(23,1),(3,2)],3,40,[.f (.int .i64 0), .f .nil, .f (.int .i64 0)]⟩:=by kernel_rfl
theorem ti101:JP Tryz.prog 101=some ⟨.struct [(3,0),(23,1),(3,2)],3,40,[.f (.int .i64 0), .f .nil, .f (.int .i64 0)]⟩:=by kernel_rfl
theorem ti102:JP Tryz.prog 102=some ⟨.func,1,8,[.nilf]⟩:=by kernel_rfl
theorem ti103:JP Tryz.prog 103=some ⟨.func,1,8,[.nilf]⟩:=by kernel_rfl
theorem ti104:JP Tryz.prog 104=some ⟨.func,1,8,[.nilf]⟩:=by kernel_rfl
theorem ti105:JP Tryz.prog 105=some ⟨.func,1,8,[.nilf]⟩:=by kernel_rfl
theorem ti106:JP Tryz.prog 106=some ⟨.func,1,8,[.nilf]⟩:=by kernel_rfl
theorem ti107:JP Tryz.prog 107=some ⟨.func,1,8,[.nilf]⟩:=by kernel_rfl
theorem ti108:JP Tryz.prog 108=some ⟨.func,1,8,[.nilf]⟩:=by kernel_rfl
theorem ti109:JP Tryz.prog 109=some ⟨.func,1,8,[.nilf]⟩:=by kernel_rfl
theorem ti110:JP Tryz.prog 110=some ⟨.func,1,8,[.nilf]⟩:=by kernel_rfl
theorem ti111:JP Tryz.prog 111=some ⟨.func,1,8,[.nilf]⟩:=by kernel_rfl
theorem ti112:JP Tryz.prog 112=some ⟨.func,1,8,[.nilf]⟩:=by kernel_rfl
theorem ti113:JP Tryz.prog 113=some ⟨.func,1,8,[.nilf]⟩:=by kernel_rfl
theorem ti114:JP Tryz.prog 114=some ⟨.func,1,8,[.nilf]⟩:=by kernel_rfl
theorem ti115:JP Tryz.prog 115=some ⟨.func,1,8,[.nilf]⟩:=by kernel_rfl
theorem ti116:JP Tryz.prog 116=some ⟨.func,1,8,[.nilf]⟩:=by kernel_rfl
theorem ti118:JP Tryz.prog 118=some ⟨.func,1,8,[.nilf]⟩:=by kernel_rfl
theorem ti119:JP Tryz.prog 119=some ⟨.func,1,8,[.nilf]⟩:=by kernel_rfl
theorem ti121:JP Tryz.prog 121=some ⟨.func,1,8,[.nilf]⟩:=by kernel_rfl
theorem ti122:JP Tryz.prog 122=some ⟨.func,1,8,[.nilf]⟩:=by kernel_rfl
theorem ti123:JP Tryz.prog 123=some ⟨.array 5 4,5,5,[.f (.bool false), .f (.bool false), .f (.bool false), .f (.bool false), .f (.bool false)]⟩:=by kernel_rfl
theorem ti124:JP Tryz.prog 124=some ⟨.func,1,8,[.nilf]⟩:=by kernel_rfl
theorem ti125:JP Tryz.prog 125=some ⟨.func,1,8,[.nilf]⟩:=by kernel_rfl
theorem ti126:JP Tryz.prog 126=some ⟨.func,1,8,[.nilf]⟩:=by kernel_rfl
theorem ti127:JP Tryz.prog 127=some ⟨.struct [(3,0),(23,1),(3,2)],3,40,[.f (.int .i64 0), .f .nil, .f (.int .i64 0)]⟩:=by kernel_rfl
theorem ti128:JP Tryz.prog 128=some ⟨.func,1,8,[.nilf]⟩:=by kernel_rfl
theorem ti129:JP Tryz.prog 129=some ⟨.func,1,8,[.nilf]⟩:=by kernel_rfl
theorem ti130:JP Tryz.prog 130=some ⟨.func,1,8,[.nilf]⟩:=by kernel_rfl
theorem ti131:JP Tryz.prog 131=some ⟨.func,1,8,[.nilf]⟩:=by kernel_rfl
theorem ti132:JP Tryz.prog 132=some ⟨.func,1,8,[.nilf]⟩:=by kernel_rfl
theorem ti133:JP Tryz.prog 133=some ⟨.ptr 71,1,8,[.nilp]⟩:=by kernel_rfl
theorem ti134:JP Tryz.prog 134=some ⟨.func,1,8,[.nilf]⟩:=by kernel_rfl
theorem ti135:JP Tryz.prog 135=some ⟨.func,1,8,[.nilf]⟩:=by kernel_rfl
theorem ti136:JP Tryz.prog 136=some ⟨.func,1,8,[.nilf]⟩:=by kernel_rfl
theorem ti137:JP Tryz.prog 137=some ⟨.func,1,8,[.nilf]⟩:=by kernel_rfl
theorem ti138:JP Tryz.prog 138=some ⟨.func,1,8,[.nilf]⟩:=by kernel_rfl
theorem ti139:JP Tryz.prog 139=some ⟨.func,1,8,[.nilf]⟩:=by kernel_rfl
theorem ti140:JP Tryz.prog 140=some ⟨.func,1,8,[.nilf]⟩:=by kernel_rfl
theorem ti141:JP Tryz.prog 141=some ⟨.func,1,8,[.nilf]⟩:=by kernel_rfl
theorem ti142:JP Tryz.prog 142=some ⟨.func,1,8,[.nilf]⟩:=by kernel_rfl
theorem ti143:JP Tryz.prog 143=some ⟨.int .u64,1,8,[.f (.int .u64 0)]⟩:=by kernel_rfl
theorem ti144:JP Tryz.prog 144=some ⟨.func,1,8,[.nilf]⟩:=by kernel_rfl
theorem ti145:JP Tryz.prog 145=some ⟨.ptr 3,1,8,[.nilp]⟩:=by kernel_rfl
theorem ti146:JP Tryz.prog 146=some ⟨.array 24 5,24,24,[.f (.int .u8 0), .f (.int .u8 0), .f (.int .u8 0), .f (.int .u8 0), .f (.int .u8 0), .f (.int .u8 0), .f (.int .u8 0), .f (.int .u8 0), .f (.int .u8 0), .f (.int .u8 0), .f (.int .u8 0), .f (.int .u8 0), .f (.int .u8 0), .f (.int .u8 0), .f (.int .u8 0), .f (.int .u8 0), .f (.int .u8 0), .f (.int .u8 0), .f (.int .u8 0), .f (.int .u8 0), .f (.int .u8 0), .f (.int .u8 0), .f (.int .u8 0), .f (.int .u8 0)]⟩:=by kernel_rfl
theorem ti147:JP Tryz.prog 147=some ⟨.int .u64,1,8,[.f (.int .u64 0)]⟩:=by kernel_rfl
theorem ti148:JP Tryz.prog 148=some ⟨.func,1,8,[.nilf]⟩:=by kernel_rfl
theorem ti149:JP Tryz.prog 149=some ⟨.func,1,8,[.nilf]⟩:=by kernel_rfl
theorem ti151:JP Tryz.prog 151=some ⟨.func,1,8,[.nilf]⟩:=by kernel_rfl
theorem ti152:JP Tryz.prog 152=some ⟨.func,1,8,[.nilf]⟩:=by kernel_rfl
theorem ti153:JP Tryz.prog 153=some ⟨.func,1,8,[.nilf]⟩:=by kernel_rfl
theorem ti154:JP Tryz.prog 154=some ⟨.int .u32,1,4,[.f (.int .u32 0)]⟩:=by kernel_rfl
theorem ti155:JP Tryz.prog 155=some ⟨.func,1,8,[.nilf]⟩:=by kernel_rfl
theorem ti156:JP Tryz.prog 156=some ⟨.array 20 147,20,160,[.f (.int .u64 0), .f (.int .u64 0), .f (.int .u64 0), .f (.int .u64 0), .f (.int .u64 0), .f (.int .u64 0), .f (.int .u64 0), .f (.int .u64 0), .f (.int .u64 0), .f (.int .u64 0), .f (.int .u64 0), .f (.int .u64 0), .f (.int .u64 0), .f (.int .u64 0), .f (.int .u64 0), .f (.int .u64 0), .f (.int .u64 0), .f (.int .u64 0), .f (.int .u64 0), .f (.int .u64 0)]⟩:=by kernel_rfl
theorem ti157:JP Tryz.prog 157=some ⟨.array 65 5,65,65,[.f (.int .u8 0), .f (.int .u8 0), .f (.int .u8 0), .f (.int .u8 0), .f (.int .u8 0), .f (.int .u8 0), .f (.int .u8 0), .f (.int .u8 0), .f (.int .u8 0), .f (.int .u8 0), .f (.int .u8 0), .f (.int .u8 0), .f (.int .u8 0), .f (.int .u8 0), .f (.int .u8 0), .f (.int .u8 0), .f (.int .u8 0), .f (.int .u8 0), .f (.int .u8 0), .f (.int .u8 0), .f (.int .u8 0), .f (.int .u8 0), .f (.int .u8 0), .f (.int .u8 0), .f (.int .u8 0), .f (.int .u8 0), .f (.int .u8 0), .f (.int .u8 0), .f (.int .u8 0), .f (.int .u8 0), .f (.int .u8 0), .f (.int .u8 0), .f (.int .u8 0), .f (.int .u8 0), .f (.int .u8 0), .f (.int .u8 0), .f (.int .u8 0), .f (.int .u8 0), .f (.int .u8 0), .f (.int .u8 0), .f (.int .u8 0), .f (.int .u8 0), .f (.int .u8 0), .f (.int .u8 0), .f (.int .u8 0), .f (.int .u8 0), .f (.int .u8 0), .f (.int .u8 0), .f (.int .u8 0), .f (.int .u8 0), .f (.int .u8 0), .f (.int .u8 0), .f (.int .u8 0), .f (.int .u8 0), .f (.int .u8 0), .f (.int .u8 0), .f (.int .u8 0), .f (.int .u8 0), .f (.int .u8 0), .f (.int .u8 0), .f (.int .u8 0), .f (.int .u8 0), .f (.int .u8 0), .f (.int .u8 0), .f (.int .u8 0)]⟩:=by kernel_rfl
theorem ti158:JP Tryz.prog 158=some ⟨.array 32 5,32,32,[.f (.int .u8 0), .f (.int .u8 0), .f (.int .u8 0), .f (.int .u8 0), .f (.int .u8 0), .f (.int .u8 0), .f (.int .u8 0), .f (.int .u8 0), .f (.int .u8 0), .f (.int .u8 0), .f (.int .u8 0), .f (.int .u8 0), .f (.int .u8 0), .f (.int .u8 0), .f (.int .u8 0), .f (.int .u8 0), .f (.int .u8 0), .f (.int .u8 0), .f (.int .u8 0), .f (.int .u8 0), .f (.int .u8 0), .f (.int .u8 0), .f (.int .u8 0), .f (.int .u8 0), .f (.int .u8 0), .f (.int .u8 0), .f (.int .u8 0), .f (.int .u8 0), .f (.int .u8 0), .f (.int .u8 0), .f (.int .u8 0), .f (.int .u8 0)]⟩:=by kernel_rfl
theorem ti159:JP Tryz.prog 159=some ⟨.array 64 5,64,64,[.f (.int .u8 0), .f (.int .u8 0), .f (.int .u8 0), .f (.int .u8 0), .f (.int .u8 0), .f (.int .u8 0), .f (.int .u8 0), .f (.int .u8 0), .f (.int .u8 0), .f (.int .u8 0), .f (.int .u8 0), .f (.int .u8 0), .f (.int .u8 0), .f (.int .u8 0), .f (.int .u8 0), .f (.int .u8 0), .f (.int .u8 0), .f (.int .u8 0), .f (.int .u8 0), .f (.int .u8 0), .f (.int .u8 0), .f (.int .u8 0), .f (.int .u8 0), .f (.int .u8 0), .f (.int .u8 0), .f (.int .u8 0), .f (.int .u8 0), .f (.int .u8 0), .f (.int .u8 0), .f (.int .u8 0), .f (.int .u8 0), .f (.int .u8 0), .f (.int .u8 0), .f (.int .u8 0), .f (.int .u8 0), .f (.int .u8 0), .f (.int .u8 0), .f (.int .u8 0), .f (.int .u8 0), .f (.int .u8 0), .f (.int .u8 0), .f (.int .u8 0), .f (.int .u8 0), .f (.int .u8 0), .f (.int .u8 0), .f (.int .u8 0), .f (.int .u8 0), .f (.int .u8 0), .f (.int .u8 0), .f (.int .u8 0), .f (.int .u8 0), .f (.int .u8 0), .f (.int .u8 0), .f (.int .u8 0), .f (.int .u8 0), .f (.int .u8 0), .f (.int .u8 0), .f (.int .u8 0), .f (.int .u8 0), .f (.int .u8 0), .f (.int .u8 0), .f (.int .u8 0), .f (.int .u8 0), .f (.int .u8 0)]⟩:=by kernel_rfl
theorem ti160:JP Tryz.prog 160=some ⟨.func,1,8,[.nilf]⟩:=by kernel_rfl
theorem ti161:JP Tryz.prog 161=some ⟨.struct [(17,0),(17,1),(17,2),(9,3)],4,40,[.nilp, .nilp, .nilp, .f (.str (ByteArray.mk #[]))]⟩:=by kernel_rfl
theorem ti162:JP Tryz.prog 162=some ⟨.struct [(17,0),(17,1),(17,2),(9,3)],4,40,[.nilp, .nilp, .nilp, .f (.str (ByteArray.mk #[]))]⟩:=by kernel_rfl
theorem ti163:JP Tryz.prog 163=some ⟨.array 0 16,0,0,[]⟩:=by kernel_rfl
theorem ti164:JP Tryz.prog 164=some ⟨.struct [(163,0)],0,0,[]⟩:=by kernel_rfl
theorem ti165:JP Tryz.prog 165=some ⟨.struct [(163,0)],0,0,[]⟩:=by kernel_rfl
theorem ti166:JP Tryz.prog 166=some ⟨.func,1,8,[.nilf]⟩:=by kernel_rfl
theorem ti167:JP Tryz.prog 167=some ⟨.int .u8,1,1,[.f (.int .u8 0)]⟩:=by kernel_rfl
theorem ti168:JP Tryz.prog 168=some ⟨.int .u8,1,1,[.f (.int .u8 0)]⟩:=by kernel_rfl
theorem ti169:JP Tryz.prog 169=some ⟨.func,1,8,[.nilf]⟩:=by kernel_rfl
theorem ti170:JP Tryz.prog 170=some ⟨.ptr 5,1,8,[.nilp]⟩:=by kernel_rfl
theorem ti171:JP Tryz.prog 171=some ⟨.int .i32,1,4,[.f (.int .i32 0)]⟩:=by kernel_rfl
theorem ti172:JP Tryz.prog 172=some ⟨.int .i32,1,4,[.f (.int .i32 0)]⟩:=by kernel_rfl
theorem ti173:JP Tryz.prog 173=some ⟨.struct [(12,0),(12,1),(154,2),(167,3),(5,4),(5,5),(168,6),(169,7),(170,8),(171,9),(172,10)],11,48,[.f (.int .u64 0), .f (.int .u64 0), .f (.int .u32 0), .f (.int .u8 0), .f (.int .u8 0), .f (.int .u8 0), .f (.int .u8 0), .nilf, .nilp, .f (.int .i32 0), .f (.int .i32 0)]⟩:=by kernel_rfl
theorem ti174:JP Tryz.prog 174=some ⟨.struct [(12,0),(12,1),(154,2),(167,3),(5,4),(5,5),(168,6),(169,7),(170,8),(171,9),(172,10)],11,48,[.f (.int .u64 0), .f (.int .u64 0), .f (.int .u32 0), .f (.int .u8 0), .f (.int .u8 0), .f (.int .u8 0), .f (.int .u8 0), .nilf, .nilp, .f (.int .i32 0), .f (.int .i32 0)]⟩:=by kernel_rfl
theorem ZE:Tryz.prog.follows .mixedOrders=true:=by kernel_rfl
attribute [go_sem] ti1 ti2 ti3 ti4 ti5 ti6 ti7 ti8 ti9 ti10 ti11 ti12 ti13 ti14 ti15 ti16 ti17 ti18 ti19 ti21 ti22 WG ti24 ti25 ti26 ti27 ti28 ti29 ti30 ti31 ti32 ti33 ti34 ti36 ti37 ti38 ti39 ti40 ti41 ti42 ti43 Jlg ti45 ti46 ti48 ti49 ti50 ti51 ti52 ti53 ti54 ti55 ti56 ti57 ti58 ti59 ti61 ti62 ti63 ti64 ti66 ti67 ti68 ti69 ti70 JjE ti72 ti73 ti74 ti75 ti77 ti78 ti79 ti80 ti81 ti82 ti83 ti84 ti85 ti86 ti87 ti88 ti89 ti90 ti91 ti92 ti94 ti95 ti96 ti97 ti98 ti99 ti100 ti101 ti102 ti103 ti104 ti105 ti106 ti107 ti108 ti109 ti110 ti111 ti112 ti113 ti114 ti115 ti116 ti118 ti119 ti121 ti122 ti123 ti124 ti125 ti126 ti127 ti128 ti129 ti130 ti131 ti132 ti133 ti134 ti135 ti136 ti137 ti138 ti139 ti140 ti141 ti142 ti143 ti144 ti145 ti146 ti147 ti148 ti149 ti151 ti152 ti153 ti154 ti155 ti156 ti157 ti158 ti159 ti160 ti161 ti162 ti163 ti164 ti165 ti166 ti167 ti168 ti169 ti170 ti171 ti172 ti173 ti174
end Go.Lg

set_option maxRecDepth 100000
namespace Go.Lg
open Go.Proofs
theorem Vz(n:Int):JM Tryz.prog 96 [int n] (bool (decide (2≤n∧n≤4))):=by
 refine Jk.cw (c:=_) Tryz.func96 rfl (n:=9) Tryz.ntmps96 (rs:=[.tmp 2]) rfl ?_
 simp only[Ja,Je,zA,zS,Jf,Jb,Jd]
 simp(maxSteps:=999999)(disch:=omega)only[go_sem,zA,zM,zS,zE,zL]
 refine Jv (fun h=> ?_) (fun h=> ?_)<;>simp(maxSteps:=999999)(disch:=omega)only[go_sem,zA,zM,zS,zE,zL,h]<;>simp at h<;>simp[h]
 omega
def Qc(xs:List Int)(n:Int):Bool:=decide (2≤n∧n≤4∧(xs.length:Int)=n*n∧∀j,j<xs.length→0≤Jy xs j∧Jy xs j≤n)
theorem Zv(xs:List Int)(n:Int)(hx:xs.length≤2^44):JM Tryz.prog 54 [QF xs,int n] (bool (Qc xs n)):=by
 refine Jk.cw (c:=_) Tryz.func54 rfl (n:=32) Tryz.ntmps54 (rs:=[.tmp 4]) rfl ?_
 simp only[Ja,Je,zA,zS,Jf,Jb,Jd]
 simp(maxSteps:=999999)(disch:=omega)only[go_sem,zA,zM,zS,zE,zL]
 refine JU.rd (Vz n) (⟨_,Tryz.func96,rfl,rfl⟩:Jg Tryz.prog 96) rfl rfl rfl rfl ?_
 simp(maxSteps:=999999)(disch:=omega)only[go_sem,zA,zM,zS,zE,zL]
 refine Jv (fun h=> ?_) (fun h=> ?_)<;>simp(maxSteps:=999999)(disch:=omega)only[go_sem,zA,zM,zS,zE,zL,h]
 · simp at h
   simp[Qc];omega
 have hn:2≤n∧n≤4:=by simpa using h
 have hw:4≤n*n∧n*n≤16:=by
  have:n=2∨n=3∨n=4:=by omega
  rcases this with rfl|rfl|rfl<;>decide
 simp(maxSteps:=999999)(disch:=omega)only[go_sem,zA,zM,zS,zE,zL]
 refine QS (fun h2=> ?_) (fun h2=> ?_)<;>simp(maxSteps:=999999)(disch:=omega)only[go_sem,zA,zM,zS,zE,zL]
 · simp at h2
   simp[Qc,h2]
 have hl:(xs.length:Int)=n*n:=by simpa using h2
 refine JO (fun i:Nat=>xs.length -i) (fun i=>i≤xs.length∧∀j,j<i→0≤Jy xs j∧Jy xs j≤n)
  (fun i=>[.a, .k, .a, .a, .a, .a, .a, .a, .a, .a, .a, .a, .a, .a, .a, .a, .a, .a, .k, .k, .p (int i), .a, .a, .a, .a, .a, .a, .a, .a, .a, .a, .a]) (fun _=>[]) 0 ⟨Nat.zero_le _,fun j hj=>absurd hj (Nat.not_lt_zero _)⟩ (by simp(maxSteps:=999999)(disch:=omega)only[go_sem,zA,zM,zS,zE,zL];rfl) (J9 _) ?_
 rintro i ⟨hi,hall⟩
 simp(maxSteps:=999999)(disch:=omega)only[go_sem,zA,zM,zS,zE,zL]
 refine QS (fun h3=> ?_) (fun h3=> ?_)
 · have h3:i<xs.length:=by simpa using h3
   simp(maxSteps:=999999)(disch:=omega)only[go_sem,zA,zM,zS,zE,zL]
   refine Jv (fun h4=> ?_) (fun h4=> ?_)<;>simp(maxSteps:=999999)(disch:=omega)only[go_sem,zA,zM,zS,zE,zL,h4]
   · simp at h4
     symm;simp[Qc];intro _ _ _;exact⟨i,h3,fun h=>by omega⟩
   refine QS (fun h5=> ?_) (fun h5=> ?_)<;>simp(maxSteps:=999999)(disch:=omega)only[go_sem,zA,zM,zS,zE,zL]
   · simp at h5
     symm;simp[Qc];intro _ _ _;exact⟨i,h3,fun h=>by omega⟩
   simp at h4 h5
   refine⟨i+1,⟨⟨h3,fun j hj=> ?_⟩,by omega⟩,by omega,J9 _⟩
   rcases Nat.lt_succ_iff_lt_or_eq.1 hj with h|rfl
   · exact hall j h
   · exact⟨h4,h5⟩
 simp(maxSteps:=999999)(disch:=omega)only[go_sem,zA,zM,zS,zE,zL]
 simp at h3
 symm;simp[Qc]
 exact⟨hn.1,hn.2,hl,fun j hj=>hall j (by omega)⟩
end Go.Lg

namespace Go.Lg
open Go.Proofs
theorem W1(xs:List Int)(hx:xs.length≤2^40):Jk Tryz.prog 60 [QF xs] [] (RX (eI .i64) 1 xs):=by
 refine Jk.cw (c:=_) Tryz.func60 rfl (n:=22) Tryz.ntmps60 (rs:=[.tmp 2]) rfl ?_
 simp only[Ja,Je,zA,zS,Jf,Jb,Jd]
 simp(maxSteps:=999999)(disch:=omega)only[go_sem,zA,zM,zS,zE,zL]
 intro g
 refine Qx (fun(i:Nat) (ys:List Int)=>xs.length -i) (fun i ys=>i≤xs.length∧ys.length=xs.length∧∀j:Nat,j<i→Jy ys j=Jy xs j) (fun i _=>[.k, .a, .a, .k, .p (int i), .a, .a, .a, .a, .a, .a, .a, .a, .a, .a, .a, .a, .a, .a, .a, .a, .a]) (fun _ ys=>[some ⟨g,1,cl (eI .i64) ys⟩]) 0 (Jf xs.length 0)
  ⟨Nat.zero_le _,Q5,fun j hj=>absurd hj (Nat.not_lt_zero _)⟩ (by simp(maxSteps:=999999)(disch:=omega)only[go_sem,zA,zM,zS,zE,zL];rfl) (J5.refl _) ?_
 rintro i ys ⟨hi,hl,hall⟩
 simp(maxSteps:=999999)(disch:=omega)only[go_sem,zA,zM,zS,zE,zL]
 refine QS (fun h=> ?_) (fun h=> ?_)
 · have h:i<xs.length:=by simpa using h
   simp(maxSteps:=999999)(disch:=omega)only[go_sem,zA,zM,zS,zE,zL]
   refine⟨i+1,ys.set i (Jy xs i),⟨⟨h,by simp[hl],fun j hj=> ?_⟩,by omega⟩,by simp,J5.refl _⟩
   rw[VU _ _ _ _ (by omega) (by omega)]
   split
   · simp_all
   · exact hall j (by omega)
 have h:¬i<xs.length:=by simpa using h
 simp(maxSteps:=999999)(disch:=omega)only[go_sem,zA,zM,zS,zE,zL]
 have:=V0 hl fun j hj=>hall j (by omega)
 subst this
 exact ZK (J5.refl _)
theorem U9(xs:List Int)(hx:xs.length≤2^40):JM Tryz.prog 60 [QF xs] (QF xs):=JM.own (W1 xs hx)
theorem Vf(xs ys:List Int)(hx:xs.length≤2^40):JM Tryz.prog 62 [QF xs,QF ys] (bool (decide (xs=ys))):=by
 refine Jk.cw (c:=_) Tryz.func62 rfl (n:=26) Tryz.ntmps62 (rs:=[.tmp 4]) rfl ?_
 simp only[Ja,Je,zA,zS,Jf,Jb,Jd]
 simp(maxSteps:=999999)(disch:=omega)only[go_sem,zA,zM,zS,zE,zL]
 refine QS (fun h=> ?_) (fun h=> ?_)<;>simp(maxSteps:=999999)(disch:=omega)only[go_sem,zA,zM,zS,zE,zL]
 · simp at h
   symm;simp;intro h2;exact h (by rw[h2])
 have hl:xs.length=ys.length:=by simp at h;omega
 refine JO (fun i:Nat=>xs.length -i) (fun i=>i≤xs.length∧∀j:Nat,j<i→Jy xs j=Jy ys j) (fun i=>[.k, .k, .a, .a, .a, .p (int i), .a, .a, .a, .a, .a, .a, .a, .a, .a, .a, .a, .a, .a, .a, .a, .a, .a, .a, .a, .a]) (fun i=>[]) 0
  ⟨Nat.zero_le _,fun j hj=>absurd hj (Nat.not_lt_zero _)⟩ (by simp(maxSteps:=999999)(disch:=omega)only[go_sem,zA,zM,zS,zE,zL];rfl) (J9 _) ?_
 rintro i ⟨hi,hall⟩
 simp(maxSteps:=999999)(disch:=omega)only[go_sem,zA,zM,zS,zE,zL]
 refine QS (fun h=> ?_) (fun h=> ?_)
 · have h:i<xs.length:=by simpa using h
   simp(maxSteps:=999999)(disch:=omega)only[go_sem,zA,zM,zS,zE,zL]
   refine Zi ZE (by kernel_rfl) ?_
   simp(maxSteps:=999999)(disch:=omega)only[go_sem,Nat.reduceBEq,Bool.true_or,zA,zM,zS,zE,zL]
   refine QS (fun h=> ?_) (fun h=> ?_)<;>simp(maxSteps:=999999)(disch:=omega)only[go_sem,zA,zM,zS,zE,zL]
   · simp at h
     symm;simp;intro h2;exact h (by rw[h2])
   simp at h
   refine⟨i+1,⟨⟨by omega,fun j hj=> ?_⟩,by omega⟩,by omega,J9 _⟩
   rcases Nat.lt_succ_iff_lt_or_eq.1 hj with hj|rfl
   · exact hall j hj
   · exact h
 have h:¬i<xs.length:=by simpa using h
 simp(maxSteps:=999999)(disch:=omega)only[go_sem,zA,zM,zS,zE,zL]
 have:=V0 hl fun j hj=>hall j (by omega)
 simp[this]
end Go.Lg

namespace Go.Lg
open Go.ChangeShapes Go.WideShapes Go.ChangeAt Go.RowKit
open Go.ChangeMaps (open_string)
def Cx.base(W:World):Cx:=⟨fun _=>0,fun _=>0,fun b=>b<W.heap.size,0⟩
theorem Jjd(W:World)(ht:Nw W (Cx.base W).I):ZA W (Cx.base W) []:=⟨fun b hb=>hb,fun id b hb=>by simp at hb,fun id id' b b' hb=>by simp at hb,ht⟩
theorem JM.below{P:Program}{f:FuncId}{args:List AV}{b:Bool}(h:JM P f args (bool b)){W:World}{vs:Array Value}(hv:VAs W (Cx.base W) [] args vs)(ht:Nw W (Cx.base W).I:=by exact⟨by intro G cs h;simp[JfI]at h,by intro G h;simp[JjG]at h⟩):
 Calls P f vs W fun e W'=>e= .returned (.bool b)∧Below W.heap.size W W':=
 (h W (Cx.base W) vs (Jjd W ht) hv).mono fun e W' ⟨v,u,X',H',h1,h2,h3,h4,h5⟩=>by
   have h5:v=bool b:=h5
   subst h5
   refine⟨by rw[h1,Yb h2],h4.os,h4.tape,h4.output,h4.size,fun k hk=>(h4.imm k hk).2⟩
theorem JeK{W:World}{X:Cx}{H:Jn}{x y:AV}{v u:Value}(h:VA W X H x v)(k:VA W X H y u):VAs W X H [x,y] #[v,u]:=
 ⟨rfl,fun i hi=>by
   match i,hi with
   |0,_=>exact⟨v,rfl,h⟩
   |1,_=>exact⟨u,rfl,k⟩⟩
theorem Jlc{W:World}{X:Cx}{H:Jn}(s:ByteArray):VA W X H (W0 s.data.toList) (.string s):=by
 have:bs s.data.toList=s:=by simp[bs]
 unfold W0
 rw[this]
 exact .c _ _ (VF.str _)
theorem JeP{s:ByteArray}(h:s.size≤maxLen):s.data.toList.length≤9223372036854775807:=by
 have:maxLen≤9223372036854775807:=by decide
 simp only[Array.length_toList]
 exact Nat.le_trans h this
section
variable{H:Type}{enc:TypeId×Value→H}{P:Program}{W:World}
end
end Go.Lg

namespace Go.Lg
open Go.Proofs
theorem Qv{xs:List Int}{n:Int}(h:Qc xs n=true):2≤n∧n≤4∧(xs.length:Int)=n*n∧xs.length≤16∧∀j:Nat,j<xs.length→0≤Jy xs j∧Jy xs j≤n:=by
 simp only[Qc,decide_eq_true_eq]at h
 refine⟨h.1,h.2.1,h.2.2.1, ?_,h.2.2.2⟩
 have:n=2∨n=3∨n=4:=by omega
 rcases this with rfl|rfl|rfl<;>omega
theorem QE(v a b:Int):JM Tryz.prog 40 [int v,int a,int b] (bool (decide (a≤v∧v≤b))):=by
 refine Jk.cw (c:=_) Tryz.func40 rfl (n:=15) Tryz.ntmps40 (rs:=[.tmp 6]) rfl ?_
 simp only[Ja,Je,zA,zS,Jf,Jb,Jd]
 simp(maxSteps:=999999)(disch:=omega)only[go_sem,zA,zM,zS,zE,zL]
 refine Jv (fun h=> ?_) (fun h=> ?_)<;>simp(maxSteps:=999999)(disch:=omega)only[go_sem,zA,zM,zS,zE,zL,h]<;>simp at h<;>simp[h]
 omega
theorem Zu(xs:List Int)(n:Int)(hx:xs.length≤2^40):JM Tryz.prog 39 [QF xs,int n] (bool (Qc xs n)):=by
 refine Jk.cw (c:=_) Tryz.func39 rfl (n:=29) Tryz.ntmps39 (rs:=[.tmp 4]) rfl ?_
 simp only[Ja,Je,zA,zS,Jf,Jb,Jd]
 simp(maxSteps:=999999)(disch:=omega)only[go_sem,zA,zM,zS,zE,zL]
 refine JO (fun i:Nat=>xs.length -i) (fun i=>i≤xs.length∧∀j:Nat,j<i→0≤Jy xs j∧Jy xs j≤n) (fun i=>[.k, .k, .a, .a, .a, .p (int i), .a, .a, .a, .a, .a, .a, .a, .a, .a, .a, .a, .a, .a, .a, .a, .a, .a, .a, .a, .a, .a, .a, .a]) (fun i=>[]) 0
  ⟨Nat.zero_le _,fun j hj=>absurd hj (Nat.not_lt_zero _)⟩ (by simp(maxSteps:=999999)(disch:=omega)only[go_sem,zA,zM,zS,zE,zL];rfl) (J9 _) ?_
 rintro i ⟨hi,hall⟩
 simp(maxSteps:=999999)(disch:=omega)only[go_sem,zA,zM,zS,zE,zL]
 refine QS (fun h=> ?_) (fun h=> ?_)
 · have h:i<xs.length:=by simpa using h
   simp(maxSteps:=999999)(disch:=omega)only[go_sem,zA,zM,zS,zE,zL]
   refine JU.rd (QE _ _ _) (⟨_,Tryz.func40,rfl,rfl⟩:Jg Tryz.prog 40) rfl rfl rfl rfl ?_
   simp(maxSteps:=999999)(disch:=omega)only[go_sem,zA,zM,zS,zE,zL]
   refine QS (fun h2=> ?_) (fun h2=> ?_)<;>simp(maxSteps:=999999)(disch:=omega)only[go_sem,zA,zM,zS,zE,zL]
   · simp at h2
     symm;simp[Qc];intro _ _ _;exact⟨i,h,fun h=>by omega⟩
   simp at h2
   refine⟨i+1,⟨⟨h,fun j hj=> ?_⟩,by omega⟩,by omega,J9 _⟩
   rcases Nat.lt_succ_iff_lt_or_eq.1 hj with h|rfl
   · exact hall j h
   · exact h2
 have h:¬i<xs.length:=by simpa using h
 simp(maxSteps:=999999)(disch:=omega)only[go_sem,zA,zM,zS,zE,zL]
 refine JU.rd (QE _ _ _) (⟨_,Tryz.func40,rfl,rfl⟩:Jg Tryz.prog 40) rfl rfl rfl rfl ?_
 simp(maxSteps:=999999)(disch:=omega)only[go_sem,zA,zM,zS,zE,zL]
 refine Jv (fun h2=> ?_) (fun h2=> ?_)<;>simp(maxSteps:=999999)(disch:=omega)only[go_sem,zA,zM,zS,zE,zL,h2]
 · have h2:2≤n∧n≤4:=by simpa using h2
   have hw:4≤n*n∧n*n≤16:=by
    have:n=2∨n=3∨n=4:=by omega
    rcases this with rfl|rfl|rfl<;>decide
   simp(maxSteps:=999999)(disch:=omega)only[go_sem,zA,zM,zS,zE,zL]
   simp only[Qc,h2,true_and,decide_eq_decide]
   exact⟨fun h3=>⟨h3,fun j hj=>hall j (by omega)⟩,fun h3=>h3.1⟩
 · simp at h2
   symm;simp[Qc];omega
end Go.Lg
