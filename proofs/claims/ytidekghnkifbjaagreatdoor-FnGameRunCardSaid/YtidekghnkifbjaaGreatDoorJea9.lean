/- LgQ, LgTy, LgT, LgR, LgT3, LgV, cut to what is needed. -/
import Derived.Test.YtidekghnkifbjaaGreatDoorJea8
import Derived.Test.YtidekghnkifbjaaGreatDoorProg
import Derived.KernelRfl
import Derived.ProofKit
import Derived.OpenShut
import Derived.ShutString
import Derived.ChangeOld
import Derived.SizedLaws
import Derived.ChangeSlices
import Derived.Carry
open List renaming getElem?_append_left → Ja, cons_append → Jb, nil_append → Jc, replicate → Jd, length_cons → Je, length_nil → Jf, getElem?_set_ne → Jg, getElem?_eq_some_iff → Jh, length_append → Jk, length_set → Jo, getElem?_eq_getElem → Jq, take_of_length_le → Js, append_nil → Ju, getElem?_eq_none → Jx, length_singleton → JL, length_take → JP, drop_zero → JR, getElem?_set_self → JX, getElem?_take_of_lt → J1, getElem?_append_right → J3, mapM_cons → J4, mem_map → Qj, map_cons → Qr, length_map → Qs, getElem?_map → Qv, map_append → QE, length_replicate → QG, map_nil → ZV, length_drop → Ut
open Nat renaming reduceAdd→zA,reduceMul→zM,reduceSub→zS,reduceEqDiff→zE,reduceLeDiff→zL
set_option linter.unusedSimpArgs false
set_option linter.unusedVariables false
namespace Go.Lg
class HSz {α:Type} (E:α→List FV) (n:outParam Nat):Prop where
 sz:∀x,(E x).length=n
def fl{α:Type}(E:α→List FV)(xs:List α):List FV:=xs.flatMap E
def cl{α:Type}(E:α→List FV)(xs:List α):List CV:=(fl E xs).map .f
abbrev Uu {α:Type} (E:α→List FV) (xs:List α):FV:= .sl xs.length (fl E xs)
abbrev Bl {α:Type} (E:α→List FV) (xs:List α):AV:= .c (.f (Uu E xs))
def JA{α:Type}[Inhabited α](xs:List α)(e:Int):α:=xs.getD e.toNat default
section
variable{α:Type}{E:α→List FV}{n:Nat}
theorem UD[h:HSz E n](xs:List α):(fl E xs).length=xs.length*n:=by
 induction xs with
 |nil=>simp[fl]
 |cons x xs ih=>simp only[fl,List.flatMap_cons,Jk,h.sz,Je]at ih⊢;rw[ih,Nat.add_mul];omega
theorem Qa[h:HSz E n](xs:List α):(cl E xs).length=xs.length*n:=by simp[cl,UD]
theorem Q6(xs ys:List α):cl E (xs++ys)=cl E xs++cl E ys:=by simp[cl,fl]
theorem Jjl(x:α):cl E [x]=(E x).map .f:=by simp[cl,fl]
theorem Gy[h:HSz E n]:∀(xs:List α) (i:Nat),(fl E xs).drop (i*n)=fl E (xs.drop i)
 |[],i=>by simp[fl]
 |x::xs,0=>by simp
 |x::xs,i+1=>by
  have ih:=Gy xs i
  have:(i+1)*n=(E x).length+i*n:=by rw[h.sz,Nat.add_mul];omega
  rw[this]
  simp only[fl,List.flatMap_cons,List.drop_append,List.drop_succ_cons]at ih⊢
  rw[List.drop_eq_nil_of_le (by omega),Nat.add_sub_cancel_left,ih]
  rfl
theorem Gx[h:HSz E n]:∀(xs:List α) (i:Nat),(fl E xs).take (i*n)=fl E (xs.take i)
 |[],i=>by simp[fl]
 |x::xs,0=>by simp[fl]
 |x::xs,i+1=>by
  have ih:=Gx xs i
  have:(i+1)*n=(E x).length+i*n:=by rw[h.sz,Nat.add_mul];omega
  rw[this]
  simp only[fl,List.flatMap_cons,List.take_append,List.take_succ_cons]at ih⊢
  rw[Js (by omega),Nat.add_sub_cancel_left,ih]
theorem Ji9[h:HSz E n](xs:List α){i:Nat}(hi:i<xs.length):((fl E xs).drop (i*n)).take n=E xs[i]:=by
 rw[Gy,List.drop_eq_getElem_cons hi]
 simp only[fl,List.flatMap_cons]
 rw[List.take_append_of_le_length (by rw[h.sz];exact Nat.le_refl _),Js (by rw[h.sz];exact Nat.le_refl _)]
theorem Qt[Inhabited α]{xs:List α}{e:Int}(h:0≤e∧e<(xs.length:Int)):JA xs e=xs[e.toNat]'(by omega):=by
 simp[JA,List.getD,Jq (show e.toNat<xs.length by omega)]
theorem Jjn[Inhabited α][hs:HSz E n]{H:Jm}{xs:List α}{e:Int}(h:0≤e∧e<(xs.length:Int)):Un H (.fp (fl E xs) (e.toNat*n)) n=some ((E (JA xs e)).map .f):=by
 have hi:e.toNat<xs.length:=by omega
 simp only[Un]
 rw[Ji9 xs hi,UD,Qt h,if_pos]
 rw[←Nat.succ_mul]
 exact Nat.mul_le_mul_right _ hi
theorem BN[hs:HSz E n]{xs:List α}{i j:Nat}(hi:i<xs.length)(hj:j<n):(fl E xs)[i*n+j]? =some ((E xs[i]).getD j .nil):=by
 have h:=Ji9 (E:=E) xs hi
 have h2:=congrArg (fun l=>l[j]?) h
 simp only[J1 hj,List.getElem?_drop]at h2
 rw[h2,List.getD,Jq (by rw[hs.sz];exact hj)]
 rfl
theorem JiS[Inhabited α][hs:HSz E 1]{H:Jm}{xs:List α}{e:Int}(h:0≤e∧e<(xs.length:Int)):FY H (.fp (fl E xs) (e.toNat*1))=some (.c (.f ((E (JA xs e)).getD 0 .nil))):=by
 have hi:e.toNat<xs.length:=by omega
 have:=BN (E:=E) (xs:=xs) hi (Nat.lt_succ_self 0)
 rw[Jdl,Qt h]
 rw[Nat.add_zero]at this
 rw[this];rfl
theorem JgM[Inhabited α][hs:HSz E n]{H:Jm}{xs:List α}{e:Int}{j:Nat}(h:0≤e∧e<(xs.length:Int))(hj:j<n):FY H (.fp (fl E xs) (e.toNat*n+j))=some (.c (.f ((E (JA xs e)).getD j .nil))):=by
 have hi:e.toNat<xs.length:=by omega
 rw[Jdl,Qt h,BN hi hj];rfl
def ldP(b:Option Zv)(off:Nat):Option AV:=match b with
 |some b=>match b.cs[off]? with
  |some c=>some (.c c)
  |none=>none
 |none=>none
theorem JgL{H:Jm}{id g off:Nat}:FY H (.ptr id g off)=ldP (look H id g) off:=by
 unfold FY ldP
 simp only[Un]
 cases hl:look H id g with
 |none=>simp only[hl]
 |some b=>
  simp only[hl]
  by_cases h:off<b.cs.length
  · rw[if_pos (by omega),Jq h]
    have:(b.cs.drop off).take 1=[b.cs[off]]:=by
     rw[List.drop_eq_getElem_cons h];rfl
    rw[this]
  · rw[if_neg (by omega),Jx (by omega)]
theorem Jdn{b:Zv}{off:Nat}:ldP (some b) off=(b.cs[off]?).map .c:=by
 simp only[ldP]
 cases b.cs[off]? <;>rfl
theorem Jmj[Inhabited α][hs:HSz E 1]{g sz:Nat}{xs:List α}{e:Int}(h:0≤e∧e<(xs.length:Int)):ldP (some ⟨g,sz,cl E xs⟩) (0+e.toNat*1)=some (.c (.f ((E (JA xs e)).getD 0 .nil))):=by
 have hi:e.toNat<xs.length:=by omega
 have:=BN (E:=E) (xs:=xs) hi (Nat.lt_succ_self 0)
 rw[Nat.add_zero]at this
 rw[Jdn,Nat.zero_add,Qt h]
 simp only[cl,Qv,this,Option.map_some]
theorem US{g sz:Nat}{cs:List CV}{H:Jm}:look (some ⟨g,sz,cs⟩::H) 0 g=some ⟨g,sz,cs⟩:=by simp[look]
theorem JgK{x:Option Zv}{H:Jm}{i g:Nat}:look (x::H) (i+1) g=look H i g:=by simp[look]
theorem Vj[hs:HSz E n]{xs:List α}{i:Nat}{v:α}(h:i<xs.length):Qk (cl E xs) (0+i*n) ((E v).map .f)=cl E (xs.set i v):=by
 have e1:(cl E xs).take (0+i*n)=cl E (xs.take i):=by rw[Nat.zero_add];simp only[cl,←List.map_take,Gx]
 have e2:(cl E xs).drop (0+i*n+((E v).map CV.f).length)=cl E (xs.drop (i+1)):=by
  rw[Qs,hs.sz,Nat.zero_add,←Nat.succ_mul];simp only[cl,←List.map_drop,Gy]
 rw[Qk,e1,e2,List.set_eq_take_append_cons_drop,if_pos h]
 simp[cl,fl]
end
def eI(k:IntKind)(x:Int):List FV:=[.int k x]
instance(k:IntKind):HSz (eI k) 1:=⟨fun _=>rfl⟩
abbrev J5 (xs:List Int):FV:=Uu (eI .i64) xs
abbrev QO (xs:List Int):AV:= .c (.f (J5 xs))
theorem Jmt(k:IntKind)(x:Int)(d:FV):(eI k x).getD 0 d= .int k x:=rfl
theorem setI{k:IntKind}{xs:List Int}{e v:Int}(h:0≤e∧e<(xs.length:Int)):Qk (cl (eI k) xs) (0+e.toNat*1) [.f (.int k v)]=cl (eI k) (xs.set e.toNat v):=
 Vj (E:=eI k) (by omega)
theorem addI{k:IntKind}{xs:List Int}{v:Int}:cl (eI k) xs++[.f (.int k v)]=cl (eI k) (xs++[v]):=by rw[Q6,Jjl];rfl
theorem JlE(n:Nat)(k:IntKind):QX (n*1) [.f (.int k 0)]=cl (eI k) (Jd n 0):=by
 simp only[QX,Nat.mul_one,JL,Nat.mod_one]
 induction n with
 |zero=>rfl
 |succ n ih=>rw[List.range_succ,QE,ih,List.replicate_succ',Q6];rfl
theorem JhL(z:List CV):QX 0 z=[]:=rfl
def bs(l:List UInt8):ByteArray:=⟨l.toArray⟩
abbrev WU (l:List UInt8):AV:= .c (.f (.str (bs l)))
def eS(l:List UInt8):List FV:=[.str (bs l)]
instance:HSz eS 1:=⟨fun _=>rfl⟩
theorem Jmq(x:List UInt8)(d:FV):(eS x).getD 0 d= .str (bs x):=rfl
theorem addS{xs:List (List UInt8)}{v:List UInt8}:cl eS xs++[.f (.str (bs v))]=cl eS (xs++[v]):=by rw[Q6,Jjl];rfl
theorem Gz(l:List UInt8):(bs l).size=l.length:=by simp[bs,ByteArray.size]
theorem Jmy(a b:List UInt8):bs a++bs b=bs (a++b):=by
 apply ByteArray.ext
 simp[bs,ByteArray.data_append]
def u8(n:Int):UInt8:=UInt8.ofNat n.toNat
theorem Jmp{s:List AV}(l:List UInt8):QY s (.const (.string ⟨l.toArray⟩))=WU l:=rfl
def Xy(l:List UInt8)(e:Int):Int:=((l.getD e.toNat 0).toNat:Int)
theorem Jhr(l:List UInt8)(e:Int):NX (bs l) e.toNat=Xy l e:=rfl
def sub{α:Type}(l:List α)(a b:Int):List α:=(l.drop a.toNat).take (b.toNat -a.toNat)
theorem JeU(l:List UInt8)(a b:Nat):(bs l).extract a b=bs ((l.drop a).take (b -a)):=by
 apply ByteArray.ext
 simp[bs,ByteArray.extract,ByteArray.copySlice]
theorem Jh1(xs:List Int):strOfNums xs=bs (xs.map u8):=rfl
theorem JjL{P:Program}{H:Jm}{t:TypeId}{a b:List UInt8}:Rj P H .add t (WU a) (WU b)=if a.length+b.length≤9223372036854775807 then some (WU (a++b))else none:=by
 simp only[Rj,Gz,Jmy]
theorem JaJ(l:List UInt8):(bs l).toList=l:=by simp[bs,ByteArray.toList_eq]
theorem JjK{P:Program}{H:Jm}{t:TypeId}{a b:List UInt8}:Rj P H .eql t (WU a) (WU b)=some (bool (decide (a=b))):=by
 have:(a==b)=decide (a=b):=by rw[Bool.eq_iff_iff];simp
 simp only[Rj,JaJ,this]
theorem JjH{P:Program}{H:Jm}{t:TypeId}{a b:List UInt8}:Rj P H .neq t (WU a) (WU b)=some (bool (!decide (a=b))):=by
 have:(a==b)=decide (a=b):=by rw[Bool.eq_iff_iff];simp
 simp only[Rj,JaJ,this]
theorem Jhz{P:Program}{H:Jm}{t:TypeId}{a b:Bool}:Rj P H .eql t (bool a) (bool b)=match JV P t with
 |some ti=>match ti.k with
  | .bool=>some (bool (decide (a=b)))
  |_=>none
 |none=>none:=by
 have:(a==b)=decide (a=b):=by rw[Bool.eq_iff_iff];simp
 simp only[Rj,this]
 cases JV P t with
 |none=>rfl
 |some ti=>simp only;cases ti.k<;>rfl
theorem Jhy{P:Program}{H:Jm}{t:TypeId}{a b:Bool}:Rj P H .neq t (bool a) (bool b)=match JV P t with
 |some ti=>match ti.k with
  | .bool=>some (bool (!decide (a=b)))
  |_=>none
 |none=>none:=by
 have:(a==b)=decide (a=b):=by rw[Bool.eq_iff_iff];simp
 simp only[Rj,this]
 cases JV P t with
 |none=>rfl
 |some ti=>simp only;cases ti.k<;>rfl
theorem JlK(xs:List Int):u8s (cl (eI .u8) xs)=some xs:=by
 have:cl (eI .u8) xs=xs.map fun n=>CV.f (.int .u8 n):=by
  induction xs with
  |nil=>rfl
  |cons x xs ih=>simp only[cl,fl,List.flatMap_cons,QE,Qr]at ih⊢;rw[ih];rfl
 rw[this,Jfh]
theorem JhR(xs:List Int)(n:Nat):u8s ((cl (eI .u8) xs).take n)=some (xs.take n):=by
 have:=congrArg (List.take n) (show cl (eI .u8) xs=xs.map fun n=>CV.f (.int .u8 n) by
  induction xs with
  |nil=>rfl
  |cons x xs ih=>simp only[cl,fl,List.flatMap_cons,QE,Qr]at ih⊢;rw[ih];rfl)
 rw[this,←List.map_take,Jfh]
theorem Jkc{α:Type}{E:α→List FV}[h:HSz E 1](xs:List α):((cl E xs).drop 0).take xs.length=cl E xs:=by
 rw[JR,Js (by rw[Qa];omega)]
theorem GJ{α:Type}{E:α→List FV}{n:Nat}[h:HSz E n](xs:List α):((cl E xs).drop 0).take (xs.length*n)=cl E xs:=by
 rw[JR,Js (by rw[Qa];omega)]
theorem JhV{α:Type}{E:α→List FV}[h:HSz E 1](xs:List α):(cl E xs).take xs.length=cl E xs:=by
 rw[Js (by rw[Qa];omega)]
theorem JhU{α:Type}{E:α→List FV}{n:Nat}[h:HSz E n](xs:List α):(cl E xs).take (xs.length*n)=cl E xs:=by
 rw[Js (by rw[Qa];omega)]
theorem ile_t{α:Sort _}{a b:Int}{x y:α}(h:a≤b):(if a≤b then x else y)=x:=if_pos h
def Jho(sz n:Nat)(cs:List FV)(l h:Nat):Option AV:=if l≤h∧h≤n then some (.c (.f (.sl (h -l) ((cs.drop (l*sz)).take ((h -l)*sz)))))else none
def Jhn(l:List UInt8)(a b:Nat):Option AV:=if a≤b∧b≤l.length then some (WU ((l.drop a).take (b -a)))else none
theorem Jgg{P:Program}{H:Jm}{t:TypeId}{n:Nat}{cs:List FV}{lo hi:Option Nat}:UI P H t (.c (.f (.sl n cs))) lo hi none=match QW P t with
 |some ei=>Jho ei.size n cs (lo.getD 0) (hi.getD n)
 |none=>none:=by
 simp only[UI,QW]
 cases JV P t with
 |none=>rfl
 |some ti=>
  simp only
  cases ti.k with
  |slice e=>
   simp only
   cases JV P e with
   |none=>rfl
   |some ei=>
    simp only[Jho,Option.getD_none]
    have:(lo.getD 0≤hi.getD n∧hi.getD n≤hi.getD n∧hi.getD n≤n∧((none:Option Nat).isSome=true→hi.isSome=true))↔(lo.getD 0≤hi.getD n∧hi.getD n≤n):=by simp
    by_cases h:lo.getD 0≤hi.getD n∧hi.getD n≤n
    · rw[if_pos (this.2 h),if_pos h];simp
    · rw[if_neg (fun hh=>h (this.1 hh)),if_neg h]
  |_=>rfl
theorem Jee{P:Program}{H:Jm}{t:TypeId}{l:List UInt8}{lo hi:Option Nat}:UI P H t (WU l) lo hi none=match JV P t with
 |some ti=>(match ti.k with
  | .str=>Jhn l (lo.getD 0) (hi.getD l.length)
  |_=>none)
 |none=>none:=by
 simp only[UI,Gz]
 cases JV P t with
 |none=>rfl
 |some ti=>
  simp only
  cases ti.k with
  |str=>
   simp only[Jhn,Gz,JeU]
  |_=>rfl
theorem Jb5{α:Type}{E:α→List FV}{sz:Nat}[h:HSz E sz]{xs:List α}{a b:Int}(hb:0≤a∧a≤b∧b≤xs.length):Jho sz xs.length (fl E xs) a.toNat b.toNat=some (Bl E (sub xs a b)):=by
 have hl:(sub xs a b).length=b.toNat -a.toNat:=by simp[sub];omega
 simp only[Jho]
 rw[if_pos (by omega),Gy,Gx]
 unfold Bl Uu
 rw[hl];rfl
theorem NU{l:List UInt8}{a b:Int}(hb:0≤a∧a≤b∧b≤l.length):Jhn l a.toNat b.toNat=some (WU (sub l a b)):=by
 simp only[Jhn]
 rw[if_pos (by omega)];rfl
theorem GN{α:Type}{xs:List α}{a b:Int}(hb:0≤a∧a≤b∧b≤xs.length):((sub xs a b).length:Int)=b -a:=by simp[sub];omega
theorem JkJ{α:Type}[Inhabited α]{xs:List α}{a b:Int}{j:Nat}(hb:0≤a∧a≤b∧b≤xs.length)(hj:(j:Int)<b -a):JA (sub xs a b) j=JA xs (a+j):=by
 rw[Qt (by rw[GN hb];omega),Qt (by omega)]
 simp only[sub,List.getElem_take,List.getElem_drop]
 congr 1
 omega
theorem Fu{α:Type}{E:α→List FV}{H:Jm}{n:Nat}(xs:List α):(cl E xs).mapM (frz H n)=some (fl E xs):=by
 have:∀l:List FV,(l.map CV.f).mapM (frz H n)=some l:=by
  intro l
  induction l with
  |nil=>rfl
  |cons x l ih=>
   rw[Qr,J4,ih]
   cases n<;>rfl
 exact this _
theorem Xv{α:Type}{E:α→List FV}{n:Nat}[h:HSz E n]{H:Jm}{id g:Nat}{lim:Option Nat}{xs:List α}(hl:look H id g=some ⟨g,n,cl E xs⟩):Vu H (.c (.own id g 0 xs.length lim))=some (Bl E xs):=by
 simp only[Vu,Xw,frzC,frz,hl,GJ,Fu,Option.map_some]
def G6{α:Type}(E:α→List FV)(n:Nat)(xs:List α):KV:=fun r H=>∃g,r= .c (.own 0 g 0 xs.length none)∧H=[some ⟨g,n,cl E xs⟩]
theorem JcJ{α:Type}{E:α→List FV}{n g:Nat}{xs:List α}(h:∀x∈xs,∀y∈E x,JaQ y=true):YX [some ⟨g,n,cl E xs⟩]:=by
 intro id b hb c hc
 have:id=0:=by
  have:=(Jh.1 hb).1
  simpa using this
 subst this
 simp at hb
 subst hb
 simp only[cl,fl,Qj,List.mem_flatMap]at hc
 obtain⟨y,⟨x,hx,hy⟩,rfl⟩:=hc
 exact h x hx y hy
theorem K1:YX []:=fun id b hb=>by simp at hb
theorem Jlq(k:IntKind)(xs:List Int):∀x∈xs,∀y∈eI k x,JaQ y=true:=fun x _ y hy=>by simp[eI]at hy;subst hy;rfl
theorem scalS(xs:List (List UInt8)):∀x∈xs,∀y∈eS x,JaQ y=true:=fun x _ y hy=>by simp[eS]at hy;subst hy;rfl
theorem JW.own{α:Type}{E:α→List FV}{n:Nat}[h:HSz E n]{P:Program}{f:FuncId}{args:List AV}{xs:List α}(hc:Jn P f args [] (G6 E n xs)):JW P f args (Bl E xs):=
 JW.ice hc fun r H' ⟨g,h1,h2⟩=>by subst h1 h2;exact Xv US
theorem Bt{α:Type}[Inhabited α](l:List α)(i:Nat)(v:α)(e:Int)(h:i<l.length)(he:0≤e):JA (l.set i v) e=if e=i then v else JA l e:=by
 simp only[JA,List.getD,List.getElem?_set]
 by_cases h1:i=e.toNat
 · rw[if_pos h1,if_pos (by omega),if_pos (by omega)];rfl
 · rw[if_neg h1,if_neg (by omega)]
theorem YN{α:Type}[Inhabited α]{a b:List α}(hl:a.length=b.length)(h:∀j:Nat,j<a.length→JA a j=JA b j):a=b:=by
 apply List.ext_getElem hl
 intro i h1 h2
 have:=h i h1
 rw[Qt (by omega),Qt (by omega)]at this
 simpa using this
theorem ZO{α:Type}{E:α→List FV}{n g:Nat}{xs:List α}{H:Jm}(h:J0 H [some ⟨g,n,cl E xs⟩]):Uz H (G6 E n xs) (.c (.own 0 g 0 xs.length none)):=⟨_,h,g,rfl,rfl⟩
theorem Qg{α:Type}[Inhabited α]{xs:List α}{i:Nat}(h:i<xs.length):xs.take (i+1)=xs.take i++[JA xs i]:=by
 rw[List.take_succ_eq_append_getElem h,Qt (by omega)];simp
theorem VZ{α:Type}{E:α→List FV}{k:Nat}(xs:List α):(cl E xs).map (Uf k)=cl E xs:=by
 simp only[cl,List.map_map]
 rfl
theorem JiT{Q:KV}{H:Jm}{v:AV}:Uz H (nzQ Q) v=Uz H Q (nzA v):=propext Iff.rfl
theorem Vc{H:Jm}{v r:AV}(h:Vu H r=some v):Uz H (iceQ v) r:=⟨H,J0.refl _,h⟩
theorem JbS{H:Jm}{id:Nat}{x:Option Zv}(h:H[id]? =some x):J0 H (H.set id x):=by
 have:H.set id x=H:=by
  apply List.ext_getElem?
  intro j
  by_cases hj:id=j
  · subst hj
    rw[JX (Jh.1 h).1,h]
  · rw[Jg hj]
 rw[this];exact J0.refl _
theorem Jgi(x:Option Zv)(H:Jm)(b:Option Zv):List.set (x::H) 0 b=b::H:=rfl
def Jfy(k:Int)(n:Nat):List Int:=(List.range n).map fun i:Nat=>k+i
theorem Bx(k:Int)(n:Nat):(Jfy k n).length=n:=by simp[Jfy]
theorem Jd6{E:Int→List FV}[h:HSz E 1](k:Int)(n:Nat):(cl E (Jfy k n)).take (n*1)=cl E (Jfy k n):=by
 rw[Js (by rw[Qa,Bx];exact Nat.le_refl _)]
theorem Y6{a b:Int}(h:¬a<b):decide (a<b)=false:=decide_eq_false h
theorem XZ{a b:Int}(h:a<b):decide (a<b)=true:=decide_eq_true h
theorem NS{a b:Int}(h:¬a=b):decide (a=b)=false:=decide_eq_false h
theorem RY{a b:Int}(h:a=b):decide (a=b)=true:=decide_eq_true h
theorem setS{xs:List (List UInt8)}{e:Int}{v:List UInt8}(h:0≤e∧e<(xs.length:Int)):Qk (cl eS xs) (0+e.toNat*1) [.f (.str (bs v))]=cl eS (xs.set e.toNat v):=
 Vj (E:=eS) (by omega)
theorem JlD(n:Nat):QX (n*1) [.f (.str (ByteArray.mk #[]))]=cl eS (Jd n []):=by
 simp only[QX,Nat.mul_one,JL,Nat.mod_one]
 induction n with
 |zero=>rfl
 |succ n ih=>rw[List.range_succ,QE,ih,List.replicate_succ',Q6];rfl
def digs(k:Nat)(out:List UInt8):List UInt8:=if h:k=0 then out else digs (k/10) (u8 (48+(k%10:Nat))::out)
termination_by k
decreasing_by omega
def mtext(k:Int):List UInt8:=if k≤0 then[109,48]else 109::digs k.toNat []
def Jfz(k:Int)(n:Nat):List (List UInt8):=(List.range n).map fun i:Nat=>mtext (k+i)
theorem By(k:Int)(n:Nat):(Jfz k n).length=n:=by simp[Jfz]
theorem Jd7(k:Int)(n:Nat):(cl eS (Jfz k n)).take (n*1)=cl eS (Jfz k n):=by
 rw[Js (by rw[Qa,By];exact Nat.le_refl _)]
attribute [go_sem] setS addS JlD By Jd7 Jef Wb ile_t Jgg Jee Jb5 NU Option.getD_some Option.getD_none Bx Jd6 Jgi VZ eq_self Bool.not_true Bool.not_false decide_false JiT JiS JgM Jjn JgL Jmj US JgK setI addI JlE Jmp Gz Jhr Jh1 JjL JjK JjH Jhz Jhy Option.isSome_some Option.isSome_none nzA nz1 nzC Q7 ZJ ZV Option.map_some NR WO shift1 Uf u8s JlK JhR Jkc GJ JhV JhU
 Jmt Jmq Jbt W2 Jce Jjr Rh QW NY JfB WJ J9 Bd Ri decide_true decide_eq_true_eq Bool.and_true Bool.true_and Ju JhL JR List.take_zero List.take_succ_cons List.take_nil elems Vm WT BQ Fl Qa Jlc Jjh
 Jb Jc Je Jf Jk List.set_cons_zero List.set_cons_succ reduceCtorEq and_self Qr ZV JP QG Jo Qs Ut
end Go.Lg

namespace Go.Lg
open Go.Proofs
theorem ti1:JV Tryz.prog 1=some ⟨.func,1,8,[.nilf]⟩:=by kernel_rfl
theorem ti2:JV Tryz.prog 2=some ⟨.int .i64,1,8,[.f (.int .i64 0)]⟩:=by kernel_rfl
theorem Kh:JV Tryz.prog 3=some ⟨.int .i64,1,8,[.f (.int .i64 0)]⟩:=by kernel_rfl
theorem ti4:JV Tryz.prog 4=some ⟨.bool,1,1,[.f (.bool false)]⟩:=by kernel_rfl
theorem ti5:JV Tryz.prog 5=some ⟨.int .u8,1,1,[.f (.int .u8 0)]⟩:=by kernel_rfl
theorem ti6:JV Tryz.prog 6=some ⟨.int .u8,1,1,[.f (.int .u8 0)]⟩:=by kernel_rfl
theorem ti7:JV Tryz.prog 7=some ⟨.struct [(2,0),(3,1),(4,2),(6,3)],4,24,[.f (.int .i64 0), .f (.int .i64 0), .f (.bool false), .f (.int .u8 0)]⟩:=by kernel_rfl
theorem ti8:JV Tryz.prog 8=some ⟨.struct [(2,0),(3,1),(4,2),(6,3)],4,24,[.f (.int .i64 0), .f (.int .i64 0), .f (.bool false), .f (.int .u8 0)]⟩:=by kernel_rfl
theorem ti9:JV Tryz.prog 9=some ⟨.str,1,16,[.f (.str (ByteArray.mk #[]))]⟩:=by kernel_rfl
theorem ti10:JV Tryz.prog 10=some ⟨.str,1,16,[.f (.str (ByteArray.mk #[]))]⟩:=by kernel_rfl
theorem ti11:JV Tryz.prog 11=some ⟨.str,1,16,[.f (.str (ByteArray.mk #[]))]⟩:=by kernel_rfl
theorem ti12:JV Tryz.prog 12=some ⟨.int .u64,1,8,[.f (.int .u64 0)]⟩:=by kernel_rfl
theorem ti13:JV Tryz.prog 13=some ⟨.struct [(9,0),(12,1)],2,24,[.f (.str (ByteArray.mk #[])), .f (.int .u64 0)]⟩:=by kernel_rfl
theorem ti14:JV Tryz.prog 14=some ⟨.struct [(9,0),(12,1)],2,24,[.f (.str (ByteArray.mk #[])), .f (.int .u64 0)]⟩:=by kernel_rfl
theorem ti15:JV Tryz.prog 15=some ⟨.ptr 162,1,8,[.nilp]⟩:=by kernel_rfl
theorem ti16:JV Tryz.prog 16=some ⟨.ptr 165,1,8,[.nilp]⟩:=by kernel_rfl
theorem ti17:JV Tryz.prog 17=some ⟨.ptr 174,1,8,[.nilp]⟩:=by kernel_rfl
theorem ti18:JV Tryz.prog 18=some ⟨.struct [(17,0)],1,8,[.nilp]⟩:=by kernel_rfl
theorem ti19:JV Tryz.prog 19=some ⟨.struct [(17,0)],1,8,[.nilp]⟩:=by kernel_rfl
theorem ti21:JV Tryz.prog 21=some ⟨.int .i32,1,4,[.f (.int .i32 0)]⟩:=by kernel_rfl
theorem ti22:JV Tryz.prog 22=some ⟨.slice 5,1,24,[.f .nil]⟩:=by kernel_rfl
theorem UE:JV Tryz.prog 23=some ⟨.slice 3,1,24,[.f .nil]⟩:=by kernel_rfl
theorem Jd5:JV Tryz.prog 24=some ⟨.slice 101,1,24,[.f .nil]⟩:=by kernel_rfl
theorem ti25:JV Tryz.prog 25=some ⟨.struct [(3,0),(23,1),(24,2)],3,56,[.f (.int .i64 0), .f .nil, .f .nil]⟩:=by kernel_rfl
theorem ti26:JV Tryz.prog 26=some ⟨.struct [(3,0),(23,1),(24,2)],3,56,[.f (.int .i64 0), .f .nil, .f .nil]⟩:=by kernel_rfl
theorem ti27:JV Tryz.prog 27=some ⟨.struct [(26,0),(23,3),(23,4)],5,104,[.f (.int .i64 0), .f .nil, .f .nil, .f .nil, .f .nil]⟩:=by kernel_rfl
theorem ti28:JV Tryz.prog 28=some ⟨.struct [(26,0),(23,3),(23,4)],5,104,[.f (.int .i64 0), .f .nil, .f .nil, .f .nil, .f .nil]⟩:=by kernel_rfl
theorem ti29:JV Tryz.prog 29=some ⟨.func,1,8,[.nilf]⟩:=by kernel_rfl
theorem ti30:JV Tryz.prog 30=some ⟨.func,1,8,[.nilf]⟩:=by kernel_rfl
theorem ti31:JV Tryz.prog 31=some ⟨.func,1,8,[.nilf]⟩:=by kernel_rfl
theorem ti32:JV Tryz.prog 32=some ⟨.func,1,8,[.nilf]⟩:=by kernel_rfl
theorem ti33:JV Tryz.prog 33=some ⟨.func,1,8,[.nilf]⟩:=by kernel_rfl
theorem ti34:JV Tryz.prog 34=some ⟨.func,1,8,[.nilf]⟩:=by kernel_rfl
theorem ti36:JV Tryz.prog 36=some ⟨.func,1,8,[.nilf]⟩:=by kernel_rfl
theorem ti37:JV Tryz.prog 37=some ⟨.func,1,8,[.nilf]⟩:=by kernel_rfl
theorem ti38:JV Tryz.prog 38=some ⟨.func,1,8,[.nilf]⟩:=by kernel_rfl
theorem ti39:JV Tryz.prog 39=some ⟨.slice 127,1,24,[.f .nil]⟩:=by kernel_rfl
theorem ti40:JV Tryz.prog 40=some ⟨.struct [(3,0),(23,1),(39,2)],3,56,[.f (.int .i64 0), .f .nil, .f .nil]⟩:=by kernel_rfl
theorem ti41:JV Tryz.prog 41=some ⟨.struct [(3,0),(23,1),(39,2)],3,56,[.f (.int .i64 0), .f .nil, .f .nil]⟩:=by kernel_rfl
theorem ti42:JV Tryz.prog 42=some ⟨.struct [(41,0),(23,3),(23,4)],5,104,[.f (.int .i64 0), .f .nil, .f .nil, .f .nil, .f .nil]⟩:=by kernel_rfl
theorem ti43:JV Tryz.prog 43=some ⟨.struct [(41,0),(23,3),(23,4)],5,104,[.f (.int .i64 0), .f .nil, .f .nil, .f .nil, .f .nil]⟩:=by kernel_rfl
theorem Jf8:JV Tryz.prog 44=some ⟨.slice 9,1,24,[.f .nil]⟩:=by kernel_rfl
theorem ti45:JV Tryz.prog 45=some ⟨.func,1,8,[.nilf]⟩:=by kernel_rfl
theorem ti46:JV Tryz.prog 46=some ⟨.func,1,8,[.nilf]⟩:=by kernel_rfl
theorem ti48:JV Tryz.prog 48=some ⟨.func,1,8,[.nilf]⟩:=by kernel_rfl
theorem ti49:JV Tryz.prog 49=some ⟨.func,1,8,[.nilf]⟩:=by kernel_rfl
theorem ti50:JV Tryz.prog 50=some ⟨.func,1,8,[.nilf]⟩:=by kernel_rfl
theorem ti51:JV Tryz.prog 51=some ⟨.func,1,8,[.nilf]⟩:=by kernel_rfl
theorem ti52:JV Tryz.prog 52=some ⟨.func,1,8,[.nilf]⟩:=by kernel_rfl
theorem ti53:JV Tryz.prog 53=some ⟨.func,1,8,[.nilf]⟩:=by kernel_rfl
theorem ti54:JV Tryz.prog 54=some ⟨.func,1,8,[.nilf]⟩:=by kernel_rfl
theorem ti55:JV Tryz.prog 55=some ⟨.func,1,8,[.nilf]⟩:=by kernel_rfl
theorem ti56:JV Tryz.prog 56=some ⟨.func,1,8,[.nilf]⟩:=by kernel_rfl
theorem ti57:JV Tryz.prog 57=some ⟨.func,1,8,[.nilf]⟩:=by kernel_rfl
theorem ti58:JV Tryz.prog 58=some ⟨.struct [(3,0),(3,1),(3,2)],3,24,[.f (.int .i64 0), .f (.int .i64 0), .f (.int .i64 0)]⟩:=by kernel_rfl
theorem ti59:JV Tryz.prog 59=some ⟨.struct [(3,0),(3,1),(3,2)],3,24,[.f (.int .i64 0), .f (.int .i64 0), .f (.int .i64 0)]⟩:=by kernel_rfl
theorem ti61:JV Tryz.prog 61=some ⟨.func,1,8,[.nilf]⟩:=by kernel_rfl
theorem ti62:JV Tryz.prog 62=some ⟨.func,1,8,[.nilf]⟩:=by kernel_rfl
theorem ti63:JV Tryz.prog 63=some ⟨.ptr 98,1,8,[.nilp]⟩:=by kernel_rfl
theorem ti64:JV Tryz.prog 64=some ⟨.func,1,8,[.nilf]⟩:=by kernel_rfl
theorem ti66:JV Tryz.prog 66=some ⟨.func,1,8,[.nilf]⟩:=by kernel_rfl
theorem ti67:JV Tryz.prog 67=some ⟨.func,1,8,[.nilf]⟩:=by kernel_rfl
theorem ti68:JV Tryz.prog 68=some ⟨.func,1,8,[.nilf]⟩:=by kernel_rfl
theorem ti69:JV Tryz.prog 69=some ⟨.slice 4,1,24,[.f .nil]⟩:=by kernel_rfl
theorem ti70:JV Tryz.prog 70=some ⟨.func,1,8,[.nilf]⟩:=by kernel_rfl
theorem Jkb:JV Tryz.prog 71=some ⟨.slice 23,1,24,[.f .nil]⟩:=by kernel_rfl
theorem ti72:JV Tryz.prog 72=some ⟨.func,1,8,[.nilf]⟩:=by kernel_rfl
theorem ti73:JV Tryz.prog 73=some ⟨.func,1,8,[.nilf]⟩:=by kernel_rfl
theorem ti74:JV Tryz.prog 74=some ⟨.func,1,8,[.nilf]⟩:=by kernel_rfl
theorem ti75:JV Tryz.prog 75=some ⟨.func,1,8,[.nilf]⟩:=by kernel_rfl
theorem ti77:JV Tryz.prog 77=some ⟨.func,1,8,[.nilf]⟩:=by kernel_rfl
theorem ti78:JV Tryz.prog 78=some ⟨.func,1,8,[.nilf]⟩:=by kernel_rfl
theorem ti79:JV Tryz.prog 79=some ⟨.func,1,8,[.nilf]⟩:=by kernel_rfl
theorem ti80:JV Tryz.prog 80=some ⟨.func,1,8,[.nilf]⟩:=by kernel_rfl
theorem ti81:JV Tryz.prog 81=some ⟨.func,1,8,[.nilf]⟩:=by kernel_rfl
theorem ti82:JV Tryz.prog 82=some ⟨.func,1,8,[.nilf]⟩:=by kernel_rfl
theorem ti83:JV Tryz.prog 83=some ⟨.func,1,8,[.nilf]⟩:=by kernel_rfl
theorem ti84:JV Tryz.prog 84=some ⟨.func,1,8,[.nilf]⟩:=by kernel_rfl
theorem ti85:JV Tryz.prog 85=some ⟨.func,1,8,[.nilf]⟩:=by kernel_rfl
theorem ti86:JV Tryz.prog 86=some ⟨.func,1,8,[.nilf]⟩:=by kernel_rfl
theorem ti87:JV Tryz.prog 87=some ⟨.func,1,8,[.nilf]⟩:=by kernel_rfl
theorem ti88:JV Tryz.prog 88=some ⟨.func,1,8,[.nilf]⟩:=by kernel_rfl
theorem ti89:JV Tryz.prog 89=some ⟨.func,1,8,[.nilf]⟩:=by kernel_rfl
theorem ti90:JV Tryz.prog 90=some ⟨.func,1,8,[.nilf]⟩:=by kernel_rfl
theorem ti91:JV Tryz.prog 91=some ⟨.func,1,8,[.nilf]⟩:=by kernel_rfl
theorem ti92:JV Tryz.prog 92=some ⟨.func,1,8,[.nilf]⟩:=by kernel_rfl
theorem ti94:JV Tryz.prog 94=some ⟨.func,1,8,[.nilf]⟩:=by kernel_rfl
theorem ti95:JV Tryz.prog 95=some ⟨.func,1,8,[.nilf]⟩:=by kernel_rfl
theorem ti96:JV Tryz.prog 96=some ⟨.func,1,8,[.nilf]⟩:=by kernel_rfl
theorem ti97:JV Tryz.prog 97=some ⟨.struct [(22,0),(3,1)],2,32,[.f .nil, .f (.int .i64 0)]⟩:=by kernel_rfl
theorem ti98:JV Tryz.prog 98=some ⟨.struct [(22,0),(3,1)],2,32,[.f .nil, .f (.int .i64 0)]⟩:=by kernel_rfl
theorem ti99:JV Tryz.prog 99=some ⟨.func,1,8,[.nilf]⟩:=by kernel_rfl
theorem ti100:JV Tryz.prog 100=some ⟨.struct [(3,0),(23,1),(3,2)],3,40,[.f (.int .i64 0), .f .nil, .f (.int .i64 0)]⟩:=by kernel_rfl
theorem GI:JV Tryz.prog 101=some ⟨.struct [(3,0),(23,1),(3,2)],3,40,[.f (.int .i64 0), .f .nil, .f (.int .i64 0)]⟩:=by kernel_rfl
theorem ti102:JV Tryz.prog 102=some ⟨.func,1,8,[.nilf]⟩:=by kernel_rfl
theorem ti103:JV Tryz.prog 103=some ⟨.func,1,8,[.nilf]⟩:=by kernel_rfl
theorem ti104:JV Tryz.prog 104=some ⟨.func,1,8,[.nilf]⟩:=by kernel_rfl
theorem ti105:JV Tryz.prog 105=some ⟨.func,1,8,[.nilf]⟩:=by kernel_rfl
theorem ti106:JV Tryz.prog 106=some ⟨.func,1,8,[.nilf]⟩:=by kernel_rfl
theorem ti107:JV Tryz.prog 107=some ⟨.func,1,8,[.nilf]⟩:=by kernel_rfl
theorem ti108:JV Tryz.prog 108=some ⟨.func,1,8,[.nilf]⟩:=by kernel_rfl
theorem ti109:JV Tryz.prog 109=some ⟨.func,1,8,[.nilf]⟩:=by kernel_rfl
theorem ti110:JV Tryz.prog 110=some ⟨.func,1,8,[.nilf]⟩:=by kernel_rfl
theorem ti111:JV Tryz.prog 111=some ⟨.func,1,8,[.nilf]⟩:=by kernel_rfl
theorem ti112:JV Tryz.prog 112=some ⟨.func,1,8,[.nilf]⟩:=by kernel_rfl
theorem ti113:JV Tryz.prog 113=some ⟨.func,1,8,[.nilf]⟩:=by kernel_rfl
theorem ti114:JV Tryz.prog 114=some ⟨.func,1,8,[.nilf]⟩:=by kernel_rfl
theorem ti115:JV Tryz.prog 115=some ⟨.func,1,8,[.nilf]⟩:=by kernel_rfl
theorem ti116:JV Tryz.prog 116=some ⟨.func,1,8,[.nilf]⟩:=by kernel_rfl
theorem ti118:JV Tryz.prog 118=some ⟨.func,1,8,[.nilf]⟩:=by kernel_rfl
theorem ti119:JV Tryz.prog 119=some ⟨.func,1,8,[.nilf]⟩:=by kernel_rfl
theorem ti121:JV Tryz.prog 121=some ⟨.func,1,8,[.nilf]⟩:=by kernel_rfl
theorem ti122:JV Tryz.prog 122=some ⟨.func,1,8,[.nilf]⟩:=by kernel_rfl
theorem ti123:JV Tryz.prog 123=some ⟨.array 5 4,5,5,[.f (.bool false), .f (.bool false), .f (.bool false), .f (.bool false), .f (.bool false)]⟩:=by kernel_rfl
theorem ti124:JV Tryz.prog 124=some ⟨.func,1,8,[.nilf]⟩:=by kernel_rfl
theorem ti125:JV Tryz.prog 125=some ⟨.func,1,8,[.nilf]⟩:=by kernel_rfl
theorem ti126:JV Tryz.prog 126=some ⟨.func,1,8,[.nilf]⟩:=by kernel_rfl
theorem ti127:JV Tryz.prog 127=some ⟨.struct [(3,0),(23,1),(3,2)],3,40,[.f (.int .i64 0), .f .nil, .f (.int .i64 0)]⟩:=by kernel_rfl
theorem ti128:JV Tryz.prog 128=some ⟨.func,1,8,[.nilf]⟩:=by kernel_rfl
theorem ti129:JV Tryz.prog 129=some ⟨.func,1,8,[.nilf]⟩:=by kernel_rfl
theorem ti130:JV Tryz.prog 130=some ⟨.func,1,8,[.nilf]⟩:=by kernel_rfl
theorem ti131:JV Tryz.prog 131=some ⟨.func,1,8,[.nilf]⟩:=by kernel_rfl
theorem ti132:JV Tryz.prog 132=some ⟨.func,1,8,[.nilf]⟩:=by kernel_rfl
theorem ti133:JV Tryz.prog 133=some ⟨.ptr 71,1,8,[.nilp]⟩:=by kernel_rfl
theorem ti134:JV Tryz.prog 134=some ⟨.func,1,8,[.nilf]⟩:=by kernel_rfl
theorem ti135:JV Tryz.prog 135=some ⟨.func,1,8,[.nilf]⟩:=by kernel_rfl
theorem ti136:JV Tryz.prog 136=some ⟨.func,1,8,[.nilf]⟩:=by kernel_rfl
theorem ti137:JV Tryz.prog 137=some ⟨.func,1,8,[.nilf]⟩:=by kernel_rfl
theorem ti138:JV Tryz.prog 138=some ⟨.func,1,8,[.nilf]⟩:=by kernel_rfl
theorem ti139:JV Tryz.prog 139=some ⟨.func,1,8,[.nilf]⟩:=by kernel_rfl
theorem ti140:JV Tryz.prog 140=some ⟨.func,1,8,[.nilf]⟩:=by kernel_rfl
theorem ti141:JV Tryz.prog 141=some ⟨.func,1,8,[.nilf]⟩:=by kernel_rfl
theorem ti142:JV Tryz.prog 142=some ⟨.func,1,8,[.nilf]⟩:=by kernel_rfl
theorem ti143:JV Tryz.prog 143=some ⟨.int .u64,1,8,[.f (.int .u64 0)]⟩:=by kernel_rfl
theorem ti144:JV Tryz.prog 144=some ⟨.func,1,8,[.nilf]⟩:=by kernel_rfl
theorem ti145:JV Tryz.prog 145=some ⟨.ptr 3,1,8,[.nilp]⟩:=by kernel_rfl
theorem ti146:JV Tryz.prog 146=some ⟨.array 24 5,24,24,[.f (.int .u8 0), .f (.int .u8 0), .f (.int .u8 0), .f (.int .u8 0), .f (.int .u8 0), .f (.int .u8 0), .f (.int .u8 0), .f (.int .u8 0), .f (.int .u8 0), .f (.int .u8 0), .f (.int .u8 0), .f (.int .u8 0), .f (.int .u8 0), .f (.int .u8 0), .f (.int .u8 0), .f (.int .u8 0), .f (.int .u8 0), .f (.int .u8 0), .f (.int .u8 0), .f (.int .u8 0), .f (.int .u8 0), .f (.int .u8 0), .f (.int .u8 0), .f (.int .u8 0)]⟩:=by kernel_rfl
theorem ti147:JV Tryz.prog 147=some ⟨.int .u64,1,8,[.f (.int .u64 0)]⟩:=by kernel_rfl
theorem ti148:JV Tryz.prog 148=some ⟨.func,1,8,[.nilf]⟩:=by kernel_rfl
theorem ti149:JV Tryz.prog 149=some ⟨.func,1,8,[.nilf]⟩:=by kernel_rfl
theorem ti151:JV Tryz.prog 151=some ⟨.func,1,8,[.nilf]⟩:=by kernel_rfl
theorem ti152:JV Tryz.prog 152=some ⟨.func,1,8,[.nilf]⟩:=by kernel_rfl
theorem ti153:JV Tryz.prog 153=some ⟨.func,1,8,[.nilf]⟩:=by kernel_rfl
theorem ti154:JV Tryz.prog 154=some ⟨.int .u32,1,4,[.f (.int .u32 0)]⟩:=by kernel_rfl
theorem ti155:JV Tryz.prog 155=some ⟨.func,1,8,[.nilf]⟩:=by kernel_rfl
theorem ti156:JV Tryz.prog 156=some ⟨.array 20 147,20,160,[.f (.int .u64 0), .f (.int .u64 0), .f (.int .u64 0), .f (.int .u64 0), .f (.int .u64 0), .f (.int .u64 0), .f (.int .u64 0), .f (.int .u64 0), .f (.int .u64 0), .f (.int .u64 0), .f (.int .u64 0), .f (.int .u64 0), .f (.int .u64 0), .f (.int .u64 0), .f (.int .u64 0), .f (.int .u64 0), .f (.int .u64 0), .f (.int .u64 0), .f (.int .u64 0), .f (.int .u64 0)]⟩:=by kernel_rfl
theorem ti157:JV Tryz.prog 157=some ⟨.array 65 5,65,65,[.f (.int .u8 0), .f (.int .u8 0), .f (.int .u8 0), .f (.int .u8 0), .f (.int .u8 0), .f (.int .u8 0), .f (.int .u8 0), .f (.int .u8 0), .f (.int .u8 0), .f (.int .u8 0), .f (.int .u8 0), .f (.int .u8 0), .f (.int .u8 0), .f (.int .u8 0), .f (.int .u8 0), .f (.int .u8 0), .f (.int .u8 0), .f (.int .u8 0), .f (.int .u8 0), .f (.int .u8 0), .f (.int .u8 0), .f (.int .u8 0), .f (.int .u8 0), .f (.int .u8 0), .f (.int .u8 0), .f (.int .u8 0), .f (.int .u8 0), .f (.int .u8 0), .f (.int .u8 0), .f (.int .u8 0), .f (.int .u8 0), .f (.int .u8 0), .f (.int .u8 0), .f (.int .u8 0), .f (.int .u8 0), .f (.int .u8 0), .f (.int .u8 0), .f (.int .u8 0), .f (.int .u8 0), .f (.int .u8 0), .f (.int .u8 0), .f (.int .u8 0), .f (.int .u8 0), .f (.int .u8 0), .f (.int .u8 0), .f (.int .u8 0), .f (.int .u8 0), .f (.int .u8 0), .f (.int .u8 0), .f (.int .u8 0), .f (.int .u8 0), .f (.int .u8 0), .f (.int .u8 0), .f (.int .u8 0), .f (.int .u8 0), .f (.int .u8 0), .f (.int .u8 0), .f (.int .u8 0), .f (.int .u8 0), .f (.int .u8 0), .f (.int .u8 0), .f (.int .u8 0), .f (.int .u8 0), .f (.int .u8 0), .f (.int .u8 0)]⟩:=by kernel_rfl
theorem ti158:JV Tryz.prog 158=some ⟨.array 32 5,32,32,[.f (.int .u8 0), .f (.int .u8 0), .f (.int .u8 0), .f (.int .u8 0), .f (.int .u8 0), .f (.int .u8 0), .f (.int .u8 0), .f (.int .u8 0), .f (.int .u8 0), .f (.int .u8 0), .f (.int .u8 0), .f (.int .u8 0), .f (.int .u8 0), .f (.int .u8 0), .f (.int .u8 0), .f (.int .u8 0), .f (.int .u8 0), .f (.int .u8 0), .f (.int .u8 0), .f (.int .u8 0), .f (.int .u8 0), .f (.int .u8 0), .f (.int .u8 0), .f (.int .u8 0), .f (.int .u8 0), .f (.int .u8 0), .f (.int .u8 0), .f (.int .u8 0), .f (.int .u8 0), .f (.int .u8 0), .f (.int .u8 0), .f (.int .u8 0)]⟩:=by kernel_rfl
theorem ti159:JV Tryz.prog 159=some ⟨.array 64 5,64,64,[.f (.int .u8 0), .f (.int .u8 0), .f (.int .u8 0), .f (.int .u8 0), .f (.int .u8 0), .f (.int .u8 0), .f (.int .u8 0), .f (.int .u8 0), .f (.int .u8 0), .f (.int .u8 0), .f (.int .u8 0), .f (.int .u8 0), .f (.int .u8 0), .f (.int .u8 0), .f (.int .u8 0), .f (.int .u8 0), .f (.int .u8 0), .f (.int .u8 0), .f (.int .u8 0), .f (.int .u8 0), .f (.int .u8 0), .f (.int .u8 0), .f (.int .u8 0), .f (.int .u8 0), .f (.int .u8 0), .f (.int .u8 0), .f (.int .u8 0), .f (.int .u8 0), .f (.int .u8 0), .f (.int .u8 0), .f (.int .u8 0), .f (.int .u8 0), .f (.int .u8 0), .f (.int .u8 0), .f (.int .u8 0), .f (.int .u8 0), .f (.int .u8 0), .f (.int .u8 0), .f (.int .u8 0), .f (.int .u8 0), .f (.int .u8 0), .f (.int .u8 0), .f (.int .u8 0), .f (.int .u8 0), .f (.int .u8 0), .f (.int .u8 0), .f (.int .u8 0), .f (.int .u8 0), .f (.int .u8 0), .f (.int .u8 0), .f (.int .u8 0), .f (.int .u8 0), .f (.int .u8 0), .f (.int .u8 0), .f (.int .u8 0), .f (.int .u8 0), .f (.int .u8 0), .f (.int .u8 0), .f (.int .u8 0), .f (.int .u8 0), .f (.int .u8 0), .f (.int .u8 0), .f (.int .u8 0), .f (.int .u8 0)]⟩:=by kernel_rfl
theorem ti160:JV Tryz.prog 160=some ⟨.func,1,8,[.nilf]⟩:=by kernel_rfl
theorem ti161:JV Tryz.prog 161=some ⟨.struct [(17,0),(17,1),(17,2),(9,3)],4,40,[.nilp, .nilp, .nilp, .f (.str (ByteArray.mk #[]))]⟩:=by kernel_rfl
theorem ti162:JV Tryz.prog 162=some ⟨.struct [(17,0),(17,1),(17,2),(9,3)],4,40,[.nilp, .nilp, .nilp, .f (.str (ByteArray.mk #[]))]⟩:=by kernel_rfl
theorem ti163:JV Tryz.prog 163=some ⟨.array 0 16,0,0,[]⟩:=by kernel_rfl
theorem ti164:JV Tryz.prog 164=some ⟨.struct [(163,0)],0,0,[]⟩:=by kernel_rfl
theorem ti165:JV Tryz.prog 165=some ⟨.struct [(163,0)],0,0,[]⟩:=by kernel_rfl
theorem ti166:JV Tryz.prog 166=some ⟨.func,1,8,[.nilf]⟩:=by kernel_rfl
theorem ti167:JV Tryz.prog 167=some ⟨.int .u8,1,1,[.f (.int .u8 0)]⟩:=by kernel_rfl
theorem ti168:JV Tryz.prog 168=some ⟨.int .u8,1,1,[.f (.int .u8 0)]⟩:=by kernel_rfl
theorem ti169:JV Tryz.prog 169=some ⟨.func,1,8,[.nilf]⟩:=by kernel_rfl
theorem ti170:JV Tryz.prog 170=some ⟨.ptr 5,1,8,[.nilp]⟩:=by kernel_rfl
theorem ti171:JV Tryz.prog 171=some ⟨.int .i32,1,4,[.f (.int .i32 0)]⟩:=by kernel_rfl
theorem ti172:JV Tryz.prog 172=some ⟨.int .i32,1,4,[.f (.int .i32 0)]⟩:=by kernel_rfl
theorem ti173:JV Tryz.prog 173=some ⟨.struct [(12,0),(12,1),(154,2),(167,3),(5,4),(5,5),(168,6),(169,7),(170,8),(171,9),(172,10)],11,48,[.f (.int .u64 0), .f (.int .u64 0), .f (.int .u32 0), .f (.int .u8 0), .f (.int .u8 0), .f (.int .u8 0), .f (.int .u8 0), .nilf, .nilp, .f (.int .i32 0), .f (.int .i32 0)]⟩:=by kernel_rfl
theorem ti174:JV Tryz.prog 174=some ⟨.struct [(12,0),(12,1),(154,2),(167,3),(5,4),(5,5),(168,6),(169,7),(170,8),(171,9),(172,10)],11,48,[.f (.int .u64 0), .f (.int .u64 0), .f (.int .u32 0), .f (.int .u8 0), .f (.int .u8 0), .f (.int .u8 0), .f (.int .u8 0), .nilf, .nilp, .f (.int .i32 0), .f (.int .i32 0)]⟩:=by kernel_rfl
theorem Zd:Tryz.prog.follows .mixedOrders=true:=by kernel_rfl
attribute [go_sem] ti1 ti2 Kh ti4 ti5 ti6 ti7 ti8 ti9 ti10 ti11 ti12 ti13 ti14 ti15 ti16 ti17 ti18 ti19 ti21 ti22 UE Jd5 ti25 ti26 ti27 ti28 ti29 ti30 ti31 ti32 ti33 ti34 ti36 ti37 ti38 ti39 ti40 ti41 ti42 ti43 Jf8 ti45 ti46 ti48 ti49 ti50 ti51 ti52 ti53 ti54 ti55 ti56 ti57 ti58 ti59 ti61 ti62 ti63 ti64 ti66 ti67 ti68 ti69 ti70 Jkb ti72 ti73 ti74 ti75 ti77 ti78 ti79 ti80 ti81 ti82 ti83 ti84 ti85 ti86 ti87 ti88 ti89 ti90 ti91 ti92 ti94 ti95 ti96 ti97 ti98 ti99 ti100 GI ti102 ti103 ti104 ti105 ti106 ti107 ti108 ti109 ti110 ti111 ti112 ti113 ti114 ti115 ti116 ti118 ti119 ti121 ti122 ti123 ti124 ti125 ti126 ti127 ti128 ti129 ti130 ti131 ti132 ti133 ti134 ti135 ti136 ti137 ti138 ti139 ti140 ti141 ti142 ti143 ti144 ti145 ti146 ti147 ti148 ti149 ti151 ti152 ti153 ti154 ti155 ti156 ti157 ti158 ti159 ti160 ti161 ti162 ti163 ti164 ti165 ti166 ti167 ti168 ti169 ti170 ti171 ti172 ti173 ti174
end Go.Lg

set_option maxRecDepth 100000
namespace Go.Lg
open Go.Proofs
theorem VM(n:Int):JW Tryz.prog 96 [int n] (bool (decide (2≤n∧n≤4))):=by
 refine Jn.cw (c:=_) Tryz.func96 rfl (n:=9) Tryz.ntmps96 (rs:=[.tmp 2]) rfl ?_
 simp only[Je,Jf,zA,zS,Jd,Jb,Jc]
 simp(maxSteps:=999999)(disch:=omega)only[go_sem,zA,zM,zS,zE,zL]
 refine Jw (fun h=> ?_) (fun h=> ?_)<;>simp(maxSteps:=999999)(disch:=omega)only[go_sem,zA,zM,zS,zE,zL,h]<;>simp at h<;>simp[h]
 omega
def Qe(xs:List Int)(n:Int):Bool:=decide (2≤n∧n≤4∧(xs.length:Int)=n*n∧∀j,j<xs.length→0≤JA xs j∧JA xs j≤n)
theorem ZG(xs:List Int)(n:Int)(hx:xs.length≤2^44):JW Tryz.prog 54 [QO xs,int n] (bool (Qe xs n)):=by
 refine Jn.cw (c:=_) Tryz.func54 rfl (n:=32) Tryz.ntmps54 (rs:=[.tmp 4]) rfl ?_
 simp only[Je,Jf,zA,zS,Jd,Jb,Jc]
 simp(maxSteps:=999999)(disch:=omega)only[go_sem,zA,zM,zS,zE,zL]
 refine JZ.rd (VM n) (⟨_,Tryz.func96,rfl,rfl⟩:Ji Tryz.prog 96) rfl rfl rfl rfl ?_
 simp(maxSteps:=999999)(disch:=omega)only[go_sem,zA,zM,zS,zE,zL]
 refine Jw (fun h=> ?_) (fun h=> ?_)<;>simp(maxSteps:=999999)(disch:=omega)only[go_sem,zA,zM,zS,zE,zL,h]
 · simp at h
   simp[Qe];omega
 have hn:2≤n∧n≤4:=by simpa using h
 have hw:4≤n*n∧n*n≤16:=by
  have:n=2∨n=3∨n=4:=by omega
  rcases this with rfl|rfl|rfl<;>decide
 simp(maxSteps:=999999)(disch:=omega)only[go_sem,zA,zM,zS,zE,zL]
 refine WH (fun h2=> ?_) (fun h2=> ?_)<;>simp(maxSteps:=999999)(disch:=omega)only[go_sem,zA,zM,zS,zE,zL]
 · simp at h2
   simp[Qe,h2]
 have hl:(xs.length:Int)=n*n:=by simpa using h2
 refine JY (fun i:Nat=>xs.length -i) (fun i=>i≤xs.length∧∀j,j<i→0≤JA xs j∧JA xs j≤n)
  (fun i=>[.a, .k, .a, .a, .a, .a, .a, .a, .a, .a, .a, .a, .a, .a, .a, .a, .a, .a, .k, .k, .p (int i), .a, .a, .a, .a, .a, .a, .a, .a, .a, .a, .a]) (fun _=>[]) 0 ⟨Nat.zero_le _,fun j hj=>absurd hj (Nat.not_lt_zero _)⟩ (by simp(maxSteps:=999999)(disch:=omega)only[go_sem,zA,zM,zS,zE,zL];rfl) (Qu _) ?_
 rintro i ⟨hi,hall⟩
 simp(maxSteps:=999999)(disch:=omega)only[go_sem,zA,zM,zS,zE,zL]
 refine WH (fun h3=> ?_) (fun h3=> ?_)
 · have h3:i<xs.length:=by simpa using h3
   simp(maxSteps:=999999)(disch:=omega)only[go_sem,zA,zM,zS,zE,zL]
   refine Jw (fun h4=> ?_) (fun h4=> ?_)<;>simp(maxSteps:=999999)(disch:=omega)only[go_sem,zA,zM,zS,zE,zL,h4]
   · simp at h4
     symm;simp[Qe];intro _ _ _;exact⟨i,h3,fun h=>by omega⟩
   refine WH (fun h5=> ?_) (fun h5=> ?_)<;>simp(maxSteps:=999999)(disch:=omega)only[go_sem,zA,zM,zS,zE,zL]
   · simp at h5
     symm;simp[Qe];intro _ _ _;exact⟨i,h3,fun h=>by omega⟩
   simp at h4 h5
   refine⟨i+1,⟨⟨h3,fun j hj=> ?_⟩,by omega⟩,by omega,Qu _⟩
   rcases Nat.lt_succ_iff_lt_or_eq.1 hj with h|rfl
   · exact hall j h
   · exact⟨h4,h5⟩
 simp(maxSteps:=999999)(disch:=omega)only[go_sem,zA,zM,zS,zE,zL]
 simp at h3
 symm;simp[Qe]
 exact⟨hn.1,hn.2,hl,fun j hj=>hall j (by omega)⟩
end Go.Lg

namespace Go.Lg
open Go.ChangeShapes Go.WideShapes Go.ChangeAt Go.RowKit
open Go.ChangeMaps (open_string)
def Cx.base(W:World):Cx:=⟨fun _=>0,fun _=>0,fun b=>b<W.heap.size,0⟩
theorem JjM(W:World)(ht:N8 W (Cx.base W).I):ZL W (Cx.base W) []:=⟨fun b hb=>hb,fun id b hb=>by simp at hb,fun id id' b b' hb=>by simp at hb,ht⟩
theorem JW.below{P:Program}{f:FuncId}{args:List AV}{b:Bool}(h:JW P f args (bool b)){W:World}{vs:Array Value}(hv:VAs W (Cx.base W) [] args vs)(ht:N8 W (Cx.base W).I:=by exact⟨by intro G cs h;simp[Jgb]at h,by intro G h;simp[Jkd]at h⟩):
 Calls P f vs W fun e W'=>e= .returned (.bool b)∧Below W.heap.size W W':=
 (h W (Cx.base W) vs (JjM W ht) hv).mono fun e W' ⟨v,u,X',H',h1,h2,h3,h4,h5⟩=>by
   have h5:v=bool b:=h5
   subst h5
   refine⟨by rw[h1,Yz h2],h4.os,h4.tape,h4.output,h4.size,fun k hk=>(h4.imm k hk).2⟩
theorem Jff{W:World}{X:Cx}{H:Jm}{x:AV}{v:Value}(h:VA W X H x v):VAs W X H [x] #[v]:=
 ⟨rfl,fun i hi=>by
   have:i=0:=by simpa using hi
   subst this;exact⟨v,rfl,h⟩⟩
section
variable{H:Type}{enc:TypeId×Value→H}{P:Program}{W:World}
theorem JkY(k:IntKind)(xs:List Int):fl (eI k) xs=xs.map (.int k):=by
 induction xs with
 |nil=>rfl
 |cons x xs ih=>simp only[fl,List.flatMap_cons,Qr]at ih⊢;rw[ih];rfl
theorem JaX{b0:Nat}{r:Reach}{t e:TypeId}{k:IntKind}{v:Value}{d:DataW H}{ps:List MemPlace}(ht:P.underlying t=some (.slice e))(he:P.underlying e=some (.int k))(hc:P.cellsOf e=1)
 (hval:Value.okWide P W r b0 t v) (h:DataW.Trod enc P W 0 (fun _=>true) true t v d ps):∃xs:List Int,VA W (Cx.base W) [] (Bl (eI k) xs) v∧xs.length≤9223372036854775807∧∀x∈xs,(Lit.int k x).wf=true:=by
 obtain⟨a,len,cap,rfl⟩:=okWide_slice ht hval
 obtain⟨fuel,hf⟩:=h
 rcases open_ints ht he hc hf with⟨hcs,_⟩|⟨x,l,c,zs,hcs,_,hl,hm,hz,_,hcell,hwz⟩
 · simp[Value.cells]at hcs
   obtain⟨rfl,rfl,rfl⟩:=hcs
   exact⟨[], .c _ _ (VF.sl0 none 0),by simp,by simp⟩
 · simp[Value.cells]at hcs
   obtain⟨rfl,rfl,rfl⟩:=hcs
   have hz:zs.length=cap:=by simpa using hz
   have hlen:(zs.take len).length=len:=by simp;omega
   refine⟨zs.take len, ?_,by rw[hlen];have:maxLen≤9223372036854775807:=by decide
                             omega,fun y hy=>hwz y (List.mem_of_mem_take hy)⟩
   by_cases h0:len=0
   · subst h0
     exact .c _ _ (VF.sl0 _ _)
   · have hlt:0<zs.length:=by omega
     have hsp:x.spot=none:=by
      have hx:=hcell 0 hlt
      simp only[World.cell?]at hx
      split at hx
      · split at hx
        · cases hx
        · rename_i hsp;simpa[Addr.add]using hsp
      · cases hx
     obtain⟨b,o,sp⟩:=x
     simp only at hsp
     subst hsp
     have hb:b<W.heap.size:=World.block_lt_of_cell? W _ (hcell 0 hlt)
     have:=VF.sl (w:=W) (I:=(Cx.base W).I) len (fl (eI k) (zs.take len)) b o cap (fun j=> .int k (zs.getD j 0)) hl hb (fun j hj=>by
      rw[UD,hlen]at hj
      have:=hcell j (by omega)
      simpa[Us]using this) (fun j hj=>by
      rw[UD,hlen]at hj
      have e:(fl (eI k) (zs.take len))[j]'(by rw[UD,hlen];exact hj)= .int k (zs.getD j 0):=by
       simp only[JkY,List.getElem_map,List.getElem_take]
       simp[List.getD,Jq (show j<zs.length by omega)]
      rw[e]
      exact VF.int _ _)
     exact .c _ _ (by rw[Uu,hlen];exact this)
end
end Go.Lg

namespace Go.Lg
open Go.Proofs
theorem QC{xs:List Int}{n:Int}(h:Qe xs n=true):2≤n∧n≤4∧(xs.length:Int)=n*n∧xs.length≤16∧∀j:Nat,j<xs.length→0≤JA xs j∧JA xs j≤n:=by
 simp only[Qe,decide_eq_true_eq]at h
 refine⟨h.1,h.2.1,h.2.2.1, ?_,h.2.2.2⟩
 have:n=2∨n=3∨n=4:=by omega
 rcases this with rfl|rfl|rfl<;>omega
theorem Qz(v a b:Int):JW Tryz.prog 40 [int v,int a,int b] (bool (decide (a≤v∧v≤b))):=by
 refine Jn.cw (c:=_) Tryz.func40 rfl (n:=15) Tryz.ntmps40 (rs:=[.tmp 6]) rfl ?_
 simp only[Je,Jf,zA,zS,Jd,Jb,Jc]
 simp(maxSteps:=999999)(disch:=omega)only[go_sem,zA,zM,zS,zE,zL]
 refine Jw (fun h=> ?_) (fun h=> ?_)<;>simp(maxSteps:=999999)(disch:=omega)only[go_sem,zA,zM,zS,zE,zL,h]<;>simp at h<;>simp[h]
 omega
theorem ZE(xs:List Int)(n:Int)(hx:xs.length≤2^40):JW Tryz.prog 39 [QO xs,int n] (bool (Qe xs n)):=by
 refine Jn.cw (c:=_) Tryz.func39 rfl (n:=29) Tryz.ntmps39 (rs:=[.tmp 4]) rfl ?_
 simp only[Je,Jf,zA,zS,Jd,Jb,Jc]
 simp(maxSteps:=999999)(disch:=omega)only[go_sem,zA,zM,zS,zE,zL]
 refine JY (fun i:Nat=>xs.length -i) (fun i=>i≤xs.length∧∀j:Nat,j<i→0≤JA xs j∧JA xs j≤n) (fun i=>[.k, .k, .a, .a, .a, .p (int i), .a, .a, .a, .a, .a, .a, .a, .a, .a, .a, .a, .a, .a, .a, .a, .a, .a, .a, .a, .a, .a, .a, .a]) (fun i=>[]) 0
  ⟨Nat.zero_le _,fun j hj=>absurd hj (Nat.not_lt_zero _)⟩ (by simp(maxSteps:=999999)(disch:=omega)only[go_sem,zA,zM,zS,zE,zL];rfl) (Qu _) ?_
 rintro i ⟨hi,hall⟩
 simp(maxSteps:=999999)(disch:=omega)only[go_sem,zA,zM,zS,zE,zL]
 refine WH (fun h=> ?_) (fun h=> ?_)
 · have h:i<xs.length:=by simpa using h
   simp(maxSteps:=999999)(disch:=omega)only[go_sem,zA,zM,zS,zE,zL]
   refine JZ.rd (Qz _ _ _) (⟨_,Tryz.func40,rfl,rfl⟩:Ji Tryz.prog 40) rfl rfl rfl rfl ?_
   simp(maxSteps:=999999)(disch:=omega)only[go_sem,zA,zM,zS,zE,zL]
   refine WH (fun h2=> ?_) (fun h2=> ?_)<;>simp(maxSteps:=999999)(disch:=omega)only[go_sem,zA,zM,zS,zE,zL]
   · simp at h2
     symm;simp[Qe];intro _ _ _;exact⟨i,h,fun h=>by omega⟩
   simp at h2
   refine⟨i+1,⟨⟨h,fun j hj=> ?_⟩,by omega⟩,by omega,Qu _⟩
   rcases Nat.lt_succ_iff_lt_or_eq.1 hj with h|rfl
   · exact hall j h
   · exact h2
 have h:¬i<xs.length:=by simpa using h
 simp(maxSteps:=999999)(disch:=omega)only[go_sem,zA,zM,zS,zE,zL]
 refine JZ.rd (Qz _ _ _) (⟨_,Tryz.func40,rfl,rfl⟩:Ji Tryz.prog 40) rfl rfl rfl rfl ?_
 simp(maxSteps:=999999)(disch:=omega)only[go_sem,zA,zM,zS,zE,zL]
 refine Jw (fun h2=> ?_) (fun h2=> ?_)<;>simp(maxSteps:=999999)(disch:=omega)only[go_sem,zA,zM,zS,zE,zL,h2]
 · have h2:2≤n∧n≤4:=by simpa using h2
   have hw:4≤n*n∧n*n≤16:=by
    have:n=2∨n=3∨n=4:=by omega
    rcases this with rfl|rfl|rfl<;>decide
   simp(maxSteps:=999999)(disch:=omega)only[go_sem,zA,zM,zS,zE,zL]
   simp only[Qe,h2,true_and,decide_eq_decide]
   exact⟨fun h3=>⟨h3,fun j hj=>hall j (by omega)⟩,fun h3=>h3.1⟩
 · simp at h2
   symm;simp[Qe];omega
end Go.Lg

namespace Go.Lg
open Go.ChangeShapes Go.WideShapes Go.ChangeAt Go.RowKit
def CsF(w:World)(I:Nat→Prop)(ys:List FV)(cs:List Value):Prop:=
 ys.length=cs.length∧∀j (h:j<ys.length),∃u,cs[j]? =some u∧VF w I ys[j] u
section
variable{w:World}{I:Nat→Prop}
theorem CsF.nil:CsF w I [] []:=⟨rfl,fun j h=>absurd h (Nat.not_lt_zero _)⟩
theorem CsF.one{y:FV}{v:Value}(h:VF w I y v):CsF w I [y] [v]:=⟨rfl,fun j hj=>by
 have:j=0:=by simpa using hj
 subst this;exact⟨v,rfl,h⟩⟩
theorem CsF.app{ys ys':List FV}{cs cs':List Value}(h:CsF w I ys cs)(h':CsF w I ys' cs'):CsF w I (ys++ys') (cs++cs'):=by
 refine⟨by simp[h.1,h'.1],fun j hj=> ?_⟩
 by_cases hl:j<ys.length
 · obtain⟨u,h1,h2⟩:=h.2 j hl
   refine⟨u,by rw[Ja (by rw[←h.1];exact hl)];exact h1, ?_⟩
   rw[List.getElem_append_left hl];exact h2
 · have hj':j -ys.length<ys'.length:=by simp at hj;omega
   obtain⟨u,h1,h2⟩:=h'.2 _ hj'
   refine⟨u,by rw[J3 (by rw[←h.1];omega),←h.1];exact h1, ?_⟩
   rw[List.getElem_append_right (by omega)];exact h2
end
section
variable{H:Type}{enc:TypeId×Value→H}{P:Program}{W:World}
theorem CsF.agg{ys:List FV}{cs:Array Value}(h:CsF W (Cx.base W).I ys cs.toList):VA W (Cx.base W) [] (.agg (ys.map .f)) (.agg cs):=by
 refine .agg _ _ (by simpa using h.1.symm) fun j hj=> ?_
 have hj':j<ys.length:=by simpa using hj
 obtain⟨u,h1,h2⟩:=h.2 j hj'
 refine⟨u,by simpa using h1, ?_⟩
 rw[List.getElem_map];exact h2
theorem CsF.val{y:FV}{v:Value}(h:CsF W (Cx.base W).I [y] [v]):VA W (Cx.base W) [] (.c (.f y)) v:=by
 obtain⟨u,h1,h2⟩:=h.2 0 (by simp)
 have:v=u:=by simpa using h1
 subst this
 exact .c _ _ h2
end
end Go.Lg
