/- LgQ, cut to what is needed. -/
import Derived.Test.YtiahmfdabpafoaaGreatDoorKab0
open List renaming getElem?_eq_some_iff → Ja, cons_append → Jc, nil_append → Jd, length_append → Je, length_cons → Jf, replicate → Jg, getElem?_eq_getElem → Jh, getElem?_set_ne → Jj, length_nil → Jl, take_of_length_le → Jn, length_set → Jt, getElem?_eq_none → Ju, append_nil → Jv, mapM_cons → Jz, length_take → JA, drop_zero → JB, getElem?_take_of_lt → JG, length_map → JL, length_singleton → JW, getElem?_set_self → J0, map_append → J1, map_cons → Qf, getElem?_map → Qo, mem_map → Qs, length_replicate → QV, map_nil → ZC, length_drop → ZI
open Nat renaming reduceAdd→zA,reduceMul→zM,reduceSub→zS,reduceEqDiff→zE,reduceLeDiff→zL
set_option linter.unusedSimpArgs false
set_option linter.unusedVariables false
namespace Go.Lg
class HSz {α:Type} (E:α→List FV) (n:outParam Nat):Prop where
 sz:∀x,(E x).length=n
def fl{α:Type}(E:α→List FV)(xs:List α):List FV:=xs.flatMap E
def cl{α:Type}(E:α→List FV)(xs:List α):List CV:=(fl E xs).map .f
abbrev WR {α:Type} (E:α→List FV) (xs:List α):FV:= .sl xs.length (fl E xs)
abbrev Rj {α:Type} (E:α→List FV) (xs:List α):AV:= .c (.f (WR E xs))
def JM{α:Type}[Inhabited α](xs:List α)(e:Int):α:=xs.getD e.toNat default
section
variable{α:Type}{E:α→List FV}{n:Nat}
theorem Z5[h:HSz E n](xs:List α):(fl E xs).length=xs.length*n:=by
 induction xs with
 |nil=>simp[fl]
 |cons x xs ih=>simp only[fl,List.flatMap_cons,Je,h.sz,Jf]at ih⊢;rw[ih,Nat.add_mul];omega
theorem Qb[h:HSz E n](xs:List α):(cl E xs).length=xs.length*n:=by simp[cl,Z5]
theorem QP(xs ys:List α):cl E (xs++ys)=cl E xs++cl E ys:=by simp[cl,fl]
theorem Jfm(x:α):cl E [x]=(E x).map .f:=by simp[cl,fl]
theorem Rm[h:HSz E n]:∀(xs:List α) (i:Nat),(fl E xs).drop (i*n)=fl E (xs.drop i)
 |[],i=>by simp[fl]
 |x::xs,0=>by simp
 |x::xs,i+1=>by
  have ih:=Rm xs i
  have:(i+1)*n=(E x).length+i*n:=by rw[h.sz,Nat.add_mul];omega
  rw[this]
  simp only[fl,List.flatMap_cons,List.drop_append,List.drop_succ_cons]at ih⊢
  rw[List.drop_eq_nil_of_le (by omega),Nat.add_sub_cancel_left,ih]
  rfl
theorem Gx[h:HSz E n]:∀(xs:List α) (i:Nat),(fl E xs).take (i*n)=fl E (xs.take i)
 |[],i=>by simp[fl]
 |x::xs,0=>by simp[fl]
 |x::xs,i+1=>by
  have ih:=Gx xs i
  have:(i+1)*n=(E x).length+i*n:=by rw[h.sz,Nat.add_mul];omega
  rw[this]
  simp only[fl,List.flatMap_cons,List.take_append,List.take_succ_cons]at ih⊢
  rw[Jn (by omega),Nat.add_sub_cancel_left,ih]
theorem Jfa[h:HSz E n](xs:List α){i:Nat}(hi:i<xs.length):((fl E xs).drop (i*n)).take n=E xs[i]:=by
 rw[Rm,List.drop_eq_getElem_cons hi]
 simp only[fl,List.flatMap_cons]
 rw[List.take_append_of_le_length (by rw[h.sz];exact Nat.le_refl _),Jn (by rw[h.sz];exact Nat.le_refl _)]
theorem Qu[Inhabited α]{xs:List α}{e:Int}(h:0≤e∧e<(xs.length:Int)):JM xs e=xs[e.toNat]'(by omega):=by
 simp[JM,List.getD,Jh (show e.toNat<xs.length by omega)]
theorem Jfn[Inhabited α][hs:HSz E n]{H:Ji}{xs:List α}{e:Int}(h:0≤e∧e<(xs.length:Int)):Zi H (.fp (fl E xs) (e.toNat*n)) n=some ((E (JM xs e)).map .f):=by
 have hi:e.toNat<xs.length:=by omega
 simp only[Zi]
 rw[Jfa xs hi,Z5,Qu h,if_pos]
 rw[←Nat.succ_mul]
 exact Nat.mul_le_mul_right _ hi
theorem YM[hs:HSz E n]{xs:List α}{i j:Nat}(hi:i<xs.length)(hj:j<n):(fl E xs)[i*n+j]? =some ((E xs[i]).getD j .nil):=by
 have h:=Jfa (E:=E) xs hi
 have h2:=congrArg (fun l=>l[j]?) h
 simp only[JG hj,List.getElem?_drop]at h2
 rw[h2,List.getD,Jh (by rw[hs.sz];exact hj)]
 rfl
theorem JeP[Inhabited α][hs:HSz E 1]{H:Ji}{xs:List α}{e:Int}(h:0≤e∧e<(xs.length:Int)):R3 H (.fp (fl E xs) (e.toNat*1))=some (.c (.f ((E (JM xs e)).getD 0 .nil))):=by
 have hi:e.toNat<xs.length:=by omega
 have:=YM (E:=E) (xs:=xs) hi (Nat.lt_succ_self 0)
 rw[NM,Qu h]
 rw[Nat.add_zero]at this
 rw[this];rfl
theorem JcW[Inhabited α][hs:HSz E n]{H:Ji}{xs:List α}{e:Int}{j:Nat}(h:0≤e∧e<(xs.length:Int))(hj:j<n):R3 H (.fp (fl E xs) (e.toNat*n+j))=some (.c (.f ((E (JM xs e)).getD j .nil))):=by
 have hi:e.toNat<xs.length:=by omega
 rw[NM,Qu h,YM hi hj];rfl
def ldP(b:Option ZG)(off:Nat):Option AV:=match b with
 |some b=>match b.cs[off]? with
  |some c=>some (.c c)
  |none=>none
 |none=>none
theorem JcV{H:Ji}{id g off:Nat}:R3 H (.ptr id g off)=ldP (look H id g) off:=by
 unfold R3 ldP
 simp only[Zi]
 cases hl:look H id g with
 |none=>simp only[hl]
 |some b=>
  simp only[hl]
  by_cases h:off<b.cs.length
  · rw[if_pos (by omega),Jh h]
    have:(b.cs.drop off).take 1=[b.cs[off]]:=by
     rw[List.drop_eq_getElem_cons h];rfl
    rw[this]
  · rw[if_neg (by omega),Ju (by omega)]
theorem NO{b:ZG}{off:Nat}:ldP (some b) off=(b.cs[off]?).map .c:=by
 simp only[ldP]
 cases b.cs[off]? <;>rfl
theorem JhS[Inhabited α][hs:HSz E 1]{g sz:Nat}{xs:List α}{e:Int}(h:0≤e∧e<(xs.length:Int)):ldP (some ⟨g,sz,cl E xs⟩) (0+e.toNat*1)=some (.c (.f ((E (JM xs e)).getD 0 .nil))):=by
 have hi:e.toNat<xs.length:=by omega
 have:=YM (E:=E) (xs:=xs) hi (Nat.lt_succ_self 0)
 rw[Nat.add_zero]at this
 rw[NO,Nat.zero_add,Qu h]
 simp only[cl,Qo,this,Option.map_some]
theorem ZA{g sz:Nat}{cs:List CV}{H:Ji}:look (some ⟨g,sz,cs⟩::H) 0 g=some ⟨g,sz,cs⟩:=by simp[look]
theorem Xp{x:Option ZG}{H:Ji}{i g:Nat}:look (x::H) (i+1) g=look H i g:=by simp[look]
theorem VM[hs:HSz E n]{xs:List α}{i:Nat}{v:α}(h:i<xs.length):Qm (cl E xs) (0+i*n) ((E v).map .f)=cl E (xs.set i v):=by
 have e1:(cl E xs).take (0+i*n)=cl E (xs.take i):=by rw[Nat.zero_add];simp only[cl,←List.map_take,Gx]
 have e2:(cl E xs).drop (0+i*n+((E v).map CV.f).length)=cl E (xs.drop (i+1)):=by
  rw[JL,hs.sz,Nat.zero_add,←Nat.succ_mul];simp only[cl,←List.map_drop,Rm]
 rw[Qm,e1,e2,List.set_eq_take_append_cons_drop,if_pos h]
 simp[cl,fl]
end
def eI(k:IntKind)(x:Int):List FV:=[.int k x]
instance(k:IntKind):HSz (eI k) 1:=⟨fun _=>rfl⟩
abbrev QD (xs:List Int):FV:=WR (eI .i64) xs
abbrev ZY (xs:List Int):AV:= .c (.f (QD xs))
theorem Jh3(k:IntKind)(x:Int)(d:FV):(eI k x).getD 0 d= .int k x:=rfl
theorem setI{k:IntKind}{xs:List Int}{e v:Int}(h:0≤e∧e<(xs.length:Int)):Qm (cl (eI k) xs) (0+e.toNat*1) [.f (.int k v)]=cl (eI k) (xs.set e.toNat v):=
 VM (E:=eI k) (by omega)
theorem addI{k:IntKind}{xs:List Int}{v:Int}:cl (eI k) xs++[.f (.int k v)]=cl (eI k) (xs++[v]):=by rw[QP,Jfm];rfl
theorem Jhk(n:Nat)(k:IntKind):QC (n*1) [.f (.int k 0)]=cl (eI k) (Jg n 0):=by
 simp only[QC,Nat.mul_one,JW,Nat.mod_one]
 induction n with
 |zero=>rfl
 |succ n ih=>rw[List.range_succ,J1,ih,List.replicate_succ',QP];rfl
theorem JdM(z:List CV):QC 0 z=[]:=rfl
def bs(l:List UInt8):ByteArray:=⟨l.toArray⟩
abbrev Um (l:List UInt8):AV:= .c (.f (.str (bs l)))
def eS(l:List UInt8):List FV:=[.str (bs l)]
instance:HSz eS 1:=⟨fun _=>rfl⟩
theorem Jh0(x:List UInt8)(d:FV):(eS x).getD 0 d= .str (bs x):=rfl
theorem addS{xs:List (List UInt8)}{v:List UInt8}:cl eS xs++[.f (.str (bs v))]=cl eS (xs++[v]):=by rw[QP,Jfm];rfl
theorem Xv(l:List UInt8):(bs l).size=l.length:=by simp[bs,ByteArray.size]
theorem Jia(a b:List UInt8):bs a++bs b=bs (a++b):=by
 apply ByteArray.ext
 simp[bs,ByteArray.data_append]
def u8(n:Int):UInt8:=UInt8.ofNat n.toNat
theorem JhZ{s:List AV}(l:List UInt8):QH s (.const (.string ⟨l.toArray⟩))=Um l:=rfl
def Ue(l:List UInt8)(e:Int):Int:=((l.getD e.toNat 0).toNat:Int)
theorem Jdx(l:List UInt8)(e:Int):Bo (bs l) e.toNat=Ue l e:=rfl
def sub{α:Type}(l:List α)(a b:Int):List α:=(l.drop a.toNat).take (b.toNat -a.toNat)
theorem Ye(l:List UInt8)(a b:Nat):(bs l).extract a b=bs ((l.drop a).take (b -a)):=by
 apply ByteArray.ext
 simp[bs,ByteArray.extract,ByteArray.copySlice]
theorem Jd0(xs:List Int):strOfNums xs=bs (xs.map u8):=rfl
theorem JfJ{P:Program}{H:Ji}{t:TypeId}{a b:List UInt8}:Rg P H .add t (Um a) (Um b)=if a.length+b.length≤9223372036854775807 then some (Um (a++b))else none:=by
 simp only[Rg,Xv,Jia]
theorem B9(l:List UInt8):(bs l).toList=l:=by simp[bs,ByteArray.toList_eq]
theorem JfI{P:Program}{H:Ji}{t:TypeId}{a b:List UInt8}:Rg P H .eql t (Um a) (Um b)=some (bool (decide (a=b))):=by
 have:(a==b)=decide (a=b):=by rw[Bool.eq_iff_iff];simp
 simp only[Rg,B9,this]
theorem JfG{P:Program}{H:Ji}{t:TypeId}{a b:List UInt8}:Rg P H .neq t (Um a) (Um b)=some (bool (!decide (a=b))):=by
 have:(a==b)=decide (a=b):=by rw[Bool.eq_iff_iff];simp
 simp only[Rg,B9,this]
theorem JdC{P:Program}{H:Ji}{t:TypeId}{a b:Bool}:Rg P H .eql t (bool a) (bool b)=match Jy P t with
 |some ti=>match ti.k with
  | .bool=>some (bool (decide (a=b)))
  |_=>none
 |none=>none:=by
 have:(a==b)=decide (a=b):=by rw[Bool.eq_iff_iff];simp
 simp only[Rg,this]
 cases Jy P t with
 |none=>rfl
 |some ti=>simp only;cases ti.k<;>rfl
theorem JdB{P:Program}{H:Ji}{t:TypeId}{a b:Bool}:Rg P H .neq t (bool a) (bool b)=match Jy P t with
 |some ti=>match ti.k with
  | .bool=>some (bool (!decide (a=b)))
  |_=>none
 |none=>none:=by
 have:(a==b)=decide (a=b):=by rw[Bool.eq_iff_iff];simp
 simp only[Rg,this]
 cases Jy P t with
 |none=>rfl
 |some ti=>simp only;cases ti.k<;>rfl
theorem Jhp(xs:List Int):u8s (cl (eI .u8) xs)=some xs:=by
 have:cl (eI .u8) xs=xs.map fun n=>CV.f (.int .u8 n):=by
  induction xs with
  |nil=>rfl
  |cons x xs ih=>simp only[cl,fl,List.flatMap_cons,J1,Qf]at ih⊢;rw[ih];rfl
 rw[this,JbG]
theorem JdS(xs:List Int)(n:Nat):u8s ((cl (eI .u8) xs).take n)=some (xs.take n):=by
 have:=congrArg (List.take n) (show cl (eI .u8) xs=xs.map fun n=>CV.f (.int .u8 n) by
  induction xs with
  |nil=>rfl
  |cons x xs ih=>simp only[cl,fl,List.flatMap_cons,J1,Qf]at ih⊢;rw[ih];rfl)
 rw[this,←List.map_take,JbG]
theorem Jf8{α:Type}{E:α→List FV}[h:HSz E 1](xs:List α):((cl E xs).drop 0).take xs.length=cl E xs:=by
 rw[JB,Jn (by rw[Qb];omega)]
theorem WT{α:Type}{E:α→List FV}{n:Nat}[h:HSz E n](xs:List α):((cl E xs).drop 0).take (xs.length*n)=cl E xs:=by
 rw[JB,Jn (by rw[Qb];omega)]
theorem JdX{α:Type}{E:α→List FV}[h:HSz E 1](xs:List α):(cl E xs).take xs.length=cl E xs:=by
 rw[Jn (by rw[Qb];omega)]
theorem JdW{α:Type}{E:α→List FV}{n:Nat}[h:HSz E n](xs:List α):(cl E xs).take (xs.length*n)=cl E xs:=by
 rw[Jn (by rw[Qb];omega)]
theorem Jbe{α:Type}{E:α→List FV}(xs:List α):fvs (cl E xs)=some (fl E xs):=JgN _
theorem ile_t{α:Sort _}{a b:Int}{x y:α}(h:a≤b):(if a≤b then x else y)=x:=if_pos h
def Jdv(sz n:Nat)(cs:List FV)(l h:Nat):Option AV:=if l≤h∧h≤n then some (.c (.f (.sl (h -l) ((cs.drop (l*sz)).take ((h -l)*sz)))))else none
def GD(l:List UInt8)(a b:Nat):Option AV:=if a≤b∧b≤l.length then some (Um ((l.drop a).take (b -a)))else none
theorem Jcs{P:Program}{H:Ji}{t:TypeId}{n:Nat}{cs:List FV}{lo hi:Option Nat}:Uf P H t (.c (.f (.sl n cs))) lo hi none=match QJ P t with
 |some ei=>Jdv ei.size n cs (lo.getD 0) (hi.getD n)
 |none=>none:=by
 simp only[Uf,QJ]
 cases Jy P t with
 |none=>rfl
 |some ti=>
  simp only
  cases ti.k with
  |slice e=>
   simp only
   cases Jy P e with
   |none=>rfl
   |some ei=>
    simp only[Jdv,Option.getD_none]
    have:(lo.getD 0≤hi.getD n∧hi.getD n≤hi.getD n∧hi.getD n≤n∧((none:Option Nat).isSome=true→hi.isSome=true))↔(lo.getD 0≤hi.getD n∧hi.getD n≤n):=by simp
    by_cases h:lo.getD 0≤hi.getD n∧hi.getD n≤n
    · rw[if_pos (this.2 h),if_pos h];simp
    · rw[if_neg (fun hh=>h (this.1 hh)),if_neg h]
  |_=>rfl
theorem JaD{P:Program}{H:Ji}{t:TypeId}{l:List UInt8}{lo hi:Option Nat}:Uf P H t (Um l) lo hi none=match Jy P t with
 |some ti=>(match ti.k with
  | .str=>GD l (lo.getD 0) (hi.getD l.length)
  |_=>none)
 |none=>none:=by
 simp only[Uf,Xv]
 cases Jy P t with
 |none=>rfl
 |some ti=>
  simp only
  cases ti.k with
  |str=>
   simp only[GD,Xv,Ye]
  |_=>rfl
theorem GE{α:Type}{E:α→List FV}{sz:Nat}[h:HSz E sz]{xs:List α}{a b:Int}(hb:0≤a∧a≤b∧b≤xs.length):Jdv sz xs.length (fl E xs) a.toNat b.toNat=some (Rj E (sub xs a b)):=by
 have hl:(sub xs a b).length=b.toNat -a.toNat:=by simp[sub];omega
 simp only[Jdv]
 rw[if_pos (by omega),Rm,Gx]
 unfold Rj WR
 rw[hl];rfl
theorem Bl{l:List UInt8}{a b:Int}(hb:0≤a∧a≤b∧b≤l.length):GD l a.toNat b.toNat=some (Um (sub l a b)):=by
 simp only[GD]
 rw[if_pos (by omega)];rfl
theorem X9{α:Type}{E:α→List FV}{H:Ji}{n:Nat}(xs:List α):(cl E xs).mapM (frz H n)=some (fl E xs):=by
 have:∀l:List FV,(l.map CV.f).mapM (frz H n)=some l:=by
  intro l
  induction l with
  |nil=>rfl
  |cons x l ih=>
   rw[Qf,Jz,ih]
   cases n<;>rfl
 exact this _
theorem N4{α:Type}{E:α→List FV}{n:Nat}[h:HSz E n]{H:Ji}{id g:Nat}{lim:Option Nat}{xs:List α}(hl:look H id g=some ⟨g,n,cl E xs⟩):U7 H (.c (.own id g 0 xs.length lim))=some (Rj E xs):=by
 simp only[U7,Wf,frzC,frz,hl,WT,X9,Option.map_some]
def Jgq{α:Type}(E:α→List FV)(n:Nat)(xs:List α):KV:=fun r H=>∃g,r= .c (.own 0 g 0 xs.length none)∧H=[some ⟨g,n,cl E xs⟩]
theorem Jd4{α:Type}{E:α→List FV}{n g:Nat}{xs:List α}(h:∀x∈xs,∀y∈E x,Ng y=true):Ff [some ⟨g,n,cl E xs⟩]:=by
 intro id b hb c hc
 have:id=0:=by
  have:=(Ja.1 hb).1
  simpa using this
 subst this
 simp at hb
 subst hb
 simp only[cl,fl,Qs,List.mem_flatMap]at hc
 obtain⟨y,⟨x,hx,hy⟩,rfl⟩:=hc
 exact h x hx y hy
theorem scalI(k:IntKind)(xs:List Int):∀x∈xs,∀y∈eI k x,Ng y=true:=fun x _ y hy=>by simp[eI]at hy;subst hy;rfl
theorem Qd.own{α:Type}{E:α→List FV}{n:Nat}[h:HSz E n]{P:Program}{f:FuncId}{args:List AV}{xs:List α}(hc:Jq P f args [] (Jgq E n xs)):Qd P f args (Rj E xs):=
 Qd.ice hc fun r H' ⟨g,h1,h2⟩=>by subst h1 h2;exact N4 ZA
theorem JgD{α:Type}[Inhabited α](l:List α)(i:Nat)(v:α)(e:Int)(h:i<l.length)(he:0≤e):JM (l.set i v) e=if e=i then v else JM l e:=by
 simp only[JM,List.getD,List.getElem?_set]
 by_cases h1:i=e.toNat
 · rw[if_pos h1,if_pos (by omega),if_pos (by omega)];rfl
 · rw[if_neg h1,if_neg (by omega)]
theorem Jb7{α:Type}[Inhabited α]{a b:List α}(hl:a.length=b.length)(h:∀j:Nat,j<a.length→JM a j=JM b j):a=b:=by
 apply List.ext_getElem hl
 intro i h1 h2
 have:=h i h1
 rw[Qu (by omega),Qu (by omega)]at this
 simpa using this
theorem Vm{α:Type}{E:α→List FV}{n g:Nat}{xs:List α}{H:Ji}(h:Qc H [some ⟨g,n,cl E xs⟩]):Wa H (Jgq E n xs) (.c (.own 0 g 0 xs.length none)):=⟨_,h,g,rfl,rfl⟩
theorem JX{α:Type}[Inhabited α]{xs:List α}{i:Nat}(h:i<xs.length):xs.take (i+1)=xs.take i++[JM xs i]:=by
 rw[List.take_succ_eq_append_getElem h,Qu (by omega)];simp
theorem Vp{α:Type}{E:α→List FV}{k:Nat}(xs:List α):(cl E xs).map (Zo k)=cl E xs:=by
 simp only[cl,List.map_map]
 rfl
theorem JeR{Q:KV}{H:Ji}{v:AV}:Wa H (nzQ Q) v=Wa H Q (nzA v):=propext Iff.rfl
theorem Q5{H:Ji}{v r:AV}(h:U7 H r=some v):Wa H (iceQ v) r:=⟨H,Qc.refl _,h⟩
theorem Gs{H:Ji}{id:Nat}{x:Option ZG}(h:H[id]? =some x):Qc H (H.set id x):=by
 have:H.set id x=H:=by
  apply List.ext_getElem?
  intro j
  by_cases hj:id=j
  · subst hj
    rw[J0 (Ja.1 h).1,h]
  · rw[Jj hj]
 rw[this];exact Qc.refl _
theorem Jct(x:Option ZG)(H:Ji)(b:Option ZG):List.set (x::H) 0 b=b::H:=rfl
def JbV(k:Int)(n:Nat):List Int:=(List.range n).map fun i:Nat=>k+i
theorem Uw(k:Int)(n:Nat):(JbV k n).length=n:=by simp[JbV]
theorem Jau{E:Int→List FV}[h:HSz E 1](k:Int)(n:Nat):(cl E (JbV k n)).take (n*1)=cl E (JbV k n):=by
 rw[Jn (by rw[Qb,Uw];exact Nat.le_refl _)]
theorem FD{a b:Int}(h:¬a<b):decide (a<b)=false:=decide_eq_false h
theorem Gg{a b:Int}(h:a<b):decide (a<b)=true:=decide_eq_true h
theorem Jb8{a b:Int}(h:¬a=b):decide (a=b)=false:=decide_eq_false h
theorem GA{a b:Int}(h:a=b):decide (a=b)=true:=decide_eq_true h
theorem setS{xs:List (List UInt8)}{e:Int}{v:List UInt8}(h:0≤e∧e<(xs.length:Int)):Qm (cl eS xs) (0+e.toNat*1) [.f (.str (bs v))]=cl eS (xs.set e.toNat v):=
 VM (E:=eS) (by omega)
theorem Jhj(n:Nat):QC (n*1) [.f (.str (ByteArray.mk #[]))]=cl eS (Jg n []):=by
 simp only[QC,Nat.mul_one,JW,Nat.mod_one]
 induction n with
 |zero=>rfl
 |succ n ih=>rw[List.range_succ,J1,ih,List.replicate_succ',QP];rfl
def digs(k:Nat)(out:List UInt8):List UInt8:=if h:k=0 then out else digs (k/10) (u8 (48+(k%10:Nat))::out)
termination_by k
decreasing_by omega
def mtext(k:Int):List UInt8:=if k≤0 then[109,48]else 109::digs k.toNat []
def JbW(k:Int)(n:Nat):List (List UInt8):=(List.range n).map fun i:Nat=>mtext (k+i)
theorem Ux(k:Int)(n:Nat):(JbW k n).length=n:=by simp[JbW]
theorem Jav(k:Int)(n:Nat):(cl eS (JbW k n)).take (n*1)=cl eS (JbW k n):=by
 rw[Jn (by rw[Qb,Ux];exact Nat.le_refl _)]
attribute [go_sem] setS addS Jhj Ux Jav JaE UE ile_t Jcs JaD GE Bl Option.getD_some Option.getD_none Uw Jau Jct Vp eq_self Bool.not_true Bool.not_false decide_false JeR JeP JcW Jfn JcV JhS ZA Xp setI addI Jhk JhZ Xv Jdx Jd0 JfJ JfI JfG JdC JdB Option.isSome_some Option.isSome_none nzA nz1 nzC QN Q3 ZC Option.map_some Bi Vq shift1 Zo u8s Jhp JdS Jf8 WT JdX JdW
 Jh3 Jh0 FU Vf GK Jfq Yz QJ Bp JbY VI Qg XC Xa decide_true decide_eq_true_eq Bool.and_true Bool.true_and Jv JdM JB List.take_zero List.take_succ_cons List.take_nil elems ZW Vb YO Kl Qb Jg2 Jfk
 Jc Jd Jf Jl Je List.set_cons_zero List.set_cons_succ reduceCtorEq and_self Qf ZC JA QV Jt JL ZI
end Go.Lg
