/- LgQ, LgTy, cut to what is needed. -/
import Derived.Test.YtpdaalgdkdpihaaXab0
import Derived.Test.YtpdaalgdkdpihaaProg
import Derived.KernelRfl
open Nat renaming reduceAdd→zA,reduceMul→zM,reduceSub→zS,reduceEqDiff→zE,reduceLeDiff→zL
set_option linter.unusedSimpArgs false
set_option linter.unusedVariables false
namespace Go.Lg
class HSz {α:Type} (E:α→List FV) (n:outParam Nat):Prop where
 sz:∀x,(E x).length=n
def fl{α:Type}(E:α→List FV)(xs:List α):List FV:=xs.flatMap E
def cl{α:Type}(E:α→List FV)(xs:List α):List CV:=(fl E xs).map .f
abbrev fsl {α:Type} (E:α→List FV) (xs:List α):FV:= .sl xs.length (fl E xs)
abbrev rsl {α:Type} (E:α→List FV) (xs:List α):AV:= .c (.f (fsl E xs))
def nth{α:Type}[Inhabited α](xs:List α)(e:Int):α:=xs.getD e.toNat default
section
variable{α:Type}{E:α→List FV}{n:Nat}
theorem fl_length[h:HSz E n](xs:List α):(fl E xs).length=xs.length*n:=by
 induction xs with
 |nil=>simp[fl]
 |cons x xs ih=>simp only[fl,List.flatMap_cons,List.length_append,h.sz,List.length_cons]at ih⊢;rw[ih,Nat.add_mul];omega
theorem cl_length[h:HSz E n](xs:List α):(cl E xs).length=xs.length*n:=by simp[cl,fl_length]
theorem cl_append(xs ys:List α):cl E (xs++ys)=cl E xs++cl E ys:=by simp[cl,fl]
theorem cl_one(x:α):cl E [x]=(E x).map .f:=by simp[cl,fl]
theorem fl_drop[h:HSz E n]:∀(xs:List α) (i:Nat),(fl E xs).drop (i*n)=fl E (xs.drop i)
 |[],i=>by simp[fl]
 |x::xs,0=>by simp
 |x::xs,i+1=>by
  have ih:=fl_drop xs i
  have:(i+1)*n=(E x).length+i*n:=by rw[h.sz,Nat.add_mul];omega
  rw[this]
  simp only[fl,List.flatMap_cons,List.drop_append,List.drop_succ_cons]at ih⊢
  rw[List.drop_eq_nil_of_le (by omega),Nat.add_sub_cancel_left,ih]
  rfl
theorem fl_take[h:HSz E n]:∀(xs:List α) (i:Nat),(fl E xs).take (i*n)=fl E (xs.take i)
 |[],i=>by simp[fl]
 |x::xs,0=>by simp[fl]
 |x::xs,i+1=>by
  have ih:=fl_take xs i
  have:(i+1)*n=(E x).length+i*n:=by rw[h.sz,Nat.add_mul];omega
  rw[this]
  simp only[fl,List.flatMap_cons,List.take_append,List.take_succ_cons]at ih⊢
  rw[List.take_of_length_le (by omega),Nat.add_sub_cancel_left,ih]
theorem fl_at[h:HSz E n](xs:List α){i:Nat}(hi:i<xs.length):((fl E xs).drop (i*n)).take n=E xs[i]:=by
 rw[fl_drop,List.drop_eq_getElem_cons hi]
 simp only[fl,List.flatMap_cons]
 rw[List.take_append_of_le_length (by rw[h.sz];exact Nat.le_refl _),List.take_of_length_le (by rw[h.sz];exact Nat.le_refl _)]
theorem nth_eq[Inhabited α]{xs:List α}{e:Int}(h:0≤e∧e<(xs.length:Int)):nth xs e=xs[e.toNat]'(by omega):=by
 simp[nth,List.getD,List.getElem?_eq_getElem (show e.toNat<xs.length by omega)]
theorem cells_fl[Inhabited α][hs:HSz E n]{H:Heap}{xs:List α}{e:Int}(h:0≤e∧e<(xs.length:Int)):cellsAt H (.fp (fl E xs) (e.toNat*n)) n=some ((E (nth xs e)).map .f):=by
 have hi:e.toNat<xs.length:=by omega
 simp only[cellsAt]
 rw[fl_at xs hi,fl_length,nth_eq h,if_pos]
 rw[←Nat.succ_mul]
 exact Nat.mul_le_mul_right _ hi
theorem fl_getAt[hs:HSz E n]{xs:List α}{i j:Nat}(hi:i<xs.length)(hj:j<n):(fl E xs)[i*n+j]? =some ((E xs[i]).getD j .nil):=by
 have h:=fl_at (E:=E) xs hi
 have h2:=congrArg (fun l=>l[j]?) h
 simp only[List.getElem?_take_of_lt hj,List.getElem?_drop]at h2
 rw[h2,List.getD,List.getElem?_eq_getElem (by rw[hs.sz];exact hj)]
 rfl
theorem load1_fl[Inhabited α][hs:HSz E 1]{H:Heap}{xs:List α}{e:Int}(h:0≤e∧e<(xs.length:Int)):load1 H (.fp (fl E xs) (e.toNat*1))=some (.c (.f ((E (nth xs e)).getD 0 .nil))):=by
 have hi:e.toNat<xs.length:=by omega
 have:=fl_getAt (E:=E) (xs:=xs) hi (Nat.lt_succ_self 0)
 rw[load1_fp,nth_eq h]
 rw[Nat.add_zero]at this
 rw[this];rfl
theorem load1_flj[Inhabited α][hs:HSz E n]{H:Heap}{xs:List α}{e:Int}{j:Nat}(h:0≤e∧e<(xs.length:Int))(hj:j<n):load1 H (.fp (fl E xs) (e.toNat*n+j))=some (.c (.f ((E (nth xs e)).getD j .nil))):=by
 have hi:e.toNat<xs.length:=by omega
 rw[load1_fp,nth_eq h,fl_getAt hi hj];rfl
def ldP(b:Option Blk)(off:Nat):Option AV:=match b with
 |some b=>match b.cs[off]? with
  |some c=>some (.c c)
  |none=>none
 |none=>none
theorem load1_ptr{H:Heap}{id g off:Nat}:load1 H (.ptr id g off)=ldP (look H id g) off:=by
 unfold load1 ldP
 simp only[cellsAt]
 cases hl:look H id g with
 |none=>simp only[hl]
 |some b=>
  simp only[hl]
  by_cases h:off<b.cs.length
  · rw[if_pos (by omega),List.getElem?_eq_getElem h]
    have:(b.cs.drop off).take 1=[b.cs[off]]:=by
     rw[List.drop_eq_getElem_cons h];rfl
    rw[this]
  · rw[if_neg (by omega),List.getElem?_eq_none (by omega)]
theorem ldP_some{b:Blk}{off:Nat}:ldP (some b) off=(b.cs[off]?).map .c:=by
 simp only[ldP]
 cases b.cs[off]? <;>rfl
theorem ldP_cl[Inhabited α][hs:HSz E 1]{g sz:Nat}{xs:List α}{e:Int}(h:0≤e∧e<(xs.length:Int)):ldP (some ⟨g,sz,cl E xs⟩) (0+e.toNat*1)=some (.c (.f ((E (nth xs e)).getD 0 .nil))):=by
 have hi:e.toNat<xs.length:=by omega
 have:=fl_getAt (E:=E) (xs:=xs) hi (Nat.lt_succ_self 0)
 rw[Nat.add_zero]at this
 rw[ldP_some,Nat.zero_add,nth_eq h]
 simp only[cl,List.getElem?_map,this,Option.map_some]
theorem look_zero{g sz:Nat}{cs:List CV}{H:Heap}:look (some ⟨g,sz,cs⟩::H) 0 g=some ⟨g,sz,cs⟩:=by simp[look]
theorem look_succ{x:Option Blk}{H:Heap}{i g:Nat}:look (x::H) (i+1) g=look H i g:=by simp[look]
theorem setRange_cl[hs:HSz E n]{xs:List α}{i:Nat}{v:α}(h:i<xs.length):setRange (cl E xs) (0+i*n) ((E v).map .f)=cl E (xs.set i v):=by
 have e1:(cl E xs).take (0+i*n)=cl E (xs.take i):=by rw[Nat.zero_add];simp only[cl,←List.map_take,fl_take]
 have e2:(cl E xs).drop (0+i*n+((E v).map CV.f).length)=cl E (xs.drop (i+1)):=by
  rw[List.length_map,hs.sz,Nat.zero_add,←Nat.succ_mul];simp only[cl,←List.map_drop,fl_drop]
 rw[setRange,e1,e2,List.set_eq_take_append_cons_drop,if_pos h]
 simp[cl,fl]
end
def eI(k:IntKind)(x:Int):List FV:=[.int k x]
instance(k:IntKind):HSz (eI k) 1:=⟨fun _=>rfl⟩
abbrev fints (xs:List Int):FV:=fsl (eI .i64) xs
abbrev ints (xs:List Int):AV:= .c (.f (fints xs))
theorem eI_get(k:IntKind)(x:Int)(d:FV):(eI k x).getD 0 d= .int k x:=rfl
theorem setI{k:IntKind}{xs:List Int}{e v:Int}(h:0≤e∧e<(xs.length:Int)):setRange (cl (eI k) xs) (0+e.toNat*1) [.f (.int k v)]=cl (eI k) (xs.set e.toNat v):=
 setRange_cl (E:=eI k) (by omega)
theorem addI{k:IntKind}{xs:List Int}{v:Int}:cl (eI k) xs++[.f (.int k v)]=cl (eI k) (xs++[v]):=by rw[cl_append,cl_one];rfl
theorem zerosI(n:Nat)(k:IntKind):zerosL (n*1) [.f (.int k 0)]=cl (eI k) (List.replicate n 0):=by
 simp only[zerosL,Nat.mul_one,List.length_singleton,Nat.mod_one]
 induction n with
 |zero=>rfl
 |succ n ih=>rw[List.range_succ,List.map_append,ih,List.replicate_succ',cl_append];rfl
theorem zerosL_0(z:List CV):zerosL 0 z=[]:=rfl
def bs(l:List UInt8):ByteArray:=⟨l.toArray⟩
abbrev txt (l:List UInt8):AV:= .c (.f (.str (bs l)))
def eS(l:List UInt8):List FV:=[.str (bs l)]
instance:HSz eS 1:=⟨fun _=>rfl⟩
theorem eS_get(x:List UInt8)(d:FV):(eS x).getD 0 d= .str (bs x):=rfl
theorem addS{xs:List (List UInt8)}{v:List UInt8}:cl eS xs++[.f (.str (bs v))]=cl eS (xs++[v]):=by rw[cl_append,cl_one];rfl
theorem bs_size(l:List UInt8):(bs l).size=l.length:=by simp[bs,ByteArray.size]
theorem bs_add(a b:List UInt8):bs a++bs b=bs (a++b):=by
 apply ByteArray.ext
 simp[bs,ByteArray.data_append]
def u8(n:Int):UInt8:=UInt8.ofNat n.toNat
theorem evO_bs{s:List AV}(l:List UInt8):evO s (.const (.string ⟨l.toArray⟩))=txt l:=rfl
def chr(l:List UInt8)(e:Int):Int:=((l.getD e.toNat 0).toNat:Int)
theorem byteAt_bs(l:List UInt8)(e:Int):byteAt (bs l) e.toNat=chr l e:=rfl
def sub{α:Type}(l:List α)(a b:Int):List α:=(l.drop a.toNat).take (b.toNat -a.toNat)
theorem bs_extract(l:List UInt8)(a b:Nat):(bs l).extract a b=bs ((l.drop a).take (b -a)):=by
 apply ByteArray.ext
 simp[bs,ByteArray.extract,ByteArray.copySlice]
theorem str_size(xs:List Int):strOfNums xs=bs (xs.map u8):=rfl
theorem binA_add{P:Program}{H:Heap}{t:TypeId}{a b:List UInt8}:binA P H .add t (txt a) (txt b)=if a.length+b.length≤9223372036854775807 then some (txt (a++b))else none:=by
 simp only[binA,bs_size,bs_add]
theorem toList_bs(l:List UInt8):(bs l).toList=l:=by simp[bs,ByteArray.toList_eq]
theorem binA_eql{P:Program}{H:Heap}{t:TypeId}{a b:List UInt8}:binA P H .eql t (txt a) (txt b)=some (bool (decide (a=b))):=by
 have:(a==b)=decide (a=b):=by rw[Bool.eq_iff_iff];simp
 simp only[binA,toList_bs,this]
theorem binA_neq{P:Program}{H:Heap}{t:TypeId}{a b:List UInt8}:binA P H .neq t (txt a) (txt b)=some (bool (!decide (a=b))):=by
 have:(a==b)=decide (a=b):=by rw[Bool.eq_iff_iff];simp
 simp only[binA,toList_bs,this]
theorem binA_beql{P:Program}{H:Heap}{t:TypeId}{a b:Bool}:binA P H .eql t (bool a) (bool b)=match tinf P t with
 |some ti=>match ti.k with
  | .bool=>some (bool (decide (a=b)))
  |_=>none
 |none=>none:=by
 have:(a==b)=decide (a=b):=by rw[Bool.eq_iff_iff];simp
 simp only[binA,this]
 cases tinf P t with
 |none=>rfl
 |some ti=>simp only;cases ti.k<;>rfl
theorem binA_bneq{P:Program}{H:Heap}{t:TypeId}{a b:Bool}:binA P H .neq t (bool a) (bool b)=match tinf P t with
 |some ti=>match ti.k with
  | .bool=>some (bool (!decide (a=b)))
  |_=>none
 |none=>none:=by
 have:(a==b)=decide (a=b):=by rw[Bool.eq_iff_iff];simp
 simp only[binA,this]
 cases tinf P t with
 |none=>rfl
 |some ti=>simp only;cases ti.k<;>rfl
theorem u8s_cl(xs:List Int):u8s (cl (eI .u8) xs)=some xs:=by
 have:cl (eI .u8) xs=xs.map fun n=>CV.f (.int .u8 n):=by
  induction xs with
  |nil=>rfl
  |cons x xs ih=>simp only[cl,fl,List.flatMap_cons,List.map_append,List.map_cons]at ih⊢;rw[ih];rfl
 rw[this,u8s_map]
theorem u8s_take(xs:List Int)(n:Nat):u8s ((cl (eI .u8) xs).take n)=some (xs.take n):=by
 have:=congrArg (List.take n) (show cl (eI .u8) xs=xs.map fun n=>CV.f (.int .u8 n) by
  induction xs with
  |nil=>rfl
  |cons x xs ih=>simp only[cl,fl,List.flatMap_cons,List.map_append,List.map_cons]at ih⊢;rw[ih];rfl)
 rw[this,←List.map_take,u8s_map]
theorem take_cl{α:Type}{E:α→List FV}[h:HSz E 1](xs:List α):((cl E xs).drop 0).take xs.length=cl E xs:=by
 rw[List.drop_zero,List.take_of_length_le (by rw[cl_length];omega)]
theorem take_cl1{α:Type}{E:α→List FV}{n:Nat}[h:HSz E n](xs:List α):((cl E xs).drop 0).take (xs.length*n)=cl E xs:=by
 rw[List.drop_zero,List.take_of_length_le (by rw[cl_length];omega)]
theorem take_clA{α:Type}{E:α→List FV}[h:HSz E 1](xs:List α):(cl E xs).take xs.length=cl E xs:=by
 rw[List.take_of_length_le (by rw[cl_length];omega)]
theorem take_clB{α:Type}{E:α→List FV}{n:Nat}[h:HSz E n](xs:List α):(cl E xs).take (xs.length*n)=cl E xs:=by
 rw[List.take_of_length_le (by rw[cl_length];omega)]
theorem ile_t{α:Sort _}{a b:Int}{x y:α}(h:a≤b):(if a≤b then x else y)=x:=if_pos h
def cutS(sz n:Nat)(cs:List FV)(l h:Nat):Option AV:=if l≤h∧h≤n then some (.c (.f (.sl (h -l) ((cs.drop (l*sz)).take ((h -l)*sz)))))else none
def cutT(l:List UInt8)(a b:Nat):Option AV:=if a≤b∧b≤l.length then some (txt ((l.drop a).take (b -a)))else none
theorem sliceV_sl{P:Program}{H:Heap}{t:TypeId}{n:Nat}{cs:List FV}{lo hi:Option Nat}:sliceV P H t (.c (.f (.sl n cs))) lo hi none=match sliceOf P t with
 |some ei=>cutS ei.size n cs (lo.getD 0) (hi.getD n)
 |none=>none:=by
 simp only[sliceV,sliceOf]
 cases tinf P t with
 |none=>rfl
 |some ti=>
  simp only
  cases ti.k with
  |slice e=>
   simp only
   cases tinf P e with
   |none=>rfl
   |some ei=>
    simp only[cutS,Option.getD_none]
    have:(lo.getD 0≤hi.getD n∧hi.getD n≤hi.getD n∧hi.getD n≤n∧((none:Option Nat).isSome=true→hi.isSome=true))↔(lo.getD 0≤hi.getD n∧hi.getD n≤n):=by simp
    by_cases h:lo.getD 0≤hi.getD n∧hi.getD n≤n
    · rw[if_pos (this.2 h),if_pos h];simp
    · rw[if_neg (fun hh=>h (this.1 hh)),if_neg h]
  |_=>rfl
theorem sliceV_txt{P:Program}{H:Heap}{t:TypeId}{l:List UInt8}{lo hi:Option Nat}:sliceV P H t (txt l) lo hi none=match tinf P t with
 |some ti=>(match ti.k with
  | .str=>cutT l (lo.getD 0) (hi.getD l.length)
  |_=>none)
 |none=>none:=by
 simp only[sliceV,bs_size]
 cases tinf P t with
 |none=>rfl
 |some ti=>
  simp only
  cases ti.k with
  |str=>
   simp only[cutT,bs_size,bs_extract]
  |_=>rfl
theorem cutS_fl{α:Type}{E:α→List FV}{sz:Nat}[h:HSz E sz]{xs:List α}{a b:Int}(hb:0≤a∧a≤b∧b≤xs.length):cutS sz xs.length (fl E xs) a.toNat b.toNat=some (rsl E (sub xs a b)):=by
 have hl:(sub xs a b).length=b.toNat -a.toNat:=by simp[sub];omega
 simp only[cutS]
 rw[if_pos (by omega),fl_drop,fl_take]
 unfold rsl fsl
 rw[hl];rfl
theorem cutT_sub{l:List UInt8}{a b:Int}(hb:0≤a∧a≤b∧b≤l.length):cutT l a.toNat b.toNat=some (txt (sub l a b)):=by
 simp only[cutT]
 rw[if_pos (by omega)];rfl
theorem frz_cl{α:Type}{E:α→List FV}{H:Heap}{n:Nat}(xs:List α):(cl E xs).mapM (frz H n)=some (fl E xs):=by
 have:∀l:List FV,(l.map CV.f).mapM (frz H n)=some l:=by
  intro l
  induction l with
  |nil=>rfl
  |cons x l ih=>
   rw[List.map_cons,List.mapM_cons,ih]
   cases n<;>rfl
 exact this _
theorem frzA_own{α:Type}{E:α→List FV}{n:Nat}[h:HSz E n]{H:Heap}{id g:Nat}{lim:Option Nat}{xs:List α}(hl:look H id g=some ⟨g,n,cl E xs⟩):frzA H (.c (.own id g 0 xs.length lim))=some (rsl E xs):=by
 simp only[frzA,frz1,frzC,frz,hl,take_cl1,frz_cl,Option.map_some]
def ownQ{α:Type}(E:α→List FV)(n:Nat)(xs:List α):KV:=fun r H=>∃g,r= .c (.own 0 g 0 xs.length none)∧H=[some ⟨g,n,cl E xs⟩]
theorem scal_own{α:Type}{E:α→List FV}{n g:Nat}{xs:List α}(h:∀x∈xs,∀y∈E x,scalF y=true):scalH [some ⟨g,n,cl E xs⟩]:=by
 intro id b hb c hc
 have:id=0:=by
  have:=(List.getElem?_eq_some_iff.1 hb).1
  simpa using this
 subst this
 simp at hb
 subst hb
 simp only[cl,fl,List.mem_map,List.mem_flatMap]at hc
 obtain⟨y,⟨x,hx,hy⟩,rfl⟩:=hc
 exact h x hx y hy
theorem scal_none:scalH []:=fun id b hb=>by simp at hb
theorem scalI(k:IntKind)(xs:List Int):∀x∈xs,∀y∈eI k x,scalF y=true:=fun x _ y hy=>by simp[eI]at hy;subst hy;rfl
theorem Reads.own{α:Type}{E:α→List FV}{n:Nat}[h:HSz E n]{P:Program}{f:FuncId}{args:List AV}{xs:List α}(hc:RunCall P f args [] (ownQ E n xs)):Reads P f args (rsl E xs):=
 Reads.ice hc fun r H' ⟨g,h1,h2⟩=>by subst h1 h2;exact frzA_own look_zero
theorem nth_set{α:Type}[Inhabited α](l:List α)(i:Nat)(v:α)(e:Int)(h:i<l.length)(he:0≤e):nth (l.set i v) e=if e=i then v else nth l e:=by
 simp only[nth,List.getD,List.getElem?_set]
 by_cases h1:i=e.toNat
 · rw[if_pos h1,if_pos (by omega),if_pos (by omega)];rfl
 · rw[if_neg h1,if_neg (by omega)]
theorem ext_nth{α:Type}[Inhabited α]{a b:List α}(hl:a.length=b.length)(h:∀j:Nat,j<a.length→nth a j=nth b j):a=b:=by
 apply List.ext_getElem hl
 intro i h1 h2
 have:=h i h1
 rw[nth_eq (by omega),nth_eq (by omega)]at this
 simpa using this
theorem lessQ_own{α:Type}{E:α→List FV}{n g:Nat}{xs:List α}{H:Heap}(h:HLe H [some ⟨g,n,cl E xs⟩]):lessQ H (ownQ E n xs) (.c (.own 0 g 0 xs.length none)):=⟨_,h,g,rfl,rfl⟩
theorem take_succ_nth{α:Type}[Inhabited α]{xs:List α}{i:Nat}(h:i<xs.length):xs.take (i+1)=xs.take i++[nth xs i]:=by
 rw[List.take_succ_eq_append_getElem h,nth_eq (by omega)];simp
theorem shift_cl{α:Type}{E:α→List FV}{k:Nat}(xs:List α):(cl E xs).map (shiftC k)=cl E xs:=by
 simp only[cl,List.map_map]
 rfl
theorem lessQ_nz{Q:KV}{H:Heap}{v:AV}:lessQ H (nzQ Q) v=lessQ H Q (nzA v):=propext Iff.rfl
theorem lessQ_ice{H:Heap}{v r:AV}(h:frzA H r=some v):lessQ H (iceQ v) r:=⟨H,HLe.refl _,h⟩
theorem hle_set_same{H:Heap}{id:Nat}{x:Option Blk}(h:H[id]? =some x):HLe H (H.set id x):=by
 have:H.set id x=H:=by
  apply List.ext_getElem?
  intro j
  by_cases hj:id=j
  · subst hj
    rw[List.getElem?_set_self (List.getElem?_eq_some_iff.1 h).1,h]
  · rw[List.getElem?_set_ne hj]
 rw[this];exact HLe.refl _
theorem setH_zero(x:Option Blk)(H:Heap)(b:Option Blk):List.set (x::H) 0 b=b::H:=rfl
def marks(k:Int)(n:Nat):List Int:=(List.range n).map fun i:Nat=>k+i
theorem marks_length(k:Int)(n:Nat):(marks k n).length=n:=by simp[marks]
theorem take_marks{E:Int→List FV}[h:HSz E 1](k:Int)(n:Nat):(cl E (marks k n)).take (n*1)=cl E (marks k n):=by
 rw[List.take_of_length_le (by rw[cl_length,marks_length];exact Nat.le_refl _)]
theorem lt_no{a b:Int}(h:¬a<b):decide (a<b)=false:=decide_eq_false h
theorem lt_yes{a b:Int}(h:a<b):decide (a<b)=true:=decide_eq_true h
theorem eq_no{a b:Int}(h:¬a=b):decide (a=b)=false:=decide_eq_false h
theorem eq_yes{a b:Int}(h:a=b):decide (a=b)=true:=decide_eq_true h
theorem setS{xs:List (List UInt8)}{e:Int}{v:List UInt8}(h:0≤e∧e<(xs.length:Int)):setRange (cl eS xs) (0+e.toNat*1) [.f (.str (bs v))]=cl eS (xs.set e.toNat v):=
 setRange_cl (E:=eS) (by omega)
theorem zerosS(n:Nat):zerosL (n*1) [.f (.str (ByteArray.mk #[]))]=cl eS (List.replicate n []):=by
 simp only[zerosL,Nat.mul_one,List.length_singleton,Nat.mod_one]
 induction n with
 |zero=>rfl
 |succ n ih=>rw[List.range_succ,List.map_append,ih,List.replicate_succ',cl_append];rfl
def digs(k:Nat)(out:List UInt8):List UInt8:=if h:k=0 then out else digs (k/10) (u8 (48+(k%10:Nat))::out)
termination_by k
decreasing_by omega
def mtext(k:Int):List UInt8:=if k≤0 then[109,48]else 109::digs k.toNat []
def markS(k:Int)(n:Nat):List (List UInt8):=(List.range n).map fun i:Nat=>mtext (k+i)
theorem markS_length(k:Int)(n:Nat):(markS k n).length=n:=by simp[markS]
theorem take_markS(k:Int)(n:Nat):(cl eS (markS k n)).take (n*1)=cl eS (markS k n):=by
 rw[List.take_of_length_le (by rw[cl_length,markS_length];exact Nat.le_refl _)]
attribute [go_sem] setS addS zerosS markS_length take_markS sliceO bound ile_t sliceV_sl sliceV_txt cutS_fl cutT_sub Option.getD_some Option.getD_none marks_length take_marks setH_zero shift_cl eq_self Bool.not_true Bool.not_false decide_false lessQ_nz load1_fl load1_flj cells_fl load1_ptr ldP_cl look_zero look_succ setI addI zerosI evO_bs bs_size byteAt_bs str_size binA_add binA_eql binA_neq binA_beql binA_bneq Option.isSome_some Option.isSome_none nzA nz1 nzC shiftH shiftB List.map_nil Option.map_some extractO shiftA shift1 shiftC u8s u8s_cl u8s_take take_cl take_cl1 take_clA take_clB
 eI_get eS_get storeM avCells allocM boxM newM sliceOf buildM makeM appM appendM seqOk catL decide_true decide_eq_true_eq Bool.and_true Bool.true_and List.append_nil zerosL_0 List.drop_zero List.take_zero List.take_succ_cons List.take_nil elems partsV fillG convV indexV cl_length cnt_nat cnt_zero
 List.cons_append List.nil_append List.length_cons List.length_nil List.length_append List.set_cons_zero List.set_cons_succ reduceCtorEq and_self List.map_cons List.map_nil List.length_take List.length_replicate List.length_set List.length_map List.length_drop
end Go.Lg

namespace Go.Lg
open Go.Proofs
theorem ti1:tinf Try.prog 1=some ⟨.func,1,8,[.nilf]⟩:=by kernel_rfl
theorem ti2:tinf Try.prog 2=some ⟨.int .i64,1,8,[.f (.int .i64 0)]⟩:=by kernel_rfl
theorem ti3:tinf Try.prog 3=some ⟨.int .i64,1,8,[.f (.int .i64 0)]⟩:=by kernel_rfl
theorem ti4:tinf Try.prog 4=some ⟨.bool,1,1,[.f (.bool false)]⟩:=by kernel_rfl
theorem ti5:tinf Try.prog 5=some ⟨.int .u8,1,1,[.f (.int .u8 0)]⟩:=by kernel_rfl
theorem ti6:tinf Try.prog 6=some ⟨.int .u8,1,1,[.f (.int .u8 0)]⟩:=by kernel_rfl
theorem ti7:tinf Try.prog 7=some ⟨.struct [(2,0),(3,1),(4,2),(6,3)],4,24,[.f (.int .i64 0), .f (.int .i64 0), .f (.bool false), .f (.int .u8 0)]⟩:=by kernel_rfl
theorem ti8:tinf Try.prog 8=some ⟨.struct [(2,0),(3,1),(4,2),(6,3)],4,24,[.f (.int .i64 0), .f (.int .i64 0), .f (.bool false), .f (.int .u8 0)]⟩:=by kernel_rfl
theorem ti9:tinf Try.prog 9=some ⟨.str,1,16,[.f (.str (ByteArray.mk #[]))]⟩:=by kernel_rfl
theorem ti10:tinf Try.prog 10=some ⟨.str,1,16,[.f (.str (ByteArray.mk #[]))]⟩:=by kernel_rfl
theorem ti11:tinf Try.prog 11=some ⟨.str,1,16,[.f (.str (ByteArray.mk #[]))]⟩:=by kernel_rfl
theorem ti12:tinf Try.prog 12=some ⟨.int .u64,1,8,[.f (.int .u64 0)]⟩:=by kernel_rfl
theorem ti13:tinf Try.prog 13=some ⟨.struct [(9,0),(12,1)],2,24,[.f (.str (ByteArray.mk #[])), .f (.int .u64 0)]⟩:=by kernel_rfl
theorem ti14:tinf Try.prog 14=some ⟨.struct [(9,0),(12,1)],2,24,[.f (.str (ByteArray.mk #[])), .f (.int .u64 0)]⟩:=by kernel_rfl
theorem ti15:tinf Try.prog 15=some ⟨.ptr 140,1,8,[.nilp]⟩:=by kernel_rfl
theorem ti16:tinf Try.prog 16=some ⟨.ptr 143,1,8,[.nilp]⟩:=by kernel_rfl
theorem ti17:tinf Try.prog 17=some ⟨.ptr 153,1,8,[.nilp]⟩:=by kernel_rfl
theorem ti18:tinf Try.prog 18=some ⟨.struct [(17,0)],1,8,[.nilp]⟩:=by kernel_rfl
theorem ti19:tinf Try.prog 19=some ⟨.struct [(17,0)],1,8,[.nilp]⟩:=by kernel_rfl
theorem ti21:tinf Try.prog 21=some ⟨.int .i32,1,4,[.f (.int .i32 0)]⟩:=by kernel_rfl
theorem ti22:tinf Try.prog 22=some ⟨.slice 3,1,24,[.f .nil]⟩:=by kernel_rfl
theorem ti23:tinf Try.prog 23=some ⟨.slice 88,1,24,[.f .nil]⟩:=by kernel_rfl
theorem ti24:tinf Try.prog 24=some ⟨.struct [(3,0),(22,1),(23,2)],3,56,[.f (.int .i64 0), .f .nil, .f .nil]⟩:=by kernel_rfl
theorem ti25:tinf Try.prog 25=some ⟨.struct [(3,0),(22,1),(23,2)],3,56,[.f (.int .i64 0), .f .nil, .f .nil]⟩:=by kernel_rfl
theorem ti26:tinf Try.prog 26=some ⟨.struct [(25,0),(22,3),(22,4)],5,104,[.f (.int .i64 0), .f .nil, .f .nil, .f .nil, .f .nil]⟩:=by kernel_rfl
theorem ti27:tinf Try.prog 27=some ⟨.struct [(25,0),(22,3),(22,4)],5,104,[.f (.int .i64 0), .f .nil, .f .nil, .f .nil, .f .nil]⟩:=by kernel_rfl
theorem ti28:tinf Try.prog 28=some ⟨.func,1,8,[.nilf]⟩:=by kernel_rfl
theorem ti29:tinf Try.prog 29=some ⟨.func,1,8,[.nilf]⟩:=by kernel_rfl
theorem ti30:tinf Try.prog 30=some ⟨.slice 81,1,24,[.f .nil]⟩:=by kernel_rfl
theorem ti31:tinf Try.prog 31=some ⟨.struct [(3,0),(22,1),(30,2)],3,56,[.f (.int .i64 0), .f .nil, .f .nil]⟩:=by kernel_rfl
theorem ti32:tinf Try.prog 32=some ⟨.struct [(3,0),(22,1),(30,2)],3,56,[.f (.int .i64 0), .f .nil, .f .nil]⟩:=by kernel_rfl
theorem ti33:tinf Try.prog 33=some ⟨.struct [(32,0),(22,3),(22,4)],5,104,[.f (.int .i64 0), .f .nil, .f .nil, .f .nil, .f .nil]⟩:=by kernel_rfl
theorem ti34:tinf Try.prog 34=some ⟨.struct [(32,0),(22,3),(22,4)],5,104,[.f (.int .i64 0), .f .nil, .f .nil, .f .nil, .f .nil]⟩:=by kernel_rfl
theorem ti35:tinf Try.prog 35=some ⟨.func,1,8,[.nilf]⟩:=by kernel_rfl
theorem ti36:tinf Try.prog 36=some ⟨.func,1,8,[.nilf]⟩:=by kernel_rfl
theorem ti37:tinf Try.prog 37=some ⟨.func,1,8,[.nilf]⟩:=by kernel_rfl
theorem ti38:tinf Try.prog 38=some ⟨.func,1,8,[.nilf]⟩:=by kernel_rfl
theorem ti39:tinf Try.prog 39=some ⟨.func,1,8,[.nilf]⟩:=by kernel_rfl
theorem ti40:tinf Try.prog 40=some ⟨.func,1,8,[.nilf]⟩:=by kernel_rfl
theorem ti41:tinf Try.prog 41=some ⟨.func,1,8,[.nilf]⟩:=by kernel_rfl
theorem ti42:tinf Try.prog 42=some ⟨.func,1,8,[.nilf]⟩:=by kernel_rfl
theorem ti43:tinf Try.prog 43=some ⟨.func,1,8,[.nilf]⟩:=by kernel_rfl
theorem ti44:tinf Try.prog 44=some ⟨.func,1,8,[.nilf]⟩:=by kernel_rfl
theorem ti45:tinf Try.prog 45=some ⟨.func,1,8,[.nilf]⟩:=by kernel_rfl
theorem ti46:tinf Try.prog 46=some ⟨.func,1,8,[.nilf]⟩:=by kernel_rfl
theorem ti48:tinf Try.prog 48=some ⟨.func,1,8,[.nilf]⟩:=by kernel_rfl
theorem ti49:tinf Try.prog 49=some ⟨.func,1,8,[.nilf]⟩:=by kernel_rfl
theorem ti50:tinf Try.prog 50=some ⟨.func,1,8,[.nilf]⟩:=by kernel_rfl
theorem ti51:tinf Try.prog 51=some ⟨.slice 5,1,24,[.f .nil]⟩:=by kernel_rfl
theorem ti52:tinf Try.prog 52=some ⟨.func,1,8,[.nilf]⟩:=by kernel_rfl
theorem ti53:tinf Try.prog 53=some ⟨.func,1,8,[.nilf]⟩:=by kernel_rfl
theorem ti54:tinf Try.prog 54=some ⟨.func,1,8,[.nilf]⟩:=by kernel_rfl
theorem ti55:tinf Try.prog 55=some ⟨.func,1,8,[.nilf]⟩:=by kernel_rfl
theorem ti56:tinf Try.prog 56=some ⟨.func,1,8,[.nilf]⟩:=by kernel_rfl
theorem ti57:tinf Try.prog 57=some ⟨.func,1,8,[.nilf]⟩:=by kernel_rfl
theorem ti59:tinf Try.prog 59=some ⟨.func,1,8,[.nilf]⟩:=by kernel_rfl
theorem ti60:tinf Try.prog 60=some ⟨.slice 65,1,24,[.f .nil]⟩:=by kernel_rfl
theorem ti62:tinf Try.prog 62=some ⟨.func,1,8,[.nilf]⟩:=by kernel_rfl
theorem ti63:tinf Try.prog 63=some ⟨.func,1,8,[.nilf]⟩:=by kernel_rfl
theorem ti64:tinf Try.prog 64=some ⟨.struct [(3,0),(3,1)],2,16,[.f (.int .i64 0), .f (.int .i64 0)]⟩:=by kernel_rfl
theorem ti65:tinf Try.prog 65=some ⟨.struct [(3,0),(3,1)],2,16,[.f (.int .i64 0), .f (.int .i64 0)]⟩:=by kernel_rfl
theorem ti66:tinf Try.prog 66=some ⟨.func,1,8,[.nilf]⟩:=by kernel_rfl
theorem ti68:tinf Try.prog 68=some ⟨.func,1,8,[.nilf]⟩:=by kernel_rfl
theorem ti69:tinf Try.prog 69=some ⟨.func,1,8,[.nilf]⟩:=by kernel_rfl
theorem ti70:tinf Try.prog 70=some ⟨.func,1,8,[.nilf]⟩:=by kernel_rfl
theorem ti71:tinf Try.prog 71=some ⟨.func,1,8,[.nilf]⟩:=by kernel_rfl
theorem ti72:tinf Try.prog 72=some ⟨.func,1,8,[.nilf]⟩:=by kernel_rfl
theorem ti73:tinf Try.prog 73=some ⟨.func,1,8,[.nilf]⟩:=by kernel_rfl
theorem ti74:tinf Try.prog 74=some ⟨.func,1,8,[.nilf]⟩:=by kernel_rfl
theorem ti75:tinf Try.prog 75=some ⟨.func,1,8,[.nilf]⟩:=by kernel_rfl
theorem ti76:tinf Try.prog 76=some ⟨.func,1,8,[.nilf]⟩:=by kernel_rfl
theorem ti77:tinf Try.prog 77=some ⟨.ptr 103,1,8,[.nilp]⟩:=by kernel_rfl
theorem ti78:tinf Try.prog 78=some ⟨.func,1,8,[.nilf]⟩:=by kernel_rfl
theorem ti79:tinf Try.prog 79=some ⟨.func,1,8,[.nilf]⟩:=by kernel_rfl
theorem ti80:tinf Try.prog 80=some ⟨.struct [(3,0),(22,1),(3,2)],3,40,[.f (.int .i64 0), .f .nil, .f (.int .i64 0)]⟩:=by kernel_rfl
theorem ti81:tinf Try.prog 81=some ⟨.struct [(3,0),(22,1),(3,2)],3,40,[.f (.int .i64 0), .f .nil, .f (.int .i64 0)]⟩:=by kernel_rfl
theorem ti82:tinf Try.prog 82=some ⟨.func,1,8,[.nilf]⟩:=by kernel_rfl
theorem ti83:tinf Try.prog 83=some ⟨.func,1,8,[.nilf]⟩:=by kernel_rfl
theorem ti84:tinf Try.prog 84=some ⟨.slice 4,1,24,[.f .nil]⟩:=by kernel_rfl
theorem ti85:tinf Try.prog 85=some ⟨.func,1,8,[.nilf]⟩:=by kernel_rfl
theorem ti86:tinf Try.prog 86=some ⟨.func,1,8,[.nilf]⟩:=by kernel_rfl
theorem ti87:tinf Try.prog 87=some ⟨.func,1,8,[.nilf]⟩:=by kernel_rfl
theorem ti88:tinf Try.prog 88=some ⟨.struct [(3,0),(22,1),(3,2)],3,40,[.f (.int .i64 0), .f .nil, .f (.int .i64 0)]⟩:=by kernel_rfl
theorem ti89:tinf Try.prog 89=some ⟨.func,1,8,[.nilf]⟩:=by kernel_rfl
theorem ti90:tinf Try.prog 90=some ⟨.func,1,8,[.nilf]⟩:=by kernel_rfl
theorem ti91:tinf Try.prog 91=some ⟨.func,1,8,[.nilf]⟩:=by kernel_rfl
theorem ti92:tinf Try.prog 92=some ⟨.func,1,8,[.nilf]⟩:=by kernel_rfl
theorem ti93:tinf Try.prog 93=some ⟨.func,1,8,[.nilf]⟩:=by kernel_rfl
theorem ti94:tinf Try.prog 94=some ⟨.func,1,8,[.nilf]⟩:=by kernel_rfl
theorem ti96:tinf Try.prog 96=some ⟨.func,1,8,[.nilf]⟩:=by kernel_rfl
theorem ti97:tinf Try.prog 97=some ⟨.func,1,8,[.nilf]⟩:=by kernel_rfl
theorem ti98:tinf Try.prog 98=some ⟨.func,1,8,[.nilf]⟩:=by kernel_rfl
theorem ti100:tinf Try.prog 100=some ⟨.func,1,8,[.nilf]⟩:=by kernel_rfl
theorem ti101:tinf Try.prog 101=some ⟨.func,1,8,[.nilf]⟩:=by kernel_rfl
theorem ti102:tinf Try.prog 102=some ⟨.struct [(51,0),(3,1)],2,32,[.f .nil, .f (.int .i64 0)]⟩:=by kernel_rfl
theorem ti103:tinf Try.prog 103=some ⟨.struct [(51,0),(3,1)],2,32,[.f .nil, .f (.int .i64 0)]⟩:=by kernel_rfl
theorem ti105:tinf Try.prog 105=some ⟨.func,1,8,[.nilf]⟩:=by kernel_rfl
theorem ti106:tinf Try.prog 106=some ⟨.func,1,8,[.nilf]⟩:=by kernel_rfl
theorem ti108:tinf Try.prog 108=some ⟨.func,1,8,[.nilf]⟩:=by kernel_rfl
theorem ti109:tinf Try.prog 109=some ⟨.func,1,8,[.nilf]⟩:=by kernel_rfl
theorem ti110:tinf Try.prog 110=some ⟨.func,1,8,[.nilf]⟩:=by kernel_rfl
theorem ti111:tinf Try.prog 111=some ⟨.func,1,8,[.nilf]⟩:=by kernel_rfl
theorem ti112:tinf Try.prog 112=some ⟨.func,1,8,[.nilf]⟩:=by kernel_rfl
theorem ti113:tinf Try.prog 113=some ⟨.func,1,8,[.nilf]⟩:=by kernel_rfl
theorem ti114:tinf Try.prog 114=some ⟨.struct [(3,0),(3,1),(3,2)],3,24,[.f (.int .i64 0), .f (.int .i64 0), .f (.int .i64 0)]⟩:=by kernel_rfl
theorem ti115:tinf Try.prog 115=some ⟨.struct [(3,0),(3,1),(3,2)],3,24,[.f (.int .i64 0), .f (.int .i64 0), .f (.int .i64 0)]⟩:=by kernel_rfl
theorem ti117:tinf Try.prog 117=some ⟨.func,1,8,[.nilf]⟩:=by kernel_rfl
theorem ti118:tinf Try.prog 118=some ⟨.func,1,8,[.nilf]⟩:=by kernel_rfl
theorem ti119:tinf Try.prog 119=some ⟨.slice 9,1,24,[.f .nil]⟩:=by kernel_rfl
theorem ti120:tinf Try.prog 120=some ⟨.func,1,8,[.nilf]⟩:=by kernel_rfl
theorem ti121:tinf Try.prog 121=some ⟨.func,1,8,[.nilf]⟩:=by kernel_rfl
theorem ti122:tinf Try.prog 122=some ⟨.ptr 60,1,8,[.nilp]⟩:=by kernel_rfl
theorem ti123:tinf Try.prog 123=some ⟨.func,1,8,[.nilf]⟩:=by kernel_rfl
theorem ti124:tinf Try.prog 124=some ⟨.ptr 3,1,8,[.nilp]⟩:=by kernel_rfl
theorem ti125:tinf Try.prog 125=some ⟨.slice 22,1,24,[.f .nil]⟩:=by kernel_rfl
theorem ti126:tinf Try.prog 126=some ⟨.func,1,8,[.nilf]⟩:=by kernel_rfl
theorem ti127:tinf Try.prog 127=some ⟨.func,1,8,[.nilf]⟩:=by kernel_rfl
theorem ti128:tinf Try.prog 128=some ⟨.func,1,8,[.nilf]⟩:=by kernel_rfl
theorem ti129:tinf Try.prog 129=some ⟨.func,1,8,[.nilf]⟩:=by kernel_rfl
theorem ti130:tinf Try.prog 130=some ⟨.func,1,8,[.nilf]⟩:=by kernel_rfl
theorem ti131:tinf Try.prog 131=some ⟨.func,1,8,[.nilf]⟩:=by kernel_rfl
theorem ti132:tinf Try.prog 132=some ⟨.ptr 125,1,8,[.nilp]⟩:=by kernel_rfl
theorem ti133:tinf Try.prog 133=some ⟨.func,1,8,[.nilf]⟩:=by kernel_rfl
theorem ti134:tinf Try.prog 134=some ⟨.func,1,8,[.nilf]⟩:=by kernel_rfl
theorem ti135:tinf Try.prog 135=some ⟨.func,1,8,[.nilf]⟩:=by kernel_rfl
theorem ti136:tinf Try.prog 136=some ⟨.func,1,8,[.nilf]⟩:=by kernel_rfl
theorem ti137:tinf Try.prog 137=some ⟨.func,1,8,[.nilf]⟩:=by kernel_rfl
theorem ti138:tinf Try.prog 138=some ⟨.func,1,8,[.nilf]⟩:=by kernel_rfl
theorem ti139:tinf Try.prog 139=some ⟨.struct [(17,0),(17,1),(17,2),(9,3)],4,40,[.nilp, .nilp, .nilp, .f (.str (ByteArray.mk #[]))]⟩:=by kernel_rfl
theorem ti140:tinf Try.prog 140=some ⟨.struct [(17,0),(17,1),(17,2),(9,3)],4,40,[.nilp, .nilp, .nilp, .f (.str (ByteArray.mk #[]))]⟩:=by kernel_rfl
theorem ti141:tinf Try.prog 141=some ⟨.array 0 16,0,0,[]⟩:=by kernel_rfl
theorem ti142:tinf Try.prog 142=some ⟨.struct [(141,0)],0,0,[]⟩:=by kernel_rfl
theorem ti143:tinf Try.prog 143=some ⟨.struct [(141,0)],0,0,[]⟩:=by kernel_rfl
theorem ti144:tinf Try.prog 144=some ⟨.func,1,8,[.nilf]⟩:=by kernel_rfl
theorem ti145:tinf Try.prog 145=some ⟨.int .u32,1,4,[.f (.int .u32 0)]⟩:=by kernel_rfl
theorem ti146:tinf Try.prog 146=some ⟨.int .u8,1,1,[.f (.int .u8 0)]⟩:=by kernel_rfl
theorem ti147:tinf Try.prog 147=some ⟨.int .u8,1,1,[.f (.int .u8 0)]⟩:=by kernel_rfl
theorem ti148:tinf Try.prog 148=some ⟨.func,1,8,[.nilf]⟩:=by kernel_rfl
theorem ti149:tinf Try.prog 149=some ⟨.ptr 5,1,8,[.nilp]⟩:=by kernel_rfl
theorem ti150:tinf Try.prog 150=some ⟨.int .i32,1,4,[.f (.int .i32 0)]⟩:=by kernel_rfl
theorem ti151:tinf Try.prog 151=some ⟨.int .i32,1,4,[.f (.int .i32 0)]⟩:=by kernel_rfl
theorem ti152:tinf Try.prog 152=some ⟨.struct [(12,0),(12,1),(145,2),(146,3),(5,4),(5,5),(147,6),(148,7),(149,8),(150,9),(151,10)],11,48,[.f (.int .u64 0), .f (.int .u64 0), .f (.int .u32 0), .f (.int .u8 0), .f (.int .u8 0), .f (.int .u8 0), .f (.int .u8 0), .nilf, .nilp, .f (.int .i32 0), .f (.int .i32 0)]⟩:=by kernel_rfl
theorem ti153:tinf Try.prog 153=some ⟨.struct [(12,0),(12,1),(145,2),(146,3),(5,4),(5,5),(147,6),(148,7),(149,8),(150,9),(151,10)],11,48,[.f (.int .u64 0), .f (.int .u64 0), .f (.int .u32 0), .f (.int .u8 0), .f (.int .u8 0), .f (.int .u8 0), .f (.int .u8 0), .nilf, .nilp, .f (.int .i32 0), .f (.int .i32 0)]⟩:=by kernel_rfl
theorem foll:Try.prog.follows .mixedOrders=true:=by kernel_rfl
attribute [go_sem] ti1 ti2 ti3 ti4 ti5 ti6 ti7 ti8 ti9 ti10 ti11 ti12 ti13 ti14 ti15 ti16 ti17 ti18 ti19 ti21 ti22 ti23 ti24 ti25 ti26 ti27 ti28 ti29 ti30 ti31 ti32 ti33 ti34 ti35 ti36 ti37 ti38 ti39 ti40 ti41 ti42 ti43 ti44 ti45 ti46 ti48 ti49 ti50 ti51 ti52 ti53 ti54 ti55 ti56 ti57 ti59 ti60 ti62 ti63 ti64 ti65 ti66 ti68 ti69 ti70 ti71 ti72 ti73 ti74 ti75 ti76 ti77 ti78 ti79 ti80 ti81 ti82 ti83 ti84 ti85 ti86 ti87 ti88 ti89 ti90 ti91 ti92 ti93 ti94 ti96 ti97 ti98 ti100 ti101 ti102 ti103 ti105 ti106 ti108 ti109 ti110 ti111 ti112 ti113 ti114 ti115 ti117 ti118 ti119 ti120 ti121 ti122 ti123 ti124 ti125 ti126 ti127 ti128 ti129 ti130 ti131 ti132 ti133 ti134 ti135 ti136 ti137 ti138 ti139 ti140 ti141 ti142 ti143 ti144 ti145 ti146 ti147 ti148 ti149 ti150 ti151 ti152 ti153
end Go.Lg
