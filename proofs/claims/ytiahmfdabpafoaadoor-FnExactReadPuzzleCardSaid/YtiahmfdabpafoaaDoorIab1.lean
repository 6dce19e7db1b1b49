/- LgQ, cut to what is needed. -/
import Derived.Test.YtiahmfdabpafoaaDoorIab0
open Nat renaming reduceAdd→zA,reduceMul→zM,reduceSub→zS,reduceEqDiff→zE,reduceLeDiff→zL
set_option linter.unusedSimpArgs false
set_option linter.unusedVariables false
namespace Go.Lg
class HSz {α:Type} (E:α→List FV) (n:outParam Nat):Prop where
 sz:∀x,(E x).length=n
def fl{α:Type}(E:α→List FV)(xs:List α):List FV:=xs.flatMap E
def cl{α:Type}(E:α→List FV)(xs:List α):List CV:=(fl E xs).map .f
abbrev fsl {α:Type} (E:α→List FV) (xs:List α):FV:= .sl xs.length (fl E xs)
abbrev rsl {α:Type} (E:α→List FV) (xs:List α):AV:= .c (.f (fsl E xs))
def nth{α:Type}[Inhabited α](xs:List α)(e:Int):α:=xs.getD e.toNat default
section
variable{α:Type}{E:α→List FV}{n:Nat}
theorem fl_length[h:HSz E n](xs:List α):(fl E xs).length=xs.length*n:=by
 induction xs with
 |nil=>simp[fl]
 |cons x xs ih=>simp only[fl,List.flatMap_cons,List.length_append,h.sz,List.length_cons]at ih⊢;rw[ih,Nat.add_mul];omega
theorem cl_length[h:HSz E n](xs:List α):(cl E xs).length=xs.length*n:=by simp[cl,fl_length]
theorem cl_append(xs ys:List α):cl E (xs++ys)=cl E xs++cl E ys:=by simp[cl,fl]
theorem cl_one(x:α):cl E [x]=(E x).map .f:=by simp[cl,fl]
theorem fl_drop[h:HSz E n]:∀(xs:List α) (i:Nat),(fl E xs).drop (i*n)=fl E (xs.drop i)
 |[],i=>by simp[fl]
 |x::xs,0=>by simp
 |x::xs,i+1=>by
  have ih:=fl_drop xs i
  have:(i+1)*n=(E x).length+i*n:=by rw[h.sz,Nat.add_mul];omega
  rw[this]
  simp only[fl,List.flatMap_cons,List.drop_append,List.drop_succ_cons]at ih⊢
  rw[List.drop_eq_nil_of_le (by omega),Nat.add_sub_cancel_left,ih]
  rfl
theorem fl_take[h:HSz E n]:∀(xs:List α) (i:Nat),(fl E xs).take (i*n)=fl E (xs.take i)
 |[],i=>by simp[fl]
 |x::xs,0=>by simp[fl]
 |x::xs,i+1=>by
  have ih:=fl_take xs i
  have:(i+1)*n=(E x).length+i*n:=by rw[h.sz,Nat.add_mul];omega
  rw[this]
  simp only[fl,List.flatMap_cons,List.take_append,List.take_succ_cons]at ih⊢
  rw[List.take_of_length_le (by omega),Nat.add_sub_cancel_left,ih]
theorem fl_at[h:HSz E n](xs:List α){i:Nat}(hi:i<xs.length):((fl E xs).drop (i*n)).take n=E xs[i]:=by
 rw[fl_drop,List.drop_eq_getElem_cons hi]
 simp only[fl,List.flatMap_cons]
 rw[List.take_append_of_le_length (by rw[h.sz];exact Nat.le_refl _),List.take_of_length_le (by rw[h.sz];exact Nat.le_refl _)]
theorem nth_eq[Inhabited α]{xs:List α}{e:Int}(h:0≤e∧e<(xs.length:Int)):nth xs e=xs[e.toNat]'(by omega):=by
 simp[nth,List.getD,List.getElem?_eq_getElem (show e.toNat<xs.length by omega)]
theorem cells_fl[Inhabited α][hs:HSz E n]{H:Heap}{xs:List α}{e:Int}(h:0≤e∧e<(xs.length:Int)):cellsAt H (.fp (fl E xs) (e.toNat*n)) n=some ((E (nth xs e)).map .f):=by
 have hi:e.toNat<xs.length:=by omega
 simp only[cellsAt]
 rw[fl_at xs hi,fl_length,nth_eq h,if_pos]
 rw[←Nat.succ_mul]
 exact Nat.mul_le_mul_right _ hi
theorem fl_getAt[hs:HSz E n]{xs:List α}{i j:Nat}(hi:i<xs.length)(hj:j<n):(fl E xs)[i*n+j]? =some ((E xs[i]).getD j .nil):=by
 have h:=fl_at (E:=E) xs hi
 have h2:=congrArg (fun l=>l[j]?) h
 simp only[List.getElem?_take_of_lt hj,List.getElem?_drop]at h2
 rw[h2,List.getD,List.getElem?_eq_getElem (by rw[hs.sz];exact hj)]
 rfl
theorem load1_fl[Inhabited α][hs:HSz E 1]{H:Heap}{xs:List α}{e:Int}(h:0≤e∧e<(xs.length:Int)):load1 H (.fp (fl E xs) (e.toNat*1))=some (.c (.f ((E (nth xs e)).getD 0 .nil))):=by
 have hi:e.toNat<xs.length:=by omega
 have:=fl_getAt (E:=E) (xs:=xs) hi (Nat.lt_succ_self 0)
 rw[load1_fp,nth_eq h]
 rw[Nat.add_zero]at this
 rw[this];rfl
theorem load1_flj[Inhabited α][hs:HSz E n]{H:Heap}{xs:List α}{e:Int}{j:Nat}(h:0≤e∧e<(xs.length:Int))(hj:j<n):load1 H (.fp (fl E xs) (e.toNat*n+j))=some (.c (.f ((E (nth xs e)).getD j .nil))):=by
 have hi:e.toNat<xs.length:=by omega
 rw[load1_fp,nth_eq h,fl_getAt hi hj];rfl
def ldP(b:Option Blk)(off:Nat):Option AV:=match b with
 |some b=>match b.cs[off]? with
  |some c=>some (.c c)
  |none=>none
 |none=>none
theorem load1_ptr{H:Heap}{id g off:Nat}:load1 H (.ptr id g off)=ldP (look H id g) off:=by
 unfold load1 ldP
 simp only[cellsAt]
 cases hl:look H id g with
 |none=>simp only[hl]
 |some b=>
  simp only[hl]
  by_cases h:off<b.cs.length
  · rw[if_pos (by omega),List.getElem?_eq_getElem h]
    have:(b.cs.drop off).take 1=[b.cs[off]]:=by
     rw[List.drop_eq_getElem_cons h];rfl
    rw[this]
  · rw[if_neg (by omega),List.getElem?_eq_none (by omega)]
theorem ldP_some{b:Blk}{off:Nat}:ldP (some b) off=(b.cs[off]?).map .c:=by
 simp only[ldP]
 cases b.cs[off]? <;>rfl
theorem ldP_cl[Inhabited α][hs:HSz E 1]{g sz:Nat}{xs:List α}{e:Int}(h:0≤e∧e<(xs.length:Int)):ldP (some ⟨g,sz,cl E xs⟩) (0+e.toNat*1)=some (.c (.f ((E (nth xs e)).getD 0 .nil))):=by
 have hi:e.toNat<xs.length:=by omega
 have:=fl_getAt (E:=E) (xs:=xs) hi (Nat.lt_succ_self 0)
 rw[Nat.add_zero]at this
 rw[ldP_some,Nat.zero_add,nth_eq h]
 simp only[cl,List.getElem?_map,this,Option.map_some]
theorem look_zero{g sz:Nat}{cs:List CV}{H:Heap}:look (some ⟨g,sz,cs⟩::H) 0 g=some ⟨g,sz,cs⟩:=by simp[look]
theorem look_succ{x:Option Blk}{H:Heap}{i g:Nat}:look (x::H) (i+1) g=look H i g:=by simp[look]
theorem setRange_cl[hs:HSz E n]{xs:List α}{i:Nat}{v:α}(h:i<xs.length):setRange (cl E xs) (0+i*n) ((E v).map .f)=cl E (xs.set i v):=by
 have e1:(cl E xs).take (0+i*n)=cl E (xs.take i):=by rw[Nat.zero_add];simp only[cl,←List.map_take,fl_take]
 have e2:(cl E xs).drop (0+i*n+((E v).map CV.f).length)=cl E (xs.drop (i+1)):=by
  rw[List.length_map,hs.sz,Nat.zero_add,←Nat.succ_mul];simp only[cl,←List.map_drop,fl_drop]
 rw[setRange,e1,e2,List.set_eq_take_append_cons_drop,if_pos h]
 simp[cl,fl]
end
def eI(k:IntKind)(x:Int):List FV:=[.int k x]
instance(k:IntKind):HSz (eI k) 1:=⟨fun _=>rfl⟩
abbrev fints (xs:List Int):FV:=fsl (eI .i64) xs
abbrev ints (xs:List Int):AV:= .c (.f (fints xs))
theorem eI_get(k:IntKind)(x:Int)(d:FV):(eI k x).getD 0 d= .int k x:=rfl
theorem setI{k:IntKind}{xs:List Int}{e v:Int}(h:0≤e∧e<(xs.length:Int)):setRange (cl (eI k) xs) (0+e.toNat*1) [.f (.int k v)]=cl (eI k) (xs.set e.toNat v):=
 setRange_cl (E:=eI k) (by omega)
theorem addI{k:IntKind}{xs:List Int}{v:Int}:cl (eI k) xs++[.f (.int k v)]=cl (eI k) (xs++[v]):=by rw[cl_append,cl_one];rfl
theorem zerosI(n:Nat)(k:IntKind):zerosL (n*1) [.f (.int k 0)]=cl (eI k) (List.replicate n 0):=by
 simp only[zerosL,Nat.mul_one,List.length_singleton,Nat.mod_one]
 induction n with
 |zero=>rfl
 |succ n ih=>rw[List.range_succ,List.map_append,ih,List.replicate_succ',cl_append];rfl
theorem zerosL_0(z:List CV):zerosL 0 z=[]:=rfl
def bs(l:List UInt8):ByteArray:=⟨l.toArray⟩
abbrev txt (l:List UInt8):AV:= .c (.f (.str (bs l)))
def eS(l:List UInt8):List FV:=[.str (bs l)]
instance:HSz eS 1:=⟨fun _=>rfl⟩
theorem eS_get(x:List UInt8)(d:FV):(eS x).getD 0 d= .str (bs x):=rfl
theorem addS{xs:List (List UInt8)}{v:List UInt8}:cl eS xs++[.f (.str (bs v))]=cl eS (xs++[v]):=by rw[cl_append,cl_one];rfl
theorem bs_size(l:List UInt8):(bs l).size=l.length:=by simp[bs,ByteArray.size]
theorem bs_add(a b:List UInt8):bs a++bs b=bs (a++b):=by
 apply ByteArray.ext
 simp[bs,ByteArray.data_append]
def u8(n:Int):UInt8:=UInt8.ofNat n.toNat
theorem evO_bs{s:List AV}(l:List UInt8):evO s (.const (.string ⟨l.toArray⟩))=txt l:=rfl
def chr(l:List UInt8)(e:Int):Int:=((l.getD e.toNat 0).toNat:Int)
theorem byteAt_bs(l:List UInt8)(e:Int):byteAt (bs l) e.toNat=chr l e:=rfl
def sub{α:Type}(l:List α)(a b:Int):List α:=(l.drop a.toNat).take (b.toNat -a.toNat)
theorem bs_extract(l:List UInt8)(a b:Nat):(bs l).extract a b=bs ((l.drop a).take (b -a)):=by
 apply ByteArray.ext
 simp[bs,ByteArray.extract,ByteArray.copySlice]
theorem str_size(xs:List Int):strOfNums xs=bs (xs.map u8):=rfl
theorem binA_add{P:Program}{H:Heap}{t:TypeId}{a b:List UInt8}:binA P H .add t (txt a) (txt b)=if a.length+b.length≤9223372036854775807 then some (txt (a++b))else none:=by
 simp only[binA,bs_size,bs_add]
theorem toList_bs(l:List UInt8):(bs l).toList=l:=by simp[bs,ByteArray.toList_eq]
theorem binA_eql{P:Program}{H:Heap}{t:TypeId}{a b:List UInt8}:binA P H .eql t (txt a) (txt b)=some (bool (decide (a=b))):=by
 have:(a==b)=decide (a=b):=by rw[Bool.eq_iff_iff];simp
 simp only[binA,toList_bs,this]
theorem binA_neq{P:Program}{H:Heap}{t:TypeId}{a b:List UInt8}:binA P H .neq t (txt a) (txt b)=some (bool (!decide (a=b))):=by
 have:(a==b)=decide (a=b):=by rw[Bool.eq_iff_iff];simp
 simp only[binA,toList_bs,this]
theorem binA_beql{P:Program}{H:Heap}{t:TypeId}{a b:Bool}:binA P H .eql t (bool a) (bool b)=match tinf P t with
 |some ti=>match ti.k with
  | .bool=>some (bool (decide (a=b)))
  |_=>none
 |none=>none:=by
 have:(a==b)=decide (a=b):=by rw[Bool.eq_iff_iff];simp
 simp only[binA,this]
 cases tinf P t with
 |none=>rfl
 |some ti=>simp only;cases ti.k<;>rfl
theorem binA_bneq{P:Program}{H:Heap}{t:TypeId}{a b:Bool}:binA P H .neq t (bool a) (bool b)=match tinf P t with
 |some ti=>match ti.k with
  | .bool=>some (bool (!decide (a=b)))
  |_=>none
 |none=>none:=by
 have:(a==b)=decide (a=b):=by rw[Bool.eq_iff_iff];simp
 simp only[binA,this]
 cases tinf P t with
 |none=>rfl
 |some ti=>simp only;cases ti.k<;>rfl
theorem u8s_cl(xs:List Int):u8s (cl (eI .u8) xs)=some xs:=by
 have:cl (eI .u8) xs=xs.map fun n=>CV.f (.int .u8 n):=by
  induction xs with
  |nil=>rfl
  |cons x xs ih=>simp only[cl,fl,List.flatMap_cons,List.map_append,List.map_cons]at ih⊢;rw[ih];rfl
 rw[this,u8s_map]
theorem u8s_take(xs:List Int)(n:Nat):u8s ((cl (eI .u8) xs).take n)=some (xs.take n):=by
 have:=congrArg (List.take n) (show cl (eI .u8) xs=xs.map fun n=>CV.f (.int .u8 n) by
  induction xs with
  |nil=>rfl
  |cons x xs ih=>simp only[cl,fl,List.flatMap_cons,List.map_append,List.map_cons]at ih⊢;rw[ih];rfl)
 rw[this,←List.map_take,u8s_map]
theorem take_cl{α:Type}{E:α→List FV}[h:HSz E 1](xs:List α):((cl E xs).drop 0).take xs.length=cl E xs:=by
 rw[List.drop_zero,List.take_of_length_le (by rw[cl_length];omega)]
theorem take_cl1{α:Type}{E:α→List FV}{n:Nat}[h:HSz E n](xs:List α):((cl E xs).drop 0).take (xs.length*n)=cl E xs:=by
 rw[List.drop_zero,List.take_of_length_le (by rw[cl_length];omega)]
theorem take_clA{α:Type}{E:α→List FV}[h:HSz E 1](xs:List α):(cl E xs).take xs.length=cl E xs:=by
 rw[List.take_of_length_le (by rw[cl_length];omega)]
theorem take_clB{α:Type}{E:α→List FV}{n:Nat}[h:HSz E n](xs:List α):(cl E xs).take (xs.length*n)=cl E xs:=by
 rw[List.take_of_length_le (by rw[cl_length];omega)]
theorem fvs_cl{α:Type}{E:α→List FV}(xs:List α):fvs (cl E xs)=some (fl E xs):=fvs_map _
theorem ile_t{α:Sort _}{a b:Int}{x y:α}(h:a≤b):(if a≤b then x else y)=x:=if_pos h
def cutS(sz n:Nat)(cs:List FV)(l h:Nat):Option AV:=if l≤h∧h≤n then some (.c (.f (.sl (h -l) ((cs.drop (l*sz)).take ((h -l)*sz)))))else none
def cutT(l:List UInt8)(a b:Nat):Option AV:=if a≤b∧b≤l.length then some (txt ((l.drop a).take (b -a)))else none
theorem sliceV_sl{P:Program}{H:Heap}{t:TypeId}{n:Nat}{cs:List FV}{lo hi:Option Nat}:sliceV P H t (.c (.f (.sl n cs))) lo hi none=match sliceOf P t with
 |some ei=>cutS ei.size n cs (lo.getD 0) (hi.getD n)
 |none=>none:=by
 simp only[sliceV,sliceOf]
 cases tinf P t with
 |none=>rfl
 |some ti=>
  simp only
  cases ti.k with
  |slice e=>
   simp only
   cases tinf P e with
   |none=>rfl
   |some ei=>
    simp only[cutS,Option.getD_none]
    have:(lo.getD 0≤hi.getD n∧hi.getD n≤hi.getD n∧hi.getD n≤n∧((none:Option Nat).isSome=true→hi.isSome=true))↔(lo.getD 0≤hi.getD n∧hi.getD n≤n):=by simp
    by_cases h:lo.getD 0≤hi.getD n∧hi.getD n≤n
    · rw[if_pos (this.2 h),if_pos h];simp
    · rw[if_neg (fun hh=>h (this.1 hh)),if_neg h]
  |_=>rfl
theorem sliceV_txt{P:Program}{H:Heap}{t:TypeId}{l:List UInt8}{lo hi:Option Nat}:sliceV P H t (txt l) lo hi none=match tinf P t with
 |some ti=>(match ti.k with
  | .str=>cutT l (lo.getD 0) (hi.getD l.length)
  |_=>none)
 |none=>none:=by
 simp only[sliceV,bs_size]
 cases tinf P t with
 |none=>rfl
 |some ti=>
  simp only
  cases ti.k with
  |str=>
   simp only[cutT,bs_size,bs_extract]
  |_=>rfl
theorem cutS_fl{α:Type}{E:α→List FV}{sz:Nat}[h:HSz E sz]{xs:List α}{a b:Int}(hb:0≤a∧a≤b∧b≤xs.length):cutS sz xs.length (fl E xs) a.toNat b.toNat=some (rsl E (sub xs a b)):=by
 have hl:(sub xs a b).length=b.toNat -a.toNat:=by simp[sub];omega
 simp only[cutS]
 rw[if_pos (by omega),fl_drop,fl_take]
 unfold rsl fsl
 rw[hl];rfl
theorem cutT_sub{l:List UInt8}{a b:Int}(hb:0≤a∧a≤b∧b≤l.length):cutT l a.toNat b.toNat=some (txt (sub l a b)):=by
 simp only[cutT]
 rw[if_pos (by omega)];rfl
theorem frz_cl{α:Type}{E:α→List FV}{H:Heap}{n:Nat}(xs:List α):(cl E xs).mapM (frz H n)=some (fl E xs):=by
 have:∀l:List FV,(l.map CV.f).mapM (frz H n)=some l:=by
  intro l
  induction l with
  |nil=>rfl
  |cons x l ih=>
   rw[List.map_cons,List.mapM_cons,ih]
   cases n<;>rfl
 exact this _
theorem frzA_own{α:Type}{E:α→List FV}{n:Nat}[h:HSz E n]{H:Heap}{id g:Nat}{lim:Option Nat}{xs:List α}(hl:look H id g=some ⟨g,n,cl E xs⟩):frzA H (.c (.own id g 0 xs.length lim))=some (rsl E xs):=by
 simp only[frzA,frz1,frzC,frz,hl,take_cl1,frz_cl,Option.map_some]
def ownQ{α:Type}(E:α→List FV)(n:Nat)(xs:List α):KV:=fun r H=>∃g,r= .c (.own 0 g 0 xs.length none)∧H=[some ⟨g,n,cl E xs⟩]
theorem scal_own{α:Type}{E:α→List FV}{n g:Nat}{xs:List α}(h:∀x∈xs,∀y∈E x,scalF y=true):scalH [some ⟨g,n,cl E xs⟩]:=by
 intro id b hb c hc
 have:id=0:=by
  have:=(List.getElem?_eq_some_iff.1 hb).1
  simpa using this
 subst this
 simp at hb
 subst hb
 simp only[cl,fl,List.mem_map,List.mem_flatMap]at hc
 obtain⟨y,⟨x,hx,hy⟩,rfl⟩:=hc
 exact h x hx y hy
theorem scalI(k:IntKind)(xs:List Int):∀x∈xs,∀y∈eI k x,scalF y=true:=fun x _ y hy=>by simp[eI]at hy;subst hy;rfl
theorem Reads.own{α:Type}{E:α→List FV}{n:Nat}[h:HSz E n]{P:Program}{f:FuncId}{args:List AV}{xs:List α}(hc:RunCall P f args [] (ownQ E n xs)):Reads P f args (rsl E xs):=
 Reads.ice hc fun r H' ⟨g,h1,h2⟩=>by subst h1 h2;exact frzA_own look_zero
theorem nth_set{α:Type}[Inhabited α](l:List α)(i:Nat)(v:α)(e:Int)(h:i<l.length)(he:0≤e):nth (l.set i v) e=if e=i then v else nth l e:=by
 simp only[nth,List.getD,List.getElem?_set]
 by_cases h1:i=e.toNat
 · rw[if_pos h1,if_pos (by omega),if_pos (by omega)];rfl
 · rw[if_neg h1,if_neg (by omega)]
theorem ext_nth{α:Type}[Inhabited α]{a b:List α}(hl:a.length=b.length)(h:∀j:Nat,j<a.length→nth a j=nth b j):a=b:=by
 apply List.ext_getElem hl
 intro i h1 h2
 have:=h i h1
 rw[nth_eq (by omega),nth_eq (by omega)]at this
 simpa using this
theorem take_succ_nth{α:Type}[Inhabited α]{xs:List α}{i:Nat}(h:i<xs.length):xs.take (i+1)=xs.take i++[nth xs i]:=by
 rw[List.take_succ_eq_append_getElem h,nth_eq (by omega)];simp
theorem shift_cl{α:Type}{E:α→List FV}{k:Nat}(xs:List α):(cl E xs).map (shiftC k)=cl E xs:=by
 simp only[cl,List.map_map]
 rfl
theorem lessQ_nz{Q:KV}{H:Heap}{v:AV}:lessQ H (nzQ Q) v=lessQ H Q (nzA v):=propext Iff.rfl
theorem lessQ_ice{H:Heap}{v r:AV}(h:frzA H r=some v):lessQ H (iceQ v) r:=⟨H,HLe.refl _,h⟩
theorem hle_set_same{H:Heap}{id:Nat}{x:Option Blk}(h:H[id]? =some x):HLe H (H.set id x):=by
 have:H.set id x=H:=by
  apply List.ext_getElem?
  intro j
  by_cases hj:id=j
  · subst hj
    rw[List.getElem?_set_self (List.getElem?_eq_some_iff.1 h).1,h]
  · rw[List.getElem?_set_ne hj]
 rw[this];exact HLe.refl _
theorem setH_zero(x:Option Blk)(H:Heap)(b:Option Blk):List.set (x::H) 0 b=b::H:=rfl
def marks(k:Int)(n:Nat):List Int:=(List.range n).map fun i:Nat=>k+i
theorem marks_length(k:Int)(n:Nat):(marks k n).length=n:=by simp[marks]
theorem marks_nth{k:Int}{n i:Nat}(h:i<n):nth (marks k n) i=k+i:=by
 rw[nth_eq (by rw[marks_length];omega)]
 simp[marks]
theorem take_marks{E:Int→List FV}[h:HSz E 1](k:Int)(n:Nat):(cl E (marks k n)).take (n*1)=cl E (marks k n):=by
 rw[List.take_of_length_le (by rw[cl_length,marks_length];exact Nat.le_refl _)]
theorem lt_no{a b:Int}(h:¬a<b):decide (a<b)=false:=decide_eq_false h
theorem lt_yes{a b:Int}(h:a<b):decide (a<b)=true:=decide_eq_true h
theorem le_no{a b:Int}(h:¬a≤b):decide (a≤b)=false:=decide_eq_false h
theorem le_yes{a b:Int}(h:a≤b):decide (a≤b)=true:=decide_eq_true h
theorem eq_no{a b:Int}(h:¬a=b):decide (a=b)=false:=decide_eq_false h
theorem eq_yes{a b:Int}(h:a=b):decide (a=b)=true:=decide_eq_true h
theorem setS{xs:List (List UInt8)}{e:Int}{v:List UInt8}(h:0≤e∧e<(xs.length:Int)):setRange (cl eS xs) (0+e.toNat*1) [.f (.str (bs v))]=cl eS (xs.set e.toNat v):=
 setRange_cl (E:=eS) (by omega)
theorem zerosS(n:Nat):zerosL (n*1) [.f (.str (ByteArray.mk #[]))]=cl eS (List.replicate n []):=by
 simp only[zerosL,Nat.mul_one,List.length_singleton,Nat.mod_one]
 induction n with
 |zero=>rfl
 |succ n ih=>rw[List.range_succ,List.map_append,ih,List.replicate_succ',cl_append];rfl
def digs(k:Nat)(out:List UInt8):List UInt8:=if h:k=0 then out else digs (k/10) (u8 (48+(k%10:Nat))::out)
termination_by k
decreasing_by omega
def mtext(k:Int):List UInt8:=if k≤0 then[109,48]else 109::digs k.toNat []
def markS(k:Int)(n:Nat):List (List UInt8):=(List.range n).map fun i:Nat=>mtext (k+i)
theorem markS_length(k:Int)(n:Nat):(markS k n).length=n:=by simp[markS]
theorem take_markS(k:Int)(n:Nat):(cl eS (markS k n)).take (n*1)=cl eS (markS k n):=by
 rw[List.take_of_length_le (by rw[cl_length,markS_length];exact Nat.le_refl _)]
attribute [go_sem] setS addS zerosS markS_length take_markS sliceO bound ile_t sliceV_sl sliceV_txt cutS_fl cutT_sub Option.getD_some Option.getD_none marks_length take_marks setH_zero shift_cl eq_self Bool.not_true Bool.not_false decide_false lessQ_nz load1_fl load1_flj cells_fl load1_ptr ldP_cl look_zero look_succ setI addI zerosI evO_bs bs_size byteAt_bs str_size binA_add binA_eql binA_neq binA_beql binA_bneq Option.isSome_some Option.isSome_none nzA nz1 nzC shiftH shiftB List.map_nil Option.map_some extractO shiftA shift1 shiftC u8s u8s_cl u8s_take take_cl take_cl1 take_clA take_clB
 eI_get eS_get storeM avCells allocM boxM newM sliceOf buildM makeM appM appendM seqOk catL decide_true decide_eq_true_eq Bool.and_true Bool.true_and List.append_nil zerosL_0 List.drop_zero List.take_zero List.take_succ_cons List.take_nil elems partsV fillG convV indexV cl_length cnt_nat cnt_zero
 List.cons_append List.nil_append List.length_cons List.length_nil List.length_append List.set_cons_zero List.set_cons_succ reduceCtorEq and_self List.map_cons List.map_nil List.length_take List.length_replicate List.length_set List.length_map List.length_drop
end Go.Lg
