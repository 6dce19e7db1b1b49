/- GpDA, LgT2, LgR, LgT3, cut to what is needed. -/
import Derived.Test.YtiahmfdabpafoaaDoorGab5
import Derived.Test.YtiahmfdabpafoaaDoorGab2
import Derived.Test.YtiahmfdabpafoaaDoorGab4
import Derived.Test.YtiahmfdabpafoaaDoorGab1
import Derived.ProofKit
import Derived.OpenShut
import Derived.ShutString
import Derived.ChangeOld
import Derived.SizedLaws
import Derived.ChangeSlices
import Derived.Carry
open Nat renaming reduceAdd→zA,reduceMul→zM,reduceSub→zS,reduceEqDiff→zE,reduceLeDiff→zL
set_option linter.unusedSimpArgs false
set_option linter.unusedVariables false
set_option maxRecDepth 100000
namespace Go.Lg
open Go.Proofs
def prodV(vs:List Int):Int:=vs.foldl (fun a v=>a*v) 1
def holdsV(r:Rul)(vs:List Int):Bool:=
 if r.kind=1 then decide vs.Nodup else if r.kind=2 then decide (vs.sum=r.val)else if r.kind=3 then decide (prodV vs=r.val)
 else if r.kind=4 then decide (nth vs 0<nth vs 1)else decide (max (nth vs 0 -nth vs 1) (nth vs 1 -nth vs 0)=r.val)
def orV(o:List Nat)(vs:List Int):List Nat:=o.zipWith (fun x v=>x|||2^v.toNat) vs
def ways(r:Rul):List Nat→List Int→List Nat→List Nat
 |[],pre,o=>if holdsV r pre=true then orV o pre else o
 |m::ms,pre,o=>[1,2,3,4].foldl (fun o (v:Nat)=>if m.testBit v=true then ways r ms (pre++[(v:Int)]) o else o) o
def maskAt(xs:List Int)(n:Nat)(c:Int):Nat:=if 0<nth xs c then 2^(nth xs c).toNat else 2^(n+1) -2
def canHold(r:Rul)(xs:List Int)(n:Nat):Bool:=(ways r (r.cells.map (maskAt xs n)) [] (List.replicate r.cells.length 0)).getD 0 0 !=0
theorem canHold_congr{r:Rul}{xs ys:List Int}{n:Nat}(h:∀c∈r.cells,nth xs c=nth ys c):canHold r xs n=canHold r ys n:=by
 unfold canHold
 rw[List.map_congr_left (f:=maskAt xs n) (g:=maskAt ys n) fun c hc=>by unfold maskAt;rw[h c hc]]
def clear(p:Puz)(xs:List Int):Bool:=decide (∀k:Nat,k<xs.length→¬(0<nth p.given k∧0<nth xs k∧nth xs k≠nth p.given k))
def fitsL(p:Puz)(xs:List Int)(n:Nat):Bool:=clear p xs&&(p.rules.all (fun r=>canHold r xs n)&& !clash xs n)
def cellFits(p:Puz)(xs:List Int)(n i:Nat):Bool:=decide (∀j:Nat,j<n*n→j≠i→(j/n=i/n∨j%n=i%n)→nth xs j≠nth xs i)&&p.rules.all (fun r=> !r.cells.contains (i:Int)||canHold r xs n)
theorem nc_set{n:Nat}{xs:List Int}{i v:Nat}(h:NC xs n)(hl:xs.length=n*n)(hi:i<n*n)(hv:1≤v)(h0:nth xs i=0):
 NC (xs.set i v) n↔∀j:Nat,j<n*n→j≠i→(j/n=i/n∨j%n=i%n)→nth (xs.set i (v:Int)) j≠v:=by
 have hset:∀k:Nat,nth (xs.set i (v:Int)) k=if k=i then(v:Int)else nth xs k:=fun k=>nth_setN _ _ _ _ (by rw[hl];exact hi)
 constructor
 · intro hc j hj hne hln
   rcases Nat.lt_or_ge j i with h1|h1
   · have:=hc j i h1 hi hln
     rw[hset i,if_pos rfl]at this
     intro he
     rw[he]at this
     exact this (by omega) rfl
   · have:=hc i j (by omega) hj (hln.imp Eq.symm Eq.symm)
     rw[hset i,if_pos rfl]at this
     intro he
     rw[he]at this
     exact this (by omega) rfl
 · intro hc p q hpq hq hln hp
   by_cases hpi:p=i
   · subst hpi
     rw[hset p,if_pos rfl]
     exact fun he=>hc q hq (by omega) (hln.imp Eq.symm Eq.symm) he.symm
   · by_cases hqi:q=i
     · subst hqi
       rw[hset q,if_pos rfl]
       exact hc p (by omega) hpi hln
     · rw[hset p,if_neg hpi]at hp⊢
       rw[hset q,if_neg hqi]
       exact h p q hpq hq hln hp
theorem fits_step{p:Puz}{n:Nat}(hn:n=2∨n=3∨n=4){xs:List Int}{i v:Nat}(h:fitsL p xs n=true)(hl:xs.length=n*n)(hx:∀c:Int,0≤nth xs c)(hi:i<n*n)(hv:1≤v)(h0:nth xs i=0)(hg:nth p.given i≤0)(hcs:∀r∈p.rules,∀c∈r.cells,0≤c):
 fitsL p (xs.set i v) n=cellFits p (xs.set i v) n i:=by
 have hset:∀k:Nat,nth (xs.set i (v:Int)) k=if k=i then(v:Int)else nth xs k:=fun k=>nth_setN _ _ _ _ (by rw[hl];exact hi)
 have hx':∀c:Int,0≤nth (xs.set i (v:Int)) c:=fun c=>by
  rw[nth_toNat,hset]
  split
  · omega
  · exact hx _
 simp only[fitsL,Bool.and_eq_true,clear,decide_eq_true_eq,Bool.not_eq_true',List.all_eq_true]at h
 obtain⟨h1,h2,h3⟩:=h
 have hclear:clear p (xs.set i v)=true:=by
  simp only[clear,decide_eq_true_eq]
  rintro k hk ⟨a,b,c⟩
  rw[hset]at b c
  by_cases hki:k=i
  · rw[hki]at a;omega
  · rw[if_neg hki]at b c
    exact h1 k (by simpa using hk) ⟨a,b,c⟩
 have hcl:(!clash (xs.set i (v:Int)) n)=decide (∀j:Nat,j<n*n→j≠i→(j/n=i/n∨j%n=i%n)→nth (xs.set i (v:Int)) j≠nth (xs.set i (v:Int)) i):=by
  rw[Bool.eq_iff_iff,Bool.not_eq_true',clash_nc hn hx',nc_set ((clash_nc hn hx).1 h3) hl hi hv h0,decide_eq_true_eq,hset i,if_pos rfl]
 have hr:p.rules.all (fun r=>canHold r (xs.set i (v:Int)) n)=p.rules.all (fun r=> !r.cells.contains (i:Int)||canHold r (xs.set i (v:Int)) n):=by
  rw[Bool.eq_iff_iff]
  simp only[List.all_eq_true,Bool.or_eq_true,Bool.not_eq_true']
  constructor
  · exact fun k r hr=> .inr (k r hr)
  · intro k r hr
    rcases k r hr with k|k
    · rw[←h2 r hr]
      refine canHold_congr fun c hc=> ?_
      have hci:c≠(i:Int):=fun he=>by rw[he]at hc;simp at k;exact k hc
      have hc0:=hcs r hr c hc
      obtain⟨m,rfl⟩:∃m:Nat,c=m:=⟨c.toNat,by omega⟩
      rw[hset,if_neg (by omega)]
    · exact k
 unfold fitsL cellFits
 rw[hclear,hr,hcl,Bool.true_and,Bool.and_comm]
def sols(p:Puz)(n:Nat):Nat→List Int→List (List Int)
 |0,xs=>[xs]
 |m+1,xs=>if 0<nth xs ((xs.length -(m+1):Nat):Int)then sols p n m xs else((List.range n).map (· +1)).flatMap fun(v:Nat)=>if fitsL p (xs.set (xs.length -(m+1)) (v:Int)) n=true then sols p n m (xs.set (xs.length -(m+1)) (v:Int))else[]
end Go.Lg

namespace Go.Lg
open Go.Proofs
def chI(v:Int):Int:=if v=0 then 46 else 48+v
def chOf(v:Int):UInt8:=u8 (chI v)
theorem cellsText_run(xs:List Int)(hx:xs.length≤2^40)(hv:∀j:Nat,j<xs.length→0≤nth xs j∧nth xs j≤9):Reads Tryd.prog 79 [ints xs] (txt (xs.map chOf)):=by
 refine RunCall.cw (c:=_) Tryd.func79 rfl (n:=29) Tryd.ntmps79 (rs:=[.tmp 2]) rfl ?_
 simp only[List.length_cons,List.length_nil,zA,zS,List.replicate,List.cons_append,List.nil_append]
 simp(maxSteps:=999999)(disch:=omega)only[go_sem,zA,zM,zS,zE,zL]
 intro g
 refine loop_rule2 (fun(i g:Nat)=>xs.length -i) (fun i g=>i≤xs.length) (fun i g=>[.a, .a, .a, .p (.c (.own 0 g 0 i none)), .a, .a, .a, .a, .a, .k, .k, .p (int i), .a, .a, .a, .a, .a, .a, .a, .a, .a, .a, .a, .a, .a, .a, .a, .a, .a]) (fun i g=>[some ⟨g,1,cl (eI .u8) ((xs.take i).map chI)⟩]) 0 g
  (Nat.zero_le _) (by simp(maxSteps:=999999)(disch:=omega)only[go_sem,zA,zM,zS,zE,zL];rfl) (HLe.refl _) ?_
 intro i g hi
 simp(maxSteps:=999999)(disch:=omega)only[go_sem,zA,zM,zS,zE,zL]
 refine condK_split (fun h=> ?_) (fun h=> ?_)
 · have h:i<xs.length:=by simpa using h
   have hv:=hv i h
   simp(maxSteps:=999999)(disch:=omega)only[go_sem,zA,zM,zS,zE,zL]
   refine condK_split (fun h2=> ?_) (fun h2=> ?_)<;>simp(maxSteps:=999999)(disch:=omega)only[go_sem,zA,zM,zS,zE,zL]
   · simp at h2
     intro g1 g2
     exact⟨i+1,g2,⟨h,by omega⟩,⟨⟨rfl,rfl⟩,rfl⟩,hle_eq (by rw[take_succ_nth h,List.map_append];simp[chI,h2]) (hle_nil _)⟩
   simp at h2
   intro g1 g2
   exact⟨i+1,g2,⟨h,by omega⟩,⟨⟨rfl,rfl⟩,rfl⟩,hle_eq (by rw[take_succ_nth h,List.map_append];simp[chI,h2]) (hle_nil _)⟩
 have h:¬i<xs.length:=by simpa using h
 have:i=xs.length:=by omega
 subst this
 simp(maxSteps:=999999)(disch:=omega)only[go_sem,zA,zM,zS,zE,zL]
 congr 1
 rw[List.take_of_length_le (by simp),List.take_length,List.map_map]
 rfl
end Go.Lg

namespace Go.Lg
open Go.ChangeShapes Go.WideShapes Go.ChangeAt Go.RowKit
open Go.ChangeMaps (open_string)
def Cx.base(W:World):Cx:=⟨fun _=>0,fun _=>0,fun b=>b<W.heap.size,0⟩
theorem base_rel(W:World)(ht:TabR W (Cx.base W).I):HRel W (Cx.base W) []:=⟨fun b hb=>hb,fun id b hb=>by simp at hb,fun id id' b b' hb=>by simp at hb,ht⟩
theorem Reads.below{P:Program}{f:FuncId}{args:List AV}{b:Bool}(h:Reads P f args (bool b)){W:World}{vs:Array Value}(hv:VAs W (Cx.base W) [] args vs)(ht:TabR W (Cx.base W).I:=by exact⟨by intro G cs h;simp[tabC]at h,by intro G h;simp[tabE]at h⟩):
 Calls P f vs W fun e W'=>e= .returned (.bool b)∧Below W.heap.size W W':=
 (h W (Cx.base W) vs (base_rel W ht) hv).mono fun e W' ⟨v,u,X',H',h1,h2,h3,h4,h5⟩=>by
   have h5:v=bool b:=h5
   subst h5
   refine⟨by rw[h1,va_bool h2],h4.os,h4.tape,h4.output,h4.size,fun k hk=>(h4.imm k hk).2⟩
theorem vas_one{W:World}{X:Cx}{H:Heap}{x:AV}{v:Value}(h:VA W X H x v):VAs W X H [x] #[v]:=
 ⟨rfl,fun i hi=>by
   have:i=0:=by simpa using hi
   subst this;exact⟨v,rfl,h⟩⟩
section
variable{H:Type}{enc:TypeId×Value→H}{P:Program}{W:World}
theorem fl_ints(k:IntKind)(xs:List Int):fl (eI k) xs=xs.map (.int k):=by
 induction xs with
 |nil=>rfl
 |cons x xs ih=>simp only[fl,List.flatMap_cons,List.map_cons]at ih⊢;rw[ih];rfl
theorem read_ints{b0:Nat}{r:Reach}{t e:TypeId}{k:IntKind}{v:Value}{d:DataW H}{ps:List MemPlace}(ht:P.underlying t=some (.slice e))(he:P.underlying e=some (.int k))(hc:P.cellsOf e=1)
 (hval:Value.okWide P W r b0 t v) (h:DataW.Trod enc P W 0 (fun _=>true) true t v d ps):∃xs:List Int,VA W (Cx.base W) [] (rsl (eI k) xs) v∧xs.length≤9223372036854775807∧∀x∈xs,(Lit.int k x).wf=true:=by
 obtain⟨a,len,cap,rfl⟩:=okWide_slice ht hval
 obtain⟨fuel,hf⟩:=h
 rcases open_ints ht he hc hf with⟨hcs,_⟩|⟨x,l,c,zs,hcs,_,hl,hm,hz,_,hcell,hwz⟩
 · simp[Value.cells]at hcs
   obtain⟨rfl,rfl,rfl⟩:=hcs
   exact⟨[], .c _ _ (VF.sl0 none 0),by simp,by simp⟩
 · simp[Value.cells]at hcs
   obtain⟨rfl,rfl,rfl⟩:=hcs
   have hz:zs.length=cap:=by simpa using hz
   have hlen:(zs.take len).length=len:=by simp;omega
   refine⟨zs.take len, ?_,by rw[hlen];have:maxLen≤9223372036854775807:=by decide
                             omega,fun y hy=>hwz y (List.mem_of_mem_take hy)⟩
   by_cases h0:len=0
   · subst h0
     exact .c _ _ (VF.sl0 _ _)
   · have hlt:0<zs.length:=by omega
     have hsp:x.spot=none:=by
      have hx:=hcell 0 hlt
      simp only[World.cell?]at hx
      split at hx
      · split at hx
        · cases hx
        · rename_i hsp;simpa[Addr.add]using hsp
      · cases hx
     obtain⟨b,o,sp⟩:=x
     simp only at hsp
     subst hsp
     have hb:b<W.heap.size:=World.block_lt_of_cell? W _ (hcell 0 hlt)
     have:=VF.sl (w:=W) (I:=(Cx.base W).I) len (fl (eI k) (zs.take len)) b o cap (fun j=> .int k (zs.getD j 0)) hl hb (fun j hj=>by
      rw[fl_length,hlen]at hj
      have:=hcell j (by omega)
      simpa[add_plain]using this) (fun j hj=>by
      rw[fl_length,hlen]at hj
      have e:(fl (eI k) (zs.take len))[j]'(by rw[fl_length,hlen];exact hj)= .int k (zs.getD j 0):=by
       simp only[fl_ints,List.getElem_map,List.getElem_take]
       simp[List.getD,List.getElem?_eq_getElem (show j<zs.length by omega)]
      rw[e]
      exact VF.int _ _)
     exact .c _ _ (by rw[fsl,hlen];exact this)
end
end Go.Lg

namespace Go.Lg
open Go.Proofs
def gridText(xs:List Int)(n:Int):List UInt8:=if gridValid xs n then u8 (48+n)::58::xs.map chOf else[]
theorem gridValid_bound{xs:List Int}{n:Int}(h:gridValid xs n=true):2≤n∧n≤4∧(xs.length:Int)=n*n∧xs.length≤16∧∀j:Nat,j<xs.length→0≤nth xs j∧nth xs j≤n:=by
 simp only[gridValid,decide_eq_true_eq]at h
 refine⟨h.1,h.2.1,h.2.2.1, ?_,h.2.2.2⟩
 have:n=2∨n=3∨n=4:=by omega
 rcases this with rfl|rfl|rfl<;>omega
theorem GridText_run(xs:List Int)(n:Int)(hx:xs.length≤2^40):Reads Tryd.prog 57 [ints xs,int n] (txt (gridText xs n)):=by
 refine RunCall.cw (c:=_) Tryd.func57 rfl (n:=17) Tryd.ntmps57 (rs:=[.tmp 4]) rfl ?_
 simp only[List.length_cons,List.length_nil,zA,zS,List.replicate,List.cons_append,List.nil_append]
 simp(maxSteps:=999999)(disch:=omega)only[go_sem,zA,zM,zS,zE,zL]
 refine OpS.rd (GridValid_run xs n (by omega)) (⟨_,Tryd.func69,rfl,rfl⟩:Enters Tryd.prog 69) rfl rfl rfl rfl ?_
 simp(maxSteps:=999999)(disch:=omega)only[go_sem,zA,zM,zS,zE,zL]
 refine condK_split (fun h=> ?_) (fun h=> ?_)
 · simp(maxSteps:=999999)(disch:=omega)only[go_sem,zA,zM,zS,zE,zL]
   simp at h
   simp[gridText,h]
 have h:gridValid xs n=true:=by simpa using h
 obtain⟨h1,h2,h3,h4,h5⟩:=gridValid_bound h
 simp(maxSteps:=999999)(disch:=omega)only[go_sem,zA,zM,zS,zE,zL]
 refine drawP_q foll (by kernel_rfl) ?_
 simp(maxSteps:=999999)(disch:=omega)only[go_sem,Nat.reduceBEq,Bool.true_or,zA,zM,zS,zE,zL]
 refine quietW.rd (cellsText_run xs (by omega) fun j hj=>by have:=h5 j hj;omega) (⟨_,Tryd.func79,rfl,rfl⟩:Enters Tryd.prog 79) rfl rfl rfl rfl ?_
 simp(maxSteps:=999999)(disch:=omega)only[go_sem,zA,zM,zS,zE,zL]
 simp[gridText,h,show u8 58=58 from rfl]
theorem l1In_run(v a b:Int):Reads Tryd.prog 72 [int v,int a,int b] (bool (decide (a≤v∧v≤b))):=by
 refine RunCall.cw (c:=_) Tryd.func72 rfl (n:=15) Tryd.ntmps72 (rs:=[.tmp 6]) rfl ?_
 simp only[List.length_cons,List.length_nil,zA,zS,List.replicate,List.cons_append,List.nil_append]
 simp(maxSteps:=999999)(disch:=omega)only[go_sem,zA,zM,zS,zE,zL]
 refine guardK_split (fun h=> ?_) (fun h=> ?_)<;>simp(maxSteps:=999999)(disch:=omega)only[go_sem,zA,zM,zS,zE,zL,h]<;>simp at h<;>simp[h]
 omega
theorem sGridValid_run(xs:List Int)(n:Int)(hx:xs.length≤2^40):Reads Tryd.prog 59 [ints xs,int n] (bool (gridValid xs n)):=by
 refine RunCall.cw (c:=_) Tryd.func59 rfl (n:=29) Tryd.ntmps59 (rs:=[.tmp 4]) rfl ?_
 simp only[List.length_cons,List.length_nil,zA,zS,List.replicate,List.cons_append,List.nil_append]
 simp(maxSteps:=999999)(disch:=omega)only[go_sem,zA,zM,zS,zE,zL]
 refine loop_rule (fun i:Nat=>xs.length -i) (fun i=>i≤xs.length∧∀j:Nat,j<i→0≤nth xs j∧nth xs j≤n) (fun i=>[.k, .k, .a, .a, .a, .p (int i), .a, .a, .a, .a, .a, .a, .a, .a, .a, .a, .a, .a, .a, .a, .a, .a, .a, .a, .a, .a, .a, .a, .a]) (fun i=>[]) 0
  ⟨Nat.zero_le _,fun j hj=>absurd hj (Nat.not_lt_zero _)⟩ (by simp(maxSteps:=999999)(disch:=omega)only[go_sem,zA,zM,zS,zE,zL];rfl) (hle_nil _) ?_
 rintro i ⟨hi,hall⟩
 simp(maxSteps:=999999)(disch:=omega)only[go_sem,zA,zM,zS,zE,zL]
 refine condK_split (fun h=> ?_) (fun h=> ?_)
 · have h:i<xs.length:=by simpa using h
   simp(maxSteps:=999999)(disch:=omega)only[go_sem,zA,zM,zS,zE,zL]
   refine OpS.rd (l1In_run _ _ _) (⟨_,Tryd.func72,rfl,rfl⟩:Enters Tryd.prog 72) rfl rfl rfl rfl ?_
   simp(maxSteps:=999999)(disch:=omega)only[go_sem,zA,zM,zS,zE,zL]
   refine condK_split (fun h2=> ?_) (fun h2=> ?_)<;>simp(maxSteps:=999999)(disch:=omega)only[go_sem,zA,zM,zS,zE,zL]
   · simp at h2
     symm;simp[gridValid];intro _ _ _;exact⟨i,h,fun h=>by omega⟩
   simp at h2
   refine⟨i+1,⟨⟨h,fun j hj=> ?_⟩,by omega⟩,by omega,hle_nil _⟩
   rcases Nat.lt_succ_iff_lt_or_eq.1 hj with h|rfl
   · exact hall j h
   · exact h2
 have h:¬i<xs.length:=by simpa using h
 simp(maxSteps:=999999)(disch:=omega)only[go_sem,zA,zM,zS,zE,zL]
 refine OpS.rd (l1In_run _ _ _) (⟨_,Tryd.func72,rfl,rfl⟩:Enters Tryd.prog 72) rfl rfl rfl rfl ?_
 simp(maxSteps:=999999)(disch:=omega)only[go_sem,zA,zM,zS,zE,zL]
 refine guardK_split (fun h2=> ?_) (fun h2=> ?_)<;>simp(maxSteps:=999999)(disch:=omega)only[go_sem,zA,zM,zS,zE,zL,h2]
 · have h2:2≤n∧n≤4:=by simpa using h2
   have hw:4≤n*n∧n*n≤16:=by
    have:n=2∨n=3∨n=4:=by omega
    rcases this with rfl|rfl|rfl<;>decide
   simp(maxSteps:=999999)(disch:=omega)only[go_sem,zA,zM,zS,zE,zL]
   simp only[gridValid,h2,true_and,decide_eq_decide]
   exact⟨fun h3=>⟨h3,fun j hj=>hall j (by omega)⟩,fun h3=>h3.1⟩
 · simp at h2
   symm;simp[gridValid];omega
theorem sGridText_run(xs:List Int)(n:Int)(hx:xs.length≤2^40):Reads Tryd.prog 58 [ints xs,int n] (txt (gridText xs n)):=by
 refine RunCall.cw (c:=_) Tryd.func58 rfl (n:=41) Tryd.ntmps58 (rs:=[.tmp 4]) rfl ?_
 simp only[List.length_cons,List.length_nil,zA,zS,List.replicate,List.cons_append,List.nil_append]
 simp(maxSteps:=999999)(disch:=omega)only[go_sem,zA,zM,zS,zE,zL]
 refine OpS.rd (sGridValid_run xs n (by omega)) (⟨_,Tryd.func59,rfl,rfl⟩:Enters Tryd.prog 59) rfl rfl rfl rfl ?_
 simp(maxSteps:=999999)(disch:=omega)only[go_sem,zA,zM,zS,zE,zL]
 refine condK_split (fun h=> ?_) (fun h=> ?_)
 · simp(maxSteps:=999999)(disch:=omega)only[go_sem,zA,zM,zS,zE,zL]
   simp at h
   simp[gridText,h]
 have h:gridValid xs n=true:=by simpa using h
 obtain⟨h1,h2,h3,h4,h5⟩:=gridValid_bound h
 simp(maxSteps:=999999)(disch:=omega)only[go_sem,zA,zM,zS,zE,zL]
 intro g1
 refine loop_rule (fun i:Nat=>xs.length -i) (fun i=>i≤xs.length) (fun i=>[.k, .a, .a, .a, .a, .p (txt (u8 (48+n)::58::(xs.take i).map chOf)), .p (int i), .a, .a, .a, .a, .a, .a, .a, .a, .a, .a, .a, .a, .a, .a, .a, .a, .a, .a, .a, .a, .a, .a, .a, .a, .a, .a, .a, .a, .a, .a, .a, .a, .a, .a]) (fun _=>[]) 0
  (Nat.zero_le _) (by simp(maxSteps:=999999)(disch:=omega)only[go_sem,zA,zM,zS,zE,zL];rfl) (hle_nil _) ?_
 intro i hi
 simp(maxSteps:=999999)(disch:=omega)only[go_sem,zA,zM,zS,zE,zL]
 refine condK_split (fun h=> ?_) (fun h=> ?_)
 · have h:i<xs.length:=by simpa using h
   have h5:=h5 i h
   simp(maxSteps:=999999)(disch:=omega)only[go_sem,zA,zM,zS,zE,zL]
   refine condK_split (fun h6=> ?_) (fun h6=> ?_)<;>simp at h6<;>simp(maxSteps:=999999)(disch:=omega)only[go_sem,zA,zM,zS,zE,zL]
   · exact⟨i+1,⟨h,by omega⟩,⟨by rw[take_succ_nth h];simp[chOf,chI,h6];rfl,by omega⟩,hle_nil _⟩
   · intro g2
     exact⟨i+1,⟨h,by omega⟩,⟨by rw[take_succ_nth h];simp[chOf,chI,h6],by omega⟩,hle_nil _⟩
 have h:i=xs.length:=by have:¬i<xs.length:=by simpa using h
                        omega
 subst h
 simp(maxSteps:=999999)(disch:=omega)only[go_sem,zA,zM,zS,zE,zL]
 simp[gridText, *]
end Go.Lg
