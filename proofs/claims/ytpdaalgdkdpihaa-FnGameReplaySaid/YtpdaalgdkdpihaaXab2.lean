/- LgT, LgR, LgT3, LgV, cut to what is needed. -/
import Derived.Test.YtpdaalgdkdpihaaXab1
import Derived.ProofKit
import Derived.OpenShut
import Derived.ShutString
import Derived.ChangeOld
import Derived.SizedLaws
import Derived.ChangeSlices
import Derived.Carry
open Nat renaming reduceAdd→zA,reduceMul→zM,reduceSub→zS,reduceEqDiff→zE,reduceLeDiff→zL
set_option linter.unusedSimpArgs false
set_option linter.unusedVariables false
set_option maxRecDepth 100000
namespace Go.Lg
open Go.Proofs
theorem sizeOk_run(n:Int):Reads Try.prog 89 [int n] (bool (decide (2≤n∧n≤4))):=by
 refine RunCall.cw (c:=_) Try.func89 rfl (n:=9) Try.ntmps89 (rs:=[.tmp 2]) rfl ?_
 simp only[List.length_cons,List.length_nil,zA,zS,List.replicate,List.cons_append,List.nil_append]
 simp(maxSteps:=999999)(disch:=omega)only[go_sem,zA,zM,zS,zE,zL]
 refine guardK_split (fun h=> ?_) (fun h=> ?_)<;>simp(maxSteps:=999999)(disch:=omega)only[go_sem,zA,zM,zS,zE,zL,h]<;>simp at h<;>simp[h]
 omega
def gridValid(xs:List Int)(n:Int):Bool:=decide (2≤n∧n≤4∧(xs.length:Int)=n*n∧∀j,j<xs.length→0≤nth xs j∧nth xs j≤n)
theorem GridValid_run(xs:List Int)(n:Int)(hx:xs.length≤2^44):Reads Try.prog 69 [ints xs,int n] (bool (gridValid xs n)):=by
 refine RunCall.cw (c:=_) Try.func69 rfl (n:=32) Try.ntmps69 (rs:=[.tmp 4]) rfl ?_
 simp only[List.length_cons,List.length_nil,zA,zS,List.replicate,List.cons_append,List.nil_append]
 simp(maxSteps:=999999)(disch:=omega)only[go_sem,zA,zM,zS,zE,zL]
 refine OpS.rd (sizeOk_run n) (⟨_,Try.func89,rfl,rfl⟩:Enters Try.prog 89) rfl rfl rfl rfl ?_
 simp(maxSteps:=999999)(disch:=omega)only[go_sem,zA,zM,zS,zE,zL]
 refine guardK_split (fun h=> ?_) (fun h=> ?_)<;>simp(maxSteps:=999999)(disch:=omega)only[go_sem,zA,zM,zS,zE,zL,h]
 · simp at h
   simp[gridValid];omega
 have hn:2≤n∧n≤4:=by simpa using h
 have hw:4≤n*n∧n*n≤16:=by
  have:n=2∨n=3∨n=4:=by omega
  rcases this with rfl|rfl|rfl<;>decide
 simp(maxSteps:=999999)(disch:=omega)only[go_sem,zA,zM,zS,zE,zL]
 refine condK_split (fun h2=> ?_) (fun h2=> ?_)<;>simp(maxSteps:=999999)(disch:=omega)only[go_sem,zA,zM,zS,zE,zL]
 · simp at h2
   simp[gridValid,h2]
 have hl:(xs.length:Int)=n*n:=by simpa using h2
 refine loop_rule (fun i:Nat=>xs.length -i) (fun i=>i≤xs.length∧∀j,j<i→0≤nth xs j∧nth xs j≤n)
  (fun i=>[.a, .k, .a, .a, .a, .a, .a, .a, .a, .a, .a, .a, .a, .a, .a, .a, .a, .a, .k, .k, .p (int i), .a, .a, .a, .a, .a, .a, .a, .a, .a, .a, .a]) (fun _=>[]) 0 ⟨Nat.zero_le _,fun j hj=>absurd hj (Nat.not_lt_zero _)⟩ (by simp(maxSteps:=999999)(disch:=omega)only[go_sem,zA,zM,zS,zE,zL];rfl) (hle_nil _) ?_
 rintro i ⟨hi,hall⟩
 simp(maxSteps:=999999)(disch:=omega)only[go_sem,zA,zM,zS,zE,zL]
 refine condK_split (fun h3=> ?_) (fun h3=> ?_)
 · have h3:i<xs.length:=by simpa using h3
   simp(maxSteps:=999999)(disch:=omega)only[go_sem,zA,zM,zS,zE,zL]
   refine guardK_split (fun h4=> ?_) (fun h4=> ?_)<;>simp(maxSteps:=999999)(disch:=omega)only[go_sem,zA,zM,zS,zE,zL,h4]
   · simp at h4
     symm;simp[gridValid];intro _ _ _;exact⟨i,h3,fun h=>by omega⟩
   refine condK_split (fun h5=> ?_) (fun h5=> ?_)<;>simp(maxSteps:=999999)(disch:=omega)only[go_sem,zA,zM,zS,zE,zL]
   · simp at h5
     symm;simp[gridValid];intro _ _ _;exact⟨i,h3,fun h=>by omega⟩
   simp at h4 h5
   refine⟨i+1,⟨⟨h3,fun j hj=> ?_⟩,by omega⟩,by omega,hle_nil _⟩
   rcases Nat.lt_succ_iff_lt_or_eq.1 hj with h|rfl
   · exact hall j h
   · exact⟨h4,h5⟩
 simp(maxSteps:=999999)(disch:=omega)only[go_sem,zA,zM,zS,zE,zL]
 simp at h3
 symm;simp[gridValid]
 exact⟨hn.1,hn.2,hl,fun j hj=>hall j (by omega)⟩
end Go.Lg

namespace Go.Lg
open Go.ChangeShapes Go.WideShapes Go.ChangeAt Go.RowKit
open Go.ChangeMaps (open_string)
def Cx.base(W:World):Cx:=⟨fun _=>0,fun _=>0,fun b=>b<W.heap.size,0⟩
theorem base_rel(W:World)(ht:TabR W (Cx.base W).I):HRel W (Cx.base W) []:=⟨fun b hb=>hb,fun id b hb=>by simp at hb,fun id id' b b' hb=>by simp at hb,ht⟩
theorem Reads.below{P:Program}{f:FuncId}{args:List AV}{b:Bool}(h:Reads P f args (bool b)){W:World}{vs:Array Value}(hv:VAs W (Cx.base W) [] args vs)(ht:TabR W (Cx.base W).I:=⟨by intro G cs h;simp[tabC]at h,by intro G h;simp[tabE]at h⟩):
 Calls P f vs W fun e W'=>e= .returned (.bool b)∧Below W.heap.size W W':=
 (h W (Cx.base W) vs (base_rel W ht) hv).mono fun e W' ⟨v,u,X',H',h1,h2,h3,h4,h5⟩=>by
   have h5:v=bool b:=h5
   subst h5
   refine⟨by rw[h1,va_bool h2],h4.os,h4.tape,h4.output,h4.size,fun k hk=>(h4.imm k hk).2⟩
theorem vas_one{W:World}{X:Cx}{H:Heap}{x:AV}{v:Value}(h:VA W X H x v):VAs W X H [x] #[v]:=
 ⟨rfl,fun i hi=>by
   have:i=0:=by simpa using hi
   subst this;exact⟨v,rfl,h⟩⟩
section
variable{H:Type}{enc:TypeId×Value→H}{P:Program}{W:World}
theorem fl_ints(k:IntKind)(xs:List Int):fl (eI k) xs=xs.map (.int k):=by
 induction xs with
 |nil=>rfl
 |cons x xs ih=>simp only[fl,List.flatMap_cons,List.map_cons]at ih⊢;rw[ih];rfl
theorem read_ints{b0:Nat}{r:Reach}{t e:TypeId}{k:IntKind}{v:Value}{d:DataW H}{ps:List MemPlace}(ht:P.underlying t=some (.slice e))(he:P.underlying e=some (.int k))(hc:P.cellsOf e=1)
 (hval:Value.okWide P W r b0 t v) (h:DataW.Trod enc P W 0 (fun _=>true) true t v d ps):∃xs:List Int,VA W (Cx.base W) [] (rsl (eI k) xs) v∧xs.length≤9223372036854775807∧∀x∈xs,(Lit.int k x).wf=true:=by
 obtain⟨a,len,cap,rfl⟩:=okWide_slice ht hval
 obtain⟨fuel,hf⟩:=h
 rcases open_ints ht he hc hf with⟨hcs,_⟩|⟨x,l,c,zs,hcs,_,hl,hm,hz,_,hcell,hwz⟩
 · simp[Value.cells]at hcs
   obtain⟨rfl,rfl,rfl⟩:=hcs
   exact⟨[], .c _ _ (VF.sl0 none 0),by simp,by simp⟩
 · simp[Value.cells]at hcs
   obtain⟨rfl,rfl,rfl⟩:=hcs
   have hz:zs.length=cap:=by simpa using hz
   have hlen:(zs.take len).length=len:=by simp;omega
   refine⟨zs.take len, ?_,by rw[hlen];have:maxLen≤9223372036854775807:=by decide
                             omega,fun y hy=>hwz y (List.mem_of_mem_take hy)⟩
   by_cases h0:len=0
   · subst h0
     exact .c _ _ (VF.sl0 _ _)
   · have hlt:0<zs.length:=by omega
     have hsp:x.spot=none:=by
      have hx:=hcell 0 hlt
      simp only[World.cell?]at hx
      split at hx
      · split at hx
        · cases hx
        · rename_i hsp;simpa[Addr.add]using hsp
      · cases hx
     obtain⟨b,o,sp⟩:=x
     simp only at hsp
     subst hsp
     have hb:b<W.heap.size:=World.block_lt_of_cell? W _ (hcell 0 hlt)
     have:=VF.sl (w:=W) (I:=(Cx.base W).I) len (fl (eI k) (zs.take len)) b o cap (fun j=> .int k (zs.getD j 0)) hl hb (fun j hj=>by
      rw[fl_length,hlen]at hj
      have:=hcell j (by omega)
      simpa[add_plain]using this) (fun j hj=>by
      rw[fl_length,hlen]at hj
      have e:(fl (eI k) (zs.take len))[j]'(by rw[fl_length,hlen];exact hj)= .int k (zs.getD j 0):=by
       simp only[fl_ints,List.getElem_map,List.getElem_take]
       simp[List.getD,List.getElem?_eq_getElem (show j<zs.length by omega)]
      rw[e]
      exact VF.int _ _)
     exact .c _ _ (by rw[fsl,hlen];exact this)
end
end Go.Lg

namespace Go.Lg
open Go.Proofs
theorem gridValid_bound{xs:List Int}{n:Int}(h:gridValid xs n=true):2≤n∧n≤4∧(xs.length:Int)=n*n∧xs.length≤16∧∀j:Nat,j<xs.length→0≤nth xs j∧nth xs j≤n:=by
 simp only[gridValid,decide_eq_true_eq]at h
 refine⟨h.1,h.2.1,h.2.2.1, ?_,h.2.2.2⟩
 have:n=2∨n=3∨n=4:=by omega
 rcases this with rfl|rfl|rfl<;>omega
theorem l1In_run(v a b:Int):Reads Try.prog 63 [int v,int a,int b] (bool (decide (a≤v∧v≤b))):=by
 refine RunCall.cw (c:=_) Try.func63 rfl (n:=15) Try.ntmps63 (rs:=[.tmp 6]) rfl ?_
 simp only[List.length_cons,List.length_nil,zA,zS,List.replicate,List.cons_append,List.nil_append]
 simp(maxSteps:=999999)(disch:=omega)only[go_sem,zA,zM,zS,zE,zL]
 refine guardK_split (fun h=> ?_) (fun h=> ?_)<;>simp(maxSteps:=999999)(disch:=omega)only[go_sem,zA,zM,zS,zE,zL,h]<;>simp at h<;>simp[h]
 omega
theorem sGridValid_run(xs:List Int)(n:Int)(hx:xs.length≤2^40):Reads Try.prog 68 [ints xs,int n] (bool (gridValid xs n)):=by
 refine RunCall.cw (c:=_) Try.func68 rfl (n:=29) Try.ntmps68 (rs:=[.tmp 4]) rfl ?_
 simp only[List.length_cons,List.length_nil,zA,zS,List.replicate,List.cons_append,List.nil_append]
 simp(maxSteps:=999999)(disch:=omega)only[go_sem,zA,zM,zS,zE,zL]
 refine loop_rule (fun i:Nat=>xs.length -i) (fun i=>i≤xs.length∧∀j:Nat,j<i→0≤nth xs j∧nth xs j≤n) (fun i=>[.k, .k, .a, .a, .a, .p (int i), .a, .a, .a, .a, .a, .a, .a, .a, .a, .a, .a, .a, .a, .a, .a, .a, .a, .a, .a, .a, .a, .a, .a]) (fun i=>[]) 0
  ⟨Nat.zero_le _,fun j hj=>absurd hj (Nat.not_lt_zero _)⟩ (by simp(maxSteps:=999999)(disch:=omega)only[go_sem,zA,zM,zS,zE,zL];rfl) (hle_nil _) ?_
 rintro i ⟨hi,hall⟩
 simp(maxSteps:=999999)(disch:=omega)only[go_sem,zA,zM,zS,zE,zL]
 refine condK_split (fun h=> ?_) (fun h=> ?_)
 · have h:i<xs.length:=by simpa using h
   simp(maxSteps:=999999)(disch:=omega)only[go_sem,zA,zM,zS,zE,zL]
   refine OpS.rd (l1In_run _ _ _) (⟨_,Try.func63,rfl,rfl⟩:Enters Try.prog 63) rfl rfl rfl rfl ?_
   simp(maxSteps:=999999)(disch:=omega)only[go_sem,zA,zM,zS,zE,zL]
   refine condK_split (fun h2=> ?_) (fun h2=> ?_)<;>simp(maxSteps:=999999)(disch:=omega)only[go_sem,zA,zM,zS,zE,zL]
   · simp at h2
     symm;simp[gridValid];intro _ _ _;exact⟨i,h,fun h=>by omega⟩
   simp at h2
   refine⟨i+1,⟨⟨h,fun j hj=> ?_⟩,by omega⟩,by omega,hle_nil _⟩
   rcases Nat.lt_succ_iff_lt_or_eq.1 hj with h|rfl
   · exact hall j h
   · exact h2
 have h:¬i<xs.length:=by simpa using h
 simp(maxSteps:=999999)(disch:=omega)only[go_sem,zA,zM,zS,zE,zL]
 refine OpS.rd (l1In_run _ _ _) (⟨_,Try.func63,rfl,rfl⟩:Enters Try.prog 63) rfl rfl rfl rfl ?_
 simp(maxSteps:=999999)(disch:=omega)only[go_sem,zA,zM,zS,zE,zL]
 refine guardK_split (fun h2=> ?_) (fun h2=> ?_)<;>simp(maxSteps:=999999)(disch:=omega)only[go_sem,zA,zM,zS,zE,zL,h2]
 · have h2:2≤n∧n≤4:=by simpa using h2
   have hw:4≤n*n∧n*n≤16:=by
    have:n=2∨n=3∨n=4:=by omega
    rcases this with rfl|rfl|rfl<;>decide
   simp(maxSteps:=999999)(disch:=omega)only[go_sem,zA,zM,zS,zE,zL]
   simp only[gridValid,h2,true_and,decide_eq_decide]
   exact⟨fun h3=>⟨h3,fun j hj=>hall j (by omega)⟩,fun h3=>h3.1⟩
 · simp at h2
   symm;simp[gridValid];omega
end Go.Lg

namespace Go.Lg
open Go.ChangeShapes Go.WideShapes Go.ChangeAt Go.RowKit
def CsF(w:World)(I:Nat→Prop)(ys:List FV)(cs:List Value):Prop:=
 ys.length=cs.length∧∀j (h:j<ys.length),∃u,cs[j]? =some u∧VF w I ys[j] u
section
variable{w:World}{I:Nat→Prop}
theorem CsF.nil:CsF w I [] []:=⟨rfl,fun j h=>absurd h (Nat.not_lt_zero _)⟩
theorem CsF.one{y:FV}{v:Value}(h:VF w I y v):CsF w I [y] [v]:=⟨rfl,fun j hj=>by
 have:j=0:=by simpa using hj
 subst this;exact⟨v,rfl,h⟩⟩
theorem CsF.app{ys ys':List FV}{cs cs':List Value}(h:CsF w I ys cs)(h':CsF w I ys' cs'):CsF w I (ys++ys') (cs++cs'):=by
 refine⟨by simp[h.1,h'.1],fun j hj=> ?_⟩
 by_cases hl:j<ys.length
 · obtain⟨u,h1,h2⟩:=h.2 j hl
   refine⟨u,by rw[List.getElem?_append_left (by rw[←h.1];exact hl)];exact h1, ?_⟩
   rw[List.getElem_append_left hl];exact h2
 · have hj':j -ys.length<ys'.length:=by simp at hj;omega
   obtain⟨u,h1,h2⟩:=h'.2 _ hj'
   refine⟨u,by rw[List.getElem?_append_right (by rw[←h.1];omega),←h.1];exact h1, ?_⟩
   rw[List.getElem_append_right (by omega)];exact h2
end
section
variable{H:Type}{enc:TypeId×Value→H}{P:Program}{W:World}
theorem CsF.agg{ys:List FV}{cs:Array Value}(h:CsF W (Cx.base W).I ys cs.toList):VA W (Cx.base W) [] (.agg (ys.map .f)) (.agg cs):=by
 refine .agg _ _ (by simpa using h.1.symm) fun j hj=> ?_
 have hj':j<ys.length:=by simpa using hj
 obtain⟨u,h1,h2⟩:=h.2 j hj'
 refine⟨u,by simpa using h1, ?_⟩
 rw[List.getElem_map];exact h2
theorem CsF.val{y:FV}{v:Value}(h:CsF W (Cx.base W).I [y] [v]):VA W (Cx.base W) [] (.c (.f y)) v:=by
 obtain⟨u,h1,h2⟩:=h.2 0 (by simp)
 have:v=u:=by simpa using h1
 subst this
 exact .c _ _ h2
end
end Go.Lg
