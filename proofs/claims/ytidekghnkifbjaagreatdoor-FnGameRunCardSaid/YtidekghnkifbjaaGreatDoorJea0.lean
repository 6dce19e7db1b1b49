/- LgA, LgB, LgC, LgD, cut to what is needed. -/
import Derived.Calls
import Derived.Tactics
import Derived.Deep.Quiet
import Derived.Below
import Derived.WalkKit
import Derived.Laws.Cells
import Derived.Laws.Rows
import Derived.Laws.CopyRow
import Derived.Laws.BytesArg
import Derived.Laws.StructEq
import Derived.Laws.Small
import Derived.Lib.SliceRun
import Derived.WalkSpells
open List renaming getElem?_eq_some_iff → Jh, getElem?_eq_getElem → Jq, getElem?_eq_none → Jx, length_take → JP, mapM_cons → J4, length_map → Qs, getElem?_map → Qv, length_drop → Ut
open Nat renaming reduceAdd→zA,reduceMul→zM,reduceSub→zS,reduceEqDiff→zE,reduceLeDiff→zL
namespace Go.Lg
inductive FV where
 |int (k:IntKind) (n:Int)
 |bool (b:Bool)
 |str (s:ByteArray)
 |nil
 |sl (n:Nat) (cs:List FV)
 deriving Inhabited
inductive CV where
 |f (x:FV)
 |fp (cs:List FV) (off:Nat)
 |nilp
 |ptr (id g off:Nat)
 |own (id g off n:Nat) (lim:Option Nat)
 |fn (f:FuncId) (caps:List (Nat×Nat))
 |nilf
 |emp
 deriving Inhabited
inductive AV where
 |c (x:CV)
 |agg (cs:List CV)
 |tup (vs:List AV)
 |void
 |any
 deriving Inhabited
structure Zv where
 g:Nat
 sz:Nat
 cs:List CV
abbrev Jm:=List (Option Zv)
def look(H:Jm)(id g:Nat):Option Zv:=
 match H[id]? with
 |some (some b)=>if b.g=g then some b else none
 |_=>none
theorem JG{H:Jm}{id g:Nat}{b:Zv}(h:look H id g=some b):H[id]? =some (some b)∧b.g=g:=by
 unfold look at h
 split at h
 · rename_i b' hb
   split at h
   · rename_i hg
     cases h
     exact⟨hb,hg⟩
   · cases h
 · cases h
theorem J8{H:Jm}{id:Nat}{b:Zv}(h:H[id]? =some (some b)):look H id b.g=some b:=by
 unfold look
 rw[h]
 simp
structure Cx where
 mu:Nat→Nat
 sz:Nat→Nat
 I:Nat→Prop
 t:Nat
inductive VF(w:World)(I:Nat→Prop):FV→Value→Prop where
 |int (k:IntKind) (n:Int):VF w I (.int k n) (.int k n)
 |bool (b:Bool):VF w I (.bool b) (.bool b)
 |str (s:ByteArray):VF w I (.str s) (.string s)
 |nil:VF w I .nil (.slice none 0 0)
 |sl0 (a:Option Addr) (cap:Nat):VF w I (.sl 0 []) (.slice a 0 cap)
 |sl (n:Nat) (cs:List FV) (b o cap:Nat) (u:Nat→Value) (hc:n≤cap) (hI:I b)
   (hu:∀j,j<cs.length→w.cell? ⟨b,o+j,none⟩=some (u j)) (hv:∀j (h:j<cs.length),VF w I cs[j] (u j)):
   VF w I (.sl n cs) (.slice (some ⟨b,o,none⟩) n cap)
def FC(w:World)(I:Nat→Prop)(cs:List FV)(b o:Nat):Prop:=
 ∀j (h:j<cs.length),∃u,w.cell? ⟨b,o+j,none⟩=some u∧VF w I cs[j] u
def VC(w:World)(X:Cx)(H:Jm):CV→Value→Prop
 | .f x,v=>VF w X.I x v
 | .fp cs off,v=>∃b o,v= .pointer (some ⟨b,o+off,none⟩)∧X.I b∧FC w X.I cs b o
 | .nilp,v=>v= .pointer none
 | .ptr id g off,v=>g<X.t∧v.oneCell'=true∧((look H id g).isSome→v= .pointer (some ⟨X.mu g,off,none⟩))
 | .own id g off n lim,v=>g<X.t∧v.oneCell'=true∧∀blk,look H id g=some blk→off+n*blk.sz≤blk.cs.length∧
    ∃a cap,v= .slice (some a) n cap∧n≤cap∧(cap≠0→a=⟨X.mu g,off,none⟩)∧off+cap*blk.sz≤X.sz g∧
     (match lim with|none=>blk.cs.length≤off+cap*blk.sz|some c=>cap=c)
 | .fn f caps,v=>(∀c∈caps,c.2<X.t)∧v.oneCell'=true∧((∀c∈caps,(look H c.1 c.2).isSome)→
    v= .func (.func f) #[] (caps.map fun c=>Value.pointer (some ⟨X.mu c.2,0,none⟩)).toArray)
 | .nilf,v=>v= .nilFunc
 | .emp,v=>∃a:Option Addr,v= .slice a 0 0
def Jgb:Nat→Option (List FV):=fun G=>if G=0 then some [.int .u64 1, .int .u64 10, .int .u64 100, .int .u64 1000, .int .u64 10000, .int .u64 100000, .int .u64 1000000, .int .u64 10000000, .int .u64 100000000, .int .u64 1000000000, .int .u64 10000000000, .int .u64 100000000000, .int .u64 1000000000000, .int .u64 10000000000000, .int .u64 100000000000000, .int .u64 1000000000000000, .int .u64 10000000000000000, .int .u64 100000000000000000, .int .u64 1000000000000000000, .int .u64 10000000000000000000]else none
def Jkd:Nat→Bool:=fun _=>false
def fvV:FV→Value
 | .int k n=> .int k n
 | .bool b=> .bool b
 | .str s=> .string s
 |_=>undef
def JlZ:FV→Bool
 | .int _ _| .bool _| .str _=>true
 |_=>false
def N8(w:World)(I:Nat→Prop):Prop:=(∀G cs,Jgb G=some cs→I G∧cs.all JlZ=true∧∃cc t o,w.heap[G]? =some (.cells cc t o)∧cc.toList=cs.map fvV)∧
 ∀G,Jkd G=true→I G∧∃t o v,w.heap[G]? =some (.cells #[v] t o)∧(v= .nilIface∨∃te pe,v= .iface te pe)
structure ZL(w:World)(X:Cx)(H:Jm):Prop where
 imm:∀b,X.I b→b<w.heap.size
 blk:∀(id:Nat) (b:Zv),H[id]? =some (some b)→b.g<X.t∧¬X.I (X.mu b.g)∧∃cc t,w.heap[X.mu b.g]? =some (.cells cc t (0,0))∧
  cc.size=X.sz b.g∧b.cs.length≤cc.size∧∀j (h:j<b.cs.length),∃u,cc[j]? =some u∧VC w X H b.cs[j] u
 inj:∀(id id':Nat) (b b':Zv),H[id]? =some (some b)→H[id']? =some (some b')→X.mu b.g=X.mu b'.g→id=id'
 tab:N8 w X.I
inductive VA(w:World)(X:Cx)(H:Jm):AV→Value→Prop where
 |c (x:CV) (v:Value) (h:VC w X H x v):VA w X H (.c x) v
 |agg (cs:List CV) (vs:Array Value) (hs:vs.size=cs.length) (h:∀j (h:j<cs.length),∃u,vs[j]? =some u∧VC w X H cs[j] u):VA w X H (.agg cs) (.agg vs)
 |tup (vs:List AV) (us:Nat→Value) (h:∀j (h:j<vs.length),VA w X H vs[j] (us j)):VA w X H (.tup vs) (.tuple ((List.range vs.length).map us).toArray)
 |void:VA w X H .void undef
 |any (v:Value):VA w X H .any v
def Sub(t:Nat)(H H':Jm):Prop:=
 ∀(id g:Nat) (b':Zv),g<t→look H' id g=some b'→∃b,look H id g=some b∧b.cs.length=b'.cs.length∧b.sz=b'.sz
def Kc(X:Cx)(H:Jm)(b:Nat):Prop:=∃(id:Nat) (blk:Zv),H[id]? =some (some blk)∧X.mu blk.g=b
structure Ev(w:World)(X:Cx)(H:Jm)(w':World)(X':Cx)(H':Jm):Prop where
 imm:∀b,X.I b→X'.I b∧w'.heap[b]? =w.heap[b]?
 t:X.t≤X'.t
 mu:∀g,g<X.t→X'.mu g=X.mu g∧X'.sz g=X.sz g
 size:w.heap.size≤w'.heap.size
 os:w'.os=w.os
 tape:w'.tape=w.tape
 output:w'.output=w.output
 sub:Sub X.t H H'
 frame:∀b,b<w.heap.size→¬Kc X H b→w'.heap[b]? =w.heap[b]?
 own:∀b,Kc X' H' b→Kc X H b∨w.heap.size≤b
 inI:∀b,X'.I b→X.I b∨Kc X H b∨w.heap.size≤b
theorem Sub.refl(t:Nat)(H:Jm):Sub t H H:=fun _ _ b' _ h=>⟨b',h,rfl,rfl⟩
theorem Sub.trans{t t':Nat}{H H' H'':Jm}(h:Sub t H H')(ht:t≤t')(h':Sub t' H' H''):Sub t H H'':=by
 intro id g b hg hl
 obtain⟨b',hl',e1,e2⟩:=h' id g b (by omega) hl
 obtain⟨b'',hl'',e3,e4⟩:=h id g b' hg hl'
 exact⟨b'',hl'',e3.trans e1,e4.trans e2⟩
theorem Ev.refl(w:World)(X:Cx)(H:Jm):Ev w X H w X H:=
 ⟨fun _ h=>⟨h,rfl⟩,Nat.le_refl _,fun _ _=>⟨rfl,rfl⟩,Nat.le_refl _,rfl,rfl,rfl,Sub.refl _ _,fun _ _ _=>rfl,fun _ h=> .inl h,fun _ h=> .inl h⟩
theorem Ev.trans{w w' w'':World}{X X' X'':Cx}{H H' H'':Jm}(h:Ev w X H w' X' H')(k:Ev w' X' H' w'' X'' H''):Ev w X H w'' X'' H'':=
 ⟨fun b hb=>⟨(k.imm b (h.imm b hb).1).1,((k.imm b (h.imm b hb).1).2).trans (h.imm b hb).2⟩,Nat.le_trans h.t k.t,
  fun g hg=>⟨((k.mu g (Nat.lt_of_lt_of_le hg h.t)).1).trans (h.mu g hg).1,((k.mu g (Nat.lt_of_lt_of_le hg h.t)).2).trans (h.mu g hg).2⟩,
  Nat.le_trans h.size k.size,k.os.trans h.os,k.tape.trans h.tape,k.output.trans h.output,h.sub.trans h.t k.sub,
  fun b hb hn=>(k.frame b (Nat.lt_of_lt_of_le hb h.size) fun ho=>(h.own b ho).elim hn (fun hl=>absurd hb (Nat.not_lt.2 hl))).trans (h.frame b hb hn),
  fun b hb=>(k.own b hb).elim (h.own b) fun hl=> .inr (Nat.le_trans h.size hl),
  fun b hb=>(k.inI b hb).elim (h.inI b) fun hl=>hl.elim (fun ho=> .inr (h.own b ho)) fun hl=> .inr (.inr (Nat.le_trans h.size hl))⟩
theorem RA{w w':World}{b:Nat}(h:w'.heap[b]? =w.heap[b]?)(o:Nat):w'.cell? ⟨b,o,none⟩=w.cell? ⟨b,o,none⟩:=by
 simp only[World.cell?,h]
theorem VF.mono{w w':World}{I I':Nat→Prop}(h:∀b,I b→I' b∧w'.heap[b]? =w.heap[b]?){x:FV}{v:Value}(hv:VF w I x v):VF w' I' x v:=by
 induction hv with
 |int k n=>exact .int k n
 |bool b=>exact .bool b
 |str s=>exact .str s
 |nil=>exact .nil
 |sl0 a cap=>exact .sl0 a cap
 |sl n cs b o cap u hc hI hu hv ih=>
  exact .sl n cs b o cap u hc (h b hI).1 (fun j hj=>by rw[RA (h b hI).2];exact hu j hj) ih
theorem FC.mono{w w':World}{I I':Nat→Prop}(h:∀b,I b→I' b∧w'.heap[b]? =w.heap[b]?){cs:List FV}{b o:Nat}(hb:I b)(hv:FC w I cs b o):FC w' I' cs b o:=by
 intro j hj
 obtain⟨u,h1,h2⟩:=hv j hj
 exact⟨u,by rw[RA (h b hb).2];exact h1,h2.mono h⟩
theorem N8.mono{w w':World}{I I':Nat→Prop}(k:N8 w I)(h:∀b,I b→I' b∧w'.heap[b]? =w.heap[b]?):N8 w' I':=
 ⟨fun G cs hc=>by
   obtain⟨k1,k2,cc,t,o,k3,k4⟩:=k.1 G cs hc
   exact⟨(h G k1).1,k2,cc,t,o,by rw[(h G k1).2];exact k3,k4⟩,fun G hG=>by
   obtain⟨k1,t,o,v,k3,k4⟩:=k.2 G hG
   exact⟨(h G k1).1,t,o,v,by rw[(h G k1).2];exact k3,k4⟩⟩
theorem N8.fc{w:World}{I:Nat→Prop}(k:N8 w I){G:Nat}{cs:List FV}(hc:Jgb G=some cs):I G∧FC w I cs G 0:=by
 obtain⟨k1,k2,cc,t,o,k3,k4⟩:=k.1 G cs hc
 refine⟨k1,fun j hj=>⟨fvV cs[j], ?_, ?_⟩⟩
 · have hl:cc.size=cs.length:=by rw[←Array.length_toList,k4,Qs]
   have e:cc[j]? =some (fvV cs[j]):=by
    rw[←Array.getElem?_toList,k4,Qv,Jq hj];rfl
   simp only[World.cell?,k3,Nat.zero_add]
   simpa using e
 · have:=List.all_eq_true.1 k2 _ (List.getElem_mem hj)
   generalize cs[j]=x at this
   cases x with
   |int k n=>exact .int k n
   |bool b=>exact .bool b
   |str s=>exact .str s
   |nil=>cases this
   |sl n l=>cases this
theorem VC.mono{w w':World}{X X':Cx}{H H':Jm}(e:Ev w X H w' X' H'){x:CV}{v:Value}(h:VC w X H x v):VC w' X' H' x v:=by
 cases x with
 |f x=>exact VF.mono e.imm h
 |fp cs off=>
  obtain⟨b,o,h1,h2,h3⟩:=h
  exact⟨b,o,h1,(e.imm b h2).1,FC.mono e.imm h2 h3⟩
 |nilp=>exact h
 |ptr id g off=>
  obtain⟨h1,h3,h2⟩:=h
  refine⟨Nat.lt_of_lt_of_le h1 e.t,h3,fun hl=> ?_⟩
  obtain⟨b',hb'⟩:=Option.isSome_iff_exists.1 hl
  obtain⟨b,hb,_⟩:=e.sub id g b' h1 hb'
  rw[(e.mu g h1).1]
  exact h2 (by rw[hb];rfl)
 |own id g off n lim=>
  obtain⟨h1,h3,h2⟩:=h
  refine⟨Nat.lt_of_lt_of_le h1 e.t,h3,fun b' hb'=> ?_⟩
  obtain⟨b,hb,e1,e2⟩:=e.sub id g b' h1 hb'
  rw[(e.mu g h1).1,(e.mu g h1).2,←e1,←e2]
  exact h2 b hb
 |fn f caps=>
  obtain⟨h1,h3,h2⟩:=h
  refine⟨fun c hc=>Nat.lt_of_lt_of_le (h1 c hc) e.t,h3,fun hl=> ?_⟩
  have:=h2 (fun c hc=>by
   obtain⟨b',hb'⟩:=Option.isSome_iff_exists.1 (hl c hc)
   obtain⟨b,hb,_⟩:=e.sub c.1 c.2 b' (h1 c hc) hb'
   rw[hb];rfl)
  rw[this]
  congr 2
  exact List.map_congr_left fun c hc=>by rw[(e.mu c.2 (h1 c hc)).1]
 |nilf=>exact h
 |emp=>exact h
theorem VF.one{w:World}{I:Nat→Prop}{x:FV}{v:Value}(h:VF w I x v):v.oneCell'=true:=by
 cases h<;>rfl
theorem VC.one{w:World}{X:Cx}{H:Jm}{x:CV}{v:Value}(h:VC w X H x v):v.oneCell'=true:=by
 cases x with
 |f x=>exact VF.one h
 |fp cs off=>obtain⟨b,o,rfl,_⟩:=h;rfl
 |nilp=>cases h;rfl
 |ptr id g off=>exact h.2.1
 |own id g off n lim=>exact h.2.1
 |fn f caps=>exact h.2.1
 |nilf=>cases h;rfl
 |emp=>obtain⟨a,rfl⟩:=h;rfl
theorem VA.mono{w w':World}{X X':Cx}{H H':Jm}(e:Ev w X H w' X' H'){x:AV}{v:Value}(h:VA w X H x v):VA w' X' H' x v:=by
 induction h with
 |c x v h=>exact .c x v (h.mono e)
 |agg cs vs hs h=>exact .agg cs vs hs fun j hj=>let⟨u,h1,h2⟩:=h j hj;⟨u,h1,h2.mono e⟩
 |tup vs us h ih=>exact .tup vs us ih
 |void=>exact .void
 |any v=>exact .any v
structure Z6(w w':World):Prop where
 blk:∀b,b<w.heap.size→w'.heap[b]? =w.heap[b]?
 size:w.heap.size≤w'.heap.size
 os:w'.os=w.os
 tape:w'.tape=w.tape
 output:w'.output=w.output
theorem Z6.refl(w:World):Z6 w w:=⟨fun _ _=>rfl,Nat.le_refl _,rfl,rfl,rfl⟩
theorem Z6.trans{w w' w'':World}(h:Z6 w w')(k:Z6 w' w''):Z6 w w'':=
 ⟨fun b hb=>(k.blk b (Nat.lt_of_lt_of_le hb h.size)).trans (h.blk b hb),Nat.le_trans h.size k.size,k.os.trans h.os,k.tape.trans h.tape,k.output.trans h.output⟩
theorem Z6.cell{w w':World}(h:Z6 w w'){a:Addr}{u:Value}(hc:w.cell? a=some u):w'.cell? a=some u:=by
 have hb:a.block<w.heap.size:=World.block_lt_of_cell? w a hc
 simp only[World.cell?,h.blk _ hb]at hc⊢
 exact hc
theorem Z6.ev{w w':World}(h:Z6 w w'){X:Cx}{H:Jm}(R:ZL w X H):Ev w X H w' X H:=
 ⟨fun b hb=>⟨hb,h.blk b (R.imm b hb)⟩,Nat.le_refl _,fun _ _=>⟨rfl,rfl⟩,h.size,h.os,h.tape,h.output,Sub.refl _ _,fun b hb _=>h.blk b hb,fun _ h=> .inl h,fun _ h=> .inl h⟩
theorem Z6.rel{w w':World}(h:Z6 w w'){X:Cx}{H:Jm}(R:ZL w X H):ZL w' X H:=
 ⟨fun b hb=>Nat.lt_of_lt_of_le (R.imm b hb) h.size,fun id b hb=>by
   obtain⟨h1,h2,cc,t,h3,h4,h5,h6⟩:=R.blk id b hb
   exact⟨h1,h2,cc,t,by rw[h.blk _ (Array.getElem?_eq_some_iff.1 h3).1];exact h3,h4,h5,fun j hj=>let⟨u,k1,k2⟩:=h6 j hj;⟨u,k1,k2.mono (h.ev R)⟩⟩,R.inj,R.tab.mono fun b hb=>⟨hb,h.blk b (R.imm b hb)⟩⟩
structure St where
 s:List AV
 h:Jm
structure XC(w:World)(X:Cx)(a:Act)(st:St):Prop where
 defs:a.defers=[]
 size:a.tmps.size=st.s.length
 slot:∀i (h:i<st.s.length),∃u,a.tmps[i]? =some u∧VA w X st.h st.s[i] u
 heap:ZL w X st.h
theorem Z6.st{w w':World}(h:Z6 w w'){X:Cx}{a:Act}{st:St}(R:XC w X a st):XC w' X a st:=
 ⟨R.defs,R.size,fun i hi=>let⟨u,h1,h2⟩:=R.slot i hi;⟨u,h1,h2.mono (h.ev R.heap)⟩,h.rel R.heap⟩
def QH(P:Program)(c:Code)(st:St)(Q:Exit→St→Prop):Prop:=
 ∀w X a,XC w X a st→c.wp P (fun e a' w'=>∃X' st',XC w' X' a' st'∧Ev w X st.h w' X' st'.h∧Q e st') a w
def VAs(w:World)(X:Cx)(H:Jm)(xs:List AV)(vs:Array Value):Prop:=
 vs.size=xs.length∧∀i (h:i<xs.length),∃u,vs[i]? =some u∧VA w X H xs[i] u
def Jn(P:Program)(f:FuncId)(args:List AV)(H:Jm)(Q:AV→Jm→Prop):Prop:=
 ∀w X vs,ZL w X H→VAs w X H args vs→
  Calls P f vs w fun e w'=>∃v u X' H',e= .returned u∧VA w' X' H' v u∧ZL w' X' H'∧Ev w X H w' X' H'∧Q v H'
end Go.Lg

set_option linter.unusedSimpArgs false
set_option linter.unusedVariables false
namespace Go.Lg
def JeP:Value→Option CV
 | .int k n=>some (.f (.int k n))
 | .bool b=>some (.f (.bool b))
 | .string s=>some (.f (.str s))
 | .slice none 0 0=>some (.f .nil)
 | .pointer none=>some .nilp
 | .nilFunc=>some .nilf
 |_=>none
def JmA(v:Value):AV:=
 match v with
 | .agg cs=>match cs.toList.mapM JeP with
   |some l=> .agg l
   |none=> .any
 |v=>match JeP v with
  |some c=> .c c
  |none=> .any
theorem RZ{w:World}{X:Cx}{H:Jm}{v:Value}{x:CV}(h:JeP v=some x):VC w X H x v:=by
 unfold JeP at h
 split at h<;>simp at h<;>subst h
 · exact VF.int _ _
 · exact VF.bool _
 · exact VF.str _
 · exact VF.nil
 · exact rfl
 · exact rfl
theorem Uh{α β:Type}{f:α→Option β}:∀{l:List α} {r:List β},l.mapM f=some r→r.length=l.length∧∀j (h:j<l.length),∃y,r[j]? =some y∧f l[j]=some y
 |[],r,h=>by
  simp at h;subst h
  exact⟨rfl,fun j h=>absurd h (by simp)⟩
 |a::l,r,h=>by
  simp only[J4]at h
  cases hf:f a with
  |none=>simp[hf]at h
  |some y=>
   cases hl:l.mapM f with
   |none=>simp[hf,hl]at h
   |some r'=>
    simp[hf,hl]at h
    subst h
    obtain⟨h1,h2⟩:=Uh hl
    refine⟨by simp[h1],fun j hj=> ?_⟩
    cases j with
    |zero=>exact⟨y,rfl,hf⟩
    |succ j=>exact h2 j (by simpa using hj)
theorem Je1{w:World}{X:Cx}{H:Jm}(v:Value):VA w X H (JmA v) v:=by
 unfold JmA
 split
 · rename_i cs
   split
   · rename_i l hl
     obtain⟨h1,h2⟩:=Uh hl
     refine .agg _ _ (by simpa using h1.symm) fun j hj=> ?_
     obtain⟨y,h3,h4⟩:=h2 j (by omega)
     have:l[j]=y:=by simpa[Jq hj]using h3
     rw[this]
     exact⟨_,by simp at h1;simp[h1▸hj],RZ h4⟩
   · exact .any _
 · split
   · rename_i c hc
     exact .c _ _ (RZ hc)
   · exact .any _
def QY(s:List AV):Operand→AV
 | .tmp t=>s.getD t .void
 | .const v=>JmA v
 | .func f=> .c (.fn f [])
 | .global G=>match Jgb G with
   |some cs=> .c (.fp cs 0)
   |none=> .any
theorem J7{w:World}{X:Cx}{a:Act}{st:St}(R:XC w X a st)(x:Operand):VA w X st.h (QY st.s x) (a.eval x):=by
 cases x with
 |tmp t=>
  simp only[QY,Act.eval]
  by_cases h:t<st.s.length
  · obtain⟨u,h1,h2⟩:=R.slot t h
    simp only[List.getD,Jq h,Option.getD_some]
    rw[Array.getD_eq_getD_getElem?,h1]
    exact h2
  · have hs:=R.size
    rw[Array.getD_eq_getD_getElem?,Array.getElem?_eq_none (by rw[hs];exact Nat.le_of_not_lt h)]
    simp only[List.getD,Jx (Nat.le_of_not_lt h),Option.getD_none]
    exact .void
 |const v=>exact Je1 v
 |func f=>
  refine .c _ _ ⟨by simp,rfl,fun _=>by simp[Act.eval]⟩
 |«global»g=>
  simp only[QY]
  split
  · rename_i cs hc
    obtain⟨h1,h2⟩:=R.heap.tab.fc hc
    exact .c _ _ ⟨g,0,by simp[Act.eval],h1,h2⟩
  · exact .any _
inductive TK where
 |int (k:IntKind)|bool|str|slice (e:TypeId)|struct (fs:List (TypeId×Nat))|array (n:Nat) (e:TypeId)|ptr (e:TypeId)|func|other
 deriving Inhabited
def Re:TypeDesc→TK
 | .int k=> .int k
 | .bool=> .bool
 | .string=> .str
 | .slice e=> .slice e
 | .struct fs=> .struct (fs.toList.map fun f=>(f.type,f.offset))
 | .array n e=> .array n e
 | .pointer e=> .ptr e
 | .func .. => .func
 |_=> .other
structure TI where
 k:TK
 size:Nat
 bytes:Nat
 zero:List CV
def JV(P:Program)(t:TypeId):Option TI:=
 match P.info? t,P.underlying t with
 |some i,some d=>match i.zero with
  |some z=>(z.cells.toList.mapM JeP).map fun l=>⟨Re d,i.size,i.bytes,l⟩
  |none=>none
 |_,_=>none
theorem Qi{P:Program}{t:TypeId}{x:TI}(h:JV P t=some x):∃i d z,P.info? t=some i∧P.underlying t=some d∧i.zero=some z∧
 z.cells.toList.mapM JeP=some x.zero∧x.k=Re d∧x.size=i.size∧x.bytes=i.bytes:=by
 unfold JV at h
 split at h
 · rename_i i d hi hd
   split at h
   · rename_i z hz
     cases hm:z.cells.toList.mapM JeP with
     |none=>simp[hm]at h
     |some l=>
      simp[hm]at h
      subst h
      exact⟨i,d,z,hi,hd,hz,hm,rfl,rfl,rfl⟩
   · cases h
 · cases h
theorem Zc{P:Program}{t:TypeId}{x:TI}(h:JV P t=some x)(w:World):(sizeOf t).run P w= .ok x.size w:=by
 obtain⟨i,d,z,hi,hd,hz,hm,h1,h2,h3⟩:=Qi h
 simp[sizeOf,typeInfo,hi,h2]
def N6(P:Program)(op:Op)(a:Act)(w:World)(u:Value):Prop:=
 ∀o:Oper,o.op=op→(execOp a.eval o).run P w= .ok (.value u) w
section
variable{P:Program}{w:World}{X:Cx}{a:Act}{st:St}
theorem Uy{x:CV}{v:Value}{H:Jm}(h:VA w X H (.c x) v):VC w X H x v:=by cases h;assumption
theorem Vy{k:IntKind}{n:Int}{v:Value}{H:Jm}(h:VA w X H (.c (.f (.int k n))) v):v= .int k n:=by
 have h:=Uy h;cases h;rfl
theorem Yz{b:Bool}{v:Value}{H:Jm}(h:VA w X H (.c (.f (.bool b))) v):v= .bool b:=by
 have h:=Uy h;cases h;rfl
theorem GF{s:ByteArray}{v:Value}{H:Jm}(h:VA w X H (.c (.f (.str s))) v):v= .string s:=by
 have h:=Uy h;cases h;rfl
theorem Jcq(x:Operand):N6 P (.move x) a w (a.eval x):=by
 intro o ho;simp[execOp,ho]
theorem Jae(x:Operand):N6 P (.assign x) a w (a.eval x):=by
 intro o ho;simp[execOp,ho]
theorem Jcp{c x y:Operand}{t:Bool}(h:a.eval c= .bool t):N6 P (.pick c x y) a w (if t then a.eval x else a.eval y):=by
 intro o ho;simp[execOp,ho,h,asBool]
end
def Uq(op:BinOp)(k:IntKind)(x y:Int):Int:=
 let a:=BitVec.ofInt k.bits x
 let b:=BitVec.ofInt k.bits y
 k.wrap ((match op with| .and=>a&&&b| .or=>a|||b| .xor=>a^^^b|_=>a&&& ~~~b).toNat:Int)
def UM(op:BinOp)(k:IntKind)(a:Int)(k':IntKind)(b:Int):Option FV:=
 match op with
 | .shl=>if b<0 then none else some (.int k (k.wrap (a*2^min b.toNat k.bits)))
 | .shr=>if b<0 then none else some (.int k (a.fdiv (2^min b.toNat k.bits)))
 | .add=>if k=k' then some (.int k (k.wrap (a+b)))else none
 | .sub=>if k=k' then some (.int k (k.wrap (a -b)))else none
 | .mul=>if k=k' then some (.int k (k.wrap (a*b)))else none
 | .quo=>if k=k'∧b≠0 then some (.int k (k.wrap (a.tdiv b)))else none
 | .rem=>if k=k'∧b≠0 then some (.int k (a.tmod b))else none
 | .and=>if k=k' then some (.int k (Uq .and k a b))else none
 | .or=>if k=k' then some (.int k (Uq .or k a b))else none
 | .xor=>if k=k' then some (.int k (Uq .xor k a b))else none
 | .andNot=>if k=k' then some (.int k (Uq .andNot k a b))else none
 | .eql=>if k=k' then some (.bool (a==b))else none
 | .neq=>if k=k' then some (.bool (a !=b))else none
 | .lss=>if k=k' then some (.bool (decide (a<b)))else none
 | .leq=>if k=k' then some (.bool (decide (a≤b)))else none
 | .gtr=>if k=k' then some (.bool (decide (a>b)))else none
 | .geq=>if k=k' then some (.bool (decide (a≥b)))else none
def scal:FV→Value
 | .int k n=> .int k n
 | .bool b=> .bool b
 | .str s=> .string s
 |_=>undef
def Fk:FV→Bool
 | .int .. | .bool _| .str _=>true
 |_=>false
theorem GU{w:World}{I:Nat→Prop}{x:FV}(h:Fk x=true):VF w I x (scal x):=by
 cases x<;>simp[Fk]at h
 · exact .int _ _
 · exact .bool _
 · exact .str _
theorem Gj(P:Program)(w:World)(op:BinOp)(t:TypeId)(x y:Operand)(k k':IntKind)(a b:Int):(eqGuard op t x y (.int k a) (.int k' b)).run P w= .ok () w:=by
 unfold eqGuard
 split<;>simp
theorem N1{P:Program}{w:World}{op:BinOp}{t:TypeId}{k k':IntKind}{a b:Int}{r:FV}(h:UM op k a k' b=some r):
 (binOp op t (.int k a) (.int k' b)).run P w= .ok (scal r) w∧Fk r=true:=by
 cases op<;>simp only[UM]at h<;>split at h<;>simp only[Option.some.injEq,reduceCtorEq]at h<;>rename_i hc<;>subst h<;>
  first
   |(subst hc;exact⟨by simp[binOp,Op.intArith,Op.intCmp,Op.intBits,Uq,scal],rfl⟩)
   |(obtain⟨hk,h0⟩:=hc;subst hk;exact⟨by simp[binOp,Op.intDiv,h0,scal],rfl⟩)
   |exact⟨by simp[binOp,Op.shift,hc,scal],rfl⟩
end Go.Lg

namespace Go.Lg
theorem Us(b o j:Nat):(⟨b,o,none⟩:Addr).add j=⟨b,o+j,none⟩:=by unfold Addr.add;split<;>simp_all
def Un(H:Jm):CV→Nat→Option (List CV)
 | .fp cs off,n=>if off+n≤cs.length then some (((cs.drop off).take n).map .f)else none
 | .ptr id g off,n=>match look H id g with
   |some b=>if off+n≤b.cs.length then some ((b.cs.drop off).take n)else none
   |none=>none
 |_,_=>none
theorem Rz{w:World}{X:Cx}{H:Jm}(R:ZL w X H){p:CV}{n:Nat}{l:List CV}{v:Value}(h:Un H p n=some l)(hv:VC w X H p v):
 ∃b o,v= .pointer (some ⟨b,o,none⟩)∧l.length=n∧∀j (h:j<l.length),∃u,w.cell? ⟨b,o+j,none⟩=some u∧VC w X H l[j] u:=by
 cases p with
 |fp cs off=>
  obtain⟨b,o,rfl,hI,hc⟩:=hv
  simp only[Un]at h
  split at h
  · rename_i hl
    cases h
    refine⟨b,o+off,rfl,by simp;omega,fun j hj=> ?_⟩
    have hj':off+j<cs.length:=by simp at hj;omega
    obtain⟨u,h1,h2⟩:=hc (off+j) hj'
    refine⟨u,by rw[Nat.add_assoc];exact h1, ?_⟩
    simp only[List.getElem_map,List.getElem_take,List.getElem_drop]
    exact h2
  · cases h
 |ptr id g off=>
  simp only[Un]at h
  cases hl:look H id g with
  |none=>simp[hl]at h
  |some b=>
   simp only[hl]at h
   split at h
   · rename_i hlen
     cases h
     obtain⟨hid,hg⟩:=JG hl
     obtain⟨h1,h2,cc,t,h3,h4,h5,h6⟩:=R.blk id b hid
     have hv':=hv.2.2 (by rw[hl];rfl)
     refine⟨X.mu g,off,hv',by simp;omega,fun j hj=> ?_⟩
     have hj':off+j<b.cs.length:=by simp at hj;omega
     obtain⟨u,h7,h8⟩:=h6 (off+j) hj'
     refine⟨u, ?_,by simpa using h8⟩
     subst hg
     simp[World.cell?,h3,h7]
   · cases h
 |_=>simp[Un]at h
def RU:TK→Bool
 | .struct _| .array .. =>true
 |_=>false
theorem K2{P:Program}{t:TypeId}{x:TI}(h:JV P t=some x)(w:World):(isAgg t).run P w= .ok (RU x.k) w:=by
 obtain⟨i,d,z,hi,hd,hz,hm,h1,h2,h3⟩:=Qi h
 simp only[isAgg,Sem.run_bind,run_underlying hd,Result.andThen_ok,h1]
 cases d<;>rfl
def V3(P:Program)(H:Jm)(t:TypeId)(p:AV):Option AV:=
 match p,JV P t with
 | .c p,some i=>match RU i.k with
   |true=>(Un H p i.size).map .agg
   |false=>match Un H p 1 with
    |some [c]=>some (.c c)
    |_=>none
 |_,_=>none
theorem Jf4{w:World}{X:Cx}{H:Jm}{l:List CV}{f:Nat→Value}(h:∀j (h:j<l.length),VC w X H l[j] (f j)):VA w X H (.agg l) (.agg ((List.range l.length).map f).toArray):=
 .agg _ _ (by simp) fun j hj=>⟨f j,by simp[hj],h j hj⟩
theorem FX{P:Program}{w:World}{X:Cx}{H:Jm}(R:ZL w X H){t:TypeId}{p v:AV}{pv:Value}(h:V3 P H t p=some v)(hp:VA w X H p pv):
 ∃u,(∀w',Z6 w w'→(Instr.loadAt t pv).run P w'= .ok u w')∧VA w X H v u:=by
 unfold V3 at h
 split at h
 · rename_i p' i hi
   have hp':=Uy hp
   split at h
   · rename_i hk
     cases hc:Un H p' i.size with
     |none=>simp[hc]at h
     |some l=>
      simp[hc]at h
      subst h
      obtain⟨b,o,rfl,hl,hcs⟩:=Rz R hc hp'
      have hx:∀j,∃u,j<l.length→(w.cell? ⟨b,o+j,none⟩=some u∧∀h:j<l.length,VC w X H l[j] u):=fun j=>by
       by_cases hj:j<l.length
       · obtain⟨u,h1,h2⟩:=hcs j hj
         exact⟨u,fun _=>⟨h1,fun _=>h2⟩⟩
       · exact⟨undef,fun h=>absurd h hj⟩
      have hf:=fun j=>(hx j).choose_spec
      refine⟨_,fun w' hg=> ?_,Jf4 (f:=fun j=>(hx j).choose) fun j hj=>(hf j hj).2 hj⟩
      have hrun:=run_loadCells (P:=P) w' ⟨b,o,none⟩ l.length (fun j=>(hx j).choose) (fun j hj=>by rw[Us];exact hg.cell (hf j hj).1)
      simp only[Instr.loadAt,Instr.sureAddr,Sem.run_bind,Sem.run_pure,Result.andThen_ok,loadVar,K2 hi,hk,if_true,Zc hi]
      rw[←hl,hrun]
      rfl
   · rename_i hk
     split at h
     · rename_i c hc
       cases h
       obtain⟨b,o,rfl,hl,hcs⟩:=Rz R hc hp'
       obtain⟨u,h1,h2⟩:=hcs 0 (by simp)
       refine⟨u,fun w' hg=> ?_, .c _ _ h2⟩
       simp only[Instr.loadAt,Instr.sureAddr,Sem.run_bind,Sem.run_pure,Result.andThen_ok,loadVar,K2 hi,hk,Bool.false_eq_true,if_false,run_load]
       simp only[Nat.add_zero]at h1
       rw[hg.cell h1]
     · cases h
 · cases h
def Yg(H:Jm):CV→Nat→Option CV
 | .fp cs off,n=>some (.fp cs (off+n))
 | .ptr id g off,n=>if(look H id g).isSome then some (.ptr id g (off+n))else none
 |_,_=>none
theorem FR{w:World}{X:Cx}{H:Jm}{p q:CV}{n:Nat}{v:Value}(h:Yg H p n=some q)(hv:VC w X H p v):
 ∃b o,v= .pointer (some ⟨b,o,none⟩)∧VC w X H q (.pointer (some ⟨b,o+n,none⟩)):=by
 cases p with
 |fp cs off=>
  cases h
  obtain⟨b,o,rfl,hI,hc⟩:=hv
  exact⟨b,o+off,rfl,b,o,by rw[Nat.add_assoc],hI,hc⟩
 |ptr id g off=>
  simp only[Yg]at h
  split at h
  · rename_i hl
    cases h
    have:=hv.2.2 hl
    exact⟨X.mu g,off,this,hv.1,rfl,fun _=>rfl⟩
  · cases h
 |_=>simp[Yg]at h
def YM(P:Program)(H:Jm)(s:TypeId)(p:AV)(f:Nat):Option AV:=
 match p,JV P s with
 | .c p,some ⟨.struct fs,_,_,_⟩=>match fs[f]? with
   |some (ft,off)=>match JV P ft with
    |some i=>if i.size=0 then none else(Yg H p off).map .c
    |none=>none
   |none=>none
 |_,_=>none
theorem Jb2{P:Program}{w:World}{X:Cx}{H:Jm}{s:TypeId}{p v:AV}{f:Nat}{pv:Value}(h:YM P H s p f=some v)(hp:VA w X H p pv):
 ∃u,(∀w',Z6 w w'→(Instr.fieldAt s pv f).run P w'= .ok u w')∧VA w X H v u:=by
 unfold YM at h
 split at h
 · rename_i p' fs sz by_ z hi
   split at h
   · rename_i ft off hf
     split at h
     · rename_i i hft
       split at h
       · cases h
       · rename_i hsz
         cases hm:Yg H p' off with
         |none=>simp[hm]at h
         |some q=>
          simp[hm]at h
          subst h
          obtain⟨b,o,rfl,hq⟩:=FR hm (Uy hp)
          obtain⟨inf,d,z',h1,h2,h3,h4,h5,h6,h7⟩:=Qi hi
          cases d<;>simp[Re]at h5
          rename_i fields
          subst h5
          simp at hf
          obtain⟨fl,hf1,hf2,hf3⟩:=hf
          subst hf2 hf3
          refine⟨_,fun w' _=> ?_, .c _ _ hq⟩
          simp only[Instr.fieldAt,Sem.run_bind,run_underlying h2,Result.andThen_ok]
          simp only[hf1,Instr.sureAddr,Sem.run_bind,Sem.run_pure,Result.andThen_ok,fieldPlace,Zc hft,if_neg hsz,Us]
     · cases h
   · cases h
 · cases h
def BO(P:Program)(H:Jm)(t:TypeId)(x ix:AV):Option AV:=
 match ix,JV P t with
 | .c (.f (.int _ i)),some ti=>
   match ti.k,x with
   | .slice e, .c (.f (.sl n cs))=>match JV P e with
     |some ei=>if 0≤i∧i<n then some (.c (.fp cs (i.toNat*ei.size)))else none
     |none=>none
   | .slice e, .c (.own id g off n _)=>match JV P e,look H id g with
     |some ei,some _=>if 0≤i∧i<n then some (.c (.ptr id g (off+i.toNat*ei.size)))else none
     |_,_=>none
   | .array n e, .c p=>match JV P e with
     |some ei=>if 0≤i∧i<n then(Yg H p (i.toNat*ei.size)).map .c else none
     |none=>none
   |_,_=>none
 |_,_=>none
theorem Zu{d:TypeDesc}{e:TypeId}(h:Re d= .slice e):d= .slice e:=by cases d<;>simp[Re]at h;subst h;rfl
theorem GH{d:TypeDesc}{n:Nat}{e:TypeId}(h:Re d= .array n e):d= .array n e:=by cases d<;>simp[Re]at h;obtain⟨rfl,rfl⟩:=h;rfl
theorem Jd4{d:TypeDesc}{k:IntKind}(h:Re d= .int k):d= .int k:=by cases d<;>simp[Re]at h;subst h;rfl
theorem GG{d:TypeDesc}(h:Re d= .str):d= .string:=by cases d<;>simp[Re]at h;rfl
theorem Jfi{d:TypeDesc}(h:Re d= .bool):d= .bool:=by cases d<;>simp[Re]at h;rfl
theorem XG{P:Program}{w:World}{t e:TypeId}{ei:TI}{k:IntKind}{i:Int}{a:Addr}{n c:Nat}(hu:P.underlying t=some (.slice e))(he:JV P e=some ei)(h:0≤i∧i<n):
 (Instr.indexAt t (.slice (some a) n c) (.int k i)).run P w= .ok (.pointer (some (a.add (i.toNat*ei.size)))) w:=by
 simp[Instr.indexAt,asIntOf,run_underlying hu,Zc he,h]
theorem Bi{P:Program}{w:World}{t e:TypeId}{ei:TI}{k:IntKind}{i:Int}{a:Addr}{n:Nat}(hu:P.underlying t=some (.array n e))(he:JV P e=some ei)(h:0≤i∧i<n):
 (Instr.indexAt t (.pointer (some a)) (.int k i)).run P w= .ok (.pointer (some (a.add (i.toNat*ei.size)))) w:=by
 simp[Instr.indexAt,asIntOf,run_underlying hu,Zc he,h,Instr.sureAddr]
theorem JdH{P:Program}{w:World}{X:Cx}{H:Jm}{t:TypeId}{x ix v:AV}{xv iv:Value}(h:BO P H t x ix=some v)(hx:VA w X H x xv)(hi:VA w X H ix iv):
 ∃u,(∀w',Z6 w w'→(Instr.indexAt t xv iv).run P w'= .ok u w')∧VA w X H v u:=by
 unfold BO at h
 split at h
 · rename_i k i ti hti
   cases Vy hi
   obtain⟨inf,d,z',h1,h2,h3,h4,h5,h6,h7⟩:=Qi hti
   split at h
   · rename_i e n cs hk
     rw[h5]at hk
     cases Zu hk
     split at h
     · rename_i ei hei
       split at h
       · rename_i hb
         cases h
         have:=Uy hx
         cases this with
         |sl0 a cap=>exact absurd hb (by omega)
         |sl n cs b o cap u hc hI hu hv=>
          refine⟨_,fun w' _=>XG h2 hei hb, .c _ _ ⟨b,o,by rw[Us],hI,fun j hj=>⟨u j,hu j hj,hv j hj⟩⟩⟩
       · cases h
     · cases h
   · rename_i e id g off n lim hk
     rw[h5]at hk
     cases Zu hk
     split at h
     · rename_i ei b hei hl
       split at h
       · rename_i hb
         cases h
         obtain⟨hg,h1,hlook⟩:=Uy hx
         obtain⟨hn,a,cap,rfl,hc,ha,_⟩:=hlook b hl
         have:=ha (by omega)
         subst this
         exact⟨_,fun w' _=>XG h2 hei hb, .c _ _ ⟨hg,rfl,fun _=>by rw[Us]⟩⟩
       · cases h
     · cases h
   · rename_i n e p hk
     rw[h5]at hk
     cases GH hk
     split at h
     · rename_i ei hei
       split at h
       · rename_i hb
         cases hm:Yg H p (i.toNat*ei.size)with
         |none=>simp[hm]at h
         |some q=>
          simp[hm]at h
          subst h
          obtain⟨b,o,rfl,hq⟩:=FR hm (Uy hx)
          exact⟨_,fun w' _=>Bi h2 hei hb, .c _ _ (by rw[Us];exact hq)⟩
       · cases h
     · cases h
   · cases h
 · cases h
def NX(s:ByteArray)(i:Nat):Int:=((s.data.toList.getD i 0).toNat:Int)
def Fl(P:Program)(t:TypeId)(x ix:AV):Option AV:=
 match ix,x,JV P t with
 | .c (.f (.int _ i)), .c (.f (.str s)),some ti=>match ti.k with
   | .str=>if 0≤i∧i<s.size then some (.c (.f (.int .u8 (NX s i.toNat))))else none
   |_=>none
 | .c (.f (.int _ i)), .agg cs,some ti=>match ti.k with
   | .array n e=>match JV P e with
     |some ei=>if 0≤i∧i<n∧RU ei.k=false then(cs[i.toNat*ei.size]?).map .c else none
     |none=>none
   |_=>none
 |_,_,_=>none
theorem GW{P:Program}{w:World}{e:TypeId}{ei:TI}(he:JV P e=some ei)(hk:RU ei.k=false){cs:Array Value}{off:Nat}{u:Value}(h:cs[off]? =some u):(part e cs off).run P w= .ok u w:=by
 simp only[part,Sem.run_bind,K2 he,hk,Result.andThen_ok,Bool.false_eq_true,if_false,h,Sem.run_pure]
theorem JbR{P:Program}{w:World}{X:Cx}{H:Jm}{t:TypeId}{x ix v:AV}{xv iv:Value}(h:Fl P t x ix=some v)(hx:VA w X H x xv)(hi:VA w X H ix iv):
 ∃u,(∀w',Z6 w w'→(Instr.index t xv iv).run P w'= .ok u w')∧VA w X H v u:=by
 unfold Fl at h
 split at h
 · rename_i k i s ti hti
   cases Vy hi
   cases GF hx
   obtain⟨inf,d,z',h1,h2,h3,h4,h5,h6,h7⟩:=Qi hti
   split at h
   · rename_i hk
     rw[h5]at hk
     cases GG hk
     split at h
     · rename_i hb
       cases h
       have hlt:i.toNat<s.size:=by omega
       refine⟨.int .u8 (NX s i.toNat),fun w' _=> ?_, .c _ _ (VF.int _ _)⟩
       have e:s[i.toNat]? =some (s[i.toNat]'hlt):=by simp[hlt]
       have e2:NX s i.toNat=((s[i.toNat]'hlt).toNat:Int):=by
        have hl:i.toNat<s.data.toList.length:=by simpa using hlt
        simp only[NX,List.getD,Jq hl,Option.getD_some]
        rfl
       simp only[Instr.index,asIntOf,Sem.run_bind,Sem.run_pure,Result.andThen_ok,run_underlying h2,if_pos hb.1,e,e2]
     · cases h
   · cases h
 · rename_i k i cs ti hti
   cases Vy hi
   obtain⟨inf,d,z',h1,h2,h3,h4,h5,h6,h7⟩:=Qi hti
   split at h
   · rename_i n e hk
     rw[h5]at hk
     cases GH hk
     split at h
     · rename_i ei hei
       split at h
       · rename_i hb
         cases hx with
         |agg cs vs hs hcs=>
          cases hc:cs[i.toNat*ei.size]? with
          |none=>simp[hc]at h
          |some c=>
           simp[hc]at h
           subst h
           obtain⟨hlt,he⟩:=Jh.1 hc
           obtain⟨u,h8,h9⟩:=hcs _ hlt
           rw[he]at h9
           refine⟨u,fun w' _=> ?_, .c _ _ h9⟩
           simp only[Instr.index,asIntOf,Sem.run_bind,Sem.run_pure,Result.andThen_ok,run_underlying h2,Sem.run_ite,if_pos (And.intro hb.1 hb.2.1),Zc hei,GW hei hb.2.2 h8]
       · cases h
     · cases h
   · cases h
 · cases h
end Go.Lg

namespace Go.Lg
def Wb(s:List AV):Option Operand→Option (Option Nat)
 |none=>some none
 |some x=>match QY s x with
  | .c (.f (.int _ i))=>if 0≤i then some (some i.toNat)else none
  |_=>none
def UI(P:Program)(H:Jm)(t:TypeId)(x:AV)(lo hi mx:Option Nat):Option AV:=
 match JV P t,x with
 |some ti, .c (.f (.str s))=>match ti.k,mx with
  | .str,none=>if lo.getD 0≤hi.getD s.size∧hi.getD s.size≤s.size then some (.c (.f (.str (s.extract (lo.getD 0) (hi.getD s.size)))))else none
  |_,_=>none
 |some ti, .c (.f (.sl n cs))=>match ti.k with
  | .slice e=>match JV P e with
    |some ei=>
     let l:=lo.getD 0
     let h:=hi.getD n
     if l≤h∧h≤mx.getD h∧mx.getD h≤n∧(mx.isSome→hi.isSome)then(if mx=some l then some (.c .emp)else some (.c (.f (.sl (h -l) ((cs.drop (l*ei.size)).take ((h -l)*ei.size))))))else none
    |none=>none
  |_=>none
 |some ti, .c (.f .nil)=>match ti.k with
  | .slice e=>match JV P e with
    |some _=>if lo.getD 0=0∧hi.getD 0=0∧mx.getD 0=0∧(mx.isSome→hi.isSome)then some (.c (.f .nil))else none
    |none=>none
  |_=>none
 |some ti, .c (.own id g off n lim)=>match ti.k with
  | .slice e=>match JV P e,look H id g with
    |some ei,some b=>
     let l:=lo.getD 0
     let h:=hi.getD n
     let m:=mx.getD h
     if l≤h∧h≤m∧off+m*b.sz≤b.cs.length∧(mx.isSome→hi.isSome)∧b.sz=ei.size∧0<b.sz∧m≤lim.getD m then
      some (.c (.own id g (off+l*b.sz) (h -l) (match mx,lim with|some m,_=>some (m -l)|none,some c=>some (c -l)|none,none=>none)))
     else none
    |_,_=>none
  |_=>none
 |_,_=>none
theorem XS{w:World}{X:Cx}{a:Act}{st:St}(R:XC w X a st){x:Option Operand}{r:Option Nat}(h:Wb st.s x=some r):
 (x=none∧r=none)∨∃y k i,x=some y∧a.eval y= .int k i∧0≤i∧r=some i.toNat:=by
 cases x with
 |none=>simp[Wb]at h;exact .inl ⟨rfl,h.symm⟩
 |some y=>
  simp only[Wb]at h
  split at h
  · rename_i k i hy
    split at h
    · rename_i h0
      cases h
      have:=J7 R y
      rw[hy]at this
      exact .inr ⟨y,k,i,rfl,Vy this,h0,rfl⟩
    · cases h
  · cases h
theorem Ks{P:Program}{w:World}{k:IntKind}{i:Int}{y:Nat}{code:BoundsCode}(h0:0≤i)(h:i.toNat≤y):(Instr.sliceBound (.int k i) y code).run P w= .ok i.toNat w:=by
 have:0≤i∧i≤y:=⟨h0,by omega⟩
 simp[Instr.sliceBound,asIntOf,this]
theorem UC{P:Program}{w:World}{X:Cx}{a:Act}{st:St}(R:XC w X a st){isS:Bool}{n c:Nat}{lo hi mx:Option Operand}{l h m:Option Nat}(hl:Wb st.s lo=some l)(hh:Wb st.s hi=some h)(hm:Wb st.s mx=some m)
 (h1:l.getD 0≤h.getD n) (h2:h.getD n≤m.getD c) (h3:m.getD c≤c) (h4:m.isSome→h.isSome):
 ∀w',(Instr.sliceBounds isS n c (lo.map a.eval) (hi.map a.eval) (mx.map a.eval)).run P w'= .ok (l.getD 0,h.getD n,m.getD c) w':=by
 intro w'
 rcases XS R hl with⟨rfl,rfl⟩|⟨yl,kl,il,rfl,el,pl,rfl⟩<;>rcases XS R hh with⟨rfl,rfl⟩|⟨yh,kh,ih,rfl,eh,ph,rfl⟩<;>
  rcases XS R hm with⟨rfl,rfl⟩|⟨ym,km,im,rfl,em,pm,rfl⟩<;>
  simp only[Option.getD_some,Option.getD_none,Option.map_some,Option.map_none]at* <;>
  first
   |(simp at h4;done)
   |(simp only[Instr.sliceBounds, *]
     first
      |rfl
      |(simp only[Sem.run_bind,Sem.run_pure,Result.andThen_ok,Option.isSome_some,Option.isSome_none,if_true,Bool.false_eq_true,if_false]
        (repeat rw[Ks (by assumption) (by omega),Result.andThen_ok])
        try(first|rfl|(simp only[Result.andThen_ok,Sem.run_pure,Sem.run_bind];(repeat rw[Ks (by assumption) (by omega),Result.andThen_ok]);try rfl))))
theorem VB{P:Program}{w:World}{t e:TypeId}{ei:TI}{a:Option Addr}{n c l h m:Nat}{lo hi mx:Option Value}(hu:P.underlying t=some (.slice e))(he:JV P e=some ei)
 (hb:(Instr.sliceBounds true n c lo hi mx).run P w= .ok (l,h,m) w):
 (Instr.sliceAt t (.slice a n c) lo hi mx).run P w= .ok (.slice (if m=l then a else a.map (·.add (l*ei.size))) (h -l) (m -l)) w:=by
 simp[Instr.sliceAt,Instr.slice,run_underlying hu,hb,Zc he]
theorem Jak{P:Program}{w:World}{t:TypeId}{s:ByteArray}{l h m:Nat}{lo hi:Option Value}(hu:P.underlying t=some .string)
 (hb:(Instr.sliceBounds false s.size s.size lo hi none).run P w= .ok (l,h,m) w):
 (Instr.sliceAt t (.string s) lo hi none).run P w= .ok (.string (s.extract l h)) w:=by
 simp[Instr.sliceAt,Instr.slice,run_underlying hu,hb]
theorem Jbw{P:Program}{w:World}{X:Cx}{a:Act}{st:St}(R:XC w X a st){t:TypeId}{x:AV}{xv:Value}{lo hi mx:Option Operand}{l h m:Option Nat}{v:AV}
 (hl:Wb st.s lo=some l) (hh:Wb st.s hi=some h) (hm:Wb st.s mx=some m) (hx:VA w X st.h x xv) (hv:UI P st.h t x l h m=some v):
 ∃u,(∀w',Z6 w w'→(Instr.sliceAt t xv (lo.map a.eval) (hi.map a.eval) (mx.map a.eval)).run P w'= .ok u w')∧VA w X st.h v u:=by
 unfold UI at hv
 split at hv
 · rename_i ti s hti
   cases GF hx
   obtain⟨inf,d,z',h1,h2,h3,h4,h5,h6,h7⟩:=Qi hti
   split at hv
   · rename_i hk
     rw[h5]at hk
     cases GG hk
     split at hv
     · rename_i hb
       cases hv
       have hmx:mx=none:=by
        rcases XS R hm with⟨rfl,_⟩|⟨_,_,_,_,_,_,h⟩
        · rfl
        · cases h
       subst hmx
       exact⟨_,fun w' _=>Jak h2 (UC R hl hh hm hb.1 (by simpa using hb.2) (by simp) (by simp) w'), .c _ _ (VF.str _)⟩
     · cases hv
   · cases hv
 · rename_i ti n cs hti
   obtain⟨inf,d,z',h1,h2,h3,h4,h5,h6,h7⟩:=Qi hti
   split at hv
   · rename_i e hk
     rw[h5]at hk
     cases Zu hk
     split at hv
     · rename_i ei hei
       simp only at hv
       split at hv
       · rename_i hb
         obtain⟨b1,b2,b3,b4⟩:=hb
         have hd:∀c,n≤c→h.getD n≤m.getD c∧m.getD c≤c:=fun c hc=>by
          cases m with
          |none=>simp at b2 b3⊢;omega
          |some m=>simp at b2 b3⊢;omega
         have hx':=Uy hx
         split at hv
         · rename_i hml
           cases hv
           subst hml
           have hhl:h.getD n=l.getD 0:=by simp at b2;omega
           have:∃a c,xv= .slice a n c∧n≤c:=by
            cases hx' with
            |sl0 a0 cap=>exact⟨_,_,rfl,Nat.zero_le _⟩
            |sl n cs b o cap u hc hI hu hvs=>exact⟨_,_,rfl,hc⟩
           obtain⟨a0,cap,rfl,hcap⟩:=this
           obtain⟨d1,d2⟩:=hd cap hcap
           refine⟨_,fun w' _=>VB h2 hei (UC R hl hh hm b1 d1 d2 b4 w'), .c _ _ ?_⟩
           simp only[Option.getD_some,hhl,Nat.sub_self,if_true]
           exact⟨_,rfl⟩
         cases hv
         cases hx' with
         |sl0 a0 cap=>
          obtain⟨d1,d2⟩:=hd cap (Nat.zero_le _)
          refine⟨_,fun w' _=>VB h2 hei (UC R hl hh hm b1 d1 d2 b4 w'), .c _ _ ?_⟩
          have e0:h.getD 0 -l.getD 0=0:=by
           have:h.getD 0≤0:=by
            cases m with
            |none=>simpa using b3
            |some m=>simp at b2 b3;omega
           omega
          rw[e0]
          simp only[Nat.zero_mul,List.drop_nil,List.take_nil]
          exact VF.sl0 _ _
         |sl n cs b o cap u hc hI hu hvs=>
          obtain⟨d1,d2⟩:=hd cap hc
          refine⟨_,fun w' _=>VB h2 hei (UC R hl hh hm b1 d1 d2 b4 w'), .c _ _ ?_⟩
          by_cases e0:h.getD n -l.getD 0=0
          · rw[e0]
            simp only[Nat.zero_mul,List.take_zero]
            exact VF.sl0 _ _
          · rw[if_neg (by omega)]
            simp only[Option.map_some,Us]
            refine VF.sl _ _ _ _ _ (fun j=>u (l.getD 0*ei.size+j)) (by omega) hI (fun j hj=> ?_) (fun j hj=> ?_)
            · simp only[JP,Ut]at hj
              rw[Nat.add_assoc]
              exact hu _ (by omega)
            · simp only[JP,Ut]at hj
              simp only[List.getElem_take,List.getElem_drop]
              exact hvs _ (by omega)
       · cases hv
     · cases hv
   · cases hv
 · rename_i ti hti
   obtain⟨inf,d,z',h1,h2,h3,h4,h5,h6,h7⟩:=Qi hti
   split at hv
   · rename_i e hk
     rw[h5]at hk
     cases Zu hk
     split at hv
     · rename_i ei hei
       split at hv
       · rename_i hb
         cases hv
         obtain⟨b1,b2,b3,b4⟩:=hb
         have hx':=Uy hx
         cases hx' with
         |nil=>
          refine⟨_,fun w' _=>VB h2 hei (UC R hl hh hm (by omega) (by omega) (by omega) b4 w'), .c _ _ ?_⟩
          rw[b1,b2,b3]
          exact VF.nil
       · cases hv
     · cases hv
   · cases hv
 · rename_i ti id g off n lim hti
   obtain⟨inf,d,z',h1,h2,h3,h4,h5,h6,h7⟩:=Qi hti
   split at hv
   · rename_i e hk
     rw[h5]at hk
     cases Zu hk
     split at hv
     · rename_i ei b hei hlk
       simp only at hv
       split at hv
       · rename_i hb
         cases hv
         obtain⟨b1,b2,b3,b4,b5,b6,b7⟩:=hb
         obtain⟨hg,ho,hall⟩:=Uy hx
         obtain⟨c1,a0,cap,rfl,c2,c3,c4,c5⟩:=hall b hlk
         have hcap:m.getD (h.getD n)≤cap:=by
          cases lim with
          |none=>
           simp only at c5
           have:m.getD (h.getD n)*b.sz≤cap*b.sz:=by omega
           exact Nat.le_of_mul_le_mul_right this b6
          |some c=>
           simp only at c5
           simp at b7
           omega
         have d1:h.getD n≤m.getD cap∧m.getD cap≤cap:=by
          cases m with
          |none=>simp at b2 hcap⊢;omega
          |some m=>simp at b2 hcap⊢;omega
         refine⟨_,fun w' _=>VB h2 hei (UC R hl hh hm b1 d1.1 d1.2 b4 w'), .c _ _ ⟨hg,rfl,fun blk hblk=> ?_⟩⟩
         rw[hlk]at hblk
         cases hblk
         have hcm:l.getD 0≤m.getD cap:=by omega
         have hsz:(h.getD n -l.getD 0)*b.sz+l.getD 0*b.sz=h.getD n*b.sz:=by rw[←Nat.add_mul];congr 1;omega
         have hle:h.getD n*b.sz≤m.getD (h.getD n)*b.sz:=Nat.mul_le_mul_right _ b2
         have hsz2:(m.getD cap -l.getD 0)*b.sz+l.getD 0*b.sz=m.getD cap*b.sz:=by rw[←Nat.add_mul];congr 1;omega
         have hle2:m.getD cap*b.sz≤cap*b.sz:=Nat.mul_le_mul_right _ d1.2
         refine⟨by omega, ?_⟩
         by_cases e0:m.getD cap=l.getD 0
         · rw[if_pos e0]
           refine⟨_,_,rfl,by omega,fun hne=>absurd (by omega) hne,by omega, ?_⟩
           cases m with
           |some m=>simp only;simp
           |none=>
            cases lim with
            |none=>simp only at c5⊢;simp at hsz2⊢;omega
            |some c=>simp only at c5⊢;simp;omega
         · rw[if_neg e0]
           refine⟨_,_,rfl,by omega,fun _=> ?_,by omega, ?_⟩
           · rw[c3 (by omega)]
             show Addr.add _ _=_
             rw[Us,b5]
           · cases m with
             |some m=>simp only;simp
             |none=>
              cases lim with
              |none=>simp only at c5⊢;simp at hsz2⊢;omega
              |some c=>simp only at c5⊢;simp;omega
       · cases hv
     · cases hv
   · cases hv
 · cases hv
end Go.Lg
