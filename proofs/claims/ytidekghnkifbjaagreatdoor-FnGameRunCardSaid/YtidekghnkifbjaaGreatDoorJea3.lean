/- LgL, LgM, cut to what is needed. -/
import Derived.Test.YtidekghnkifbjaaGreatDoorJea2
open List renaming replicate → Jd, getElem?_eq_some_iff → Jh, length_append → Jk, length_set → Jo, getElem?_eq_getElem → Jq, mapM_cons → J4, length_map → Qs, length_replicate → QG
open Nat renaming reduceAdd→zA,reduceMul→zM,reduceSub→zS,reduceEqDiff→zE,reduceLeDiff→zL
set_option linter.unusedSimpArgs false
set_option linter.unusedVariables false
namespace Go.Lg
def QV(s:List AV)(d:Option Tmp)(v:AV):List AV:=
 match d with
 |some d=>s.set d v
 |none=>s
theorem XC.put{w w':World}{X X':Cx}{a:Act}{st:St}{H':Jm}(R:XC w X a st)(E:Ev w X st.h w' X' H')(hH:ZL w' X' H'){d:Option Tmp}{v:AV}{u:Value}(hv:VA w' X' H' v u):
 XC w' X' (a.put d u) ⟨QV st.s d v,H'⟩:=by
 cases d with
 |none=>exact⟨R.defs,R.size,fun i hi=>let⟨x,h1,h2⟩:=R.slot i hi;⟨x,h1,h2.mono E⟩,hH⟩
 |some d=>
  refine⟨R.defs,by simp[Act.put,QV,R.size],fun i hi=> ?_,hH⟩
  simp only[QV,Jo]at hi
  obtain⟨x,h1,h2⟩:=R.slot i hi
  simp only[QV,Act.put]
  by_cases he:d=i
  · subst he
    rw[List.getElem_set_self,Array.getElem?_setIfInBounds_self_of_lt (by rw[R.size];exact hi)]
    exact⟨u,rfl,hv⟩
  · rw[List.getElem_set_ne he,Array.getElem?_setIfInBounds_ne he]
    exact⟨x,h1,h2.mono E⟩
def Um(ops:Array Oper)(s:List AV)(j:Nat):Option (Option Bool):=
 match(ops[j]?).bind (·.dst)with
 |none=>some none
 |some d=>match s[d]? with
  |none=>some none
  |some (.c (.f (.bool b)))=>some (some b)
  |some .void=>some none
  |_=>none
theorem UW{w:World}{X:Cx}{a:Act}{st:St}(R:XC w X a st){ops:Array Oper}{j:Nat}{r:Option Bool}(h:Um ops st.s j=some r):yielded ops a.tmps j=r:=by
 unfold Um at h
 unfold yielded
 split at h
 · rename_i e;cases h;rw[e];rfl
 · rename_i d e
   rw[e]
   simp only[Option.bind_some]
   split at h
   · rename_i hd
     cases h
     have:st.s.length≤d:=by
      rcases Nat.lt_or_ge d st.s.length with h|h
      · simp[h]at hd
      · exact h
     rw[Array.getElem?_eq_none (by rw[R.size];exact this)]
   · rename_i b hd
     cases h
     obtain⟨hlt,he⟩:=Jh.1 hd
     obtain⟨u,h1,h2⟩:=R.slot d hlt
     rw[he]at h2
     rw[h1,Yz h2]
   · rename_i hd
     cases h
     obtain⟨hlt,he⟩:=Jh.1 hd
     obtain⟨u,h1,h2⟩:=R.slot d hlt
     rw[he]at h2
     rw[h1]
     cases h2
     rfl
   · cases h
def N9(P:Program)(ops:Array Oper):List Oper→St→(St→Prop)→Prop
 |[],st,K=>K st
 |o::r,st,K=>match o.guard with
  |none=>JZ P o st fun v H'=>N9 P ops r ⟨QV st.s o.dst v,H'⟩ K
  |some (j,want)=>∃g,Um ops st.s j=some g∧
   ((g=some want→JZ P o st fun v H'=>N9 P ops r ⟨QV st.s o.dst v,H'⟩ K)∧(g≠some want→N9 P ops r ⟨QV st.s o.dst .void,st.h⟩ K))
theorem Fg{P:Program}{ops:Array Oper}{Q:Exit→Act→World→Prop}{w0:World}{X0:Cx}{H0:Jm}{K:St→Prop}
 (hQ:∀w' X' a' st',XC w' X' a' st'→Ev w0 X0 H0 w' X' st'.h→K st'→Q .normal a' w'):∀(l:List Oper) (w:World) (X:Cx) (a:Act) (st:St),N9 P ops l st K→XC w X a st→Ev w0 X0 H0 w X st.h→wpList P ops Q l a w
 |[],w,X,a,st,h,R,E=>hQ w X a st R E h
 |o::r,w,X,a,st,h,R,E=>by
  refine wpList_step fun K' hK'=> ?_
  have go:∀{o':Oper},o'=o→(JZ P o st fun v H'=>N9 P ops r ⟨QV st.s o.dst v,H'⟩ K)→o.wp P a w K' Q:=by
   intro o' _ hop
   refine hop w X a R K' Q fun v u X' H' w' h1 h2 h3 h4=>hK' _ _ ?_
   exact Fg hQ r w' X' _ _ h4 (R.put h3 h2 h1) (E.trans h3)
  unfold N9 at h
  split at h
  · rename_i hg
    rw[if_pos (by simp[Region.wanted,hg])]
    exact go rfl h
  · rename_i j want hg
    obtain⟨g,h1,h2,h3⟩:=h
    have hy:=UW R h1
    by_cases he:g=some want
    · rw[if_pos (by simp[Region.wanted,hg,hy,he])]
      exact go rfl (h2 he)
    · rw[if_neg (by simp only[Region.wanted,hg,hy];simpa using he)]
      exact hK' _ _ (Fg hQ r w X _ _ (h3 he) (R.put (Ev.refl _ _ _) R.heap .void) E)
def Post(Q:Exit→St→Prop)(w:World)(X:Cx)(H:Jm):Exit→Act→World→Prop:=
 fun e a' w'=>∃X' st',XC w' X' a' st'∧Ev w X H w' X' st'.h∧Q e st'
theorem QH.mono{P:Program}{c:Code}{st:St}{Q Q':Exit→St→Prop}(h:QH P c st Q)(hq:∀e st',Q e st'→Q' e st'):QH P c st Q':=
 fun w X a R=>wp_mono (h w X a R) fun _ _ _ ⟨X',st',h1,h2,h3⟩=>⟨X',st',h1,h2,hq _ _ h3⟩
theorem QH.skip{P:Program}{st:St}{Q:Exit→St→Prop}(h:Q .normal st):QH P .skip st Q:=
 fun w X a R=>wp_skip ⟨X,st,R,Ev.refl _ _ _,h⟩
theorem QH.exit{P:Program}{id:Nat}{st:St}{Q:Exit→St→Prop}(h:Q (.exit id) st):QH P (.exit id) st Q:=
 fun w X a R=>wp_exit ⟨X,st,R,Ev.refl _ _ _,h⟩
theorem QH.ret{P:Program}{st:St}{Q:Exit→St→Prop}(h:Q .ret st):QH P .ret st Q:=
 fun w X a R=>wp_ret ⟨X,st,R,Ev.refl _ _ _,h⟩
def Jlo(next:St→Prop)(Q:Exit→St→Prop):Exit→St→Prop
 | .normal,st=>next st
 |e,st=>Q e st
theorem QH.seq{P:Program}{x y:Code}{st:St}{Q:Exit→St→Prop}(h:QH P x st (Jlo (fun st'=>QH P y st' Q) Q)):QH P (.seq x y) st Q:=by
 intro w X a R
 refine wp_seq (wp_mono (h w X a R) fun e a' w' ⟨X',st',h1,h2,h3⟩=> ?_)
 cases e with
 |normal=>
  have h3:QH P y st' Q:=h3
  exact wp_mono (h3 w' X' a' h1) fun _ _ _ ⟨X'',st'',k1,k2,k3⟩=>⟨X'',st'',k1,h2.trans k2,k3⟩
 |exit id=>exact⟨X',st',h1,h2,h3⟩
 |goto l=>exact⟨X',st',h1,h2,h3⟩
 |ret=>exact⟨X',st',h1,h2,h3⟩
 |panic c=>exact⟨X',st',h1,h2,h3⟩
 |outgrown=>exact⟨X',st',h1,h2,h3⟩
theorem QH.cond{P:Program}{c:Operand}{x y:Code}{st:St}{Q:Exit→St→Prop}{b:Bool}(hc:QY st.s c= .c (.f (.bool b)))(ht:b=true→QH P x st Q)(hf:b=false→QH P y st Q):QH P (.cond c x y) st Q:=by
 intro w X a R
 have h:=J7 R c
 rw[hc]at h
 exact wp_cond_split (Yz h) (fun hb=>ht hb w X a R) (fun hb=>hf hb w X a R)
def Jjt(id:Nat)(Q:Exit→St→Prop):Exit→St→Prop
 | .exit id',st=>if id'=id then Q .normal st else Q (.exit id') st
 |e,st=>Q e st
theorem QH.block{P:Program}{id:Nat}{c:Code}{st:St}{Q:Exit→St→Prop}(h:QH P c st (Jjt id Q)):QH P (.block id c) st Q:=by
 intro w X a R
 refine wp_block (wp_mono (h w X a R) fun e a' w' ⟨X',st',h1,h2,h3⟩=> ?_)
 cases e with
 |exit id'=>
  simp only[Exit.inBlock,Jjt]at h3⊢
  split
  · rename_i he;rw[if_pos he]at h3;exact⟨X',st',h1,h2,h3⟩
  · rename_i he;rw[if_neg he]at h3;exact⟨X',st',h1,h2,h3⟩
 |normal=>exact⟨X',st',h1,h2,h3⟩
 |goto l=>exact⟨X',st',h1,h2,h3⟩
 |ret=>exact⟨X',st',h1,h2,h3⟩
 |panic c=>exact⟨X',st',h1,h2,h3⟩
 |outgrown=>exact⟨X',st',h1,h2,h3⟩
theorem QH.region{P:Program}{id:Nat}{ops:Array Oper}{st:St}{Q:Exit→St→Prop}(h:N9 P ops ops.toList st fun st'=>Q .normal st'):QH P (.region id ops false) st Q:=
 fun w X a R=>wp_region_list (Fg (Q:=Post Q w X st.h) (fun w' X' a' st' h1 h2 h3=>⟨X',st',h1,h2,h3⟩) _ w X a st h R (Ev.refl _ _ _))
def J0(H H':Jm):Prop:=∀(id:Nat) (b:Zv),H'[id]? =some (some b)→H[id]? =some (some b)
def SLe(s s':List AV):Prop:=s'.length=s.length∧∀i (h:i<s'.length),s'[i]= .any∨s[i]? =some s'[i]
theorem J0.refl(H:Jm):J0 H H:=fun _ _ h=>h
theorem J0.look{H H':Jm}(h:J0 H H'){id g:Nat}{b:Zv}(hl:look H' id g=some b):look H id g=some b:=by
 obtain⟨h1,h2⟩:=JG hl
 rw[←h2]
 exact J8 (h id b h1)
theorem J0.ev{w:World}{X:Cx}{H H':Jm}(h:J0 H H'):Ev w X H w X H':=
 ⟨fun _ hb=>⟨hb,rfl⟩,Nat.le_refl _,fun _ _=>⟨rfl,rfl⟩,Nat.le_refl _,rfl,rfl,rfl,fun id g b' _ hl=>⟨b',h.look hl,rfl,rfl⟩,fun _ _ _=>rfl,fun b ⟨id,blk,h1,h2⟩=> .inl ⟨id,blk,h id blk h1,h2⟩,fun _ hb=> .inl hb⟩
theorem J0.rel{w:World}{X:Cx}{H H':Jm}(h:J0 H H')(R:ZL w X H):ZL w X H':=
 ⟨R.imm,fun id b hb=>by
   obtain⟨h1,h2,cc,t,h3,h4,h5,h6⟩:=R.blk id b (h id b hb)
   exact⟨h1,h2,cc,t,h3,h4,h5,fun j hj=>let⟨u,k1,k2⟩:=h6 j hj;⟨u,k1,k2.mono h.ev⟩⟩,
  fun id id' b b' hb hb' he=>R.inj id id' b b' (h id b hb) (h id' b' hb') he,R.tab⟩
theorem XC.weaken{w:World}{X:Cx}{a:Act}{st st':St}(R:XC w X a st)(hs:SLe st.s st'.s)(hh:J0 st.h st'.h):XC w X a st':=by
 refine⟨R.defs,by rw[R.size,hs.1],fun i hi=> ?_,hh.rel R.heap⟩
 have hi':i<st.s.length:=by rw[←hs.1];exact hi
 obtain⟨u,h1,h2⟩:=R.slot i hi'
 refine⟨u,h1, ?_⟩
 rcases hs.2 i hi with he|he
 · rw[he];exact .any _
 · rw[Jq hi']at he
   rw[←Option.some.inj he]
   exact h2.mono hh.ev
theorem QH.weaken{P:Program}{c:Code}{st st':St}{Q:Exit→St→Prop}(hs:SLe st.s st'.s)(hh:J0 st.h st'.h)(h:QH P c st' Q):QH P c st Q:=
 fun w X a R=>wp_mono (h w X a (R.weaken hs hh)) fun _ _ _ ⟨X',st'',k1,k2,k3⟩=>⟨X',st'',k1,hh.ev.trans k2,k3⟩
theorem QH.loop{P:Program}{c:Code}{Q:Exit→St→Prop}(I:Nat→St→Prop)
 (h:∀n st,I n st→QH P c st (Jlo (fun st'=>∃m st2,m<n∧SLe st'.s st2.s∧J0 st'.h st2.h∧I m st2) Q)) {n:Nat} {st:St} (h0:I n st):QH P (.loop c) st Q:=by
 intro w X a R b k cs
 have key:∀n w' X' a' st',I n st'→XC w' X' a' st'→Ev w X st.h w' X' st'.h→
  ∃e a'' w'',Post Q w X st.h e a'' w''∧Arrives P (lone (b.at a' (.code c:: .inLoop c::k)) cs w') b k cs e a'' w'':=by
  intro n
  induction n using Nat.strongRecOn with
  |_ n ih=>
   intro w' X' a' st' hI R' E'
   obtain⟨e,a₁,w₁,⟨X1,st1,hR1,hE1,hq⟩,harr⟩:=h n st' hI w' X' a' R' b (.inLoop c::k) cs
   cases e with
   |normal=>
    obtain⟨m,st2,hlt,hs,hh,hI2⟩:=hq
    obtain⟨e₂,a₂,w₂,hq₂,harr₂⟩:=ih m hlt w₁ X1 a₁ st2 hI2 (hR1.weaken hs hh) (E'.trans (hE1.trans hh.ev))
    exact⟨e₂,a₂,w₂,hq₂, .of_steps (Steps.trans harr (.one step_inLoop)) harr₂⟩
   |exit id=>exact⟨_,a₁,w₁,⟨X1,st1,hR1,E'.trans hE1,hq⟩, .pass (x:= .inLoop c) rfl (fun _ _=> .inl (by simp)) harr⟩
   |goto l=>exact⟨_,a₁,w₁,⟨X1,st1,hR1,E'.trans hE1,hq⟩, .pass (x:= .inLoop c) rfl (fun _ _=> .inl (by simp)) harr⟩
   |ret=>exact⟨_,a₁,w₁,⟨X1,st1,hR1,E'.trans hE1,hq⟩, .pass (x:= .inLoop c) rfl (fun _ _=> .inl (by simp)) harr⟩
   |panic ch=>exact⟨_,a₁,w₁,⟨X1,st1,hR1,E'.trans hE1,hq⟩, .pass (x:= .inLoop c) rfl (fun _ _=> .inl (by simp)) harr⟩
   |outgrown=>exact⟨_,a₁,w₁,⟨X1,st1,hR1,E'.trans hE1,hq⟩, .pass (x:= .inLoop c) rfl (fun _ _=> .inl (by simp)) harr⟩
 obtain⟨e,a',w',hq,harr⟩:=key n w X a st h0 R (Ev.refl _ _ _)
 exact⟨e,a',w',hq, .of_steps (.one step_loop) harr⟩
def Fb(P:Program)(s:List AV)(H:Jm):ResultVar→Option AV
 | .tmp t=>some (s.getD t .void)
 | .cell a t=>V3 P H t (s.getD a .void)
def YE(P:Program)(s:List AV)(H:Jm):List ResultVar→Option (List AV)
 |[]=>some []
 |r::rs=>match Fb P s H r,YE P s H rs with
  |some v,some vs=>some (v::vs)
  |_,_=>none
def YD(P:Program)(s:List AV)(H:Jm)(rs:List ResultVar):Option AV:=
 match YE P s H rs with
 |some [v]=>some v
 |some vs=>some (.tup vs)
 |none=>none
theorem K0{w:World}{X:Cx}{a:Act}{st:St}(R:XC w X a st)(t:Nat):VA w X st.h (st.s.getD t .void) (a.tmps.getD t undef):=J7 R (.tmp t)
theorem FB{P:Program}{w:World}{t:TypeId}{pv u:Value}(h:(Instr.loadAt t pv).run P w= .ok u w):(do loadVar t (←asAddr pv):Sem Value).run P w= .ok u w:=by
 unfold Instr.loadAt Instr.sureAddr at h
 cases pv with
 |pointer a=>
  cases a with
  |some a=>simpa[asAddr]using h
  |none=>simp at h
 |_=>simp at h
def Jib(tmps:Array Value):ResultVar→Sem Value
 | .tmp t=>pure (tmps.getD t undef)
 | .cell b t=>do loadVar t (←asAddr (tmps.getD b undef))
theorem Jek(fn:Func)(tmps:Array Value):results fn tmps=(fn.results.mapM (Jib tmps)>>=fun vs=>pure (if h:vs.size=1 then vs[0]else .tuple vs)):=rfl
theorem Bm{P:Program}{w:World}{X:Cx}{a:Act}{st:St}(R:XC w X a st):∀(rs:List ResultVar) (vs:List AV),YE P st.s st.h rs=some vs→
 ∃us:List Value,us.length=vs.length∧(rs.mapM (Jib a.tmps)).run P w= .ok us w∧∀i (h:i<vs.length),∃u,us[i]? =some u∧VA w X st.h vs[i] u
 |[],vs,h=>by
  cases h
  exact⟨[],rfl,by simp,fun i hi=>absurd hi (by simp)⟩
 |r::rs,vs,h=>by
  unfold YE at h
  split at h
  · rename_i v vs' e1 e2
    cases h
    obtain⟨us,h1,h2,h3⟩:=Bm R rs vs' e2
    have hone:∃u,(Jib a.tmps r).run P w= .ok u w∧VA w X st.h v u:=by
     cases r with
     |tmp t=>
      simp only[Fb,Option.some.injEq]at e1
      subst e1
      exact⟨_,rfl,K0 R t⟩
     |cell b t=>
      obtain⟨u,k1,k2⟩:=FX (P:=P) R.heap e1 (K0 R b)
      exact⟨u,FB (k1 w (Z6.refl w)),k2⟩
    obtain⟨u,k1,k2⟩:=hone
    refine⟨u::us,by simp[h1], ?_,fun i hi=> ?_⟩
    · rw[J4,Sem.run_bind,k1,Result.andThen_ok,Sem.run_bind,h2,Result.andThen_ok]
      rfl
    · cases i with
      |zero=>exact⟨u,rfl,k2⟩
      |succ i=>exact h3 i (by simpa using hi)
  · cases h
theorem Jem{P:Program}{w:World}{X:Cx}{a:Act}{st:St}(R:XC w X a st){fn:Func}{v:AV}(h:YD P st.s st.h fn.results.toList=some v):
 ∃u,(results fn a.tmps).run P w= .ok u w∧VA w X st.h v u:=by
 unfold YD at h
 have key:∀vs,YE P st.s st.h fn.results.toList=some vs→∃us:List Value,us.length=vs.length∧(results fn a.tmps).run P w= .ok (if h:us.toArray.size=1 then us.toArray[0]else .tuple us.toArray) w∧∀i (h:i<vs.length),∃u,us[i]? =some u∧VA w X st.h vs[i] u:=by
  intro vs hvs
  obtain⟨us,h1,h2,h3⟩:=Bm R _ vs hvs
  refine⟨us,h1, ?_,h3⟩
  have hm:fn.results.mapM (Jib a.tmps)=List.toArray<$>fn.results.toList.mapM (Jib a.tmps):=Array.mapM_eq_mapM_toList
  rw[Jek,hm]
  simp only[Sem.run_bind,Sem.run_map,h2,Result.andThen_ok,Sem.run_pure]
 split at h
 · rename_i v' hvs
   cases h
   obtain⟨us,h1,h2,h3⟩:=key [v] hvs
   obtain⟨u,k1,k2⟩:=h3 0 (by simp)
   have hus:us=[u]:=by
    cases us with
    |nil=>simp at h1
    |cons x xs=>simp at h1 k1;subst h1 k1;rfl
   subst hus
   exact⟨u,by rw[h2];simp,k2⟩
 · rename_i vs hne hvs
   cases h
   obtain⟨us,h1,h2,h3⟩:=key vs hvs
   have hl:us.toArray.size≠1:=by
    intro hl
    have:vs.length=1:=by rw[←h1];simpa using hl
    obtain⟨x,hx⟩:=List.length_eq_one_iff.1 this
    exact hne x hx
   rw[dif_neg hl]at h2
   refine⟨_,h2, ?_⟩
   have:=VA.tup (w:=w) (X:=X) (H:=st.h) vs (fun i=>us.getD i undef) (fun j hj=>by
    obtain⟨u,k1,k2⟩:=h3 j hj
    simp only[List.getD,k1,Option.getD_some]
    exact k2)
   have e:((List.range vs.length).map fun i=>us.getD i undef)=us:=by
    apply List.ext_getElem
    · simp[h1]
    · intro i q1 q2
      simp[List.getD,Jq q2]
   rw[e]at this
   exact this
 · cases h
theorem Jn.of_body{P:Program}{f:FuncId}{fn:Func}{c:Code}{args:List AV}{H:Jm}{Q:AV→Jm→Prop}(hf:P.funcs[f]? =some fn)(hb:fn.body=some c)
 (h:QH P c ⟨args++Jd (fn.ntmps -args.length) .void,H⟩ fun e st'=>(e= .normal∨e= .ret)∧∃v H',YD P st'.s st'.h fn.results.toList=some v∧J0 st'.h H'∧Q v H'):Jn P f args H Q:=by
 intro w X vs hH hvs
 refine calls_of_wp hf hb ?_
 have R:XC w X {tmps:=vs++Array.replicate (fn.ntmps -vs.size) undef,defers:=[]} ⟨args++Jd (fn.ntmps -args.length) .void,H⟩:=by
  refine⟨rfl,by simp[hvs.1],fun i hi=> ?_,hH⟩
  simp only[Jk,QG]at hi
  by_cases hlt:i<args.length
  · obtain⟨u,h1,h2⟩:=hvs.2 i hlt
    refine⟨u, ?_,by rw[List.getElem_append_left hlt];exact h2⟩
    rw[Array.getElem?_append_left (by rw[hvs.1];exact hlt)]
    exact h1
  · refine⟨undef, ?_, ?_⟩
    · rw[Array.getElem?_append_right (by rw[hvs.1];omega)]
      rw[Array.getElem?_replicate,if_pos (by rw[hvs.1];omega)]
    · rw[List.getElem_append_right (by omega)]
      simp only[List.getElem_replicate]
      exact .void
 refine wp_mono (h w X _ R) fun e a' w' ⟨X',st',h1,h2,he,v,H',h3,h4,h5⟩=> ?_
 obtain⟨u,k1,k2⟩:=Jem (P:=P) h1 h3
 have fin:a'.defers=[]∧∃v',(results fn a'.tmps).run P w'= .ok v' w'∧∃v u X' H',Ending.returned v'= .returned u∧VA w' X' H' v u∧ZL w' X' H'∧Ev w X H w' X' H'∧Q v H':=
  ⟨h1.defs,u,k1,v,u,X',H',rfl,k2.mono h4.ev,h4.rel h1.heap,h2.trans h4.ev,h5⟩
 rcases he with rfl|rfl
 · exact fin
 · exact fin
theorem Jn.mono{P:Program}{f:FuncId}{args:List AV}{H:Jm}{Q Q':AV→Jm→Prop}(h:Jn P f args H Q)(hq:∀v H',Q v H'→Q' v H'):Jn P f args H Q':=
 fun w X vs hH hvs=>(h w X vs hH hvs).mono fun _ _ ⟨v,u,X',H',h1,h2,h3,h4,h5⟩=>⟨v,u,X',H',h1,h2,h3,h4,hq _ _ h5⟩
end Go.Lg

namespace Go.Lg
def JdB:AV→Option Value
 | .c (.f x)=>if Fk x then some (scal x)else none
 |_=>none
def KE:AV→Option Value
 | .c (.f x)=>if Fk x then some (scal x)else none
 | .tup vs=>(vs.mapM JdB).map fun l=> .tuple l.toArray
 |_=>none
theorem KF{v:AV}{u:Value}(h:JdB v=some u):(∀(w:World) (X:Cx) (H:Jm),VA w X H v u)∧∀(w:World) (X:Cx) (H:Jm) u',VA w X H v u'→u'=u:=by
 unfold JdB at h
 split at h
 · rename_i x
   split at h
   · rename_i hx
     cases h
     refine⟨fun w X H=> .c _ _ (GU hx),fun w X H u' hu=> ?_⟩
     have hu:=Uy hu
     cases x<;>simp[Fk]at hx<;>(have hu:VF w X.I _ u':=hu;cases hu;rfl)
   · cases h
 · cases h
theorem VQ{v:AV}{u:Value}(h:KE v=some u):(∀(w:World) (X:Cx) (H:Jm),VA w X H v u)∧∀(w:World) (X:Cx) (H:Jm) u',VA w X H v u'→u'=u:=by
 unfold KE at h
 split at h
 · rename_i x;exact KF h
 · rename_i vs
   cases hm:vs.mapM JdB with
   |none=>simp[hm]at h
   |some l=>
    simp[hm]at h
    subst h
    obtain⟨hl,hg⟩:=Uh hm
    have hg':∀j (hj:j<vs.length),JdB vs[j]=some (l.getD j undef):=fun j hj=>by
     obtain⟨y,h1,h2⟩:=hg j hj
     simp only[List.getD,h1,Option.getD_some]
     exact h2
    have e:((List.range vs.length).map fun i=>l.getD i undef)=l:=by
     apply List.ext_getElem
     · simp[hl]
     · intro i q1 q2
       simp[List.getD,Jq q2]
    refine⟨fun w X H=> ?_,fun w X H u' hu=> ?_⟩
    · have:=VA.tup (w:=w) (X:=X) (H:=H) vs (fun i=>l.getD i undef) fun j hj=>(KF (hg' j hj)).1 w X H
      rw[e]at this
      exact this
    · cases hu with
      |tup vs us hus=>
       have:((List.range vs.length).map us)=l:=by
        rw[←e]
        apply List.map_congr_left
        intro j hj
        have hj:j<vs.length:=by simpa using hj
        exact(KF (hg' j hj)).2 w X H _ (hus j hj)
       rw[this]
 · cases h
def fvs:List CV→Option (List FV)
 |[]=>some []
 | .f x::l=>(fvs l).map (x::·)
 |_=>none
theorem JfN:∀{l:List CV} {xs:List FV},fvs l=some xs→l=xs.map .f
 |[],xs,h=>by cases h;rfl
 |c::l,xs,h=>by
  unfold fvs at h
  split at h
  · rename_i heq;cases heq
  · rename_i x l' heq
    cases heq
    cases hl:fvs l with
    |none=>simp[hl]at h
    |some ys=>simp[hl]at h;subst h;simp[JfN hl]
  · cases h
def JaP(H:Jm):CV→Option CV
 | .own id g off n lim=>match look H id g with
   |some b=>(fvs ((b.cs.drop off).take (n*b.sz))).map fun xs=> .f (.sl n xs)
   |none=>none
 | .f x=>some (.f x)
 | .fp cs off=>some (.fp cs off)
 | .nilp=>some .nilp
 | .nilf=>some .nilf
 | .emp=>some .emp
 |_=>none
def R9(H:Jm):AV→Option AV
 | .c x=>(JaP H x).map .c
 | .agg cs=>(cs.mapM (JaP H)).map .agg
 | .void=>some .void
 |_=>none
def Cx.still(X:Cx)(w:World):Cx:={X with I:=fun b=>b<w.heap.size}
theorem VF.wide{w:World}{I I':Nat→Prop}(h:∀b,I b→I' b){x:FV}{v:Value}(hv:VF w I x v):VF w I' x v:=
 hv.mono (w':=w) (I':=I') fun b hb=>⟨h b hb,rfl⟩
theorem FL{w w':World}{X:Cx}{H:Jm}(R:ZL w X H)(hg:Z6 w w'){x y:CV}{v:Value}(h:JaP H x=some y)(hv:VC w X H x v):VC w' (X.still w') [] y v:=by
 have hI:∀b,X.I b→(X.still w').I b∧w'.heap[b]? =w.heap[b]? :=fun b hb=>⟨Nat.lt_of_lt_of_le (R.imm b hb) hg.size,hg.blk b (R.imm b hb)⟩
 unfold JaP at h
 split at h
 · rename_i id g off n lim
   split at h
   · rename_i b hl
     cases hf:fvs ((b.cs.drop off).take (n*b.sz))with
     |none=>simp[hf]at h
     |some xs=>
      simp[hf]at h
      subst h
      have hcs:=JfN hf
      obtain⟨hgt,_,hall⟩:=hv
      obtain⟨c1,a0,cap,rfl,c2,c3,c4,c5⟩:=hall b hl
      obtain⟨hid,hgg⟩:=JG hl
      subst hgg
      obtain⟨_,_,cc,t,g3,g4,g5,g6⟩:=R.blk id b hid
      have hlen:xs.length=n*b.sz:=by
       have:=congrArg List.length hcs
       simp at this
       omega
      by_cases h0:n*b.sz=0
      · have hx0:xs=[]:=List.eq_nil_of_length_eq_zero (by omega)
        subst hx0
        by_cases hn:n=0
        · subst hn;exact VF.sl0 _ _
        · by_cases hcap:cap=0
          · omega
          · have:=c3 hcap
            subst this
            exact VF.sl n [] (X.mu b.g) off cap (fun _=>undef) c2 (Nat.lt_of_lt_of_le (Array.getElem?_eq_some_iff.1 g3).1 hg.size) (fun j hj=>absurd hj (by simp)) (fun j hj=>absurd hj (by simp))
      · have hn:n≠0:=fun h=>h0 (by rw[h];simp)
        have:=c3 (by omega)
        subst this
        have hblk:w'.heap[X.mu b.g]? =some (.cells cc t (0,0)):=by rw[hg.blk _ (Array.getElem?_eq_some_iff.1 g3).1];exact g3
        have hget:∀j,j<xs.length→∃u,cc[off+j]? =some u∧∀h:j<xs.length,VF w X.I xs[j] u:=fun j hj=>by
         obtain⟨u,h7,h8⟩:=g6 (off+j) (by omega)
         refine⟨u,h7,fun hj=> ?_⟩
         have e:b.cs[off+j]'(by omega)= .f xs[j]:=by
          have:=congrArg (fun l=>l[j]?) hcs
          simp[hj,show j<n*b.sz by omega,show off+j<b.cs.length by omega]at this
          exact this
         rw[e]at h8
         exact h8
        refine VF.sl n xs (X.mu b.g) off cap (fun j=>cc.getD (off+j) undef) c2 (Nat.lt_of_lt_of_le (Array.getElem?_eq_some_iff.1 g3).1 hg.size) (fun j hj=> ?_) (fun j hj=> ?_)
        · obtain⟨u,h7,h8⟩:=hget j hj
          simp[World.cell?,hblk,Array.getD_eq_getD_getElem?,h7]
        · obtain⟨u,h7,h8⟩:=hget j hj
          simp only[Array.getD_eq_getD_getElem?,h7,Option.getD_some]
          exact(h8 hj).mono hI
   · cases h
 · cases h;exact VF.mono hI hv
 · cases h
   obtain⟨b,o,h1,h2,h3⟩:=hv
   exact⟨b,o,h1,(hI b h2).1,h3.mono hI h2⟩
 · cases h;exact hv
 · cases h;exact hv
 · cases h;exact hv
 · cases h
theorem JcB{w w':World}{X:Cx}{H:Jm}(R:ZL w X H)(hg:Z6 w w'){x y:AV}{v:Value}(h:R9 H x=some y)(hv:VA w X H x v):VA w' (X.still w') [] y v:=by
 unfold R9 at h
 split at h
 · rename_i x
   cases hs:JaP H x with
   |none=>simp[hs]at h
   |some z=>simp[hs]at h;subst h;exact .c _ _ (FL R hg hs (Uy hv))
 · rename_i cs
   cases hs:cs.mapM (JaP H)with
   |none=>simp[hs]at h
   |some z=>
    simp[hs]at h;subst h
    obtain⟨h1,h2⟩:=Uh hs
    cases hv with
    |agg cs vs hsz hc=>
     refine .agg _ _ (by omega) fun j hj=> ?_
     obtain⟨y,h3,h4⟩:=h2 j (by omega)
     obtain⟨u,h5,h6⟩:=hc j (by omega)
     have:z[j]=y:=by simpa[Jq hj]using h3
     rw[this]
     exact⟨u,h5,FL R hg h4 h6⟩
 · cases h;cases hv;exact .void
 · cases h
theorem R3{P:Program}{f:FuncId}{args args':List AV}{w w':World}{X:Cx}{H:Jm}{vs:Array Value}{v:AV}{u:Value}(R:ZL w X H)(hg:Z6 w w')(hvs:VAs w X H args vs)(hs:args.mapM (R9 H)=some args')
 (hf:KE v=some u) (hc:Jn P f args' [] fun r _=>r=v):Calls P f vs w' fun e w''=>e= .returned u∧Z6 w' w'':=by
 obtain⟨hl,hgm⟩:=Uh hs
 have R0:ZL w' (X.still w') []:=⟨fun b hb=>hb,fun id b hb=>by simp at hb,fun id id' b b' hb=>by simp at hb,R.tab.mono fun b hb=>⟨Nat.lt_of_lt_of_le (R.imm b hb) hg.size,hg.blk b (R.imm b hb)⟩⟩
 refine(hc w' (X.still w') vs R0 ⟨by rw[hvs.1,hl],fun i hi=> ?_⟩).mono fun e w'' ⟨r,u',X',H',h1,h2,h3,h4,h5⟩=> ?_
 · obtain⟨x,h1,h2⟩:=hvs.2 i (by omega)
   obtain⟨y,h3,h4⟩:=hgm i (by omega)
   have:args'[i]=y:=by simpa[Jq hi]using h3
   rw[this]
   exact⟨x,h1,JcB R hg h4 h2⟩
 · subst h5
   refine⟨by rw[h1,(VQ hf).2 _ _ _ _ h2],fun b hb=>(h4.imm b hb).2,h4.size,h4.os,h4.tape,h4.output⟩
def Qc(st:St)(fo:Operand)(xs:Array Operand):Option (FuncId×List AV):=
 match QY st.s fo with
 | .c (.fn f [])=>some (f,xs.toList.map (QY st.s))
 |_=>none
theorem V9{P:Program}{o:Oper}{w:World}{X:Cx}{a:Act}{st:St}(R:XC w X a st){fo:Operand}{xs:Array Operand}{ts:Array TypeId}{f:FuncId}{args:List AV}
 (ho:o.op= .call ⟨.value fo,xs,ts⟩) (h:Qc st fo xs=some (f,args)) (he:Ji P f):
 ∃vs,(∀w',(execOp a.eval o).run P w'= .ok (.enter f vs) w')∧VAs w X st.h args vs:=by
 unfold Qc at h
 split at h
 · rename_i f' e
   cases h
   have hfv:=J7 R fo
   rw[e]at hfv
   have hfe:=(Uy hfv).2.2 (by simp)
   refine⟨xs.map a.eval,fun w'=> ?_,by simp,fun i hi=> ?_⟩
   · simp only[execOp,ho,resolve,Sem.run_bind,hfe,Deferred.ofValue,Sem.run_pure,Result.andThen_ok,invoke]
     rw[Bj he]
     simp
   · simp only[Qs,Array.length_toList]at hi
     refine⟨a.eval xs[i],by simp[hi], ?_⟩
     simp only[List.getElem_map,Array.getElem_toList]
     exact J7 R _
 · cases h
theorem JZ.callStill{P:Program}{o:Oper}{st:St}{K:AV→Jm→Prop}{fo:Operand}{xs:Array Operand}{ts:Array TypeId}{f:FuncId}{args args':List AV}{v:AV}{u:Value}
 (ho:o.op= .call ⟨.value fo,xs,ts⟩) (ha:Qc st fo xs=some (f,args)) (he:Ji P f) (hs:args.mapM (R9 st.h)=some args')
 (hc:Jn P f args' [] fun r _=>r=v) (hf:KE v=some u) (hk:K v st.h):JZ P o st K:=by
 intro w X a R next Q hn
 obtain⟨vs,h1,h2⟩:=V9 (P:=P) R ho ha he
 refine R5 (h1 w) ((R3 R.heap (Z6.refl w) h2 hs hf hc).mono fun e w' ⟨h3,h4⟩=>⟨u,h3, ?_⟩)
 exact hn v u X st.h w' ((VQ hf).1 _ _ _) (h4.rel R.heap) (h4.ev R.heap) hk
def Quiet(P:Program)(o:Oper)(st:St)(v:AV):Prop:=
 ∀w X a,XC w X a st→∃u,VA w X st.h v u∧∀w',Z6 w w'→o.quietAt P a (Z6 w) w' u
theorem Quiet.val{P:Program}{o:Oper}{st:St}{v:AV}(h:X8 P st.s st.h o.op=some v):Quiet P o st v:=by
 intro w X a R
 obtain⟨u,h1,h2⟩:=Wm (P:=P) R h
 refine⟨u,h2,fun w' hg=> ?_⟩
 unfold Oper.quietAt
 rw[h1 w' hg o rfl]
 exact⟨rfl,rfl⟩
theorem Quiet.call{P:Program}{o:Oper}{st:St}{fo:Operand}{xs:Array Operand}{ts:Array TypeId}{f:FuncId}{args args':List AV}{v:AV}{u:Value}
 (ho:o.op= .call ⟨.value fo,xs,ts⟩) (ha:Qc st fo xs=some (f,args)) (he:Ji P f) (hs:args.mapM (R9 st.h)=some args')
 (hc:Jn P f args' [] fun r _=>r=v) (hf:KE v=some u):Quiet P o st v:=by
 intro w X a R
 obtain⟨vs,h1,h2⟩:=V9 (P:=P) R ho ha he
 refine⟨u,(VQ hf).1 _ _ _,fun w' hg=> ?_⟩
 unfold Oper.quietAt
 rw[h1 w']
 exact⟨rfl,(R3 R.heap hg h2 hs hf hc).mono fun e w'' ⟨h3,h4⟩=>⟨h3,hg.trans h4⟩⟩
end Go.Lg
