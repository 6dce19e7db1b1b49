/- LgS, cut to what is needed. -/
import Derived.Test.YtidekghnkifbjaaGreatDoorJea4
import Derived.Orders
open List renaming getElem?_set_ne → Jg, getElem?_eq_getElem → Jq, getElem?_eq_none → Jx, getElem?_set_self → JX, mapM_cons → J4, length_map → Qs, getElem?_map → Qv
open Nat renaming reduceAdd→zA,reduceMul→zM,reduceSub→zS,reduceEqDiff→zE,reduceLeDiff→zL
set_option linter.unusedSimpArgs false
set_option linter.unusedVariables false
namespace Go.Lg
structure Wc(w:World)(X X':Cx):Prop where
 mu:X'.mu=X.mu
 sz:X'.sz=X.sz
 t:X'.t=X.t
 sub:∀b,X.I b→X'.I b
 new:∀b,X'.I b→X.I b∨w.heap.size≤b
theorem Wc.refl(w:World)(X:Cx):Wc w X X:=⟨rfl,rfl,rfl,fun _ h=>h,fun _ h=> .inl h⟩
theorem Wc.trans{w w':World}{X X' X'':Cx}(h:Wc w X X')(k:Wc w' X' X'')(hs:w.heap.size≤w'.heap.size):Wc w X X'':=
 ⟨k.mu.trans h.mu,k.sz.trans h.sz,k.t.trans h.t,fun b hb=>k.sub b (h.sub b hb),fun b hb=>(k.new b hb).elim (h.new b) fun hl=> .inr (Nat.le_trans hs hl)⟩
theorem Wc.ev{w w':World}{X X':Cx}{H:Jm}(hw:Wc w X X')(hg:Z6 w w')(R:ZL w X H):Ev w X H w' X' H:=
 ⟨fun b hb=>⟨hw.sub b hb,hg.blk b (R.imm b hb)⟩,by rw[hw.t];exact Nat.le_refl _,fun g _=>⟨by rw[hw.mu],by rw[hw.sz]⟩,hg.size,hg.os,hg.tape,hg.output,Sub.refl _ _,
  fun b hb _=>hg.blk b hb,fun b ⟨id,blk,h1,h2⟩=> .inl ⟨id,blk,h1,by rw[←h2,hw.mu]⟩,fun b hb=>(hw.new b hb).elim .inl fun h=> .inr (.inr h)⟩
theorem Wc.rel{w w':World}{X X':Cx}{H:Jm}(hw:Wc w X X')(hg:Z6 w w')(hi:∀b,X'.I b→b<w'.heap.size)(R:ZL w X H):ZL w' X' H:=
 ⟨hi,fun id b hb=>by
   obtain⟨h1,h2,cc,t,h3,h4,h5,h6⟩:=R.blk id b hb
   have hlt:=(Array.getElem?_eq_some_iff.1 h3).1
   refine⟨by rw[hw.t];exact h1,by rw[hw.mu];exact fun h=>(hw.new _ h).elim h2 fun h=>absurd hlt (Nat.not_lt.2 h),cc,t,by rw[hw.mu,hg.blk _ hlt];exact h3,by rw[hw.sz];exact h4,h5,fun j hj=> ?_⟩
   obtain⟨u,k1,k2⟩:=h6 j hj
   exact⟨u,k1,k2.mono (hw.ev hg R)⟩,fun id id' b b' hb hb' he=>R.inj id id' b b' hb hb' (by rw[hw.mu]at he;exact he),R.tab.mono fun b hb=>⟨hw.sub b hb,hg.blk b (R.imm b hb)⟩⟩
structure Jfa(w:World)(X:Cx)(a:Act)(s:List AV)(H:Jm)(T:List Tmp):Prop where
 defs:a.defers=[]
 size:a.tmps.size=s.length
 slot:∀t∈T,t<s.length→VA w X H (s.getD t .void) (a.tmps.getD t undef)
 heap:ZL w X H
def restr(T:List Tmp)(s:List AV):List AV:=(List.range s.length).map fun i=>if i∈T then s.getD i .void else .any
theorem V1(T:List Tmp)(s:List AV):(restr T s).length=s.length:=by simp[restr]
theorem Fa(T:List Tmp)(s:List AV){t:Tmp}(h:t∈T):(restr T s).getD t .void=s.getD t .void:=by
 by_cases hl:t<s.length
 · simp only[restr,List.getD,Qv,List.getElem?_range hl,Option.map_some,h,if_true,Option.getD_some]
 · simp only[List.getD]
   have hl':s.length≤t:=Nat.le_of_not_lt hl
   rw[Jx (by simpa[restr]using hl'),Jx hl']
theorem Jfa.restr{w:World}{X:Cx}{a:Act}{s:List AV}{H:Jm}{T:List Tmp}(R:Jfa w X a s H T):XC w X a ⟨restr T s,H⟩:=by
 refine⟨R.defs,by rw[R.size,V1],fun i hi=> ?_,R.heap⟩
 have hi':i<s.length:=by simpa[V1]using hi
 have hs:i<a.tmps.size:=by rw[R.size];exact hi'
 refine⟨a.tmps[i],Array.getElem?_eq_getElem hs, ?_⟩
 have e:(Lg.restr T s)[i]=if i∈T then s.getD i .void else .any:=by simp[Lg.restr]
 simp only[e]
 split
 · rename_i hT
   have:=R.slot i hT hi'
   simpa[Array.getD,hs]using this
 · exact .any _
theorem Ym{T:List Tmp}{s:List AV}{x:Operand}(h:∀t,x= .tmp t→t∈T):QY (restr T s) x=QY s x:=by
 cases x with
 |tmp t=>exact Fa T s (h t rfl)
 |_=>rfl
def Vw(P:Program)(ops:Array Oper)(o:Oper)(s:List AV)(H:Jm)(v:AV):Prop:=
 ∀w X a,Jfa w X a s H (o.looksAt ops)→∀next Q,(∀u w' X',Z6 w w'→Wc w X X'→VA w' X' H v u→ZL w' X' H→next (a.put o.dst u) w')→o.wp P a w next Q
theorem Vr{ops:Array Oper}{o:Oper}{x:Operand}(hx:x∈o.op.operands):∀t,x= .tmp t→t∈o.looksAt ops:=by
 rintro t rfl
 unfold Oper.looksAt
 refine List.mem_append_left _ ?_
 rw[List.mem_filterMap]
 exact⟨.tmp t,by simpa using hx,rfl⟩
theorem WW{s s':List AV}:∀(ps:List (Nat×Operand)),(∀p∈ps,QY s' p.2=QY s p.2)→Vm s' ps=Vm s ps
 |[],_=>rfl
 |(i,x)::r,h=>by
  simp only[Vm]
  rw[h (i,x) (by simp),WW r fun p hp=>h p (by simp[hp])]
theorem FT{α β:Type}{f g:α→Option β}:∀(l:List α),(∀x∈l,f x=g x)→l.mapM f=l.mapM g
 |[],_=>rfl
 |x::l,h=>by
  rw[J4,J4,h x (by simp),FT l fun y hy=>h y (by simp[hy])]
theorem Ye{P:Program}{s s':List AV}{H:Jm}{op:Op}(h:∀x∈op.operands,QY s' x=QY s x):X8 P s' H op=X8 P s H op:=by
 cases op with
 |move x=>simp only[X8,h x (by simp[Op.operands])]
 |assign x=>simp only[X8,h x (by simp[Op.operands])]
 |pick c x y=>simp only[X8,h c (by simp[Op.operands]),h x (by simp[Op.operands]),h y (by simp[Op.operands])]
 |nilCheck x=>simp only[X8,h x (by simp[Op.operands])]
 |binOp op t x y u=>simp only[X8,JaE,h x (by simp[Op.operands]),h y (by simp[Op.operands])]
 |unOp op t x=>simp only[X8,h x (by simp[Op.operands])]
 |convert a b x=>simp only[X8,h x (by simp[Op.operands])]
 |fieldAddr t x f=>simp only[X8,h x (by simp[Op.operands])]
 |field t x f=>simp only[X8,h x (by simp[Op.operands])]
 |indexAddr t x i=>simp only[X8,h x (by simp[Op.operands]),h i (by simp[Op.operands])]
 |index t x i=>simp only[X8,h x (by simp[Op.operands]),h i (by simp[Op.operands])]
 |extract t i=>simp only[X8,h t (by simp[Op.operands])]
 |load t x=>simp only[X8,h x (by simp[Op.operands])]
 |slice t x lo hi mx=>
  have hb:∀q:Option Operand,(∀y,q=some y→QY s' y=QY s y)→Wb s' q=Wb s q:=by
   intro q hq
   cases q with
   |none=>rfl
   |some y=>simp only[Wb,hq y rfl]
  simp only[X8]
  rw[h x (by simp[Op.operands]),hb lo fun y hy=>h y (by subst hy;simp[Op.operands]),hb hi fun y hy=>h y (by subst hy;simp[Op.operands]),hb mx fun y hy=>h y (by subst hy;simp[Op.operands])]
 |makeFunc f fi ca=>
  have:ca.toList.mapM (Ka s')=ca.toList.mapM (Ka s):=FT _ fun x hx=>by
   have:=h x (by simp only[Op.operands,Array.mem_append];exact .inr (by simpa using hx))
   simp only[Ka,this]
  cases f with
  |func f=>simp only[X8];rw[this]
  |_=>rfl
 |call c=>
  obtain⟨callee,args,ts⟩:=c
  cases callee with
  |builtin b=>
   have hh:∀x∈args.toList,QY s' x=QY s x:=fun x hx=>h x (by simp[Op.operands,Call.operands];simpa using hx)
   simp only[X8,Jca]
   generalize args.toList=al at hh
   generalize ts.toList=tl
   cases al with
   |nil=>cases b<;>rfl
   |cons x al=>
    cases al with
    |nil=>
     have:=hh x (by simp)
     cases b<;>first|rfl|(cases tl with
      |nil=>rfl
      |cons t tl=>cases tl with
       |nil=>simp only[this]
       |cons=>rfl)
    |cons y al=>
     have h1:=hh x (by simp)
     have h2:=hh y (by simp)
     cases al with
     |nil=>cases b<;>first|rfl|simp only[h1,h2]
     |cons z al=>cases b<;>rfl
  |_=>rfl
 |_=>rfl
theorem Vw.val{P:Program}{ops:Array Oper}{o:Oper}{s:List AV}{H:Jm}{v:AV}(h:X8 P s H o.op=some v):Vw P ops o s H v:=by
 intro w X a R next Q hn
 have R':=R.restr
 have h':X8 P (restr (o.looksAt ops) s) H o.op=some v:=by
  rw[Ye fun x hx=>Ym (Vr hx)];exact h
 obtain⟨u,h1,h2⟩:=Wm (P:=P) R' h'
 exact Z7 (h1 w (Z6.refl w) o rfl) (hn u w X (Z6.refl w) (Wc.refl _ _) h2 R.heap)
theorem Wa{s s':List AV}{H H':Jm}{fo:Operand}{xs:Array Operand}(ts:Array TypeId)(h:∀x∈Call.operands ⟨.value fo,xs,ts⟩,QY s' x=QY s x):Qc ⟨s',H'⟩ fo xs=Qc ⟨s,H⟩ fo xs:=by
 have e1:QY s' fo=QY s fo:=h fo (by simp[Call.operands])
 have e2:xs.toList.map (QY s')=xs.toList.map (QY s):=List.map_congr_left fun x hx=>h x (by simp only[Call.operands,Array.mem_append];exact .inr (by simpa using hx))
 simp only[Qc,e1,e2]
theorem Vw.flat{P:Program}{ops:Array Oper}{o:Oper}{s:List AV}{H:Jm}{fo:Operand}{xs:Array Operand}{ts:Array TypeId}{f:FuncId}{args args':List AV}{v:AV}{u:Value}
 (hc:JW P f args' v) (he:Ji P f) (ho:o.op= .call ⟨.value fo,xs,ts⟩) (ha:Qc ⟨s,H⟩ fo xs=some (f,args)) (hs:args.mapM (R9 H)=some args') (hf:KE v=some u):Vw P ops o s H v:=by
 intro w X a R next Q hn
 have R':=R.restr
 have ha':Qc ⟨restr (o.looksAt ops) s,H⟩ fo xs=some (f,args):=by
  rw[Wa (s:=s) (H:=H) ts fun x hx=>Ym (Vr (by rw[ho];exact hx))];exact ha
 obtain⟨vs,h1,h2⟩:=V9 (P:=P) R' ho ha' he
 refine R5 (h1 w) ((R3 R.heap (Z6.refl w) h2 hs hf hc).mono fun e w' ⟨h3,h4⟩=>⟨u,h3, ?_⟩)
 exact hn u w' X h4 (Wc.refl _ _) ((VQ hf).1 _ _ _) (h4.rel R.heap)
def Gw:AV→Bool
 | .tup vs=>vs.all Q2
 |v=>Q2 v
theorem Jay{w:World}{X X':Cx}{H H':Jm}{x:AV}{v:Value}(h:VA w X H x v)(hf:Gw x=true)(hI:X'.I=X.I):VA w X' H' x v:=by
 have hc:∀{x:CV} {v:Value},VC w X H x v→XP x=true→VC w X' H' x v:=by
  intro x v h hf
  unfold XP at hf
  split at hf
  · have h:VF w X.I _ v:=h
    rw[←hI]at h
    exact h
  · obtain⟨b,o,h1,h2,h3⟩:=h
    exact⟨b,o,h1,by rw[hI];exact h2,by rw[hI];exact h3⟩
  · exact h
  · exact h
  · exact h
  · exact⟨by simp,h.2.1,fun _=>by simpa using h.2.2 (by simp)⟩
  · cases hf
 have h1:∀{x:AV} {v:Value},VA w X H x v→Q2 x=true→VA w X' H' x v:=by
  intro x v h hf
  cases h with
  |c x v h=>exact .c _ _ (hc h hf)
  |agg cs vs hs h=>
   refine .agg _ _ hs fun j hj=> ?_
   obtain⟨u,h1,h2⟩:=h j hj
   exact⟨u,h1,hc h2 (List.all_eq_true.1 hf _ (List.getElem_mem hj))⟩
  |tup vs us h=>cases hf
  |void=>exact .void
  |any v=>exact .any v
 cases x with
 |tup vs=>
  cases h with
  |tup vs us hus=>exact .tup vs us fun j hj=>h1 (hus j hj) (List.all_eq_true.1 hf _ (List.getElem_mem hj))
 |c x=>exact h1 h hf
 |agg cs=>exact h1 h hf
 |void=>exact h1 h hf
 |any=>exact h1 h hf
theorem Vw.ops{P:Program}{ops:Array Oper}{o:Oper}{s:List AV}{H:Jm}{v:AV}(hz:∀x∈o.op.operands,Q2 (QY s x)=true)
 (hf:Gw v=true) (hop:∀s',(∀x∈o.op.operands,QY s' x=QY s x)→JZ P o ⟨s',[]⟩ fun r H'=>Vu H' r=some v):Vw P ops o s H v:=by
 intro w X a R next Q hn
 --only the operands are told,of a heap in which nothing is the call's own
 let T:=o.looksAt ops
 let s':List AV:=(restr T s).map fun x=>if Q2 x=true then x else .any
 have e0:∀t,s'.getD t .void=if Q2 ((restr T s).getD t .void)=true then(restr T s).getD t .void else .any:=by
  intro t
  by_cases hl:t<(restr T s).length
  · simp[s',List.getD,Qv,Jq hl]
  · have hl':(restr T s).length≤t:=Nat.le_of_not_lt hl
    have q1:s'.getD t .void= .void:=by simp only[List.getD];rw[Jx (by simpa only[s',Qs]using hl')];rfl
    have q2:(restr T s).getD t .void= .void:=by simp only[List.getD];rw[Jx hl'];rfl
    rw[q1,q2];rfl
 have hs':∀x∈o.op.operands,QY s' x=QY s x:=by
  intro x hx
  cases x with
  |tmp t=>
   have ht:=Vr (ops:=ops) hx t rfl
   have hfz:=hz _ hx
   simp only[QY]at hfz⊢
   rw[e0,Fa _ _ ht,if_pos hfz]
  |_=>rfl
 have R1:=R.restr
 have R0:ZL w X []:=⟨R.heap.imm,fun id b hb=>by simp at hb,fun id id' b b' hb=>by simp at hb,R.heap.tab⟩
 have R':XC w X a ⟨s',[]⟩:=by
  refine⟨R1.defs,by simp only[s',Qs];exact R1.size,fun i hi=> ?_,R0⟩
  have hi':i<(restr T s).length:=by simpa[s']using hi
  obtain⟨u,h1,h2⟩:=R1.slot i hi'
  refine⟨u,h1, ?_⟩
  simp only[s',List.getElem_map]
  split
  · rename_i h;exact Rv h2 h
  · exact .any _
 refine hop s' hs' w X a R' next Q fun r u X' H' w' h1 h2 h3 h4=> ?_
 have no:∀b,¬Kc X [] b:=fun b ⟨id,blk,h,_⟩=>by simp at h
 have hg:Z6 w w':=⟨fun b hb=>h3.frame b hb (no b),h3.size,h3.os,h3.tape,h3.output⟩
 have hv:=NO h2 h4 h1
 have hI:∀b,(X'.ice H').I b→X.I b∨w.heap.size≤b:=fun b hb=>by
  rcases hb with hb|hb
  · exact(h3.inI b hb).elim .inl fun h=>h.elim (fun h=>absurd h (no b)) .inr
  · exact(h3.own b hb).elim (fun h=>absurd h (no b)) .inr
 let X2:Cx:={X with I:=(X'.ice H').I}
 have hw:Wc w X X2:=⟨rfl,rfl,rfl,fun b hb=> .inl (h3.imm b hb).1,hI⟩
 exact hn u w' X2 hg hw (Jay hv hf rfl) (hw.rel hg (JfK h2).imm R.heap)
def Zb(ops:Array Oper):Nat→Nat→Nat→Bool
 |0,_,_=>false
 |f+1,i,j=>match ops[i]? with
  |some o=>(o.after.any fun e=>Region.binds .any e&&e.on==j)||o.after.any fun e=>Region.binds .any e&&Zb ops f e.on j
  |none=>false
def FH(ops:Array Oper)(L:Array Bool):Prop:=∀(j:Nat) (o:Oper),ops[j]? =some o→L.getD j false=true→∀e∈o.after,Region.binds .any e=true→L.getD e.on false=true
theorem VV{ops:Array Oper}{L:Array Bool}(hc:FH ops L):∀(f i j:Nat),Zb ops f i j=true→(∀o,ops[i]? =some o→∀e∈o.after,Region.binds .any e=true→L.getD e.on false=true)→L.getD j false=true
 |0,i,j,h,_=>by cases h
 |f+1,i,j,h,hi=>by
  unfold Zb at h
  split at h
  · rename_i o ho
    rcases Bool.or_eq_true_iff.1 h with h|h
    · obtain⟨e,he,hb⟩:=Array.any_eq_true'.1 h
      simp only[Bool.and_eq_true,beq_iff_eq]at hb
      rw[←hb.2];exact hi o ho e he hb.1
    · obtain⟨e,he,hb⟩:=Array.any_eq_true'.1 h
      simp only[Bool.and_eq_true]at hb
      have h1:=hi o ho e he hb.1
      have h2:=hb.2
      exact VV hc f e.on j h2 fun o' ho' e' he' hb'=>hc e.on o' ho' h1 e' he' hb'
  · cases h
def U6(ops:Array Oper)(i j:Nat):Bool:=
 match ops[i]?,ops[j]? with
 |some o,some o'=>match o'.dst with
  |some d=>(o.looksAt ops).contains d||o.dst==some d
  |none=>false
 |_,_=>false
def JaN(ops:Array Oper):Bool:=
 (List.range ops.size).all fun i=>
   (match ops[i]? with|some o=>o.after.all fun e=> !Region.binds .any e||decide (e.on<i)|none=>true)&&
   (List.range ops.size).all fun j=>decide (i=j)|| !U6 ops i j||(if j<i then Zb ops ops.size i j else Zb ops ops.size j i)
theorem Jec{ops:Array Oper}(h:JaN ops=true){i:Nat}{o:Oper}(ho:ops[i]? =some o){e:Edge}(he:e∈o.after)(hb:Region.binds .any e=true):e.on<i:=by
 have hi:i<ops.size:=(Array.getElem?_eq_some_iff.1 ho).1
 have h1:=List.all_eq_true.1 h i (List.mem_range.2 hi)
 simp only[ho,Bool.and_eq_true]at h1
 have h2:=Array.all_eq_true'.1 h1.1 e he
 simpa[hb]using h2
theorem FJ{ops:Array Oper}(h:JaN ops=true){i j:Nat}{o o':Oper}(ho:ops[i]? =some o)(ho':ops[j]? =some o')(hij:i≠j){d:Tmp}(hd:o'.dst=some d)(hm:d∈o.looksAt ops∨o.dst=some d):
 if j<i then Zb ops ops.size i j=true else Zb ops ops.size j i=true:=by
 have hi:i<ops.size:=(Array.getElem?_eq_some_iff.1 ho).1
 have hj:j<ops.size:=(Array.getElem?_eq_some_iff.1 ho').1
 have h1:=List.all_eq_true.1 h i (List.mem_range.2 hi)
 simp only[ho,Bool.and_eq_true]at h1
 have h2:=List.all_eq_true.1 h1.2 j (List.mem_range.2 hj)
 have hmm:U6 ops i j=true:=by
  simp only[U6,ho,ho',hd,Bool.or_eq_true]
  rcases hm with hm|hm
  · exact .inl (by simpa using hm)
  · exact .inr (by simp[hm])
 simp only[hmm,Bool.not_true,Bool.or_false,Bool.or_eq_true,decide_eq_true_eq]at h2
 rcases h2 with h2|h2
 · exact absurd h2 hij
 · split<;>rename_i hlt<;>simpa[hlt]using h2
def ZD(ops:Array Oper)(vals:Nat→AV)(s:List AV)(L:Nat→Bool)(d:Tmp):Nat→AV
 |0=>s.getD d .void
 |n+1=>if L n=true∧(ops[n]?).bind (·.dst)=some d then vals n else ZD ops vals s L d n
theorem VY{ops:Array Oper}{vals:Nat→AV}{s:List AV}{L L':Nat→Bool}{d:Tmp}:∀(n:Nat),(∀j,j<n→(ops[j]?).bind (·.dst)=some d→L j=L' j)→ZD ops vals s L d n=ZD ops vals s L' d n
 |0,_=>rfl
 |n+1,h=>by
  simp only[ZD]
  rw[VY n fun j hj=>h j (by omega)]
  by_cases hd:(ops[n]?).bind (·.dst)=some d
  · rw[h n (by omega) hd]
  · simp[hd]
theorem FN{ops:Array Oper}{vals:Nat→AV}{s:List AV}{L:Nat→Bool}{d:Tmp}{i:Nat}(hi:L i=true)(hd:(ops[i]?).bind (·.dst)=some d):
 ∀(n:Nat),i<n→(∀j,i<j→j<n→(ops[j]?).bind (·.dst)=some d→L j=false)→ZD ops vals s L d n=vals i
 |0,h,_=>absurd h (by omega)
 |n+1,h,hall=>by
  simp only[ZD]
  by_cases he:i=n
  · subst he;rw[if_pos ⟨hi,hd⟩]
  · rw[if_neg,FN hi hd n (by omega) fun j h1 h2=>hall j h1 (by omega)]
    rintro⟨h1,h2⟩
    rw[hall n (by omega) (by omega) h2]at h1
    cases h1
theorem FM{ops:Array Oper}{vals:Nat→AV}{s:List AV}{d:Tmp}{i:Nat}:∀(n:Nat),i≤n→ZD ops vals s (fun j=>decide (j<i)) d n=ZD ops vals s (fun _=>true) d i
 |0,h=>by
  have:i=0:=by omega
  subst this;rfl
 |n+1,h=>by
  by_cases he:i=n+1
  · subst he
    exact VY _ fun j hj _=>by simp[hj]
  · simp only[ZD]
    rw[if_neg (by simp;omega)]
    exact FM n (by omega)
structure JmC(P:Program)(ops:Array Oper)(s:List AV)(H:Jm)(vals:Nat→AV):Prop where
 step:∀(i:Nat) (o:Oper) (s':List AV),ops[i]? =some o→s'.length=s.length→(∀d,d<s.length→d∈o.looksAt ops→s'.getD d .void=ZD ops vals s (fun _=>true) d i)→
  match o.guard with
  |none=>Vw P ops o s' H (vals i)
  |some (j,want)=>∃g,Um ops s' j=some g∧(g=some want→Vw P ops o s' H (vals i))∧(g≠some want→vals i= .void)
structure Inv(ops:Array Oper)(s:List AV)(H:Jm)(vals:Nat→AV)(w0:World)(X0:Cx)(L:Array Bool)(a:Act)(w:World):Prop where
 size:L.size=ops.size
 closed:FH ops L
 rel:∃X,Z6 w0 w∧Wc w0 X0 X∧ZL w X H∧a.defers=[]∧a.tmps.size=s.length∧∀d,d<s.length→VA w X H (ZD ops vals s (fun j=>L.getD j false) d ops.size) (a.tmps.getD d undef)
def WN(ops:Array Oper)(s:List AV)(vals:Nat→AV)(L:Array Bool):List AV:=(List.range s.length).map fun d=>ZD ops vals s (fun j=>L.getD j false) d ops.size
theorem GO{ops:Array Oper}{s:List AV}{vals:Nat→AV}{L:Array Bool}{d:Tmp}(h:d<s.length):(WN ops s vals L).getD d .void=ZD ops vals s (fun j=>L.getD j false) d ops.size:=by
 simp only[WN,List.getD,Qv,List.getElem?_range h,Option.map_some,Option.getD_some]
theorem JhC{P:Program}{ops:Array Oper}{s:List AV}{H:Jm}{vals:Nat→AV}{w0:World}{X0:Cx}{Q:Exit→Act→World→Prop}(hB:JaN ops=true)(hP:JmC P ops s H vals)
 (hQ:∀L a w,Inv ops s H vals w0 X0 L a w→(∀i,i<ops.size→L.getD i false=true)→Q .normal a w):
 ∀(fuel:Nat) (L:Array Bool) (a:Act) (w:World),((List.range ops.size).filter fun i=> !L.getD i false).length=fuel→Inv ops s H vals w0 X0 L a w→wpAny P .any ops Q fuel L a w:=by
 have hdone:∀L a w,Inv ops s H vals w0 X0 L a w→Region.ready .any ops L=[]→∀i,i<ops.size→L.getD i false=true:=by
  intro L a w inv hr i
  induction i using Nat.strongRecOn with
  |_ i ih=>
   intro hi
   cases hl:L.getD i false with
   |true=>rfl
   |false=>
    have:i∈Region.ready .any ops L:=mem_ready.2 ⟨by
     have hi':i<L.size:=by rw[inv.size];exact hi
     simp[hi']at hl⊢;exact hl,ops[i],Array.getElem?_eq_getElem hi,fun e he hb=>by
      have hlt:=Jec hB (Array.getElem?_eq_getElem hi) he hb
      exact ih e.on hlt (by omega)⟩
    rw[hr]at this
    cases this
 intro fuel
 induction fuel with
 |zero=>
  intro L a w hn inv
  have hall:∀i,i<ops.size→L.getD i false=true:=by
   intro i hi
   have:=List.filter_eq_nil_iff.1 (List.eq_nil_of_length_eq_zero hn) i (List.mem_range.2 hi)
   simpa using this
  refine⟨?_,hQ L a w inv hall⟩
  cases hr:Region.ready .any ops L with
  |nil=>rfl
  |cons i r=>
   have hm:i∈Region.ready .any ops L:=by rw[hr];simp
   obtain⟨h1,o,h2,_⟩:=mem_ready.1 hm
   have hi:i<ops.size:=(Array.getElem?_eq_some_iff.1 h2).1
   have:=hall i hi
   have hi':i<L.size:=by rw[inv.size];exact hi
   simp[hi']at h1 this
   rw[h1]at this;cases this
 |succ fuel ih=>
  intro L a w hn inv
  refine⟨fun hr=>hQ L a w inv (hdone L a w inv hr),fun i hi=> ?_⟩
  obtain⟨hun,o,ho,hdeps⟩:=mem_ready.1 hi
  have hilt:i<ops.size:=(Array.getElem?_eq_some_iff.1 ho).1
  have hiL:i<L.size:=by rw[inv.size];exact hilt
  have hun':L.getD i false=false:=by simp[hiL]at hun⊢;exact hun
  have hwait:∀j,Zb ops ops.size i j=true→L.getD j false=true:=fun j hj=>
   VV inv.closed _ _ _ hj fun o' ho' e he hb=>by
    have:o'=o:=Option.some.inj (ho'.symm.trans ho)
    subst this;exact hdeps e he hb
  have hwait2:∀j,Zb ops ops.size j i=true→L.getD j false=false:=fun j hj=>by
   cases hl:L.getD j false with
   |false=>rfl
   |true=>
    have:=VV inv.closed _ _ _ hj fun o' ho' e he hb=>inv.closed j o' ho' hl e he hb
    rw[hun']at this;cases this
  have hsame:∀d,(d∈o.looksAt ops∨o.dst=some d)→ZD ops vals s (fun j=>L.getD j false) d ops.size=ZD ops vals s (fun _=>true) d i:=by
   intro d hd
   rw[←FM ops.size (Nat.le_of_lt hilt)]
   refine VY _ fun j hj hdj=> ?_
   by_cases hij:i=j
   · subst hij
     simp only[hun',Nat.lt_irrefl,decide_false]
   · have hoj:∃oj,ops[j]? =some oj∧oj.dst=some d:=by
      cases hoj:ops[j]? with
      |none=>simp[hoj]at hdj
      |some oj=>exact⟨oj,rfl,by simpa[hoj]using hdj⟩
     obtain⟨oj,hoj,hdj'⟩:=hoj
     have:=FJ hB ho hoj hij hdj' hd
     split at this
     · rename_i hlt
       simp only[hwait j this,hlt,decide_true]
     · rename_i hlt
       simp only[hwait2 j this,hlt,decide_false]
  obtain⟨X,hg,hw,hH,hdef,hsz,hslot⟩:=inv.rel
  have R:Jfa w X a (WN ops s vals L) H (o.looksAt ops):=by
   refine⟨hdef,by simp[WN,hsz],fun t ht htl=> ?_,hH⟩
   have htl':t<s.length:=by simpa[WN]using htl
   rw[GO htl']
   exact hslot t htl'
  have hcount:((List.range ops.size).filter fun k=> !(L.setIfInBounds i true).getD k false).length=fuel:=by
   have e:((List.range ops.size).filter fun k=> !(L.setIfInBounds i true).getD k false)=((List.range ops.size).filter fun k=> !L.getD k false).filter (fun k=>decide (k≠i)):=by
    rw[List.filter_filter]
    refine List.filter_congr fun k hk=> ?_
    by_cases hki:k=i
    · subst hki;simp[hiL]
    · rw[getD_set_ne false (Ne.symm hki)];simp[hki]
   rw[e]
   have hnd:((List.range ops.size).filter fun k=> !L.getD k false).Nodup:=List.Pairwise.filter _ List.nodup_range
   have hmem:i∈(List.range ops.size).filter fun k=> !L.getD k false:=List.mem_filter.2 ⟨List.mem_range.2 hilt,by simp[hun']⟩
   have:=hnd.erase_eq_filter i
   have h2:=List.length_erase_of_mem hmem
   rw[this]at h2
   have e2:(fun k=>decide (k≠i))=(fun x=>x !=i):=by funext k;by_cases hk:k=i<;>simp[hk]
   rw[e2,h2,hn];rfl
  have hnext:∀u w' X',Z6 w w'→Wc w X X'→VA w' X' H (vals i) u→ZL w' X' H→wpAny P .any ops Q fuel (L.setIfInBounds i true) (a.put o.dst u) w':=by
   intro u w' X' hg' hw' hv hH'
   refine ih _ _ _ hcount ⟨by simp[inv.size], ?_,X',hg.trans hg',hw.trans hw' hg.size,hH',by cases hd:o.dst<;>simpa[Act.put]using hdef, ?_,fun d hd=> ?_⟩
   · intro j oj hoj hl e he hb
     by_cases hij:i=j
     · subst hij
       have:oj=o:=Option.some.inj (hoj.symm.trans ho)
       subst this
       exact getD_set_true (hdeps e he hb)
     · rw[getD_set_ne false hij]at hl
       exact getD_set_true (inv.closed j oj hoj hl e he hb)
   · cases hd:o.dst<;>simp[Act.put,hsz]
   · by_cases hdd:o.dst=some d
     · have e1:ZD ops vals s (fun j=>(L.setIfInBounds i true).getD j false) d ops.size=vals i:=by
        refine FN (by simp[hiL]) (by simp[ho,hdd]) ops.size hilt fun j h1 h2 hdj=> ?_
        have hoj:∃oj,ops[j]? =some oj∧oj.dst=some d:=by
         cases hoj:ops[j]? with
         |none=>simp[hoj]at hdj
         |some oj=>exact⟨oj,rfl,by simpa[hoj]using hdj⟩
        obtain⟨oj,hoj,hdj'⟩:=hoj
        have:=FJ hB ho hoj (by omega) hdj' (.inr hdd)
        rw[if_neg (by omega)]at this
        rw[getD_set_ne false (by omega)]
        exact hwait2 j this
       rw[e1]
       have:(a.put o.dst u).tmps.getD d undef=u:=by
        have hdl:d<a.tmps.size:=by rw[hsz];exact hd
        simp[Act.put,hdd,hdl]
       rw[this];exact hv
     · have e1:ZD ops vals s (fun j=>(L.setIfInBounds i true).getD j false) d ops.size=ZD ops vals s (fun j=>L.getD j false) d ops.size:=by
        refine VY _ fun j hj hdj=> ?_
        by_cases hij:i=j
        · subst hij;simp[ho]at hdj;exact absurd hdj hdd
        · exact getD_set_ne false hij
       rw[e1]
       have:(a.put o.dst u).tmps.getD d undef=a.tmps.getD d undef:=by
        cases hod:o.dst with
        |none=>rfl
        |some d'=>
         have hne:d'≠d:=fun h=>hdd (by rw[hod,h])
         simp[Act.put,Array.getElem?_setIfInBounds_ne hne,Array.getD_eq_getD_getElem?]
       rw[this]
       exact(hslot d hd).mono (hw'.ev hg' hH)
  have hst:=hP.step i o (WN ops s vals L) ho (by simp[WN]) fun d hd hl=>by rw[GO hd];exact hsame d (.inl hl)
  unfold wpOp
  simp only[ho]
  have Rr:=R.restr
  split at hst
  · rename_i hgd
    rw[if_pos (by simp[Region.wanted,hgd])]
    exact .inl (hst w X a R _ _ fun u w' X' h1 h2 h3 h4=>hnext u w' X' h1 h2 h3 h4)
  · rename_i j want hgd
    obtain⟨g,hg1,hg2,hg3⟩:=hst
    have hlook:∀d,(ops[j]?).bind (·.dst)=some d→d∈o.looksAt ops:=fun d hd=>by
     unfold Oper.looksAt
     refine List.mem_append_right _ ?_
     simp[hgd,hd]
    have hg1':Um ops (restr (o.looksAt ops) (WN ops s vals L)) j=some g:=by
     rw[←hg1]
     unfold Um
     cases hd:(ops[j]?).bind (·.dst)with
     |none=>rfl
     |some d=>
      simp only
      have hin:=hlook d hd
      by_cases hl:d<(WN ops s vals L).length
      · have:=Fa (o.looksAt ops) (WN ops s vals L) hin
        simp only[List.getD,Jq hl,Jq (show d<(restr (o.looksAt ops) (WN ops s vals L)).length by rw[V1];exact hl),Option.getD_some]at this
        rw[Jq hl,Jq (show d<(restr (o.looksAt ops) (WN ops s vals L)).length by rw[V1];exact hl),this]
      · have hl':=Nat.le_of_not_lt hl
        rw[Jx hl',Jx (by rw[V1];exact hl')]
    have hy:=UW Rr hg1'
    by_cases he:g=some want
    · rw[if_pos (by simp[Region.wanted,hgd,hy,he])]
      exact .inl (hg2 he w X a R _ _ fun u w' X' h1 h2 h3 h4=>hnext u w' X' h1 h2 h3 h4)
    · rw[if_neg (by simp only[Region.wanted,hgd,hy];simpa using he)]
      exact hnext undef w X (Z6.refl w) (Wc.refl _ _) (by rw[hg3 he];exact .void) hH
def XM:List CV→Option (List FV)
 |[]=>some []
 | .f x::l=>(XM l).map (x::·)
 |_=>none
theorem Fm:∀{l:List CV} {xs:List FV},XM l=some xs→l=xs.map .f
 |[],xs,h=>by cases h;rfl
 |c::l,xs,h=>by
  unfold XM at h
  split at h
  · rename_i heq;cases heq
  · rename_i x l' heq
    cases heq
    cases hl:XM l with
    |none=>simp[hl]at h
    |some ys=>simp[hl]at h;subst h;simp[Fm hl]
  · cases h
def Jcg(P:Program)(ops:Array Oper):List Oper→List AV→Jm→(List AV→Prop)→Prop
 |[],s,_,K=>K s
 |o::r,s,H,K=>match o.guard with
  |none=>∃v,Vw P ops o s H v∧Jcg P ops r (QV s o.dst v) H K
  |some (j,want)=>∃g,Um ops s j=some g∧
   ((g=some want→∃v,Vw P ops o s H v∧Jcg P ops r (QV s o.dst v) H K)∧(g≠some want→Jcg P ops r (QV s o.dst .void) H K))
theorem Vw.congr{P:Program}{ops:Array Oper}{o:Oper}{s s':List AV}{H:Jm}{v:AV}(h:Vw P ops o s H v)(hl:s'.length=s.length)(he:∀d,d<s.length→d∈o.looksAt ops→s'.getD d .void=s.getD d .void):Vw P ops o s' H v:=
 fun w X a R=>h w X a ⟨R.defs,by rw[R.size,hl],fun t ht htl=>by rw[←he t htl ht];exact R.slot t ht (by rw[hl];exact htl),R.heap⟩
theorem Jku{P:Program}{ops:Array Oper}{s:List AV}{H:Jm}{K:List AV→Prop}:∀(l:List Oper) (k:Nat) (vals:Nat→AV) (sk:List AV),
 ops.toList.drop k=l→sk.length=s.length→(∀d,d<s.length→sk.getD d .void=ZD ops vals s (fun _=>true) d k)→
 (∀(i:Nat) (o:Oper) (s':List AV),i<k→ops[i]? =some o→s'.length=s.length→(∀d,d<s.length→d∈o.looksAt ops→s'.getD d .void=ZD ops vals s (fun _=>true) d i)→
   match o.guard with
   |none=>Vw P ops o s' H (vals i)
   |some (j,want)=>∃g,Um ops s' j=some g∧(g=some want→Vw P ops o s' H (vals i))∧(g≠some want→vals i= .void))→
 Jcg P ops l sk H K→∃vals',JmC P ops s H vals'∧∃s',K s'∧s'.length=s.length∧∀d,d<s.length→s'.getD d .void=ZD ops vals' s (fun _=>true) d ops.size:=by
 intro l
 induction l with
 |nil=>
  intro k vals sk hl hsk hst hall hK
  have hk:ops.size≤k:=by
   have:=congrArg List.length hl
   simp at this;omega
  have hge:∀d n,ops.size≤n→ZD ops vals s (fun _=>true) d n=ZD ops vals s (fun _=>true) d ops.size:=by
   intro d n hn
   induction n with
   |zero=>have:ops.size=0:=by omega
          rw[this]
   |succ n ih=>
    by_cases he:ops.size=n+1
    · rw[he]
    · simp only[ZD]
      rw[if_neg,ih (by omega)]
      rw[Array.getElem?_eq_none (by omega)]
      simp
  exact⟨vals,⟨fun i o s' ho=>hall i o s' (by have:=(Array.getElem?_eq_some_iff.1 ho).1;omega) ho⟩,sk,hK,hsk,fun d hd=>by rw[hst d hd,hge d k hk]⟩
 |cons o r ih=>
  intro k vals sk hl hsk hst hall hK
  have hk:k<ops.size:=by
   have:=congrArg List.length hl
   simp at this;omega
  have hok:ops[k]? =some o:=by
   have:=congrArg (fun q=>q[0]?) hl
   simpa[List.getElem?_drop]using this
  have hr:ops.toList.drop (k+1)=r:=by
   have:=congrArg (List.drop 1) hl
   simpa[List.drop_drop,Nat.add_comm]using this
  have go:∀v,(match o.guard with
   |none=>Vw P ops o sk H v
   |some (j,want)=>∃g,Um ops sk j=some g∧(g=some want→Vw P ops o sk H v)∧(g≠some want→v= .void))→Jcg P ops r (QV sk o.dst v) H K→
   ∃vals',JmC P ops s H vals'∧∃s',K s'∧s'.length=s.length∧∀d,d<s.length→s'.getD d .void=ZD ops vals' s (fun _=>true) d ops.size:=by
   intro v hv hrest
   let vals':Nat→AV:=fun i=>if i=k then v else vals i
   have hpre:∀d n,n≤k→ZD ops vals' s (fun _=>true) d n=ZD ops vals s (fun _=>true) d n:=by
    intro d n hn
    induction n with
    |zero=>rfl
    |succ n ihn=>
     simp only[ZD,vals']
     rw[if_neg (show¬n=k by omega),ihn (by omega)]
   refine ih (k+1) vals' (QV sk o.dst v) hr ?_ ?_ ?_ hrest
   · cases o.dst<;>simp[QV,hsk]
   · intro d hd
     simp only[ZD,hok,Option.bind_some]
     by_cases hdd:o.dst=some d
     · rw[if_pos ⟨trivial,hdd⟩,hdd]
       simp[QV,vals',List.getD,JX (show d<sk.length by omega)]
     · rw[if_neg (fun h=>hdd h.2),hpre d k (Nat.le_refl _),←hst d hd]
       cases hod:o.dst with
       |none=>rfl
       |some d'=>
        have hne:d'≠d:=fun h=>hdd (by rw[hod,h])
        simp[QV,List.getD,Jg hne]
   · intro i oi s' hi hoi hls hgs
     by_cases hik:i=k
     · subst hik
       have:oi=o:=Option.some.inj (hoi.symm.trans hok)
       subst this
       have hag:∀d,d<sk.length→d∈oi.looksAt ops→s'.getD d .void=sk.getD d .void:=fun d hd hm=>by
        rw[hgs d (by omega) hm,hpre d i (Nat.le_refl _),hst d (by omega)]
       have hvk:vals' i=v:=by simp[vals']
       rw[hvk]
       split at hv
       · rename_i hgd
         exact hv.congr (by omega) hag
       · rename_i j want hgd
         obtain⟨g,h1,h2,h3⟩:=hv
         refine⟨g, ?_,fun he=>(h2 he).congr (by omega) hag,h3⟩
         rw[←h1]
         unfold Um
         cases hd:(ops[j]?).bind (·.dst)with
         |none=>rfl
         |some d=>
          simp only
          have hin:d∈oi.looksAt ops:=by
           unfold Oper.looksAt
           refine List.mem_append_right _ ?_
           simp[hgd,hd]
          by_cases hlt:d<sk.length
          · have:=hag d hlt hin
            have hlt2:d<s'.length:=by rw[hls,←hsk];exact hlt
            simp only[List.getD,Jq hlt,Jq hlt2,Option.getD_some]at this
            rw[Jq hlt,Jq hlt2,this]
          · have hl':=Nat.le_of_not_lt hlt
            rw[Jx hl',Jx (by rw[hls,←hsk];exact hl')]
     · have hvi:vals' i=vals i:=by simp[vals',hik]
       rw[hvi]
       exact hall i oi s' (by omega) hoi hls fun d hd hm=>by rw[hgs d hd hm,hpre d i (by omega)]
  unfold Jcg at hK
  split at hK
  · rename_i hgd
    obtain⟨v,h1,h2⟩:=hK
    exact go v (by rw[hgd];exact h1) h2
  · rename_i j want hgd
    obtain⟨g,h1,h2,h3⟩:=hK
    by_cases he:g=some want
    · obtain⟨v,k1,k2⟩:=h2 he
      exact go v (by rw[hgd];exact⟨g,h1,fun _=>k1,fun h=>absurd he h⟩) k2
    · exact go .void (by rw[hgd];exact⟨g,h1,fun h=>absurd h he,fun _=>rfl⟩) (h3 he)
theorem QH.regionF{P:Program}{id:Nat}{ops:Array Oper}{st:St}{Q:Exit→St→Prop}(hm:P.follows .mixedOrders=true)(hB:JaN ops=true)
 (h:Jcg P ops ops.toList st.s st.h fun s'=>Q .normal ⟨s',st.h⟩):QH P (.region id ops true) st Q:=by
 intro w X a R
 have hd:Z6 w {w with drawn:=w.drawn+1}:=⟨fun _ _=>rfl,Nat.le_refl _,rfl,rfl,rfl⟩
 have Rd:=hd.st R
 obtain⟨vals,hP,s',hK,hls,hgs⟩:=Jku (s:=st.s) ops.toList 0 (fun _=> .void) st.s (by simp) rfl (fun d _=>rfl) (fun i o s' hi=>absurd hi (Nat.not_lt_zero _)) h
 refine wp_region_any hm ?_
 have hn:((List.range ops.size).filter fun i=> !(Array.replicate ops.size false).getD i false).length=ops.size:=by
  rw[List.filter_eq_self.2]
  · simp
  · intro i hi
    have hi:=List.mem_range.1 hi
    simp[hi]
 have hrep:∀j,(Array.replicate ops.size false).getD j false=false:=fun j=>by
  rcases Nat.lt_or_ge j ops.size with h|h
  · simp[h]
  · simp[h]
 refine JhC (s:=st.s) (H:=st.h) (vals:=vals) (w0:=w) (X0:=X) hB hP ?_ ops.size _ a _ hn ⟨by simp,(fun j o _ hl=>by rw[hrep]at hl;cases hl),X,hd,Wc.refl _ _,Rd.heap,Rd.defs,Rd.size,fun d hdl=> ?_⟩
 · intro L a' w' inv hall
   obtain⟨X',hg,hw,hH,hdef,hsz,hslot⟩:=inv.rel
   refine⟨X',⟨s',st.h⟩,⟨hdef,by rw[hsz,hls],fun i hi=> ?_,hH⟩,hw.ev hg R.heap,hK⟩
   have hi':i<st.s.length:=by rw[←hls];exact hi
   have hia:i<a'.tmps.size:=by rw[hsz];exact hi'
   refine⟨a'.tmps[i],Array.getElem?_eq_getElem hia, ?_⟩
   have h1:=hslot i hi'
   rw[VY (L':=fun _=>true) ops.size (fun j hj _=>hall j hj),←hgs i hi']at h1
   simp only[List.getD,Jq hi,Option.getD_some,Array.getD,hia,dif_pos]at h1
   exact h1
 · have:ZD ops vals st.s (fun j=>(Array.replicate ops.size false).getD j false) d ops.size=st.s.getD d .void:=by
    have hL:(fun j=>(Array.replicate ops.size false).getD j false)=fun _=>false:=funext hrep
    rw[hL]
    have:∀n,ZD ops vals st.s (fun _=>false) d n=st.s.getD d .void:=by
     intro n
     induction n with
     |zero=>rfl
     |succ n ih=>simp only[ZD];rw[if_neg (by simp),ih]
    exact this _
   rw[this]
   exact K0 Rd d
end Go.Lg
