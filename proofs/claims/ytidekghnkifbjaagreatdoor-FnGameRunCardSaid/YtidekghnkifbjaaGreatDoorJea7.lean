/- LgU, cut to what is needed. -/
import Derived.Test.YtidekghnkifbjaaGreatDoorJea6
open List renaming getElem?_append_left → Ja, cons_append → Jb, nil_append → Jc, getElem?_set_ne → Jg, getElem?_eq_some_iff → Jh, length_set → Jo, getElem?_eq_getElem → Jq, getElem?_eq_none → Jx, getElem?_append_right → J3, mem_map → Qj, nodup_append → Qo, nodup_cons → VK
open Nat renaming reduceAdd→zA,reduceMul→zM,reduceSub→zS,reduceEqDiff→zE,reduceLeDiff→zL
set_option linter.unusedSimpArgs false
set_option linter.unusedVariables false
namespace Go.Lg
section
variable{P:Program}{s:List AV}{H H':Jm}
theorem Wn(h:J0 H' H){id g:Nat}(hl:(look H id g).isSome=true):(look H' id g).isSome=true:=by
 obtain⟨b,hb⟩:=Option.isSome_iff_exists.1 hl
 rw[h.look hb];rfl
theorem RQ(h:J0 H' H){p q:CV}{n:Nat}(hv:Yg H p n=some q):Yg H' p n=some q:=by
 cases p with
 |ptr id g off=>
  simp only[Yg]at hv⊢
  split at hv
  · rename_i hl;rw[if_pos (Wn h hl)];exact hv
  · cases hv
 |_=>exact hv
theorem BU(h:J0 H' H){p:CV}{n:Nat}{l:List CV}(hv:Un H p n=some l):Un H' p n=some l:=by
 cases p with
 |ptr id g off=>
  simp only[Un]at hv⊢
  split at hv
  · rename_i b hl;rw[h.look hl];exact hv
  · cases hv
 |_=>exact hv
theorem JeA(h:J0 H' H){t:TypeId}{p v:AV}(hv:V3 P H t p=some v):V3 P H' t p=some v:=by
 unfold V3 at hv⊢
 split at hv
 · rename_i p i hi
   (try simp only[hi])
   split at hv
   · rename_i hk
     cases hc:Un H p i.size with
     |none=>simp[hc]at hv
     |some l=>rw[hc]at hv;(try simp only[hk,BU h hc]);exact hv
   · rename_i hk
     cases hc:Un H p 1 with
     |none=>simp[hc]at hv
     |some l=>rw[hc]at hv;(try simp only[hk,BU h hc]);exact hv
 · cases hv
theorem JdE(h:J0 H' H){t:TypeId}{p v:AV}{f:Nat}(hv:YM P H t p f=some v):YM P H' t p f=some v:=by
 unfold YM at hv⊢
 split at hv
 · rename_i p fs a b c hi
   (try simp only[hi])
   split at hv
   · rename_i ft off hf
     (try simp only[hf])
     split at hv
     · rename_i i hi2
       (try simp only[hi2])
       split at hv
       · cases hv
       · rename_i h0
         rw[if_neg h0]
         cases hm:Yg H p off with
         |none=>simp[hm]at hv
         |some q=>rw[hm]at hv;rw[RQ h hm];exact hv
     · cases hv
   · cases hv
 · cases hv
theorem JeN(h:J0 H' H){t:TypeId}{x i v:AV}(hv:BO P H t x i=some v):BO P H' t x i=some v:=by
 unfold BO at hv⊢
 split at hv
 · rename_i k i ti hti
   (try simp only[hti])
   split at hv
   · rename_i hk;(try simp only[hk]);exact hv
   · rename_i e id g off n lim hk
     (try simp only[hk])
     split at hv
     · rename_i ei b hei hl
       (try simp only[hei,h.look hl]);exact hv
     · cases hv
   · rename_i n e p hk
     (try simp only[hk])
     split at hv
     · rename_i ei hei
       (try simp only[hei])
       split at hv
       · rename_i hb
         rw[if_pos hb]
         cases hm:Yg H p (i.toNat*ei.size)with
         |none=>simp[hm]at hv
         |some q=>rw[hm]at hv;rw[RQ h hm];exact hv
       · cases hv
     · cases hv
   · cases hv
 · cases hv
theorem JgD(h:J0 H' H){x v:AV}(hv:XY H x=some v):XY H' x=some v:=by
 unfold XY at hv⊢
 split at hv
 · split at hv
   · rename_i hl;rw[if_pos (Wn h hl)];exact hv
   · cases hv
 · exact hv
 · split at hv
   · rename_i hl
     rw[if_pos]
     · exact hv
     · rw[List.all_eq_true]at hl⊢
       exact fun c hc=>Wn h (hl c hc)
   · cases hv
 · cases hv
theorem F4(h:J0 H' H){x:AV}{b:Bool}(hv:V4 H x=some b):V4 H' x=some b:=by
 unfold V4 at hv⊢
 split at hv
 · exact hv
 · exact hv
 · split at hv
   · rename_i hl;rw[if_pos (Wn h hl)];exact hv
   · cases hv
 · cases hv
theorem JgN(h:J0 H' H){t:TypeId}{x v:AV}(hv:Kx P H t x=some v):Kx P H' t x=some v:=by
 unfold Kx at hv⊢
 split at hv
 · rename_i hi;(try simp only[hi]);exact hv
 · rename_i hi;(try simp only[hi]);exact hv
 · rename_i hi;(try simp only[hi]);exact hv
 · rename_i hi;(try simp only[hi]);exact hv
 · rename_i hi
   (try simp only[hi])
   split at hv
   · rename_i hk
     (try simp only[hk])
     split at hv
     · rename_i hl;rw[if_pos (Wn h hl)];exact hv
     · cases hv
   · cases hv
 · cases hv
theorem JcD(h:J0 H' H){t:TypeId}{x v:AV}{lo hi mx:Option Nat}(hv:UI P H t x lo hi mx=some v):UI P H' t x lo hi mx=some v:=by
 unfold UI at hv⊢
 split at hv
 · rename_i hti;(try simp only[hti]);exact hv
 · rename_i hti;(try simp only[hti]);exact hv
 · rename_i hti;(try simp only[hti]);exact hv
 · rename_i hti
   (try simp only[hti])
   split at hv
   · rename_i e hk
     (try simp only[hk])
     split at hv
     · rename_i ei b hei hl
       (try simp only[hei,h.look hl]);exact hv
     · cases hv
   · cases hv
 all_goals first
  |(rename_i hti;(try simp only[hti]);exact hv)
  |(rename_i hti
    (try simp only[hti])
    split at hv
    · rename_i hk
      (try simp only[hk])
      split at hv
      · rename_i hl hs
        first
        |((try simp only[h.look hl]);exact hv)
        |((try simp only[hl,RQ h,Wn h]);exact hv)
      · cases hv
    · cases hv)
  |cases hv
theorem JeQ(h:J0 H' H){t u:TypeId}{x v:AV}(hv:BQ P H t u x=some v):BQ P H' t u x=some v:=by
 unfold BQ at hv⊢
 split at hv
 · rename_i h1 h2;(try simp only[h1,h2]);exact hv
 · rename_i h1 h2;(try simp only[h1,h2]);exact hv
 · rename_i h1 h2
   (try simp only[h1,h2])
   split at hv
   · rename_i e b hk hd hl
     (try simp only[hk,hd,h.look hl]);exact hv
   · cases hv
 · cases hv
theorem Jhw(h:J0 H' H){op:BinOp}{t:TypeId}{x y:Operand}{v:AV}(hv:JaE P s H op t x y=some v):JaE P s H' op t x y=some v:=by
 unfold JaE at hv⊢
 split at hv
 · rename_i h1 h2;(try simp only[h1,h2]);exact hv
 · rename_i h1 h2;(try simp only[h1,h2]);exact hv
 · rename_i h1 h2;(try simp only[h1,h2]);exact hv
 · rename_i h1 h2;(try simp only[h1,h2]);exact hv
 · rename_i vx vy h1 h2 h3 h4
   split at hv
   · rename_i ti nx ny hti hx hy
     (try simp only[hti,F4 h hx,F4 h hy]);exact hv
   · cases hv
theorem Nc(h:J0 H' H){op:Op}{v:AV}(hv:X8 P s H op=some v):X8 P s H' op=some v:=by
 unfold X8 at hv⊢
 split at hv
 · exact hv
 · exact hv
 · exact hv
 · exact JgD h hv
 · exact Jhw h hv
 · exact hv
 · exact JeQ h hv
 · exact JdE h hv
 · exact hv
 · exact JeN h hv
 · exact hv
 · exact hv
 · exact JeA h hv
 · split at hv
   · rename_i h1 h2 h3;(try simp only[h1,h2,h3]);exact JcD h hv
   · cases hv
 · exact hv
 · unfold Jca at hv⊢
   split at hv
   · exact JgN h hv
   · exact hv
   · exact hv
   · cases hv
 · cases hv
end
def JK(P:Program)(ops:Array Oper)(o:Oper)(s:List AV)(H:Jm)(K:KV):Prop:=
 ∀w X a,Jfa w X a s H (o.looksAt ops)→∀(next:Act→World→Prop) (Q:Exit→Act→World→Prop),
  (∀v u X' H' w',VA w' X' H' v u→ZL w' X' H'→Ev w X H w' X' H'→K v H'→next (a.put o.dst u) w')→o.wp P a w next Q
theorem JK.of{P:Program}{ops:Array Oper}{o:Oper}{s:List AV}{H:Jm}{K:KV}(h:JZ P o ⟨restr (o.looksAt ops) s,H⟩ K):JK P ops o s H K:=
 fun w X a R next Q hn=>h w X a R.restr next Q hn
theorem JK.mono{P:Program}{ops:Array Oper}{o:Oper}{s:List AV}{H:Jm}{K K':KV}(h:JK P ops o s H K)(hk:∀v H',K v H'→K' v H'):JK P ops o s H K':=
 fun w X a R next Q hn=>h w X a R next Q fun v u X' H' w' h1 h2 h3 h4=>hn v u X' H' w' h1 h2 h3 (hk _ _ h4)
theorem JK.congr{P:Program}{ops:Array Oper}{o:Oper}{s s':List AV}{H:Jm}{K:KV}(h:JK P ops o s H K)(hl:s'.length=s.length)(he:∀d,d<s.length→d∈o.looksAt ops→s'.getD d .void=s.getD d .void):JK P ops o s' H K:=
 fun w X a R=>h w X a ⟨R.defs,by rw[R.size,hl],fun t ht htl=>by rw[←he t htl ht];exact R.slot t ht (by rw[hl];exact htl),R.heap⟩
theorem XC.toT{w:World}{X:Cx}{a:Act}{st:St}(R:XC w X a st)(T:List Tmp):Jfa w X a st.s st.h T:=
 ⟨R.defs,R.size,fun t _ _=>K0 R t,R.heap⟩
def X4:Op→Bool
 | .store .. | .alloc _| .box .. | .buildSlice .. | .makeSlice .. | .build .. =>true
 | .call ⟨.builtin .append,⟨[_,_]⟩,⟨[_,_]⟩⟩=>true
 |_=>false
def JfF(P:Program)(ops:Array Oper)(o:Oper)(s:List AV)(H:Jm)(K:KV):Prop:=
 if X4 o.op=true then opM P o s H K else JK P ops o s H K
theorem Jgz{P:Program}{o:Oper}{s s':List AV}{H:Jm}{K:KV}(hm:X4 o.op=true)(h:∀x∈o.op.operands,QY s' x=QY s x):opM P o s' H K=opM P o s H K:=by
 unfold opM
 unfold X4 at hm
 split at hm
 · rename_i t p x ho
   rw[ho]at h⊢
   simp only
   rw[h p (by simp[Op.operands]),h x (by simp[Op.operands])]
 · rename_i t ho;rw[ho]
 · rename_i t x ho
   rw[ho]at h⊢
   simp only
   rw[h x (by simp[Op.operands])]
 · rename_i t n ps ho
   rw[ho]at h⊢
   simp only[NY]
   rw[WW ps.toList fun p hp=>h p.2 (by simp only[Op.operands,List.mem_toArray,Qj];exact⟨p,hp,rfl⟩)]
 · rename_i t l c ho
   rw[ho]at h⊢
   simp only
   rw[h l (by simp[Op.operands]),h c (by simp[Op.operands])]
 · rename_i t ps ho
   rw[ho]at h⊢
   simp only[JjR]
   rw[WW ps.toList fun p hp=>h p.2 (by simp only[Op.operands,List.mem_toArray,Qj];exact⟨p,hp,rfl⟩)]
 · rename_i v x t u ho
   rw[ho]at h⊢
   simp only
   rw[h v (by simp[Op.operands,Call.operands]),h x (by simp[Op.operands,Call.operands])]
 · cases hm
theorem FW{P:Program}{ops:Array Oper}{o:Oper}{s:List AV}{H:Jm}{K:KV}(h:JfF P ops o s H K):JK P ops o s H K:=by
 unfold JfF at h
 split at h
 · rename_i hm
   exact JK.of (Ja2 (by rw[Jgz hm fun x hx=>Ym (Vr hx)];exact h))
 · exact h
def Zg:List Bool→Jm→Jm
 |true::m,_::H=>none::Zg m H
 |false::m,x::H=>x::Zg m H
 |_,H=>H
theorem Gv:∀(m:List Bool) (H:Jm),J0 H (Zg m H)
 |true::m,x::H=>fun id b hb=>by
  cases id with
  |zero=>simp[Zg]at hb
  |succ id=>exact Gv m H id b (by simpa[Zg]using hb)
 |false::m,x::H=>fun id b hb=>by
  cases id with
  |zero=>simpa[Zg]using hb
  |succ id=>exact Gv m H id b (by simpa[Zg]using hb)
 |[],H=>J0.refl _
 |true::m,[]=>J0.refl _
 |false::m,[]=>J0.refl _
theorem J0.trans{H H' H'':Jm}(h:J0 H H')(k:J0 H' H''):J0 H H'':=fun id b hb=>h id b (k id b hb)
structure Gh where
 d:Tmp
 n:Option Nat
 sz:Nat
 cs:List CV
def X5:CV→Bool
 | .f (.int ..)| .f (.bool _)| .f (.str _)| .f .nil| .nilp| .nilf=>true
 |_=>false
theorem YP{w w':World}{X X':Cx}{H H':Jm}{c:CV}{v:Value}(hc:X5 c=true)(h:VC w X H c v):VC w' X' H' c v:=by
 unfold X5 at hc
 split at hc<;>first|cases hc|skip
 · have h:VF w X.I _ v:=h;cases h;exact VF.int _ _
 · have h:VF w X.I _ v:=h;cases h;exact VF.bool _
 · have h:VF w X.I _ v:=h;cases h;exact VF.str _
 · have h:VF w X.I _ v:=h;cases h;exact VF.nil
 · exact h
 · exact h
def ghV(P:Program)(s:List AV)(o:Oper):Option Gh:=
 match o.dst,o.op with
 |some d, .alloc t=>match JV P t with
  |some ti=>if ti.zero.all X5 then some ⟨d,none,ti.size,ti.zero⟩else none
  |none=>none
 |some d, .makeSlice t l c=>match QW P t,QY s l,QY s c with
  |some ei, .c (.f (.int _ l)), .c (.f (.int _ c))=>if ei.zero.all X5∧ei.zero.length=ei.size∧(0≤l∧l≤c)∧c≤9223372036854775807∧ei.bytes*c≤281474976710656 then some ⟨d,some (cnt l),ei.size,QX (cnt l*ei.size) ei.zero⟩else none
  |_,_,_=>none
 |_,_=>none
def ghA(id g:Nat)(n:Option Nat):AV:=match n with|some n=> .c (.own id g 0 n none)|none=> .c (.ptr id g 0)
def XH(G:Option Gh)(s:List AV)(H:Jm)(K:KS):Prop:=
 match G with
 |none=>K s H
 |some G=>∀g,K (s.set G.d (ghA H.length g G.n)) (H++[some ⟨g,G.sz,G.cs⟩])
section
variable(P:Program)(ops:Array Oper)(m:List Bool)(F:List Nat)(D:Option Nat)
def XD(i:Nat)(o:Oper):Bool:=Vo o.op||F.contains i
def qv(o:Oper)(s:List AV)(H:Jm)(v:AV):Prop:=if Vo o.op=true then X8 P s (Zg m H) o.op=some v else∀H',Vw P ops o s H' v
def lw:List Nat→Option Gh→List AV→Jm→KS→Prop
 |[],G,s,H,K=>XH G s H K
 |i::r,G,s,H,K=>match ops[i]? with
  |none=>False
  |some o=>if D=some i then(∃e,ghV P s o=some e∧e.d<s.length∧lw r (some e) (QV s o.dst .any) H K)else
   match o.guard with
   |none=>if XD F i o=true then∃v,qv P ops m o s H v∧lw r G (QV s o.dst v) H K
     else JK P ops o s H fun v H'=>J0 (Zg m H') (Zg m H)∧lw r G (QV s o.dst v) H' K
   |some (j,want)=>∃g,Um ops s j=some g∧
     (g=some want→if XD F i o=true then∃v,qv P ops m o s H v∧lw r G (QV s o.dst v) H K
       else JK P ops o s H fun v H'=>J0 (Zg m H') (Zg m H)∧lw r G (QV s o.dst v) H' K)∧
     (g≠some want→lw r G (QV s o.dst .void) H K)
def sw:List Nat→List AV→Jm→KS→Prop
 |[],s,H,K=>K s H
 |i::r,s,H,K=>match ops[i]? with
  |none=>False
  |some o=>vw P ops [o] s H fun s' H'=>sw r s' H' K
end
def swK(P:Program)(ops:Array Oper)(r:List Nat)(K:KS):KS:=fun s H=>sw P ops r s H K
def YJ(ops:Array Oper)(F:List Nat)(D:Option Nat)(i:Nat):Bool:=(D==some i)||match ops[i]? with|some o=>XD F i o|none=>false
def Wi(ops:Array Oper)(π:List Nat)(F:List Nat)(D:Option Nat)(σ:List Nat):Bool:=
 ((List.range ops.size).all fun i=>match ops[i]? with|some o=>o.after.all fun e=> !Region.binds .any e||decide (e.on<i)|none=>true)&&
 ((List.range ops.size).all fun i=>π.contains i||σ.contains i)&&(π++σ).all (fun i=>decide (i<ops.size))&&decide (π++σ).Nodup&&
 pairsB (fun i j=> !(Zb ops ops.size i j)&&(!(U6 ops i j||U6 ops j i)||Zb ops ops.size j i)&&(YJ ops F D i||Zb ops ops.size j i)) π&&
 (match D with|some d=>(match ops[d]? with|some o=>o.guard.isNone&&(match o.op with| .alloc _=>true| .makeSlice .. =>true|_=>false)|none=>false)&&π.all (fun i=>decide (i=d)|| !U6 ops i d)|none=>true)&&
 σ.all (fun i=>π.all fun j=>Zb ops ops.size i j)&&pairsB (fun i j=>Zb ops ops.size j i) σ
where pairsB (f:Nat→Nat→Bool):List Nat→Bool
 |[]=>true
 |i::r=>r.all (f i)&&pairsB f r
theorem Xo{f:Nat→Nat→Bool}:∀{l:List Nat} {l1 l2:List Nat} {i j:Nat},Wi.pairsB f l=true→(∃l3,l=l1++i::l2++j::l3)→f i j=true
 |[],l1,l2,i,j,_,⟨l3,h⟩=>by simp at h
 |x::l,[],l2,i,j,hp,⟨l3,h⟩=>by
  simp only[Jc,Jb,List.cons.injEq]at h
  obtain⟨rfl,rfl⟩:=h
  simp only[Wi.pairsB,Bool.and_eq_true,List.all_eq_true]at hp
  exact hp.1 j (by simp)
 |x::l,y::l1,l2,i,j,hp,⟨l3,h⟩=>by
  simp only[Jb,List.cons.injEq]at h
  simp only[Wi.pairsB,Bool.and_eq_true]at hp
  exact Xo (l1:=l1) (l2:=l2) hp.2 ⟨l3,by simpa using h.2⟩
section
variable{P:Program}{ops:Array Oper}{m:List Bool}{F:List Nat}{D:Option Nat}
def RC(o:Oper)(s s':List AV):Prop:=s'.length=s.length∧∀d,d<s.length→d∈o.looksAt ops→s'.getD d .void=s.getD d .void
theorem RC.ev{o:Oper}{s s':List AV}(h:RC (ops:=ops) o s s'){x:Operand}(hx:x∈o.op.operands):QY s' x=QY s x:=by
 cases x with
 |tmp t=>
  have ht:=Vr (ops:=ops) hx t rfl
  simp only[QY]
  by_cases hl:t<s.length
  · exact h.2 t hl ht
  · have hl':=Nat.le_of_not_lt hl
    simp only[List.getD]
    rw[Jx hl',Jx (by rw[h.1];exact hl')]
 |_=>rfl
theorem RC.guard{o:Oper}{s s':List AV}(h:RC (ops:=ops) o s s'){j:Nat}{want:Bool}(hg:o.guard=some (j,want)):Um ops s' j=Um ops s j:=by
 unfold Um
 cases hd:(ops[j]?).bind (·.dst)with
 |none=>rfl
 |some d=>
  simp only
  have hin:d∈o.looksAt ops:=by
   unfold Oper.looksAt
   refine List.mem_append_right _ ?_
   simp[hg,hd]
  by_cases hlt:d<s.length
  · have:=h.2 d hlt hin
    have hlt2:d<s'.length:=by rw[h.1];exact hlt
    simp only[List.getD,Jq hlt,Jq hlt2,Option.getD_some]at this
    rw[Jq hlt,Jq hlt2,this]
  · have hl':=Nat.le_of_not_lt hlt
    rw[Jx hl',Jx (by rw[h.1];exact hl')]
theorem Rc{o:Oper}{s:List AV}{d:Option Tmp}{v:AV}(h:∀x,d=some x→x∉o.looksAt ops):RC (ops:=ops) o s (QV s d v):=by
 cases d with
 |none=>exact⟨rfl,fun _ _ _=>rfl⟩
 |some x=>
  refine⟨by simp[QV],fun y hy hm=> ?_⟩
  have hne:x≠y:=fun he=>h x rfl (he▸hm)
  simp[QV,List.getD,Jg hne]
theorem RC.symm{o:Oper}{s s':List AV}(h:RC (ops:=ops) o s s'):RC (ops:=ops) o s' s:=⟨h.1.symm,fun d hd hm=>(h.2 d (by rw[←h.1];exact hd) hm).symm⟩
theorem JcX{s:List AV}{d d':Option Tmp}{v v':AV}(h:∀x,d=some x→d'≠some x):QV (QV s d v) d' v'=QV (QV s d' v') d v:=by
 cases d with
 |none=>cases d'<;>rfl
 |some x=>
  cases d' with
  |none=>rfl
  |some y=>
   have hne:x≠y:=fun he=>h x rfl (by rw[he])
   simp only[QV]
   exact List.set_comm _ _ hne
def JcV(P:Program)(ops:Array Oper)(m:List Bool)(F:List Nat)(D:Option Nat)(k:Nat)(o:Oper)(s:List AV)(H:Jm)(G:Option Gh)(v:AV)(G':Option Gh):Prop:=
 (D=some k∧∃e,(ghV P s o=some e∧e.d<s.length)∧v= .any∧G'=some e)∨
 (D≠some k∧G'=G∧match o.guard with
   |none=>XD F k o=true∧qv P ops m o s H v
   |some (j,want)=>∃g,Um ops s j=some g∧(g=some want→XD F k o=true∧qv P ops m o s H v)∧(g≠some want→v= .void))
theorem Jg7{o:Oper}{s s':List AV}(h:∀x∈o.op.operands,QY s' x=QY s x):ghV P s' o=ghV P s o:=by
 unfold ghV
 cases hd:o.dst with
 |none=>rfl
 |some d=>
  cases ho:o.op with
  |makeSlice t l c=>
   rw[ho]at h
   simp only
   rw[h l (by simp[Op.operands]),h c (by simp[Op.operands])]
  |_=>rfl
theorem RL{k:Nat}{o:Oper}{s s':List AV}{H H':Jm}{G G2:Option Gh}{v:AV}{G':Option Gh}(h:JcV P ops m F D k o s H G v G')(ha:RC (ops:=ops) o s s')(hh:J0 (Zg m H') (Zg m H)):
 ∃G2',JcV P ops m F D k o s' H' G2 v G2'∧(D=some k→G2'=G')∧(D≠some k→G'=G∧G2'=G2):=by
 rcases h with⟨hD,e,h1,h2,h3⟩|⟨hD,h1,h2⟩
 · exact⟨some e, .inl ⟨hD,e,by rw[Jg7 fun x hx=>ha.ev hx,ha.1];exact h1,h2,rfl⟩,fun _=>h3.symm,fun h=>absurd hD h⟩
 · refine⟨G2, .inr ⟨hD,rfl, ?_⟩,fun h=>absurd h hD,fun _=>⟨h1,rfl⟩⟩
   have mv:XD F k o=true∧qv P ops m o s H v→XD F k o=true∧qv P ops m o s' H' v:=fun⟨q1,q2⟩=>⟨q1,by
    unfold qv at q2⊢
    split at q2
    · rename_i hv
      rw[if_pos hv,Ye fun x hx=>ha.ev hx];exact Nc hh q2
    · rename_i hv
      rw[if_neg hv]
      exact fun H''=>(q2 H'').congr ha.1 ha.2⟩
   split at h2
   · exact mv h2
   · rename_i j want hg
     obtain⟨g,k1,k2,k3⟩:=h2
     exact⟨g,by rw[ha.guard hg];exact k1,fun he=>mv (k2 he),k3⟩
theorem JkQ{i:Nat}{r:List Nat}{o:Oper}(ho:ops[i]? =some o)(hq:D=some i∨XD F i o=true){G:Option Gh}{s:List AV}{H:Jm}{K:KS}(h:lw P ops m F D (i::r) G s H K):
 ∃v G',JcV P ops m F D i o s H G v G'∧lw P ops m F D r G' (QV s o.dst v) H K:=by
 unfold lw at h
 rw[ho]at h
 simp only at h
 split at h
 · rename_i hD
   obtain⟨e,h1,h1',h2⟩:=h
   exact⟨.any,some e, .inl ⟨hD,e,⟨h1,h1'⟩,rfl,rfl⟩,h2⟩
 · rename_i hD
   have hv:XD F i o=true:=hq.elim (fun h=>absurd h hD) id
   split at h
   · rename_i hg
     rw[if_pos hv]at h
     obtain⟨v,h1,h2⟩:=h
     exact⟨v,G, .inr ⟨hD,rfl,by rw[hg];exact⟨hv,h1⟩⟩,h2⟩
   · rename_i j want hg
     obtain⟨g,h1,h2,h3⟩:=h
     by_cases he:g=some want
     · have h2:=h2 he
       rw[if_pos hv]at h2
       obtain⟨v,h4,h5⟩:=h2
       exact⟨v,G, .inr ⟨hD,rfl,by rw[hg];exact⟨g,h1,fun _=>⟨hv,h4⟩,fun h=>absurd he h⟩⟩,h5⟩
     · exact⟨.void,G, .inr ⟨hD,rfl,by rw[hg];exact⟨g,h1,fun h=>absurd h he,fun _=>rfl⟩⟩,h3 he⟩
theorem JfD{i:Nat}{r:List Nat}{o:Oper}(ho:ops[i]? =some o){G G':Option Gh}{s:List AV}{H:Jm}{K:KS}{v:AV}(h:JcV P ops m F D i o s H G v G')(hr:lw P ops m F D r G' (QV s o.dst v) H K):
 lw P ops m F D (i::r) G s H K:=by
 unfold lw
 rw[ho]
 simp only
 rcases h with⟨hD,e,h1,h2,h3⟩|⟨hD,h1,h2⟩
 · rw[if_pos hD]
   subst h2 h3
   exact⟨e,h1.1,h1.2,hr⟩
 · rw[if_neg hD]
   subst h1
   split at h2
   · rename_i hg
     rw[if_pos h2.1]
     exact⟨v,h2.2,hr⟩
   · rename_i j want hg
     obtain⟨g,k1,k2,k3⟩:=h2
     refine⟨g,k1,fun he=> ?_,fun he=> ?_⟩
     · rw[if_pos (k2 he).1]
       exact⟨v,(k2 he).2,hr⟩
     · rw[k3 he]at hr;exact hr
def Kb(ops:Array Oper)(i k:Nat):Prop:=U6 ops i k=false∧U6 ops k i=false
theorem YR{i k:Nat}{o p:Oper}(ho:ops[i]? =some o)(hp:ops[k]? =some p)(h:Kb ops i k):(∀x,p.dst=some x→x∉o.looksAt ops)∧∀x,p.dst=some x→o.dst≠some x:=by
 have h1:=h.1
 simp only[U6,ho,hp]at h1
 constructor
 · intro x hx hm
   rw[hx]at h1
   simp only[Bool.or_eq_false_iff]at h1
   rw[List.contains_iff_mem.2 hm]at h1
   cases h1.1
 · intro x hx he
   rw[hx]at h1
   simp only[Bool.or_eq_false_iff,beq_eq_false_iff_ne]at h1
   exact h1.2 he
theorem Kb.symm{i k:Nat}(h:Kb ops i k):Kb ops k i:=⟨h.2,h.1⟩
theorem Bz{i:Nat}{o:Oper}(ho:ops[i]? =some o)(hq:D=some i∨XD F i o=true){l2:List Nat}{K:KS}{H:Jm}:∀(l1:List Nat) (G:Option Gh) (s:List AV),
 (∀k∈l1,k≠i∧Kb ops i k∧∃p,ops[k]? =some p∧(D=some k∨XD F k p=true))→lw P ops m F D (l1++i::l2) G s H K→
 ∃v G',JcV P ops m F D i o s H G v G'∧lw P ops m F D (l1++l2) G' (QV s o.dst v) H K
 |[],G,s,_,h=>JkQ ho hq h
 |k::l1,G,s,hall,h=>by
  obtain⟨hne,hap,p,hp,hqk⟩:=hall k (by simp)
  obtain⟨vk,Gk,q1,h1⟩:=JkQ hp hqk h
  obtain⟨v,G',q2,h2⟩:=Bz ho hq l1 Gk (QV s p.dst vk) (fun x hx=>hall x (by simp[hx])) h1
  obtain⟨a1,a2⟩:=YR ho hp hap
  obtain⟨b1,b2⟩:=YR hp ho hap.symm
  obtain⟨Gi,q3,c1,c2⟩:=RL (G2:=G) (s':=s) (H':=H) q2 (Rc a1).symm (J0.refl _)
  obtain⟨Gk',q4,d1,d2⟩:=RL (G2:=Gi) (s':=QV s o.dst v) (H':=H) q1 (Rc b1) (J0.refl _)
  refine⟨v,Gi,q3, ?_⟩
  have hG:Gk'=G':=by
   by_cases hDi:D=some i
   · have hDk:D≠some k:=fun h=>hne (by rw[hDi]at h;exact(Option.some.inj h).symm)
     rw[(d2 hDk).2,c1 hDi]
   · by_cases hDk:D=some k
     · rw[d1 hDk,(c2 hDi).1]
     · rw[(d2 hDk).2,(c2 hDi).2,(c2 hDi).1,(d2 hDk).1]
  rw[JcX fun x hx=>a2 x hx]at h2
  rw[←hG]at h2
  exact JfD hp q4 h2
def FU(P:Program)(ops:Array Oper)(m:List Bool)(o:Oper)(s:List AV)(H:Jm)(F:KV):Prop:=
 match o.guard with
 |none=>JK P ops o s H fun v H'=>J0 (Zg m H') (Zg m H)∧F v H'
 |some (j,want)=>∃g,Um ops s j=some g∧(g=some want→JK P ops o s H fun v H'=>J0 (Zg m H') (Zg m H)∧F v H')∧(g≠some want→F .void H)
theorem Jew{o:Oper}{s s':List AV}{H:Jm}{F F':KV}(h:FU P ops m o s H F)(ha:RC (ops:=ops) o s s')(hf:∀v H',J0 (Zg m H') (Zg m H)→F v H'→F' v H'):FU P ops m o s' H F':=by
 unfold FU at h⊢
 split at h
 · exact(h.congr ha.1 ha.2).mono fun v H' ⟨h1,h2⟩=>⟨h1,hf v H' h1 h2⟩
 · rename_i j want hg
   obtain⟨g,k1,k2,k3⟩:=h
   exact⟨g,by rw[ha.guard hg];exact k1,fun he=>((k2 he).congr ha.1 ha.2).mono fun v H' ⟨h1,h2⟩=>⟨h1,hf v H' h1 h2⟩,fun he=>hf _ _ (J0.refl _) (k3 he)⟩
theorem lw_l{i:Nat}{r:List Nat}{o:Oper}(ho:ops[i]? =some o)(hD:D≠some i)(hv:¬XD F i o=true){G:Option Gh}{s:List AV}{H:Jm}{K:KS}(h:lw P ops m F D (i::r) G s H K):
 FU P ops m o s H fun v H'=>lw P ops m F D r G (QV s o.dst v) H' K:=by
 unfold lw at h
 rw[ho]at h
 simp only at h
 rw[if_neg hD]at h
 unfold FU
 split at h
 · rename_i hg
   rw[if_neg hv]at h
   exact h
 · rename_i j want hg
   obtain⟨g,h1,h2,h3⟩:=h
   refine⟨g,h1,fun he=> ?_,h3⟩
   have h2:=h2 he
   rw[if_neg hv]at h2
   exact h2
theorem Np{i:Nat}{o:Oper}(ho:ops[i]? =some o)(hD:D≠some i)(hv:¬XD F i o=true){l2:List Nat}{K:KS}{H:Jm}:∀(l1:List Nat) (G:Option Gh) (s:List AV),
 (∀k∈l1,k≠i∧Kb ops i k∧∃p,ops[k]? =some p∧(D=some k∨XD F k p=true))→lw P ops m F D (l1++i::l2) G s H K→
 FU P ops m o s H fun v H'=>lw P ops m F D (l1++l2) G (QV s o.dst v) H' K
 |[],G,s,_,h=>lw_l ho hD hv h
 |k::l1,G,s,hall,h=>by
  obtain⟨hne,hap,p,hp,hqk⟩:=hall k (by simp)
  obtain⟨vk,Gk,q1,h1⟩:=JkQ hp hqk h
  have h2:=Np ho hD hv l1 Gk (QV s p.dst vk) (fun x hx=>hall x (by simp[hx])) h1
  obtain⟨a1,a2⟩:=YR ho hp hap
  obtain⟨b1,b2⟩:=YR hp ho hap.symm
  refine Jew h2 (Rc a1).symm fun v H' hh h3=> ?_
  obtain⟨Gk',q4,d1,d2⟩:=RL (G2:=G) (s':=QV s o.dst v) (H':=H') q1 (Rc b1) hh
  rw[JcX fun x hx=>a2 x hx]at h3
  have hG:Gk'=Gk:=by
   by_cases hDk:D=some k
   · exact d1 hDk
   · rw[(d2 hDk).2,(d2 hDk).1]
  rw[←hG]at h3
  exact JfD hp q4 h3
end
theorem Jbf{P:Program}{o:Oper}{s:List AV}{H:Jm}{e:Gh}(h:ghV P s o=some e):
 o.dst=some e.d∧e.cs.all X5=true∧JZ P o ⟨s,H⟩ fun v H'=>∃g,v=ghA H.length g e.n∧H'=H++[some ⟨g,e.sz,e.cs⟩]:=by
 unfold ghV at h
 split at h
 · rename_i d t hd ho
   split at h
   · rename_i ti ht
     split at h
     · rename_i hc
       cases h
       exact⟨hd,hc,JZ.alloc ho ht fun g=>⟨g,rfl,rfl⟩⟩
     · cases h
   · cases h
 · rename_i d t l c hd ho
   split at h
   · rename_i ei _ l' _ c' h1 h2 h3
     split at h
     · rename_i hc
       cases h
       obtain⟨ti,e',k1,k2,k3⟩:=UF h1
       refine⟨hd, ?_,JZ.makeSlice ho k1 k2 k3 hc.2.1 h2 h3 hc.2.2.1.1 hc.2.2.1.2 hc.2.2.2.1 hc.2.2.2.2 fun g=>⟨g,rfl,rfl⟩⟩
       have h0:=hc.1
       simp only[List.all_eq_true]at h0⊢
       intro c hcm
       simp only[QX,Qj,List.mem_range]at hcm
       obtain⟨j,hj,rfl⟩:=hcm
       by_cases hlt:j%ei.zero.length<ei.zero.length
       · simp only[List.getD,Jq hlt,Option.getD_some]
         exact h0 _ (List.getElem_mem hlt)
       · simp only[List.getD]
         rw[Jx (Nat.le_of_not_lt hlt)]
         rfl
     · cases h
   · cases h
 · cases h
def GhI(w0 w:World)(X:Cx)(H:Jm)(a:Act)(G:Gh):Prop:=
 ∃g u,a.tmps[G.d]? =some u∧G.cs.all X5=true∧ZL w X [some ⟨g,G.sz,G.cs⟩]∧VA w X [some ⟨g,G.sz,G.cs⟩] (ghA 0 g G.n) u∧w0.heap.size≤X.mu g∧¬Kc X H (X.mu g)
theorem NG{w w':World}{X X':Cx}{id id' g g':Nat}{b b':Zv}{H H':Jm}{n:Option Nat}{u:Value}(h:VA w X H (ghA id g n) u)(hl:look H id g=some b)
 (hl':look H' id' g'=some b') (hc:b'.cs.length=b.cs.length∧b'.sz=b.sz) (hg:g'<X'.t) (hm:X'.mu g'=X.mu g) (hs:X'.sz g'=X.sz g):VA w' X' H' (ghA id' g' n) u:=by
 cases n with
 |none=>
  have h:=Uy h
  obtain⟨h1,h2,h3⟩:=h
  exact .c _ _ ⟨hg,h2,fun _=>by rw[hm];exact h3 (by rw[hl];rfl)⟩
 |some n=>
  have h:=Uy h
  obtain⟨h1,h2,h3⟩:=h
  refine .c _ _ ⟨hg,h2,fun c hc'=> ?_⟩
  rw[hl']at hc'
  cases hc'
  have:=h3 b hl
  rw[hm,hs,hc.1,hc.2]
  exact this
theorem GhI.mono{w0 w w':World}{X X':Cx}{H H':Jm}{a:Act}{G:Gh}{d:Option Tmp}{u:Value}(h:GhI w0 w X H a G)(R:ZL w X H)(E:Ev w X H w' X' H')(R':ZL w' X' H')(hd:d≠some G.d):GhI w0 w' X' H' (a.put d u) G:=by
 obtain⟨g,v,h1,hc,h2,h3,h4,h5⟩:=h
 obtain⟨b1,b2,cc,t,b3,b4,b5,b6⟩:=h2.blk 0 ⟨g,G.sz,G.cs⟩ rfl
 have hlt:X.mu g<w.heap.size:=(Array.getElem?_eq_some_iff.1 b3).1
 have hmu:=E.mu g b1
 have hnI:¬X'.I (X.mu g):=fun hI=>(E.inI _ hI).elim b2 fun h=>h.elim h5 fun h=>absurd hlt (Nat.not_lt.2 h)
 have hnO:¬Kc X' H' (X.mu g):=fun ho=>(E.own _ ho).elim h5 fun h=>absurd hlt (Nat.not_lt.2 h)
 have hl:∀g,look [some (⟨g,G.sz,G.cs⟩:Zv)] 0 g=some ⟨g,G.sz,G.cs⟩:=fun g=>by simp[look]
 refine⟨g,v, ?_,hc,⟨R'.imm,fun id b hb=> ?_,fun id id' b b' hb hb' _=> ?_,R'.tab⟩,NG h3 (hl g) (hl g) ⟨rfl,rfl⟩ (Nat.lt_of_lt_of_le b1 E.t) hmu.1 hmu.2,by rw[hmu.1];exact h4,by rw[hmu.1];exact hnO⟩
 · cases d with
   |none=>exact h1
   |some d=>
    have hne:d≠G.d:=fun h=>hd (by rw[h])
    simp only[Act.put,Array.getElem?_setIfInBounds_ne hne];exact h1
 · have:id=0:=by have:=(Jh.1 hb).1;simpa using this
   subst this
   simp at hb
   subst hb
   refine⟨Nat.lt_of_lt_of_le b1 E.t,by rw[hmu.1];exact hnI,cc,t, ?_,by rw[hmu.2];exact b4,b5,fun j hj=> ?_⟩
   · rw[hmu.1,E.frame _ hlt h5];exact b3
   · obtain⟨u,k1,k2⟩:=b6 j hj
     exact⟨u,k1,YP (List.all_eq_true.1 hc _ (List.getElem_mem _)) k2⟩
 · have e1:=(Jh.1 hb).1
   have e2:=(Jh.1 hb').1
   simp at e1 e2
   omega
theorem GhI.new{w0 w w':World}{X X':Cx}{H:Jm}{a:Act}{G:Gh}{g:Nat}{u:Value}(hw:w0.heap.size≤w.heap.size)(hd:G.d<a.tmps.size)(hc:G.cs.all X5=true)(R:ZL w X H)
 (E:Ev w X H w' X' (H++[some ⟨g,G.sz,G.cs⟩])) (R':ZL w' X' (H++[some ⟨g,G.sz,G.cs⟩])) (hv:VA w' X' (H++[some ⟨g,G.sz,G.cs⟩]) (ghA H.length g G.n) u):GhI w0 w' X' H (a.put (some G.d) u) G:=by
 have hlast:(H++[some (⟨g,G.sz,G.cs⟩:Zv)])[H.length]? =some (some ⟨g,G.sz,G.cs⟩):=by simp
 obtain⟨b1,b2,cc,t,b3,b4,b5,b6⟩:=R'.blk _ _ hlast
 have hnO:¬Kc X' H (X'.mu g):=by
  rintro⟨id,b,hb,hm⟩
  have hlt:=(Jh.1 hb).1
  have:=R'.inj id H.length b ⟨g,G.sz,G.cs⟩ (by rw[Ja hlt];exact hb) hlast hm
  omega
 have hge:w.heap.size≤X'.mu g:=by
  rcases E.own (X'.mu g) ⟨H.length,_,hlast,rfl⟩with⟨id,b,hb,hm⟩|h
  · exfalso
    refine hnO ⟨id,b,hb, ?_⟩
    rw[←hm]
    exact(E.mu b.g (R.blk id b hb).1).1
  · exact h
 have hl:look [some (⟨g,G.sz,G.cs⟩:Zv)] 0 g=some ⟨g,G.sz,G.cs⟩:=by simp[look]
 refine⟨g,u,by simp[Act.put,hd],hc,⟨R'.imm,fun id b hb=> ?_,fun id id' b b' hb hb' _=> ?_,R'.tab⟩,NG hv (J8 hlast) hl ⟨rfl,rfl⟩ b1 rfl rfl,Nat.le_trans hw hge,hnO⟩
 · have:id=0:=by have:=(Jh.1 hb).1;simpa using this
   subst this
   simp at hb
   subst hb
   refine⟨b1,b2,cc,t,b3,b4,b5,fun j hj=> ?_⟩
   obtain⟨u,k1,k2⟩:=b6 j hj
   exact⟨u,k1,YP (List.all_eq_true.1 hc _ (List.getElem_mem _)) k2⟩
 · have e1:=(Jh.1 hb).1
   have e2:=(Jh.1 hb').1
   simp at e1 e2
   omega
theorem VC.newH{w:World}{X X':Cx}{H H':Jm}(hI:X'.I=X.I)(ht:X.t≤X'.t)(hm:∀g,g<X.t→X'.mu g=X.mu g∧X'.sz g=X.sz g)(hs:∀id g b,g<X.t→look H' id g=some b→look H id g=some b)
 {x:CV} {v:Value} (h:VC w X H x v):VC w X' H' x v:=by
 cases x with
 |f x=>have h:VF w X.I x v:=h;rw[←hI]at h;exact h
 |fp cs off=>obtain⟨b,o,h1,h2,h3⟩:=h;exact⟨b,o,h1,by rw[hI];exact h2,by rw[hI];exact h3⟩
 |nilp=>exact h
 |nilf=>exact h
 |emp=>exact h
 |ptr id g off=>
  obtain⟨h1,h2,h3⟩:=h
  refine⟨Nat.lt_of_lt_of_le h1 ht,h2,fun hl=> ?_⟩
  obtain⟨b,hb⟩:=Option.isSome_iff_exists.1 hl
  rw[(hm g h1).1]
  exact h3 (by rw[hs _ _ _ h1 hb];rfl)
 |own id g off n lim=>
  obtain⟨h1,h2,h3⟩:=h
  refine⟨Nat.lt_of_lt_of_le h1 ht,h2,fun b hb=> ?_⟩
  rw[(hm g h1).1,(hm g h1).2]
  exact h3 b (hs _ _ _ h1 hb)
 |fn f caps=>
  obtain⟨h1,h2,h3⟩:=h
  refine⟨fun c hc=>Nat.lt_of_lt_of_le (h1 c hc) ht,h2,fun hl=> ?_⟩
  rw[h3 fun c hc=>by
   obtain⟨b,hb⟩:=Option.isSome_iff_exists.1 (hl c hc)
   rw[hs _ _ _ (h1 c hc) hb];rfl]
  congr 2
  exact List.map_congr_left fun c hc=>by rw[(hm c.2 (h1 c hc)).1]
theorem VA.newH{w:World}{X X':Cx}{H H':Jm}(hI:X'.I=X.I)(ht:X.t≤X'.t)(hm:∀g,g<X.t→X'.mu g=X.mu g∧X'.sz g=X.sz g)(hs:∀id g b,g<X.t→look H' id g=some b→look H id g=some b)
 {x:AV} {v:Value} (h:VA w X H x v):VA w X' H' x v:=by
 induction h with
 |c x v h=>exact .c _ _ (h.newH hI ht hm hs)
 |agg cs vs hsz h=>exact .agg _ _ hsz fun j hj=>let⟨u,h1,h2⟩:=h j hj;⟨u,h1,h2.newH hI ht hm hs⟩
 |tup vs us h ih=>exact .tup vs us ih
 |void=>exact .void
 |any v=>exact .any v
theorem GhI.real{w0 w:World}{X0 X:Cx}{H0 H:Jm}{a:Act}{s:List AV}{G:Gh}(h:GhI w0 w X H a G)(E:Ev w0 X0 H0 w X H)(R:XC w X a ⟨s,H⟩):
 ∃g X',Ev w0 X0 H0 w X' (H++[some ⟨g,G.sz,G.cs⟩])∧XC w X' a ⟨s.set G.d (ghA H.length g G.n),H++[some ⟨g,G.sz,G.cs⟩]⟩:=by
 obtain⟨g,u,h1,hc,h2,h3,h4,h5⟩:=h
 obtain⟨b1,b2,cc,t,b3,b4,b5,b6⟩:=h2.blk 0 ⟨g,G.sz,G.cs⟩ rfl
 let X':Cx:={X with mu:=fun k=>if k=X.t then X.mu g else X.mu k,sz:=fun k=>if k=X.t then X.sz g else X.sz k,t:=X.t+1}
 have hm:∀k,k<X.t→X'.mu k=X.mu k∧X'.sz k=X.sz k:=fun k hk=>by
  have hne:¬k=X.t:=by omega
  simp only[X',if_neg hne,and_self]
 have hmt:X'.mu X.t=X.mu g∧X'.sz X.t=X.sz g:=by simp only[X',if_true,and_self]
 have hlast:(H++[some (⟨X.t,G.sz,G.cs⟩:Zv)])[H.length]? =some (some ⟨X.t,G.sz,G.cs⟩):=by simp
 have hsplit:∀(id:Nat) (b:Zv),(H++[some (⟨X.t,G.sz,G.cs⟩:Zv)])[id]? =some (some b)→H[id]? =some (some b)∨(id=H.length∧b=⟨X.t,G.sz,G.cs⟩):=by
  intro id b hb
  by_cases hlt:id<H.length
  · rw[Ja hlt]at hb;exact .inl hb
  · rw[J3 (by omega)]at hb
    have he:id -H.length=0:=by have:=(Jh.1 hb).1;simpa using this
    rw[he]at hb
    simp at hb
    exact .inr ⟨by omega,hb.symm⟩
 have hs:∀id k b,k<X.t→look (H++[some (⟨X.t,G.sz,G.cs⟩:Zv)]) id k=some b→look H id k=some b:=by
  intro id k b hk hl
  obtain⟨k1,k2⟩:=JG hl
  rcases hsplit id b k1 with hb|⟨_,hb⟩
  · rw[←k2];exact J8 hb
  · subst hb;simp at k2;omega
 have hRH:=R.heap
 refine⟨X.t,X',⟨E.imm,Nat.le_trans E.t (Nat.le_succ _),fun k hk=> ?_,E.size,E.os,E.tape,E.output,fun id k b' hk hl=> ?_,E.frame,fun b hb=> ?_,E.inI⟩,R.defs,by simpa using R.size,fun i hi=> ?_,⟨hRH.imm,fun id b hb=> ?_,fun id id' b b' hb hb' he=> ?_,hRH.tab⟩⟩
 · have:=hm k (Nat.lt_of_lt_of_le hk E.t)
   rw[this.1,this.2];exact E.mu k hk
 · exact E.sub id k b' hk (hs id k b' (Nat.lt_of_lt_of_le hk E.t) hl)
 · obtain⟨id,blk,k1,k2⟩:=hb
   rcases hsplit id blk k1 with hb|⟨_,hb⟩
   · refine E.own b ⟨id,blk,hb, ?_⟩
     rw[←(hm blk.g (hRH.blk id blk hb).1).1];exact k2
   · subst hb
     right
     rw[←k2];simp only[hmt];exact h4
 · have hi0:=hi
   simp only[Jo]at hi0
   by_cases hid:G.d=i
   · refine⟨u,hid▸h1, ?_⟩
     have e:(s.set G.d (ghA H.length X.t G.n))[i]'(by simpa using hi0)=ghA H.length X.t G.n:=by simp[hid]
     show VA w X' _ ((s.set G.d (ghA H.length X.t G.n))[i]'_) u
     rw[e]
     exact NG h3 (show look [some (⟨g,G.sz,G.cs⟩:Zv)] 0 g=some ⟨g,G.sz,G.cs⟩ by simp[look]) (J8 hlast) ⟨rfl,rfl⟩ (Nat.lt_succ_self _) hmt.1 hmt.2
   · obtain⟨x,k1,k2⟩:=R.slot i hi0
     refine⟨x,k1, ?_⟩
     have e:(s.set G.d (ghA H.length X.t G.n))[i]'(by simpa using hi0)=s[i]'hi0:=by simp[hid]
     show VA w X' _ ((s.set G.d (ghA H.length X.t G.n))[i]'_) x
     rw[e]
     exact VA.newH (X:=X) (X':=X') rfl (Nat.le_succ _) hm hs k2
 · rcases hsplit id b hb with hb|⟨rfl,rfl⟩
   · obtain⟨q1,q2,cc,t,q3,q4,q5,q6⟩:=hRH.blk id b hb
     have:=hm b.g q1
     refine⟨Nat.lt_succ_of_lt q1,by rw[this.1];exact q2,cc,t,by rw[this.1];exact q3,by rw[this.2];exact q4,q5,fun j hj=> ?_⟩
     obtain⟨u,k1,k2⟩:=q6 j hj
     exact⟨u,k1,VC.newH (X:=X) (X':=X') rfl (Nat.le_succ _) hm hs k2⟩
   · refine⟨Nat.lt_succ_self _,by simp only[hmt];exact b2,cc,t,by simp only[hmt];exact b3,by simp only[hmt];exact b4,b5,fun j hj=> ?_⟩
     obtain⟨u,k1,k2⟩:=b6 j hj
     exact⟨u,k1,YP (List.all_eq_true.1 hc _ (List.getElem_mem _)) k2⟩
 · rcases hsplit id b hb with hb1|⟨rfl,rfl⟩<;>rcases hsplit id' b' hb' with hb1'|⟨rfl,rfl⟩
   · rw[(hm b.g (hRH.blk id b hb1).1).1,(hm b'.g (hRH.blk id' b' hb1').1).1]at he
     exact hRH.inj _ _ _ _ hb1 hb1' he
   · exfalso
     simp only[hmt]at he
     rw[(hm b.g (hRH.blk id b hb1).1).1]at he
     exact h5 ⟨id,b,hb1,he⟩
   · exfalso
     simp only[hmt]at he
     rw[(hm b'.g (hRH.blk id' b' hb1').1).1]at he
     exact h5 ⟨id',b',hb1',he.symm⟩
   · rfl
def ZX(π:List Nat)(L:Array Bool):List Nat:=π.filter fun i=> !L.getD i false
theorem Kt{π:List Nat}{L:Array Bool}{i:Nat}{l1 l2:List Nat}(hi:i<L.size)(hn:π.Nodup)(h:ZX π L=l1++i::l2):ZX π (L.setIfInBounds i true)=l1++l2:=by
 have e:ZX π (L.setIfInBounds i true)=(ZX π L).filter fun k=>decide (k≠i):=by
  unfold ZX
  rw[List.filter_filter]
  refine List.filter_congr fun k _=> ?_
  by_cases hk:k=i
  · subst hk;simp[hi]
  · rw[getD_set_ne false (Ne.symm hk)];simp[hk]
 have hn2:(ZX π L).Nodup:=List.Pairwise.filter _ hn
 rw[e,h]
 rw[h,Qo]at hn2
 obtain⟨n1,n2,n3⟩:=hn2
 obtain⟨n4,n5⟩:=VK.1 n2
 rw[List.filter_append,List.filter_cons_of_neg (by simp)]
 rw[List.filter_eq_self.2 fun k hk=>by simpa using n3 k hk i (by simp),List.filter_eq_self.2 fun k hk=>by simpa using fun h:k=i=>n4 (h▸hk)]
theorem Bn{π:List Nat}{L:Array Bool}{i:Nat}(h:i∉π):ZX π (L.setIfInBounds i true)=ZX π L:=by
 unfold ZX
 refine List.filter_congr fun k hk=> ?_
 have hne:i≠k:=fun he=>h (by rw[he];exact hk)
 rw[getD_set_ne false hne]
structure JjS(ops:Array Oper)(π:List Nat)(F:List Nat)(D:Option Nat)(σ:List Nat):Prop where
 back:∀(i:Nat) (o:Oper),ops[i]? =some o→∀e∈o.after,Region.binds .any e=true→e.on<i
 cover:∀i,i<ops.size→i∈π∨i∈σ
 inb:∀i,i∈π++σ→i<ops.size
 nd:(π++σ).Nodup
 ord:∀(l1 l2 l3:List Nat) (i j:Nat),π=l1++i::l2++j::l3→Zb ops ops.size i j=false∧(Kb ops i j∨Zb ops ops.size j i=true)∧(YJ ops F D i=true∨Zb ops ops.size j i=true)
 gh:∀d,D=some d→(∃o,ops[d]? =some o∧o.guard=none∧Vo o.op=false)∧∀i∈π,i≠d→U6 ops i d=false
 last:∀i∈σ,∀j∈π,Zb ops ops.size i j=true
 seq:∀(l1 l2 l3:List Nat) (i j:Nat),σ=l1++i::l2++j::l3→Zb ops ops.size j i=true
theorem JaY{ops:Array Oper}{π:List Nat}{F:List Nat}{D:Option Nat}{σ:List Nat}(h:Wi ops π F D σ=true):JjS ops π F D σ:=by
 unfold Wi at h
 simp only[Bool.and_eq_true]at h
 obtain⟨⟨⟨⟨⟨⟨⟨h1,h2⟩,h3⟩,h4⟩,h5⟩,h6⟩,h7⟩,h8⟩:=h
 refine⟨fun i o ho e he hb=> ?_,fun i hi=> ?_,fun i hi=> ?_,of_decide_eq_true h4,fun l1 l2 l3 i j hp=> ?_,fun d hd=> ?_,fun i hi j hj=> ?_,fun l1 l2 l3 i j hp=> ?_⟩
 · have hi:i<ops.size:=(Array.getElem?_eq_some_iff.1 ho).1
   have:=List.all_eq_true.1 h1 i (List.mem_range.2 hi)
   simp only[ho]at this
   have h2:=Array.all_eq_true'.1 this e he
   simpa[hb]using h2
 · have:=List.all_eq_true.1 h2 i (List.mem_range.2 hi)
   simpa using this
 · simpa using List.all_eq_true.1 h3 i hi
 · have:=Xo h5 ⟨l3,hp⟩
   simp only[Bool.and_eq_true,Bool.or_eq_true,Bool.not_eq_true']at this
   refine⟨this.1.1,this.1.2.imp (fun h=> ?_) id,this.2⟩
   have h:=Bool.or_eq_false_iff.1 h
   exact⟨h.1,h.2⟩
 · subst hd
   simp only[Bool.and_eq_true]at h6
   refine⟨?_,fun i hi hne=> ?_⟩
   · cases ho:ops[d]? with
     |none=>rw[ho]at h6;cases h6.1
     |some o=>
      rw[ho]at h6
      simp only[Bool.and_eq_true,Option.isNone_iff_eq_none]at h6
      refine⟨o,rfl,h6.1.1, ?_⟩
      have:=h6.1.2
      split at this
      · rename_i q;rw[q];rfl
      · rename_i q;rw[q];rfl
      · cases this
   · have:=List.all_eq_true.1 h6.2 i hi
     simpa[hne]using this
 · exact List.all_eq_true.1 (List.all_eq_true.1 h7 i hi) j hj
 · exact Xo (f:=fun i j=>Zb ops ops.size j i) h8 ⟨l3,hp⟩
section
variable{P:Program}{ops:Array Oper}{m:List Bool}{π σ:List Nat}{F:List Nat}{D:Option Nat}{w0:World}{X0:Cx}{H0:Jm}{K:KS}
structure JmF(P:Program)(ops:Array Oper)(m:List Bool)(π σ:List Nat)(F:List Nat)(D:Option Nat)(w0:World)(X0:Cx)(H0:Jm)(K:KS)(L:Array Bool)(a:Act)(w:World):Prop where
 size:L.size=ops.size
 closed:FH ops L
 st:∃X H s,Ev w0 X0 H0 w X H∧XC w X a ⟨s,H⟩∧
  ((ZX π L≠[]∧∃G,(∀e,G=some e→GhI w0 w X H a e∧∃d o,D=some d∧ops[d]? =some o∧o.dst=some e.d∧L.getD d false=true)∧lw P ops m F D (ZX π L) G s H (fun s H=>sw P ops σ s H K)∧ZX σ L=σ)∨
   (ZX π L=[]∧sw P ops (ZX σ L) s H K))
theorem Je4{Q:Exit→Act→World→Prop}(hB:JjS ops π F D σ)(hQ:∀L a w,JmF P ops m π σ F D w0 X0 H0 K L a w→(∀i,i<ops.size→L.getD i false=true)→Q .normal a w):
 ∀(fuel:Nat) (L:Array Bool) (a:Act) (w:World),((List.range ops.size).filter fun i=> !L.getD i false).length=fuel→JmF P ops m π σ F D w0 X0 H0 K L a w→wpAny P .any ops Q fuel L a w:=by
 have hdone:∀L a w,JmF P ops m π σ F D w0 X0 H0 K L a w→Region.ready .any ops L=[]→∀i,i<ops.size→L.getD i false=true:=by
  intro L a w inv hr i
  induction i using Nat.strongRecOn with
  |_ i ih=>
   intro hi
   cases hl:L.getD i false with
   |true=>rfl
   |false=>
    have:i∈Region.ready .any ops L:=mem_ready.2 ⟨by
     have hi':i<L.size:=by rw[inv.size];exact hi
     simp[hi']at hl⊢;exact hl,ops[i],Array.getElem?_eq_getElem hi,fun e he hb=>by
      have hlt:=hB.back i _ (Array.getElem?_eq_getElem hi) e he hb
      exact ih e.on hlt (by omega)⟩
    rw[hr]at this
    cases this
 intro fuel
 induction fuel with
 |zero=>
  intro L a w hn inv
  have hall:∀i,i<ops.size→L.getD i false=true:=by
   intro i hi
   have:=List.filter_eq_nil_iff.1 (List.eq_nil_of_length_eq_zero hn) i (List.mem_range.2 hi)
   simpa using this
  refine⟨?_,hQ L a w inv hall⟩
  cases hr:Region.ready .any ops L with
  |nil=>rfl
  |cons i r=>
   have hm:i∈Region.ready .any ops L:=by rw[hr];simp
   obtain⟨h1,o,h2,_⟩:=mem_ready.1 hm
   have hi:i<ops.size:=(Array.getElem?_eq_some_iff.1 h2).1
   have:=hall i hi
   have hi':i<L.size:=by rw[inv.size];exact hi
   simp[hi']at h1 this
   rw[h1]at this;cases this
 |succ fuel ih=>
  intro L a w hn inv
  refine⟨fun hr=>hQ L a w inv (hdone L a w inv hr),fun i hi=> ?_⟩
  obtain⟨hun,o,ho,hdeps⟩:=mem_ready.1 hi
  have hilt:i<ops.size:=(Array.getElem?_eq_some_iff.1 ho).1
  have hiL:i<L.size:=by rw[inv.size];exact hilt
  have hun':L.getD i false=false:=by simp[hiL]at hun⊢;exact hun
  have hwait:∀j,Zb ops ops.size i j=true→L.getD j false=true:=fun j hj=>
   VV inv.closed _ _ _ hj fun o' ho' e he hb=>by
    have:o'=o:=Option.some.inj (ho'.symm.trans ho)
    subst this;exact hdeps e he hb
  have hcount:((List.range ops.size).filter fun k=> !(L.setIfInBounds i true).getD k false).length=fuel:=by
   have e:((List.range ops.size).filter fun k=> !(L.setIfInBounds i true).getD k false)=((List.range ops.size).filter fun k=> !L.getD k false).filter (fun k=>decide (k≠i)):=by
    rw[List.filter_filter]
    refine List.filter_congr fun k hk=> ?_
    by_cases hki:k=i
    · subst hki;simp[hiL]
    · rw[getD_set_ne false (Ne.symm hki)];simp[hki]
   rw[e]
   have hnd:((List.range ops.size).filter fun k=> !L.getD k false).Nodup:=List.Pairwise.filter _ List.nodup_range
   have hmem:i∈(List.range ops.size).filter fun k=> !L.getD k false:=List.mem_filter.2 ⟨List.mem_range.2 hilt,by simp[hun']⟩
   have:=hnd.erase_eq_filter i
   have h2:=List.length_erase_of_mem hmem
   rw[this]at h2
   have e2:(fun k=>decide (k≠i))=(fun x=>x !=i):=by funext k;by_cases hk:k=i<;>simp[hk]
   rw[e2,h2,hn];rfl
  have hclosed:FH ops (L.setIfInBounds i true):=by
   intro j oj hoj hl e he hb
   by_cases hij:i=j
   · subst hij
     have:oj=o:=Option.some.inj (hoj.symm.trans ho)
     subst this
     exact getD_set_true (hdeps e he hb)
   · rw[getD_set_ne false hij]at hl
     exact getD_set_true (inv.closed j oj hoj hl e he hb)
  have hsize:(L.setIfInBounds i true).size=ops.size:=by simp[inv.size]
  have hnd:=Qo.1 hB.nd
  obtain⟨X,H,s,E,R,hcase⟩:=inv.st
  --what a step must leave
  have fin:∀{a':Act} {w':World},(∃X' H' s',Ev w0 X0 H0 w' X' H'∧XC w' X' a' ⟨s',H'⟩∧
   ((ZX π (L.setIfInBounds i true)≠[]∧∃G,(∀e,G=some e→GhI w0 w' X' H' a' e∧∃d o,D=some d∧ops[d]? =some o∧o.dst=some e.d∧(L.setIfInBounds i true).getD d false=true)∧lw P ops m F D (ZX π (L.setIfInBounds i true)) G s' H' (fun s H=>sw P ops σ s H K)∧ZX σ (L.setIfInBounds i true)=σ)∨
    (ZX π (L.setIfInBounds i true)=[]∧sw P ops (ZX σ (L.setIfInBounds i true)) s' H' K)))→wpAny P .any ops Q fuel (L.setIfInBounds i true) a' w':=
   fun h=>ih _ _ _ hcount ⟨hsize,hclosed,h⟩
  rcases hcase with⟨hrem,G,hG,hlw,hσ⟩|⟨hrem,hsw⟩
  · --the first part
    have hiπ:i∈π:=by
     rcases hB.cover i hilt with h|h
     · exact h
     · exfalso
       apply hrem
       unfold ZX
       refine List.filter_eq_nil_iff.2 fun j hj=> ?_
       rw[hwait j (hB.last i h j hj)]
       simp
    have hiσ:i∉σ:=fun h=>hnd.2.2 i hiπ i h rfl
    have hir:i∈ZX π L:=List.mem_filter.2 ⟨hiπ,by rw[hun'];rfl⟩
    obtain⟨l1,l2,hsplit⟩:=List.append_of_mem hir
    have hrem':=Kt hiL hnd.1 hsplit
    rw[hsplit]at hlw
    have hl1:∀k∈l1,k≠i∧Kb ops i k∧∃p,ops[k]? =some p∧(D=some k∨XD F k p=true):=by
     intro k hk
     obtain⟨q1,q2,hq⟩:=List.append_of_mem hk
     have hsub:(k::q2++i::l2).Sublist π:=by
      have h1:(ZX π L).Sublist π:=List.filter_sublist
      rw[hsplit,hq]at h1
      refine List.Sublist.trans ?_ h1
      simp
     have hpos:∃r1 r2 r3,π=r1++k::r2++i::r3:=by
      have h2:([k,i]:List Nat).Sublist π:=by
       refine List.Sublist.trans ?_ hsub
       simp
      obtain⟨r1,r2,e,hk1,hi1⟩:∃r1 r2,π=r1++r2∧k∈r1∧[i].Sublist r2:=by
       have:=List.cons_sublist_iff.1 h2
       obtain⟨r1,r2,e1,e2,e3⟩:=this
       exact⟨r1,r2,e1,e2,e3⟩
      obtain⟨c1,c2,hc⟩:=List.append_of_mem hk1
      obtain⟨d1,d2,hd⟩:=List.append_of_mem (List.singleton_sublist.1 hi1)
      exact⟨c1,c2++d1,d2,by rw[e,hc,hd];simp⟩
     obtain⟨r1,r2,r3,hπ⟩:=hpos
     obtain⟨o1,o2,o3⟩:=hB.ord r1 r2 r3 k i hπ
     have hku:L.getD k false=false:=by
      have:k∈ZX π L:=by rw[hsplit];exact List.mem_append_left _ hk
      have:=(List.mem_filter.1 this).2
      simpa using this
     have hnw:¬Zb ops ops.size i k=true:=fun h=>by rw[hwait k h]at hku;cases hku
     have hki:k≠i:=by
      rintro rfl
      have:=hnd.1
      rw[hπ]at this
      simp[Qo]at this
     have hq:=o3.resolve_right hnw
     have hkπ:k<ops.size:=hB.inb k (by rw[hπ];simp)
     refine⟨hki,(o2.resolve_right hnw).symm,ops[k],Array.getElem?_eq_getElem hkπ, ?_⟩
     unfold YJ at hq
     rw[Array.getElem?_eq_getElem hkπ]at hq
     simpa using hq
    --what comes behind a step of the first part
    have stay:∀{G':Option Gh} {s':List AV} {X':Cx} {H':Jm} {a':Act} {w':World},Ev w0 X0 H0 w' X' H'→XC w' X' a' ⟨s',H'⟩→(∀e,G'=some e→GhI w0 w' X' H' a' e∧∃d o,D=some d∧ops[d]? =some o∧o.dst=some e.d∧(L.setIfInBounds i true).getD d false=true)→
     lw P ops m F D (l1++l2) G' s' H' (fun s H=>sw P ops σ s H K)→wpAny P .any ops Q fuel (L.setIfInBounds i true) a' w':=by
     intro G' s' X' H' a' w' E' R' hG' hlw'
     have hσ':ZX σ (L.setIfInBounds i true)=σ:=by rw[Bn hiσ,hσ]
     by_cases he:l1++l2=[]
     · rw[he]at hlw'
       have hlw':XH G' s' H' (fun s H=>sw P ops σ s H K):=hlw'
       refine fin ?_
       cases G' with
       |none=>exact⟨X',H',s',E',R', .inr ⟨by rw[hrem',he],by rw[hσ'];exact hlw'⟩⟩
       |some e=>
        obtain⟨g,X2,E2,R2⟩:=(hG' e rfl).1.real E' R'
        exact⟨X2,_,_,E2,R2, .inr ⟨by rw[hrem',he],by rw[hσ'];exact hlw' g⟩⟩
     · exact fin ⟨X',H',s',E',R', .inl ⟨by rw[hrem'];exact he,G',hG',by rw[hrem'];exact hlw',hσ'⟩⟩
    have hGd:∀e,G=some e→D≠some i∧o.dst≠some e.d:=by
     intro e he
     obtain⟨_,d,od,h1,h2,h3,h4⟩:=hG e he
     have hne:i≠d:=fun h=>by rw[←h,hun']at h4;cases h4
     refine⟨fun h=>hne (Option.some.inj (h.symm.trans h1)),fun h=> ?_⟩
     have:=(hB.gh d h1).2 i hiπ hne
     simp only[U6,ho,h2,h3,Bool.or_eq_false_iff]at this
     rw[h]at this
     simp at this
    have keepG:∀{w':World} {X':Cx} {H':Jm} {u:Value},Ev w X H w' X' H'→ZL w' X' H'→∀e,G=some e→GhI w0 w' X' H' (a.put o.dst u) e∧∃d o,D=some d∧ops[d]? =some o∧o.dst=some e.d∧(L.setIfInBounds i true).getD d false=true:=by
     intro w' X' H' u E' R' e he
     obtain⟨h0,d,od,h1,h2,h3,h4⟩:=hG e he
     exact⟨h0.mono R.heap E' R' (hGd e he).2,d,od,h1,h2,h3,getD_set_true h4⟩
    unfold wpOp
    simp only[ho]
    by_cases hD:D=some i
    · --the new block
      obtain⟨⟨o',ho',hgn,hnv⟩,hme⟩:=hB.gh i hD
      have:o'=o:=Option.some.inj (ho'.symm.trans ho)
      subst this
      obtain⟨v,G',hq,hlw'⟩:=Bz ho (.inl hD) l1 G s hl1 hlw
      rcases hq with⟨_,e,h1,h2,h3⟩|⟨h,_⟩
      · subst h2 h3
        obtain⟨hd,hc,hop⟩:=Jbf (H:=H) h1.1
        rw[if_pos (by simp[Region.wanted,hgn])]
        refine .inl (hop w X a R _ _ fun v u X' H' w' k1 k2 k3 ⟨g,k4,k5⟩=> ?_)
        subst k4 k5
        have Eh:Ev w' X' (H++[some ⟨g,e.sz,e.cs⟩]) w' X' H:=(J0.app _ _).ev
        have E1:Ev w X H w' X' H:=k3.trans Eh
        have hdl:e.d<a.tmps.size:=by rw[R.size];exact h1.2
        refine stay (E.trans E1) (R.put E1 ((J0.app _ _).rel k2) (.any _)) (fun e' he'=> ?_) hlw'
        cases he'
        refine⟨?_,i,o',hD,ho,hd,by simp[hiL]⟩
        rw[hd]
        exact GhI.new E.size hdl hc R.heap k3 k2 k1
      · exact absurd hD h
    · by_cases hv:XD F i o=true
      · obtain⟨v,G',hq,hlw'⟩:=Bz ho (.inr hv) l1 G s hl1 hlw
        rcases hq with⟨h,_⟩|⟨_,hGG,hq⟩
        · exact absurd h hD
        subst hGG
        have run:qv P ops m o s H v→o.wp P a w (wpAny P .any ops Q fuel (L.setIfInBounds i true)) Q:=by
         intro hov
         unfold qv at hov
         split at hov
         rotate_left
         · exact hov H w X a (R.toT _) _ _ fun u w' X' hg' hw' hv' hH'=>stay (E.trans (hw'.ev hg' R.heap)) (R.put (hw'.ev hg' R.heap) hH' hv') (keepG (hw'.ev hg' R.heap) hH') hlw'
         obtain⟨u,k1,k2⟩:=Wm (P:=P) R (Nc (Gv m H) hov)
         exact Z7 (k1 w (Z6.refl w) o rfl) (stay E (R.put (Ev.refl _ _ _) R.heap k2) (keepG (Ev.refl _ _ _) R.heap) hlw')
        split at hq
        · rename_i hgd
          rw[if_pos (by simp[Region.wanted,hgd])]
          exact .inl (run hq.2)
        · rename_i j want hgd
          obtain⟨g,hg1,hg2,hg3⟩:=hq
          have hy:=UW R hg1
          by_cases he:g=some want
          · rw[if_pos (by simp[Region.wanted,hgd,hy,he])]
            exact .inl (run (hg2 he).2)
          · rw[if_neg (by simp only[Region.wanted,hgd,hy];simpa using he)]
            rw[hg3 he]at hlw'
            exact stay E (R.put (Ev.refl _ _ _) R.heap .void) (keepG (Ev.refl _ _ _) R.heap) hlw'
      · have hls:=Np ho hD hv l1 G s hl1 hlw
        unfold FU at hls
        have run:(JK P ops o s H fun v H'=>J0 (Zg m H') (Zg m H)∧lw P ops m F D (l1++l2) G (QV s o.dst v) H' (fun s H=>sw P ops σ s H K))→o.wp P a w (wpAny P .any ops Q fuel (L.setIfInBounds i true)) Q:=fun hop=>
         hop w X a (R.toT _) _ _ fun v u X' H' w' k1 k2 k3 ⟨_,k4⟩=>stay (E.trans k3) (R.put k3 k2 k1) (keepG k3 k2) k4
        split at hls
        · rename_i hgd
          rw[if_pos (by simp[Region.wanted,hgd])]
          exact .inl (run hls)
        · rename_i j want hgd
          obtain⟨g,hg1,hg2,hg3⟩:=hls
          have hy:=UW R hg1
          by_cases he:g=some want
          · rw[if_pos (by simp[Region.wanted,hgd,hy,he])]
            exact .inl (run (hg2 he))
          · rw[if_neg (by simp only[Region.wanted,hgd,hy];simpa using he)]
            exact stay E (R.put (Ev.refl _ _ _) R.heap .void) (keepG (Ev.refl _ _ _) R.heap) (hg3 he)
  · --the second part
    have hiσ:i∈σ:=by
     rcases hB.cover i hilt with h|h
     · exfalso
       have:i∈ZX π L:=List.mem_filter.2 ⟨h,by rw[hun'];rfl⟩
       rw[hrem]at this;cases this
     · exact h
    have hiπ:i∉π:=fun h=>hnd.2.2 i h i hiσ rfl
    have hir:i∈ZX σ L:=List.mem_filter.2 ⟨hiσ,by rw[hun'];rfl⟩
    obtain⟨l1,l2,hsplit⟩:=List.append_of_mem hir
    have hl1:l1=[]:=by
     cases l1 with
     |nil=>rfl
     |cons k q=>
      exfalso
      have hsub:([k,i]:List Nat).Sublist σ:=by
       have h1:(ZX σ L).Sublist σ:=List.filter_sublist
       rw[hsplit]at h1
       refine List.Sublist.trans ?_ h1
       simp
      obtain⟨r1,r2,e1,hk1,hi1⟩:=List.cons_sublist_iff.1 hsub
      obtain⟨c1,c2,hc⟩:=List.append_of_mem hk1
      obtain⟨d1,d2,hd⟩:=List.append_of_mem (List.singleton_sublist.1 hi1)
      have hw:=hwait k (hB.seq c1 (c2++d1) d2 k i (by rw[e1,hc,hd];simp))
      have:k∈ZX σ L:=by rw[hsplit];simp
      have:=(List.mem_filter.1 this).2
      rw[hw]at this;cases this
    subst hl1
    have hrem':=Kt hiL hnd.2.1 hsplit
    rw[hsplit]at hsw
    simp only[Jc]at hsw hrem'
    unfold sw at hsw
    rw[ho]at hsw
    simp only at hsw
    have hops:=Kk [o] s H _ hsw
    have hπ':ZX π (L.setIfInBounds i true)=[]:=by rw[Bn hiπ,hrem]
    have stay:∀{s':List AV} {X':Cx} {H':Jm} {a':Act} {w':World},Ev w0 X0 H0 w' X' H'→XC w' X' a' ⟨s',H'⟩→sw P ops l2 s' H' K→wpAny P .any ops Q fuel (L.setIfInBounds i true) a' w':=
     fun{s' X' H' a' w'} E' R' h=>fin ⟨X',H',s',E',R', .inr ⟨hπ',by rw[hrem'];exact h⟩⟩
    unfold N9 at hops
    unfold wpOp
    simp only[ho]
    have run:(JZ P o ⟨s,H⟩ fun v H'=>N9 P ops [] ⟨QV s o.dst v,H'⟩ fun st=>sw P ops l2 st.s st.h K)→o.wp P a w (wpAny P .any ops Q fuel (L.setIfInBounds i true)) Q:=fun hop=>
     hop w X a R _ _ fun v u X' H' w' k1 k2 k3 k4=>stay (E.trans k3) (R.put k3 k2 k1) k4
    split at hops
    · rename_i hgd
      rw[if_pos (by simp[Region.wanted,hgd])]
      exact .inl (run hops)
    · rename_i j want hgd
      obtain⟨g,hg1,hg2,hg3⟩:=hops
      have hy:=UW R hg1
      by_cases he:g=some want
      · rw[if_pos (by simp[Region.wanted,hgd,hy,he])]
        exact .inl (run (hg2 he))
      · rw[if_neg (by simp only[Region.wanted,hgd,hy];simpa using he)]
        exact stay E (R.put (Ev.refl _ _ _) R.heap .void) (hg3 he)
end
theorem QH.regionL{P:Program}{id:Nat}{ops:Array Oper}{st:St}{Q:Exit→St→Prop}(π:List Nat)(F:List Nat)(D:Option Nat)(σ:List Nat)(m:List Bool)(hm:P.follows .mixedOrders=true)(hB:Wi ops π F D σ=true)
 (h:lw P ops m F D π none st.s st.h fun s H=>sw P ops σ s H fun s H=>Q .normal ⟨s,H⟩):QH P (.region id ops true) st Q:=by
 intro w X a R
 have hd:Z6 w {w with drawn:=w.drawn+1}:=⟨fun _ _=>rfl,Nat.le_refl _,rfl,rfl,rfl⟩
 have Rd:=hd.st R
 refine wp_region_any hm ?_
 have hrep:∀j,(Array.replicate ops.size false).getD j false=false:=fun j=>by
  rcases Nat.lt_or_ge j ops.size with h|h
  · simp[h]
  · simp[h]
 have hn:((List.range ops.size).filter fun i=> !(Array.replicate ops.size false).getD i false).length=ops.size:=by
  rw[List.filter_eq_self.2]
  · simp
  · intro i hi
    rw[hrep];rfl
 have hfull:∀l:List Nat,ZX l (Array.replicate ops.size false)=l:=fun l=>List.filter_eq_self.2 fun i _=>by rw[hrep];rfl
 refine Je4 (P:=P) (m:=m) (w0:=w) (X0:=X) (H0:=st.h) (K:=fun s H=>Q .normal ⟨s,H⟩) (JaY hB) ?_ ops.size _ a _ hn ⟨by simp,(fun j o _ hl=>by rw[hrep]at hl;cases hl),X,st.h,st.s,hd.ev R.heap,Rd, ?_⟩
 · intro L a' w' inv hall
   obtain⟨X',H,s,E,R',hc⟩:=inv.st
   have hB':=JaY hB
   have h1:∀l:List Nat,(∀i∈l,i∈π++σ)→ZX l L=[]:=fun l hl=>List.filter_eq_nil_iff.2 fun i hi=>by rw[hall i (hB'.inb i (hl i hi))];simp
   rcases hc with⟨h2,_⟩|⟨_,h3⟩
   · exact absurd (h1 π fun i hi=>List.mem_append_left _ hi) h2
   · rw[h1 σ fun i hi=>List.mem_append_right _ hi]at h3
     exact⟨X',⟨s,H⟩,R',E,h3⟩
 · cases π with
   |nil=>exact .inr ⟨rfl,by rw[hfull];exact h⟩
   |cons i r=>exact .inl ⟨by rw[hfull];simp,none,⟨fun e he=>(by cases he),by rw[hfull];exact h,hfull _⟩⟩
end Go.Lg
