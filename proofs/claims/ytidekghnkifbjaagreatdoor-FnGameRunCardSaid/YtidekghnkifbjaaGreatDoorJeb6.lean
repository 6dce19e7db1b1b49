/- LgZ3, GpCA, GpCC, cut to what is needed. -/
import Derived.Test.YtidekghnkifbjaaGreatDoorJeb3
import Derived.Test.YtidekghnkifbjaaGreatDoorJeb5
import Derived.Test.YtidekghnkifbjaaGreatDoorJeb0
import Derived.KernelRfl
open List renaming getElem?_append_left → Ja, cons_append → Jb, nil_append → Jc, replicate → Jd, length_cons → Je, length_nil → Jf, getElem?_eq_some_iff → Jh, length_append → Jk, getElem?_eq_getElem → Jq, getElem?_eq_none → Jx, length_take → JP, drop_zero → JR, getElem?_set_self → JX, getElem?_take_of_lt → J1, mapM_cons → J4, mem_map → Qj, mem_cons → Qn, map_cons → Qr, map_nil → ZV
open Nat renaming reduceAdd→zA,reduceMul→zM,reduceSub→zS,reduceEqDiff→zE,reduceLeDiff→zL
set_option linter.unusedSimpArgs false
set_option linter.unusedVariables false
set_option maxRecDepth 100000
namespace Go.Lg
mutual
def Fh:FV→FV
 | .nil=> .sl 0 []
 | .sl n cs=> .sl n (nzL cs)
 | .int k n=> .int k n
 | .bool b=> .bool b
 | .str s=> .str s
def nzL:List FV→List FV
 |[]=>[]
 |x::l=>Fh x::nzL l
end
theorem Jfu:∀l:List FV,nzL l=l.map Fh
 |[]=>rfl
 |x::l=>by rw[nzL,Jfu l];rfl
theorem Nd(n:Nat)(cs:List FV):Fh (.sl n cs)= .sl n (cs.map Fh):=by rw[Fh,Jfu]
theorem Ja3{w:World}{I:Nat→Prop}{x:FV}{v:Value}(h:VF w I x v):VF w I (Fh x) v:=by
 induction h with
 |int k n=>exact .int k n
 |bool b=>exact .bool b
 |str s=>exact .str s
 |nil=>exact .sl0 none 0
 |sl0 a cap=>rw[Nd];exact .sl0 a cap
 |sl n cs b o cap u hc hI hu hv ih=>
  rw[Nd]
  refine .sl n _ b o cap u hc hI (fun j hj=>hu j (by simpa using hj)) fun j hj=> ?_
  rw[List.getElem_map]
  exact ih j (by simpa using hj)
def frzS(S:Nat→Bool)(H:Jm):Nat→CV→Option FV
 |_, .f x=>some (Fh x)
 |_, .emp=>some (.sl 0 [])
 |n+1, .own id g off k _=>if S id then match look H id g with
  |some b=>(((b.cs.drop off).take (k*b.sz)).mapM (frzS S H n)).map (.sl k)
  |none=>none else none
 |_,_=>none
def Cx.iceS(X:Cx)(S:Nat→Bool)(H:Jm):Cx:={X with I:=fun b=>X.I b∨∃(id:Nat) (blk:Zv),S id=true∧H[id]? =some (some blk)∧X.mu blk.g=b}
def FF(S:Nat→Bool)(H:Jm)(c c':CV):Prop:=c'=c∨∃y,frzS S H 6 c=some y∧c'= .f y
def B0(S:Nat→Bool)(H H':Jm):Prop:=∀(id:Nat) (b':Zv),H'[id]? =some (some b')→S id=false∧∃b,H[id]? =some (some b)∧b'.g=b.g∧b'.sz=b.sz∧b'.cs.length=b.cs.length∧∀j (h:j<b.cs.length),∃c',b'.cs[j]? =some c'∧FF S H b.cs[j] c'
inductive Jci(S:Nat→Bool)(H:Jm):AV→AV→Prop where
 |c (x y:CV) (h:FF S H x y):Jci S H (.c x) (.c y)
 |agg (xs ys:List CV) (hl:ys.length=xs.length) (h:∀j (h:j<xs.length),∃y,ys[j]? =some y∧FF S H xs[j] y):Jci S H (.agg xs) (.agg ys)
 |s (x:AV):Jci S H x x
inductive Jch(S:Nat→Bool)(H:Jm):AV→AV→Prop where
 |o (x y:AV) (h:Jci S H x y):Jch S H x y
 |tup (xs ys:List AV) (hl:ys.length=xs.length) (h:∀j (h:j<xs.length),∃y,ys[j]? =some y∧Jci S H xs[j] y):Jch S H (.tup xs) (.tup ys)
section
variable{w:World}{X:Cx}{S:Nat→Bool}{H H':Jm}
theorem BI(hh:B0 S H H'):Ev w X H w (X.iceS S H) H':=
 ⟨fun b hb=>⟨.inl hb,rfl⟩,Nat.le_refl _,fun _ _=>⟨rfl,rfl⟩,Nat.le_refl _,rfl,rfl,rfl,
  fun id g b' _ h=>by
   obtain⟨h1,h2⟩:=JG h
   obtain⟨_,b,k1,k2,k3,k4,_⟩:=hh id b' h1
   have hg:b.g=g:=by rw[←k2];exact h2
   refine⟨b, ?_,k4.symm,k3.symm⟩
   subst hg
   exact J8 k1,
  fun _ _ _=>rfl,
  fun b ⟨id,blk,h1,h2⟩=>by
   obtain⟨_,b0,k1,k2,_⟩:=hh id blk h1
   exact .inl ⟨id,b0,k1,by rw[←k2];exact h2⟩,
  fun b hb=>hb.elim .inl fun⟨id,blk,_,h1,h2⟩=> .inr (.inl ⟨id,blk,h1,h2⟩)⟩
theorem JeK(R:ZL w X H):∀(n:Nat) (x:CV) (y:FV) (v:Value),frzS S H n x=some y→VC w X H x v→VF w (X.iceS S H).I y v:=by
 intro n
 induction n with
 |zero=>
  intro x y v h hv
  cases x with
  |f x=>simp only[frzS,Option.some.injEq]at h;subst h;exact Ja3 (VF.wide (fun b hb=> .inl hb) hv)
  |emp=>simp only[frzS,Option.some.injEq]at h;subst h;obtain⟨a,rfl⟩:=hv;exact .sl0 _ _
  |_=>simp[frzS]at h
 |succ n ih=>
  intro x y v h hv
  cases x with
  |f x=>simp only[frzS,Option.some.injEq]at h;subst h;exact Ja3 (VF.wide (fun b hb=> .inl hb) hv)
  |emp=>simp only[frzS,Option.some.injEq]at h;subst h;obtain⟨a,rfl⟩:=hv;exact .sl0 _ _
  |own id g off k lim=>
   simp only[frzS]at h
   split at h
   rotate_left
   · cases h
   rename_i hS
   split at h
   · rename_i b hl
     cases hf:((b.cs.drop off).take (k*b.sz)).mapM (frzS S H n)with
     |none=>simp[hf]at h
     |some xs=>
      simp[hf]at h
      subst h
      obtain⟨hl1,hl2⟩:=Uh hf
      obtain⟨hgt,_,hall⟩:=hv
      obtain⟨c1,a0,cap,rfl,c2,c3,c4,c5⟩:=hall b hl
      obtain⟨hid,hgg⟩:=JG hl
      subst hgg
      obtain⟨_,_,cc,t,g3,g4,g5,g6⟩:=R.blk id b hid
      have hlen:xs.length=k*b.sz:=by rw[hl1];simp;omega
      have hI:(X.iceS S H).I (X.mu b.g):= .inr ⟨id,b,hS,hid,rfl⟩
      by_cases h0:k*b.sz=0
      · have hx0:xs=[]:=List.eq_nil_of_length_eq_zero (by omega)
        subst hx0
        by_cases hn:k=0
        · subst hn;exact VF.sl0 _ _
        · by_cases hcap:cap=0
          · omega
          · have:=c3 hcap
            subst this
            exact VF.sl k [] (X.mu b.g) off cap (fun _=>undef) c2 hI (fun j hj=>absurd hj (by simp)) (fun j hj=>absurd hj (by simp))
      · have hn:k≠0:=fun h=>h0 (by rw[h];simp)
        have:=c3 (by omega)
        subst this
        have hget:∀j,j<xs.length→∃u,cc[off+j]? =some u∧∀h:j<xs.length,VF w (X.iceS S H).I xs[j] u:=fun j hj=>by
         obtain⟨u,h7,h8⟩:=g6 (off+j) (by omega)
         refine⟨u,h7,fun hj=> ?_⟩
         obtain⟨y,e1,e2⟩:=hl2 j (by rw[←hl1];exact hj)
         have e3:xs[j]=y:=by simpa[Jq hj]using e1
         rw[e3]
         refine ih _ _ _ e2 ?_
         simp only[List.getElem_take,List.getElem_drop]
         exact h8
        refine VF.sl k xs (X.mu b.g) off cap (fun j=>cc.getD (off+j) undef) c2 hI (fun j hj=> ?_) (fun j hj=> ?_)
        · obtain⟨u,h7,h8⟩:=hget j hj
          simp[World.cell?,g3,Array.getD_eq_getD_getElem?,h7]
        · obtain⟨u,h7,h8⟩:=hget j hj
          simp only[Array.getD_eq_getD_getElem?,h7,Option.getD_some]
          exact h8 hj
   · cases h
  |_=>simp[frzS]at h
theorem RV(R:ZL w X H)(hh:B0 S H H'){x y:CV}{v:Value}(h:FF S H x y)(hv:VC w X H x v):VC w (X.iceS S H) H' y v:=by
 rcases h with rfl|⟨z,h1,rfl⟩
 · exact hv.mono (BI hh)
 · exact JeK R 6 x z v h1 hv
theorem Nz(R:ZL w X H)(hh:B0 S H H'):ZL w (X.iceS S H) H':=
 ⟨fun b hb=>hb.elim (R.imm b) fun⟨id,blk,_,h1,h2⟩=>by
   obtain⟨_,_,cc,t,h3,_⟩:=R.blk id blk h1
   rw[←h2]
   exact(Array.getElem?_eq_some_iff.1 h3).1,
  fun id b' hb=>by
   obtain⟨k0,b,k1,k2,k3,k4,k5⟩:=hh id b' hb
   obtain⟨h1,h2,cc,t,h3,h4,h5,h6⟩:=R.blk id b k1
   rw[k2]
   refine⟨h1,fun hI=>hI.elim h2 fun⟨id2,b2,e1,e2,e3⟩=> ?_,cc,t,h3,h4,by rw[k4];exact h5,fun j hj=> ?_⟩
   · have:=R.inj id2 id b2 b e2 k1 e3
     rw[this,k0]at e1
     cases e1
   · rw[k4]at hj
     obtain⟨u,u1,u2⟩:=h6 j hj
     obtain⟨c',e1,e2⟩:=k5 j hj
     refine⟨u,u1, ?_⟩
     have e3:b'.cs[j]=c':=by
      have:=Jh.1 e1
      exact this.2
     rw[e3]
     exact RV R hh e2 u2,
  fun id id' b b' h1 h2 he=>by
   obtain⟨_,a,k1,k2,_⟩:=hh id b h1
   obtain⟨_,a',k1',k2',_⟩:=hh id' b' h2
   exact R.inj id id' a a' k1 k1' (by rw[←k2,←k2'];exact he),R.tab.mono fun b hb=>⟨.inl hb,rfl⟩⟩
theorem NA(R:ZL w X H)(hh:B0 S H H'){x y:AV}{v:Value}(h:Jci S H x y)(hv:VA w X H x v):VA w (X.iceS S H) H' y v:=by
 cases h with
 |c x y h=>exact .c _ _ (RV R hh h (Uy hv))
 |agg xs ys hl h=>
  cases hv with
  |agg cs vs hsz hc=>
   refine .agg _ _ (by omega) fun j hj=> ?_
   obtain⟨y,h3,h4⟩:=h j (by omega)
   obtain⟨u,h5,h6⟩:=hc j (by omega)
   have:ys[j]=y:=by simpa[Jq hj]using h3
   rw[this]
   exact⟨u,h5,RV R hh h4 h6⟩
 |s x=>exact hv.mono (BI hh)
theorem YK(R:ZL w X H)(hh:B0 S H H'){x y:AV}{v:Value}(h:Jch S H x y)(hv:VA w X H x v):VA w (X.iceS S H) H' y v:=by
 cases h with
 |o x y h=>exact NA R hh h hv
 |tup xs ys hl h=>
  cases hv with
  |tup vs us hus=>
   rw[←hl]
   refine .tup ys us fun j hj=> ?_
   obtain⟨y,h3,h4⟩:=h j (by omega)
   have:ys[j]=y:=by simpa[Jq hj]using h3
   rw[this]
   exact NA R hh h4 (hus j (by omega))
end
theorem Jn.iceS{P:Program}{f:FuncId}{args:List AV}{H:Jm}{Q Q':KV}(h:Jn P f args H Q')(hq:∀v H',Q' v H'→∃S H'' v',B0 S H' H''∧Jch S H' v v'∧Q v' H''):Jn P f args H Q:=
 fun w X vs hH hvs=>(h w X vs hH hvs).mono fun _ w' ⟨v,u,X',H',h1,h2,h3,h4,h5⟩=>by
  obtain⟨S,H'',v',k1,k2,k3⟩:=hq v H' h5
  exact⟨v',u,X'.iceS S H',H'',h1,YK h3 k1 k2 h2,Nz h3 k1,h4.trans (BI k1),k3⟩
theorem QH.ice{P:Program}{c:Code}{s:List AV}{H H':Jm}{Q:Exit→St→Prop}(S:Nat→Bool)(hh:B0 S H H')(h:QH P c ⟨s,H'⟩ Q):QH P c ⟨s,H⟩ Q:=by
 intro w X a R
 have R':XC w (X.iceS S H) a ⟨s,H'⟩:=by
  refine⟨R.defs,R.size,fun i hi=> ?_,Nz R.heap hh⟩
  obtain⟨u,h1,h2⟩:=R.slot i hi
  exact⟨u,h1,YK R.heap hh (.o _ _ (.s _)) h2⟩
 exact wp_mono (h w _ a R') fun e a' w' ⟨X',st',h1,h2,h3⟩=>⟨X',st',h1,(BI hh).trans h2,h3⟩
theorem Jbi{P:Program}{ops:Array Oper}{s:List AV}{H H':Jm}{K:KS}(S:Nat→Bool)(hh:B0 S H H')(h:KJ P ops s H' K):KJ P ops s H K:=
 JfR h.1 fun _=>QH.ice S hh (F7 (Q:=nrm K) h)
theorem JgQ{S:Nat→Bool}{H H':Jm}(h:∀(id:Nat) (b:Zv),H'[id]? =some (some b)→S id=false∧H[id]? =some (some b)):B0 S H H':=fun id b hb=>
 ⟨(h id b hb).1,b,(h id b hb).2,rfl,rfl,rfl,fun j hj=>⟨b.cs[j],by rw[Jq hj], .inl rfl⟩⟩
def Z8(n:Nat):Nat→Bool:=fun i=>decide (n≤i)
theorem Xf(H:Jm)(n:Nat):B0 (Z8 n) H (H.take n):=JgQ fun id b hb=>by
 rw[List.getElem?_take]at hb
 split at hb
 · rename_i h
   exact⟨by simp only[Z8,decide_eq_false_iff_not];omega,hb⟩
 · cases hb
theorem KB{S:Nat→Bool}{H:Jm}{c:CV}{y:FV}(h:frzS S H 6 c=some y):FF S H c (.f y):= .inr ⟨y,h,rfl⟩
theorem KA{S:Nat→Bool}{H:Jm}{c:CV}:FF S H c c:= .inl rfl
theorem Jbb{S:Nat→Bool}{H:Jm}{a b c a' b' c':CV}(h1:FF S H a a')(h2:FF S H b b')(h3:FF S H c c'):Jci S H (.agg [a,b,c]) (.agg [a',b',c']):=
 .agg _ _ rfl fun j hj=>by
  match j,hj with
  |0,_=>exact⟨_,rfl,h1⟩
  |1,_=>exact⟨_,rfl,h2⟩
  |2,_=>exact⟨_,rfl,h3⟩
theorem Ji4{S:Nat→Bool}{H:Jm}{a b a' b':AV}(h1:Jci S H a a')(h2:Jci S H b b'):Jch S H (.tup [a,b]) (.tup [a',b']):=
 .tup _ _ rfl fun j hj=>by
  match j,hj with
  |0,_=>exact⟨_,rfl,h1⟩
  |1,_=>exact⟨_,rfl,h2⟩
def Fz(S:Nat→Bool)(H:Jm)(n:Nat)(c:CV)(x:FV):Prop:=∀H':Jm,(∀i,S i=true→i<H.length→H'[i]? =H[i]?)→∀m,n≤m→frzS S H' m c=some x
theorem Fz.frz{S:Nat→Bool}{H:Jm}{n:Nat}{c:CV}{x:FV}(h:Fz S H n c x){m:Nat}(hm:n≤m):frzS S H m c=some x:=h H (fun _ _ _=>rfl) m hm
theorem Fz.f{S:Nat→Bool}{H:Jm}{x:FV}(n:Nat):Fz S H n (.f x) (Fh x):=fun H' _ m _=>by cases m<;>rfl
theorem Fz.emp{S:Nat→Bool}{H:Jm}(n:Nat):Fz S H n .emp (.sl 0 []):=fun H' _ m _=>by cases m<;>rfl
theorem Fz.mono{S:Nat→Bool}{H H1:Jm}{n:Nat}{c:CV}{x:FV}(h:Fz S H n c x)(hs:∀i,S i=true→i<H.length→H1[i]? =H[i]?)(hl:H.length≤H1.length):Fz S H1 n c x:=
 fun H' k m hm=>h H' (fun i hi hil=>(k i hi (Nat.lt_of_lt_of_le hil hl)).trans (hs i hi hil)) m hm
theorem Fz.own{S:Nat→Bool}{H:Jm}{n:Nat}{id g k:Nat}{b:Zv}{xs:List FV}{lim:Option Nat}(hS:S id=true)(hl:look H id g=some b)(hlen:xs.length=k*b.sz)(hle:k*b.sz≤b.cs.length)
 (hc:∀j (h:j<xs.length),∃c,b.cs[j]? =some c∧Fz S H n c xs[j]):Fz S H (n+1) (.own id g 0 k lim) (.sl k xs):=fun H' hh m hm=>by
 obtain⟨m,rfl⟩:∃m',m=m'+1:=⟨m -1,by omega⟩
 have hlt:id<H.length:=(Jh.1 (JG hl).1).1
 have hl':look H' id g=some b:=by unfold look at*;rw[hh id hS hlt];exact hl
 simp only[frzS,hS,if_true,hl',JR]
 have:∀(cs:List CV) (ys:List FV),cs.length=ys.length→(∀j (h:j<ys.length),∃c,cs[j]? =some c∧frzS S H' m c=some ys[j])→cs.mapM (frzS S H' m)=some ys:=by
  intro cs
  induction cs with
  |nil=>intro ys h _;have:ys=[]:=List.eq_nil_of_length_eq_zero h.symm;subst this;rfl
  |cons c cs ih=>
   intro ys h hall
   cases ys with
   |nil=>simp at h
   |cons y ys=>
    obtain⟨c0,h0,h1⟩:=hall 0 (by simp)
    have:c=c0:=by simpa using h0
    subst this
    rw[J4,h1,ih ys (by simpa using h) fun j hj=>by
     obtain⟨c',q1,q2⟩:=hall (j+1) (by simpa using hj)
     exact⟨c',by simpa using q1,by simpa using q2⟩]
    rfl
 rw[this _ xs (by rw[JP];omega) fun j hj=> ?_]
 · rfl
 · obtain⟨c,h1,h2⟩:=hc j hj
   exact⟨c,by rw[J1 (by omega)];exact h1,h2 H' hh m (by omega)⟩
def Jbe:Nat→Code→Code
 |n+1, .seq x y=> .seq x (Jbe n y)
 |_,_=> .skip
def JaK:Nat→Code→Code
 |n+1, .seq _ y=>JaK n y
 |_,c=>c
theorem NE(c:Code):Jbe 0 c= .skip:=by cases c<;>rfl
theorem JgS(n:Nat)(x y:Code):Jbe (n+1) (.seq x y)= .seq x (Jbe n y):=rfl
theorem GK(c:Code):JaK 0 c=c:=by cases c<;>rfl
theorem Jga(n:Nat)(x y:Code):JaK (n+1) (.seq x y)=JaK n y:=rfl
def JiG(R:KS)(K:KT):KT:=fun e s H=>match e with
 | .normal=>R s H
 |e=>K e s H
theorem Jdd(R:KS)(K:KT)(s:List AV)(H:Jm):JiG R K .normal s H=R s H:=propext Iff.rfl
theorem JiF(R:KS)(K:KT)(s:List AV)(H:Jm):JiG R K .ret s H=K .ret s H:=propext Iff.rfl
theorem JgF(R:KS)(K:KT)(i:Nat)(s:List AV)(H:Jm):JiG R K (.exit i) s H=K (.exit i) s H:=propext Iff.rfl
theorem QH.split{P:Program}{R:KS}{K:KT}:∀(n:Nat) (c:Code) (s:List AV) (H:Jm),cw P (Jbe n c) s H (JiG R K)→(∀s H,R s H→QH P (JaK n c) ⟨s,H⟩ (stK K))→QH P c ⟨s,H⟩ (stK K)
 |0,c,s,H,h,k=>by
  rw[NE]at h
  rw[←GK c]
  exact k s H h
 |n+1,c,s,H,h,k=>by
  cases c with
  |seq x y=>
   refine QH.seq ((Ua x s H _ h).mono fun e st hq=> ?_)
   cases e with
   |normal=>exact QH.split n y st.s st.h hq k
   |_=>exact hq
  |_=>exact k s H h
theorem QH.cutN{P:Program}{c:Code}{s:List AV}{H:Jm}{K:KT}(n:Nat){α:Type}(ok:α→Prop)(M:α→List Sl)(G:α→Jm)(h:cw P (Jbe n c) s H (JiG (fun s' H'=>∃a,ok a∧FD s' (ZK (M a) s)∧J0 H' (G a)) K))
 (k:∀a,ok a→QH P (JaK n c) ⟨ZK (M a) s,G a⟩ (stK K)):QH P c ⟨s,H⟩ (stK K):=
 QH.split n c s H h fun s' H' ⟨a,ha,hs,hh⟩=>QH.weaken (st':=⟨ZK (M a) s,G a⟩) hs.sle hh (k a ha)
theorem Jn.ofR{P:Program}{f:FuncId}{fn:Func}{c:Code}{args:List AV}{H:Jm}{Q:KV}(hf:P.funcs[f]? =some fn)(hb:fn.body=some c){n:Nat}(hn:fn.ntmps=n){rs:List ResultVar}(hr:fn.results.toList=rs)
 (h:QH P c ⟨args++Jd (n -args.length) .void,H⟩ (stK (F8 P rs Q))):Jn P f args H Q:=by
 subst hn hr
 exact Jn.of_body hf hb (h.mono fun e st ⟨h1,v,h2,H',h3,h4⟩=>⟨h1,v,H',h2,h3,h4⟩)
attribute [go_sem] NE JgS GK Jga Jdd JiF JgF
theorem JZ.clear{P:Program}{o:Oper}{st:St}{K:AV→Jm→Prop}{t e:TypeId}{ti ei:TI}{x:Operand}{id g off n:Nat}{lim:Option Nat}{b:Zv}
 (ho:o.op= .call ⟨.builtin .clear,#[x],#[t]⟩) (ht:JV P t=some ti) (hk:ti.k= .slice e) (he:JV P e=some ei) (hz:ei.zero.length=ei.size)
 (hs:QY st.s x= .c (.own id g off n lim)) (hl:look st.h id g=some b) (hbs:b.sz=ei.size) (hn0:0<n) (hfit:off+n*ei.size≤b.cs.length)
 (hK:K (.tup []) (st.h.set id (some ⟨b.g,b.sz,Qk b.cs off (QX (n*ei.size) ei.zero)⟩))):JZ P o st K:=by
 intro w X a R next Q hn
 obtain⟨inf,d,z',i1,i2,i3,i4,i5,i6,i7⟩:=Qi ht
 rw[i5]at hk;cases Zu hk
 obtain⟨z,hz1,hz2,hz3⟩:=Wj he
 have hsv:=J7 R x
 rw[hs]at hsv
 obtain⟨hgt,_,hall⟩:=Uy hsv
 obtain⟨c1,a0,cap,hse,c2,c3,c4,c5⟩:=hall b hl
 have ha0:=c3 (by omega)
 subst ha0
 have hz0:n*ei.size≠0→ei.zero.length≠0:=fun h=>by rw[hz];intro h0;rw[h0]at h;exact h (Nat.mul_zero _)
 obtain⟨q1,q2⟩:=Yx (w:=w) (X:=X) (H:=st.h) hz2 (hz3 w X st.h) (n*ei.size) hz0
 have hone:∀y∈z.cells.toList,y.oneCell'=true:=fun y hy=>by
  obtain⟨j,hj,rfl⟩:=List.mem_iff_getElem.1 hy
  obtain⟨u,h1,h2⟩:=hz3 w X st.h j (by rw[←hz2];simpa using hj)
  have:z.cells.toList[j]=u:=by
   have:=Array.getElem?_eq_some_iff.1 h1
   simpa using this.2
  rw[this]
  exact h2.one
 have hvs:(Builtin.zeroCells z.cells n).toList=((Array.range (n*ei.size)).map (z.cells[· %z.cells.size]!)).toList:=by
  unfold Builtin.zeroCells
  rw[show n*z.cells.size=n*ei.size by rw[hz2,hz]]
 have hlen:((Array.range (n*ei.size)).map (z.cells[· %z.cells.size]!)).toList.length=(QX (n*ei.size) ei.zero).length:=by simpa using q1
 have hzl:(QX (n*ei.size) ei.zero).length=n*ei.size:=by simp[QX]
 obtain⟨w',h4,h5,h6⟩:=Fd R.heap hl (o:=off) (cs:=QX (n*ei.size) ei.zero) (vs:=((Array.range (n*ei.size)).map (z.cells[· %z.cells.size]!)).toList) hlen (by omega)
  (fun j hj=>by obtain⟨u,u1,u2⟩:=q2 j hj;exact⟨u,by rw[Array.getElem?_toList];exact u1,u2⟩) (fun y hy=>by
    obtain⟨j,hj,rfl⟩:=List.mem_iff_getElem.1 hy
    have hj':j<(QX (n*ei.size) ei.zero).length:=by rw[←hlen];exact hj
    obtain⟨u,u1,u2⟩:=q2 j hj'
    have:((Array.range (n*ei.size)).map (z.cells[· %z.cells.size]!)).toList[j]=u:=by
     have:=Array.getElem?_eq_some_iff.1 u1
     simpa using this.2
    rw[this]
    exact u2.one)
 have hrun:(execOp a.eval o).run P w= .ok (.value (.tuple #[])) w':=by
  have hm:∀k:Nat,n=k+1→(Builtin.clear_ #[t] o.type #[.slice (some ⟨X.mu g,off,none⟩) n cap]).run P w= .ok (.tuple #[]) w':=fun k hk=>by
   subst hk
   have h4':=h4 P
   simp only[Array.toList_map,Array.toList_range]at h4'
   simp[Builtin.clear_,run_underlying i2,hz1,hvs,h4']
  simp only[execOp,ho,resolve,Sem.run_bind,Sem.run_pure,Result.andThen_ok,invoke,builtin,List.map_toArray,Qr,ZV,hse]
  rw[hm (n -1) (by omega)]
  rfl
 have hv:VA w' X (st.h.set id (some ⟨b.g,b.sz,Qk b.cs off (QX (n*ei.size) ei.zero)⟩)) (.tup []) (.tuple #[]):= .tup [] (fun _=>undef) fun j hj=>absurd hj (Nat.not_lt_zero _)
 exact Z7 hrun (hn _ _ _ _ _ hv h5 h6 hK)
end Go.Lg

namespace Go.Lg
open Go.Proofs
def Zm(H:Jm)(id g:Nat)(B:Int):Prop:=∃(sz:Nat) (b:List Int) (p:Int),look H id g=some ⟨g,sz,[.f (.sl b.length (fl (eI .u8) b)), .f (.int .i64 p)]⟩∧b.length≤2000∧(∀x∈b,0≤x∧x≤255)∧0≤p∧p≤B
theorem Zm.mono{H:Jm}{id g:Nat}{B B':Int}(h:Zm H id g B)(hb:B≤B'):Zm H id g B':=by
 obtain⟨sz,b,p,h1,h2,h3,h4,h5⟩:=h
 exact⟨sz,b,p,h1,h2,h3,h4,by omega⟩
theorem Zm.same{H H':Jm}{id g:Nat}{B:Int}(h:Zm H id g B)(hs:H'[id]? =H[id]?):Zm H' id g B:=by
 obtain⟨sz,b,p,h1,h2⟩:=h
 exact⟨sz,b,p,by unfold look at*;rw[hs];exact h1,h2⟩
theorem Zm.lt{H:Jm}{id g:Nat}{B:Int}(h:Zm H id g B):id<H.length:=by
 obtain⟨sz,b,p,h1,_⟩:=h
 exact(Jh.1 (JG h1).1).1
theorem Jj6{a b:Int}(ha:0≤a∧a<2^62)(hb:0≤b∧b<2^62):0≤Uq .xor .i64 a b∧Uq .xor .i64 a b<2^62:=by
 obtain⟨x,rfl⟩:∃x:Nat,a=x:=⟨a.toNat,by omega⟩
 obtain⟨y,rfl⟩:∃y:Nat,b=y:=⟨b.toNat,by omega⟩
 have hx:x<2^62:=by omega
 have hy:y<2^62:=by omega
 have hz:x^^^y<2^62:=Nat.xor_lt_two_pow hx hy
 have e:(BitVec.ofInt 64 (x:Int)^^^BitVec.ofInt 64 (y:Int)).toNat=x^^^y:=by
  simp only[BitVec.toNat_xor,BitVec.ofInt_natCast,BitVec.toNat_ofNat]
  rw[Nat.mod_eq_of_lt (by omega),Nat.mod_eq_of_lt (by omega)]
 have e2:Uq .xor .i64 (x:Int) (y:Int)=((x^^^y:Nat):Int):=by
  unfold Uq
  show IntKind.wrap .i64 ((BitVec.ofInt 64 (x:Int)^^^BitVec.ofInt 64 (y:Int)).toNat:Int)=_
  rw[e]
  exact Ku (by omega)
 rw[e2]
 omega
theorem JM{H:Jm}{id g sz:Nat}{cs:List CV}(h:id<H.length):look (H.set id (some ⟨g,sz,cs⟩)) id g=some ⟨g,sz,cs⟩:=J8 (b:=⟨g,sz,cs⟩) (by rw[JX h])
theorem R7{a b:Int}(h:0≤a):a.tdiv b=a/b:=Int.tdiv_eq_ediv_of_nonneg h
theorem VW{a b:Int}(h:0≤a):a.tmod b=a%b:=Int.tmod_eq_emod_of_nonneg h
theorem Vn{H:Jm}{id g off:Nat}{b:Zv}(h:look H id g=some b):XY H (.c (.ptr id g off))=some (.c (.ptr id g off)):=by simp[XY,h]
def Jlu(H:Jm)(id g:Nat)(B n:Int):KV:=fun v H'=>(∃y,v=int y∧0≤y∧(1≤n→y<n))∧Zm H' id g (B+1)∧Vi H H' [id]
theorem QR(H:Jm)(id g:Nat)(B n:Int)(hr:Zm H id g B)(hB:B≤2^40):Jn Tryz.prog 68 [.c (.ptr id g 0),int n] H (Jlu H id g B n):=by
 have hlt:=hr.lt
 obtain⟨sz,b,p,hl,hb1,hb2,hp0,hp1⟩:=hr
 have hs:∀x,look (H.set id (some ⟨g,sz,x⟩)) id g=some ⟨g,sz,x⟩:=fun x=>JM hlt
 have fin:∀y,0≤y→(1≤n→y<n)→Uz (H.set id (some ⟨g,sz,[.f (.sl b.length (fl (eI .u8) b)), .f (.int .i64 (p+1))]⟩)) (Jlu H id g B n) (int y):=fun y h0 h1=>
  ⟨_,J0.refl _,⟨y,rfl,h0,h1⟩,⟨sz,b,p+1,hs _,hb1,hb2,by omega,by omega⟩,Vi.set _ _ _⟩
 have nl:XY H (.c (.ptr id g 0))=some (.c (.ptr id g 0)):=Vn hl
 have ns:∀x,XY (H.set id (some ⟨g,sz,x⟩)) (.c (.ptr id g 0))=some (.c (.ptr id g 0)):=fun x=>Vn (hs x)
 refine Jn.cw (c:=_) Tryz.func68 rfl (n:=99) Tryz.ntmps68 (rs:=[.tmp 4]) rfl ?_
 simp only[Je,Jf,zA,zS,Jd,Jb,Jc]
 simp(maxSteps:=999999)(disch:=omega)only[go_sem,zA,zM,zS,zE,zL,hl,hs,nl,ns]
 ((with_reducible first|refine JJ ?_ ?_|refine JF ?_ ?_|refine JU ?_ ?_|refine Jw ?_ ?_|refine JH ?_ ?_|refine JI ?_ ?_|refine JD ?_ ?_|refine JE ?_ ?_|refine JS ?_ ?_|refine JT ?_ ?_|refine Jy ?_ ?_|refine Jz ?_ ?_)<;>intro h1<;>simp(maxSteps:=999999)(disch:=omega)only[go_sem,zA,zM,zS,zE,zL,h1])
 · exact fin 0 (by omega) (by omega)
 simp(maxSteps:=999999)(disch:=omega)only[go_sem,zA,zM,zS,zE,zL,hl,hs,nl,ns]
 ((first|(with_reducible first|refine Jl ?_ ?_|refine Jj ?_ ?_|refine Jp ?_ ?_)|refine Jr ?_ ?_)<;>intro h2)
 · simp(maxSteps:=999999)(disch:=omega)only[go_sem,zA,zM,zS,zE,zL]
   have:b.length=0:=by omega
   exact fin 0 (by omega) (by omega)
 have hbl:0<b.length:=by omega
 simp(maxSteps:=999999)(disch:=omega)only[go_sem,zA,zM,zS,zE,zL,hl,hs,nl,ns]
 obtain⟨i,hi⟩:∃i:Nat,p+1 -1=i:=⟨p.toNat,by omega⟩
 rw[hi]
 have hbm:∀k:Nat,k<b.length→0≤JA b k∧JA b k≤255:=fun k hk=>hb2 _ (by rw[Qt (by omega)];exact List.getElem_mem _)
 ((first|(with_reducible first|refine Jl ?_ ?_|refine Jj ?_ ?_|refine Jp ?_ ?_)|refine Jr ?_ ?_)<;>intro h3)
 · have hil:i<b.length:=by omega
   have hx:=hbm i hil
   simp(maxSteps:=999999)(disch:=omega)only[go_sem,zA,zM,zS,zE,zL,hl,hs,nl,ns]
   rw[VW hx.1]
   exact fin _ (Int.emod_nonneg _ (by omega)) (fun h=>Int.emod_lt_of_pos _ (by omega))
 simp(maxSteps:=999999)(disch:=omega)only[go_sem,zA,zM,zS,zE,zL]
 have hi40:(i:Int)≤2^40:=by omega
 have hbz:(0:Int)<(b.length:Int):=by omega
 obtain⟨j1,e1⟩:∃j:Nat,((i:Int)).tmod (b.length:Int)=j:=⟨(((i:Int)).tmod (b.length:Int)).toNat,by rw[VW (by omega)];have:=Int.emod_nonneg (i:Int) (show(b.length:Int)≠0 by omega);omega⟩
 obtain⟨j2,e2⟩:∃j:Nat,((i:Int)*7+3).tmod (b.length:Int)=j:=⟨(((i:Int)*7+3).tmod (b.length:Int)).toNat,by rw[VW (by omega)];have:=Int.emod_nonneg ((i:Int)*7+3) (show(b.length:Int)≠0 by omega);omega⟩
 obtain⟨q,e3⟩:∃j:Nat,((i:Int)).tdiv (b.length:Int)=j:=⟨(((i:Int)).tdiv (b.length:Int)).toNat,by rw[R7 (by omega)];have:=Int.ediv_nonneg (show(0:Int)≤i by omega) (show(0:Int)≤b.length by omega);omega⟩
 have l1:j1<b.length:=by rw[VW (by omega)]at e1;have:=Int.emod_lt_of_pos (i:Int) hbz;omega
 have l2:j2<b.length:=by rw[VW (by omega)]at e2;have:=Int.emod_lt_of_pos ((i:Int)*7+3) hbz;omega
 have l3:(q:Int)≤i:=by rw[R7 (by omega)]at e3;have:=Int.ediv_le_self (b.length:Int) (show(0:Int)≤i by omega);omega
 have m1:=hbm j1 l1
 have m2:=hbm j2 l2
 refine Zj Zd (by kernel_rfl) ?_
 simp(maxSteps:=999999)(disch:=omega)only[go_sem,zA,zM,zS,zE,zL,hl,hs,nl,ns,e1,e2,e3]
 generalize hX:JA b ↑j1*131+JA b ↑j2*1117+↑i*29+↑q*53=X
 have hX0:0≤X∧X<2^60:=by omega
 have hd:X.tdiv 64=X/64:=R7 hX0.1
 rw[hd,Ku (n:=X/64) (by omega)]
 have hx:=Jj6 (a:=X) (b:=X/64) (by omega) (by omega)
 rw[VW hx.1]
 exact fin _ (Int.emod_nonneg _ (by omega)) (fun h=>Int.emod_lt_of_pos _ (by omega))
theorem Jds(H:Jm)(n:Nat):J0 H (H.take n):=fun id b h=>by
 rw[List.getElem?_take]at h
 split at h
 · exact h
 · cases h
theorem Jdz{H H1 H2 X:Jm}{T:List Nat}(f1:Vi H H1 T)(f2:Vi (H1++X) H2 T):Vi H (H2.take H.length) T:=by
 have hl:H2.length=H1.length+X.length:=by rw[f2.1,Jk]
 refine⟨by rw[JP,hl,f1.1];omega,fun i hi=> ?_⟩
 by_cases h:i<H.length
 · rw[J1 h,f2.2 i hi,Ja (by rw[f1.1];exact h),f1.2 i hi]
 · rw[List.getElem?_take_eq_none (by omega),Jx (by omega)]
theorem Zm.take{H:Jm}{id g n:Nat}{B:Int}(h:Zm H id g B)(hn:id<n):Zm (H.take n) id g B:=h.same (by rw[J1 hn])
theorem Zm.app{H X:Jm}{id g:Nat}{B:Int}(h:Zm H id g B):Zm (H++X) id g B:=h.same (by rw[Ja h.lt])
theorem Vi.last{H H2:Jm}{id sz gb:Nat}{cs:List CV}(f:Vi (H++[some ⟨gb,sz,cs⟩]) H2 [id])(hid:id<H.length):Lg.look H2 H.length gb=some ⟨gb,sz,cs⟩:=by
 rw[f.look (by simp;omega)];exact JC
theorem K4(H:Jm)(id g:Nat)(B n:Int)(hr:Zm H id g B)(hB:B≤2^40)(hn:n≤1000):Jn Tryz.prog 70 [.c (.ptr id g 0),int n] H (fun v H'=>(∃b:Bool,v=bool b∧(n≤0→b=false))∧Zm H' id g (B+1)∧Vi H H' [id]):=by
 refine Jn.cw (c:=_) Tryz.func70 rfl (n:=15) Tryz.ntmps70 (rs:=[.tmp 4]) rfl ?_
 simp only[Je,Jf,zA,zS,Jd,Jb,Jc]
 simp(maxSteps:=999999)(disch:=omega)only[go_sem,zA,zM,zS,zE,zL]
 ((with_reducible first|refine JJ ?_ ?_|refine JF ?_ ?_|refine JU ?_ ?_|refine Jw ?_ ?_|refine JH ?_ ?_|refine JI ?_ ?_|refine JD ?_ ?_|refine JE ?_ ?_|refine JS ?_ ?_|refine JT ?_ ?_|refine Jy ?_ ?_|refine Jz ?_ ?_)<;>intro h1<;>simp(maxSteps:=999999)(disch:=omega)only[go_sem,zA,zM,zS,zE,zL,h1])
 · refine JZ.run (QR H id g B n hr hB) (⟨_,Tryz.func68,rfl,rfl⟩:Ji Tryz.prog 68) rfl rfl ?_
   rintro _ H1 ⟨⟨y,rfl,y0,y1⟩,r1,f1⟩
   simp(maxSteps:=999999)(disch:=omega)only[go_sem,zA,zM,zS,zE,zL]
   exact⟨_,J0.refl _,⟨_,rfl,fun h=>by omega⟩,r1,f1⟩
 · exact⟨_,J0.refl _,⟨_,rfl,fun h=>rfl⟩,hr.mono (by omega),Vi.refl _ _⟩
theorem Jdp(H:Jm)(id g:Nat)(B n:Int)(hr:Zm H id g B)(hB:B≤2^39)(hn:n≤1000):Jn Tryz.prog 115 [.c (.ptr id g 0),int n] H (fun v H'=>(∃y,v=int y∧-1≤y∧y≤5∧(n≤0→2≤y∧y≤4))∧Zm H' id g (B+2)∧Vi H H' [id]):=by
 refine Jn.cw (c:=_) Tryz.func115 rfl (n:=18) Tryz.ntmps115 (rs:=[.tmp 4]) rfl ?_
 simp only[Je,Jf,zA,zS,Jd,Jb,Jc]
 simp(maxSteps:=999999)(disch:=omega)only[go_sem,zA,zM,zS,zE,zL]
 refine JZ.run (K4 H id g B n hr (by omega) hn) (⟨_,Tryz.func70,rfl,rfl⟩:Ji Tryz.prog 70) rfl rfl ?_
 rintro _ H1 ⟨⟨b,rfl,hb⟩,r1,f1⟩
 simp(maxSteps:=999999)(disch:=omega)only[go_sem,zA,zM,zS,zE,zL]
 have hlt:id<H1.length:=r1.lt
 have hlt':id<H.length:=hr.lt
 ((first|(with_reducible first|refine Jl ?_ ?_|refine Jj ?_ ?_|refine Jp ?_ ?_)|refine Jr ?_ ?_)<;>intro h)
 · simp(maxSteps:=999999)(disch:=omega)only[go_sem,zA,zM,zS,zE,zL]
   intro gb
   refine JZ.run (QR _ id g (B+1) 3 r1.app (by omega)) (⟨_,Tryz.func68,rfl,rfl⟩:Ji Tryz.prog 68) rfl rfl ?_
   rintro _ H2 ⟨⟨y,rfl,y0,y1⟩,r2,f2⟩
   have hb2:=f2.last hlt
   have y1:=y1 (by omega)
   have hn0:¬n≤0:=fun h0=>by rw[hb h0]at h;cases h
   obtain rfl|rfl|rfl:y=0∨y=1∨y=2:=by omega
   all_goals
    simp(maxSteps:=999999)(disch:=omega)only[go_sem,zA,zM,zS,zE,zL,hb2,Int.reduceToNat]
    exact⟨_,Jds _ _,⟨_,rfl,by omega,by omega,by omega⟩,(r2.take hlt').mono (by omega),Jdz f1 f2⟩
 · simp(maxSteps:=999999)(disch:=omega)only[go_sem,zA,zM,zS,zE,zL]
   intro gb
   refine JZ.run (QR _ id g (B+1) 5 r1.app (by omega)) (⟨_,Tryz.func68,rfl,rfl⟩:Ji Tryz.prog 68) rfl rfl ?_
   rintro _ H2 ⟨⟨y,rfl,y0,y1⟩,r2,f2⟩
   have hb2:=f2.last hlt
   have y1:=y1 (by omega)
   obtain rfl|rfl|rfl|rfl|rfl:y=0∨y=1∨y=2∨y=3∨y=4:=by omega
   all_goals
    simp(maxSteps:=999999)(disch:=omega)only[go_sem,zA,zM,zS,zE,zL,hb2,Int.reduceToNat]
    exact⟨_,Jds _ _,⟨_,rfl,by omega,by omega,by omega⟩,(r2.take hlt').mono (by omega),Jdz f1 f2⟩
theorem F0(b:List Int)(hb:∀x∈b,0≤x∧x≤255)(hl:b.length≤2^40):Jn Tryz.prog 36 [Bl (eI .u8) b] [] (fun v H'=>∃g,v= .c (.ptr 0 g 0)∧Zm H' 0 g 0∧H'.length=1):=by
 refine Jn.cw (c:=_) Tryz.func36 rfl (n:=11) Tryz.ntmps36 (rs:=[.tmp 2]) rfl ?_
 simp only[Je,Jf,zA,zS,Jd,Jb,Jc]
 simp(maxSteps:=999999)(disch:=omega)only[go_sem,zA,zM,zS,zE,zL]
 ((first|(with_reducible first|refine Jl ?_ ?_|refine Jj ?_ ?_|refine Jp ?_ ?_)|refine Jr ?_ ?_)<;>intro h)
 · simp(maxSteps:=999999)(disch:=omega)only[go_sem,zA,zM,zS,zE,zL]
   intro g
   refine⟨_,J0.refl _,g,rfl,⟨1,sub b 0 2000,0,by rw[US], ?_, ?_,by omega,by omega⟩,rfl⟩
   · simp[sub];omega
   · intro x hx
     exact hb x (List.mem_of_mem_drop (List.mem_of_mem_take hx))
 · simp(maxSteps:=999999)(disch:=omega)only[go_sem,zA,zM,zS,zE,zL]
   intro g
   exact⟨_,J0.refl _,g,rfl,⟨1,b,0,by rw[US],by omega,hb,by omega,by omega⟩,rfl⟩
end Go.Lg

namespace Go.Lg
open Go.Proofs
def Zo(n line:Nat):List Int:=(List.range n).map fun k=>if line<n then((line*n+k:Nat):Int)else((k*n+line -n:Nat):Int)
def Vp(xs:List Int):List Int→Nat→Bool
 |[],_=>false
 |c::cs,seen=>if 0<JA xs c&&seen.testBit (JA xs c).toNat then true else Vp xs cs (seen|||2^(JA xs c).toNat)
def UL(xs:List Int)(n:Nat):Bool:=(List.range (2*n)).any fun line=>Vp xs (Zo n line) 0
def Wh(n:Nat)(f:List Int→Nat→List Int×Nat)(xs:List Int)(i:Nat):List Nat→Nat→List Int×Nat
 |[],l=>([],l)
 |v::vs,l=>if UL (xs.set i v) n=true then Wh n f xs i vs l else if(f (xs.set i v) l).1≠[]then f (xs.set i v) l else Wh n f xs i vs (f (xs.set i v) l).2
def VL(n:Nat):Nat→List Int→Nat→List Int×Nat
 |0,xs,l=>if l=0 then(xs,0)else([],l -1)
 |m+1,xs,l=>Wh n (VL n m) xs (xs.length -(m+1)) ((List.range n).map (· +1)) l
def JdN(n:Nat)(f:List Int→Nat)(xs:List Int)(i:Nat):List Nat→Nat
 |[]=>0
 |v::vs=>(if UL (xs.set i v) n=true then 0 else f (xs.set i v))+JdN n f xs i vs
def JeR(n:Nat):Nat→List Int→Nat
 |0,_=>1
 |m+1,xs=>JdN n (JeR n m) xs (xs.length -(m+1)) ((List.range n).map (· +1))
def JjY(xs:List Int)(c l:Nat)(r:List Int×Nat):Prop:=(l<c→r.1.length=xs.length∧r.1≠[])∧(c≤l→r=([],l -c))
theorem FI(n:Nat)(f:List Int→Nat→List Int×Nat)(g:List Int→Nat)(xs:List Int)(i:Nat)(h:∀ys l,ys.length=xs.length→JjY ys (g ys) l (f ys l)):∀(vs:List Nat) (l:Nat),JjY xs (JdN n g xs i vs) l (Wh n f xs i vs l)
 |[],l=>⟨fun h=>by simp[JdN]at h,fun h=>by simp[Wh,JdN]⟩
 |v::vs,l=>by
  have ih:=fun l=>FI n f g xs i h vs l
  have hl:(xs.set i (v:Int)).length=xs.length:=by simp
  obtain⟨h1,h2⟩:=h (xs.set i v) l hl
  unfold Wh JdN
  by_cases hc:UL (xs.set i v) n=true
  · simp only[if_pos hc,Nat.zero_add];exact ih l
  · simp only[if_neg hc]
    by_cases hlt:l<g (xs.set i v)
    · obtain⟨k1,k2⟩:=h1 hlt
      rw[if_pos k2]
      exact⟨fun _=>⟨by rw[k1,hl],k2⟩,fun hle=>by omega⟩
    · have e:=h2 (by omega)
      rw[e]
      simp only[ne_eq,not_true_eq_false,if_false]
      obtain⟨q1,q2⟩:=ih (l -g (xs.set i v))
      refine⟨fun h=>q1 (by omega),fun h=> ?_⟩
      rw[q2 (by omega)]
      congr 1
      omega
theorem GP(n:Nat):∀(m:Nat) (xs:List Int) (l:Nat),xs≠[]→JjY xs (JeR n m xs) l (VL n m xs l)
 |0,xs,l,hx=>by
  unfold VL JeR
  refine⟨fun h=> ?_,fun h=> ?_⟩
  · rw[if_pos (by omega)];exact⟨rfl,hx⟩
  · rw[if_neg (by omega)]
 |m+1,xs,l,hx=>by
  unfold VL JeR
  refine FI n _ _ xs _ (fun ys l hl=>GP n m ys l fun h0=>hx ?_) _ l
  rw[h0]at hl
  exact List.eq_nil_of_length_eq_zero hl.symm
theorem Za(l:List Int)(i:Nat)(v:Int)(k:Nat)(h:i<l.length):JA (l.set i v) (k:Int)=if k=i then v else JA l k:=by
 rw[Bt _ _ _ _ h (by omega)]
 by_cases hk:k=i
 · rw[if_pos (by omega),if_pos hk]
 · rw[if_neg (by omega),if_neg hk]
theorem W1{ys:List Int}(h0:∀c:Int,0≤JA ys c):∀(cells:List Int) (seen:Nat),Vp ys cells seen=false↔(∀c∈cells,0<JA ys c→seen.testBit (JA ys c).toNat=false)∧cells.Pairwise (fun c d=>0<JA ys c→JA ys c≠JA ys d)
 |[],seen=>by simp[Vp]
 |c::cs,seen=>by
  have ih:=W1 h0 cs (seen|||2^(JA ys c).toNat)
  have hc:=h0 c
  unfold Vp
  by_cases hs:(decide (0<JA ys c)&&seen.testBit (JA ys c).toNat)=true
  · rw[if_pos hs]
    simp only[Bool.and_eq_true,decide_eq_true_eq]at hs
    refine⟨fun h=>(by cases h),fun h=> ?_⟩
    have:=h.1 c (by simp) hs.1
    rw[hs.2]at this
    cases this
  · rw[if_neg hs,ih]
    simp only[Bool.and_eq_true,decide_eq_true_eq,not_and,Bool.not_eq_true]at hs
    simp only[Nat.testBit_or,Nat.testBit_two_pow,Bool.or_eq_false_iff,decide_eq_false_iff_not,List.pairwise_cons,Qn]
    constructor
    · rintro⟨h1,h2⟩
      refine⟨fun d hd=> ?_,fun d hd hp he=> ?_,h2⟩
      · rcases hd with rfl|hd
        · exact hs
        · exact fun hp=>(h1 d hd hp).1
      · have:=(h1 d hd (by omega)).2
        omega
    · rintro⟨h1,h2,h3⟩
      refine⟨fun d hd hp=>⟨h1 d (.inr hd) hp,fun he=> ?_⟩,h3⟩
      have:=h0 d
      have:=h2 d hd (by omega)
      omega
def NC(ys:List Int)(n:Nat):Prop:=∀p q:Nat,p<q→q<n*n→(p/n=q/n∨p%n=q%n)→0<JA ys p→JA ys p≠JA ys q
theorem Xn{n:Nat}{f:Nat→Int}{R:Int→Int→Prop}:((List.range n).map f).Pairwise R↔∀a b:Nat,a<b→b<n→R (f a) (f b):=by
 rw[List.pairwise_map,List.pairwise_iff_getElem]
 simp only[List.length_range,List.getElem_range]
 exact⟨fun h a b hab hb=>h a b (by omega) hb hab,fun h a b ha hb hab=>h a b hab hb⟩
theorem Yn{ys:List Int}{n:Nat}(hn:n=2∨n=3∨n=4)(h0:∀c:Int,0≤JA ys c):UL ys n=false↔NC ys n:=by
 unfold UL Zo
 rw[List.any_eq_false]
 simp only[List.mem_range,Bool.not_eq_true]
 constructor
 · intro h p q hpq hq hl hp
   rcases hl with hl|hl
   · have h1:=((W1 h0 _ 0).1 (h (p/n) (by rcases hn with rfl|rfl|rfl<;>omega))).2
     rw[Xn]at h1
     have hr:p/n<n:=by rcases hn with rfl|rfl|rfl<;>omega
     have:=h1 (p%n) (q%n) (by rcases hn with rfl|rfl|rfl<;>omega) (by rcases hn with rfl|rfl|rfl<;>omega)
     rw[if_pos hr,if_pos hr]at this
     have e1:p/n*n+p%n=p:=by rcases hn with rfl|rfl|rfl<;>omega
     have e2:p/n*n+q%n=q:=by rcases hn with rfl|rfl|rfl<;>omega
     rw[e1,e2]at this
     exact this hp
   · have hc:p%n<n:=by rcases hn with rfl|rfl|rfl<;>omega
     have h1:=((W1 h0 _ 0).1 (h (n+p%n) (by omega))).2
     rw[Xn]at h1
     have:=h1 (p/n) (q/n) (by rcases hn with rfl|rfl|rfl<;>omega) (by rcases hn with rfl|rfl|rfl<;>omega)
     rw[if_neg (by omega),if_neg (by omega)]at this
     have e1:p/n*n+(n+p%n) -n=p:=by rcases hn with rfl|rfl|rfl<;>omega
     have e2:q/n*n+(n+p%n) -n=q:=by rcases hn with rfl|rfl|rfl<;>omega
     rw[e1,e2]at this
     exact this hp
 · intro h line hl
   rw[W1 h0]
   refine⟨fun c _ _=>Nat.zero_testBit _, ?_⟩
   rw[Xn]
   intro a b hab hb
   split
   · refine h (line*n+a) (line*n+b) (by omega) ?_ (.inl ?_)
     · rcases hn with rfl|rfl|rfl<;>omega
     · rcases hn with rfl|rfl|rfl<;>omega
   · refine h (a*n+line -n) (b*n+line -n) ?_ ?_ (.inr ?_)
     · rcases hn with rfl|rfl|rfl<;>omega
     · rcases hn with rfl|rfl|rfl<;>omega
     · rcases hn with rfl|rfl|rfl<;>omega
structure OkS(n:Nat)(xs:List Int)(i:Nat):Prop where
 len:xs.length=n*n
 lo:∀k:Nat,k<i→1≤JA xs k∧JA xs k≤n
 hi:∀k:Nat,i≤k→JA xs k=0
 nc:NC xs n
theorem Vb(xs:List Int)(c:Int):JA xs c=JA xs ((c.toNat:Nat):Int):=by unfold JA;rw[Int.toNat_natCast]
theorem OkS.pos{n:Nat}{xs:List Int}{i:Nat}(h:OkS n xs i)(c:Int):0≤JA xs c:=by
 rw[Vb]
 generalize c.toNat=k
 by_cases hk:k<i
 · have:=(h.lo k hk).1;omega
 · rw[h.hi k (by omega)];exact Int.le_refl 0
theorem JeT{n:Nat}(hn:n=2∨n=3∨n=4){xs:List Int}{i v:Nat}(h:OkS n xs i)(hi:i<n*n)(hv:1≤v∧v≤n):
 (UL (xs.set i v) n=false↔∀j:Nat,j<i→(j/n=i/n∨j%n=i%n)→JA xs j≠v)∧(UL (xs.set i v) n=false→OkS n (xs.set i v) (i+1)):=by
 have hset:∀k:Nat,JA (xs.set i (v:Int)) k=if k=i then(v:Int)else JA xs k:=fun k=>Za _ _ _ _ (by rw[h.len];exact hi)
 have h0:∀c:Int,0≤JA (xs.set i (v:Int)) c:=fun c=>by
  rw[Vb,hset]
  split
  · omega
  · exact h.pos _
 have key:UL (xs.set i v) n=false↔∀j:Nat,j<i→(j/n=i/n∨j%n=i%n)→JA xs j≠v:=by
  rw[Yn hn h0]
  constructor
  · intro hc j hj hl
    have:=hc j i hj hi hl
    rw[hset,hset,if_neg (by omega),if_pos rfl]at this
    exact this (by have:=(h.lo j hj).1;omega)
  · intro hc p q hpq hq hl hp
    rw[hset]at hp⊢
    rw[hset]
    by_cases hpi:p=i
    · rw[if_pos hpi,if_neg (by omega),h.hi q (by omega)];omega
    · rw[if_neg hpi]at hp⊢
      by_cases hqi:q=i
      · rw[if_pos hqi]
        subst hqi
        exact hc p hpq hl
      · rw[if_neg hqi]
        exact h.nc p q hpq hq hl hp
 refine⟨key,fun hc=>⟨by simp[h.len],fun k hk=> ?_,fun k hk=> ?_,(Yn hn h0).1 hc⟩⟩
 · rw[hset]
   split
   · omega
   · exact h.lo k (by omega)
 · rw[hset,if_neg (by omega)]
   exact h.hi k (by omega)
def Jd9(f:Nat→Nat):List Nat→Nat
 |[]=>0
 |v::vs=>f v+Jd9 f vs
theorem GM{f g:Nat→Nat}:∀(vs:List Nat),(∀v∈vs,f v=g v)→Jd9 f vs=Jd9 g vs
 |[],_=>rfl
 |v::vs,h=>by simp only[Jd9];rw[h v (by simp),GM vs fun w hw=>h w (by simp[hw])]
theorem JdM(n:Nat)(f:List Int→Nat)(xs:List Int)(i:Nat):∀vs,JdN n f xs i vs=Jd9 (fun v=>if UL (xs.set i v) n=true then 0 else f (xs.set i v)) vs
 |[]=>rfl
 |v::vs=>by simp only[JdN,Jd9];rw[JdM n f xs i vs]
def cF(n:Nat):Nat→Nat→Nat→Nat
 |0,_,_=>1
 |m+1,R,C=>Jd9 (fun v=>if(R.testBit v||C.testBit (8*((n*n -(m+1))%n)+v))=true then 0 else cF n m (if(n*n -(m+1))%n+1=n then 0 else R|||2^v) (C|||2^(8*((n*n -(m+1))%n)+v))) ((List.range n).map (· +1))
structure InvS(n:Nat)(xs:List Int)(i R C:Nat):Prop where
 row:∀v:Nat,1≤v→v≤n→(R.testBit v=true↔∃j:Nat,j<i∧j/n=i/n∧JA xs j=v)
 col:∀c v:Nat,c<n→1≤v→v≤n→(C.testBit (8*c+v)=true↔∃j:Nat,j<i∧j%n=c∧JA xs j=v)
theorem JlA{n:Nat}(hn:n=2∨n=3∨n=4):∀(m i:Nat) (xs:List Int) (R C:Nat),i+m=n*n→OkS n xs i→InvS n xs i R C→JeR n m xs=cF n m R C
 |0,_,_,_,_,_,_,_=>rfl
 |m+1,i,xs,R,C,him,ho,hI=>by
  have hi:i<n*n:=by omega
  have e1:xs.length -(m+1)=i:=by rw[ho.len];omega
  have e2:n*n -(m+1)=i:=by omega
  unfold JeR cF
  rw[JdM,e1,e2]
  refine GM _ fun v hv=> ?_
  obtain⟨v',hv',rfl⟩:=Qj.1 hv
  have hv2:1≤v'+1∧v'+1≤n:=by have:=List.mem_range.1 hv';omega
  generalize v'+1=v at hv2⊢
  obtain⟨k1,k2⟩:=JeT hn ho hi hv2
  have hcn:i%n<n:=by rcases hn with rfl|rfl|rfl<;>omega
  have hcl:UL (xs.set i (v:Int)) n=(R.testBit v||C.testBit (8*(i%n)+v)):=by
   rw[Bool.eq_iff_iff,Bool.or_eq_true,hI.row v hv2.1 hv2.2,hI.col _ v hcn hv2.1 hv2.2]
   constructor
   · intro hc
     have:¬∀j:Nat,j<i→(j/n=i/n∨j%n=i%n)→JA xs j≠v:=fun h=>by rw[k1.2 h]at hc;cases hc
     have:∃j:Nat,j<i∧(j/n=i/n∨j%n=i%n)∧JA xs j=v:=Classical.byContradiction fun hno=>this fun j hj hl he=>hno ⟨j,hj,hl,he⟩
     obtain⟨j,hj,hl,he⟩:=this
     rcases hl with hl|hl
     · exact .inl ⟨j,hj,hl,he⟩
     · exact .inr ⟨j,hj,hl,he⟩
   · intro hc
     cases hcc:UL (xs.set i (v:Int)) n with
     |true=>rfl
     |false=>
      have:=k1.1 hcc
      rcases hc with⟨j,hj,hl,he⟩|⟨j,hj,hl,he⟩
      · exact absurd he (this j hj (.inl hl))
      · exact absurd he (this j hj (.inr hl))
  rw[hcl]
  by_cases hcc:(R.testBit v||C.testBit (8*(i%n)+v))=true
  · rw[if_pos hcc,if_pos hcc]
  · rw[if_neg hcc,if_neg hcc]
    have hcf:UL (xs.set i (v:Int)) n=false:=by rw[hcl];simpa using hcc
    have hset:∀k:Nat,k<i+1→JA (xs.set i (v:Int)) k=if k=i then(v:Int)else JA xs k:=fun k hk=>Za _ _ _ _ (by rw[ho.len];exact hi)
    refine JlA hn m (i+1) _ _ _ (by omega) (k2 hcf) ⟨fun w hw1 hw2=> ?_,fun c w hc hw1 hw2=> ?_⟩
    · split
      · rename_i hend
        rw[Nat.zero_testBit]
        refine⟨fun h=>(by cases h),fun⟨j,hj,hl,_⟩=> ?_⟩
        exfalso
        rcases hn with rfl|rfl|rfl<;>omega
      · rename_i hend
        have hrow:(i+1)/n=i/n:=by rcases hn with rfl|rfl|rfl<;>omega
        rw[Nat.testBit_or,Nat.testBit_two_pow,Bool.or_eq_true,hI.row w hw1 hw2,decide_eq_true_eq,hrow]
        constructor
        · rintro(⟨j,hj,hl,he⟩|rfl)
          · exact⟨j,by omega,hl,by rw[hset j (by omega),if_neg (by omega)];exact he⟩
          · exact⟨i,by omega,rfl,by rw[hset i (by omega),if_pos rfl]⟩
        · rintro⟨j,hj,hl,he⟩
          rw[hset j hj]at he
          split at he
          · exact .inr (by omega)
          · exact .inl ⟨j,by omega,hl,he⟩
    · rw[Nat.testBit_or,Nat.testBit_two_pow,Bool.or_eq_true,hI.col c w hc hw1 hw2,decide_eq_true_eq]
      constructor
      · rintro(⟨j,hj,hl,he⟩|he)
        · exact⟨j,by omega,hl,by rw[hset j (by omega),if_neg (by omega)];exact he⟩
        · exact⟨i,by omega,by rcases hn with rfl|rfl|rfl<;>omega,by rw[hset i (by omega),if_pos rfl];rcases hn with rfl|rfl|rfl<;>omega⟩
      · rintro⟨j,hj,hl,he⟩
        rw[hset j hj]at he
        split at he
        · rename_i hji
          subst hji
          exact .inr (by omega)
        · exact .inl ⟨j,by omega,hl,he⟩
theorem Xc(n:Nat)(c:Int):JA (Jd n (0:Int)) c=0:=by
 simp only[JA,List.getD,List.getElem?_replicate]
 split<;>rfl
theorem JgA(n:Nat):OkS n (Jd (n*n) 0) 0:=⟨by simp,fun k hk=>by omega,fun k _=>Xc _ _,fun p q _ _ _ h=>by rw[Xc]at h;omega⟩
theorem JeH(n:Nat):InvS n (Jd (n*n) 0) 0 0 0:=⟨fun v _ _=>by rw[Nat.zero_testBit];simp,fun c v _ _ _=>by rw[Nat.zero_testBit];simp⟩
def XJ(n:Nat):Nat:=if n=2 then 2 else if n=3 then 12 else 576
theorem Jmx:cF 2 4 0 0=2:=by kernel_rfl
theorem Jjp:cF 3 9 0 0=12:=by kernel_rfl
theorem Jle:cF 4 16 0 0=576:=by kernel_rfl
theorem Jji{n:Nat}(hn:n=2∨n=3∨n=4):JeR n (n*n) (Jd (n*n) 0)=XJ n:=by
 rw[JlA hn (n*n) 0 _ 0 0 (by omega) (JgA n) (JeH n)]
 rcases hn with rfl|rfl|rfl
 · exact Jmx
 · exact Jjp
 · exact Jle
end Go.Lg
