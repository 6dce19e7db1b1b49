/- LgZ3, LgY, cut to what is needed. -/
import Derived.Test.YtiahmfdabpafoaaGreatDoorKab7
import Derived.Test.YtiahmfdabpafoaaGreatDoorKab4
open List renaming getElem?_eq_some_iff → Ja, replicate → Jg, getElem?_eq_getElem → Jh, mapM_cons → Jz, length_take → JA, drop_zero → JB, getElem?_take_of_lt → JG, map_cons → Qf, map_nil → ZC
open Nat renaming reduceAdd→zA,reduceMul→zM,reduceSub→zS,reduceEqDiff→zE,reduceLeDiff→zL
set_option linter.unusedSimpArgs false
set_option linter.unusedVariables false
set_option maxRecDepth 100000
namespace Go.Lg
mutual
def RR:FV→FV
 | .nil=> .sl 0 []
 | .sl n cs=> .sl n (nzL cs)
 | .int k n=> .int k n
 | .bool b=> .bool b
 | .str s=> .str s
def nzL:List FV→List FV
 |[]=>[]
 |x::l=>RR x::nzL l
end
theorem JbT:∀l:List FV,nzL l=l.map RR
 |[]=>rfl
 |x::l=>by rw[nzL,JbT l];rfl
theorem F9(n:Nat)(cs:List FV):RR (.sl n cs)= .sl n (cs.map RR):=by rw[RR,JbT]
theorem Fr{w:World}{I:Nat→Prop}{x:FV}{v:Value}(h:VF w I x v):VF w I (RR x) v:=by
 induction h with
 |int k n=>exact .int k n
 |bool b=>exact .bool b
 |str s=>exact .str s
 |nil=>exact .sl0 none 0
 |sl0 a cap=>rw[F9];exact .sl0 a cap
 |sl n cs b o cap u hc hI hu hv ih=>
  rw[F9]
  refine .sl n _ b o cap u hc hI (fun j hj=>hu j (by simpa using hj)) fun j hj=> ?_
  rw[List.getElem_map]
  exact ih j (by simpa using hj)
def frzS(S:Nat→Bool)(H:Ji):Nat→CV→Option FV
 |_, .f x=>some (RR x)
 |_, .emp=>some (.sl 0 [])
 |n+1, .own id g off k _=>if S id then match look H id g with
  |some b=>(((b.cs.drop off).take (k*b.sz)).mapM (frzS S H n)).map (.sl k)
  |none=>none else none
 |_,_=>none
def Cx.iceS(X:Cx)(S:Nat→Bool)(H:Ji):Cx:={X with I:=fun b=>X.I b∨∃(id:Nat) (blk:ZG),S id=true∧H[id]? =some (some blk)∧X.mu blk.g=b}
def Ri(S:Nat→Bool)(H:Ji)(c c':CV):Prop:=c'=c∨∃y,frzS S H 6 c=some y∧c'= .f y
def B7(S:Nat→Bool)(H H':Ji):Prop:=∀(id:Nat) (b':ZG),H'[id]? =some (some b')→S id=false∧∃b,H[id]? =some (some b)∧b'.g=b.g∧b'.sz=b.sz∧b'.cs.length=b.cs.length∧∀j (h:j<b.cs.length),∃c',b'.cs[j]? =some c'∧Ri S H b.cs[j] c'
inductive Jao(S:Nat→Bool)(H:Ji):AV→AV→Prop where
 |c (x y:CV) (h:Ri S H x y):Jao S H (.c x) (.c y)
 |agg (xs ys:List CV) (hl:ys.length=xs.length) (h:∀j (h:j<xs.length),∃y,ys[j]? =some y∧Ri S H xs[j] y):Jao S H (.agg xs) (.agg ys)
 |s (x:AV):Jao S H x x
inductive JfX(S:Nat→Bool)(H:Ji):AV→AV→Prop where
 |o (x y:AV) (h:Jao S H x y):JfX S H x y
 |tup (xs ys:List AV) (hl:ys.length=xs.length) (h:∀j (h:j<xs.length),∃y,ys[j]? =some y∧Jao S H xs[j] y):JfX S H (.tup xs) (.tup ys)
section
variable{w:World}{X:Cx}{S:Nat→Bool}{H H':Ji}
theorem YJ(hh:B7 S H H'):Ev w X H w (X.iceS S H) H':=
 ⟨fun b hb=>⟨.inl hb,rfl⟩,Nat.le_refl _,fun _ _=>⟨rfl,rfl⟩,Nat.le_refl _,rfl,rfl,rfl,
  fun id g b' _ h=>by
   obtain⟨h1,h2⟩:=Jw h
   obtain⟨_,b,k1,k2,k3,k4,_⟩:=hh id b' h1
   have hg:b.g=g:=by rw[←k2];exact h2
   refine⟨b, ?_,k4.symm,k3.symm⟩
   subst hg
   exact Qq k1,
  fun _ _ _=>rfl,
  fun b ⟨id,blk,h1,h2⟩=>by
   obtain⟨_,b0,k1,k2,_⟩:=hh id blk h1
   exact .inl ⟨id,b0,k1,by rw[←k2];exact h2⟩,
  fun b hb=>hb.elim .inl fun⟨id,blk,_,h1,h2⟩=> .inr (.inl ⟨id,blk,h1,h2⟩)⟩
theorem Jbf(R:QZ w X H):∀(n:Nat) (x:CV) (y:FV) (v:Value),frzS S H n x=some y→VC w X H x v→VF w (X.iceS S H).I y v:=by
 intro n
 induction n with
 |zero=>
  intro x y v h hv
  cases x with
  |f x=>simp only[frzS,Option.some.injEq]at h;subst h;exact Fr (VF.wide (fun b hb=> .inl hb) hv)
  |emp=>simp only[frzS,Option.some.injEq]at h;subst h;obtain⟨a,rfl⟩:=hv;exact .sl0 _ _
  |_=>simp[frzS]at h
 |succ n ih=>
  intro x y v h hv
  cases x with
  |f x=>simp only[frzS,Option.some.injEq]at h;subst h;exact Fr (VF.wide (fun b hb=> .inl hb) hv)
  |emp=>simp only[frzS,Option.some.injEq]at h;subst h;obtain⟨a,rfl⟩:=hv;exact .sl0 _ _
  |own id g off k lim=>
   simp only[frzS]at h
   split at h
   rotate_left
   · cases h
   rename_i hS
   split at h
   · rename_i b hl
     cases hf:((b.cs.drop off).take (k*b.sz)).mapM (frzS S H n)with
     |none=>simp[hf]at h
     |some xs=>
      simp[hf]at h
      subst h
      obtain⟨hl1,hl2⟩:=Zf hf
      obtain⟨hgt,_,hall⟩:=hv
      obtain⟨c1,a0,cap,rfl,c2,c3,c4,c5⟩:=hall b hl
      obtain⟨hid,hgg⟩:=Jw hl
      subst hgg
      obtain⟨_,_,cc,t,g3,g4,g5,g6⟩:=R.blk id b hid
      have hlen:xs.length=k*b.sz:=by rw[hl1];simp;omega
      have hI:(X.iceS S H).I (X.mu b.g):= .inr ⟨id,b,hS,hid,rfl⟩
      by_cases h0:k*b.sz=0
      · have hx0:xs=[]:=List.eq_nil_of_length_eq_zero (by omega)
        subst hx0
        by_cases hn:k=0
        · subst hn;exact VF.sl0 _ _
        · by_cases hcap:cap=0
          · omega
          · have:=c3 hcap
            subst this
            exact VF.sl k [] (X.mu b.g) off cap (fun _=>undef) c2 hI (fun j hj=>absurd hj (by simp)) (fun j hj=>absurd hj (by simp))
      · have hn:k≠0:=fun h=>h0 (by rw[h];simp)
        have:=c3 (by omega)
        subst this
        have hget:∀j,j<xs.length→∃u,cc[off+j]? =some u∧∀h:j<xs.length,VF w (X.iceS S H).I xs[j] u:=fun j hj=>by
         obtain⟨u,h7,h8⟩:=g6 (off+j) (by omega)
         refine⟨u,h7,fun hj=> ?_⟩
         obtain⟨y,e1,e2⟩:=hl2 j (by rw[←hl1];exact hj)
         have e3:xs[j]=y:=by simpa[Jh hj]using e1
         rw[e3]
         refine ih _ _ _ e2 ?_
         simp only[List.getElem_take,List.getElem_drop]
         exact h8
        refine VF.sl k xs (X.mu b.g) off cap (fun j=>cc.getD (off+j) undef) c2 hI (fun j hj=> ?_) (fun j hj=> ?_)
        · obtain⟨u,h7,h8⟩:=hget j hj
          simp[World.cell?,g3,Array.getD_eq_getD_getElem?,h7]
        · obtain⟨u,h7,h8⟩:=hget j hj
          simp only[Array.getD_eq_getD_getElem?,h7,Option.getD_some]
          exact h8 hj
   · cases h
  |_=>simp[frzS]at h
theorem X5(R:QZ w X H)(hh:B7 S H H'){x y:CV}{v:Value}(h:Ri S H x y)(hv:VC w X H x v):VC w (X.iceS S H) H' y v:=by
 rcases h with rfl|⟨z,h1,rfl⟩
 · exact hv.mono (YJ hh)
 · exact Jbf R 6 x z v h1 hv
theorem R9(R:QZ w X H)(hh:B7 S H H'):QZ w (X.iceS S H) H':=
 ⟨fun b hb=>hb.elim (R.imm b) fun⟨id,blk,_,h1,h2⟩=>by
   obtain⟨_,_,cc,t,h3,_⟩:=R.blk id blk h1
   rw[←h2]
   exact(Array.getElem?_eq_some_iff.1 h3).1,
  fun id b' hb=>by
   obtain⟨k0,b,k1,k2,k3,k4,k5⟩:=hh id b' hb
   obtain⟨h1,h2,cc,t,h3,h4,h5,h6⟩:=R.blk id b k1
   rw[k2]
   refine⟨h1,fun hI=>hI.elim h2 fun⟨id2,b2,e1,e2,e3⟩=> ?_,cc,t,h3,h4,by rw[k4];exact h5,fun j hj=> ?_⟩
   · have:=R.inj id2 id b2 b e2 k1 e3
     rw[this,k0]at e1
     cases e1
   · rw[k4]at hj
     obtain⟨u,u1,u2⟩:=h6 j hj
     obtain⟨c',e1,e2⟩:=k5 j hj
     refine⟨u,u1, ?_⟩
     have e3:b'.cs[j]=c':=by
      have:=Ja.1 e1
      exact this.2
     rw[e3]
     exact X5 R hh e2 u2,
  fun id id' b b' h1 h2 he=>by
   obtain⟨_,a,k1,k2,_⟩:=hh id b h1
   obtain⟨_,a',k1',k2',_⟩:=hh id' b' h2
   exact R.inj id id' a a' k1 k1' (by rw[←k2,←k2'];exact he),R.tab.mono fun b hb=>⟨.inl hb,rfl⟩⟩
theorem X7(R:QZ w X H)(hh:B7 S H H'){x y:AV}{v:Value}(h:Jao S H x y)(hv:VA w X H x v):VA w (X.iceS S H) H' y v:=by
 cases h with
 |c x y h=>exact .c _ _ (X5 R hh h (ZB hv))
 |agg xs ys hl h=>
  cases hv with
  |agg cs vs hsz hc=>
   refine .agg _ _ (by omega) fun j hj=> ?_
   obtain⟨y,h3,h4⟩:=h j (by omega)
   obtain⟨u,h5,h6⟩:=hc j (by omega)
   have:ys[j]=y:=by simpa[Jh hj]using h3
   rw[this]
   exact⟨u,h5,X5 R hh h4 h6⟩
 |s x=>exact hv.mono (YJ hh)
theorem Ba(R:QZ w X H)(hh:B7 S H H'){x y:AV}{v:Value}(h:JfX S H x y)(hv:VA w X H x v):VA w (X.iceS S H) H' y v:=by
 cases h with
 |o x y h=>exact X7 R hh h hv
 |tup xs ys hl h=>
  cases hv with
  |tup vs us hus=>
   rw[←hl]
   refine .tup ys us fun j hj=> ?_
   obtain⟨y,h3,h4⟩:=h j (by omega)
   have:ys[j]=y:=by simpa[Jh hj]using h3
   rw[this]
   exact X7 R hh h4 (hus j (by omega))
end
theorem Jq.iceS{P:Program}{f:FuncId}{args:List AV}{H:Ji}{Q Q':KV}(h:Jq P f args H Q')(hq:∀v H',Q' v H'→∃S H'' v',B7 S H' H''∧JfX S H' v v'∧Q v' H''):Jq P f args H Q:=
 fun w X vs hH hvs=>(h w X vs hH hvs).mono fun _ w' ⟨v,u,X',H',h1,h2,h3,h4,h5⟩=>by
  obtain⟨S,H'',v',k1,k2,k3⟩:=hq v H' h5
  exact⟨v',u,X'.iceS S H',H'',h1,Ba h3 k1 k2 h2,R9 h3 k1,h4.trans (YJ k1),k3⟩
theorem QM.ice{P:Program}{c:Code}{s:List AV}{H H':Ji}{Q:Exit→St→Prop}(S:Nat→Bool)(hh:B7 S H H')(h:QM P c ⟨s,H'⟩ Q):QM P c ⟨s,H⟩ Q:=by
 intro w X a R
 have R':V2 w (X.iceS S H) a ⟨s,H'⟩:=by
  refine⟨R.defs,R.size,fun i hi=> ?_,R9 R.heap hh⟩
  obtain⟨u,h1,h2⟩:=R.slot i hi
  exact⟨u,h1,Ba R.heap hh (.o _ _ (.s _)) h2⟩
 exact wp_mono (h w _ a R') fun e a' w' ⟨X',st',h1,h2,h3⟩=>⟨X',st',h1,(YJ hh).trans h2,h3⟩
theorem FH{S:Nat→Bool}{H H':Ji}(h:∀(id:Nat) (b:ZG),H'[id]? =some (some b)→S id=false∧H[id]? =some (some b)):B7 S H H':=fun id b hb=>
 ⟨(h id b hb).1,b,(h id b hb).2,rfl,rfl,rfl,fun j hj=>⟨b.cs[j],by rw[Jh hj], .inl rfl⟩⟩
def Z0(n:Nat):Nat→Bool:=fun i=>decide (n≤i)
theorem Xr(H:Ji)(n:Nat):B7 (Z0 n) H (H.take n):=FH fun id b hb=>by
 rw[List.getElem?_take]at hb
 split at hb
 · rename_i h
   exact⟨by simp only[Z0,decide_eq_false_iff_not];omega,hb⟩
 · cases hb
theorem Kn{S:Nat→Bool}{H:Ji}{c:CV}{y:FV}(h:frzS S H 6 c=some y):Ri S H c (.f y):= .inr ⟨y,h,rfl⟩
theorem X6{S:Nat→Bool}{H:Ji}{c:CV}:Ri S H c c:= .inl rfl
theorem Ko{S:Nat→Bool}{H:Ji}{a b c a' b' c':CV}(h1:Ri S H a a')(h2:Ri S H b b')(h3:Ri S H c c'):Jao S H (.agg [a,b,c]) (.agg [a',b',c']):=
 .agg _ _ rfl fun j hj=>by
  match j,hj with
  |0,_=>exact⟨_,rfl,h1⟩
  |1,_=>exact⟨_,rfl,h2⟩
  |2,_=>exact⟨_,rfl,h3⟩
def Fz(S:Nat→Bool)(H:Ji)(n:Nat)(c:CV)(x:FV):Prop:=∀H':Ji,(∀i,S i=true→i<H.length→H'[i]? =H[i]?)→∀m,n≤m→frzS S H' m c=some x
theorem Fz.frz{S:Nat→Bool}{H:Ji}{n:Nat}{c:CV}{x:FV}(h:Fz S H n c x){m:Nat}(hm:n≤m):frzS S H m c=some x:=h H (fun _ _ _=>rfl) m hm
theorem Fz.f{S:Nat→Bool}{H:Ji}{x:FV}(n:Nat):Fz S H n (.f x) (RR x):=fun H' _ m _=>by cases m<;>rfl
theorem Fz.emp{S:Nat→Bool}{H:Ji}(n:Nat):Fz S H n .emp (.sl 0 []):=fun H' _ m _=>by cases m<;>rfl
theorem Fz.mono{S:Nat→Bool}{H H1:Ji}{n:Nat}{c:CV}{x:FV}(h:Fz S H n c x)(hs:∀i,S i=true→i<H.length→H1[i]? =H[i]?)(hl:H.length≤H1.length):Fz S H1 n c x:=
 fun H' k m hm=>h H' (fun i hi hil=>(k i hi (Nat.lt_of_lt_of_le hil hl)).trans (hs i hi hil)) m hm
theorem Fz.own{S:Nat→Bool}{H:Ji}{n:Nat}{id g k:Nat}{b:ZG}{xs:List FV}{lim:Option Nat}(hS:S id=true)(hl:look H id g=some b)(hlen:xs.length=k*b.sz)(hle:k*b.sz≤b.cs.length)
 (hc:∀j (h:j<xs.length),∃c,b.cs[j]? =some c∧Fz S H n c xs[j]):Fz S H (n+1) (.own id g 0 k lim) (.sl k xs):=fun H' hh m hm=>by
 obtain⟨m,rfl⟩:∃m',m=m'+1:=⟨m -1,by omega⟩
 have hlt:id<H.length:=(Ja.1 (Jw hl).1).1
 have hl':look H' id g=some b:=by unfold look at*;rw[hh id hS hlt];exact hl
 simp only[frzS,hS,if_true,hl',JB]
 have:∀(cs:List CV) (ys:List FV),cs.length=ys.length→(∀j (h:j<ys.length),∃c,cs[j]? =some c∧frzS S H' m c=some ys[j])→cs.mapM (frzS S H' m)=some ys:=by
  intro cs
  induction cs with
  |nil=>intro ys h _;have:ys=[]:=List.eq_nil_of_length_eq_zero h.symm;subst this;rfl
  |cons c cs ih=>
   intro ys h hall
   cases ys with
   |nil=>simp at h
   |cons y ys=>
    obtain⟨c0,h0,h1⟩:=hall 0 (by simp)
    have:c=c0:=by simpa using h0
    subst this
    rw[Jz,h1,ih ys (by simpa using h) fun j hj=>by
     obtain⟨c',q1,q2⟩:=hall (j+1) (by simpa using hj)
     exact⟨c',by simpa using q1,by simpa using q2⟩]
    rfl
 rw[this _ xs (by rw[JA];omega) fun j hj=> ?_]
 · rfl
 · obtain⟨c,h1,h2⟩:=hc j hj
   exact⟨c,by rw[JG (by omega)];exact h1,h2 H' hh m (by omega)⟩
def FK:Nat→Code→Code
 |n+1, .seq x y=> .seq x (FK n y)
 |_,_=> .skip
def Fa:Nat→Code→Code
 |n+1, .seq _ y=>Fa n y
 |_,c=>c
theorem Bc(c:Code):FK 0 c= .skip:=by cases c<;>rfl
theorem Jc3(n:Nat)(x y:Code):FK (n+1) (.seq x y)= .seq x (FK n y):=rfl
theorem Rx(c:Code):Fa 0 c=c:=by cases c<;>rfl
theorem Jcn(n:Nat)(x y:Code):Fa (n+1) (.seq x y)=Fa n y:=rfl
def JeG(R:KS)(K:KT):KT:=fun e s H=>match e with
 | .normal=>R s H
 |e=>K e s H
theorem NB(R:KS)(K:KT)(s:List AV)(H:Ji):JeG R K .normal s H=R s H:=propext Iff.rfl
theorem JeF(R:KS)(K:KT)(s:List AV)(H:Ji):JeG R K .ret s H=K .ret s H:=propext Iff.rfl
theorem JcR(R:KS)(K:KT)(i:Nat)(s:List AV)(H:Ji):JeG R K (.exit i) s H=K (.exit i) s H:=propext Iff.rfl
theorem QM.split{P:Program}{R:KS}{K:KT}:∀(n:Nat) (c:Code) (s:List AV) (H:Ji),cw P (FK n c) s H (JeG R K)→(∀s H,R s H→QM P (Fa n c) ⟨s,H⟩ (stK K))→QM P c ⟨s,H⟩ (stK K)
 |0,c,s,H,h,k=>by
  rw[Bc]at h
  rw[←Rx c]
  exact k s H h
 |n+1,c,s,H,h,k=>by
  cases c with
  |seq x y=>
   refine QM.seq ((ZU x s H _ h).mono fun e st hq=> ?_)
   cases e with
   |normal=>exact QM.split n y st.s st.h hq k
   |_=>exact hq
  |_=>exact k s H h
theorem QM.cutN{P:Program}{c:Code}{s:List AV}{H:Ji}{K:KT}(n:Nat){α:Type}(ok:α→Prop)(M:α→List Sl)(G:α→Ji)(h:cw P (FK n c) s H (JeG (fun s' H'=>∃a,ok a∧KD s' (QY (M a) s)∧Qc H' (G a)) K))
 (k:∀a,ok a→QM P (Fa n c) ⟨QY (M a) s,G a⟩ (stK K)):QM P c ⟨s,H⟩ (stK K):=
 QM.split n c s H h fun s' H' ⟨a,ha,hs,hh⟩=>QM.weaken (st':=⟨QY (M a) s,G a⟩) hs.sle hh (k a ha)
theorem Jq.ofR{P:Program}{f:FuncId}{fn:Func}{c:Code}{args:List AV}{H:Ji}{Q:KV}(hf:P.funcs[f]? =some fn)(hb:fn.body=some c){n:Nat}(hn:fn.ntmps=n){rs:List ResultVar}(hr:fn.results.toList=rs)
 (h:QM P c ⟨args++Jg (n -args.length) .void,H⟩ (stK (FL P rs Q))):Jq P f args H Q:=by
 subst hn hr
 exact Jq.of_body hf hb (h.mono fun e st ⟨h1,v,h2,H',h3,h4⟩=>⟨h1,v,H',h2,h3,h4⟩)
attribute [go_sem] Bc Jc3 Rx Jcn NB JeF JcR
theorem Qh.clear{P:Program}{o:Oper}{st:St}{K:AV→Ji→Prop}{t e:TypeId}{ti ei:TI}{x:Operand}{id g off n:Nat}{lim:Option Nat}{b:ZG}
 (ho:o.op= .call ⟨.builtin .clear,#[x],#[t]⟩) (ht:Jy P t=some ti) (hk:ti.k= .slice e) (he:Jy P e=some ei) (hz:ei.zero.length=ei.size)
 (hs:QH st.s x= .c (.own id g off n lim)) (hl:look st.h id g=some b) (hbs:b.sz=ei.size) (hn0:0<n) (hfit:off+n*ei.size≤b.cs.length)
 (hK:K (.tup []) (st.h.set id (some ⟨b.g,b.sz,Qm b.cs off (QC (n*ei.size) ei.zero)⟩))):Qh P o st K:=by
 intro w X a R next Q hn
 obtain⟨inf,d,z',i1,i2,i3,i4,i5,i6,i7⟩:=J2 ht
 rw[i5]at hk;cases QW hk
 obtain⟨z,hz1,hz2,hz3⟩:=UK he
 have hsv:=JO R x
 rw[hs]at hsv
 obtain⟨hgt,_,hall⟩:=ZB hsv
 obtain⟨c1,a0,cap,hse,c2,c3,c4,c5⟩:=hall b hl
 have ha0:=c3 (by omega)
 subst ha0
 have hz0:n*ei.size≠0→ei.zero.length≠0:=fun h=>by rw[hz];intro h0;rw[h0]at h;exact h (Nat.mul_zero _)
 obtain⟨q1,q2⟩:=Wk (w:=w) (X:=X) (H:=st.h) hz2 (hz3 w X st.h) (n*ei.size) hz0
 have hone:∀y∈z.cells.toList,y.oneCell'=true:=fun y hy=>by
  obtain⟨j,hj,rfl⟩:=List.mem_iff_getElem.1 hy
  obtain⟨u,h1,h2⟩:=hz3 w X st.h j (by rw[←hz2];simpa using hj)
  have:z.cells.toList[j]=u:=by
   have:=Array.getElem?_eq_some_iff.1 h1
   simpa using this.2
  rw[this]
  exact h2.one
 have hvs:(Builtin.zeroCells z.cells n).toList=((Array.range (n*ei.size)).map (z.cells[· %z.cells.size]!)).toList:=by
  unfold Builtin.zeroCells
  rw[show n*z.cells.size=n*ei.size by rw[hz2,hz]]
 have hlen:((Array.range (n*ei.size)).map (z.cells[· %z.cells.size]!)).toList.length=(QC (n*ei.size) ei.zero).length:=by simpa using q1
 have hzl:(QC (n*ei.size) ei.zero).length=n*ei.size:=by simp[QC]
 obtain⟨w',h4,h5,h6⟩:=Ke R.heap hl (o:=off) (cs:=QC (n*ei.size) ei.zero) (vs:=((Array.range (n*ei.size)).map (z.cells[· %z.cells.size]!)).toList) hlen (by omega)
  (fun j hj=>by obtain⟨u,u1,u2⟩:=q2 j hj;exact⟨u,by rw[Array.getElem?_toList];exact u1,u2⟩) (fun y hy=>by
    obtain⟨j,hj,rfl⟩:=List.mem_iff_getElem.1 hy
    have hj':j<(QC (n*ei.size) ei.zero).length:=by rw[←hlen];exact hj
    obtain⟨u,u1,u2⟩:=q2 j hj'
    have:((Array.range (n*ei.size)).map (z.cells[· %z.cells.size]!)).toList[j]=u:=by
     have:=Array.getElem?_eq_some_iff.1 u1
     simpa using this.2
    rw[this]
    exact u2.one)
 have hrun:(execOp a.eval o).run P w= .ok (.value (.tuple #[])) w':=by
  have hm:∀k:Nat,n=k+1→(Builtin.clear_ #[t] o.type #[.slice (some ⟨X.mu g,off,none⟩) n cap]).run P w= .ok (.tuple #[]) w':=fun k hk=>by
   subst hk
   have h4':=h4 P
   simp only[Array.toList_map,Array.toList_range]at h4'
   simp[Builtin.clear_,run_underlying i2,hz1,hvs,h4']
  simp only[execOp,ho,resolve,Sem.run_bind,Sem.run_pure,Result.andThen_ok,invoke,builtin,List.map_toArray,Qf,ZC,hse]
  rw[hm (n -1) (by omega)]
  rfl
 have hv:VA w' X (st.h.set id (some ⟨b.g,b.sz,Qm b.cs off (QC (n*ei.size) ei.zero)⟩)) (.tup []) (.tuple #[]):= .tup [] (fun _=>undef) fun j hj=>absurd hj (Nat.not_lt_zero _)
 exact Zn hrun (hn _ _ _ _ _ hv h5 h6 hK)
end Go.Lg

namespace Go.Lg
def JaY(W:List Nat)(o:Oper):Nat:=o.after.toList.foldl (fun m e=>if Region.binds .any e=true then m|||2^e.on|||W.getD e.on 0 else m) 0
def fixB(ops:Array Oper)(W:List Nat):Bool:=(List.range ops.size).all fun i=>match ops[i]? with|some o=>W.getD i 0==JaY W o|none=>true
theorem RX(W:List Nat)(j:Nat):∀(l:List Edge) (m:Nat),(l.foldl (fun m e=>if Region.binds .any e=true then m|||2^e.on|||W.getD e.on 0 else m) m).testBit j=
 (m.testBit j||l.any fun e=>Region.binds .any e&&(e.on==j||(W.getD e.on 0).testBit j))
 |[],m=>by simp
 |e::l,m=>by
  rw[List.foldl_cons,RX W j l]
  simp only[List.any_cons]
  by_cases hb:Region.binds .any e=true
  · simp only[hb,if_true,Bool.true_and,Nat.testBit_or,Nat.testBit_two_pow]
    have:decide (e.on=j)=(e.on==j):=by by_cases h:e.on=j<;>simp[h]
    rw[this]
    cases m.testBit j<;>cases(e.on==j)<;>cases(W.getD e.on 0).testBit j<;>simp
  · simp only[hb,Bool.false_and,Bool.false_or]
    simp
theorem Ro{ops:Array Oper}{W:List Nat}(hf:fixB ops W=true)(hb:∀i o,ops[i]? =some o→∀e∈o.after,Region.binds .any e=true→e.on<i):∀(f i j:Nat),i<f→i<ops.size→Q8 ops f i j=(W.getD i 0).testBit j
 |0,_,_,h,_=>by omega
 |f+1,i,j,h,hi=>by
  have ho:ops[i]? =some ops[i]:=Array.getElem?_eq_getElem hi
  have hw:W.getD i 0=JaY W ops[i]:=by
   have:=List.all_eq_true.1 hf i (List.mem_range.2 hi)
   simp only[ho]at this
   simpa using this
  rw[hw,JaY,RX]
  simp only[Q8,ho,Nat.zero_testBit,Bool.false_or]
  have e1:∀e∈ops[i].after,Region.binds .any e=true→Q8 ops f e.on j=(W.getD e.on 0).testBit j:=fun e he hbe=>by
   have:=hb i _ ho e he hbe
   exact Ro hf hb f e.on j (by omega) (by omega)
  rw[←Array.any_toList,←Array.any_toList]
  have hm:∀l:List Edge,(∀e∈l,e∈ops[i].after)→((l.any fun e=>Region.binds .any e&&e.on==j)||l.any fun e=>Region.binds .any e&&Q8 ops f e.on j)=l.any fun e=>Region.binds .any e&&(e.on==j||(W.getD e.on 0).testBit j):=by
   intro l hl
   induction l with
   |nil=>rfl
   |cons e l ih=>
    have ih:=ih fun x hx=>hl x (by simp[hx])
    have:=e1 e (hl e (by simp))
    simp only[List.any_cons,←ih]
    by_cases hbe:Region.binds .any e=true
    · rw[this hbe]
      simp only[hbe,Bool.true_and]
      cases(e.on==j)<;>cases(W.getD e.on 0).testBit j<;>simp
    · simp only[hbe,Bool.false_and,Bool.false_or]
  exact hm _ fun e he=>by simpa using he
theorem Wp{f g:Nat→Nat→Bool}:∀(l:List Nat),(∀i∈l,∀j∈l,f i j=g i j)→U9.pairsB f l=U9.pairsB g l
 |[],_=>rfl
 |i::r,h=>by
  simp only[U9.pairsB]
  rw[Wp r fun a ha b hb=>h a (by simp[ha]) b (by simp[hb])]
  congr 1
  rw[Bool.eq_iff_iff]
  simp only[List.all_eq_true]
  exact⟨fun k x hx=>by rw[←h i (by simp) x (by simp[hx])];exact k x hx,fun k x hx=>by rw[h i (by simp) x (by simp[hx])];exact k x hx⟩
def Jel(ops:Array Oper)(π:List Nat)(F:List Nat)(D:Option Nat)(σ:List Nat)(W:List Nat):Bool:=
 fixB ops W&&(((List.range ops.size).all fun i=>match ops[i]? with|some o=>o.after.all fun e=> !Region.binds .any e||decide (e.on<i)|none=>true)&&
 ((List.range ops.size).all fun i=>π.contains i||σ.contains i)&&(π++σ).all (fun i=>decide (i<ops.size))&&decide (π++σ).Nodup&&
 U9.pairsB (fun i j=> !((W.getD i 0).testBit j)&&(!(VQ ops i j||VQ ops j i)||(W.getD j 0).testBit i)&&(Rl ops F D i||(W.getD j 0).testBit i)) π&&
 (match D with|some d=>(match ops[d]? with|some o=>o.guard.isNone&&(match o.op with| .alloc _=>true| .makeSlice .. =>true|_=>false)|none=>false)&&π.all (fun i=>decide (i=d)|| !VQ ops i d)|none=>true)&&
 σ.all (fun i=>π.all fun j=>(W.getD i 0).testBit j)&&U9.pairsB (fun i j=>(W.getD j 0).testBit i) σ)
theorem Jem{ops:Array Oper}{π F:List Nat}{D:Option Nat}{σ W:List Nat}(h:Jel ops π F D σ W=true):U9 ops π F D σ=true:=by
 simp only[Jel,Bool.and_eq_true]at h
 obtain⟨hf,⟨⟨⟨⟨⟨⟨h1,h2⟩,h3⟩,h4⟩,h5⟩,h6⟩,h7⟩,h8⟩:=h
 have hb:∀i o,ops[i]? =some o→∀e∈o.after,Region.binds .any e=true→e.on<i:=fun i o ho e he hbe=>by
  have hi:i<ops.size:=(Array.getElem?_eq_some_iff.1 ho).1
  have:=List.all_eq_true.1 h1 i (List.mem_range.2 hi)
  simp only[ho]at this
  have:=Array.all_eq_true_iff_forall_mem.1 this e he
  simpa[hbe]using this
 have key:∀i j,i<ops.size→Q8 ops ops.size i j=(W.getD i 0).testBit j:=fun i j hi=>Ro hf hb _ i j hi hi
 have hlt:∀i∈π++σ,i<ops.size:=fun i hi=>by simpa using List.all_eq_true.1 h3 i hi
 have lp:∀i∈π,i<ops.size:=fun i hi=>hlt i (by simp[hi])
 have ls:∀i∈σ,i<ops.size:=fun i hi=>hlt i (by simp[hi])
 simp only[U9,Bool.and_eq_true]
 refine⟨⟨⟨⟨⟨⟨⟨h1,h2⟩,h3⟩,h4⟩, ?_⟩,h6⟩, ?_⟩, ?_⟩
 · rw[Wp π fun i hi j hj=>by rw[key i j (lp i hi),key j i (lp j hj)]];exact h5
 · rw[List.all_eq_true]at h7⊢
   intro i hi
   have:=h7 i hi
   rw[List.all_eq_true]at this⊢
   intro j hj
   rw[key i j (ls i hi)];exact this j hj
 · rw[Wp σ fun i hi j hj=>by rw[key j i (ls j hj)]];exact h8
theorem Zg{P:Program}{ops:Array Oper}{s:List AV}{H:Ji}{K:KS}(π:List Nat)(F:List Nat)(D:Option Nat)(σ:List Nat)(m:List Bool)(W:List Nat)(hm:P.follows .mixedOrders=true)(hB:Jel ops π F D σ W=true)
 (h:XY P ops m F D π none s H (swK P ops σ K)):Bk P ops s H K:=Ua π F D σ m hm (Jem hB) h
end Go.Lg
