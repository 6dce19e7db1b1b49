/- LgZ3, GpCA, GpCC, GpCD, GpCE, GpGA, GpDA, GpOE, GpDC, GpDE, cut to what is needed. -/
import Derived.Test.YtiahmfdabpafoaaDoorIab7
import Derived.Test.YtiahmfdabpafoaaDoorIab4
import Derived.Test.YtiahmfdabpafoaaDoorIab2
import Derived.KernelRfl
import Derived.Test.YtiahmfdabpafoaaDoorIab3
import Derived.Test.YtiahmfdabpafoaaDoorIab6
open Nat renaming reduceAdd→zA,reduceMul→zM,reduceSub→zS,reduceEqDiff→zE,reduceLeDiff→zL
set_option linter.unusedSimpArgs false
set_option linter.unusedVariables false
set_option maxRecDepth 100000
namespace Go.Lg
mutual
def nzF:FV→FV
 | .nil=> .sl 0 []
 | .sl n cs=> .sl n (nzL cs)
 | .int k n=> .int k n
 | .bool b=> .bool b
 | .str s=> .str s
def nzL:List FV→List FV
 |[]=>[]
 |x::l=>nzF x::nzL l
end
theorem nzL_map:∀l:List FV,nzL l=l.map nzF
 |[]=>rfl
 |x::l=>by rw[nzL,nzL_map l];rfl
theorem nzF_sl(n:Nat)(cs:List FV):nzF (.sl n cs)= .sl n (cs.map nzF):=by rw[nzF,nzL_map]
theorem nzF_sound{w:World}{I:Nat→Prop}{x:FV}{v:Value}(h:VF w I x v):VF w I (nzF x) v:=by
 induction h with
 |int k n=>exact .int k n
 |bool b=>exact .bool b
 |str s=>exact .str s
 |nil=>exact .sl0 none 0
 |sl0 a cap=>rw[nzF_sl];exact .sl0 a cap
 |sl n cs b o cap u hc hI hu hv ih=>
  rw[nzF_sl]
  refine .sl n _ b o cap u hc hI (fun j hj=>hu j (by simpa using hj)) fun j hj=> ?_
  rw[List.getElem_map]
  exact ih j (by simpa using hj)
def frzS(S:Nat→Bool)(H:Heap):Nat→CV→Option FV
 |_, .f x=>some (nzF x)
 |_, .emp=>some (.sl 0 [])
 |n+1, .own id g off k _=>if S id then match look H id g with
  |some b=>(((b.cs.drop off).take (k*b.sz)).mapM (frzS S H n)).map (.sl k)
  |none=>none else none
 |_,_=>none
def Cx.iceS(X:Cx)(S:Nat→Bool)(H:Heap):Cx:={X with I:=fun b=>X.I b∨∃(id:Nat) (blk:Blk),S id=true∧H[id]? =some (some blk)∧X.mu blk.g=b}
def IceC(S:Nat→Bool)(H:Heap)(c c':CV):Prop:=c'=c∨∃y,frzS S H 6 c=some y∧c'= .f y
def IceH(S:Nat→Bool)(H H':Heap):Prop:=∀(id:Nat) (b':Blk),H'[id]? =some (some b')→S id=false∧∃b,H[id]? =some (some b)∧b'.g=b.g∧b'.sz=b.sz∧b'.cs.length=b.cs.length∧∀j (h:j<b.cs.length),∃c',b'.cs[j]? =some c'∧IceC S H b.cs[j] c'
inductive Ice1(S:Nat→Bool)(H:Heap):AV→AV→Prop where
 |c (x y:CV) (h:IceC S H x y):Ice1 S H (.c x) (.c y)
 |agg (xs ys:List CV) (hl:ys.length=xs.length) (h:∀j (h:j<xs.length),∃y,ys[j]? =some y∧IceC S H xs[j] y):Ice1 S H (.agg xs) (.agg ys)
 |s (x:AV):Ice1 S H x x
inductive IceA(S:Nat→Bool)(H:Heap):AV→AV→Prop where
 |o (x y:AV) (h:Ice1 S H x y):IceA S H x y
 |tup (xs ys:List AV) (hl:ys.length=xs.length) (h:∀j (h:j<xs.length),∃y,ys[j]? =some y∧Ice1 S H xs[j] y):IceA S H (.tup xs) (.tup ys)
section
variable{w:World}{X:Cx}{S:Nat→Bool}{H H':Heap}
theorem iceS_ev(hh:IceH S H H'):Ev w X H w (X.iceS S H) H':=
 ⟨fun b hb=>⟨.inl hb,rfl⟩,Nat.le_refl _,fun _ _=>⟨rfl,rfl⟩,Nat.le_refl _,rfl,rfl,rfl,
  fun id g b' _ h=>by
   obtain⟨h1,h2⟩:=look_some h
   obtain⟨_,b,k1,k2,k3,k4,_⟩:=hh id b' h1
   have hg:b.g=g:=by rw[←k2];exact h2
   refine⟨b, ?_,k4.symm,k3.symm⟩
   subst hg
   exact look_of k1,
  fun _ _ _=>rfl,
  fun b ⟨id,blk,h1,h2⟩=>by
   obtain⟨_,b0,k1,k2,_⟩:=hh id blk h1
   exact .inl ⟨id,b0,k1,by rw[←k2];exact h2⟩,
  fun b hb=>hb.elim .inl fun⟨id,blk,_,h1,h2⟩=> .inr (.inl ⟨id,blk,h1,h2⟩)⟩
theorem frzS_sound(R:HRel w X H):∀(n:Nat) (x:CV) (y:FV) (v:Value),frzS S H n x=some y→VC w X H x v→VF w (X.iceS S H).I y v:=by
 intro n
 induction n with
 |zero=>
  intro x y v h hv
  cases x with
  |f x=>simp only[frzS,Option.some.injEq]at h;subst h;exact nzF_sound (VF.wide (fun b hb=> .inl hb) hv)
  |emp=>simp only[frzS,Option.some.injEq]at h;subst h;obtain⟨a,rfl⟩:=hv;exact .sl0 _ _
  |_=>simp[frzS]at h
 |succ n ih=>
  intro x y v h hv
  cases x with
  |f x=>simp only[frzS,Option.some.injEq]at h;subst h;exact nzF_sound (VF.wide (fun b hb=> .inl hb) hv)
  |emp=>simp only[frzS,Option.some.injEq]at h;subst h;obtain⟨a,rfl⟩:=hv;exact .sl0 _ _
  |own id g off k lim=>
   simp only[frzS]at h
   split at h
   rotate_left
   · cases h
   rename_i hS
   split at h
   · rename_i b hl
     cases hf:((b.cs.drop off).take (k*b.sz)).mapM (frzS S H n)with
     |none=>simp[hf]at h
     |some xs=>
      simp[hf]at h
      subst h
      obtain⟨hl1,hl2⟩:=mapM_get hf
      obtain⟨hgt,_,hall⟩:=hv
      obtain⟨c1,a0,cap,rfl,c2,c3,c4,c5⟩:=hall b hl
      obtain⟨hid,hgg⟩:=look_some hl
      subst hgg
      obtain⟨_,_,cc,t,g3,g4,g5,g6⟩:=R.blk id b hid
      have hlen:xs.length=k*b.sz:=by rw[hl1];simp;omega
      have hI:(X.iceS S H).I (X.mu b.g):= .inr ⟨id,b,hS,hid,rfl⟩
      by_cases h0:k*b.sz=0
      · have hx0:xs=[]:=List.eq_nil_of_length_eq_zero (by omega)
        subst hx0
        by_cases hn:k=0
        · subst hn;exact VF.sl0 _ _
        · by_cases hcap:cap=0
          · omega
          · have:=c3 hcap
            subst this
            exact VF.sl k [] (X.mu b.g) off cap (fun _=>undef) c2 hI (fun j hj=>absurd hj (by simp)) (fun j hj=>absurd hj (by simp))
      · have hn:k≠0:=fun h=>h0 (by rw[h];simp)
        have:=c3 (by omega)
        subst this
        have hget:∀j,j<xs.length→∃u,cc[off+j]? =some u∧∀h:j<xs.length,VF w (X.iceS S H).I xs[j] u:=fun j hj=>by
         obtain⟨u,h7,h8⟩:=g6 (off+j) (by omega)
         refine⟨u,h7,fun hj=> ?_⟩
         obtain⟨y,e1,e2⟩:=hl2 j (by rw[←hl1];exact hj)
         have e3:xs[j]=y:=by simpa[List.getElem?_eq_getElem hj]using e1
         rw[e3]
         refine ih _ _ _ e2 ?_
         simp only[List.getElem_take,List.getElem_drop]
         exact h8
        refine VF.sl k xs (X.mu b.g) off cap (fun j=>cc.getD (off+j) undef) c2 hI (fun j hj=> ?_) (fun j hj=> ?_)
        · obtain⟨u,h7,h8⟩:=hget j hj
          simp[World.cell?,g3,Array.getD_eq_getD_getElem?,h7]
        · obtain⟨u,h7,h8⟩:=hget j hj
          simp only[Array.getD_eq_getD_getElem?,h7,Option.getD_some]
          exact h8 hj
   · cases h
  |_=>simp[frzS]at h
theorem iceC_sound(R:HRel w X H)(hh:IceH S H H'){x y:CV}{v:Value}(h:IceC S H x y)(hv:VC w X H x v):VC w (X.iceS S H) H' y v:=by
 rcases h with rfl|⟨z,h1,rfl⟩
 · exact hv.mono (iceS_ev hh)
 · exact frzS_sound R 6 x z v h1 hv
theorem iceS_rel(R:HRel w X H)(hh:IceH S H H'):HRel w (X.iceS S H) H':=
 ⟨fun b hb=>hb.elim (R.imm b) fun⟨id,blk,_,h1,h2⟩=>by
   obtain⟨_,_,cc,t,h3,_⟩:=R.blk id blk h1
   rw[←h2]
   exact(Array.getElem?_eq_some_iff.1 h3).1,
  fun id b' hb=>by
   obtain⟨k0,b,k1,k2,k3,k4,k5⟩:=hh id b' hb
   obtain⟨h1,h2,cc,t,h3,h4,h5,h6⟩:=R.blk id b k1
   rw[k2]
   refine⟨h1,fun hI=>hI.elim h2 fun⟨id2,b2,e1,e2,e3⟩=> ?_,cc,t,h3,h4,by rw[k4];exact h5,fun j hj=> ?_⟩
   · have:=R.inj id2 id b2 b e2 k1 e3
     rw[this,k0]at e1
     cases e1
   · rw[k4]at hj
     obtain⟨u,u1,u2⟩:=h6 j hj
     obtain⟨c',e1,e2⟩:=k5 j hj
     refine⟨u,u1, ?_⟩
     have e3:b'.cs[j]=c':=by
      have:=List.getElem?_eq_some_iff.1 e1
      exact this.2
     rw[e3]
     exact iceC_sound R hh e2 u2,
  fun id id' b b' h1 h2 he=>by
   obtain⟨_,a,k1,k2,_⟩:=hh id b h1
   obtain⟨_,a',k1',k2',_⟩:=hh id' b' h2
   exact R.inj id id' a a' k1 k1' (by rw[←k2,←k2'];exact he),R.tab.mono fun b hb=>⟨.inl hb,rfl⟩⟩
theorem ice1_sound(R:HRel w X H)(hh:IceH S H H'){x y:AV}{v:Value}(h:Ice1 S H x y)(hv:VA w X H x v):VA w (X.iceS S H) H' y v:=by
 cases h with
 |c x y h=>exact .c _ _ (iceC_sound R hh h (va_c hv))
 |agg xs ys hl h=>
  cases hv with
  |agg cs vs hsz hc=>
   refine .agg _ _ (by omega) fun j hj=> ?_
   obtain⟨y,h3,h4⟩:=h j (by omega)
   obtain⟨u,h5,h6⟩:=hc j (by omega)
   have:ys[j]=y:=by simpa[List.getElem?_eq_getElem hj]using h3
   rw[this]
   exact⟨u,h5,iceC_sound R hh h4 h6⟩
 |s x=>exact hv.mono (iceS_ev hh)
theorem iceA_sound(R:HRel w X H)(hh:IceH S H H'){x y:AV}{v:Value}(h:IceA S H x y)(hv:VA w X H x v):VA w (X.iceS S H) H' y v:=by
 cases h with
 |o x y h=>exact ice1_sound R hh h hv
 |tup xs ys hl h=>
  cases hv with
  |tup vs us hus=>
   rw[←hl]
   refine .tup ys us fun j hj=> ?_
   obtain⟨y,h3,h4⟩:=h j (by omega)
   have:ys[j]=y:=by simpa[List.getElem?_eq_getElem hj]using h3
   rw[this]
   exact ice1_sound R hh h4 (hus j (by omega))
end
theorem RunCall.iceS{P:Program}{f:FuncId}{args:List AV}{H:Heap}{Q Q':KV}(h:RunCall P f args H Q')(hq:∀v H',Q' v H'→∃S H'' v',IceH S H' H''∧IceA S H' v v'∧Q v' H''):RunCall P f args H Q:=
 fun w X vs hH hvs=>(h w X vs hH hvs).mono fun _ w' ⟨v,u,X',H',h1,h2,h3,h4,h5⟩=>by
  obtain⟨S,H'',v',k1,k2,k3⟩:=hq v H' h5
  exact⟨v',u,X'.iceS S H',H'',h1,iceA_sound h3 k1 k2 h2,iceS_rel h3 k1,h4.trans (iceS_ev k1),k3⟩
theorem RunC.ice{P:Program}{c:Code}{s:List AV}{H H':Heap}{Q:Exit→St→Prop}(S:Nat→Bool)(hh:IceH S H H')(h:RunC P c ⟨s,H'⟩ Q):RunC P c ⟨s,H⟩ Q:=by
 intro w X a R
 have R':Rel w (X.iceS S H) a ⟨s,H'⟩:=by
  refine⟨R.defs,R.size,fun i hi=> ?_,iceS_rel R.heap hh⟩
  obtain⟨u,h1,h2⟩:=R.slot i hi
  exact⟨u,h1,iceA_sound R.heap hh (.o _ _ (.s _)) h2⟩
 exact wp_mono (h w _ a R') fun e a' w' ⟨X',st',h1,h2,h3⟩=>⟨X',st',h1,(iceS_ev hh).trans h2,h3⟩
theorem iceH_same{S:Nat→Bool}{H H':Heap}(h:∀(id:Nat) (b:Blk),H'[id]? =some (some b)→S id=false∧H[id]? =some (some b)):IceH S H H':=fun id b hb=>
 ⟨(h id b hb).1,b,(h id b hb).2,rfl,rfl,rfl,fun j hj=>⟨b.cs[j],by rw[List.getElem?_eq_getElem hj], .inl rfl⟩⟩
def tailS(n:Nat):Nat→Bool:=fun i=>decide (n≤i)
theorem iceC_f{S:Nat→Bool}{H:Heap}{c:CV}{y:FV}(h:frzS S H 6 c=some y):IceC S H c (.f y):= .inr ⟨y,h,rfl⟩
theorem iceC_s{S:Nat→Bool}{H:Heap}{c:CV}:IceC S H c c:= .inl rfl
theorem ice1_agg3{S:Nat→Bool}{H:Heap}{a b c a' b' c':CV}(h1:IceC S H a a')(h2:IceC S H b b')(h3:IceC S H c c'):Ice1 S H (.agg [a,b,c]) (.agg [a',b',c']):=
 .agg _ _ rfl fun j hj=>by
  match j,hj with
  |0,_=>exact⟨_,rfl,h1⟩
  |1,_=>exact⟨_,rfl,h2⟩
  |2,_=>exact⟨_,rfl,h3⟩
def Fz(S:Nat→Bool)(H:Heap)(n:Nat)(c:CV)(x:FV):Prop:=∀H':Heap,(∀i,S i=true→i<H.length→H'[i]? =H[i]?)→∀m,n≤m→frzS S H' m c=some x
theorem Fz.frz{S:Nat→Bool}{H:Heap}{n:Nat}{c:CV}{x:FV}(h:Fz S H n c x){m:Nat}(hm:n≤m):frzS S H m c=some x:=h H (fun _ _ _=>rfl) m hm
theorem Fz.f{S:Nat→Bool}{H:Heap}{x:FV}(n:Nat):Fz S H n (.f x) (nzF x):=fun H' _ m _=>by cases m<;>rfl
theorem Fz.emp{S:Nat→Bool}{H:Heap}(n:Nat):Fz S H n .emp (.sl 0 []):=fun H' _ m _=>by cases m<;>rfl
theorem Fz.mono{S:Nat→Bool}{H H1:Heap}{n:Nat}{c:CV}{x:FV}(h:Fz S H n c x)(hs:∀i,S i=true→i<H.length→H1[i]? =H[i]?)(hl:H.length≤H1.length):Fz S H1 n c x:=
 fun H' k m hm=>h H' (fun i hi hil=>(k i hi (Nat.lt_of_lt_of_le hil hl)).trans (hs i hi hil)) m hm
theorem Fz.own{S:Nat→Bool}{H:Heap}{n:Nat}{id g k:Nat}{b:Blk}{xs:List FV}{lim:Option Nat}(hS:S id=true)(hl:look H id g=some b)(hlen:xs.length=k*b.sz)(hle:k*b.sz≤b.cs.length)
 (hc:∀j (h:j<xs.length),∃c,b.cs[j]? =some c∧Fz S H n c xs[j]):Fz S H (n+1) (.own id g 0 k lim) (.sl k xs):=fun H' hh m hm=>by
 obtain⟨m,rfl⟩:∃m',m=m'+1:=⟨m -1,by omega⟩
 have hlt:id<H.length:=(List.getElem?_eq_some_iff.1 (look_some hl).1).1
 have hl':look H' id g=some b:=by unfold look at*;rw[hh id hS hlt];exact hl
 simp only[frzS,hS,if_true,hl',List.drop_zero]
 have:∀(cs:List CV) (ys:List FV),cs.length=ys.length→(∀j (h:j<ys.length),∃c,cs[j]? =some c∧frzS S H' m c=some ys[j])→cs.mapM (frzS S H' m)=some ys:=by
  intro cs
  induction cs with
  |nil=>intro ys h _;have:ys=[]:=List.eq_nil_of_length_eq_zero h.symm;subst this;rfl
  |cons c cs ih=>
   intro ys h hall
   cases ys with
   |nil=>simp at h
   |cons y ys=>
    obtain⟨c0,h0,h1⟩:=hall 0 (by simp)
    have:c=c0:=by simpa using h0
    subst this
    rw[List.mapM_cons,h1,ih ys (by simpa using h) fun j hj=>by
     obtain⟨c',q1,q2⟩:=hall (j+1) (by simpa using hj)
     exact⟨c',by simpa using q1,by simpa using q2⟩]
    rfl
 rw[this _ xs (by rw[List.length_take];omega) fun j hj=> ?_]
 · rfl
 · obtain⟨c,h1,h2⟩:=hc j hj
   exact⟨c,by rw[List.getElem?_take_of_lt (by omega)];exact h1,h2 H' hh m (by omega)⟩
def headN:Nat→Code→Code
 |n+1, .seq x y=> .seq x (headN n y)
 |_,_=> .skip
def tailN:Nat→Code→Code
 |n+1, .seq _ y=>tailN n y
 |_,c=>c
theorem headN_zero(c:Code):headN 0 c= .skip:=by cases c<;>rfl
theorem headN_seq(n:Nat)(x y:Code):headN (n+1) (.seq x y)= .seq x (headN n y):=rfl
theorem tailN_zero(c:Code):tailN 0 c=c:=by cases c<;>rfl
theorem tailN_seq(n:Nat)(x y:Code):tailN (n+1) (.seq x y)=tailN n y:=rfl
def midK(R:KS)(K:KT):KT:=fun e s H=>match e with
 | .normal=>R s H
 |e=>K e s H
theorem midK_normal(R:KS)(K:KT)(s:List AV)(H:Heap):midK R K .normal s H=R s H:=propext Iff.rfl
theorem midK_ret(R:KS)(K:KT)(s:List AV)(H:Heap):midK R K .ret s H=K .ret s H:=propext Iff.rfl
theorem midK_exit(R:KS)(K:KT)(i:Nat)(s:List AV)(H:Heap):midK R K (.exit i) s H=K (.exit i) s H:=propext Iff.rfl
theorem RunC.split{P:Program}{R:KS}{K:KT}:∀(n:Nat) (c:Code) (s:List AV) (H:Heap),cw P (headN n c) s H (midK R K)→(∀s H,R s H→RunC P (tailN n c) ⟨s,H⟩ (stK K))→RunC P c ⟨s,H⟩ (stK K)
 |0,c,s,H,h,k=>by
  rw[headN_zero]at h
  rw[←tailN_zero c]
  exact k s H h
 |n+1,c,s,H,h,k=>by
  cases c with
  |seq x y=>
   refine RunC.seq ((cw_sound x s H _ h).mono fun e st hq=> ?_)
   cases e with
   |normal=>exact RunC.split n y st.s st.h hq k
   |_=>exact hq
  |_=>exact k s H h
attribute [go_sem] headN_zero headN_seq tailN_zero tailN_seq midK_normal midK_ret midK_exit
theorem OpS.clear{P:Program}{o:Oper}{st:St}{K:AV→Heap→Prop}{t e:TypeId}{ti ei:TI}{x:Operand}{id g off n:Nat}{lim:Option Nat}{b:Blk}
 (ho:o.op= .call ⟨.builtin .clear,#[x],#[t]⟩) (ht:tinf P t=some ti) (hk:ti.k= .slice e) (he:tinf P e=some ei) (hz:ei.zero.length=ei.size)
 (hs:evO st.s x= .c (.own id g off n lim)) (hl:look st.h id g=some b) (hbs:b.sz=ei.size) (hn0:0<n) (hfit:off+n*ei.size≤b.cs.length)
 (hK:K (.tup []) (st.h.set id (some ⟨b.g,b.sz,setRange b.cs off (zerosL (n*ei.size) ei.zero)⟩))):OpS P o st K:=by
 intro w X a R next Q hn
 obtain⟨inf,d,z',i1,i2,i3,i4,i5,i6,i7⟩:=tinf_some ht
 rw[i5]at hk;cases tk_slice hk
 obtain⟨z,hz1,hz2,hz3⟩:=zero_sound he
 have hsv:=evO_sound R x
 rw[hs]at hsv
 obtain⟨hgt,_,hall⟩:=va_c hsv
 obtain⟨c1,a0,cap,hse,c2,c3,c4,c5⟩:=hall b hl
 have ha0:=c3 (by omega)
 subst ha0
 have hz0:n*ei.size≠0→ei.zero.length≠0:=fun h=>by rw[hz];intro h0;rw[h0]at h;exact h (Nat.mul_zero _)
 obtain⟨q1,q2⟩:=zerosL_sound (w:=w) (X:=X) (H:=st.h) hz2 (hz3 w X st.h) (n*ei.size) hz0
 have hone:∀y∈z.cells.toList,y.oneCell'=true:=fun y hy=>by
  obtain⟨j,hj,rfl⟩:=List.mem_iff_getElem.1 hy
  obtain⟨u,h1,h2⟩:=hz3 w X st.h j (by rw[←hz2];simpa using hj)
  have:z.cells.toList[j]=u:=by
   have:=Array.getElem?_eq_some_iff.1 h1
   simpa using this.2
  rw[this]
  exact h2.one
 have hvs:(Builtin.zeroCells z.cells n).toList=((Array.range (n*ei.size)).map (z.cells[· %z.cells.size]!)).toList:=by
  unfold Builtin.zeroCells
  rw[show n*z.cells.size=n*ei.size by rw[hz2,hz]]
 have hlen:((Array.range (n*ei.size)).map (z.cells[· %z.cells.size]!)).toList.length=(zerosL (n*ei.size) ei.zero).length:=by simpa using q1
 have hzl:(zerosL (n*ei.size) ei.zero).length=n*ei.size:=by simp[zerosL]
 obtain⟨w',h4,h5,h6⟩:=put_cells R.heap hl (o:=off) (cs:=zerosL (n*ei.size) ei.zero) (vs:=((Array.range (n*ei.size)).map (z.cells[· %z.cells.size]!)).toList) hlen (by omega)
  (fun j hj=>by obtain⟨u,u1,u2⟩:=q2 j hj;exact⟨u,by rw[Array.getElem?_toList];exact u1,u2⟩) (fun y hy=>by
    obtain⟨j,hj,rfl⟩:=List.mem_iff_getElem.1 hy
    have hj':j<(zerosL (n*ei.size) ei.zero).length:=by rw[←hlen];exact hj
    obtain⟨u,u1,u2⟩:=q2 j hj'
    have:((Array.range (n*ei.size)).map (z.cells[· %z.cells.size]!)).toList[j]=u:=by
     have:=Array.getElem?_eq_some_iff.1 u1
     simpa using this.2
    rw[this]
    exact u2.one)
 have hrun:(execOp a.eval o).run P w= .ok (.value (.tuple #[])) w':=by
  have hm:∀k:Nat,n=k+1→(Builtin.clear_ #[t] o.type #[.slice (some ⟨X.mu g,off,none⟩) n cap]).run P w= .ok (.tuple #[]) w':=fun k hk=>by
   subst hk
   have h4':=h4 P
   simp only[Array.toList_map,Array.toList_range]at h4'
   simp[Builtin.clear_,run_underlying i2,hz1,hvs,h4']
  simp only[execOp,ho,resolve,Sem.run_bind,Sem.run_pure,Result.andThen_ok,invoke,builtin,List.map_toArray,List.map_cons,List.map_nil,hse]
  rw[hm (n -1) (by omega)]
  rfl
 have hv:VA w' X (st.h.set id (some ⟨b.g,b.sz,setRange b.cs off (zerosL (n*ei.size) ei.zero)⟩)) (.tup []) (.tuple #[]):= .tup [] (fun _=>undef) fun j hj=>absurd hj (Nat.not_lt_zero _)
 exact wp_value hrun (hn _ _ _ _ _ hv h5 h6 hK)
end Go.Lg

namespace Go.Lg
open Go.Proofs
def RdAt(H:Heap)(id g:Nat)(B:Int):Prop:=∃(sz:Nat) (b:List Int) (p:Int),look H id g=some ⟨g,sz,[.f (.sl b.length (fl (eI .u8) b)), .f (.int .i64 p)]⟩∧b.length≤2000∧(∀x∈b,0≤x∧x≤255)∧0≤p∧p≤B
theorem RdAt.mono{H:Heap}{id g:Nat}{B B':Int}(h:RdAt H id g B)(hb:B≤B'):RdAt H id g B':=by
 obtain⟨sz,b,p,h1,h2,h3,h4,h5⟩:=h
 exact⟨sz,b,p,h1,h2,h3,h4,by omega⟩
theorem RdAt.same{H H':Heap}{id g:Nat}{B:Int}(h:RdAt H id g B)(hs:H'[id]? =H[id]?):RdAt H' id g B:=by
 obtain⟨sz,b,p,h1,h2⟩:=h
 exact⟨sz,b,p,by unfold look at*;rw[hs];exact h1,h2⟩
theorem RdAt.lt{H:Heap}{id g:Nat}{B:Int}(h:RdAt H id g B):id<H.length:=by
 obtain⟨sz,b,p,h1,_⟩:=h
 exact(List.getElem?_eq_some_iff.1 (look_some h1).1).1
theorem look_set_eq'{H:Heap}{id g sz:Nat}{cs:List CV}(h:id<H.length):look (H.set id (some ⟨g,sz,cs⟩)) id g=some ⟨g,sz,cs⟩:=look_of (b:=⟨g,sz,cs⟩) (by rw[List.getElem?_set_self h])
theorem RdAt.take{H:Heap}{id g n:Nat}{B:Int}(h:RdAt H id g B)(hn:id<n):RdAt (H.take n) id g B:=h.same (by rw[List.getElem?_take_of_lt hn])
theorem RdAt.app{H X:Heap}{id g:Nat}{B:Int}(h:RdAt H id g B):RdAt (H++X) id g B:=h.same (by rw[List.getElem?_append_left h.lt])
theorem Frm.last{H H2:Heap}{id sz gb:Nat}{cs:List CV}(f:Frm (H++[some ⟨gb,sz,cs⟩]) H2 [id])(hid:id<H.length):Lg.look H2 H.length gb=some ⟨gb,sz,cs⟩:=by
 rw[f.look (by simp;omega)];exact look_last
end Go.Lg

namespace Go.Lg
open Go.Proofs
theorem nth_setN(l:List Int)(i:Nat)(v:Int)(k:Nat)(h:i<l.length):nth (l.set i v) (k:Int)=if k=i then v else nth l k:=by
 rw[nth_set _ _ _ _ h (by omega)]
 by_cases hk:k=i
 · rw[if_pos (by omega),if_pos hk]
 · rw[if_neg (by omega),if_neg hk]
end Go.Lg

namespace Go.Lg
open Go.Proofs
attribute [-go_sem] appendM lenO
theorem sliceOf_of'{P:Program}{t e:TypeId}{ti ei:TI}(ht:tinf P t=some ti)(hk:ti.k= .slice e)(he:tinf P e=some ei):sliceOf P t=some ei:=by
 unfold sliceOf;simp only[ht,hk,he]
end Go.Lg

namespace Go.Lg
open Go.Proofs
section
variable{P:Program}{o:Oper}{st:St}{K:KV}{fo:Operand}{xs:Array Operand}{ts:Array TypeId}{f:FuncId}{args args':List AV}{zs:List Int}
end
def GrdAt(H HI:Heap)(id g:Nat)(B:Int)(cid cg n2:Nat):Prop:=(∃zs:List Int,look HI cid cg=some ⟨cg,1,cl (eI .i64) zs⟩∧n2≤zs.length)∧RdAt HI id g B∧id<H.length∧H.length≤cid∧H.length≤HI.length∧∀k,k<H.length→k≠id→HI[k]? =H[k]?
theorem GrdAt.mono{H HI:Heap}{id g cid cg n2:Nat}{B B':Int}(h:GrdAt H HI id g B cid cg n2)(hb:B≤B'):GrdAt H HI id g B' cid cg n2:=by
 obtain⟨h1,h2,h3⟩:=h
 exact⟨h1,h2.mono hb,h3⟩
theorem GrdAt.pick{H HI H2:Heap}{id g cid cg n2:Nat}{B B':Int}(h:GrdAt H HI id g B cid cg n2)(hr:RdAt H2 id g B')(hf:Frm HI H2 [id]):GrdAt H H2 id g B' cid cg n2:=by
 obtain⟨⟨zs,h1,h2⟩,_,h3,h4,h5,h6⟩:=h
 refine⟨⟨zs,by rw[hf.look (by simp;omega)];exact h1,h2⟩,hr,h3,h4,by rw[hf.1];exact h5,fun k hk hne=> ?_⟩
 rw[hf.2 k (by simp;exact hne),h6 k hk hne]
theorem GrdAt.store{H HI:Heap}{id g cid cg n2:Nat}{B:Int}(h:GrdAt H HI id g B cid cg n2){zs:List Int}(hz:n2≤zs.length):GrdAt H (HI.set cid (some ⟨cg,1,cl (eI .i64) zs⟩)) id g B cid cg n2:=by
 obtain⟨⟨_,h1,_⟩,h2,h3,h4,h5,h6⟩:=h
 have hlt:cid<HI.length:=(List.getElem?_eq_some_iff.1 (look_some h1).1).1
 refine⟨⟨zs,look_set_eq' hlt,hz⟩,h2.same (by rw[List.getElem?_set_ne (by omega)]),h3,h4,by simpa using h5,fun k hk hne=> ?_⟩
 rw[List.getElem?_set_ne (by omega),h6 k hk hne]
theorem GrdAt.app{H HI X:Heap}{id g cid cg n2:Nat}{B:Int}(h:GrdAt H HI id g B cid cg n2):GrdAt H (HI++X) id g B cid cg n2:=by
 obtain⟨⟨zs,h1,h2⟩,h3,h4,h5,h6,h7⟩:=h
 refine⟨⟨zs,look_appL h1,h2⟩,h3.app,h4,h5,by rw[List.length_append];omega,fun k hk hne=> ?_⟩
 rw[List.getElem?_append_left (by omega),h7 k hk hne]
theorem frz_view{H:Heap}{id g off n:Nat}{lim:Option Nat}{zs:List Int}(h:look H id g=some ⟨g,1,cl (eI .i64) zs⟩)(hn:off+n≤zs.length):frzC H (.own id g off n lim)=some (.f (fints ((zs.drop off).take n))):=by
 have e:((cl (eI .i64) zs).drop off).take (n*1)=cl (eI .i64) ((zs.drop off).take n):=by
  have e1:(cl (eI .i64) zs).drop off=cl (eI .i64) (zs.drop off):=by
   have:=List.take_append_drop off zs
   conv=>lhs;rw[←this,cl_append]
   rw[List.drop_append_of_le_length (by rw[cl_length];simp;omega),List.drop_of_length_le (by rw[cl_length];simp;omega),List.nil_append]
  rw[e1,Nat.mul_one]
  have:=List.take_append_drop n (zs.drop off)
  conv=>lhs;rw[←this,cl_append]
  rw[List.take_append_of_le_length (by rw[cl_length];simp;omega),List.take_of_length_le (by rw[cl_length];simp;omega)]
 have hl:((zs.drop off).take n).length=n:=by simp;omega
 simp only[frzC,frz,h,e,frz_cl,Option.map_some]
 rw[show fints ((zs.drop off).take n)= .sl ((zs.drop off).take n).length (fl (eI .i64) ((zs.drop off).take n))from rfl,hl]
end Go.Lg

namespace Go.Lg
open Go.Proofs
attribute [-go_sem] appendM
inductive OwnL{α:Type}(E:α→List FV)(n:Nat)(H:Heap):CV→List α→Prop where
 |n:OwnL E n H (.f .nil) []
 |m:OwnL E n H .emp []
 |o (id g:Nat) (xs:List α) (h:look H id g=some ⟨g,n,cl E xs⟩):OwnL E n H (.own id g 0 xs.length none) xs
def idsC:CV→Nat→Prop
 | .own id _ _ _ _,k=>k=id
 |_,_=>False
section
variable{α:Type}{E:α→List FV}{n:Nat}{H H':Heap}{c:CV}{xs ys:List α}
theorem OwnL.same(h:OwnL E n H c xs)(hs:∀i,idsC c i→i<H.length→H'[i]? =H[i]?):OwnL E n H' c xs:=by
 cases h with
 |n=>exact .n
 |m=>exact .m
 |o id g xs h=>exact .o id g xs (by unfold look at*;rw[hs id rfl (List.getElem?_eq_some_iff.1 (look_some h).1).1];exact h)
theorem OwnL.lt(h:OwnL E n H c xs):∀i,idsC c i→i<H.length:=by
 cases h with
 |n=>exact fun i hi=>hi.elim
 |m=>exact fun i hi=>hi.elim
 |o id g xs h=>intro i hi;cases hi;exact(List.getElem?_eq_some_iff.1 (look_some h).1).1
theorem OwnL.app(h:OwnL E n H c xs):OwnL E n (H++H') c xs:=h.same fun i _ hl=>List.getElem?_append_left hl
theorem OwnL.snap[HSz E n](h:OwnL E n H c xs):snapD H (.c c)=some (rsl E xs):=by
 cases h with
 |n=>rfl
 |m=>rfl
 |o id g xs h=>
  have e:(cl E xs).take (xs.length*n)=cl E xs:=List.take_of_length_le (Nat.le_of_eq (cl_length xs))
  simp only[snapD,Lg.frzC,Lg.frz,h,List.drop_zero,e,frz_cl,Option.map_some]
theorem OwnL.frzC[HSz E n](h:OwnL E n H c xs):frzC H c=some (.f (fsl E xs)):=by
 have:=h.snap
 simp only[snapD,Option.map_eq_some_iff]at this
 obtain⟨y,h1,h2⟩:=this
 cases h2
 exact h1
theorem OwnL.len(P:Program)(h:OwnL E n H c xs){s:List AV}{t:TypeId}{ei:TI}(ht:sliceOf P t=some ei)(hs:ei.size=n):True:=trivial
end
theorem nzF_ints{k:IntKind}(xs:List Int):(fl (eI k) xs).map nzF=fl (eI k) xs:=by
 induction xs with
 |nil=>rfl
 |cons x xs ih=>
  show nzF _::(fl (eI k) xs).map nzF=_
  rw[ih];rfl
theorem nzF_rules(rs:List Rul):(fl eR rs).map nzF=fl eR rs:=by
 induction rs with
 |nil=>rfl
 |cons x xs ih=>
  show[nzF _,nzF _,nzF _]++(fl eR xs).map nzF=_
  rw[ih,fints,nzF_sl,nzF_ints];rfl
theorem frzS_cells{S:Nat→Bool}{H:Heap}{n:Nat}:∀(l:List FV),(l.map CV.f).mapM (frzS S H n)=some (l.map nzF)
 |[]=>rfl
 |x::l=>by
  rw[List.map_cons,List.mapM_cons,frzS_cells l]
  cases n<;>rfl
theorem OwnL.frzS{S:Nat→Bool}{H:Heap}{c:CV}{rs:List Rul}(h:OwnL eR 3 H c rs)(hs:∀i,idsC c i→S i=true)(m:Nat):frzS S H (m+1) c=some (fsl eR rs):=by
 cases h with
 |n=>rfl
 |m=>rfl
 |o id g xs h=>
  have e:(cl eR rs).take (rs.length*3)=cl eR rs:=List.take_of_length_le (Nat.le_of_eq (cl_length rs))
  simp only[Lg.frzS,hs id rfl,if_true,h,List.drop_zero,e]
  rw[show cl eR rs=(fl eR rs).map CV.f from rfl,frzS_cells,nzF_rules]
  rfl
theorem frzS_view{S:Nat→Bool}{H:Heap}{id g off n:Nat}{lim:Option Nat}{zs:List Int}(h:look H id g=some ⟨g,1,cl (eI .i64) zs⟩)(hs:S id=true)(hn:off+n≤zs.length)(m:Nat):Lg.frzS S H (m+1) (.own id g off n lim)=some (fints ((zs.drop off).take n)):=by
 have hv:=frz_view (lim:=lim) h hn
 have hl:((zs.drop off).take n).length=n:=by simp;omega
 simp only[frzC,frz,h,Option.map_map,Option.map_eq_some_iff]at hv
 obtain⟨l,h1,h2⟩:=hv
 simp only[Lg.frzS,hs,if_true,h]
 have e:((cl (eI .i64) zs).drop off).take (n*1)=cl (eI .i64) ((zs.drop off).take n):=by
  have e1:(cl (eI .i64) zs).drop off=cl (eI .i64) (zs.drop off):=by
   have:=List.take_append_drop off zs
   conv=>lhs;rw[←this,cl_append]
   rw[List.drop_append_of_le_length (by rw[cl_length];simp;omega),List.drop_of_length_le (by rw[cl_length];simp;omega),List.nil_append]
  rw[e1,Nat.mul_one]
  have:=List.take_append_drop n (zs.drop off)
  conv=>lhs;rw[←this,cl_append]
  rw[List.take_append_of_le_length (by rw[cl_length];simp;omega),List.take_of_length_le (by rw[cl_length];simp;omega)]
 rw[e,show cl (eI .i64) ((zs.drop off).take n)=(fl (eI .i64) ((zs.drop off).take n)).map CV.f from rfl,frzS_cells,nzF_ints,Option.map_some]
 rw[show fints ((zs.drop off).take n)= .sl ((zs.drop off).take n).length (fl (eI .i64) ((zs.drop off).take n))from rfl,hl]
theorem appendM_L{α:Type}{E:α→List FV}{n:Nat}[HSz E n]{P:Program}{H:Heap}{t:TypeId}{ei:TI}{K:KV}(ht:sliceOf P t=some ei)(hz:ei.zero.length=ei.size∧ei.size=n∧0<n∧ei.bytes≤64){c:CV}{xs:List α}(h:OwnL E n H c xs)(hx:xs.length≤2^40)
 {sid sg:Nat} {lim:Option Nat} {v:α} (hl:look H sid sg=some ⟨sg,n,(E v).map CV.f⟩)
 (hk:∀c' H',OwnL E n H' c' (xs++[v])→(∀k,k<H.length→¬idsC c k→H'[k]? =H[k]?)→(∀k,idsC c' k→idsC c k∨k=H.length)→H.length≤H'.length→(∀k,idsC c' k→k<H'.length)→K (.c c') H'):
 appendM P H t (.c c) (.c (.own sid sg 0 1 lim)) K:=by
 obtain⟨hz1,rfl,hz3,hz4⟩:=hz
 have hE:((E v).map CV.f).length=ei.size:=by rw[List.length_map];exact HSz.sz v
 have htk:(((E v).map CV.f).drop 0).take (1*ei.size)=(E v).map CV.f:=by rw[List.drop_zero,Nat.one_mul,List.take_of_length_le (by omega)]
 have e1:cl E [v]=(E v).map CV.f:=by simp[cl,fl]
 have hb:∀k:Nat,k≤2^40→(k+1)*ei.bytes≤140737488355328:=fun k hk=>by
  have:(k+1)*ei.bytes≤(k+1)*64:=Nat.mul_le_mul_left _ hz4
  omega
 have hel:elems H ei.size (.c (.own sid sg 0 1 lim))=some (1,(E v).map CV.f):=by
  simp only[elems,hl,htk,if_true]
 unfold appendM
 cases h with
 |n=>
  simp only[ht,hz1,if_true,hel]
  simp only[elems,appM,okP,newM]
  refine⟨⟨by omega,by have:=hb 0 (by omega);omega⟩,fun g'=> ?_⟩
  have:=OwnL.o (E:=E) (n:=ei.size) (H:=H++[some ⟨g',ei.size,(E v).map CV.f⟩]) H.length g' [v] (by rw[e1];exact look_last)
  exact hk _ _ this (fun k hk _=>List.getElem?_append_left hk) (fun k hk=> .inr hk) (by simp) (fun k hk=>by cases hk;simp)
 |m=>
  simp only[ht,hz1,if_true,hel]
  simp only[elems,appM,okP,newM]
  refine⟨⟨by omega,by have:=hb 0 (by omega);omega⟩,fun g'=> ?_⟩
  have:=OwnL.o (E:=E) (n:=ei.size) (H:=H++[some ⟨g',ei.size,(E v).map CV.f⟩]) H.length g' [v] (by rw[e1];exact look_last)
  exact hk _ _ this (fun k hk _=>List.getElem?_append_left hk) (fun k hk=> .inr hk) (by simp) (fun k hk=>by cases hk;simp)
 |o id g xs hl2=>
  have hlt:id<H.length:=(List.getElem?_eq_some_iff.1 (look_some hl2).1).1
  have hcl:(cl E xs).length=xs.length*ei.size:=cl_length xs
  have hel2:elems H ei.size (.c (.own id g 0 xs.length none))=some (xs.length,cl E xs):=by
   simp only[elems,hl2,List.drop_zero,if_true,List.take_of_length_le (Nat.le_of_eq hcl)]
  simp only[ht,hz1,if_true,hel,hel2]
  simp only[appM,hl2,hcl,if_true,okP]
  refine⟨⟨by first|trivial|omega,hz3,trivial,by omega,hb _ hx⟩,fun g'=> ?_⟩
  have:=OwnL.o (E:=E) (n:=ei.size) (H:=H.set id (some ⟨g',ei.size,cl E xs++(E v).map CV.f⟩)) id g' (xs++[v]) (by rw[cl_append,e1];exact look_set_eq' hlt)
  rw[List.length_append]at this
  exact hk _ _ this (fun k _ hk=>by rw[List.getElem?_set_ne (fun h=>hk h.symm)]) (fun k hk=> .inl hk) (by simp) (fun k hk=>by cases hk;simpa using hlt)
theorem elems_f{α:Type}{E:α→List FV}{n:Nat}[HSz E n]{H:Heap}{ys:List α}:elems H n (.c (.f (fsl E ys)))=some (ys.length,cl E ys):=by
 have:(fl E ys).length=ys.length*n:=fl_length ys
 simp only[elems]
 first|rfl|simp[this,cl]
end Go.Lg

namespace Go.Lg
open Go.Proofs
def clear(p:Puz)(xs:List Int):Bool:=decide (∀k:Nat,k<xs.length→¬(0<nth p.given k∧0<nth xs k∧nth xs k≠nth p.given k))
end Go.Lg

namespace Go.Lg
attribute [-go_sem] appendM
inductive OwnE(H:Heap):CV→List Int→List Nat→Prop where
 |m:OwnE H .emp [] []
 |o (id g:Nat) (xs:List Int) (h:look H id g=some ⟨g,1,cl (eI .i64) xs⟩):OwnE H (.own id g 0 xs.length none) xs [id]
theorem OwnE.frzC{H:Heap}{c:CV}{xs:List Int}{S:List Nat}(h:OwnE H c xs S):Lg.frzC H c=some (.f (fints xs)):=by
 cases h with
 |m=>rfl
 |o id g xs h=>exact(OwnI.o id g none xs [] (by rw[List.append_nil];exact h)).frzC
theorem OwnE.same{H H':Heap}{c:CV}{xs:List Int}{S:List Nat}(h:OwnE H c xs S)(hs:∀i∈S,H'[i]? =H[i]?):OwnE H' c xs S:=by
 cases h with
 |m=>exact .m
 |o id g xs h=>exact .o id g xs (by unfold look at*;rw[hs id (by simp)];exact h)
theorem OwnE.shift{H0 H:Heap}{c:CV}{xs:List Int}{S:List Nat}(h:OwnE H c xs S):OwnE (H0++shiftH H0.length H) (shiftC H0.length c) xs (S.map (· +H0.length)):=by
 cases h with
 |m=>exact .m
 |o id g xs h=>
  refine .o (id+H0.length) g xs ?_
  rw[look_shiftH h]
  simp only[shiftB,shift_cl]
theorem OwnE.lt{H:Heap}{c:CV}{xs:List Int}{S:List Nat}(h:OwnE H c xs S):∀i∈S,i<H.length:=by
 cases h with
 |m=>simp
 |o id g xs h=>intro i hi;have:i=id:=by simpa using hi
               subst this;exact(List.getElem?_eq_some_iff.1 (look_some h).1).1
theorem OwnE.nd{H:Heap}{c:CV}{xs:List Int}{S:List Nat}(h:OwnE H c xs S):S.Nodup:=by cases h<;>simp
theorem OwnE.inv{H:Heap}{c:CV}{xs:List Int}{S:List Nat}(h:OwnE H c xs S)(hn:xs≠[]):∃id g,c= .own id g 0 xs.length none∧S=[id]∧look H id g=some ⟨g,1,cl (eI .i64) xs⟩:=by
 cases h with
 |m=>exact absurd rfl hn
 |o id g xs h=>exact⟨id,g,rfl,rfl,h⟩
end Go.Lg

namespace Go.Lg
open Go.Proofs
attribute [-go_sem] appendM lwF_cons
def nats(o:List Nat):List Int:=o.map fun(x:Nat)=>(x:Int)
theorem look_set_ne'{H:Heap}{id j g:Nat}{x:Option Blk}(h:id≠j):look (H.set id x) j g=look H j g:=by
 unfold look;rw[List.getElem?_set_ne h]
theorem resV_none(P:Program)(s:List AV)(H:Heap):resV P s H []=some (.tup []):=rfl
attribute [go_sem] resV_none
end Go.Lg

namespace Go.Lg
open Go.Proofs
def MasksOk(ms:List Int)(n:Nat):Prop:=ms.length=n*n∧∀k:Nat,k<ms.length→0≤nth ms k∧nth ms k≤((2^(n+1) -2:Nat):Int)∧nth ms k%2=0
end Go.Lg
