/- LgZ3, GpMA, GpK, GpMD, GpME, GpMG, GpQ, GpFD, cut to what is needed. -/
import Derived.Test.YtiahmfdabpafoaaDoorGab3
import Derived.Test.YtiahmfdabpafoaaDoorGac9
import Derived.Test.YtiahmfdabpafoaaDoorGac2
import Derived.Test.YtiahmfdabpafoaaDoorGab4
import Derived.Test.YtiahmfdabpafoaaDoorGab6
import Derived.Test.YtiahmfdabpafoaaDoorGac1
import Derived.Test.YtiahmfdabpafoaaDoorGac4
import Derived.Test.YtiahmfdabpafoaaDoorGac3
import Derived.Test.YtiahmfdabpafoaaDoorGac7
open Nat renaming reduceAdd→zA,reduceMul→zM,reduceSub→zS,reduceEqDiff→zE,reduceLeDiff→zL
set_option linter.unusedSimpArgs false
set_option linter.unusedVariables false
set_option maxRecDepth 100000
namespace Go.Lg
mutual
def nzF:FV→FV
 | .nil=> .sl 0 []
 | .sl n cs=> .sl n (nzL cs)
 | .int k n=> .int k n
 | .bool b=> .bool b
 | .str s=> .str s
def nzL:List FV→List FV
 |[]=>[]
 |x::l=>nzF x::nzL l
end
theorem nzL_map:∀l:List FV,nzL l=l.map nzF
 |[]=>rfl
 |x::l=>by rw[nzL,nzL_map l];rfl
theorem nzF_sl(n:Nat)(cs:List FV):nzF (.sl n cs)= .sl n (cs.map nzF):=by rw[nzF,nzL_map]
theorem nzF_sound{w:World}{I:Nat→Prop}{x:FV}{v:Value}(h:VF w I x v):VF w I (nzF x) v:=by
 induction h with
 |int k n=>exact .int k n
 |bool b=>exact .bool b
 |str s=>exact .str s
 |nil=>exact .sl0 none 0
 |sl0 a cap=>rw[nzF_sl];exact .sl0 a cap
 |sl n cs b o cap u hc hI hu hv ih=>
  rw[nzF_sl]
  refine .sl n _ b o cap u hc hI (fun j hj=>hu j (by simpa using hj)) fun j hj=> ?_
  rw[List.getElem_map]
  exact ih j (by simpa using hj)
def frzS(S:Nat→Bool)(H:Heap):Nat→CV→Option FV
 |_, .f x=>some (nzF x)
 |_, .emp=>some (.sl 0 [])
 |n+1, .own id g off k _=>if S id then match look H id g with
  |some b=>(((b.cs.drop off).take (k*b.sz)).mapM (frzS S H n)).map (.sl k)
  |none=>none else none
 |_,_=>none
def Cx.iceS(X:Cx)(S:Nat→Bool)(H:Heap):Cx:={X with I:=fun b=>X.I b∨∃(id:Nat) (blk:Blk),S id=true∧H[id]? =some (some blk)∧X.mu blk.g=b}
def IceC(S:Nat→Bool)(H:Heap)(c c':CV):Prop:=c'=c∨∃y,frzS S H 6 c=some y∧c'= .f y
def IceH(S:Nat→Bool)(H H':Heap):Prop:=∀(id:Nat) (b':Blk),H'[id]? =some (some b')→S id=false∧∃b,H[id]? =some (some b)∧b'.g=b.g∧b'.sz=b.sz∧b'.cs.length=b.cs.length∧∀j (h:j<b.cs.length),∃c',b'.cs[j]? =some c'∧IceC S H b.cs[j] c'
inductive Ice1(S:Nat→Bool)(H:Heap):AV→AV→Prop where
 |c (x y:CV) (h:IceC S H x y):Ice1 S H (.c x) (.c y)
 |agg (xs ys:List CV) (hl:ys.length=xs.length) (h:∀j (h:j<xs.length),∃y,ys[j]? =some y∧IceC S H xs[j] y):Ice1 S H (.agg xs) (.agg ys)
 |s (x:AV):Ice1 S H x x
inductive IceA(S:Nat→Bool)(H:Heap):AV→AV→Prop where
 |o (x y:AV) (h:Ice1 S H x y):IceA S H x y
 |tup (xs ys:List AV) (hl:ys.length=xs.length) (h:∀j (h:j<xs.length),∃y,ys[j]? =some y∧Ice1 S H xs[j] y):IceA S H (.tup xs) (.tup ys)
section
variable{w:World}{X:Cx}{S:Nat→Bool}{H H':Heap}
theorem iceS_ev(hh:IceH S H H'):Ev w X H w (X.iceS S H) H':=
 ⟨fun b hb=>⟨.inl hb,rfl⟩,Nat.le_refl _,fun _ _=>⟨rfl,rfl⟩,Nat.le_refl _,rfl,rfl,rfl,
  fun id g b' _ h=>by
   obtain⟨h1,h2⟩:=look_some h
   obtain⟨_,b,k1,k2,k3,k4,_⟩:=hh id b' h1
   have hg:b.g=g:=by rw[←k2];exact h2
   refine⟨b, ?_,k4.symm,k3.symm⟩
   subst hg
   exact look_of k1,
  fun _ _ _=>rfl,
  fun b ⟨id,blk,h1,h2⟩=>by
   obtain⟨_,b0,k1,k2,_⟩:=hh id blk h1
   exact .inl ⟨id,b0,k1,by rw[←k2];exact h2⟩,
  fun b hb=>hb.elim .inl fun⟨id,blk,_,h1,h2⟩=> .inr (.inl ⟨id,blk,h1,h2⟩)⟩
theorem frzS_sound(R:HRel w X H):∀(n:Nat) (x:CV) (y:FV) (v:Value),frzS S H n x=some y→VC w X H x v→VF w (X.iceS S H).I y v:=by
 intro n
 induction n with
 |zero=>
  intro x y v h hv
  cases x with
  |f x=>simp only[frzS,Option.some.injEq]at h;subst h;exact nzF_sound (VF.wide (fun b hb=> .inl hb) hv)
  |emp=>simp only[frzS,Option.some.injEq]at h;subst h;obtain⟨a,rfl⟩:=hv;exact .sl0 _ _
  |_=>simp[frzS]at h
 |succ n ih=>
  intro x y v h hv
  cases x with
  |f x=>simp only[frzS,Option.some.injEq]at h;subst h;exact nzF_sound (VF.wide (fun b hb=> .inl hb) hv)
  |emp=>simp only[frzS,Option.some.injEq]at h;subst h;obtain⟨a,rfl⟩:=hv;exact .sl0 _ _
  |own id g off k lim=>
   simp only[frzS]at h
   split at h
   rotate_left
   · cases h
   rename_i hS
   split at h
   · rename_i b hl
     cases hf:((b.cs.drop off).take (k*b.sz)).mapM (frzS S H n)with
     |none=>simp[hf]at h
     |some xs=>
      simp[hf]at h
      subst h
      obtain⟨hl1,hl2⟩:=mapM_get hf
      obtain⟨hgt,_,hall⟩:=hv
      obtain⟨c1,a0,cap,rfl,c2,c3,c4,c5⟩:=hall b hl
      obtain⟨hid,hgg⟩:=look_some hl
      subst hgg
      obtain⟨_,_,cc,t,g3,g4,g5,g6⟩:=R.blk id b hid
      have hlen:xs.length=k*b.sz:=by rw[hl1];simp;omega
      have hI:(X.iceS S H).I (X.mu b.g):= .inr ⟨id,b,hS,hid,rfl⟩
      by_cases h0:k*b.sz=0
      · have hx0:xs=[]:=List.eq_nil_of_length_eq_zero (by omega)
        subst hx0
        by_cases hn:k=0
        · subst hn;exact VF.sl0 _ _
        · by_cases hcap:cap=0
          · omega
          · have:=c3 hcap
            subst this
            exact VF.sl k [] (X.mu b.g) off cap (fun _=>undef) c2 hI (fun j hj=>absurd hj (by simp)) (fun j hj=>absurd hj (by simp))
      · have hn:k≠0:=fun h=>h0 (by rw[h];simp)
        have:=c3 (by omega)
        subst this
        have hget:∀j,j<xs.length→∃u,cc[off+j]? =some u∧∀h:j<xs.length,VF w (X.iceS S H).I xs[j] u:=fun j hj=>by
         obtain⟨u,h7,h8⟩:=g6 (off+j) (by omega)
         refine⟨u,h7,fun hj=> ?_⟩
         obtain⟨y,e1,e2⟩:=hl2 j (by rw[←hl1];exact hj)
         have e3:xs[j]=y:=by simpa[List.getElem?_eq_getElem hj]using e1
         rw[e3]
         refine ih _ _ _ e2 ?_
         simp only[List.getElem_take,List.getElem_drop]
         exact h8
        refine VF.sl k xs (X.mu b.g) off cap (fun j=>cc.getD (off+j) undef) c2 hI (fun j hj=> ?_) (fun j hj=> ?_)
        · obtain⟨u,h7,h8⟩:=hget j hj
          simp[World.cell?,g3,Array.getD_eq_getD_getElem?,h7]
        · obtain⟨u,h7,h8⟩:=hget j hj
          simp only[Array.getD_eq_getD_getElem?,h7,Option.getD_some]
          exact h8 hj
   · cases h
  |_=>simp[frzS]at h
theorem iceC_sound(R:HRel w X H)(hh:IceH S H H'){x y:CV}{v:Value}(h:IceC S H x y)(hv:VC w X H x v):VC w (X.iceS S H) H' y v:=by
 rcases h with rfl|⟨z,h1,rfl⟩
 · exact hv.mono (iceS_ev hh)
 · exact frzS_sound R 6 x z v h1 hv
theorem iceS_rel(R:HRel w X H)(hh:IceH S H H'):HRel w (X.iceS S H) H':=
 ⟨fun b hb=>hb.elim (R.imm b) fun⟨id,blk,_,h1,h2⟩=>by
   obtain⟨_,_,cc,t,h3,_⟩:=R.blk id blk h1
   rw[←h2]
   exact(Array.getElem?_eq_some_iff.1 h3).1,
  fun id b' hb=>by
   obtain⟨k0,b,k1,k2,k3,k4,k5⟩:=hh id b' hb
   obtain⟨h1,h2,cc,t,h3,h4,h5,h6⟩:=R.blk id b k1
   rw[k2]
   refine⟨h1,fun hI=>hI.elim h2 fun⟨id2,b2,e1,e2,e3⟩=> ?_,cc,t,h3,h4,by rw[k4];exact h5,fun j hj=> ?_⟩
   · have:=R.inj id2 id b2 b e2 k1 e3
     rw[this,k0]at e1
     cases e1
   · rw[k4]at hj
     obtain⟨u,u1,u2⟩:=h6 j hj
     obtain⟨c',e1,e2⟩:=k5 j hj
     refine⟨u,u1, ?_⟩
     have e3:b'.cs[j]=c':=by
      have:=List.getElem?_eq_some_iff.1 e1
      exact this.2
     rw[e3]
     exact iceC_sound R hh e2 u2,
  fun id id' b b' h1 h2 he=>by
   obtain⟨_,a,k1,k2,_⟩:=hh id b h1
   obtain⟨_,a',k1',k2',_⟩:=hh id' b' h2
   exact R.inj id id' a a' k1 k1' (by rw[←k2,←k2'];exact he),R.tab.mono fun b hb=>⟨.inl hb,rfl⟩⟩
theorem ice1_sound(R:HRel w X H)(hh:IceH S H H'){x y:AV}{v:Value}(h:Ice1 S H x y)(hv:VA w X H x v):VA w (X.iceS S H) H' y v:=by
 cases h with
 |c x y h=>exact .c _ _ (iceC_sound R hh h (va_c hv))
 |agg xs ys hl h=>
  cases hv with
  |agg cs vs hsz hc=>
   refine .agg _ _ (by omega) fun j hj=> ?_
   obtain⟨y,h3,h4⟩:=h j (by omega)
   obtain⟨u,h5,h6⟩:=hc j (by omega)
   have:ys[j]=y:=by simpa[List.getElem?_eq_getElem hj]using h3
   rw[this]
   exact⟨u,h5,iceC_sound R hh h4 h6⟩
 |s x=>exact hv.mono (iceS_ev hh)
theorem iceA_sound(R:HRel w X H)(hh:IceH S H H'){x y:AV}{v:Value}(h:IceA S H x y)(hv:VA w X H x v):VA w (X.iceS S H) H' y v:=by
 cases h with
 |o x y h=>exact ice1_sound R hh h hv
 |tup xs ys hl h=>
  cases hv with
  |tup vs us hus=>
   rw[←hl]
   refine .tup ys us fun j hj=> ?_
   obtain⟨y,h3,h4⟩:=h j (by omega)
   have:ys[j]=y:=by simpa[List.getElem?_eq_getElem hj]using h3
   rw[this]
   exact ice1_sound R hh h4 (hus j (by omega))
end
theorem RunCall.iceS{P:Program}{f:FuncId}{args:List AV}{H:Heap}{Q Q':KV}(h:RunCall P f args H Q')(hq:∀v H',Q' v H'→∃S H'' v',IceH S H' H''∧IceA S H' v v'∧Q v' H''):RunCall P f args H Q:=
 fun w X vs hH hvs=>(h w X vs hH hvs).mono fun _ w' ⟨v,u,X',H',h1,h2,h3,h4,h5⟩=>by
  obtain⟨S,H'',v',k1,k2,k3⟩:=hq v H' h5
  exact⟨v',u,X'.iceS S H',H'',h1,iceA_sound h3 k1 k2 h2,iceS_rel h3 k1,h4.trans (iceS_ev k1),k3⟩
theorem RunC.ice{P:Program}{c:Code}{s:List AV}{H H':Heap}{Q:Exit→St→Prop}(S:Nat→Bool)(hh:IceH S H H')(h:RunC P c ⟨s,H'⟩ Q):RunC P c ⟨s,H⟩ Q:=by
 intro w X a R
 have R':Rel w (X.iceS S H) a ⟨s,H'⟩:=by
  refine⟨R.defs,R.size,fun i hi=> ?_,iceS_rel R.heap hh⟩
  obtain⟨u,h1,h2⟩:=R.slot i hi
  exact⟨u,h1,iceA_sound R.heap hh (.o _ _ (.s _)) h2⟩
 exact wp_mono (h w _ a R') fun e a' w' ⟨X',st',h1,h2,h3⟩=>⟨X',st',h1,(iceS_ev hh).trans h2,h3⟩
theorem iceH_same{S:Nat→Bool}{H H':Heap}(h:∀(id:Nat) (b:Blk),H'[id]? =some (some b)→S id=false∧H[id]? =some (some b)):IceH S H H':=fun id b hb=>
 ⟨(h id b hb).1,b,(h id b hb).2,rfl,rfl,rfl,fun j hj=>⟨b.cs[j],by rw[List.getElem?_eq_getElem hj], .inl rfl⟩⟩
def tailS(n:Nat):Nat→Bool:=fun i=>decide (n≤i)
theorem iceH_take(H:Heap)(n:Nat):IceH (tailS n) H (H.take n):=iceH_same fun id b hb=>by
 rw[List.getElem?_take]at hb
 split at hb
 · rename_i h
   exact⟨by simp only[tailS,decide_eq_false_iff_not];omega,hb⟩
 · cases hb
theorem iceC_f{S:Nat→Bool}{H:Heap}{c:CV}{y:FV}(h:frzS S H 6 c=some y):IceC S H c (.f y):= .inr ⟨y,h,rfl⟩
theorem iceC_s{S:Nat→Bool}{H:Heap}{c:CV}:IceC S H c c:= .inl rfl
theorem ice1_agg3{S:Nat→Bool}{H:Heap}{a b c a' b' c':CV}(h1:IceC S H a a')(h2:IceC S H b b')(h3:IceC S H c c'):Ice1 S H (.agg [a,b,c]) (.agg [a',b',c']):=
 .agg _ _ rfl fun j hj=>by
  match j,hj with
  |0,_=>exact⟨_,rfl,h1⟩
  |1,_=>exact⟨_,rfl,h2⟩
  |2,_=>exact⟨_,rfl,h3⟩
def Fz(S:Nat→Bool)(H:Heap)(n:Nat)(c:CV)(x:FV):Prop:=∀H':Heap,(∀i,S i=true→i<H.length→H'[i]? =H[i]?)→∀m,n≤m→frzS S H' m c=some x
theorem Fz.frz{S:Nat→Bool}{H:Heap}{n:Nat}{c:CV}{x:FV}(h:Fz S H n c x){m:Nat}(hm:n≤m):frzS S H m c=some x:=h H (fun _ _ _=>rfl) m hm
theorem Fz.f{S:Nat→Bool}{H:Heap}{x:FV}(n:Nat):Fz S H n (.f x) (nzF x):=fun H' _ m _=>by cases m<;>rfl
theorem Fz.emp{S:Nat→Bool}{H:Heap}(n:Nat):Fz S H n .emp (.sl 0 []):=fun H' _ m _=>by cases m<;>rfl
theorem Fz.mono{S:Nat→Bool}{H H1:Heap}{n:Nat}{c:CV}{x:FV}(h:Fz S H n c x)(hs:∀i,S i=true→i<H.length→H1[i]? =H[i]?)(hl:H.length≤H1.length):Fz S H1 n c x:=
 fun H' k m hm=>h H' (fun i hi hil=>(k i hi (Nat.lt_of_lt_of_le hil hl)).trans (hs i hi hil)) m hm
theorem Fz.own{S:Nat→Bool}{H:Heap}{n:Nat}{id g k:Nat}{b:Blk}{xs:List FV}{lim:Option Nat}(hS:S id=true)(hl:look H id g=some b)(hlen:xs.length=k*b.sz)(hle:k*b.sz≤b.cs.length)
 (hc:∀j (h:j<xs.length),∃c,b.cs[j]? =some c∧Fz S H n c xs[j]):Fz S H (n+1) (.own id g 0 k lim) (.sl k xs):=fun H' hh m hm=>by
 obtain⟨m,rfl⟩:∃m',m=m'+1:=⟨m -1,by omega⟩
 have hlt:id<H.length:=(List.getElem?_eq_some_iff.1 (look_some hl).1).1
 have hl':look H' id g=some b:=by unfold look at*;rw[hh id hS hlt];exact hl
 simp only[frzS,hS,if_true,hl',List.drop_zero]
 have:∀(cs:List CV) (ys:List FV),cs.length=ys.length→(∀j (h:j<ys.length),∃c,cs[j]? =some c∧frzS S H' m c=some ys[j])→cs.mapM (frzS S H' m)=some ys:=by
  intro cs
  induction cs with
  |nil=>intro ys h _;have:ys=[]:=List.eq_nil_of_length_eq_zero h.symm;subst this;rfl
  |cons c cs ih=>
   intro ys h hall
   cases ys with
   |nil=>simp at h
   |cons y ys=>
    obtain⟨c0,h0,h1⟩:=hall 0 (by simp)
    have:c=c0:=by simpa using h0
    subst this
    rw[List.mapM_cons,h1,ih ys (by simpa using h) fun j hj=>by
     obtain⟨c',q1,q2⟩:=hall (j+1) (by simpa using hj)
     exact⟨c',by simpa using q1,by simpa using q2⟩]
    rfl
 rw[this _ xs (by rw[List.length_take];omega) fun j hj=> ?_]
 · rfl
 · obtain⟨c,h1,h2⟩:=hc j hj
   exact⟨c,by rw[List.getElem?_take_of_lt (by omega)];exact h1,h2 H' hh m (by omega)⟩
def headN:Nat→Code→Code
 |n+1, .seq x y=> .seq x (headN n y)
 |_,_=> .skip
def tailN:Nat→Code→Code
 |n+1, .seq _ y=>tailN n y
 |_,c=>c
theorem headN_zero(c:Code):headN 0 c= .skip:=by cases c<;>rfl
theorem headN_seq(n:Nat)(x y:Code):headN (n+1) (.seq x y)= .seq x (headN n y):=rfl
theorem tailN_zero(c:Code):tailN 0 c=c:=by cases c<;>rfl
theorem tailN_seq(n:Nat)(x y:Code):tailN (n+1) (.seq x y)=tailN n y:=rfl
def midK(R:KS)(K:KT):KT:=fun e s H=>match e with
 | .normal=>R s H
 |e=>K e s H
theorem midK_normal(R:KS)(K:KT)(s:List AV)(H:Heap):midK R K .normal s H=R s H:=propext Iff.rfl
theorem midK_ret(R:KS)(K:KT)(s:List AV)(H:Heap):midK R K .ret s H=K .ret s H:=propext Iff.rfl
theorem midK_exit(R:KS)(K:KT)(i:Nat)(s:List AV)(H:Heap):midK R K (.exit i) s H=K (.exit i) s H:=propext Iff.rfl
theorem RunC.split{P:Program}{R:KS}{K:KT}:∀(n:Nat) (c:Code) (s:List AV) (H:Heap),cw P (headN n c) s H (midK R K)→(∀s H,R s H→RunC P (tailN n c) ⟨s,H⟩ (stK K))→RunC P c ⟨s,H⟩ (stK K)
 |0,c,s,H,h,k=>by
  rw[headN_zero]at h
  rw[←tailN_zero c]
  exact k s H h
 |n+1,c,s,H,h,k=>by
  cases c with
  |seq x y=>
   refine RunC.seq ((cw_sound x s H _ h).mono fun e st hq=> ?_)
   cases e with
   |normal=>exact RunC.split n y st.s st.h hq k
   |_=>exact hq
  |_=>exact k s H h
theorem RunC.cutN{P:Program}{c:Code}{s:List AV}{H:Heap}{K:KT}(n:Nat){α:Type}(ok:α→Prop)(M:α→List Sl)(G:α→Heap)(h:cw P (headN n c) s H (midK (fun s' H'=>∃a,ok a∧Sle s' (mergeS (M a) s)∧HLe H' (G a)) K))
 (k:∀a,ok a→RunC P (tailN n c) ⟨mergeS (M a) s,G a⟩ (stK K)):RunC P c ⟨s,H⟩ (stK K):=
 RunC.split n c s H h fun s' H' ⟨a,ha,hs,hh⟩=>RunC.weaken (st':=⟨mergeS (M a) s,G a⟩) hs.sle hh (k a ha)
theorem RunCall.ofR{P:Program}{f:FuncId}{fn:Func}{c:Code}{args:List AV}{H:Heap}{Q:KV}(hf:P.funcs[f]? =some fn)(hb:fn.body=some c){n:Nat}(hn:fn.ntmps=n){rs:List ResultVar}(hr:fn.results.toList=rs)
 (h:RunC P c ⟨args++List.replicate (n -args.length) .void,H⟩ (stK (doneK P rs Q))):RunCall P f args H Q:=by
 subst hn hr
 exact RunCall.of_body hf hb (h.mono fun e st ⟨h1,v,h2,H',h3,h4⟩=>⟨h1,v,H',h2,h3,h4⟩)
attribute [go_sem] headN_zero headN_seq tailN_zero tailN_seq midK_normal midK_ret midK_exit
theorem OpS.clear{P:Program}{o:Oper}{st:St}{K:AV→Heap→Prop}{t e:TypeId}{ti ei:TI}{x:Operand}{id g off n:Nat}{lim:Option Nat}{b:Blk}
 (ho:o.op= .call ⟨.builtin .clear,#[x],#[t]⟩) (ht:tinf P t=some ti) (hk:ti.k= .slice e) (he:tinf P e=some ei) (hz:ei.zero.length=ei.size)
 (hs:evO st.s x= .c (.own id g off n lim)) (hl:look st.h id g=some b) (hbs:b.sz=ei.size) (hn0:0<n) (hfit:off+n*ei.size≤b.cs.length)
 (hK:K (.tup []) (st.h.set id (some ⟨b.g,b.sz,setRange b.cs off (zerosL (n*ei.size) ei.zero)⟩))):OpS P o st K:=by
 intro w X a R next Q hn
 obtain⟨inf,d,z',i1,i2,i3,i4,i5,i6,i7⟩:=tinf_some ht
 rw[i5]at hk;cases tk_slice hk
 obtain⟨z,hz1,hz2,hz3⟩:=zero_sound he
 have hsv:=evO_sound R x
 rw[hs]at hsv
 obtain⟨hgt,_,hall⟩:=va_c hsv
 obtain⟨c1,a0,cap,hse,c2,c3,c4,c5⟩:=hall b hl
 have ha0:=c3 (by omega)
 subst ha0
 have hz0:n*ei.size≠0→ei.zero.length≠0:=fun h=>by rw[hz];intro h0;rw[h0]at h;exact h (Nat.mul_zero _)
 obtain⟨q1,q2⟩:=zerosL_sound (w:=w) (X:=X) (H:=st.h) hz2 (hz3 w X st.h) (n*ei.size) hz0
 have hone:∀y∈z.cells.toList,y.oneCell'=true:=fun y hy=>by
  obtain⟨j,hj,rfl⟩:=List.mem_iff_getElem.1 hy
  obtain⟨u,h1,h2⟩:=hz3 w X st.h j (by rw[←hz2];simpa using hj)
  have:z.cells.toList[j]=u:=by
   have:=Array.getElem?_eq_some_iff.1 h1
   simpa using this.2
  rw[this]
  exact h2.one
 have hvs:(Builtin.zeroCells z.cells n).toList=((Array.range (n*ei.size)).map (z.cells[· %z.cells.size]!)).toList:=by
  unfold Builtin.zeroCells
  rw[show n*z.cells.size=n*ei.size by rw[hz2,hz]]
 have hlen:((Array.range (n*ei.size)).map (z.cells[· %z.cells.size]!)).toList.length=(zerosL (n*ei.size) ei.zero).length:=by simpa using q1
 have hzl:(zerosL (n*ei.size) ei.zero).length=n*ei.size:=by simp[zerosL]
 obtain⟨w',h4,h5,h6⟩:=put_cells R.heap hl (o:=off) (cs:=zerosL (n*ei.size) ei.zero) (vs:=((Array.range (n*ei.size)).map (z.cells[· %z.cells.size]!)).toList) hlen (by omega)
  (fun j hj=>by obtain⟨u,u1,u2⟩:=q2 j hj;exact⟨u,by rw[Array.getElem?_toList];exact u1,u2⟩) (fun y hy=>by
    obtain⟨j,hj,rfl⟩:=List.mem_iff_getElem.1 hy
    have hj':j<(zerosL (n*ei.size) ei.zero).length:=by rw[←hlen];exact hj
    obtain⟨u,u1,u2⟩:=q2 j hj'
    have:((Array.range (n*ei.size)).map (z.cells[· %z.cells.size]!)).toList[j]=u:=by
     have:=Array.getElem?_eq_some_iff.1 u1
     simpa using this.2
    rw[this]
    exact u2.one)
 have hrun:(execOp a.eval o).run P w= .ok (.value (.tuple #[])) w':=by
  have hm:∀k:Nat,n=k+1→(Builtin.clear_ #[t] o.type #[.slice (some ⟨X.mu g,off,none⟩) n cap]).run P w= .ok (.tuple #[]) w':=fun k hk=>by
   subst hk
   have h4':=h4 P
   simp only[Array.toList_map,Array.toList_range]at h4'
   simp[Builtin.clear_,run_underlying i2,hz1,hvs,h4']
  simp only[execOp,ho,resolve,Sem.run_bind,Sem.run_pure,Result.andThen_ok,invoke,builtin,List.map_toArray,List.map_cons,List.map_nil,hse]
  rw[hm (n -1) (by omega)]
  rfl
 have hv:VA w' X (st.h.set id (some ⟨b.g,b.sz,setRange b.cs off (zerosL (n*ei.size) ei.zero)⟩)) (.tup []) (.tuple #[]):= .tup [] (fun _=>undef) fun j hj=>absurd hj (Nat.not_lt_zero _)
 exact wp_value hrun (hn _ _ _ _ _ hv h5 h6 hK)
end Go.Lg

namespace Go.Lg
open Go.Proofs
def mAt(ms:List Nat)(k:Nat):Nat:=ms.getD k 0
theorem nth_nats(ms:List Nat)(k:Nat):nth (nats ms) k=((mAt ms k:Nat):Int):=by
 unfold nth nats mAt
 rw[Int.toNat_natCast]
 simp only[List.getD,List.getElem?_map]
 by_cases h:k<ms.length
 · rw[List.getElem?_eq_getElem h];rfl
 · rw[List.getElem?_eq_none (by omega)];rfl
theorem nats_len(ms:List Nat):(nats ms).length=ms.length:=by simp[nats]
theorem mAt_over{ms:List Nat}{k:Nat}(h:ms.length≤k):mAt ms k=0:=by
 unfold mAt
 simp[List.getD,List.getElem?_eq_none h]
theorem mAt_mem{ms:List Nat}{k:Nat}(h:k<ms.length):mAt ms k∈ms:=by
 unfold mAt
 simp[List.getD,List.getElem?_eq_getElem h]
structure MsN(ms:List Nat)(n:Nat):Prop where
 len:ms.length=n*n
 val:∀m∈ms,m≤2^(n+1) -2∧m%2=0
theorem MsN.at{ms:List Nat}{n:Nat}(h:MsN ms n)(k:Nat):mAt ms k≤2^(n+1) -2∧mAt ms k%2=0:=by
 by_cases hk:k<ms.length
 · exact h.val _ (mAt_mem hk)
 · rw[mAt_over (by omega)];exact⟨Nat.zero_le _,rfl⟩
theorem pow_n{n:Nat}(hn:n=2∨n=3∨n=4):8≤2^(n+1)∧2^(n+1)≤32:=by rcases hn with rfl|rfl|rfl<;>decide
theorem MsN.lt{ms:List Nat}{n:Nat}(hn:n=2∨n=3∨n=4)(h:MsN ms n)(k:Nat):mAt ms k≤30∧mAt ms k%2=0:=by
 have:=h.at k
 have:=pow_n hn
 omega
theorem MsN.ok{ms:List Nat}{n:Nat}(h:MsN ms n):MasksOk (nats ms) n:=by
 refine⟨by rw[nats_len];exact h.len,fun k hk=> ?_⟩
 have:=h.at k
 rw[nth_nats]
 omega
theorem MsN.set{ms:List Nat}{n k v:Nat}(h:MsN ms n)(hv:v≤2^(n+1) -2∧v%2=0):MsN (ms.set k v) n:=
 ⟨by rw[List.length_set];exact h.len,fun m hm=>by
   rcases List.mem_or_eq_of_mem_set hm with hm|rfl
   · exact h.val m hm
   · exact hv⟩
def onlyV(m:Nat):Nat:=if m=2 then 1 else if m=4 then 2 else if m=8 then 3 else if m=16 then 4 else 0
def clr(o m:Nat):Nat:=o&&&(31^^^m)
def clrL(R:List (Nat×Nat))(ms:List Nat):List Nat:=R.foldl (fun o q=>o.set q.1 (clr (mAt o q.1) q.2)) ms
def sglI(ms:List Nat)(n i:Nat)(c:Nat):List (Nat×Nat):=if c=i then[]else[(c,mAt ms i)]
def sglK(ms:List Nat)(n i k:Nat):List (Nat×Nat):=sglI ms n i (i/n*n+k)++sglI ms n i (k*n+i%n)
def sglA(ms:List Nat)(n i:Nat):List (Nat×Nat):=if onlyV (mAt ms i)=0 then[]else(List.range n).flatMap (sglK ms n i)
def sglM(ms:List Nat)(n:Nat):List Nat:=clrL ((List.range (n*n)).flatMap (sglA ms n)) ms
end Go.Lg

namespace Go.Lg
open Go.Proofs
def filledAt(xs:List Int):List Int:=((List.range xs.length).filter fun i:Nat=>decide (0<nth xs i)).map fun i:Nat=>(i:Int)
def gameOk(g:Gam):Prop:=g.moves.Nodup∧(∀c∈g.moves,c∈filledAt g.put)∧∀c∈filledAt g.put,c∈g.moves∧nth g.task.given c≤0
instance(g:Gam):Decidable (gameOk g):=by unfold gameOk;infer_instance
def eBo(b:Bool):List FV:=[.bool b]
instance:HSz eBo 1:=⟨fun _=>rfl⟩
theorem eBo_0(b:Bool)(d:FV):(eBo b).getD 0 d= .bool b:=rfl
theorem zerosBo(n:Nat):zerosL (n*1) [.f (.bool false)]=cl eBo (List.replicate n false):=by
 simp only[zerosL,Nat.mul_one,List.length_singleton,Nat.mod_one]
 induction n with
 |zero=>rfl
 |succ n ih=>rw[List.range_succ,List.map_append,ih,List.replicate_succ',cl_append];rfl
theorem setBo{xs:List Bool}{e:Int}{v:Bool}(h:0≤e∧e<(xs.length:Int)):setRange (cl eBo xs) (0+e.toNat*1) [.f (.bool v)]=cl eBo (xs.set e.toNat v):=
 setRange_cl (E:=eBo) (by omega)
attribute [go_sem] eBo_0 zerosBo setBo
end Go.Lg

namespace Go.Lg
open Go.Proofs
def lnN(n line k:Nat):Nat:=(nth (lineC n line) k).toNat
theorem lnN_lt{n line k:Nat}(hn:n=2∨n=3∨n=4)(hl:line<2*n)(hk:k<n):lnN n line k<n*n∧nth (lineC n line) k=((lnN n line k:Nat):Int):=by
 obtain⟨h1,h2⟩:=lineC_bound hn hl hk
 unfold lnN
 have:(0:Int)≤nth (lineC n line) k:=h1
 constructor
 · omega
 · omega
def hcnt(ms:List Nat)(n line v:Nat):Nat→Nat×Nat
 |0=>(0,0)
 |k+1=>if(mAt ms (lnN n line k)).testBit v=true then((hcnt ms n line v k).1+1,lnN n line k)else hcnt ms n line v k
def hidV(ms:List Nat)(n line u:Nat):List (Nat×Nat):=if(hcnt ms n line (u+1) n).1=1 then[((hcnt ms n line (u+1) n).2,31^^^2^(u+1))]else[]
def hidA(ms:List Nat)(n line:Nat):List (Nat×Nat):=(List.range n).flatMap (hidV ms n line)
def hidM(ms:List Nat)(n:Nat):List Nat:=clrL ((List.range (2*n)).flatMap (hidA ms n)) ms
end Go.Lg

namespace Go.Lg
open Go.Proofs
def parK(ms:List Nat)(n line i j k:Nat):List (Nat×Nat):=if lnN n line k≠lnN n line i∧lnN n line k≠lnN n line j then[(lnN n line k,mAt ms (lnN n line i))]else[]
def parP(ms:List Nat)(n line i j:Nat):List (Nat×Nat):=if mAt ms (lnN n line i)=mAt ms (lnN n line j)∧(mvals (mAt ms (lnN n line i)) 4).length=2 then(List.range n).flatMap (parK ms n line i j)else[]
def parI(ms:List Nat)(n line i:Nat):List (Nat×Nat):=(List.range (n -(i+1))).flatMap fun t=>parP ms n line i (i+1+t)
def parA(ms:List Nat)(n line:Nat):List (Nat×Nat):=(List.range n).flatMap (parI ms n line)
def parM(ms:List Nat)(n:Nat):List Nat:=clrL ((List.range (2*n)).flatMap (parA ms n)) ms
theorem lnN_inj{n line i j:Nat}(hn:n=2∨n=3∨n=4)(hl:line<2*n)(hi:i<n)(hj:j<n):lnN n line i=lnN n line j↔i=j:=by
 constructor
 · intro h
   unfold lnN at h
   rw[lineC_nth hi,lineC_nth hj]at h
   split at h
   · rcases hn with rfl|rfl|rfl<;>omega
   · rcases hn with rfl|rfl|rfl<;>omega
 · rintro rfl;rfl
end Go.Lg

namespace Go.Lg
open Go.Proofs
def putR(r:Rul)(fd:List Nat)(ms:List Nat)(j:Nat):List Nat:=(List.range j).foldl (fun(o:List Nat) (i:Nat)=>o.set (nth r.cells (i:Int)).toNat (fd.getD i 0)) ms
def rulS(ms:List Nat)(r:Rul):List Nat:=putR r (ruleM r (nats ms)) ms r.cells.length
def rulM(p:Puz)(ms:List Nat):List Nat:=p.rules.foldl rulS ms
def narM(p:Puz)(t:Nat)(ms:List Nat):List Nat:=
 if t=1 then sglM ms p.size.toNat else if t=2 then hidM ms p.size.toNat else if t=3 then parM ms p.size.toNat else rulM p ms
def nextM(p:Puz)(ms:List Nat):Nat:=if narM p 1 ms≠ms then 1 else if narM p 2 ms≠ms then 2 else if narM p 3 ms≠ms then 3 else if narM p 4 ms≠ms then 4 else 0
end Go.Lg

namespace Go.Lg
open Go.Proofs
section
variable{P:Program}{ops:Array Oper}{o:Oper}{s:List AV}{H:Heap}{K:KV}{fo:Operand}{xs:Array Operand}{ts:Array TypeId}{f:FuncId}{args args':List AV}{zs:List Int}
end
structure CpI(B:Heap)(j g:Nat)(size:Int)(given:List Int)(c r:CV)(l:List RO)(S I:List Nat):Prop where
 out:look B j g=some ⟨g,3,[.f (.int .i64 size),c,r]⟩
 rl:(l=[]∧r= .f .nil∧I=S)∨∃id g',r= .own id g' 0 l.length none∧look B id g'=some ⟨g',3,kl kR l⟩∧I=S++id::l.flatMap (·.i)
 cells:∀o∈l,OwnI B o.c o.r.cells o.i
 giv:OwnI B c given S
 nd:I.Nodup
 lt:∀x∈I,2≤x∧x<B.length∧x≠j
theorem CpI.next{B B3:Heap}{j g:Nat}{size:Int}{given:List Int}{c r:CV}{l:List RO}{S I:List Nat}(hC:CpI B j g size given c r l S I)(o:RO){id g':Nat}
 (hI:(l=[]∧I=S∧B.length≤id)∨I=S++id::l.flatMap (·.i)) (hs:∀k∈I,k≠id→B3[k]? =B[k]?) (hlen:B.length≤B3.length)
 (hout:look B3 j g=some ⟨g,3,[.f (.int .i64 size),c, .own id g' 0 (l.length+1) none]⟩) (hid:look B3 id g'=some ⟨g',3,kl kR (l++[o])⟩)
 (ho:OwnI B3 o.c o.r.cells o.i) (hoi:∀k∈o.i,B.length≤k∧k<B3.length∧k≠id∧k≠j) (hi:2≤id∧id<B3.length∧id≠j) (h2:2≤B.length):
 CpI B3 j g size given c (.own id g' 0 (l.length+1) none) (l++[o]) S (S++id::(l++[o]).flatMap (·.i)):=by
 have hJ:(S++id::l.flatMap (·.i)).Nodup∧(∀x∈S++l.flatMap (·.i),x∈I)∧(∀x∈S++l.flatMap (·.i),x≠id):=by
  rcases hI with⟨rfl,rfl,hb⟩|rfl
  · have hne:∀x∈I,x≠id:=fun x hx=>by have:=hC.lt x hx;omega
    refine⟨?_,by simp,by simpa using hne⟩
    simp only[List.flatMap_nil]
    rw[List.nodup_append]
    exact⟨hC.nd,by simp,fun a ha b hb=>by simp at hb;subst hb;exact hne a ha⟩
  · have hn:=hC.nd
    refine⟨hn,fun x hx=> ?_,fun x hx he=> ?_⟩
    · simp only[List.mem_append,List.mem_cons]at hx⊢
      rcases hx with hx|hx
      · exact .inl hx
      · exact .inr (.inr hx)
    · subst he
      rw[List.nodup_append]at hn
      obtain⟨n1,n2,n3⟩:=hn
      rcases List.mem_append.1 hx with hx|hx
      · exact n3 x hx x (by simp) rfl
      · exact(List.nodup_cons.1 n2).1 hx
 obtain⟨hn,hin,hne⟩:=hJ
 have hmem:∀x∈S++id::(l++[o]).flatMap (·.i),x∈S++l.flatMap (·.i)∨x=id∨x∈o.i:=fun x hx=>by
  simp only[List.flatMap_append,List.flatMap_cons,List.flatMap_nil,List.append_nil,List.mem_append,List.mem_cons]at hx⊢
  rcases hx with hx|rfl|hx|hx
  · exact .inl (.inl hx)
  · exact .inr (.inl rfl)
  · exact .inl (.inr hx)
  · exact .inr (.inr hx)
 refine⟨hout, .inr ⟨id,g',by simp,hid,rfl⟩,fun o' ho'=> ?_, ?_, ?_,fun x hx=> ?_⟩
 · rcases List.mem_append.1 ho' with ho'|ho'
   · refine(hC.cells o' ho').same fun k hk=> ?_
     have:k∈S++l.flatMap (·.i):=List.mem_append.2 (.inr (List.mem_flatMap.2 ⟨o',ho',hk⟩))
     exact hs k (hin k this) (hne k this)
   · simp at ho';subst ho';exact ho
 · refine hC.giv.same fun k hk=> ?_
   have:k∈S++l.flatMap (·.i):=List.mem_append.2 (.inl hk)
   exact hs k (hin k this) (hne k this)
 · have e:S++id::(l++[o]).flatMap (·.i)=(S++id::l.flatMap (·.i))++o.i:=by simp
   rw[e,List.nodup_append]
   refine⟨hn,ho.nd,fun a ha b hb he=> ?_⟩
   subst he
   have h4:=hoi a hb
   have:a∈S++l.flatMap (·.i):=by
    simp only[List.mem_append,List.mem_cons]at ha⊢
    rcases ha with ha|ha|ha
    · exact .inl ha
    · exact absurd ha h4.2.2.1
    · exact .inr ha
   have:=hC.lt a (hin a this)
   omega
 · rcases hmem x hx with hx|rfl|hx
   · have:=hC.lt x (hin x hx);omega
   · exact hi
   · have:=hoi x hx;omega
def limN:CV→Prop
 | .own _ _ _ _ lim=>lim=none
 | .f .nil=>True
 |_=>False
def puzQ1(p:Puz):KV:=fun v H=>∃c r S1 S2,v= .agg [.f (.int .i64 p.size),c,r]∧OwnI H c p.given S1∧((r= .f .nil∧p.rules=[]∧S2=[])∨OwnR H r p.rules S2)∧(S1++S2).Nodup∧limN r
theorem CpI.done{B B':Heap}{j g:Nat}{p:Puz}{c r:CV}{l:List RO}{S I:List Nat}(hC:CpI B j g p.size p.given c r l S I)(hm:l.map (·.r)=p.rules)(hs:∀k∈I,B'[k]? =B[k]?):
 puzQ1 p (.agg [.f (.int .i64 p.size),c,r]) B':=by
 rcases hC.rl with⟨rfl,rfl,rfl⟩|⟨id,g',rfl,hid,rfl⟩
 · exact⟨_,_,_,[],rfl,hC.giv.same hs, .inl ⟨rfl,hm.symm,rfl⟩,by rw[List.append_nil];exact hC.nd,trivial⟩
 · refine⟨_,_,_,_,rfl,hC.giv.same fun k hk=>hs k (List.mem_append.2 (.inl hk)), .inr ?_,hC.nd,rfl⟩
   rw[←hm]
   refine OwnR.same (.o id g' none l [] (by rw[List.append_nil];exact hid) hC.cells ?_ (by simp)) fun k hk=>hs k (List.mem_append.2 (.inr hk))
   have:=hC.nd
   rw[List.nodup_append]at this
   exact this.2.1
end Go.Lg

namespace Go.Lg
open Go.Proofs
theorem ext_given(p:Puz):Ext p p.given:=fun k h=>by omega
theorem allS_first{p:Puz}(hv:puzzleValid p=true)(most:Nat):(if fitsL p p.given p.size.toNat=true then(sols p p.size.toNat (p.size.toNat*p.size.toNat) p.given).take most else[])=allS p most:=by
 unfold allS
 by_cases h:fitsL p p.given p.size.toNat=true
 · rw[if_pos h,if_pos ⟨hv,h⟩]
 · rw[if_neg h,if_neg (fun h'=>h h'.2)]
theorem first_all{p:Puz}(hv:puzzleValid p=true)(most:Nat)(hmo:1≤most∧most≤600):Reads Tryd.prog 60 [aP p,ints p.given,int most] (rsl eL (allS p most)):=by
 obtain⟨hp,hz⟩:=PuzN.of hv
 have hg:=GrdN.of hp.hn (xs:=p.given) (by rw[hz];exact puzzleValid_grid' hv)
 have:=firstSolutions_run hp hv most hmo p.given hg (ext_given p)
 rwa [allS_first hv]at this
end Go.Lg
