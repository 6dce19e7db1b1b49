/- LgP, cut to what is needed. -/
import Derived.Test.YtidekghnkifbjaaGreatDoorJea3
open List renaming getElem?_append_left → Ja, getElem?_eq_some_iff → Jh, getElem?_eq_getElem → Jq, getElem?_append_right → J3, mem_map → Qj, length_map → Qs, getElem?_map → Qv
open Nat renaming reduceAdd→zA,reduceMul→zM,reduceSub→zS,reduceEqDiff→zE,reduceLeDiff→zL
set_option linter.unusedSimpArgs false
set_option linter.unusedVariables false
namespace Go.Lg
abbrev KV:=AV→Jm→Prop
def isQ(v:AV):KV:=fun r _=>r=v
def JW(P:Program)(f:FuncId)(args:List AV)(v:AV):Prop:=Jn P f args [] (isQ v)
theorem JZ.mono{P:Program}{o:Oper}{st:St}{K K':AV→Jm→Prop}(h:JZ P o st K)(hk:∀v H,K v H→K' v H):JZ P o st K':=
 fun w X a R next Q hn=>h w X a R next Q fun v u X' H' w' h1 h2 h3 h4=>hn v u X' H' w' h1 h2 h3 (hk _ _ h4)
def frz(H:Jm):Nat→CV→Option FV
 |_, .f x=>some x
 |_, .emp=>some (.sl 0 [])
 |n+1, .own id g off k _=>match look H id g with
  |some b=>(((b.cs.drop off).take (k*b.sz)).mapM (frz H n)).map (.sl k)
  |none=>none
 |_,_=>none
def frzC(H:Jm):CV→Option CV
 | .nilp=>some .nilp
 | .nilf=>some .nilf
 | .fp cs off=>some (.fp cs off)
 | .f .nil=>some (.f (.sl 0 []))
 |x=>(frz H 6 x).map .f
def Xw(H:Jm):AV→Option AV
 | .c x=>(frzC H x).map .c
 | .agg cs=>(cs.mapM (frzC H)).map .agg
 | .void=>some .void
 |_=>none
def Vu(H:Jm):AV→Option AV
 | .tup vs=>(vs.mapM (Xw H)).map .tup
 |v=>Xw H v
def Cx.ice(X:Cx)(H:Jm):Cx:={X with I:=fun b=>X.I b∨Kc X H b}
theorem JfK{w:World}{X:Cx}{H:Jm}(R:ZL w X H):ZL w (X.ice H) []:=
 ⟨fun b hb=>hb.elim (R.imm b) fun⟨id,blk,h1,h2⟩=>by
   obtain⟨_,_,cc,t,h3,_⟩:=R.blk id blk h1
   rw[←h2]
   exact(Array.getElem?_eq_some_iff.1 h3).1,fun id b hb=>by simp at hb,fun id id' b b' hb=>by simp at hb,R.tab.mono fun b hb=>⟨.inl hb,rfl⟩⟩
theorem Jmm{w:World}{X:Cx}{H:Jm}:Ev w X H w (X.ice H) []:=
 ⟨fun b hb=>⟨.inl hb,rfl⟩,Nat.le_refl _,fun _ _=>⟨rfl,rfl⟩,Nat.le_refl _,rfl,rfl,rfl,fun id g b' _ h=>by simp[look]at h,fun _ _ _=>rfl,
  fun b ⟨id,blk,h1,_⟩=>by simp at h1,fun b hb=>hb.elim .inl fun h=> .inr (.inl h)⟩
theorem Jhc{w:World}{X:Cx}{H:Jm}(R:ZL w X H):∀(n:Nat) (x:CV) (y:FV) (v:Value),frz H n x=some y→VC w X H x v→VF w (X.ice H).I y v:=by
 intro n
 induction n with
 |zero=>
  intro x y v h hv
  cases x with
  |f x=>simp only[frz,Option.some.injEq]at h;subst h;exact VF.wide (fun b hb=> .inl hb) hv
  |emp=>simp only[frz,Option.some.injEq]at h;subst h;obtain⟨a,rfl⟩:=hv;exact .sl0 _ _
  |_=>simp[frz]at h
 |succ n ih=>
  intro x y v h hv
  cases x with
  |f x=>simp only[frz,Option.some.injEq]at h;subst h;exact VF.wide (fun b hb=> .inl hb) hv
  |emp=>simp only[frz,Option.some.injEq]at h;subst h;obtain⟨a,rfl⟩:=hv;exact .sl0 _ _
  |own id g off k lim=>
   simp only[frz]at h
   split at h
   · rename_i b hl
     cases hf:((b.cs.drop off).take (k*b.sz)).mapM (frz H n)with
     |none=>simp[hf]at h
     |some xs=>
      simp[hf]at h
      subst h
      obtain⟨hl1,hl2⟩:=Uh hf
      obtain⟨hgt,_,hall⟩:=hv
      obtain⟨c1,a0,cap,rfl,c2,c3,c4,c5⟩:=hall b hl
      obtain⟨hid,hgg⟩:=JG hl
      subst hgg
      obtain⟨_,_,cc,t,g3,g4,g5,g6⟩:=R.blk id b hid
      have hlen:xs.length=k*b.sz:=by rw[hl1];simp;omega
      have hI:(X.ice H).I (X.mu b.g):= .inr ⟨id,b,hid,rfl⟩
      by_cases h0:k*b.sz=0
      · have hx0:xs=[]:=List.eq_nil_of_length_eq_zero (by omega)
        subst hx0
        by_cases hn:k=0
        · subst hn;exact VF.sl0 _ _
        · by_cases hcap:cap=0
          · omega
          · have:=c3 hcap
            subst this
            exact VF.sl k [] (X.mu b.g) off cap (fun _=>undef) c2 hI (fun j hj=>absurd hj (by simp)) (fun j hj=>absurd hj (by simp))
      · have hn:k≠0:=fun h=>h0 (by rw[h];simp)
        have:=c3 (by omega)
        subst this
        have hget:∀j,j<xs.length→∃u,cc[off+j]? =some u∧∀h:j<xs.length,VF w (X.ice H).I xs[j] u:=fun j hj=>by
         obtain⟨u,h7,h8⟩:=g6 (off+j) (by omega)
         refine⟨u,h7,fun hj=> ?_⟩
         obtain⟨y,e1,e2⟩:=hl2 j (by rw[←hl1];exact hj)
         have e3:xs[j]=y:=by simpa[Jq hj]using e1
         rw[e3]
         refine ih _ _ _ e2 ?_
         simp only[List.getElem_take,List.getElem_drop]
         exact h8
        refine VF.sl k xs (X.mu b.g) off cap (fun j=>cc.getD (off+j) undef) c2 hI (fun j hj=> ?_) (fun j hj=> ?_)
        · obtain⟨u,h7,h8⟩:=hget j hj
          simp[World.cell?,g3,Array.getD_eq_getD_getElem?,h7]
        · obtain⟨u,h7,h8⟩:=hget j hj
          simp only[Array.getD_eq_getD_getElem?,h7,Option.getD_some]
          exact h8 hj
   · cases h
  |_=>simp[frz]at h
theorem RX{w:World}{X:Cx}{H:Jm}(R:ZL w X H){x y:CV}{v:Value}(h:frzC H x=some y)(hv:VC w X H x v):VC w (X.ice H) [] y v:=by
 have go:∀{x:CV},(frz H 6 x).map CV.f=some y→VC w X H x v→VC w (X.ice H) [] y v:=by
  intro x h hv
  cases hf:frz H 6 x with
  |none=>simp[hf]at h
  |some z=>simp[hf]at h;subst h;exact Jhc R 6 x z v hf hv
 unfold frzC at h
 split at h
 · cases h;exact hv
 · cases h;exact hv
 · cases h
   obtain⟨b,o,h1,h2,h3⟩:=hv
   exact⟨b,o,h1, .inl h2,h3.mono (fun b hb=>⟨.inl hb,rfl⟩) h2⟩
 · cases h
   have hv:VF w X.I .nil v:=hv
   cases hv
   exact VF.sl0 none 0
 · exact go h hv
theorem NP{w:World}{X:Cx}{H:Jm}(R:ZL w X H){x y:AV}{v:Value}(h:Xw H x=some y)(hv:VA w X H x v):VA w (X.ice H) [] y v:=by
 unfold Xw at h
 split at h
 · rename_i x
   cases hs:frzC H x with
   |none=>simp[hs]at h
   |some z=>simp[hs]at h;subst h;exact .c _ _ (RX R hs (Uy hv))
 · rename_i cs
   cases hs:cs.mapM (frzC H)with
   |none=>simp[hs]at h
   |some z=>
    simp[hs]at h;subst h
    obtain⟨h1,h2⟩:=Uh hs
    cases hv with
    |agg cs vs hsz hc=>
     refine .agg _ _ (by omega) fun j hj=> ?_
     obtain⟨y,h3,h4⟩:=h2 j (by omega)
     obtain⟨u,h5,h6⟩:=hc j (by omega)
     have:z[j]=y:=by simpa[Jq hj]using h3
     rw[this]
     exact⟨u,h5,RX R h4 h6⟩
 · cases h;cases hv;exact .void
 · cases h
theorem NO{w:World}{X:Cx}{H:Jm}(R:ZL w X H){x y:AV}{v:Value}(h:Vu H x=some y)(hv:VA w X H x v):VA w (X.ice H) [] y v:=by
 unfold Vu at h
 split at h
 · rename_i vs
   cases hs:vs.mapM (Xw H)with
   |none=>simp[hs]at h
   |some z=>
    simp[hs]at h;subst h
    obtain⟨h1,h2⟩:=Uh hs
    cases hv with
    |tup vs us hus=>
     rw[←h1]
     refine .tup z us fun j hj=> ?_
     obtain⟨y,h3,h4⟩:=h2 j (by omega)
     have:z[j]=y:=by simpa[Jq hj]using h3
     rw[this]
     exact NP R h4 (hus j (by omega))
 · exact NP R h hv
theorem Jn.freeze{P:Program}{f:FuncId}{args:List AV}{H:Jm}{Q Q':KV}(h:Jn P f args H Q')(hq:∀v H',Q' v H'→∃v',Vu H' v=some v'∧Q v' []):Jn P f args H Q:=
 fun w X vs hH hvs=>(h w X vs hH hvs).mono fun _ w' ⟨v,u,X',H',h1,h2,h3,h4,h5⟩=>by
  obtain⟨v',k1,k2⟩:=hq v H' h5
  exact⟨v',u,X'.ice H',[],h1,NO h3 k1 h2,JfK h3,h4.trans Jmm,k2⟩
theorem JW.ice{P:Program}{f:FuncId}{args:List AV}{Q:KV}{v:AV}(h:Jn P f args [] Q)(hq:∀r H',Q r H'→Vu H' r=some v):JW P f args v:=
 Jn.freeze h fun r H' hr=>⟨v,hq r H' hr,rfl⟩
def iceQ(v:AV):KV:=fun r H'=>Vu H' r=some v
theorem JW.iced{P:Program}{f:FuncId}{args:List AV}{v:AV}(h:Jn P f args [] (iceQ v)):JW P f args v:=JW.ice h fun _ _ h=>h
def nzC:CV→CV
 | .f .nil=> .f (.sl 0 [])
 |x=>x
def nz1:AV→AV
 | .c x=> .c (nzC x)
 | .agg cs=> .agg (cs.map nzC)
 |x=>x
def nzA:AV→AV
 | .tup vs=> .tup (vs.map nz1)
 |x=>nz1 x
theorem Ja4{w:World}{X:Cx}{H:Jm}{x:CV}{v:Value}(h:VC w X H x v):VC w X H (nzC x) v:=by
 unfold nzC
 split
 · have h:VF w X.I .nil v:=h
   cases h
   exact VF.sl0 none 0
 · exact h
theorem Yf{w:World}{X:Cx}{H:Jm}{x:AV}{v:Value}(h:VA w X H x v):VA w X H (nz1 x) v:=by
 cases h with
 |c x v h=>exact .c _ _ (Ja4 h)
 |agg cs vs hs h=>
  refine .agg _ _ (by simp[hs]) fun j hj=> ?_
  obtain⟨u,h1,h2⟩:=h j (by simpa using hj)
  exact⟨u,h1,by simpa using Ja4 h2⟩
 |tup vs us h=>exact .tup vs us h
 |void=>exact .void
 |any v=>exact .any v
theorem JgC{w:World}{X:Cx}{H:Jm}{x:AV}{v:Value}(h:VA w X H x v):VA w X H (nzA x) v:=by
 cases x with
 |tup vs=>
  cases h with
  |tup vs us hus=>
   have:=VA.tup (w:=w) (X:=X) (H:=H) (vs.map nz1) us fun j hj=>by
    have hj':j<vs.length:=by simpa using hj
    simp only[List.getElem_map]
    exact Yf (hus j hj')
   rw[Qs]at this
   exact this
 |c x=>exact Yf h
 |agg cs=>exact Yf h
 |void=>exact Yf h
 |any=>exact Yf h
def nzQ(Q:KV):KV:=fun v H=>Q (nzA v) H
theorem Jn.nz{P:Program}{f:FuncId}{args:List AV}{H:Jm}{Q:KV}(h:Jn P f args H (nzQ Q)):Jn P f args H Q:=
 fun w X vs hH hvs=>(h w X vs hH hvs).mono fun _ _ ⟨v,u,X',H',h1,h2,h3,h4,h5⟩=>⟨nzA v,u,X',H',h1,JgC h2,h3,h4,h5⟩
def Uf(k:Nat):CV→CV
 | .ptr id g off=> .ptr (id+k) g off
 | .own id g off n lim=> .own (id+k) g off n lim
 | .fn f caps=> .fn f (caps.map fun c=>(c.1+k,c.2))
 |x=>x
def ZJ(k:Nat)(b:Zv):Zv:=⟨b.g,b.sz,b.cs.map (Uf k)⟩
def Q7(k:Nat)(H:Jm):Jm:=H.map (Option.map (ZJ k))
def shift1(k:Nat):AV→AV
 | .c x=> .c (Uf k x)
 | .agg cs=> .agg (cs.map (Uf k))
 |x=>x
def WO(k:Nat):AV→AV
 | .tup vs=> .tup (vs.map (shift1 k))
 |x=>shift1 k x
def Kl:AV→Bool
 | .tup vs=>vs.all fun v=>match v with| .tup _=>false|_=>true
 |_=>true
theorem RR{H H':Jm}{id g:Nat}{b:Zv}(h:look (H++Q7 H.length H') (id+H.length) g=some b):∃b',look H' id g=some b'∧b=ZJ H.length b':=by
 obtain⟨h1,h2⟩:=JG h
 rw[J3 (by omega),Nat.add_sub_cancel]at h1
 simp only[Q7,Qv,Option.map_eq_some_iff]at h1
 obtain⟨ob,h3,h4⟩:=h1
 obtain⟨b',h5,h6⟩:=h4
 subst h5
 refine⟨b', ?_,h6.symm⟩
 have:=J8 h3
 rw[←h6]at h2
 simp only[ZJ]at h2
 rw[←h2]
 exact this
theorem VC.shift{w:World}{X:Cx}{H H':Jm}{x:CV}{v:Value}(h:VC w X H' x v):VC w X (H++Q7 H.length H') (Uf H.length x) v:=by
 cases x with
 |f x=>exact h
 |fp cs off=>exact h
 |nilp=>exact h
 |nilf=>exact h
 |emp=>exact h
 |ptr id g off=>
  obtain⟨h1,h2,h3⟩:=h
  refine⟨h1,h2,fun hl=> ?_⟩
  obtain⟨b,hb⟩:=Option.isSome_iff_exists.1 hl
  obtain⟨b',hb',_⟩:=RR hb
  exact h3 (by rw[hb'];rfl)
 |own id g off n lim=>
  obtain⟨h1,h2,h3⟩:=h
  refine⟨h1,h2,fun b hb=> ?_⟩
  obtain⟨b',hb',rfl⟩:=RR hb
  have:=h3 b' hb'
  simpa[ZJ]using this
 |fn f caps=>
  obtain⟨h1,h2,h3⟩:=h
  refine⟨fun c hc=> ?_,h2,fun hl=> ?_⟩
  · obtain⟨c',hc',rfl⟩:=Qj.1 hc
    exact h1 c' hc'
  · rw[h3 fun c hc=> ?_]
    · simp
    · have:=hl (c.1+H.length,c.2) (Qj.2 ⟨c,hc,rfl⟩)
      obtain⟨b,hb⟩:=Option.isSome_iff_exists.1 this
      obtain⟨b',hb',_⟩:=RR hb
      rw[hb'];rfl
theorem VA.shift1{w:World}{X:Cx}{H H':Jm}{x:AV}{v:Value}(h:VA w X H' x v)(ht:∀vs,x≠ .tup vs):VA w X (H++Q7 H.length H') (shift1 H.length x) v:=by
 cases h with
 |c x v h=>exact .c _ _ h.shift
 |agg cs vs hs h=>
  refine .agg _ _ (by simp[hs]) fun j hj=> ?_
  obtain⟨u,h1,h2⟩:=h j (by simpa using hj)
  exact⟨u,h1,by simpa using h2.shift⟩
 |tup vs us h=>exact absurd rfl (ht vs)
 |void=>exact .void
 |any v=>exact .any v
theorem VA.shift{w:World}{X:Cx}{H H':Jm}{x:AV}{v:Value}(h:VA w X H' x v)(ht:Kl x=true):VA w X (H++Q7 H.length H') (WO H.length x) v:=by
 cases x with
 |tup vs=>
  cases h with
  |tup vs us h=>
   have:=VA.tup (w:=w) (X:=X) (H:=H++Q7 H.length H') (vs.map (Lg.shift1 H.length)) us fun j hj=>by
    have hj':j<vs.length:=by simpa using hj
    simp only[List.getElem_map]
    refine(h j hj').shift1 fun ws he=> ?_
    have:=List.all_eq_true.1 ht vs[j] (List.getElem_mem hj')
    rw[he]at this
    cases this
   rw[Qs]at this
   exact this
 |c x=>exact h.shift1 (by simp)
 |agg cs=>exact h.shift1 (by simp)
 |void=>exact h.shift1 (by simp)
 |any=>exact h.shift1 (by simp)
def XP:CV→Bool
 | .f _| .fp _ _| .nilp| .nilf| .emp| .fn _ []=>true
 |_=>false
def Q2:AV→Bool
 | .c x=>XP x
 | .agg cs=>cs.all XP
 | .void| .any=>true
 |_=>false
theorem Ru{w:World}{X:Cx}{H H':Jm}{x:CV}{v:Value}(h:VC w X H x v)(hf:XP x=true):VC w X H' x v:=by
 unfold XP at hf
 split at hf
 · exact h
 · exact h
 · exact h
 · exact h
 · exact h
 · exact⟨by simp,h.2.1,fun _=>by simpa using h.2.2 (by simp)⟩
 · cases hf
theorem Rv{w:World}{X:Cx}{H H':Jm}{x:AV}{v:Value}(h:VA w X H x v)(hf:Q2 x=true):VA w X H' x v:=by
 cases h with
 |c x v h=>exact .c _ _ (Ru h hf)
 |agg cs vs hs h=>
  refine .agg _ _ hs fun j hj=> ?_
  obtain⟨u,h1,h2⟩:=h j hj
  exact⟨u,h1,Ru h2 (List.all_eq_true.1 hf _ (List.getElem_mem hj))⟩
 |tup vs us h=>cases hf
 |void=>exact .void
 |any v=>exact .any v
theorem Jn.frame{P:Program}{f:FuncId}{args:List AV}{H:Jm}{Q:KV}(hf:args.all Q2=true)(h:Jn P f args [] Q)(ht:∀r H',Q r H'→Kl r=true):
 Jn P f args H fun r H2=>∃r' H',Q r' H'∧r=WO H.length r'∧H2=H++Q7 H.length H':=by
 intro w X vs hH hvs
 have R0:ZL w X []:=⟨hH.imm,fun id b hb=>by simp at hb,fun id id' b b' hb=>by simp at hb,hH.tab⟩
 refine(h w X vs R0 ⟨hvs.1,fun i hi=> ?_⟩).mono fun e w' ⟨v,u,X',H',h1,h2,h3,h4,h5⟩=> ?_
 · obtain⟨u,h1,h2⟩:=hvs.2 i hi
   exact⟨u,h1,Rv h2 (List.all_eq_true.1 hf _ (List.getElem_mem hi))⟩
 · have no:∀b,¬Kc X [] b:=fun b ⟨id,blk,h,_⟩=>by simp at h
   have hge:∀(id:Nat) (b:Zv),H'[id]? =some (some b)→X.t≤b.g:=fun id b hb=>by
    rcases Nat.lt_or_ge b.g X.t with hlt|hge
    · obtain⟨b',hb',_⟩:=h4.sub id b.g b hlt (J8 hb)
      simp[look]at hb'
    · exact hge
   have hnew:∀(id:Nat) (b:Zv),H'[id]? =some (some b)→w.heap.size≤X'.mu b.g:=fun id b hb=>
    (h4.own _ ⟨id,b,hb,rfl⟩).elim (fun h=>absurd h (no _)) fun h=>h
   have hsplit:∀(id:Nat) (b:Zv),(H++Q7 H.length H')[id]? =some (some b)→(H[id]? =some (some b))∨∃id' b',id=id'+H.length∧H'[id']? =some (some b')∧b=ZJ H.length b':=by
    intro id b hb
    by_cases hlt:id<H.length
    · rw[Ja hlt]at hb;exact .inl hb
    · rw[J3 (by omega)]at hb
      simp only[Q7,Qv,Option.map_eq_some_iff]at hb
      obtain⟨ob,k1,b',k2,k3⟩:=hb
      subst k2
      exact .inr ⟨id -H.length,b',by omega,k1,k3.symm⟩
   have E:Ev w X H w' X' (H++Q7 H.length H'):=by
    refine⟨h4.imm,h4.t,h4.mu,h4.size,h4.os,h4.tape,h4.output, ?_,fun b hb _=>h4.frame b hb (no b), ?_,fun b hb=>(h4.inI b hb).elim .inl fun h=>h.elim (fun h=>absurd h (no b)) fun h=> .inr (.inr h)⟩
    · intro id g b hg hl
      obtain⟨k1,k2⟩:=JG hl
      rcases hsplit id b k1 with hb|⟨id',b',rfl,hb',rfl⟩
      · exact⟨b,by rw[←k2];exact J8 hb,rfl,rfl⟩
      · have:=hge id' b' hb'
        simp only[ZJ]at k2
        omega
    · rintro b ⟨id,blk,k1,k2⟩
      rcases hsplit id blk k1 with hb|⟨id',b',rfl,hb',rfl⟩
      · refine .inl ⟨id,blk,hb, ?_⟩
        rw[←k2,(h4.mu blk.g (hH.blk id blk hb).1).1]
      · right
        rw[←k2]
        exact hnew id' b' hb'
   have old:∀(id:Nat) (b:Zv),H[id]? =some (some b)→X.mu b.g<w.heap.size∧X'.mu b.g=X.mu b.g:=fun id b hb=>by
    obtain⟨g1,_,cc,t,g3,_⟩:=hH.blk id b hb
    exact⟨(Array.getElem?_eq_some_iff.1 g3).1,(h4.mu b.g g1).1⟩
   refine⟨_,u,X',_,h1,h2.shift (ht _ _ h5),⟨h3.imm,fun id b hb=> ?_,fun id id' b b' hb hb' heq=> ?_,h3.tab⟩,E,v,H',h5,rfl,rfl⟩
   · rcases hsplit id b hb with hb|⟨id',b',rfl,hb',rfl⟩
     · obtain⟨g1,g2,cc,t,g3,g4,g5,g6⟩:=hH.blk id b hb
       obtain⟨o1,o2⟩:=old id b hb
       refine⟨Nat.lt_of_lt_of_le g1 h4.t,fun hI=> ?_,cc,t, ?_, ?_,g5,fun j hj=> ?_⟩
       · rw[o2]at hI
         rcases h4.inI _ hI with h|h|h
         · exact g2 h
         · exact no _ h
         · omega
       · rw[o2,h4.frame _ o1 (no _)];exact g3
       · rw[(h4.mu b.g g1).2];exact g4
       · obtain⟨u,k1,k2⟩:=g6 j hj
         exact⟨u,k1,k2.mono E⟩
     · obtain⟨g1,g2,cc,t,g3,g4,g5,g6⟩:=h3.blk id' b' hb'
       refine⟨g1,g2,cc,t,g3,g4,by simpa[ZJ]using g5,fun j hj=> ?_⟩
       obtain⟨u,k1,k2⟩:=g6 j (by simpa[ZJ]using hj)
       refine⟨u,k1, ?_⟩
       simp only[ZJ,List.getElem_map]
       exact k2.shift
   · rcases hsplit id b hb with hb|⟨i,c,rfl,hc,rfl⟩<;>rcases hsplit id' b' hb' with hb'|⟨i',c',rfl,hc',rfl⟩
     · obtain⟨_,o2⟩:=old id b hb
       obtain⟨_,o2'⟩:=old id' b' hb'
       exact hH.inj _ _ _ _ hb hb' (by rw[←o2,←o2'];exact heq)
     · obtain⟨o1,o2⟩:=old id b hb
       have:=hnew i' c' hc'
       simp only[ZJ]at heq
       omega
     · obtain⟨o1,o2⟩:=old id' b' hb'
       have:=hnew i c hc
       simp only[ZJ]at heq
       omega
     · have:=h3.inj _ _ _ _ hc hc' heq
       omega
theorem Jn.weaker{P:Program}{f:FuncId}{args:List AV}{H:Jm}{Q Q':KV}(h:Jn P f args H Q)(hq:∀v H',Q v H'→∃H2,J0 H' H2∧Q' v H2):Jn P f args H Q':=
 fun w X vs hH hvs=>(h w X vs hH hvs).mono fun _ _ ⟨v,u,X',H',h1,h2,h3,h4,h5⟩=>by
  obtain⟨H2,k1,k2⟩:=hq v H' h5
  exact⟨v,u,X',H2,h1,h2.mono k1.ev,k1.rel h3,h4.trans k1.ev,k2⟩
theorem J0.app(H H':Jm):J0 (H++H') H:=fun id b hb=>by
 rw[Ja (Jh.1 hb).1];exact hb
theorem Jf9{H:Jm}{f:FuncId}:VX H (.c (.fn f []))=some (f,[]):=by simp[VX]
theorem W7{st:St}{fo:Operand}{xs:Array Operand}{f:FuncId}{args:List AV}(h:Qc st fo xs=some (f,args)):VX st.h (QY st.s fo)=some (f,[])∧xs.toList.map (QY st.s)++[]=args:=by
 unfold Qc at h
 split at h
 · rename_i f' e
   cases h
   rw[e]
   exact⟨Jf9,by simp⟩
 · cases h
theorem JZ.mkQ{P:Program}{o:Oper}{st:St}{K:KV}{fo:Operand}{xs:Array Operand}{ts:Array TypeId}{f:FuncId}{args:List AV}{Q:KV}
 (hc:Jn P f args [] Q) (he:Ji P f) (ho:o.op= .call ⟨.value fo,xs,ts⟩) (ha:Qc st fo xs=some (f,args)) (hf:args.all Q2=true)
 (hk:∀r H',Q r H'→Kl r=true∧K (WO st.h.length r) (st.h++Q7 st.h.length H')):JZ P o st K:=by
 obtain⟨h1,h2⟩:=W7 ha
 refine JZ.call ho h1 he ?_
 rw[h2]
 refine(Jn.frame hf hc fun r H' h=>(hk r H' h).1).mono ?_
 rintro r H2 ⟨r',H',h3,rfl,rfl⟩
 exact(hk _ _ h3).2
theorem JZ.run{P:Program}{o:Oper}{st:St}{K:KV}{fo:Operand}{xs:Array Operand}{ts:Array TypeId}{f:FuncId}{args:List AV}{Q:KV}
 (hc:Jn P f args st.h Q) (he:Ji P f) (ho:o.op= .call ⟨.value fo,xs,ts⟩) (ha:Qc st fo xs=some (f,args)) (hk:∀r H',Q r H'→K r H'):JZ P o st K:=by
 obtain⟨h1,h2⟩:=W7 ha
 refine JZ.call ho h1 he ?_
 rw[h2]
 exact hc.mono hk
theorem JZ.mk{P:Program}{o:Oper}{st:St}{K:KV}{fo:Operand}{xs:Array Operand}{ts:Array TypeId}{f:FuncId}{args:List AV}{v:AV}
 (hc:JW P f args v) (he:Ji P f) (ho:o.op= .call ⟨.value fo,xs,ts⟩) (ha:Qc st fo xs=some (f,args)) (hf:args.all Q2=true)
 (ht:Kl v=true) (hv:WO st.h.length v=v) (hk:K v st.h):JZ P o st K:=by
 obtain⟨h1,h2⟩:=W7 ha
 refine JZ.call ho h1 he ?_
 rw[h2]
 refine(Jn.frame hf hc fun r H' h=>by rw[h];exact ht).weaker ?_
 rintro r H2 ⟨r',H',rfl,rfl,rfl⟩
 exact⟨st.h,J0.app _ _,by rw[hv];exact hk⟩
def JaQ:FV→Bool
 | .int .. | .bool _| .str _| .nil=>true
 | .sl 0 []=>true
 |_=>false
def Vk:CV→Bool
 | .f x=>JaQ x
 | .own .. | .nilp| .nilf| .emp| .ptr .. =>true
 |_=>false
def JcL:AV→Bool
 | .c x=>Vk x
 | .agg cs=>cs.all Vk
 | .void| .any=>true
 |_=>false
def scal1:AV→Bool
 | .tup vs=>vs.all JcL
 |v=>JcL v
def YX(H:Jm):Prop:=∀(id:Nat) (b:Zv),H[id]? =some (some b)→∀c∈b.cs,Vk c=true
theorem Km{w:World}{X X':Cx}{H:Jm}(hm:X'.mu=X.mu)(hs:X'.sz=X.sz)(ht:X'.t=X.t){x:CV}{v:Value}(h:VC w X H x v)(hx:Vk x=true):VC w X' H x v:=by
 cases x with
 |f x=>
  have h:VF w X.I x v:=h
  show VF w X'.I x v
  cases h with
  |int k n=>exact .int k n
  |bool b=>exact .bool b
  |str s=>exact .str s
  |nil=>exact .nil
  |sl0 a cap=>exact .sl0 a cap
  |sl n cs b o cap u hc hI hu hv=>
   have hx:JaQ (.sl n cs)=true:=hx
   unfold JaQ at hx
   split at hx<;>first|cases hx|skip
   all_goals first
    |(rename_i heq;cases heq;exact .sl0 _ _)
    |(rename_i heq;cases heq)
 |fp cs off=>cases hx
 |nilp=>exact h
 |nilf=>exact h
 |emp=>exact h
 |ptr id g off=>simpa only[VC,hm,hs,ht]using h
 |own id g off n lim=>simpa only[VC,hm,hs,ht]using h
 |fn f caps=>cases hx
theorem WB{w:World}{X X':Cx}{H:Jm}(hm:X'.mu=X.mu)(hs:X'.sz=X.sz)(ht:X'.t=X.t){x:AV}{v:Value}(h:VA w X H x v)(hx:JcL x=true):VA w X' H x v:=by
 cases h with
 |c x v h=>exact .c _ _ (Km hm hs ht h hx)
 |agg cs vs hsz h=>
  refine .agg _ _ hsz fun j hj=> ?_
  obtain⟨u,h1,h2⟩:=h j hj
  exact⟨u,h1,Km hm hs ht h2 (List.all_eq_true.1 hx _ (List.getElem_mem hj))⟩
 |tup vs us h=>cases hx
 |void=>exact .void
 |any v=>exact .any v
theorem JcM{w:World}{X X':Cx}{H:Jm}(hm:X'.mu=X.mu)(hs:X'.sz=X.sz)(ht:X'.t=X.t){x:AV}{v:Value}(h:VA w X H x v)(hx:scal1 x=true):VA w X' H x v:=by
 cases x with
 |tup vs=>
  cases h with
  |tup vs us hus=>exact .tup vs us fun j hj=>WB hm hs ht (hus j hj) (List.all_eq_true.1 hx _ (List.getElem_mem hj))
 |c x=>exact WB hm hs ht h hx
 |agg cs=>exact WB hm hs ht h hx
 |void=>exact WB hm hs ht h hx
 |any=>exact WB hm hs ht h hx
theorem Jn.frameSn{P:Program}{f:FuncId}{args args':List AV}{H:Jm}{Q:KV}(sn:AV→Option AV)(hsn:∀(w:World) (X:Cx) (x y:AV) (v:Value),ZL w X H→sn x=some y→VA w X H x v→VA w (X.still w) [] y v)(hf:args.mapM sn=some args')(h:Jn P f args' [] Q)(ht:∀r H',Q r H'→Kl r=true∧scal1 r=true∧YX H'):
 Jn P f args H fun r H2=>∃r' H',Q r' H'∧r=WO H.length r'∧H2=H++Q7 H.length H':=by
 intro w X vs hH hvs
 obtain⟨hl,hgm⟩:=Uh hf
 have R0:ZL w (X.still w) []:=⟨fun b hb=>hb,fun id b hb=>by simp at hb,fun id id' b b' hb=>by simp at hb,hH.tab.mono fun b hb=>⟨hH.imm b hb,rfl⟩⟩
 refine(h w (X.still w) vs R0 ⟨by rw[hvs.1,hl],fun i hi=> ?_⟩).mono fun e w' ⟨v,u,X1,H',h1,h2,h3,h4,h5⟩=> ?_
 · obtain⟨x,k1,k2⟩:=hvs.2 i (by omega)
   obtain⟨y,k3,k4⟩:=hgm i (by omega)
   have:args'[i]=y:=by simpa[Jq hi]using k3
   rw[this]
   exact⟨x,k1,hsn _ _ _ _ _ hH k4 k2⟩
 · have no:∀b,¬Kc (X.still w) [] b:=fun b ⟨id,blk,h,_⟩=>by simp at h
   obtain⟨q1,q2,q3⟩:=ht _ _ h5
   let X':Cx:={X1 with I:=X.I}
   have h2:VA w' X' H' v u:=JcM (X:=X1) (X':=X') rfl rfl rfl h2 q2
   have keep:∀b,b<w.heap.size→w'.heap[b]? =w.heap[b]? :=fun b hb=>(h4.imm b hb).2
   have hge:∀(id:Nat) (b:Zv),H'[id]? =some (some b)→X.t≤b.g:=fun id b hb=>by
    rcases Nat.lt_or_ge b.g X.t with hlt|hge
    · obtain⟨b',hb',_⟩:=h4.sub id b.g b hlt (J8 hb)
      simp[look]at hb'
    · exact hge
   have hnew:∀(id:Nat) (b:Zv),H'[id]? =some (some b)→w.heap.size≤X'.mu b.g:=fun id b hb=>
    (h4.own _ ⟨id,b,hb,rfl⟩).elim (fun h=>absurd h (no _)) fun h=>h
   have hsplit:∀(id:Nat) (b:Zv),(H++Q7 H.length H')[id]? =some (some b)→(H[id]? =some (some b))∨∃id' b',id=id'+H.length∧H'[id']? =some (some b')∧b=ZJ H.length b':=by
    intro id b hb
    by_cases hlt:id<H.length
    · rw[Ja hlt]at hb;exact .inl hb
    · rw[J3 (by omega)]at hb
      simp only[Q7,Qv,Option.map_eq_some_iff]at hb
      obtain⟨ob,k1,b',k2,k3⟩:=hb
      subst k2
      exact .inr ⟨id -H.length,b',by omega,k1,k3.symm⟩
   have E:Ev w X H w' X' (H++Q7 H.length H'):=by
    refine⟨fun b hb=>⟨hb,keep b (hH.imm b hb)⟩,h4.t,h4.mu,h4.size,h4.os,h4.tape,h4.output, ?_,fun b hb _=>keep b hb, ?_,fun b hb=> .inl hb⟩
    · intro id g b hg hl
      obtain⟨k1,k2⟩:=JG hl
      rcases hsplit id b k1 with hb|⟨id',b',rfl,hb',rfl⟩
      · exact⟨b,by rw[←k2];exact J8 hb,rfl,rfl⟩
      · have:=hge id' b' hb'
        simp only[ZJ]at k2
        omega
    · rintro b ⟨id,blk,k1,k2⟩
      rcases hsplit id blk k1 with hb|⟨id',b',rfl,hb',rfl⟩
      · refine .inl ⟨id,blk,hb, ?_⟩
        rw[←k2,(h4.mu blk.g (hH.blk id blk hb).1).1];rfl
      · right
        rw[←k2]
        exact hnew id' b' hb'
   have old:∀(id:Nat) (b:Zv),H[id]? =some (some b)→X.mu b.g<w.heap.size∧X'.mu b.g=X.mu b.g:=fun id b hb=>by
    obtain⟨g1,_,cc,t,g3,_⟩:=hH.blk id b hb
    exact⟨(Array.getElem?_eq_some_iff.1 g3).1,(h4.mu b.g g1).1⟩
   refine⟨_,u,X',_,h1,h2.shift q1,⟨fun b hb=>Nat.lt_of_lt_of_le (hH.imm b hb) h4.size,fun id b hb=> ?_,fun id id' b b' hb hb' heq=> ?_,hH.tab.mono fun b hb=>⟨hb,keep b (hH.imm b hb)⟩⟩,E,v,H',h5,rfl,rfl⟩
   · rcases hsplit id b hb with hb|⟨id',b',rfl,hb',rfl⟩
     · obtain⟨g1,g2,cc,t,g3,g4,g5,g6⟩:=hH.blk id b hb
       obtain⟨o1,o2⟩:=old id b hb
       refine⟨Nat.lt_of_lt_of_le g1 h4.t,fun hI=> ?_,cc,t, ?_, ?_,g5,fun j hj=> ?_⟩
       · rw[o2]at hI
         exact g2 hI
       · rw[o2,keep _ o1];exact g3
       · rw[(h4.mu b.g g1).2];exact g4
       · obtain⟨u,k1,k2⟩:=g6 j hj
         exact⟨u,k1,k2.mono E⟩
     · obtain⟨g1,g2,cc,t,g3,g4,g5,g6⟩:=h3.blk id' b' hb'
       refine⟨g1,fun hI=>absurd (hH.imm _ hI) (Nat.not_lt.2 (hnew id' b' hb')),cc,t,g3,g4,by simpa[ZJ]using g5,fun j hj=> ?_⟩
       obtain⟨u,k1,k2⟩:=g6 j (by simpa[ZJ]using hj)
       refine⟨u,k1, ?_⟩
       simp only[ZJ,List.getElem_map]
       exact(Km (X:=X1) (X':=X') rfl rfl rfl k2 (q3 id' b' hb' _ (List.getElem_mem _))).shift
   · rcases hsplit id b hb with hb|⟨i,c,rfl,hc,rfl⟩<;>rcases hsplit id' b' hb' with hb'|⟨i',c',rfl,hc',rfl⟩
     · obtain⟨_,o2⟩:=old id b hb
       obtain⟨_,o2'⟩:=old id' b' hb'
       exact hH.inj _ _ _ _ hb hb' (by rw[←o2,←o2'];exact heq)
     · obtain⟨o1,o2⟩:=old id b hb
       have:=hnew i' c' hc'
       simp only[ZJ]at heq
       omega
     · obtain⟨o1,o2⟩:=old id' b' hb'
       have:=hnew i c hc
       simp only[ZJ]at heq
       omega
     · have:=h3.inj _ _ _ _ hc hc' heq
       omega
end Go.Lg
