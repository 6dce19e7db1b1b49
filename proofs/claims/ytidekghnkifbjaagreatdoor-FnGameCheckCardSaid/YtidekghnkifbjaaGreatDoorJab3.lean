/- LgZ2, GpP, GpQ, GpR, GpS, GpT, cut to what is needed. -/
import Derived.Test.YtidekghnkifbjaaGreatDoorJab2
import Derived.Test.YtidekghnkifbjaaGreatDoorJaa9
open List renaming cons_append → Ja, getElem?_append_left → Jb, nil_append → Jc, replicate → Jd, length_cons → Je, length_nil → Jf, getElem?_eq_some_iff → Jg, getElem?_set_ne → Ji, length_append → Jk, length_set → Jo, getElem?_eq_getElem → Jq, append_assoc → Jt, append_nil → Ju, mem_append → JZ, getElem?_append_right → J1, getElem?_set_self → J2, mapM_cons → J3, mem_map → Qh, nodup_append → Qm, map_cons → Qq, length_map → Qr, getElem?_map → Qu, mem_cons → Qx, map_append → QB, mapM_nil → QC, not_mem_nil → ZW, nodup_cons → Vz, all_cons → Wr, all_nil → Yw
open Nat renaming reduceAdd→zA,reduceMul→zM,reduceSub→zS,reduceEqDiff→zE,reduceLeDiff→zL
set_option linter.unusedSimpArgs false
set_option linter.unusedVariables false
namespace Go.Lg
section
variable{P:Program}{o:Oper}{st:St}{K:KV}{fo:Operand}{xs:Array Operand}{ts:Array TypeId}{f:FuncId}{args args':List AV}{v:AV}{u:Value}{Q:KV}
theorem JY.rdD(hc:JW P f args' v)(he:Jh P f)(ho:o.op= .call ⟨.value fo,xs,ts⟩)(ha:Qa st fo xs=some (f,args))(hs:args.mapM (Zx st.h)=some args')
 (hf:Kj v=some u) (hk:K v st.h):JY P o st K:=by
 intro w X a R next Q hn
 obtain⟨vs,h1,hvs⟩:=V2 (P:=P) R ho ha he
 obtain⟨hl,hgm⟩:=Z8 hs
 have R0:ZC w (X.still w) []:=⟨fun b hb=>hb,fun id b hb=>by simp at hb,fun id id' b b' hb=>by simp at hb,R.heap.tab.mono fun b hb=>⟨R.heap.imm b hb,rfl⟩⟩
 refine RE (h1 w) ((hc w (X.still w) vs R0 ⟨by rw[hvs.1,hl],fun i hi=> ?_⟩).mono fun e w'' ⟨r,u',X',H',k1,k2,k3,k4,k5⟩=>⟨u, ?_, ?_⟩)
 · obtain⟨x,q1,q2⟩:=hvs.2 i (by omega)
   obtain⟨y,q3,q4⟩:=hgm i (by omega)
   have:args'[i]=y:=by simpa[Jq hi]using q3
   rw[this]
   exact⟨x,q1,Fg R.heap q4 q2⟩
 · have k5:r=v:=k5
   subst k5
   rw[k1,(VK hf).2 _ _ _ _ k2]
 · have hg:ZY w w'':=⟨fun b hb=>(k4.imm b hb).2,k4.size,k4.os,k4.tape,k4.output⟩
   exact hn v u X st.h w'' ((VK hf).1 _ _ _) (hg.rel R.heap) (hg.ev R.heap) hk
theorem JY.mkD(hc:Jn P f args' [] Q)(he:Jh P f)(ho:o.op= .call ⟨.value fo,xs,ts⟩)(ha:Qa st fo xs=some (f,args))(hs:args.mapM (Zx st.h)=some args')
 (hk:∀r H',Q r H'→(YV r=true∧scal1 r=true∧YA H')∧K (WE st.h.length r) (st.h++Q2 st.h.length H')):JY P o st K:=by
 obtain⟨h1,h2⟩:=WY ha
 refine JY.call ho h1 he ?_
 rw[h2]
 refine(Jn.frameSn (Zx st.h) (fun w X x y v R h hv=>Fg R h hv) hs hc fun r H' h=>(hk r H' h).1).mono ?_
 rintro r H2 ⟨r',H',h3,rfl,rfl⟩
 exact(hk _ _ h3).2
end
section
variable{P:Program}{ops:Array Oper}{o:Oper}{s:List AV}{H:Jm}{K:KV}{fo:Operand}{xs:Array Operand}{ts:Array TypeId}{f:FuncId}{args args':List AV}{v:AV}{u:Value}{Q:KV}
theorem JM.rdD(hc:JW P f args' v)(he:Jh P f)(ho:o.op= .call ⟨.value fo,xs,ts⟩)(ha:Qa ⟨s,H⟩ fo xs=some (f,args))(hs:args.mapM (Zx H)=some args')
 (hf:Kj v=some u) (hk:K v H):JM P ops o s H K:=JM.call ho ha fun s' ha'=>JY.rdD hc he ho ha' hs hf hk
theorem JM.mkD(hc:Jn P f args' [] Q)(he:Jh P f)(ho:o.op= .call ⟨.value fo,xs,ts⟩)(ha:Qa ⟨s,H⟩ fo xs=some (f,args))(hs:args.mapM (Zx H)=some args')
 (hk:∀r H',Q r H'→(YV r=true∧scal1 r=true∧YA H')∧K (WE H.length r) (H++Q2 H.length H')):JM P ops o s H K:=JM.call ho ha fun s' ha'=>JY.mkD hc he ho ha' hs hk
end
theorem Ux{H0 H:Jm}{id g:Nat}{b:Zv}(h:look H id g=some b):look (H0++Q2 H0.length H) (id+H0.length) g=some (ZG H0.length b):=by
 obtain⟨h1,h2⟩:=JJ h
 have:(H0++Q2 H0.length H)[id+H0.length]? =some (some (ZG H0.length b)):=by
  rw[J1 (by omega),Nat.add_sub_cancel]
  simp[Q2,h1]
 have:=J6 this
 simp only[ZG]at this⊢
 rw[h2]at this⊢
 exact this
theorem JX{H H':Jm}{id g:Nat}{b:Zv}(h:look H id g=some b):look (H++H') id g=some b:=(J0.app H H').look h
theorem Jce(k:Nat)(c:CV):Vr (Uc k c)=Vr c:=by cases c<;>rfl
theorem Qw.shift{H0 H:Jm}{c:CV}{xs:List Int}{S:List Nat}(h:Qw H c xs S):Qw (H0++Q2 H0.length H) (Uc H0.length c) xs (S.map (· +H0.length)):=by
 cases h with
 |e=>exact .e
 |o id g lim xs ys h=>
  refine .o (id+H0.length) g lim xs ys ?_
  rw[Ux h]
  simp only[ZG,Ws]
theorem Qw.app{H H':Jm}{c:CV}{xs:List Int}{S:List Nat}(h:Qw H c xs S):Qw (H++H') c xs S:=by
 cases h with
 |e=>exact .e
 |o id g lim xs ys h=>exact .o id g lim xs ys (JX h)
def RO.sh(k:Nat)(o:RO):RO:=⟨o.r,Uc k o.c,o.i.map (· +k)⟩
theorem kl_sh(k:Nat)(l:List RO):(kl kR l).map (Uc k)=kl kR (l.map (RO.sh k)):=by
 simp only[kl,List.map_flatMap,List.flatMap_map];rfl
theorem UW.shift{H0 H:Jm}{c:CV}{rs:List ZS}{S:List Nat}(h:UW H c rs S):UW (H0++Q2 H0.length H) (Uc H0.length c) rs (S.map (· +H0.length)):=by
 cases h with
 |e=>exact .e
 |o id g lim l ys h hi hd hy=>
  have:=UW.o (H:=H0++Q2 H0.length H) (id+H0.length) g lim (l.map (RO.sh H0.length)) (ys.map (Uc H0.length)) (by
   rw[Ux h]
   simp only[ZG,QB,kl_sh]) (fun o ho=>by
   obtain⟨p,hp,rfl⟩:=Qh.1 ho
   exact(hi p hp).shift) (by
   have e:(id+H0.length)::(l.map (RO.sh H0.length)).flatMap (·.i)=(id::l.flatMap (·.i)).map (· +H0.length):=by
    simp only[Qq,List.flatMap_map,List.map_flatMap];rfl
   rw[e]
   exact List.pairwise_map.2 (hd.imp fun h he=>h (by omega))) (fun c hc=>by
   obtain⟨d,hd,rfl⟩:=Qh.1 hc
   rw[Jce];exact hy d hd)
  simp only[Qr,List.map_map,List.flatMap_map]at this
  simp only[Uc,Qq,List.map_flatMap]
  exact this
theorem UW.app{H H':Jm}{c:CV}{rs:List ZS}{S:List Nat}(h:UW H c rs S):UW (H++H') c rs S:=by
 cases h with
 |e=>exact .e
 |o id g lim l ys h hi hd hy=>exact .o id g lim l ys (JX h) (fun o ho=>(hi o ho).app) hd hy
theorem Qw.frzC{H:Jm}{c:CV}{xs:List Int}{S:List Nat}(h:Qw H c xs S):Lg.frzC H c=some (.f (Qf xs)):=by
 have:=h.frz 5
 cases h with
 |e=>rfl
 |o id g lim xs ys h=>simp only[Lg.frzC,this,Option.map_some]
theorem UW.frzC{H:Jm}{c:CV}{rs:List ZS}{S:List Nat}(h:UW H c rs S):Lg.frzC H c=some (.f (Va eR rs)):=by
 have:=h.frz 4
 cases h with
 |e=>rfl
 |o id g lim l ys h hi hd hy=>simp only[Lg.frzC,this,Option.map_some]
theorem Qw.lt{H:Jm}{c:CV}{xs:List Int}{S:List Nat}(h:Qw H c xs S):∀i∈S,i<H.length:=by
 cases h with
 |e=>simp
 |o id g lim xs ys h=>intro i hi;have:i=id:=by simpa using hi
                      subst this;exact(Jg.1 (JJ h).1).1
theorem UW.lt{H:Jm}{c:CV}{xs:List ZS}{S:List Nat}(h:UW H c xs S):∀i∈S,i<H.length:=by
 cases h with
 |e=>simp
 |o id g lim l ys h hi hd hy=>
  intro i hm
  rcases Qx.1 hm with rfl|hm
  · exact(Jg.1 (JJ h).1).1
  · obtain⟨o,ho,hm⟩:=List.mem_flatMap.1 hm
    exact(hi o ho).lt i hm
theorem Qw.nd{H:Jm}{c:CV}{xs:List Int}{S:List Nat}(h:Qw H c xs S):S.Nodup:=by cases h<;>simp
theorem UW.nd{H:Jm}{c:CV}{xs:List ZS}{S:List Nat}(h:UW H c xs S):S.Nodup:=by
 cases h with
 |e=>simp
 |o id g lim l ys h hi hd hy=>exact hd
structure Xi(H:Jm)(cs:List CV)(p:QV)(S:List Nat):Prop where
 ex:∃c1 c2 S1 S2,cs=[.f (.int .i64 p.size),c1,c2]∧S=S1++S2∧Qw H c1 p.given S1∧UW H c2 p.rules S2
 nd:S.Nodup
structure V6(H:Jm)(cs:List CV)(q:ZF)(S:List Nat):Prop where
 ex:∃c1 c2 c3 c4 S1 S2 S3 S4,cs=[.f (.int .i64 q.task.size),c1,c2,c3,c4]∧S=S1++(S2++(S3++S4))∧Qw H c1 q.task.given S1∧UW H c2 q.task.rules S2∧Qw H c3 q.put S3∧Qw H c4 q.moves S4
 nd:S.Nodup
theorem Xi.snap{H:Jm}{cs:List CV}{p:QV}{S:List Nat}(h:Xi H cs p S):Zx H (.agg cs)=some (aP p):=by
 obtain⟨c1,c2,S1,S2,rfl,_,h1,h2⟩:=h.ex
 simp only[Zx,J3,QC,h1.frzC,h2.frzC,Option.pure_def,Option.bind_eq_bind,Option.bind_some]
 rfl
theorem V6.snap{H:Jm}{cs:List CV}{q:ZF}{S:List Nat}(h:V6 H cs q S):Zx H (.agg cs)=some (aG q):=by
 obtain⟨c1,c2,c3,c4,S1,S2,S3,S4,rfl,_,h1,h2,h3,h4⟩:=h.ex
 simp only[Zx,J3,QC,h1.frzC,h2.frzC,h3.frzC,h4.frzC,Option.pure_def,Option.bind_eq_bind,Option.bind_some]
 rfl
theorem Y6{S:List Nat}{k:Nat}(h:S.Nodup):(S.map (· +k)).Nodup:=List.pairwise_map.2 (h.imp fun h he=>h (by omega))
theorem Xi.shift{H0 H:Jm}{cs:List CV}{p:QV}{S:List Nat}(h:Xi H cs p S):Xi (H0++Q2 H0.length H) (cs.map (Uc H0.length)) p (S.map (· +H0.length)):=by
 obtain⟨c1,c2,S1,S2,rfl,rfl,h1,h2⟩:=h.ex
 exact⟨⟨_,_,_,_,rfl,by simp,h1.shift,h2.shift⟩,Y6 h.nd⟩
theorem V6.shift{H0 H:Jm}{cs:List CV}{q:ZF}{S:List Nat}(h:V6 H cs q S):V6 (H0++Q2 H0.length H) (cs.map (Uc H0.length)) q (S.map (· +H0.length)):=by
 obtain⟨c1,c2,c3,c4,S1,S2,S3,S4,rfl,rfl,h1,h2,h3,h4⟩:=h.ex
 exact⟨⟨_,_,_,_,_,_,_,_,rfl,by simp,h1.shift,h2.shift,h3.shift,h4.shift⟩,Y6 h.nd⟩
theorem Xi.app{H H':Jm}{cs:List CV}{p:QV}{S:List Nat}(h:Xi H cs p S):Xi (H++H') cs p S:=by
 obtain⟨c1,c2,S1,S2,rfl,rfl,h1,h2⟩:=h.ex
 exact⟨⟨_,_,_,_,rfl,rfl,h1.app,h2.app⟩,h.nd⟩
theorem V6.app{H H':Jm}{cs:List CV}{q:ZF}{S:List Nat}(h:V6 H cs q S):V6 (H++H') cs q S:=by
 obtain⟨c1,c2,c3,c4,S1,S2,S3,S4,rfl,rfl,h1,h2,h3,h4⟩:=h.ex
 exact⟨⟨_,_,_,_,_,_,_,_,rfl,rfl,h1.app,h2.app,h3.app,h4.app⟩,h.nd⟩
theorem V6.frm{H H':Jm}{cs:List CV}{q:ZF}{S T:List Nat}(h:V6 H cs q S)(hf:Vn H H' T)(hd:∀i∈S,i∉T):V6 H' cs q S:=by
 obtain⟨c1,c2,c3,c4,S1,S2,S3,S4,rfl,rfl,h1,h2,h3,h4⟩:=h.ex
 refine⟨⟨_,_,_,_,_,_,_,_,rfl,rfl,h1.frm hf fun i hi=>hd i ?_,h2.frm hf fun i hi=>hd i ?_,h3.frm hf fun i hi=>hd i ?_,h4.frm hf fun i hi=>hd i ?_⟩,h.nd⟩<;>simp[hi]
theorem Xi.frm{H H':Jm}{cs:List CV}{p:QV}{S T:List Nat}(h:Xi H cs p S)(hf:Vn H H' T)(hd:∀i∈S,i∉T):Xi H' cs p S:=by
 obtain⟨c1,c2,S1,S2,rfl,rfl,h1,h2⟩:=h.ex
 refine⟨⟨_,_,_,_,rfl,rfl,h1.frm hf fun i hi=>hd i ?_,h2.frm hf fun i hi=>hd i ?_⟩,h.nd⟩<;>simp[hi]
theorem Qw.same{H H':Jm}{c:CV}{xs:List Int}{S:List Nat}(h:Qw H c xs S)(hs:∀i∈S,H'[i]? =H[i]?):Qw H' c xs S:=by
 cases h with
 |e=>exact .e
 |o id g lim xs ys h=>exact .o id g lim xs ys (by unfold look at*;rw[hs id (by simp)];exact h)
theorem UW.same{H H':Jm}{c:CV}{rs:List ZS}{S:List Nat}(h:UW H c rs S)(hs:∀i∈S,H'[i]? =H[i]?):UW H' c rs S:=by
 cases h with
 |e=>exact .e
 |o id g lim l ys h hi hn hy=>
  refine .o id g lim l ys (by unfold look at*;rw[hs id (by simp)];exact h) (fun o ho=>(hi o ho).same fun i hm=>hs i ?_) hn hy
  exact List.mem_cons_of_mem _ (List.mem_flatMap.2 ⟨o,ho,hm⟩)
theorem Xi.same{H H':Jm}{cs:List CV}{p:QV}{S:List Nat}(h:Xi H cs p S)(hs:∀i∈S,H'[i]? =H[i]?):Xi H' cs p S:=by
 obtain⟨c1,c2,S1,S2,rfl,rfl,h1,h2⟩:=h.ex
 exact⟨⟨_,_,_,_,rfl,rfl,h1.same fun i hi=>hs i (by simp[hi]),h2.same fun i hi=>hs i (by simp[hi])⟩,h.nd⟩
theorem V6.of{H:Jm}{z:Int}{c1 c2 c3 c4:CV}{p:QV}{xs ys:List Int}{S1 S2 S3 S4:List Nat}(h:Xi H [.f (.int .i64 z),c1,c2] p (S1++S2))(h3:Qw H c3 xs S3)(h4:Qw H c4 ys S4)(hn:(S1++(S2++(S3++S4))).Nodup):
 V6 H [.f (.int .i64 z),c1,c2,c3,c4] ⟨p,xs,ys⟩ (S1++(S2++(S3++S4))):=by
 obtain⟨d1,d2,T1,T2,e1,e2,k1,k2⟩:=h.ex
 cases e1
 refine⟨⟨_,_,_,_,T1,T2,S3,S4,rfl, ?_,k1,k2,h3,h4⟩,hn⟩
 rw[←Jt,e2,Jt]
theorem JI{H:Jm}{g sz:Nat}{cs:List CV}:look (H++[some ⟨g,sz,cs⟩]) H.length g=some ⟨g,sz,cs⟩:=J6 (b:=⟨g,sz,cs⟩) (by simp)
theorem QP{H:Jm}{x y:Option Zv}:(H++[x]).set H.length y=H++[y]:=by rw[List.set_append_right _ _ (Nat.le_refl _),Nat.sub_self];rfl
theorem Xo{H H':Jm}{id g:Nat}(h:id<H.length):look (H++H') id g=look H id g:=by
 unfold look;rw[Jb h]
def Jlr(p:QV):KV:=fun v H=>∃cs S,v= .agg cs∧Xi H cs p S
def gamQ(q:ZF):KV:=fun v H=>∃cs S,v= .agg cs∧V6 H cs q S
theorem Xi.lt{H:Jm}{cs:List CV}{p:QV}{S:List Nat}(h:Xi H cs p S):∀i∈S,i<H.length:=by
 obtain⟨c1,c2,S1,S2,rfl,rfl,h1,h2⟩:=h.ex
 intro i hi
 rcases JZ.1 hi with hi|hi
 · exact h1.lt i hi
 · exact h2.lt i hi
theorem V6.lt{H:Jm}{cs:List CV}{q:ZF}{S:List Nat}(h:V6 H cs q S):∀i∈S,i<H.length:=by
 obtain⟨c1,c2,c3,c4,S1,S2,S3,S4,rfl,rfl,h1,h2,h3,h4⟩:=h.ex
 intro i hi
 simp only[JZ]at hi
 rcases hi with hi|hi|hi|hi
 · exact h1.lt i hi
 · exact h2.lt i hi
 · exact h3.lt i hi
 · exact h4.lt i hi
theorem Q5(k:Nat)(H:Jm):(Q2 k H).length=H.length:=by simp[Q2]
theorem UF{S:List Nat}{k n:Nat}(h:∀i∈S,i<n):∀i∈S.map (· +k),k≤i∧i<k+n:=by
 intro i hi
 obtain⟨x,hx,rfl⟩:=Qh.1 hi
 have:=h x hx
 omega
section
variable{P:Program}{o:Oper}{st:St}{K:KV}{fo:Operand}{xs:Array Operand}{ts:Array TypeId}{f:FuncId}{args args':List AV}
theorem JY.mkP{p:QV}(hc:Jn P f args [] (Jlr p))(he:Jh P f)(ho:o.op= .call ⟨.value fo,xs,ts⟩)(ha:Qa st fo xs=some (f,args))(hf:args.all Q0=true)
 (hk:∀cs H' S,Xi (st.h++H') cs p S→(∀i∈S,st.h.length≤i∧i<st.h.length+H'.length)→K (.agg cs) (st.h++H')):JY P o st K:=
 JY.mkQ hc he ho ha hf fun r H' ⟨c,S,h1,h2⟩=>by
  subst h1
  exact⟨rfl,hk _ _ _ h2.shift (by rw[Q5];exact UF h2.lt)⟩
theorem JY.mkG{q:ZF}(hc:Jn P f args [] (gamQ q))(he:Jh P f)(ho:o.op= .call ⟨.value fo,xs,ts⟩)(ha:Qa st fo xs=some (f,args))(hf:args.all Q0=true)
 (hk:∀cs H' S,V6 (st.h++H') cs q S→(∀i∈S,st.h.length≤i∧i<st.h.length+H'.length)→K (.agg cs) (st.h++H')):JY P o st K:=
 JY.mkQ hc he ho ha hf fun r H' ⟨c,S,h1,h2⟩=>by
  subst h1
  exact⟨rfl,hk _ _ _ h2.shift (by rw[Q5];exact UF h2.lt)⟩
end
def Kc(S:List Nat)(H:Jm):Jm:=(List.range H.length).map fun i=>if i∈S then H[i]?.join else none
theorem XQ{S:List Nat}{H:Jm}{i:Nat}(h:i∈S)(hl:i<H.length):(Kc S H)[i]? =H[i]? :=by
 simp[Kc,hl,h,Jq hl]
theorem G4{S:List Nat}{H:Jm}{i:Nat}{b:Zv}(h:(Kc S H)[i]? =some (some b)):i∈S∧H[i]? =some (some b):=by
 simp only[Kc,Qu,Option.map_eq_some_iff]at h
 obtain⟨j,h1,h2⟩:=h
 have hj:=Jg.1 h1
 obtain⟨hj1,hj2⟩:=hj
 simp only[List.length_range,List.getElem_range]at hj1 hj2
 subst hj2
 split at h2
 · rename_i hm
   refine⟨hm, ?_⟩
   rw[Jq hj1]at h2⊢
   simpa using h2
 · cases h2
theorem Kb(S:List Nat)(H:Jm):J0 H (Kc S H):=fun id b h=>(G4 h).2
theorem Qw.blk{H:Jm}{c:CV}{xs:List Int}{S:List Nat}(h:Qw H c xs S):∀i∈S,∀b,H[i]? =some (some b)→∀x∈b.cs,Vr x=true:=by
 cases h with
 |e=>simp
 |o id g lim xs ys h=>
  intro i hi b hb x hx
  obtain rfl:i=id:=by simpa using hi
  rw[(JJ h).1]at hb
  cases hb
  exact Jcc (g:=g) (n:=1) (JkT .i64 (xs++ys)) 0 _ rfl x hx
theorem Qw.scal1{H:Jm}{c:CV}{xs:List Int}{S:List Nat}(h:Qw H c xs S):Vr c=true:=by cases h<;>rfl
theorem UW.scal1{H:Jm}{c:CV}{xs:List ZS}{S:List Nat}(h:UW H c xs S):Vr c=true:=by cases h<;>rfl
theorem UW.blk{H:Jm}{c:CV}{xs:List ZS}{S:List Nat}(h:UW H c xs S):∀i∈S,∀b,H[i]? =some (some b)→∀x∈b.cs,Vr x=true:=by
 cases h with
 |e=>simp
 |o id g lim l ys h hi hd hy=>
  intro i hm b hb x hx
  rcases Qx.1 hm with rfl|hm
  · rw[(JJ h).1]at hb
    cases hb
    rcases JZ.1 hx with hx|hx
    · obtain⟨o,ho,hx⟩:=List.mem_flatMap.1 hx
      simp only[kR,Qx,ZW,or_false]at hx
      rcases hx with rfl|rfl|rfl
      · rfl
      · exact(hi o ho).scal1
      · rfl
    · exact hy x hx
  · obtain⟨o,ho,hm⟩:=List.mem_flatMap.1 hm
    exact(hi o ho).blk i hm b hb x hx
theorem Xi.blk{H:Jm}{cs:List CV}{p:QV}{S:List Nat}(h:Xi H cs p S):(∀i∈S,∀b,H[i]? =some (some b)→∀x∈b.cs,Vr x=true)∧cs.all Vr=true:=by
 obtain⟨c1,c2,S1,S2,rfl,rfl,h1,h2⟩:=h.ex
 refine⟨fun i hi=> ?_,by simp only[Wr,Yw,h1.scal1,h2.scal1,Bool.and_true];rfl⟩
 rcases JZ.1 hi with hi|hi
 · exact h1.blk i hi
 · exact h2.blk i hi
theorem V6.blk{H:Jm}{cs:List CV}{q:ZF}{S:List Nat}(h:V6 H cs q S):(∀i∈S,∀b,H[i]? =some (some b)→∀x∈b.cs,Vr x=true)∧cs.all Vr=true:=by
 obtain⟨c1,c2,c3,c4,S1,S2,S3,S4,rfl,rfl,h1,h2,h3,h4⟩:=h.ex
 refine⟨fun i hi=> ?_,by simp only[Wr,Yw,h1.scal1,h2.scal1,h3.scal1,h4.scal1,Bool.and_true];rfl⟩
 simp only[JZ]at hi
 rcases hi with hi|hi|hi|hi
 · exact h1.blk i hi
 · exact h2.blk i hi
 · exact h3.blk i hi
 · exact h4.blk i hi
theorem V6.same{H H':Jm}{cs:List CV}{q:ZF}{S:List Nat}(h:V6 H cs q S)(hs:∀i∈S,H'[i]? =H[i]?):V6 H' cs q S:=by
 obtain⟨c1,c2,c3,c4,S1,S2,S3,S4,rfl,rfl,h1,h2,h3,h4⟩:=h.ex
 refine⟨⟨_,_,_,_,_,_,_,_,rfl,rfl,h1.same fun i hi=>hs i ?_,h2.same fun i hi=>hs i ?_,h3.same fun i hi=>hs i ?_,h4.same fun i hi=>hs i ?_⟩,h.nd⟩<;>simp[hi]
theorem W6{S:List Nat}{H:Jm}(h:∀i∈S,∀b,H[i]? =some (some b)→∀x∈b.cs,Vr x=true):YA (Kc S H):=fun id b hb c hc=>by
 obtain⟨h1,h2⟩:=G4 hb
 exact h id h1 b h2 c hc
def WL(F:AV→AV)(q:ZF):KV:=fun v H=>∃cs S,v=F (.agg cs)∧V6 H cs q S
def gamWS(F:AV→AV)(q:ZF):KV:=fun v H=>∃cs S,v=F (.agg cs)∧V6 H cs q S∧YA H∧cs.all Vr=true
theorem Jn.gamS{P:Program}{f:FuncId}{args:List AV}{H:Jm}{F:AV→AV}{q:ZF}(h:Jn P f args H (WL F q)):Jn P f args H (gamWS F q):=
 h.weaker fun v H' ⟨cs,S,h1,h2⟩=>⟨Kc S H',Kb _ _,cs,S,h1,h2.same fun i hi=>XQ hi (h2.lt i hi),W6 h2.blk.1,h2.blk.2⟩
def Yx(b:Bool)(v:AV):AV:= .tup [v,bool b]
section
variable{P:Program}{o:Oper}{st:St}{K:KV}{fo:Operand}{xs:Array Operand}{ts:Array TypeId}{f:FuncId}{args args':List AV}{q:ZF}
theorem JY.mkDGB{b:Bool}(hc:Jn P f args' [] (WL (Yx b) q))(he:Jh P f)(ho:o.op= .call ⟨.value fo,xs,ts⟩)(ha:Qa st fo xs=some (f,args))(hs:args.mapM (Zx st.h)=some args')
 (hk:∀cs H' S,V6 (st.h++H') cs q S→(∀i∈S,st.h.length≤i∧i<st.h.length+H'.length)→K (.tup [.agg cs,bool b]) (st.h++H')):JY P o st K:=
 JY.mkD (Jn.gamS hc) he ho ha hs fun r H' ⟨cs,S,h1,h2,h3,h4⟩=>by
  subst h1
  exact⟨⟨rfl,by simp only[Yx,Lg.scal1,Wr,Yw,JeV,h4,Bool.true_and,Bool.and_true];rfl,h3⟩,hk _ _ _ h2.shift (by rw[Q5];exact UF h2.lt)⟩
end
def Wa(xs:List Int):KV:=fun r H=>∃c S,r= .c c∧Qw H c xs S∧YA H
theorem Qw.scal{H:Jm}{c:CV}{xs:List Int}{S:List Nat}(h:Qw H c xs S):Vr c=true:=by cases h<;>rfl
theorem Rl{H:Jm}(h:YA H):YA (none::H):=fun id b hb c hc=>by
 cases id with
 |zero=>simp at hb
 |succ id=>exact h id b hb c hc
theorem Wf{g n:Nat}{xs:List Int}{H:Jm}(h:YA H):YA (some ⟨g,n,cl (eI .i64) xs⟩::H):=fun id b hb c hc=>by
 cases id with
 |zero=>
  simp at hb
  subst hb
  exact Jcc (g:=g) (n:=n) (JkT .i64 xs) 0 _ rfl c hc
 |succ id=>exact h id b hb c hc
theorem JhU:Qw [] (.f (.sl 0 [])) [] []:= .e
section
variable{P:Program}{o:Oper}{st:St}{K:KV}{fo:Operand}{xs:Array Operand}{ts:Array TypeId}{f:FuncId}{args args':List AV}{zs:List Int}
theorem JY.mkI(hc:Jn P f args [] (Wa zs))(he:Jh P f)(ho:o.op= .call ⟨.value fo,xs,ts⟩)(ha:Qa st fo xs=some (f,args))(hf:args.all Q0=true)
 (hk:∀c H' S,Qw (st.h++H') c zs S→(∀i∈S,st.h.length≤i∧i<st.h.length+H'.length)→K (.c c) (st.h++H')):JY P o st K:=
 JY.mkQ hc he ho ha hf fun r H' ⟨c,S,h1,h2,_⟩=>by
  subst h1
  exact⟨rfl,hk _ _ _ h2.shift (by rw[Q5];exact UF h2.lt)⟩
theorem JY.mkDI(hc:Jn P f args' [] (Wa zs))(he:Jh P f)(ho:o.op= .call ⟨.value fo,xs,ts⟩)(ha:Qa st fo xs=some (f,args))(hs:args.mapM (Zx st.h)=some args')
 (hk:∀c H' S,Qw (st.h++H') c zs S→(∀i∈S,st.h.length≤i∧i<st.h.length+H'.length)→K (.c c) (st.h++H')):JY P o st K:=
 JY.mkD hc he ho ha hs fun r H' ⟨c,S,h1,h2,h3⟩=>by
  subst h1
  exact⟨⟨rfl,h2.scal,h3⟩,hk _ _ _ h2.shift (by rw[Q5];exact UF h2.lt)⟩
theorem JW.ownI{P:Program}{f:FuncId}{args:List AV}{zs:List Int}(h:Jn P f args [] (Wa zs)):JW P f args (QG zs):=
 JW.ice h fun r H' ⟨c,S,h1,h2,_⟩=>by subst h1;simp only[VZ,XV,h2.frzC,Option.map_some]
end
theorem Jb2{H:Jm}{x y:AV}(h:Zx H x=some y):[x].mapM (Zx H)=some [y]:=by
 simp only[J3,QC,h,Option.pure_def,Option.bind_eq_bind,Option.bind_some]
theorem US{H:Jm}{x y x' y':AV}(h:Zx H x=some y)(h':Zx H x'=some y'):[x,x'].mapM (Zx H)=some [y,y']:=by
 simp only[J3,QC,h,h',Option.pure_def,Option.bind_eq_bind,Option.bind_some]
theorem W5{H:Jm}{x y x' y' z z':AV}(h:Zx H x=some y)(h':Zx H x'=some y')(h2:Zx H z=some z'):[x,x',z].mapM (Zx H)=some [y,y',z']:=by
 simp only[J3,QC,h,h',h2,Option.pure_def,Option.bind_eq_bind,Option.bind_some]
theorem Qw.snap{H:Jm}{c:CV}{xs:List Int}{S:List Nat}(h:Qw H c xs S):Zx H (.c c)=some (QG xs):=by
 simp only[Zx,h.frzC,Option.map_some]
theorem Jb3{H:Jm}{q:ZF}:Zx H (aG q)=some (aG q):=rfl
theorem VH{H:Jm}{x:Int}:Zx H (int x)=some (int x):=rfl
theorem fl_if{α β:Type}{E:α→List FV}{n:Nat}[HSz E n]{xs:List α}{x y:β}:(if(fl E xs).length=xs.length*n then x else y)=x:=if_pos (Uu xs)
theorem JlF{α:Type}{E:α→List FV}{xs:List α}:(fl E xs).map CV.f=cl E xs:=rfl
attribute [go_sem] fl_if JlF
end Go.Lg

set_option maxRecDepth 100000
namespace Go.Lg
open Go.Proofs
theorem JY.nilOpen{P:Program}{o:Oper}{st:St}{K:KV}{t yt:TypeId}{x y:Operand}{ei:TI}(ho:o.op= .binOp .eql t x y yt)(ht:QR P t=some ei)
 (hx:QU st.s x= .c (.f (.sl 0 []))) (hy:VX st.h (QU st.s y)=some true) (hk:∀b,K (.c (.f (.bool b))) st.h):JY P o st K:=by
 intro w X a R next Q hn
 obtain⟨ti,e,ht,hk',he⟩:=Uw ht
 obtain⟨inf,d,z',h1,h2,h3,h4,h5,h6,h7⟩:=Qg ht
 rw[h5]at hk';cases Zk hk'
 have e2:=Vu hy (J4 R y)
 have hx':=J4 R x
 rw[hx]at hx'
 have:∃a0 c,a.eval x= .slice a0 0 c:=by
  have hh:=Up hx'
  generalize a.eval x=xv at hh
  cases hh with
  |sl0 a cap=>exact⟨_,_,rfl⟩
  |sl n cs b o cap u hc hI hu hv=>exact⟨_,_,rfl⟩
 obtain⟨a0,c,ex⟩:=this
 have hrun:(do eqGuard .eql t x y (a.eval x) (a.eval y);binOp .eql t (a.eval x) (a.eval y):Sem Value).run P w= .ok (.bool a0.isNone) w:=by
  rw[Sem.run_bind,U7 (by rw[ex]),Result.andThen_ok,e2,ex]
  exact Lib.run_eql_slice_nil w t e _ _ _ _ _ h2
 have h1:(execOp a.eval o).run P w= .ok (.value (.bool a0.isNone)) w:=by
  simp only[execOp,ho];rw[Sem.run_bind,hrun];rfl
 unfold Oper.wp
 rw[h1,Oper.upon_value]
 exact hn (.c (.f (.bool a0.isNone))) _ X st.h w (.c _ _ (VF.bool _)) R.heap (Ev.refl _ _ _) (hk _)
theorem JY.valNil{P:Program}{o:Oper}{st:St}{K:KV}(h:XG P st.s st.h o.op=some (.c (.f .nil)))(hk:K (.c (.f (.sl 0 []))) st.h):JY P o st K:=by
 intro w X a R next Q hn
 obtain⟨u,h1,h2⟩:=Wg (P:=P) R h
 unfold Oper.wp
 rw[h1 w (ZY.refl w) o rfl,Oper.upon_value]
 have:VA w X st.h (.c (.f (.sl 0 []))) u:=by
  have hh:=Up h2
  cases hh
  exact .c (.f (.sl 0 [])) _ (VF.sl0 none 0)
 exact hn _ u X st.h w this R.heap (Ev.refl _ _ _) hk
theorem Jn.of_bodyN{P:Program}{f:FuncId}{fn:Func}{c:Code}{args:List AV}{H:Jm}{Q:AV→Jm→Prop}(hf:P.funcs[f]? =some fn)(hb:fn.body=some c){n:Nat}(hn:fn.ntmps=n){rs:List ResultVar}(hr:fn.results.toList=rs)
 (h:QE P c ⟨args++Jd (n -args.length) .void,H⟩ fun e st'=>(e= .normal∨e= .ret)∧∃v H',Yh P st'.s st'.h rs=some v∧J0 st'.h H'∧Q v H'):Jn P f args H Q:=by
 subst hn hr
 exact Jn.of_body hf hb h
theorem We{P:Program}{t e:TypeId}{ti ei:TI}(ht:JS P t=some ti)(hk:ti.k= .slice e)(he:JS P e=some ei):QR P t=some ei:=by
 unfold QR;simp only[ht,hk,he]
theorem JbG{P:Program}{H:Jm}{t e:TypeId}{ti:TI}{n:Nat}{cs:List FV}(ht:JS P t=some ti)(hk:ti.k= .slice e)(hn:0<n):KW P H .eql t (.c (.f (.sl n cs))) (.c (.f .nil))=some (.c (.f (.bool false))):=by
 unfold KW
 simp only[ht,hk,VX,if_neg (show¬n=0 by omega)]
 rfl
theorem Jju(xs:List Int)(hx:xs.length≤2^40)(h0:xs≠[]):Jn Tryz.prog 89 [QG xs] [] (Wa xs):=by
 have hp:0<xs.length:=List.length_pos_iff.2 h0
 refine Jn.cw (c:=_) Tryz.func89 rfl (n:=8) Tryz.ntmps89 (rs:=[.tmp 2]) rfl ?_
 simp only[Je,Jf,zA,zS,Jd,Ja,Jc]
 simp(maxSteps:=999999)(disch:=omega)only[go_sem,zA,zM,zS,zE,zL,JbG Uv rfl hp]
 intro g g'
 rw[Nat.zero_add]
 exact⟨_,J0.refl _,_,_,rfl, .o 0 g' none xs [] (by rw[Ju];exact J6 (b:=⟨g',1,cl (eI .i64) xs⟩) rfl),Wf (fun id b hb=>by simp at hb)⟩
theorem JkQ:Jn Tryz.prog 89 [QG []] [] (Wa []):=by
 refine Jn.of_bodyN (c:=_) rfl rfl (n:=8) rfl (rs:=[.tmp 2]) rfl ?_
 refine QE.seq (QE.region (JY.val (v:= .c (.f .nil)) rfl ?_))
 refine QE.seq (QE.seq (QE.region (JY.val (v:=QG []) rfl (JY.nilOpen rfl (We Uv rfl YQ) rfl rfl fun b=> ?_))))
 refine QE.cond (b:=b) rfl (fun hb=> ?_) (fun hb=> ?_)
 · refine QE.seq (QE.region (JY.valNil rfl ?_))
   refine QE.ret ?_
   exact⟨.inr rfl,_,_,rfl,J0.refl _,_,_,rfl, .e,fun id b hb=>by simp at hb⟩
 · refine QE.skip ?_
   refine(Ua _ _ _ (FD Tryz.prog [.tmp 2] (Wa [])) ?_).mono fun e st ⟨h1,v,h2,H',h3,h4⟩=>⟨h1,v,H',h2,h3,h4⟩
   simp only[Je,Jf,zA,zS,Jd,Ja,Jc]
   simp(maxSteps:=999999)(disch:=omega)only[go_sem,zA,zM,zS,zE,zL]
   intro g
   show Uy [some ⟨g,1,[]⟩] (Wa []) (.c (.own 0 g 0 0 none))
   exact⟨_,J0.refl _,_,_,rfl, .o 0 g none [] [] (J6 (b:=⟨g,1,[]⟩) rfl),Wf (xs:=[]) (fun id b hb=>by simp at hb)⟩
theorem Yb(xs:List Int)(hx:xs.length≤2^40):Jn Tryz.prog 89 [QG xs] [] (Wa xs):=by
 by_cases h:xs=[]
 · subst h;exact JkQ
 · exact Jju xs hx h
end Go.Lg

namespace Go.Lg
open Go.Proofs
section
variable{P:Program}{ops:Array Oper}{o:Oper}{s:List AV}{H:Jm}{K:KV}{fo:Operand}{xs:Array Operand}{ts:Array TypeId}{f:FuncId}{args args':List AV}{zs:List Int}
theorem JM.mkI(hc:Jn P f args [] (Wa zs))(he:Jh P f)(ho:o.op= .call ⟨.value fo,xs,ts⟩)(ha:Qa ⟨s,H⟩ fo xs=some (f,args))(hf:args.all Q0=true)
 (hk:∀c H' S,Qw (H++H') c zs S→(∀i∈S,H.length≤i∧i<H.length+H'.length)→K (.c c) (H++H')):JM P ops o s H K:=
 JM.call ho ha fun s' ha'=>JY.mkI hc he ho ha' hf hk
end
theorem Jn.wk{P:Program}{f:FuncId}{args:List AV}{H:Jm}{Q Q':KV}(h:Jn P f args H Q)(hw:∀v H',Q v H'→∃v',(∀w X u,VA w X H' v u→VA w X H' v' u)∧Q' v' H'):Jn P f args H Q':=
 fun w X vs hH hvs=>(h w X vs hH hvs).mono fun e w' ⟨v,u,X',H',h1,h2,h3,h4,h5⟩=>
  let⟨v',k1,k2⟩:=hw v H' h5
  ⟨v',u,X',H',h1,k1 _ _ _ h2,h3,h4,k2⟩
theorem JcJ{H H3:Jm}{g sz:Nat}{cs:List CV}:look (H++[some ⟨g,sz,cs⟩]++H3) H.length g=some ⟨g,sz,cs⟩:=J6 (b:=⟨g,sz,cs⟩) (by simp)
theorem JjM{H H3:Jm}{x y:Option Zv}:(H++[x]++H3).set H.length y=H++[y]++H3:=by
 rw[Jt,Jt,List.set_append_right _ _ (Nat.le_refl _),Nat.sub_self];rfl
theorem Zo{H:Jm}{id j g:Nat}{x:Option Zv}(h:id≠j):look (H.set id x) j g=look H j g:=by
 unfold look;rw[Ji h]
structure CpI(B:Jm)(j g:Nat)(size:Int)(given:List Int)(c r:CV)(l:List RO)(S I:List Nat):Prop where
 out:look B j g=some ⟨g,3,[.f (.int .i64 size),c,r]⟩
 rl:(l=[]∧r= .f .nil∧I=S)∨∃id g',r= .own id g' 0 l.length none∧look B id g'=some ⟨g',3,kl kR l⟩∧I=S++id::l.flatMap (·.i)
 cells:∀o∈l,Qw B o.c o.r.cells o.i
 giv:Qw B c given S
 nd:I.Nodup
 lt:∀x∈I,2≤x∧x<B.length∧x≠j
theorem CpI.next{B B3:Jm}{j g:Nat}{size:Int}{given:List Int}{c r:CV}{l:List RO}{S I:List Nat}(hC:CpI B j g size given c r l S I)(o:RO){id g':Nat}
 (hI:(l=[]∧I=S∧B.length≤id)∨I=S++id::l.flatMap (·.i)) (hs:∀k∈I,k≠id→B3[k]? =B[k]?) (hlen:B.length≤B3.length)
 (hout:look B3 j g=some ⟨g,3,[.f (.int .i64 size),c, .own id g' 0 (l.length+1) none]⟩) (hid:look B3 id g'=some ⟨g',3,kl kR (l++[o])⟩)
 (ho:Qw B3 o.c o.r.cells o.i) (hoi:∀k∈o.i,B.length≤k∧k<B3.length∧k≠id∧k≠j) (hi:2≤id∧id<B3.length∧id≠j) (h2:2≤B.length):
 CpI B3 j g size given c (.own id g' 0 (l.length+1) none) (l++[o]) S (S++id::(l++[o]).flatMap (·.i)):=by
 have hJ:(S++id::l.flatMap (·.i)).Nodup∧(∀x∈S++l.flatMap (·.i),x∈I)∧(∀x∈S++l.flatMap (·.i),x≠id):=by
  rcases hI with⟨rfl,rfl,hb⟩|rfl
  · have hne:∀x∈I,x≠id:=fun x hx=>by have:=hC.lt x hx;omega
    refine⟨?_,by simp,by simpa using hne⟩
    simp only[List.flatMap_nil]
    rw[Qm]
    exact⟨hC.nd,by simp,fun a ha b hb=>by simp at hb;subst hb;exact hne a ha⟩
  · have hn:=hC.nd
    refine⟨hn,fun x hx=> ?_,fun x hx he=> ?_⟩
    · simp only[JZ,Qx]at hx⊢
      rcases hx with hx|hx
      · exact .inl hx
      · exact .inr (.inr hx)
    · subst he
      rw[Qm]at hn
      obtain⟨n1,n2,n3⟩:=hn
      rcases JZ.1 hx with hx|hx
      · exact n3 x hx x (by simp) rfl
      · exact(Vz.1 n2).1 hx
 obtain⟨hn,hin,hne⟩:=hJ
 have hmem:∀x∈S++id::(l++[o]).flatMap (·.i),x∈S++l.flatMap (·.i)∨x=id∨x∈o.i:=fun x hx=>by
  simp only[List.flatMap_append,List.flatMap_cons,List.flatMap_nil,Ju,JZ,Qx]at hx⊢
  rcases hx with hx|rfl|hx|hx
  · exact .inl (.inl hx)
  · exact .inr (.inl rfl)
  · exact .inl (.inr hx)
  · exact .inr (.inr hx)
 refine⟨hout, .inr ⟨id,g',by simp,hid,rfl⟩,fun o' ho'=> ?_, ?_, ?_,fun x hx=> ?_⟩
 · rcases JZ.1 ho' with ho'|ho'
   · refine(hC.cells o' ho').same fun k hk=> ?_
     have:k∈S++l.flatMap (·.i):=JZ.2 (.inr (List.mem_flatMap.2 ⟨o',ho',hk⟩))
     exact hs k (hin k this) (hne k this)
   · simp at ho';subst ho';exact ho
 · refine hC.giv.same fun k hk=> ?_
   have:k∈S++l.flatMap (·.i):=JZ.2 (.inl hk)
   exact hs k (hin k this) (hne k this)
 · have e:S++id::(l++[o]).flatMap (·.i)=(S++id::l.flatMap (·.i))++o.i:=by simp
   rw[e,Qm]
   refine⟨hn,ho.nd,fun a ha b hb he=> ?_⟩
   subst he
   have h4:=hoi a hb
   have:a∈S++l.flatMap (·.i):=by
    simp only[JZ,Qx]at ha⊢
    rcases ha with ha|ha|ha
    · exact .inl ha
    · exact absurd ha h4.2.2.1
    · exact .inr ha
   have:=hC.lt a (hin a this)
   omega
 · rcases hmem x hx with hx|rfl|hx
   · have:=hC.lt x (hin x hx);omega
   · exact hi
   · have:=hoi x hx;omega
def puzQ0(p:QV):KV:=fun v H=>∃c r S1 S2,v= .agg [.f (.int .i64 p.size),c,r]∧Qw H c p.given S1∧((r= .f .nil∧p.rules=[]∧S2=[])∨UW H r p.rules S2)∧(S1++S2).Nodup
def Jkl:CV→Prop
 | .own _ _ _ _ lim=>lim=none
 | .f .nil=>True
 |_=>False
def JkV(p:QV):KV:=fun v H=>∃c r S1 S2,v= .agg [.f (.int .i64 p.size),c,r]∧Qw H c p.given S1∧((r= .f .nil∧p.rules=[]∧S2=[])∨UW H r p.rules S2)∧(S1++S2).Nodup∧Jkl r
theorem CpI.done{B B':Jm}{j g:Nat}{p:QV}{c r:CV}{l:List RO}{S I:List Nat}(hC:CpI B j g p.size p.given c r l S I)(hm:l.map (·.r)=p.rules)(hs:∀k∈I,B'[k]? =B[k]?):
 JkV p (.agg [.f (.int .i64 p.size),c,r]) B':=by
 rcases hC.rl with⟨rfl,rfl,rfl⟩|⟨id,g',rfl,hid,rfl⟩
 · exact⟨_,_,_,[],rfl,hC.giv.same hs, .inl ⟨rfl,hm.symm,rfl⟩,by rw[Ju];exact hC.nd,trivial⟩
 · refine⟨_,_,_,_,rfl,hC.giv.same fun k hk=>hs k (JZ.2 (.inl hk)), .inr ?_,hC.nd,rfl⟩
   rw[←hm]
   refine UW.same (.o id g' none l [] (by rw[Ju];exact hid) hC.cells ?_ (by simp)) fun k hk=>hs k (JZ.2 (.inr hk))
   have:=hC.nd
   rw[Qm]at this
   exact this.2.1
theorem QW{H:Jm}{id g sz:Nat}{cs:List CV}(h:id<H.length):look (H.set id (some ⟨g,sz,cs⟩)) id g=some ⟨g,sz,cs⟩:=J6 (b:=⟨g,sz,cs⟩) (by rw[J2 h])
theorem FS(p:QV)(hx:YR p):Jn Tryz.prog 78 [aP p] [] (JkV p):=by
 refine Jn.cw (c:=_) Tryz.func78 rfl (n:=31) Tryz.ntmps78 (rs:=[.cell 2 26]) rfl ?_
 simp only[Je,Jf,zA,zS,Jd,Ja,Jc]
 simp(maxSteps:=999999)(disch:=omega)only[go_sem,zA,zM,zS,zE,zL]
 intro g1 g2
 refine Z9 [0,1,2,3,6,4,5] [] (some 6) [7] [] Zd (by kernel_rfl) ?_
 simp(maxSteps:=999999)(disch:=omega)only[go_sem,Nat.reduceBEq,Bool.true_or,zA,zM,zS,zE,zL]
 refine JM.mkI (Yb p.given hx.1) (⟨_,Tryz.func89,rfl,rfl⟩:Jh Tryz.prog 89) rfl rfl rfl ?_
 intro c H1 S h1 hS
 simp(maxSteps:=999999)(disch:=omega)only[go_sem,zA,zM,zS,zE,zL,JI,QP]
 intro g
 refine Qv (fun(i:Nat) (b:Jm×CV×List RO×List Nat)=>p.rules.length -i) (fun i b=>i≤p.rules.length∧b.2.2.1.length=i∧b.2.2.1.map (·.r)=p.rules.take i∧look b.1 1 g2=some ⟨g2,3,[.f (.int .i64 0), .f .nil, .f .nil]⟩∧CpI b.1 (H1.length+1+1) g p.size p.given c b.2.1 b.2.2.1 S b.2.2.2)
  (fun i _=>[.a, .a, .k, .k, .a, .a, .a, .a, .a, .a, .a, .a, .a, .k, .k, .p (int i), .a, .a, .a, .a, .a, .a, .a, .a, .a, .a, .a, .a, .a, .a, .a]) (fun i b=>b.1) 0 (some ⟨g1,1,cP p⟩::some ⟨g2,3,[.f (.int .i64 0), .f .nil, .f .nil]⟩::(H1++[some ⟨g,3,[.f (.int .i64 p.size),c, .f .nil]⟩]), .f .nil,[],S)
  ⟨Nat.zero_le _,rfl,rfl,J6 (b:=⟨g2,3,[.f (.int .i64 0), .f .nil, .f .nil]⟩) rfl, ?_⟩ (by simp(maxSteps:=999999)(disch:=omega)only[go_sem,zA,zM,zS,zE,zL];rfl) (J0.refl _) ?_
 · refine⟨J6 (b:=⟨g,3,[.f (.int .i64 p.size),c, .f .nil]⟩) (by simp), .inl ⟨rfl,rfl,rfl⟩,by simp,h1.app,h1.nd,fun x hx=> ?_⟩
   have:=hS x hx
   simp only[Jk,Je,Jf]at this⊢
   omega
 rintro i ⟨B,r,l,I⟩ ⟨hi,hl,hm,h1,hC⟩
 simp only at hl hm h1 hC⊢
 have hj2:2≤H1.length+1+1:=by omega
 generalize H1.length+1+1=j at hC hj2⊢
 simp(maxSteps:=999999)(disch:=omega)only[go_sem,zA,zM,zS,zE,zL]
 ((first|(with_reducible first|refine Jl ?_ ?_|refine Jj ?_ ?_|refine Jp ?_ ?_)|refine Jr ?_ ?_)<;>intro h)
 · have h:i<p.rules.length:=by omega
   simp(maxSteps:=999999)(disch:=omega)only[go_sem,zA,zM,zS,zE,zL,JI,QP]
   intro g3
   refine JY.mkI (Yb (JA p.rules i).cells (hx.2.2 _ (ZX h))) (⟨_,Tryz.func89,rfl,rfl⟩:Jh Tryz.prog 89) rfl rfl rfl ?_
   intro c3 H3 S3 h3 hS3
   simp(maxSteps:=999999)(disch:=omega)only[go_sem,zA,zM,zS,zE,zL,JcJ,JjM]
   generalize hB2:B++[some ⟨g3,3,[.f (.int .i64 (JA p.rules i).kind),c3, .f (.int .i64 (JA p.rules i).val)]⟩]++H3=B2
   have hap:∃X,B2=B++X:=⟨_,by rw[←hB2,Jt]⟩
   have hlB:B.length<B2.length:=by rw[←hB2];simp
   have hR:look B2 B.length g3=some ⟨g3,3,[.f (.int .i64 (JA p.rules i).kind),c3, .f (.int .i64 (JA p.rules i).val)]⟩:=by rw[←hB2];exact JcJ
   have hB:∀{k g':Nat} {b:Zv},look B k g'=some b→look B2 k g'=some b:=fun h=>by obtain⟨X,rfl⟩:=hap;exact JX h
   have h4:Qw B2 c3 (JA p.rules i).cells S3:=by
    refine h3.same fun k hk=> ?_
    have:=hS3 k hk
    simp only[Jk,Je,Jf]at this
    rw[←hB2]
    simp only[Jt,Ja,Jc]
    rw[J1 (by omega),J1 (by omega),List.getElem?_cons,List.getElem?_cons]
    rw[if_neg (by omega),if_neg (by omega)]
   have hS4:∀k∈S3,B.length+1≤k∧k<B2.length:=fun k hk=>by
    have:=hS3 k hk
    rw[←hB2]
    simp only[Jk,Je,Jf]at this⊢
    omega
   have hpl:p.rules.length≤2^40:=hx.2.1
   have hk1:∀k,k<B.length→B2[k]? =B[k]? :=fun k hk=>by obtain⟨X,rfl⟩:=hap;exact Jb hk
   have hlen:1<B.length:=(Jg.1 (JJ h1).1).1
   have hjl:j<B.length:=(Jg.1 (JJ hC.out).1).1
   have h12:=hB h1
   have hj:=hB hC.out
   clear hB2 h3 hS3
   rcases hC.rl with⟨rfl,rfl,rfl⟩|⟨id,g',rfl,hid,rfl⟩
   · have hj5:∀X,look (B2++X) j g=some ⟨g,3,[.f (.int .i64 p.size),c, .f .nil]⟩:=fun X=>JX hj
     have hj6:∀X Y,look (B2++X++Y) j g=some ⟨g,3,[.f (.int .i64 p.size),c, .f .nil]⟩:=fun X Y=>JX (JX hj)
     simp(maxSteps:=999999)(disch:=omega)only[go_sem,zA,zM,zS,zE,zL,hR,hj,hj5,hj6,JI,QP]
     intro g4 g5
     refine⟨i+1,(_, .own (B2.length+1) g5 0 1 none,[]++[⟨JA p.rules i,c3,S3⟩],_),⟨⟨h,by simp at hl⊢;omega,by rw[QB,hm,Ql h];rfl, ?_,CpI.next (id:=B2.length+1) (g':=g5) hC ⟨JA p.rules i,c3,S3⟩ (.inl ⟨rfl,rfl,by omega⟩) (fun k hk hki=> ?_) ?_ ?_ ?_ (h4.same fun k hk=> ?_) (fun k hk=> ?_) ?_ hlen⟩,by omega⟩,by omega,J0.refl _⟩
     · rw[Zo (by omega)];exact JX (JX h12)
     · have:=hC.lt k hk
       rw[Ji (by omega),Jb (by simp;omega),Jb (by omega),hk1 k (by omega)]
     · simp;omega
     · exact QW (by simp;omega)
     · rw[Zo (by omega)]
       exact J6 (b:=⟨g5,3,[.f (.int .i64 (JA p.rules i).kind),c3, .f (.int .i64 (JA p.rules i).val)]⟩) (by simp)
     · have:=hS4 k hk
       rw[Ji (by omega),Jb (by simp;omega),Jb (by omega)]
     · have:=hS4 k hk
       simp only[Jo,Jk,Je,Jf]
       omega
     · simp only[Jo,Jk,Je,Jf]
       omega
   · have hid:=hB hid
     have hne:=hC.lt id (by simp)
     have hj5:∀X,look (B2++X) j g=some ⟨g,3,[.f (.int .i64 p.size),c, .own id g' 0 l.length none]⟩:=fun X=>JX hj
     have hid5:∀X,look (B2++X) id g'=some ⟨g',3,kl kR l⟩:=fun X=>JX hid
     have hnj:id≠j:=hne.2.2
     have hll:l.length≤2^40:=by have:=hx.2.1;omega
     simp(maxSteps:=999999)(disch:=omega)only[go_sem,zA,zM,zS,zE,zL,hR,hj,hj5,hid5,JI,QP,BR,Zo hnj]
     intro g4 g5
     refine⟨i+1,(_, .own id g5 0 (l.length+1) none,l++[⟨JA p.rules i,c3,S3⟩],_),⟨⟨h,by simp[hl],by rw[QB,hm,Ql h];rfl, ?_,CpI.next (id:=id) (g':=g5) hC ⟨JA p.rules i,c3,S3⟩ (.inr rfl) (fun k hk hki=> ?_) ?_ ?_ ?_ (h4.same fun k hk=> ?_) (fun k hk=> ?_) ?_ hlen⟩,by omega⟩,by omega,J0.refl _⟩
     · rw[Zo (by omega),Zo (by omega)];exact JX h12
     · have:=hC.lt k hk
       rw[Ji (by omega),Ji (by omega),Jb (by omega),hk1 k (by omega)]
     · simp;omega
     · exact QW (by simp;omega)
     · rw[Zo (by omega),QW (by simp;omega),Jgj]
       rfl
     · have:=hS4 k hk
       rw[Ji (by omega),Ji (by omega),Jb (by omega)]
     · have:=hS4 k hk
       simp only[Jo,Jk,Je,Jf]
       omega
     · simp only[Jo,Jk,Je,Jf]
       omega
 · have hout:=hC.out
   have hlen:1<B.length:=by
    obtain⟨hh,_⟩:=JJ h1
    exact(Jg.1 hh).1
   simp(maxSteps:=999999)(disch:=omega)only[go_sem,zA,zM,zS,zE,zL,hout,h1,QW hlen]
   have hi':i=p.rules.length:=by omega
   subst hi'
   rw[List.take_length]at hm
   refine⟨_,J0.refl _,hC.done hm fun k hk=> ?_⟩
   have:=hC.lt k hk
   exact Ji (by omega)
theorem Kq(p:QV)(hx:YR p):Jn Tryz.prog 78 [aP p] [] (puzQ0 p):=
 (FS p hx).weaker fun v H' ⟨c,r,S1,S2,h1,h2,h3,h4,_⟩=>⟨H',J0.refl _,c,r,S1,S2,h1,h2,h3,h4⟩
end Go.Lg

namespace Go.Lg
open Go.Proofs
section
variable{P:Program}{ops:Array Oper}{o:Oper}{s:List AV}{H:Jm}{K:KV}{fo:Operand}{xs:Array Operand}{ts:Array TypeId}{f:FuncId}{args args':List AV}{zs:List Int}
theorem JM.mkP{p:QV}(hc:Jn P f args [] (Jlr p))(he:Jh P f)(ho:o.op= .call ⟨.value fo,xs,ts⟩)(ha:Qa ⟨s,H⟩ fo xs=some (f,args))(hf:args.all Q0=true)
 (hk:∀cs H' S,Xi (H++H') cs p S→(∀i∈S,H.length≤i∧i<H.length+H'.length)→K (.agg cs) (H++H')):JM P ops o s H K:=
 JM.call ho ha fun s' ha'=>JY.mkP hc he ho ha' hf hk
end
theorem VA.wk3{w:World}{X:Cx}{H:Jm}{a b:CV}{u:Value}(h:VA w X H (.agg [a,b, .f .nil]) u):VA w X H (.agg [a,b, .f (.sl 0 [])]) u:=by
 cases h with
 |agg cs vs hs h=>
  refine .agg _ vs hs fun j hj=> ?_
  obtain⟨x,h1,h2⟩:=h j hj
  refine⟨x,h1, ?_⟩
  rcases j with _|_|_|j
  · exact h2
  · exact h2
  · have h2:VF w X.I .nil x:=h2
    cases h2
    exact VF.sl0 none 0
  · simp at hj;omega
theorem QF{a b:Option Zv}{L:Jm}{k:Nat}(h:2≤k):(a::b::L)[k]? =L[k -2]? :=by
 obtain⟨n,rfl⟩:∃n,k=n+2:=⟨k -2,by omega⟩
 rfl
theorem Jh8{S1 S2 S3 S4:List Nat}{n1 n2:Nat}(h12:(S1++S2).Nodup)(h3:S3.Nodup)(h4:S4.Nodup)(k12:∀i∈S1++S2,i<n1)(k3:∀i∈S3,n1≤i∧i<n2)(k4:∀i∈S4,n2≤i)(hn:n1≤n2):(S1++(S2++(S3++S4))).Nodup:=by
 rw[←Jt,Qm]
 refine⟨h12, ?_,fun a ha b hb he=> ?_⟩
 · rw[Qm]
   refine⟨h3,h4,fun a ha b hb he=> ?_⟩
   have:=k3 a ha;have:=k4 b hb;omega
 · have:=k12 a ha
   rcases JZ.1 hb with hb|hb
   · have:=k3 b hb;omega
   · have:=k4 b hb
     omega
theorem Kp(p:QV)(hx:YR p):Jn Tryz.prog 78 [aP p] [] (Jlr p):=by
 refine(Kq p hx).wk ?_
 rintro v H' ⟨c,r,S1,S2,rfl,h1,h2,h3⟩
 rcases h2 with⟨rfl,h4,rfl⟩|h2
 · refine⟨.agg [.f (.int .i64 p.size),c, .f (.sl 0 [])],fun w X u h=> ?_,_,_,rfl,⟨_,_,S1,[],rfl,rfl,h1,by rw[h4];exact .e⟩,h3⟩
   exact h.wk3
 · exact⟨_,fun _ _ _ h=>h,_,_,rfl,⟨_,_,S1,S2,rfl,rfl,h1,h2⟩,h3⟩
theorem Jbz(q:ZF)(hx:smG q):Jn Tryz.prog 44 [aG q] [] (gamQ q):=by
 refine Jn.cw (c:=_) Tryz.func44 rfl (n:=13) Tryz.ntmps44 (rs:=[.cell 2 28]) rfl ?_
 simp only[Je,Jf,zA,zS,Jd,Ja,Jc]
 simp(maxSteps:=999999)(disch:=omega)only[go_sem,zA,zM,zS,zE,zL]
 intro g1 g2
 refine Z9 [0,1,3,4,6,7,2,5] [] none [8,9,10] [] Zd (by kernel_rfl) ?_
 simp(maxSteps:=999999)(disch:=omega)only[go_sem,Nat.reduceBEq,Bool.true_or,zA,zM,zS,zE,zL]
 refine JM.mkP (Kp q.task hx.1) (⟨_,Tryz.func78,rfl,rfl⟩:Jh Tryz.prog 78) rfl rfl rfl ?_
 rintro _ H1 _ ⟨⟨c1,c2,S1,S2,rfl,rfl,k1,k2⟩,kn⟩ hS
 simp(maxSteps:=999999)(disch:=omega)only[go_sem,zA,zM,zS,zE,zL]
 refine JM.mkI (Yb q.put hx.2.1) (⟨_,Tryz.func89,rfl,rfl⟩:Jh Tryz.prog 89) rfl rfl rfl ?_
 intro c3 H3 S3 h3 hS3
 simp(maxSteps:=999999)(disch:=omega)only[go_sem,zA,zM,zS,zE,zL]
 refine JY.mkI (Yb q.moves hx.2.2) (⟨_,Tryz.func89,rfl,rfl⟩:Jh Tryz.prog 89) rfl rfl rfl ?_
 intro c4 H4 S4 h4 hS4
 simp(maxSteps:=999999)(disch:=omega)only[go_sem,zA,zM,zS,zE,zL]
 simp only[Jk,Je,Jf]at hS hS3 hS4
 refine⟨_,J0.refl _,_,_,rfl,V6.of (p:=q.task) (S1:=S1) (S2:=S2) ⟨⟨_,_,_,_,rfl,rfl,k1.same fun k hk=> ?_,k2.same fun k hk=> ?_⟩,kn⟩ (h3.same fun k hk=> ?_) (h4.same fun k hk=> ?_) (Jh8 (n1:=H1.length+2) (n2:=H1.length+2+H3.length) kn h3.nd h4.nd (fun k hk=> ?_) (fun k hk=> ?_) (fun k hk=> ?_) (by omega))⟩
 · have:=hS k (by simp[hk])
   simp only[Ja,Jc]
   rw[QF (by omega),QF (by omega),Jb (by simp;omega),Jb (by omega)]
 · have:=hS k (by simp[hk])
   simp only[Ja,Jc]
   rw[QF (by omega),QF (by omega),Jb (by simp;omega),Jb (by omega)]
 · have:=hS3 k hk
   simp only[Ja,Jc]
   rw[QF (by omega),QF (by omega),Jb (by simp;omega)]
 · have:=hS4 k hk
   simp only[Ja,Jc]
   rw[QF (by omega),QF (by omega)]
 · have:=hS k hk;omega
 · have:=hS3 k hk;omega
 · have:=hS4 k hk;omega
end Go.Lg

namespace Go.Lg
open Go.Proofs
def wkC:CV→CV
 | .f .nil=> .f (.sl 0 [])
 |c=>c
theorem VC.wk{w:World}{X:Cx}{H:Jm}{c:CV}{v:Value}(h:VC w X H c v):VC w X H (wkC c) v:=by
 unfold wkC
 split
 · have h:VF w X.I .nil v:=h
   cases h
   exact VF.sl0 none 0
 · exact h
def Xd(p:QV):ZF:=if Jy p=true then⟨p,Jd p.given.length 0,[]⟩else⟨⟨0,[],[]⟩,[],[]⟩
end Go.Lg

namespace Go.Lg
open Go.Proofs
def JhE(r:ZS):KV:=fun v H=>∃c S,v= .agg [.f (.int .i64 r.kind),c, .f (.int .i64 r.val)]∧Qw H c r.cells S
theorem JW.rule{P:Program}{f:FuncId}{args:List AV}{r:ZS}(h:Jn P f args [] (JhE r)):JW P f args (aR r):=
 JW.ice h fun v H' ⟨c,S,h1,h2⟩=>by
  subst h1
  have e1:∀n:Int,Lg.frzC H' (.f (.int .i64 n))=some (.f (.int .i64 n)):=fun _=>rfl
  simp only[VZ,J3,QC,XV,e1,h2.frzC,Option.map_some,Option.pure_def,Option.bind_eq_bind,Option.bind_some]
  try rfl
theorem NZ(r:ZS)(hx:r.cells.length≤2^40):Jn Tryz.prog 150 [aR r] [] (JhE r):=by
 obtain⟨k,cells,v⟩:=r
 simp only at hx
 rcases Nat.eq_zero_or_pos cells.length with h0|h0
 · have:cells=[]:=List.eq_nil_of_length_eq_zero h0
   subst this
   refine Jn.cw (c:=_) Tryz.func150 rfl (n:=11) Tryz.ntmps150 (rs:=[.cell 2 101]) rfl ?_
   simp only[Je,Jf,zA,zS,Jd,Ja,Jc]
   simp(maxSteps:=999999)(disch:=omega)only[go_sem,zA,zM,zS,zE,zL]
   intro g g1 g2 g3
   show Uy [some ⟨g,1,cR ⟨k,[],v⟩⟩,some ⟨g1,3,[.f (.int .i64 k), .own 3 g3 0 0 none, .f (.int .i64 v)]⟩,some ⟨g2,3,[.f (.int .i64 k), .own 3 g3 0 0 none, .f (.int .i64 v)]⟩,some ⟨g3,1,[]⟩] (JhE ⟨k,[],v⟩) (.agg [.f (.int .i64 k), .own 3 g3 0 0 none, .f (.int .i64 v)])
   exact⟨_,J0.refl _,_,_,rfl, .o 3 g3 none [] [] (J6 (b:=⟨g3,1,[]⟩) rfl)⟩
 · refine Jn.cw (c:=_) Tryz.func150 rfl (n:=11) Tryz.ntmps150 (rs:=[.cell 2 101]) rfl ?_
   simp only[Je,Jf,zA,zS,Jd,Ja,Jc]
   simp(maxSteps:=999999)(disch:=omega)only[go_sem,zA,zM,zS,zE,zL]
   intro g g1 g2 g3 g4
   rw[Nat.zero_add]
   exact⟨_,J0.refl _,_,_,rfl, .o 3 g4 none cells [] (by rw[Ju];exact J6 (b:=⟨g4,1,cl (eI .i64) cells⟩) rfl)⟩
theorem K3(r:ZS)(hx:r.cells.length≤2^40):JW Tryz.prog 150 [aR r] (aR r):=JW.rule (NZ r hx)
theorem Bh(rs:List ZS)(hx:JfI rs):Jn Tryz.prog 127 [rsl eR rs] [] (GE eR 3 rs):=by
 obtain⟨hn,hc⟩:=hx
 refine Jn.cw (c:=_) Tryz.func127 rfl (n:=21) Tryz.ntmps127 (rs:=[.tmp 2]) rfl ?_
 simp only[Je,Jf,zA,zS,Jd,Ja,Jc]
 simp(maxSteps:=999999)(disch:=omega)only[go_sem,zA,zM,zS,zE,zL]
 intro g
 refine Qv (fun(i g:Nat)=>rs.length -i) (fun i g=>i≤rs.length) (fun i g=>[.k, .a, .a, .p (.c (.own 0 g 0 i none)), .p (int i), .a, .a, .a, .a, .a, .a, .a, .a, .a, .a, .a, .a, .a, .a, .a, .a]) (fun i g=>[some ⟨g,3,cl eR (rs.take i)⟩]) 0 g
  (Nat.zero_le _) (by simp(maxSteps:=999999)(disch:=omega)only[go_sem,zA,zM,zS,zE,zL];rfl) (J0.refl _) ?_
 intro i g hi
 simp(maxSteps:=999999)(disch:=omega)only[go_sem,zA,zM,zS,zE,zL]
 ((first|(with_reducible first|refine Jl ?_ ?_|refine Jj ?_ ?_|refine Jp ?_ ?_)|refine Jr ?_ ?_)<;>intro h)
 · have h:i<rs.length:=by omega
   simp(maxSteps:=999999)(disch:=omega)only[go_sem,zA,zM,zS,zE,zL]
   first|refine JY.mk (K3 (JA rs i) (hc _ (ZX h))) (⟨_,Tryz.func150,rfl,rfl⟩:Jh Tryz.prog 150) rfl rfl rfl rfl rfl ?_|refine JM.mk (K3 (JA rs i) (hc _ (ZX h))) (⟨_,Tryz.func150,rfl,rfl⟩:Jh Tryz.prog 150) rfl rfl rfl rfl rfl ?_
   simp(maxSteps:=999999)(disch:=omega)only[go_sem,zA,zM,zS,zE,zL]
   intro g1 g2
   refine⟨i+1,g2,⟨h,by omega⟩,⟨⟨rfl,rfl⟩,by push_cast;omega⟩,ZU ?_ (Qt _)⟩
   rw[Ql h,QZ]
   rfl
 · have hi':i=rs.length:=by omega
   simp(maxSteps:=999999)(disch:=omega)only[go_sem,zA,zM,zS,zE,zL]
   subst hi'
   rw[List.take_length]
   exact ZD (J0.refl _)
theorem U9(rs:List ZS)(hx:JfI rs):JW Tryz.prog 127 [rsl eR rs] (rsl eR rs):=JW.own (Bh rs hx)
theorem YG(p:QV)(hx:YR p):JW Tryz.prog 98 [aP p] (aP p):=by
 obtain⟨n,gs,rs⟩:=p
 obtain⟨hg,hr⟩:=hx
 simp only at hg hr
 refine JW.iced ?_
 rcases Nat.eq_zero_or_pos gs.length with h0|h0
 · refine Jn.cw (c:=_) Tryz.func98 rfl (n:=15) Tryz.ntmps98 (rs:=[.cell 2 26]) rfl ?_
   simp only[Je,Jf,zA,zS,Jd,Ja,Jc]
   simp(maxSteps:=999999)(disch:=omega)only[go_sem,zA,zM,zS,zE,zL]
   intro g1 g2 g3 g4
   first|refine JY.mk (U9 rs hr) (⟨_,Tryz.func127,rfl,rfl⟩:Jh Tryz.prog 127) rfl rfl rfl rfl rfl ?_|refine JM.mk (U9 rs hr) (⟨_,Tryz.func127,rfl,rfl⟩:Jh Tryz.prog 127) rfl rfl rfl rfl rfl ?_
   simp(maxSteps:=999999)(disch:=omega)only[go_sem,zA,zM,zS,zE,zL]
   have:gs=[]:=List.eq_nil_of_length_eq_zero h0
   subst this
   exact Ui (by simp only[go_sem,J3,QC,VZ,XV,frzC,frz,B1,Option.pure_def,Option.bind_eq_bind,Option.bind_some]<;>rfl)
 · refine Jn.cw (c:=_) Tryz.func98 rfl (n:=15) Tryz.ntmps98 (rs:=[.cell 2 26]) rfl ?_
   simp only[Je,Jf,zA,zS,Jd,Ja,Jc]
   simp(maxSteps:=999999)(disch:=omega)only[go_sem,zA,zM,zS,zE,zL]
   intro g1 g2 g3 g4 g5
   rw[Nat.zero_add]
   first|refine JY.mk (U9 rs hr) (⟨_,Tryz.func127,rfl,rfl⟩:Jh Tryz.prog 127) rfl rfl rfl rfl rfl ?_|refine JM.mk (U9 rs hr) (⟨_,Tryz.func127,rfl,rfl⟩:Jh Tryz.prog 127) rfl rfl rfl rfl rfl ?_
   simp(maxSteps:=999999)(disch:=omega)only[go_sem,zA,zM,zS,zE,zL]
   exact Ui (by simp only[go_sem,J3,QC,VZ,XV,frzC,frz,B1,Option.pure_def,Option.bind_eq_bind,Option.bind_some]<;>rfl)
end Go.Lg
