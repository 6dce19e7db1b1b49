/- LgZ2, GpP, GpQ, GpR, GpS, cut to what is needed. -/
import Derived.Test.YtidekghnkifbjaaGreatDoorJeb2
import Derived.Test.YtidekghnkifbjaaGreatDoorJea9
open List renaming getElem?_append_left → Ja, cons_append → Jb, nil_append → Jc, replicate → Jd, length_cons → Je, length_nil → Jf, getElem?_set_ne → Jg, getElem?_eq_some_iff → Jh, length_append → Jk, length_set → Jo, getElem?_eq_getElem → Jq, append_assoc → Jt, append_nil → Ju, getElem?_set_self → JX, mem_append → J2, getElem?_append_right → J3, mapM_cons → J4, mem_map → Qj, mem_cons → Qn, nodup_append → Qo, map_cons → Qr, length_map → Qs, getElem?_map → Qv, mapM_nil → Qw, map_append → QE, not_mem_nil → Zh, all_cons → VI, nodup_cons → VK, all_nil → W3
open Nat renaming reduceAdd→zA,reduceMul→zM,reduceSub→zS,reduceEqDiff→zE,reduceLeDiff→zL
set_option linter.unusedSimpArgs false
set_option linter.unusedVariables false
namespace Go.Lg
section
variable{P:Program}{o:Oper}{st:St}{K:KV}{fo:Operand}{xs:Array Operand}{ts:Array TypeId}{f:FuncId}{args args':List AV}{v:AV}{u:Value}{Q:KV}
theorem JZ.rdD(hc:JW P f args' v)(he:Ji P f)(ho:o.op= .call ⟨.value fo,xs,ts⟩)(ha:Qc st fo xs=some (f,args))(hs:args.mapM (Zx st.h)=some args')
 (hf:KE v=some u) (hk:K v st.h):JZ P o st K:=by
 intro w X a R next Q hn
 obtain⟨vs,h1,hvs⟩:=V9 (P:=P) R ho ha he
 obtain⟨hl,hgm⟩:=Uh hs
 have R0:ZL w (X.still w) []:=⟨fun b hb=>hb,fun id b hb=>by simp at hb,fun id id' b b' hb=>by simp at hb,R.heap.tab.mono fun b hb=>⟨R.heap.imm b hb,rfl⟩⟩
 refine R5 (h1 w) ((hc w (X.still w) vs R0 ⟨by rw[hvs.1,hl],fun i hi=> ?_⟩).mono fun e w'' ⟨r,u',X',H',k1,k2,k3,k4,k5⟩=>⟨u, ?_, ?_⟩)
 · obtain⟨x,q1,q2⟩:=hvs.2 i (by omega)
   obtain⟨y,q3,q4⟩:=hgm i (by omega)
   have:args'[i]=y:=by simpa[Jq hi]using q3
   rw[this]
   exact⟨x,q1,FK R.heap q4 q2⟩
 · have k5:r=v:=k5
   subst k5
   rw[k1,(VQ hf).2 _ _ _ _ k2]
 · have hg:Z6 w w'':=⟨fun b hb=>(k4.imm b hb).2,k4.size,k4.os,k4.tape,k4.output⟩
   exact hn v u X st.h w'' ((VQ hf).1 _ _ _) (hg.rel R.heap) (hg.ev R.heap) hk
theorem JZ.mkD(hc:Jn P f args' [] Q)(he:Ji P f)(ho:o.op= .call ⟨.value fo,xs,ts⟩)(ha:Qc st fo xs=some (f,args))(hs:args.mapM (Zx st.h)=some args')
 (hk:∀r H',Q r H'→(Kl r=true∧scal1 r=true∧YX H')∧K (WO st.h.length r) (st.h++Q7 st.h.length H')):JZ P o st K:=by
 obtain⟨h1,h2⟩:=W7 ha
 refine JZ.call ho h1 he ?_
 rw[h2]
 refine(Jn.frameSn (Zx st.h) (fun w X x y v R h hv=>FK R h hv) hs hc fun r H' h=>(hk r H' h).1).mono ?_
 rintro r H2 ⟨r',H',h3,rfl,rfl⟩
 exact(hk _ _ h3).2
end
section
variable{P:Program}{ops:Array Oper}{o:Oper}{s:List AV}{H:Jm}{K:KV}{fo:Operand}{xs:Array Operand}{ts:Array TypeId}{f:FuncId}{args args':List AV}{v:AV}{u:Value}{Q:KV}
theorem JK.rdD(hc:JW P f args' v)(he:Ji P f)(ho:o.op= .call ⟨.value fo,xs,ts⟩)(ha:Qc ⟨s,H⟩ fo xs=some (f,args))(hs:args.mapM (Zx H)=some args')
 (hf:KE v=some u) (hk:K v H):JK P ops o s H K:=JK.call ho ha fun s' ha'=>JZ.rdD hc he ho ha' hs hf hk
theorem JK.mkD(hc:Jn P f args' [] Q)(he:Ji P f)(ho:o.op= .call ⟨.value fo,xs,ts⟩)(ha:Qc ⟨s,H⟩ fo xs=some (f,args))(hs:args.mapM (Zx H)=some args')
 (hk:∀r H',Q r H'→(Kl r=true∧scal1 r=true∧YX H')∧K (WO H.length r) (H++Q7 H.length H')):JK P ops o s H K:=JK.call ho ha fun s' ha'=>JZ.mkD hc he ho ha' hs hk
end
theorem Up{H0 H:Jm}{id g:Nat}{b:Zv}(h:look H id g=some b):look (H0++Q7 H0.length H) (id+H0.length) g=some (ZJ H0.length b):=by
 obtain⟨h1,h2⟩:=JG h
 have:(H0++Q7 H0.length H)[id+H0.length]? =some (some (ZJ H0.length b)):=by
  rw[J3 (by omega),Nat.add_sub_cancel]
  simp[Q7,h1]
 have:=J8 this
 simp only[ZJ]at this⊢
 rw[h2]at this⊢
 exact this
theorem JO{H H':Jm}{id g:Nat}{b:Zv}(h:look H id g=some b):look (H++H') id g=some b:=(J0.app H H').look h
theorem JcK(k:Nat)(c:CV):Vk (Uf k c)=Vk c:=by cases c<;>rfl
theorem Qy.shift{H0 H:Jm}{c:CV}{xs:List Int}{S:List Nat}(h:Qy H c xs S):Qy (H0++Q7 H0.length H) (Uf H0.length c) xs (S.map (· +H0.length)):=by
 cases h with
 |e=>exact .e
 |o id g lim xs ys h=>
  refine .o (id+H0.length) g lim xs ys ?_
  rw[Up h]
  simp only[ZJ,VZ]
theorem Qy.app{H H':Jm}{c:CV}{xs:List Int}{S:List Nat}(h:Qy H c xs S):Qy (H++H') c xs S:=by
 cases h with
 |e=>exact .e
 |o id g lim xs ys h=>exact .o id g lim xs ys (JO h)
def RO.sh(k:Nat)(o:RO):RO:=⟨o.r,Uf k o.c,o.i.map (· +k)⟩
theorem kl_sh(k:Nat)(l:List RO):(kl kR l).map (Uf k)=kl kR (l.map (RO.sh k)):=by
 simp only[kl,List.map_flatMap,List.flatMap_map];rfl
theorem U8.shift{H0 H:Jm}{c:CV}{rs:List Z0}{S:List Nat}(h:U8 H c rs S):U8 (H0++Q7 H0.length H) (Uf H0.length c) rs (S.map (· +H0.length)):=by
 cases h with
 |e=>exact .e
 |o id g lim l ys h hi hd hy=>
  have:=U8.o (H:=H0++Q7 H0.length H) (id+H0.length) g lim (l.map (RO.sh H0.length)) (ys.map (Uf H0.length)) (by
   rw[Up h]
   simp only[ZJ,QE,kl_sh]) (fun o ho=>by
   obtain⟨p,hp,rfl⟩:=Qj.1 ho
   exact(hi p hp).shift) (by
   have e:(id+H0.length)::(l.map (RO.sh H0.length)).flatMap (·.i)=(id::l.flatMap (·.i)).map (· +H0.length):=by
    simp only[Qr,List.flatMap_map,List.map_flatMap];rfl
   rw[e]
   exact List.pairwise_map.2 (hd.imp fun h he=>h (by omega))) (fun c hc=>by
   obtain⟨d,hd,rfl⟩:=Qj.1 hc
   rw[JcK];exact hy d hd)
  simp only[Qs,List.map_map,List.flatMap_map]at this
  simp only[Uf,Qr,List.map_flatMap]
  exact this
theorem U8.app{H H':Jm}{c:CV}{rs:List Z0}{S:List Nat}(h:U8 H c rs S):U8 (H++H') c rs S:=by
 cases h with
 |e=>exact .e
 |o id g lim l ys h hi hd hy=>exact .o id g lim l ys (JO h) (fun o ho=>(hi o ho).app) hd hy
theorem Qy.frzC{H:Jm}{c:CV}{xs:List Int}{S:List Nat}(h:Qy H c xs S):Lg.frzC H c=some (.f (J5 xs)):=by
 have:=h.frz 5
 cases h with
 |e=>rfl
 |o id g lim xs ys h=>simp only[Lg.frzC,this,Option.map_some]
theorem U8.frzC{H:Jm}{c:CV}{rs:List Z0}{S:List Nat}(h:U8 H c rs S):Lg.frzC H c=some (.f (Uu eR rs)):=by
 have:=h.frz 4
 cases h with
 |e=>rfl
 |o id g lim l ys h hi hd hy=>simp only[Lg.frzC,this,Option.map_some]
theorem Qy.lt{H:Jm}{c:CV}{xs:List Int}{S:List Nat}(h:Qy H c xs S):∀i∈S,i<H.length:=by
 cases h with
 |e=>simp
 |o id g lim xs ys h=>intro i hi;have:i=id:=by simpa using hi
                      subst this;exact(Jh.1 (JG h).1).1
theorem U8.lt{H:Jm}{c:CV}{xs:List Z0}{S:List Nat}(h:U8 H c xs S):∀i∈S,i<H.length:=by
 cases h with
 |e=>simp
 |o id g lim l ys h hi hd hy=>
  intro i hm
  rcases Qn.1 hm with rfl|hm
  · exact(Jh.1 (JG h).1).1
  · obtain⟨o,ho,hm⟩:=List.mem_flatMap.1 hm
    exact(hi o ho).lt i hm
theorem Qy.nd{H:Jm}{c:CV}{xs:List Int}{S:List Nat}(h:Qy H c xs S):S.Nodup:=by cases h<;>simp
theorem U8.nd{H:Jm}{c:CV}{xs:List Z0}{S:List Nat}(h:U8 H c xs S):S.Nodup:=by
 cases h with
 |e=>simp
 |o id g lim l ys h hi hd hy=>exact hd
structure XE(H:Jm)(cs:List CV)(p:Q4)(S:List Nat):Prop where
 ex:∃c1 c2 S1 S2,cs=[.f (.int .i64 p.size),c1,c2]∧S=S1++S2∧Qy H c1 p.given S1∧U8 H c2 p.rules S2
 nd:S.Nodup
structure Vx(H:Jm)(cs:List CV)(q:QZ)(S:List Nat):Prop where
 ex:∃c1 c2 c3 c4 S1 S2 S3 S4,cs=[.f (.int .i64 q.task.size),c1,c2,c3,c4]∧S=S1++(S2++(S3++S4))∧Qy H c1 q.task.given S1∧U8 H c2 q.task.rules S2∧Qy H c3 q.put S3∧Qy H c4 q.moves S4
 nd:S.Nodup
theorem XE.snap{H:Jm}{cs:List CV}{p:Q4}{S:List Nat}(h:XE H cs p S):Zx H (.agg cs)=some (aP p):=by
 obtain⟨c1,c2,S1,S2,rfl,_,h1,h2⟩:=h.ex
 simp only[Zx,J4,Qw,h1.frzC,h2.frzC,Option.pure_def,Option.bind_eq_bind,Option.bind_some]
 rfl
theorem Vx.snap{H:Jm}{cs:List CV}{q:QZ}{S:List Nat}(h:Vx H cs q S):Zx H (.agg cs)=some (aG q):=by
 obtain⟨c1,c2,c3,c4,S1,S2,S3,S4,rfl,_,h1,h2,h3,h4⟩:=h.ex
 simp only[Zx,J4,Qw,h1.frzC,h2.frzC,h3.frzC,h4.frzC,Option.pure_def,Option.bind_eq_bind,Option.bind_some]
 rfl
theorem Kv{S:List Nat}{k:Nat}(h:S.Nodup):(S.map (· +k)).Nodup:=List.pairwise_map.2 (h.imp fun h he=>h (by omega))
theorem XE.shift{H0 H:Jm}{cs:List CV}{p:Q4}{S:List Nat}(h:XE H cs p S):XE (H0++Q7 H0.length H) (cs.map (Uf H0.length)) p (S.map (· +H0.length)):=by
 obtain⟨c1,c2,S1,S2,rfl,rfl,h1,h2⟩:=h.ex
 exact⟨⟨_,_,_,_,rfl,by simp,h1.shift,h2.shift⟩,Kv h.nd⟩
theorem Vx.shift{H0 H:Jm}{cs:List CV}{q:QZ}{S:List Nat}(h:Vx H cs q S):Vx (H0++Q7 H0.length H) (cs.map (Uf H0.length)) q (S.map (· +H0.length)):=by
 obtain⟨c1,c2,c3,c4,S1,S2,S3,S4,rfl,rfl,h1,h2,h3,h4⟩:=h.ex
 exact⟨⟨_,_,_,_,_,_,_,_,rfl,by simp,h1.shift,h2.shift,h3.shift,h4.shift⟩,Kv h.nd⟩
theorem XE.app{H H':Jm}{cs:List CV}{p:Q4}{S:List Nat}(h:XE H cs p S):XE (H++H') cs p S:=by
 obtain⟨c1,c2,S1,S2,rfl,rfl,h1,h2⟩:=h.ex
 exact⟨⟨_,_,_,_,rfl,rfl,h1.app,h2.app⟩,h.nd⟩
theorem Vx.app{H H':Jm}{cs:List CV}{q:QZ}{S:List Nat}(h:Vx H cs q S):Vx (H++H') cs q S:=by
 obtain⟨c1,c2,c3,c4,S1,S2,S3,S4,rfl,rfl,h1,h2,h3,h4⟩:=h.ex
 exact⟨⟨_,_,_,_,_,_,_,_,rfl,rfl,h1.app,h2.app,h3.app,h4.app⟩,h.nd⟩
theorem Vx.frm{H H':Jm}{cs:List CV}{q:QZ}{S T:List Nat}(h:Vx H cs q S)(hf:Vi H H' T)(hd:∀i∈S,i∉T):Vx H' cs q S:=by
 obtain⟨c1,c2,c3,c4,S1,S2,S3,S4,rfl,rfl,h1,h2,h3,h4⟩:=h.ex
 refine⟨⟨_,_,_,_,_,_,_,_,rfl,rfl,h1.frm hf fun i hi=>hd i ?_,h2.frm hf fun i hi=>hd i ?_,h3.frm hf fun i hi=>hd i ?_,h4.frm hf fun i hi=>hd i ?_⟩,h.nd⟩<;>simp[hi]
theorem XE.frm{H H':Jm}{cs:List CV}{p:Q4}{S T:List Nat}(h:XE H cs p S)(hf:Vi H H' T)(hd:∀i∈S,i∉T):XE H' cs p S:=by
 obtain⟨c1,c2,S1,S2,rfl,rfl,h1,h2⟩:=h.ex
 refine⟨⟨_,_,_,_,rfl,rfl,h1.frm hf fun i hi=>hd i ?_,h2.frm hf fun i hi=>hd i ?_⟩,h.nd⟩<;>simp[hi]
theorem Qy.same{H H':Jm}{c:CV}{xs:List Int}{S:List Nat}(h:Qy H c xs S)(hs:∀i∈S,H'[i]? =H[i]?):Qy H' c xs S:=by
 cases h with
 |e=>exact .e
 |o id g lim xs ys h=>exact .o id g lim xs ys (by unfold look at*;rw[hs id (by simp)];exact h)
theorem U8.same{H H':Jm}{c:CV}{rs:List Z0}{S:List Nat}(h:U8 H c rs S)(hs:∀i∈S,H'[i]? =H[i]?):U8 H' c rs S:=by
 cases h with
 |e=>exact .e
 |o id g lim l ys h hi hn hy=>
  refine .o id g lim l ys (by unfold look at*;rw[hs id (by simp)];exact h) (fun o ho=>(hi o ho).same fun i hm=>hs i ?_) hn hy
  exact List.mem_cons_of_mem _ (List.mem_flatMap.2 ⟨o,ho,hm⟩)
theorem XE.same{H H':Jm}{cs:List CV}{p:Q4}{S:List Nat}(h:XE H cs p S)(hs:∀i∈S,H'[i]? =H[i]?):XE H' cs p S:=by
 obtain⟨c1,c2,S1,S2,rfl,rfl,h1,h2⟩:=h.ex
 exact⟨⟨_,_,_,_,rfl,rfl,h1.same fun i hi=>hs i (by simp[hi]),h2.same fun i hi=>hs i (by simp[hi])⟩,h.nd⟩
theorem Vx.of{H:Jm}{z:Int}{c1 c2 c3 c4:CV}{p:Q4}{xs ys:List Int}{S1 S2 S3 S4:List Nat}(h:XE H [.f (.int .i64 z),c1,c2] p (S1++S2))(h3:Qy H c3 xs S3)(h4:Qy H c4 ys S4)(hn:(S1++(S2++(S3++S4))).Nodup):
 Vx H [.f (.int .i64 z),c1,c2,c3,c4] ⟨p,xs,ys⟩ (S1++(S2++(S3++S4))):=by
 obtain⟨d1,d2,T1,T2,e1,e2,k1,k2⟩:=h.ex
 cases e1
 refine⟨⟨_,_,_,_,T1,T2,S3,S4,rfl, ?_,k1,k2,h3,h4⟩,hn⟩
 rw[←Jt,e2,Jt]
theorem JC{H:Jm}{g sz:Nat}{cs:List CV}:look (H++[some ⟨g,sz,cs⟩]) H.length g=some ⟨g,sz,cs⟩:=J8 (b:=⟨g,sz,cs⟩) (by simp)
theorem QM{H:Jm}{x y:Option Zv}:(H++[x]).set H.length y=H++[y]:=by rw[List.set_append_right _ _ (Nat.le_refl _),Nat.sub_self];rfl
theorem XK{H H':Jm}{id g:Nat}(h:id<H.length):look (H++H') id g=look H id g:=by
 unfold look;rw[Ja h]
def JlW(p:Q4):KV:=fun v H=>∃cs S,v= .agg cs∧XE H cs p S
def Jmn(q:QZ):KV:=fun v H=>∃cs S,v= .agg cs∧Vx H cs q S
theorem XE.lt{H:Jm}{cs:List CV}{p:Q4}{S:List Nat}(h:XE H cs p S):∀i∈S,i<H.length:=by
 obtain⟨c1,c2,S1,S2,rfl,rfl,h1,h2⟩:=h.ex
 intro i hi
 rcases J2.1 hi with hi|hi
 · exact h1.lt i hi
 · exact h2.lt i hi
theorem Vx.lt{H:Jm}{cs:List CV}{q:QZ}{S:List Nat}(h:Vx H cs q S):∀i∈S,i<H.length:=by
 obtain⟨c1,c2,c3,c4,S1,S2,S3,S4,rfl,rfl,h1,h2,h3,h4⟩:=h.ex
 intro i hi
 simp only[J2]at hi
 rcases hi with hi|hi|hi|hi
 · exact h1.lt i hi
 · exact h2.lt i hi
 · exact h3.lt i hi
 · exact h4.lt i hi
theorem QQ(k:Nat)(H:Jm):(Q7 k H).length=H.length:=by simp[Q7]
theorem Ug{S:List Nat}{k n:Nat}(h:∀i∈S,i<n):∀i∈S.map (· +k),k≤i∧i<k+n:=by
 intro i hi
 obtain⟨x,hx,rfl⟩:=Qj.1 hi
 have:=h x hx
 omega
section
variable{P:Program}{o:Oper}{st:St}{K:KV}{fo:Operand}{xs:Array Operand}{ts:Array TypeId}{f:FuncId}{args args':List AV}
theorem JZ.mkP{p:Q4}(hc:Jn P f args [] (JlW p))(he:Ji P f)(ho:o.op= .call ⟨.value fo,xs,ts⟩)(ha:Qc st fo xs=some (f,args))(hf:args.all Q2=true)
 (hk:∀cs H' S,XE (st.h++H') cs p S→(∀i∈S,st.h.length≤i∧i<st.h.length+H'.length)→K (.agg cs) (st.h++H')):JZ P o st K:=
 JZ.mkQ hc he ho ha hf fun r H' ⟨c,S,h1,h2⟩=>by
  subst h1
  exact⟨rfl,hk _ _ _ h2.shift (by rw[QQ];exact Ug h2.lt)⟩
theorem JZ.mkG{q:QZ}(hc:Jn P f args [] (Jmn q))(he:Ji P f)(ho:o.op= .call ⟨.value fo,xs,ts⟩)(ha:Qc st fo xs=some (f,args))(hf:args.all Q2=true)
 (hk:∀cs H' S,Vx (st.h++H') cs q S→(∀i∈S,st.h.length≤i∧i<st.h.length+H'.length)→K (.agg cs) (st.h++H')):JZ P o st K:=
 JZ.mkQ hc he ho ha hf fun r H' ⟨c,S,h1,h2⟩=>by
  subst h1
  exact⟨rfl,hk _ _ _ h2.shift (by rw[QQ];exact Ug h2.lt)⟩
end
def Rt(S:List Nat)(H:Jm):Jm:=(List.range H.length).map fun i=>if i∈S then H[i]?.join else none
theorem K9{S:List Nat}{H:Jm}{i:Nat}(h:i∈S)(hl:i<H.length):(Rt S H)[i]? =H[i]? :=by
 simp[Rt,hl,h,Jq hl]
theorem Nw{S:List Nat}{H:Jm}{i:Nat}{b:Zv}(h:(Rt S H)[i]? =some (some b)):i∈S∧H[i]? =some (some b):=by
 simp only[Rt,Qv,Option.map_eq_some_iff]at h
 obtain⟨j,h1,h2⟩:=h
 have hj:=Jh.1 h1
 obtain⟨hj1,hj2⟩:=hj
 simp only[List.length_range,List.getElem_range]at hj1 hj2
 subst hj2
 split at h2
 · rename_i hm
   refine⟨hm, ?_⟩
   rw[Jq hj1]at h2⊢
   simpa using h2
 · cases h2
theorem BG(S:List Nat)(H:Jm):J0 H (Rt S H):=fun id b h=>(Nw h).2
theorem Qy.blk{H:Jm}{c:CV}{xs:List Int}{S:List Nat}(h:Qy H c xs S):∀i∈S,∀b,H[i]? =some (some b)→∀x∈b.cs,Vk x=true:=by
 cases h with
 |e=>simp
 |o id g lim xs ys h=>
  intro i hi b hb x hx
  obtain rfl:i=id:=by simpa using hi
  rw[(JG h).1]at hb
  cases hb
  exact JcJ (g:=g) (n:=1) (Jlq .i64 (xs++ys)) 0 _ rfl x hx
theorem Qy.scal1{H:Jm}{c:CV}{xs:List Int}{S:List Nat}(h:Qy H c xs S):Vk c=true:=by cases h<;>rfl
theorem U8.scal1{H:Jm}{c:CV}{xs:List Z0}{S:List Nat}(h:U8 H c xs S):Vk c=true:=by cases h<;>rfl
theorem U8.blk{H:Jm}{c:CV}{xs:List Z0}{S:List Nat}(h:U8 H c xs S):∀i∈S,∀b,H[i]? =some (some b)→∀x∈b.cs,Vk x=true:=by
 cases h with
 |e=>simp
 |o id g lim l ys h hi hd hy=>
  intro i hm b hb x hx
  rcases Qn.1 hm with rfl|hm
  · rw[(JG h).1]at hb
    cases hb
    rcases J2.1 hx with hx|hx
    · obtain⟨o,ho,hx⟩:=List.mem_flatMap.1 hx
      simp only[kR,Qn,Zh,or_false]at hx
      rcases hx with rfl|rfl|rfl
      · rfl
      · exact(hi o ho).scal1
      · rfl
    · exact hy x hx
  · obtain⟨o,ho,hm⟩:=List.mem_flatMap.1 hm
    exact(hi o ho).blk i hm b hb x hx
theorem XE.blk{H:Jm}{cs:List CV}{p:Q4}{S:List Nat}(h:XE H cs p S):(∀i∈S,∀b,H[i]? =some (some b)→∀x∈b.cs,Vk x=true)∧cs.all Vk=true:=by
 obtain⟨c1,c2,S1,S2,rfl,rfl,h1,h2⟩:=h.ex
 refine⟨fun i hi=> ?_,by simp only[VI,W3,h1.scal1,h2.scal1,Bool.and_true];rfl⟩
 rcases J2.1 hi with hi|hi
 · exact h1.blk i hi
 · exact h2.blk i hi
theorem Vx.blk{H:Jm}{cs:List CV}{q:QZ}{S:List Nat}(h:Vx H cs q S):(∀i∈S,∀b,H[i]? =some (some b)→∀x∈b.cs,Vk x=true)∧cs.all Vk=true:=by
 obtain⟨c1,c2,c3,c4,S1,S2,S3,S4,rfl,rfl,h1,h2,h3,h4⟩:=h.ex
 refine⟨fun i hi=> ?_,by simp only[VI,W3,h1.scal1,h2.scal1,h3.scal1,h4.scal1,Bool.and_true];rfl⟩
 simp only[J2]at hi
 rcases hi with hi|hi|hi|hi
 · exact h1.blk i hi
 · exact h2.blk i hi
 · exact h3.blk i hi
 · exact h4.blk i hi
theorem Vx.same{H H':Jm}{cs:List CV}{q:QZ}{S:List Nat}(h:Vx H cs q S)(hs:∀i∈S,H'[i]? =H[i]?):Vx H' cs q S:=by
 obtain⟨c1,c2,c3,c4,S1,S2,S3,S4,rfl,rfl,h1,h2,h3,h4⟩:=h.ex
 refine⟨⟨_,_,_,_,_,_,_,_,rfl,rfl,h1.same fun i hi=>hs i ?_,h2.same fun i hi=>hs i ?_,h3.same fun i hi=>hs i ?_,h4.same fun i hi=>hs i ?_⟩,h.nd⟩<;>simp[hi]
theorem YB{S:List Nat}{H:Jm}(h:∀i∈S,∀b,H[i]? =some (some b)→∀x∈b.cs,Vk x=true):YX (Rt S H):=fun id b hb c hc=>by
 obtain⟨h1,h2⟩:=Nw hb
 exact h id h1 b h2 c hc
def WE(F:AV→AV)(q:QZ):KV:=fun v H=>∃cs S,v=F (.agg cs)∧Vx H cs q S
def gamWS(F:AV→AV)(q:QZ):KV:=fun v H=>∃cs S,v=F (.agg cs)∧Vx H cs q S∧YX H∧cs.all Vk=true
theorem Jn.gamS{P:Program}{f:FuncId}{args:List AV}{H:Jm}{F:AV→AV}{q:QZ}(h:Jn P f args H (WE F q)):Jn P f args H (gamWS F q):=
 h.weaker fun v H' ⟨cs,S,h1,h2⟩=>⟨Rt S H',BG _ _,cs,S,h1,h2.same fun i hi=>K9 hi (h2.lt i hi),YB h2.blk.1,h2.blk.2⟩
def YU(b:Bool)(v:AV):AV:= .tup [v,bool b]
section
variable{P:Program}{o:Oper}{st:St}{K:KV}{fo:Operand}{xs:Array Operand}{ts:Array TypeId}{f:FuncId}{args args':List AV}{q:QZ}
theorem JZ.mkDGB{b:Bool}(hc:Jn P f args' [] (WE (YU b) q))(he:Ji P f)(ho:o.op= .call ⟨.value fo,xs,ts⟩)(ha:Qc st fo xs=some (f,args))(hs:args.mapM (Zx st.h)=some args')
 (hk:∀cs H' S,Vx (st.h++H') cs q S→(∀i∈S,st.h.length≤i∧i<st.h.length+H'.length)→K (.tup [.agg cs,bool b]) (st.h++H')):JZ P o st K:=
 JZ.mkD (Jn.gamS hc) he ho ha hs fun r H' ⟨cs,S,h1,h2,h3,h4⟩=>by
  subst h1
  exact⟨⟨rfl,by simp only[YU,Lg.scal1,VI,W3,JcL,h4,Bool.true_and,Bool.and_true];rfl,h3⟩,hk _ _ _ h2.shift (by rw[QQ];exact Ug h2.lt)⟩
end
def WS(xs:List Int):KV:=fun r H=>∃c S,r= .c c∧Qy H c xs S∧YX H
theorem Qy.scal{H:Jm}{c:CV}{xs:List Int}{S:List Nat}(h:Qy H c xs S):Vk c=true:=by cases h<;>rfl
theorem RI{H:Jm}(h:YX H):YX (none::H):=fun id b hb c hc=>by
 cases id with
 |zero=>simp at hb
 |succ id=>exact h id b hb c hc
theorem Wl{g n:Nat}{xs:List Int}{H:Jm}(h:YX H):YX (some ⟨g,n,cl (eI .i64) xs⟩::H):=fun id b hb c hc=>by
 cases id with
 |zero=>
  simp at hb
  subst hb
  exact JcJ (g:=g) (n:=n) (Jlq .i64 xs) 0 _ rfl c hc
 |succ id=>exact h id b hb c hc
theorem Jim:Qy [] (.f (.sl 0 [])) [] []:= .e
section
variable{P:Program}{o:Oper}{st:St}{K:KV}{fo:Operand}{xs:Array Operand}{ts:Array TypeId}{f:FuncId}{args args':List AV}{zs:List Int}
theorem JZ.mkI(hc:Jn P f args [] (WS zs))(he:Ji P f)(ho:o.op= .call ⟨.value fo,xs,ts⟩)(ha:Qc st fo xs=some (f,args))(hf:args.all Q2=true)
 (hk:∀c H' S,Qy (st.h++H') c zs S→(∀i∈S,st.h.length≤i∧i<st.h.length+H'.length)→K (.c c) (st.h++H')):JZ P o st K:=
 JZ.mkQ hc he ho ha hf fun r H' ⟨c,S,h1,h2,_⟩=>by
  subst h1
  exact⟨rfl,hk _ _ _ h2.shift (by rw[QQ];exact Ug h2.lt)⟩
theorem JZ.mkDI(hc:Jn P f args' [] (WS zs))(he:Ji P f)(ho:o.op= .call ⟨.value fo,xs,ts⟩)(ha:Qc st fo xs=some (f,args))(hs:args.mapM (Zx st.h)=some args')
 (hk:∀c H' S,Qy (st.h++H') c zs S→(∀i∈S,st.h.length≤i∧i<st.h.length+H'.length)→K (.c c) (st.h++H')):JZ P o st K:=
 JZ.mkD hc he ho ha hs fun r H' ⟨c,S,h1,h2,h3⟩=>by
  subst h1
  exact⟨⟨rfl,h2.scal,h3⟩,hk _ _ _ h2.shift (by rw[QQ];exact Ug h2.lt)⟩
theorem JW.ownI{P:Program}{f:FuncId}{args:List AV}{zs:List Int}(h:Jn P f args [] (WS zs)):JW P f args (QO zs):=
 JW.ice h fun r H' ⟨c,S,h1,h2,_⟩=>by subst h1;simp only[Vu,Xw,h2.frzC,Option.map_some]
end
theorem Jcz{H:Jm}{x y:AV}(h:Zx H x=some y):[x].mapM (Zx H)=some [y]:=by
 simp only[J4,Qw,h,Option.pure_def,Option.bind_eq_bind,Option.bind_some]
theorem UO{H:Jm}{x y x' y':AV}(h:Zx H x=some y)(h':Zx H x'=some y'):[x,x'].mapM (Zx H)=some [y,y']:=by
 simp only[J4,Qw,h,h',Option.pure_def,Option.bind_eq_bind,Option.bind_some]
theorem Xj{H:Jm}{x y x' y' z z':AV}(h:Zx H x=some y)(h':Zx H x'=some y')(h2:Zx H z=some z'):[x,x',z].mapM (Zx H)=some [y,y',z']:=by
 simp only[J4,Qw,h,h',h2,Option.pure_def,Option.bind_eq_bind,Option.bind_some]
theorem Qy.snap{H:Jm}{c:CV}{xs:List Int}{S:List Nat}(h:Qy H c xs S):Zx H (.c c)=some (QO xs):=by
 simp only[Zx,h.frzC,Option.map_some]
theorem JcA{H:Jm}{q:QZ}:Zx H (aG q)=some (aG q):=rfl
theorem VO{H:Jm}{x:Int}:Zx H (int x)=some (int x):=rfl
theorem fl_if{α β:Type}{E:α→List FV}{n:Nat}[HSz E n]{xs:List α}{x y:β}:(if(fl E xs).length=xs.length*n then x else y)=x:=if_pos (UD xs)
theorem Jl7{α:Type}{E:α→List FV}{xs:List α}:(fl E xs).map CV.f=cl E xs:=rfl
attribute [go_sem] fl_if Jl7
end Go.Lg

set_option maxRecDepth 100000
namespace Go.Lg
open Go.Proofs
theorem JZ.nilOpen{P:Program}{o:Oper}{st:St}{K:KV}{t yt:TypeId}{x y:Operand}{ei:TI}(ho:o.op= .binOp .eql t x y yt)(ht:QW P t=some ei)
 (hx:QY st.s x= .c (.f (.sl 0 []))) (hy:V4 st.h (QY st.s y)=some true) (hk:∀b,K (.c (.f (.bool b))) st.h):JZ P o st K:=by
 intro w X a R next Q hn
 obtain⟨ti,e,ht,hk',he⟩:=UF ht
 obtain⟨inf,d,z',h1,h2,h3,h4,h5,h6,h7⟩:=Qi ht
 rw[h5]at hk';cases Zu hk'
 have e2:=VD hy (J7 R y)
 have hx':=J7 R x
 rw[hx]at hx'
 have:∃a0 c,a.eval x= .slice a0 0 c:=by
  have hh:=Uy hx'
  generalize a.eval x=xv at hh
  cases hh with
  |sl0 a cap=>exact⟨_,_,rfl⟩
  |sl n cs b o cap u hc hI hu hv=>exact⟨_,_,rfl⟩
 obtain⟨a0,c,ex⟩:=this
 have hrun:(do eqGuard .eql t x y (a.eval x) (a.eval y);binOp .eql t (a.eval x) (a.eval y):Sem Value).run P w= .ok (.bool a0.isNone) w:=by
  rw[Sem.run_bind,Vg (by rw[ex]),Result.andThen_ok,e2,ex]
  exact Lib.run_eql_slice_nil w t e _ _ _ _ _ h2
 have h1:(execOp a.eval o).run P w= .ok (.value (.bool a0.isNone)) w:=by
  simp only[execOp,ho];rw[Sem.run_bind,hrun];rfl
 unfold Oper.wp
 rw[h1,Oper.upon_value]
 exact hn (.c (.f (.bool a0.isNone))) _ X st.h w (.c _ _ (VF.bool _)) R.heap (Ev.refl _ _ _) (hk _)
theorem JZ.valNil{P:Program}{o:Oper}{st:St}{K:KV}(h:X8 P st.s st.h o.op=some (.c (.f .nil)))(hk:K (.c (.f (.sl 0 []))) st.h):JZ P o st K:=by
 intro w X a R next Q hn
 obtain⟨u,h1,h2⟩:=Wm (P:=P) R h
 unfold Oper.wp
 rw[h1 w (Z6.refl w) o rfl,Oper.upon_value]
 have:VA w X st.h (.c (.f (.sl 0 []))) u:=by
  have hh:=Uy h2
  cases hh
  exact .c (.f (.sl 0 [])) _ (VF.sl0 none 0)
 exact hn _ u X st.h w this R.heap (Ev.refl _ _ _) hk
theorem Jn.of_bodyN{P:Program}{f:FuncId}{fn:Func}{c:Code}{args:List AV}{H:Jm}{Q:AV→Jm→Prop}(hf:P.funcs[f]? =some fn)(hb:fn.body=some c){n:Nat}(hn:fn.ntmps=n){rs:List ResultVar}(hr:fn.results.toList=rs)
 (h:QH P c ⟨args++Jd (n -args.length) .void,H⟩ fun e st'=>(e= .normal∨e= .ret)∧∃v H',YD P st'.s st'.h rs=some v∧J0 st'.h H'∧Q v H'):Jn P f args H Q:=by
 subst hn hr
 exact Jn.of_body hf hb h
theorem Wk{P:Program}{t e:TypeId}{ti ei:TI}(ht:JV P t=some ti)(hk:ti.k= .slice e)(he:JV P e=some ei):QW P t=some ei:=by
 unfold QW;simp only[ht,hk,he]
theorem Jcc{P:Program}{H:Jm}{t e:TypeId}{ti:TI}{n:Nat}{cs:List FV}(ht:JV P t=some ti)(hk:ti.k= .slice e)(hn:0<n):Rj P H .eql t (.c (.f (.sl n cs))) (.c (.f .nil))=some (.c (.f (.bool false))):=by
 unfold Rj
 simp only[ht,hk,V4,if_neg (show¬n=0 by omega)]
 rfl
theorem JjZ(xs:List Int)(hx:xs.length≤2^40)(h0:xs≠[]):Jn Tryz.prog 89 [QO xs] [] (WS xs):=by
 have hp:0<xs.length:=List.length_pos_iff.2 h0
 refine Jn.cw (c:=_) Tryz.func89 rfl (n:=8) Tryz.ntmps89 (rs:=[.tmp 2]) rfl ?_
 simp only[Je,Jf,zA,zS,Jd,Jb,Jc]
 simp(maxSteps:=999999)(disch:=omega)only[go_sem,zA,zM,zS,zE,zL,Jcc UE rfl hp]
 intro g g'
 rw[Nat.zero_add]
 exact⟨_,J0.refl _,_,_,rfl, .o 0 g' none xs [] (by rw[Ju];exact J8 (b:=⟨g',1,cl (eI .i64) xs⟩) rfl),Wl (fun id b hb=>by simp at hb)⟩
theorem Jlm:Jn Tryz.prog 89 [QO []] [] (WS []):=by
 refine Jn.of_bodyN (c:=_) rfl rfl (n:=8) rfl (rs:=[.tmp 2]) rfl ?_
 refine QH.seq (QH.region (JZ.val (v:= .c (.f .nil)) rfl ?_))
 refine QH.seq (QH.seq (QH.region (JZ.val (v:=QO []) rfl (JZ.nilOpen rfl (Wk UE rfl Kh) rfl rfl fun b=> ?_))))
 refine QH.cond (b:=b) rfl (fun hb=> ?_) (fun hb=> ?_)
 · refine QH.seq (QH.region (JZ.valNil rfl ?_))
   refine QH.ret ?_
   exact⟨.inr rfl,_,_,rfl,J0.refl _,_,_,rfl, .e,fun id b hb=>by simp at hb⟩
 · refine QH.skip ?_
   refine(Ua _ _ _ (F8 Tryz.prog [.tmp 2] (WS [])) ?_).mono fun e st ⟨h1,v,h2,H',h3,h4⟩=>⟨h1,v,H',h2,h3,h4⟩
   simp only[Je,Jf,zA,zS,Jd,Jb,Jc]
   simp(maxSteps:=999999)(disch:=omega)only[go_sem,zA,zM,zS,zE,zL]
   intro g
   show Uz [some ⟨g,1,[]⟩] (WS []) (.c (.own 0 g 0 0 none))
   exact⟨_,J0.refl _,_,_,rfl, .o 0 g none [] [] (J8 (b:=⟨g,1,[]⟩) rfl),Wl (xs:=[]) (fun id b hb=>by simp at hb)⟩
theorem Yw(xs:List Int)(hx:xs.length≤2^40):Jn Tryz.prog 89 [QO xs] [] (WS xs):=by
 by_cases h:xs=[]
 · subst h;exact Jlm
 · exact JjZ xs hx h
end Go.Lg

namespace Go.Lg
open Go.Proofs
section
variable{P:Program}{ops:Array Oper}{o:Oper}{s:List AV}{H:Jm}{K:KV}{fo:Operand}{xs:Array Operand}{ts:Array TypeId}{f:FuncId}{args args':List AV}{zs:List Int}
theorem JK.mkI(hc:Jn P f args [] (WS zs))(he:Ji P f)(ho:o.op= .call ⟨.value fo,xs,ts⟩)(ha:Qc ⟨s,H⟩ fo xs=some (f,args))(hf:args.all Q2=true)
 (hk:∀c H' S,Qy (H++H') c zs S→(∀i∈S,H.length≤i∧i<H.length+H'.length)→K (.c c) (H++H')):JK P ops o s H K:=
 JK.call ho ha fun s' ha'=>JZ.mkI hc he ho ha' hf hk
end
theorem Jn.wk{P:Program}{f:FuncId}{args:List AV}{H:Jm}{Q Q':KV}(h:Jn P f args H Q)(hw:∀v H',Q v H'→∃v',(∀w X u,VA w X H' v u→VA w X H' v' u)∧Q' v' H'):Jn P f args H Q':=
 fun w X vs hH hvs=>(h w X vs hH hvs).mono fun e w' ⟨v,u,X',H',h1,h2,h3,h4,h5⟩=>
  let⟨v',k1,k2⟩:=hw v H' h5
  ⟨v',u,X',H',h1,k1 _ _ _ h2,h3,h4,k2⟩
theorem Jdj{H H3:Jm}{g sz:Nat}{cs:List CV}:look (H++[some ⟨g,sz,cs⟩]++H3) H.length g=some ⟨g,sz,cs⟩:=J8 (b:=⟨g,sz,cs⟩) (by simp)
theorem Jkh{H H3:Jm}{x y:Option Zv}:(H++[x]++H3).set H.length y=H++[y]++H3:=by
 rw[Jt,Jt,List.set_append_right _ _ (Nat.le_refl _),Nat.sub_self];rfl
theorem Zz{H:Jm}{id j g:Nat}{x:Option Zv}(h:id≠j):look (H.set id x) j g=look H j g:=by
 unfold look;rw[Jg h]
structure CpI(B:Jm)(j g:Nat)(size:Int)(given:List Int)(c r:CV)(l:List RO)(S I:List Nat):Prop where
 out:look B j g=some ⟨g,3,[.f (.int .i64 size),c,r]⟩
 rl:(l=[]∧r= .f .nil∧I=S)∨∃id g',r= .own id g' 0 l.length none∧look B id g'=some ⟨g',3,kl kR l⟩∧I=S++id::l.flatMap (·.i)
 cells:∀o∈l,Qy B o.c o.r.cells o.i
 giv:Qy B c given S
 nd:I.Nodup
 lt:∀x∈I,2≤x∧x<B.length∧x≠j
theorem CpI.next{B B3:Jm}{j g:Nat}{size:Int}{given:List Int}{c r:CV}{l:List RO}{S I:List Nat}(hC:CpI B j g size given c r l S I)(o:RO){id g':Nat}
 (hI:(l=[]∧I=S∧B.length≤id)∨I=S++id::l.flatMap (·.i)) (hs:∀k∈I,k≠id→B3[k]? =B[k]?) (hlen:B.length≤B3.length)
 (hout:look B3 j g=some ⟨g,3,[.f (.int .i64 size),c, .own id g' 0 (l.length+1) none]⟩) (hid:look B3 id g'=some ⟨g',3,kl kR (l++[o])⟩)
 (ho:Qy B3 o.c o.r.cells o.i) (hoi:∀k∈o.i,B.length≤k∧k<B3.length∧k≠id∧k≠j) (hi:2≤id∧id<B3.length∧id≠j) (h2:2≤B.length):
 CpI B3 j g size given c (.own id g' 0 (l.length+1) none) (l++[o]) S (S++id::(l++[o]).flatMap (·.i)):=by
 have hJ:(S++id::l.flatMap (·.i)).Nodup∧(∀x∈S++l.flatMap (·.i),x∈I)∧(∀x∈S++l.flatMap (·.i),x≠id):=by
  rcases hI with⟨rfl,rfl,hb⟩|rfl
  · have hne:∀x∈I,x≠id:=fun x hx=>by have:=hC.lt x hx;omega
    refine⟨?_,by simp,by simpa using hne⟩
    simp only[List.flatMap_nil]
    rw[Qo]
    exact⟨hC.nd,by simp,fun a ha b hb=>by simp at hb;subst hb;exact hne a ha⟩
  · have hn:=hC.nd
    refine⟨hn,fun x hx=> ?_,fun x hx he=> ?_⟩
    · simp only[J2,Qn]at hx⊢
      rcases hx with hx|hx
      · exact .inl hx
      · exact .inr (.inr hx)
    · subst he
      rw[Qo]at hn
      obtain⟨n1,n2,n3⟩:=hn
      rcases J2.1 hx with hx|hx
      · exact n3 x hx x (by simp) rfl
      · exact(VK.1 n2).1 hx
 obtain⟨hn,hin,hne⟩:=hJ
 have hmem:∀x∈S++id::(l++[o]).flatMap (·.i),x∈S++l.flatMap (·.i)∨x=id∨x∈o.i:=fun x hx=>by
  simp only[List.flatMap_append,List.flatMap_cons,List.flatMap_nil,Ju,J2,Qn]at hx⊢
  rcases hx with hx|rfl|hx|hx
  · exact .inl (.inl hx)
  · exact .inr (.inl rfl)
  · exact .inl (.inr hx)
  · exact .inr (.inr hx)
 refine⟨hout, .inr ⟨id,g',by simp,hid,rfl⟩,fun o' ho'=> ?_, ?_, ?_,fun x hx=> ?_⟩
 · rcases J2.1 ho' with ho'|ho'
   · refine(hC.cells o' ho').same fun k hk=> ?_
     have:k∈S++l.flatMap (·.i):=J2.2 (.inr (List.mem_flatMap.2 ⟨o',ho',hk⟩))
     exact hs k (hin k this) (hne k this)
   · simp at ho';subst ho';exact ho
 · refine hC.giv.same fun k hk=> ?_
   have:k∈S++l.flatMap (·.i):=J2.2 (.inl hk)
   exact hs k (hin k this) (hne k this)
 · have e:S++id::(l++[o]).flatMap (·.i)=(S++id::l.flatMap (·.i))++o.i:=by simp
   rw[e,Qo]
   refine⟨hn,ho.nd,fun a ha b hb he=> ?_⟩
   subst he
   have h4:=hoi a hb
   have:a∈S++l.flatMap (·.i):=by
    simp only[J2,Qn]at ha⊢
    rcases ha with ha|ha|ha
    · exact .inl ha
    · exact absurd ha h4.2.2.1
    · exact .inr ha
   have:=hC.lt a (hin a this)
   omega
 · rcases hmem x hx with hx|rfl|hx
   · have:=hC.lt x (hin x hx);omega
   · exact hi
   · have:=hoi x hx;omega
def puzQ0(p:Q4):KV:=fun v H=>∃c r S1 S2,v= .agg [.f (.int .i64 p.size),c,r]∧Qy H c p.given S1∧((r= .f .nil∧p.rules=[]∧S2=[])∨U8 H r p.rules S2)∧(S1++S2).Nodup
def JkT:CV→Prop
 | .own _ _ _ _ lim=>lim=none
 | .f .nil=>True
 |_=>False
def Jls(p:Q4):KV:=fun v H=>∃c r S1 S2,v= .agg [.f (.int .i64 p.size),c,r]∧Qy H c p.given S1∧((r= .f .nil∧p.rules=[]∧S2=[])∨U8 H r p.rules S2)∧(S1++S2).Nodup∧JkT r
theorem CpI.done{B B':Jm}{j g:Nat}{p:Q4}{c r:CV}{l:List RO}{S I:List Nat}(hC:CpI B j g p.size p.given c r l S I)(hm:l.map (·.r)=p.rules)(hs:∀k∈I,B'[k]? =B[k]?):
 Jls p (.agg [.f (.int .i64 p.size),c,r]) B':=by
 rcases hC.rl with⟨rfl,rfl,rfl⟩|⟨id,g',rfl,hid,rfl⟩
 · exact⟨_,_,_,[],rfl,hC.giv.same hs, .inl ⟨rfl,hm.symm,rfl⟩,by rw[Ju];exact hC.nd,trivial⟩
 · refine⟨_,_,_,_,rfl,hC.giv.same fun k hk=>hs k (J2.2 (.inl hk)), .inr ?_,hC.nd,rfl⟩
   rw[←hm]
   refine U8.same (.o id g' none l [] (by rw[Ju];exact hid) hC.cells ?_ (by simp)) fun k hk=>hs k (J2.2 (.inr hk))
   have:=hC.nd
   rw[Qo]at this
   exact this.2.1
theorem Q1{H:Jm}{id g sz:Nat}{cs:List CV}(h:id<H.length):look (H.set id (some ⟨g,sz,cs⟩)) id g=some ⟨g,sz,cs⟩:=J8 (b:=⟨g,sz,cs⟩) (by rw[JX h])
theorem Gq(p:Q4)(hx:Rf p):Jn Tryz.prog 78 [aP p] [] (Jls p):=by
 refine Jn.cw (c:=_) Tryz.func78 rfl (n:=31) Tryz.ntmps78 (rs:=[.cell 2 26]) rfl ?_
 simp only[Je,Jf,zA,zS,Jd,Jb,Jc]
 simp(maxSteps:=999999)(disch:=omega)only[go_sem,zA,zM,zS,zE,zL]
 intro g1 g2
 refine Ui [0,1,2,3,6,4,5] [] (some 6) [7] [] Zd (by kernel_rfl) ?_
 simp(maxSteps:=999999)(disch:=omega)only[go_sem,Nat.reduceBEq,Bool.true_or,zA,zM,zS,zE,zL]
 refine JK.mkI (Yw p.given hx.1) (⟨_,Tryz.func89,rfl,rfl⟩:Ji Tryz.prog 89) rfl rfl rfl ?_
 intro c H1 S h1 hS
 simp(maxSteps:=999999)(disch:=omega)only[go_sem,zA,zM,zS,zE,zL,JC,QM]
 intro g
 refine Qp (fun(i:Nat) (b:Jm×CV×List RO×List Nat)=>p.rules.length -i) (fun i b=>i≤p.rules.length∧b.2.2.1.length=i∧b.2.2.1.map (·.r)=p.rules.take i∧look b.1 1 g2=some ⟨g2,3,[.f (.int .i64 0), .f .nil, .f .nil]⟩∧CpI b.1 (H1.length+1+1) g p.size p.given c b.2.1 b.2.2.1 S b.2.2.2)
  (fun i _=>[.a, .a, .k, .k, .a, .a, .a, .a, .a, .a, .a, .a, .a, .k, .k, .p (int i), .a, .a, .a, .a, .a, .a, .a, .a, .a, .a, .a, .a, .a, .a, .a]) (fun i b=>b.1) 0 (some ⟨g1,1,cP p⟩::some ⟨g2,3,[.f (.int .i64 0), .f .nil, .f .nil]⟩::(H1++[some ⟨g,3,[.f (.int .i64 p.size),c, .f .nil]⟩]), .f .nil,[],S)
  ⟨Nat.zero_le _,rfl,rfl,J8 (b:=⟨g2,3,[.f (.int .i64 0), .f .nil, .f .nil]⟩) rfl, ?_⟩ (by simp(maxSteps:=999999)(disch:=omega)only[go_sem,zA,zM,zS,zE,zL];rfl) (J0.refl _) ?_
 · refine⟨J8 (b:=⟨g,3,[.f (.int .i64 p.size),c, .f .nil]⟩) (by simp), .inl ⟨rfl,rfl,rfl⟩,by simp,h1.app,h1.nd,fun x hx=> ?_⟩
   have:=hS x hx
   simp only[Jk,Je,Jf]at this⊢
   omega
 rintro i ⟨B,r,l,I⟩ ⟨hi,hl,hm,h1,hC⟩
 simp only at hl hm h1 hC⊢
 have hj2:2≤H1.length+1+1:=by omega
 generalize H1.length+1+1=j at hC hj2⊢
 simp(maxSteps:=999999)(disch:=omega)only[go_sem,zA,zM,zS,zE,zL]
 ((first|(with_reducible first|refine Jl ?_ ?_|refine Jj ?_ ?_|refine Jp ?_ ?_)|refine Jr ?_ ?_)<;>intro h)
 · have h:i<p.rules.length:=by omega
   simp(maxSteps:=999999)(disch:=omega)only[go_sem,zA,zM,zS,zE,zL,JC,QM]
   intro g3
   refine JZ.mkI (Yw (JA p.rules i).cells (hx.2.2 _ (ZP h))) (⟨_,Tryz.func89,rfl,rfl⟩:Ji Tryz.prog 89) rfl rfl rfl ?_
   intro c3 H3 S3 h3 hS3
   simp(maxSteps:=999999)(disch:=omega)only[go_sem,zA,zM,zS,zE,zL,Jdj,Jkh]
   generalize hB2:B++[some ⟨g3,3,[.f (.int .i64 (JA p.rules i).kind),c3, .f (.int .i64 (JA p.rules i).val)]⟩]++H3=B2
   have hap:∃X,B2=B++X:=⟨_,by rw[←hB2,Jt]⟩
   have hlB:B.length<B2.length:=by rw[←hB2];simp
   have hR:look B2 B.length g3=some ⟨g3,3,[.f (.int .i64 (JA p.rules i).kind),c3, .f (.int .i64 (JA p.rules i).val)]⟩:=by rw[←hB2];exact Jdj
   have hB:∀{k g':Nat} {b:Zv},look B k g'=some b→look B2 k g'=some b:=fun h=>by obtain⟨X,rfl⟩:=hap;exact JO h
   have h4:Qy B2 c3 (JA p.rules i).cells S3:=by
    refine h3.same fun k hk=> ?_
    have:=hS3 k hk
    simp only[Jk,Je,Jf]at this
    rw[←hB2]
    simp only[Jt,Jb,Jc]
    rw[J3 (by omega),J3 (by omega),List.getElem?_cons,List.getElem?_cons]
    rw[if_neg (by omega),if_neg (by omega)]
   have hS4:∀k∈S3,B.length+1≤k∧k<B2.length:=fun k hk=>by
    have:=hS3 k hk
    rw[←hB2]
    simp only[Jk,Je,Jf]at this⊢
    omega
   have hpl:p.rules.length≤2^40:=hx.2.1
   have hk1:∀k,k<B.length→B2[k]? =B[k]? :=fun k hk=>by obtain⟨X,rfl⟩:=hap;exact Ja hk
   have hlen:1<B.length:=(Jh.1 (JG h1).1).1
   have hjl:j<B.length:=(Jh.1 (JG hC.out).1).1
   have h12:=hB h1
   have hj:=hB hC.out
   clear hB2 h3 hS3
   rcases hC.rl with⟨rfl,rfl,rfl⟩|⟨id,g',rfl,hid,rfl⟩
   · have hj5:∀X,look (B2++X) j g=some ⟨g,3,[.f (.int .i64 p.size),c, .f .nil]⟩:=fun X=>JO hj
     have hj6:∀X Y,look (B2++X++Y) j g=some ⟨g,3,[.f (.int .i64 p.size),c, .f .nil]⟩:=fun X Y=>JO (JO hj)
     simp(maxSteps:=999999)(disch:=omega)only[go_sem,zA,zM,zS,zE,zL,hR,hj,hj5,hj6,JC,QM]
     intro g4 g5
     refine⟨i+1,(_, .own (B2.length+1) g5 0 1 none,[]++[⟨JA p.rules i,c3,S3⟩],_),⟨⟨h,by simp at hl⊢;omega,by rw[QE,hm,Qg h];rfl, ?_,CpI.next (id:=B2.length+1) (g':=g5) hC ⟨JA p.rules i,c3,S3⟩ (.inl ⟨rfl,rfl,by omega⟩) (fun k hk hki=> ?_) ?_ ?_ ?_ (h4.same fun k hk=> ?_) (fun k hk=> ?_) ?_ hlen⟩,by omega⟩,by omega,J0.refl _⟩
     · rw[Zz (by omega)];exact JO (JO h12)
     · have:=hC.lt k hk
       rw[Jg (by omega),Ja (by simp;omega),Ja (by omega),hk1 k (by omega)]
     · simp;omega
     · exact Q1 (by simp;omega)
     · rw[Zz (by omega)]
       exact J8 (b:=⟨g5,3,[.f (.int .i64 (JA p.rules i).kind),c3, .f (.int .i64 (JA p.rules i).val)]⟩) (by simp)
     · have:=hS4 k hk
       rw[Jg (by omega),Ja (by simp;omega),Ja (by omega)]
     · have:=hS4 k hk
       simp only[Jo,Jk,Je,Jf]
       omega
     · simp only[Jo,Jk,Je,Jf]
       omega
   · have hid:=hB hid
     have hne:=hC.lt id (by simp)
     have hj5:∀X,look (B2++X) j g=some ⟨g,3,[.f (.int .i64 p.size),c, .own id g' 0 l.length none]⟩:=fun X=>JO hj
     have hid5:∀X,look (B2++X) id g'=some ⟨g',3,kl kR l⟩:=fun X=>JO hid
     have hnj:id≠j:=hne.2.2
     have hll:l.length≤2^40:=by have:=hx.2.1;omega
     simp(maxSteps:=999999)(disch:=omega)only[go_sem,zA,zM,zS,zE,zL,hR,hj,hj5,hid5,JC,QM,Fj,Zz hnj]
     intro g4 g5
     refine⟨i+1,(_, .own id g5 0 (l.length+1) none,l++[⟨JA p.rules i,c3,S3⟩],_),⟨⟨h,by simp[hl],by rw[QE,hm,Qg h];rfl, ?_,CpI.next (id:=id) (g':=g5) hC ⟨JA p.rules i,c3,S3⟩ (.inr rfl) (fun k hk hki=> ?_) ?_ ?_ ?_ (h4.same fun k hk=> ?_) (fun k hk=> ?_) ?_ hlen⟩,by omega⟩,by omega,J0.refl _⟩
     · rw[Zz (by omega),Zz (by omega)];exact JO h12
     · have:=hC.lt k hk
       rw[Jg (by omega),Jg (by omega),Ja (by omega),hk1 k (by omega)]
     · simp;omega
     · exact Q1 (by simp;omega)
     · rw[Zz (by omega),Q1 (by simp;omega),JgO]
       rfl
     · have:=hS4 k hk
       rw[Jg (by omega),Jg (by omega),Ja (by omega)]
     · have:=hS4 k hk
       simp only[Jo,Jk,Je,Jf]
       omega
     · simp only[Jo,Jk,Je,Jf]
       omega
 · have hout:=hC.out
   have hlen:1<B.length:=by
    obtain⟨hh,_⟩:=JG h1
    exact(Jh.1 hh).1
   simp(maxSteps:=999999)(disch:=omega)only[go_sem,zA,zM,zS,zE,zL,hout,h1,Q1 hlen]
   have hi':i=p.rules.length:=by omega
   subst hi'
   rw[List.take_length]at hm
   refine⟨_,J0.refl _,hC.done hm fun k hk=> ?_⟩
   have:=hC.lt k hk
   exact Jg (by omega)
theorem KM(p:Q4)(hx:Rf p):Jn Tryz.prog 78 [aP p] [] (puzQ0 p):=
 (Gq p hx).weaker fun v H' ⟨c,r,S1,S2,h1,h2,h3,h4,_⟩=>⟨H',J0.refl _,c,r,S1,S2,h1,h2,h3,h4⟩
end Go.Lg

namespace Go.Lg
open Go.Proofs
section
variable{P:Program}{ops:Array Oper}{o:Oper}{s:List AV}{H:Jm}{K:KV}{fo:Operand}{xs:Array Operand}{ts:Array TypeId}{f:FuncId}{args args':List AV}{zs:List Int}
theorem JK.mkP{p:Q4}(hc:Jn P f args [] (JlW p))(he:Ji P f)(ho:o.op= .call ⟨.value fo,xs,ts⟩)(ha:Qc ⟨s,H⟩ fo xs=some (f,args))(hf:args.all Q2=true)
 (hk:∀cs H' S,XE (H++H') cs p S→(∀i∈S,H.length≤i∧i<H.length+H'.length)→K (.agg cs) (H++H')):JK P ops o s H K:=
 JK.call ho ha fun s' ha'=>JZ.mkP hc he ho ha' hf hk
end
theorem VA.wk3{w:World}{X:Cx}{H:Jm}{a b:CV}{u:Value}(h:VA w X H (.agg [a,b, .f .nil]) u):VA w X H (.agg [a,b, .f (.sl 0 [])]) u:=by
 cases h with
 |agg cs vs hs h=>
  refine .agg _ vs hs fun j hj=> ?_
  obtain⟨x,h1,h2⟩:=h j hj
  refine⟨x,h1, ?_⟩
  rcases j with _|_|_|j
  · exact h2
  · exact h2
  · have h2:VF w X.I .nil x:=h2
    cases h2
    exact VF.sl0 none 0
  · simp at hj;omega
theorem QI{a b:Option Zv}{L:Jm}{k:Nat}(h:2≤k):(a::b::L)[k]? =L[k -2]? :=by
 obtain⟨n,rfl⟩:∃n,k=n+2:=⟨k -2,by omega⟩
 rfl
theorem JiA{S1 S2 S3 S4:List Nat}{n1 n2:Nat}(h12:(S1++S2).Nodup)(h3:S3.Nodup)(h4:S4.Nodup)(k12:∀i∈S1++S2,i<n1)(k3:∀i∈S3,n1≤i∧i<n2)(k4:∀i∈S4,n2≤i)(hn:n1≤n2):(S1++(S2++(S3++S4))).Nodup:=by
 rw[←Jt,Qo]
 refine⟨h12, ?_,fun a ha b hb he=> ?_⟩
 · rw[Qo]
   refine⟨h3,h4,fun a ha b hb he=> ?_⟩
   have:=k3 a ha;have:=k4 b hb;omega
 · have:=k12 a ha
   rcases J2.1 hb with hb|hb
   · have:=k3 b hb;omega
   · have:=k4 b hb
     omega
theorem KL(p:Q4)(hx:Rf p):Jn Tryz.prog 78 [aP p] [] (JlW p):=by
 refine(KM p hx).wk ?_
 rintro v H' ⟨c,r,S1,S2,rfl,h1,h2,h3⟩
 rcases h2 with⟨rfl,h4,rfl⟩|h2
 · refine⟨.agg [.f (.int .i64 p.size),c, .f (.sl 0 [])],fun w X u h=> ?_,_,_,rfl,⟨_,_,S1,[],rfl,rfl,h1,by rw[h4];exact .e⟩,h3⟩
   exact h.wk3
 · exact⟨_,fun _ _ _ h=>h,_,_,rfl,⟨_,_,S1,S2,rfl,rfl,h1,h2⟩,h3⟩
theorem BP(q:QZ)(hx:smG q):Jn Tryz.prog 44 [aG q] [] (Jmn q):=by
 refine Jn.cw (c:=_) Tryz.func44 rfl (n:=13) Tryz.ntmps44 (rs:=[.cell 2 28]) rfl ?_
 simp only[Je,Jf,zA,zS,Jd,Jb,Jc]
 simp(maxSteps:=999999)(disch:=omega)only[go_sem,zA,zM,zS,zE,zL]
 intro g1 g2
 refine Ui [0,1,3,4,6,7,2,5] [] none [8,9,10] [] Zd (by kernel_rfl) ?_
 simp(maxSteps:=999999)(disch:=omega)only[go_sem,Nat.reduceBEq,Bool.true_or,zA,zM,zS,zE,zL]
 refine JK.mkP (KL q.task hx.1) (⟨_,Tryz.func78,rfl,rfl⟩:Ji Tryz.prog 78) rfl rfl rfl ?_
 rintro _ H1 _ ⟨⟨c1,c2,S1,S2,rfl,rfl,k1,k2⟩,kn⟩ hS
 simp(maxSteps:=999999)(disch:=omega)only[go_sem,zA,zM,zS,zE,zL]
 refine JK.mkI (Yw q.put hx.2.1) (⟨_,Tryz.func89,rfl,rfl⟩:Ji Tryz.prog 89) rfl rfl rfl ?_
 intro c3 H3 S3 h3 hS3
 simp(maxSteps:=999999)(disch:=omega)only[go_sem,zA,zM,zS,zE,zL]
 refine JZ.mkI (Yw q.moves hx.2.2) (⟨_,Tryz.func89,rfl,rfl⟩:Ji Tryz.prog 89) rfl rfl rfl ?_
 intro c4 H4 S4 h4 hS4
 simp(maxSteps:=999999)(disch:=omega)only[go_sem,zA,zM,zS,zE,zL]
 simp only[Jk,Je,Jf]at hS hS3 hS4
 refine⟨_,J0.refl _,_,_,rfl,Vx.of (p:=q.task) (S1:=S1) (S2:=S2) ⟨⟨_,_,_,_,rfl,rfl,k1.same fun k hk=> ?_,k2.same fun k hk=> ?_⟩,kn⟩ (h3.same fun k hk=> ?_) (h4.same fun k hk=> ?_) (JiA (n1:=H1.length+2) (n2:=H1.length+2+H3.length) kn h3.nd h4.nd (fun k hk=> ?_) (fun k hk=> ?_) (fun k hk=> ?_) (by omega))⟩
 · have:=hS k (by simp[hk])
   simp only[Jb,Jc]
   rw[QI (by omega),QI (by omega),Ja (by simp;omega),Ja (by omega)]
 · have:=hS k (by simp[hk])
   simp only[Jb,Jc]
   rw[QI (by omega),QI (by omega),Ja (by simp;omega),Ja (by omega)]
 · have:=hS3 k hk
   simp only[Jb,Jc]
   rw[QI (by omega),QI (by omega),Ja (by simp;omega)]
 · have:=hS4 k hk
   simp only[Jb,Jc]
   rw[QI (by omega),QI (by omega)]
 · have:=hS k hk;omega
 · have:=hS3 k hk;omega
 · have:=hS4 k hk;omega
end Go.Lg

namespace Go.Lg
open Go.Proofs
def wkC:CV→CV
 | .f .nil=> .f (.sl 0 [])
 |c=>c
theorem VC.wk{w:World}{X:Cx}{H:Jm}{c:CV}{v:Value}(h:VC w X H c v):VC w X H (wkC c) v:=by
 unfold wkC
 split
 · have h:VF w X.I .nil v:=h
   cases h
   exact VF.sl0 none 0
 · exact h
theorem VA.wkAgg{w:World}{X:Cx}{H:Jm}{cs:List CV}{u:Value}(h:VA w X H (.agg cs) u):VA w X H (.agg (cs.map wkC)) u:=by
 cases h with
 |agg _ vs hs h=>
  refine .agg _ vs (by simpa using hs) fun j hj=> ?_
  obtain⟨x,h1,h2⟩:=h j (by simpa using hj)
  refine⟨x,h1, ?_⟩
  rw[List.getElem_map]
  exact h2.wk
def gamQ0(q:QZ):KV:=fun v H=>∃cs S,v= .agg cs∧Vx H (cs.map wkC) q S
theorem Jn.gam{P:Program}{f:FuncId}{args:List AV}{H:Jm}{q:QZ}(h:Jn P f args H (gamQ0 q)):Jn P f args H (Jmn q):=
 h.wk fun v H' ⟨cs,S,h1,h2⟩=>⟨_,fun w X u hu=>by subst h1;exact hu.wkAgg,_,S,rfl,h2⟩
def Xt(p:Q4):QZ:=if JB p=true then⟨p,Jd p.given.length 0,[]⟩else⟨⟨0,[],[]⟩,[],[]⟩
end Go.Lg
