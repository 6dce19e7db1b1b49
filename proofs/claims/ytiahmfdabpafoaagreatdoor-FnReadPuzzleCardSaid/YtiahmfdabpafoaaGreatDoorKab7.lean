/- LgZ, LgZ2, cut to what is needed. -/
import Derived.Test.YtiahmfdabpafoaaGreatDoorKab4
open List renaming getElem?_eq_some_iff → Ja, getElem?_append_left → Jb, cons_append → Jc, nil_append → Jd, length_append → Je, length_cons → Jf, getElem?_eq_getElem → Jh, getElem?_set_ne → Jj, take_of_length_le → Jn, append_assoc → Js, mapM_cons → Jz, drop_zero → JB, mem_append → JF, length_map → JL, getElem?_append_right → JN, mem_cons → JV, map_append → J1, mapM_nil → Qa, map_cons → Qf, getElem?_map → Qo, mem_map → Qs, not_mem_nil → Q9, all_cons → XO, all_nil → Y0
open Nat renaming reduceAdd→zA,reduceMul→zM,reduceSub→zS,reduceEqDiff→zE,reduceLeDiff→zL
set_option linter.unusedSimpArgs false
set_option linter.unusedVariables false
namespace Go.Lg
class HSzK {α:Type} (E:α→List CV) (n:outParam Nat):Prop where
 sz:∀x,(E x).length=n
def kl{α:Type}(E:α→List CV)(xs:List α):List CV:=xs.flatMap E
section
variable{α:Type}{E:α→List CV}{n:Nat}
theorem Xq[h:HSzK E n](xs:List α):(kl E xs).length=xs.length*n:=by
 induction xs with
 |nil=>simp[kl]
 |cons x xs ih=>simp only[kl,List.flatMap_cons,Je,h.sz,Jf]at ih⊢;rw[ih,Nat.add_mul];omega
theorem JcY(xs ys:List α):kl E (xs++ys)=kl E xs++kl E ys:=by simp[kl]
end
inductive Qv(H:Ji):CV→List Int→List Nat→Prop where
 |e:Qv H (.f (.sl 0 [])) [] []
 |o (id g:Nat) (lim:Option Nat) (xs ys:List Int) (h:look H id g=some ⟨g,1,cl (eI .i64) (xs++ys)⟩):Qv H (.own id g 0 xs.length lim) xs [id]
def UH(H H':Ji)(S:List Nat):Prop:=H'.length=H.length∧∀id,id∉S→H'[id]? =H[id]?
theorem UH.refl(H:Ji)(S:List Nat):UH H H S:=⟨rfl,fun _ _=>rfl⟩
theorem UH.trans{H H' H'':Ji}{S:List Nat}(h:UH H H' S)(k:UH H' H'' S):UH H H'' S:=⟨k.1.trans h.1,fun id hi=>(k.2 id hi).trans (h.2 id hi)⟩
theorem UH.mono{H H':Ji}{S T:List Nat}(h:UH H H' S)(hs:∀i∈S,i∈T):UH H H' T:=⟨h.1,fun id hi=>h.2 id fun hm=>hi (hs id hm)⟩
theorem UH.look{H H':Ji}{S:List Nat}(h:UH H H' S){id g:Nat}(hi:id∉S):look H' id g=look H id g:=by
 unfold Lg.look;rw[h.2 id hi]
theorem UH.set(H:Ji)(id:Nat)(b:Option ZG):UH H (H.set id b) [id]:=⟨by simp,fun i hi=>by rw[Jj (by simp at hi;exact fun h=>hi h.symm)]⟩
theorem Qv.frm{H H':Ji}{c:CV}{xs:List Int}{S T:List Nat}(h:Qv H c xs S)(hf:UH H H' T)(hd:∀i∈S,i∉T):Qv H' c xs S:=by
 cases h with
 |e=>exact .e
 |o id g lim xs ys h=>exact .o id g lim xs ys (by rw[hf.look (hd id (by simp))];exact h)
theorem Qv.frz{H:Ji}{c:CV}{xs:List Int}{S:List Nat}(h:Qv H c xs S)(n:Nat):frz H (n+1) c=some (QD xs):=by
 cases h with
 |e=>cases n<;>rfl
 |o id g lim xs ys h=>
  simp only[Lg.frz,h,JB]
  rw[QP,List.take_append_of_le_length (by rw[Qb];exact Nat.le_refl _),Jn (by rw[Qb];exact Nat.le_refl _),X9]
  rfl
structure RO where
 r:Q2
 c:CV
 i:List Nat
 deriving Inhabited
def kR(o:RO):List CV:=[.f (.int .i64 o.r.kind),o.c, .f (.int .i64 o.r.val)]
instance:HSzK kR 3:=⟨fun _=>rfl⟩
def kRo(o:Option RO):List CV:=match o with|none=>[.f (.int .i64 0), .f .nil, .f (.int .i64 0)]|some o=>kR o
instance:HSzK kRo 3:=⟨fun o=>by cases o<;>rfl⟩
inductive ZZ(H:Ji):CV→List Q2→List Nat→Prop where
 |e:ZZ H (.f (.sl 0 [])) [] []
 |o (id g:Nat) (lim:Option Nat) (l:List RO) (ys:List CV) (h:look H id g=some ⟨g,3,kl kR l++ys⟩) (hi:∀o∈l,Qv H o.c o.r.cells o.i) (hd:(id::l.flatMap (·.i)).Nodup) (hy:∀c∈ys,Uh c=true):
    ZZ H (.own id g 0 l.length lim) (l.map (·.r)) (id::l.flatMap (·.i))
theorem ZZ.frm{H H':Ji}{c:CV}{rs:List Q2}{S T:List Nat}(h:ZZ H c rs S)(hf:UH H H' T)(hd:∀i∈S,i∉T):ZZ H' c rs S:=by
 cases h with
 |e=>exact .e
 |o id g lim l ys h hi hn hy=>
  refine .o id g lim l ys (by rw[hf.look (hd id (by simp))];exact h) (fun o ho=>(hi o ho).frm hf fun i hm=>hd i ?_) hn hy
  exact List.mem_cons_of_mem _ (List.mem_flatMap.2 ⟨o,ho,hm⟩)
theorem KQ{H:Ji}{n:Nat}:∀(l:List RO),(∀o∈l,Qv H o.c o.r.cells o.i)→(kl kR l).mapM (frz H (n+1))=some (fl eR (l.map (·.r)))
 |[],_=>rfl
 |o::l,h=>by
  have h1:=(h o (by simp)).frz n
  have h2:=KQ (n:=n) l fun x hx=>h x (by simp[hx])
  simp only[kl,List.flatMap_cons,kR,Jc,Jd]at h2⊢
  simp only[Jz,h1,h2,Option.pure_def,Option.bind_eq_bind,Option.bind_some]
  rfl
theorem ZZ.frz{H:Ji}{c:CV}{rs:List Q2}{S:List Nat}(h:ZZ H c rs S)(n:Nat):frz H (n+2) c=some (WR eR rs):=by
 cases h with
 |e=>rfl
 |o id g lim l ys h hi hn hy=>
  simp only[Lg.frz,h,JB]
  rw[List.take_append_of_le_length (by rw[Xq];exact Nat.le_refl _),Jn (by rw[Xq];exact Nat.le_refl _),KQ l hi]
  simp
def QS(H:Ji):AV→Option AV
 | .c x=>(frzC H x).map .c
 | .agg cs=>(cs.mapM (frzC H)).map .agg
 | .void=>some .void
 |_=>none
theorem Bf{w:World}{X:Cx}{H:Ji}(R:QZ w X H){x y:CV}{v:Value}(h:frzC H x=some y)(hv:VC w X H x v):VC w (X.still w) [] y v:=by
 have hw:∀b,(X.ice H).I b→(X.still w).I b:=fun b hb=>by
  rcases hb with hb|⟨id,blk,h1,h2⟩
  · exact R.imm b hb
  · obtain⟨_,_,cc,t,h3,_⟩:=R.blk id blk h1
    rw[←h2]
    exact(Array.getElem?_eq_some_iff.1 h3).1
 have h2:=Ya R h hv
 cases y with
 |f y=>exact VF.wide hw h2
 |fp cs off=>obtain⟨b,o,k1,k2,k3⟩:=h2;exact⟨b,o,k1,hw b k2,k3.mono (fun b hb=>⟨hw b hb,rfl⟩) k2⟩
 |nilp=>exact h2
 |nilf=>exact h2
 |emp=>exact h2
 |ptr id g off=>obtain⟨k1,k2,k3⟩:=h2;exact⟨k1,k2,fun hl=>by simp[look]at hl⟩
 |own id g off n lim=>obtain⟨k1,k2,k3⟩:=h2;exact⟨k1,k2,fun b hb=>by simp[look]at hb⟩
 |fn f caps=>exact h2
theorem KI{w:World}{X:Cx}{H:Ji}(R:QZ w X H){x y:AV}{v:Value}(h:QS H x=some y)(hv:VA w X H x v):VA w (X.still w) [] y v:=by
 unfold QS at h
 split at h
 · rename_i x
   cases hs:frzC H x with
   |none=>simp[hs]at h
   |some z=>simp[hs]at h;subst h;exact .c _ _ (Bf R hs (ZB hv))
 · rename_i cs
   cases hs:cs.mapM (frzC H)with
   |none=>simp[hs]at h
   |some z=>
    simp[hs]at h;subst h
    obtain⟨h1,h2⟩:=Zf hs
    cases hv with
    |agg cs vs hsz hc=>
     refine .agg _ _ (by omega) fun j hj=> ?_
     obtain⟨y,h3,h4⟩:=h2 j (by omega)
     obtain⟨u,h5,h6⟩:=hc j (by omega)
     have:z[j]=y:=by simpa[Jh hj]using h3
     rw[this]
     exact⟨u,h5,Bf R h4 h6⟩
 · cases h;cases hv;exact .void
 · cases h
end Go.Lg

namespace Go.Lg
section
variable{P:Program}{o:Oper}{st:St}{K:KV}{fo:Operand}{xs:Array Operand}{ts:Array TypeId}{f:FuncId}{args args':List AV}{v:AV}{u:Value}{Q:KV}
theorem Qh.rdD(hc:Qd P f args' v)(he:Jm P f)(ho:o.op= .call ⟨.value fo,xs,ts⟩)(ha:Qp st fo xs=some (f,args))(hs:args.mapM (QS st.h)=some args')
 (hf:W7 v=some u) (hk:K v st.h):Qh P o st K:=by
 intro w X a R next Q hn
 obtain⟨vs,h1,hvs⟩:=UD (P:=P) R ho ha he
 obtain⟨hl,hgm⟩:=Zf hs
 have R0:QZ w (X.still w) []:=⟨fun b hb=>hb,fun id b hb=>by simp at hb,fun id id' b b' hb=>by simp at hb,R.heap.tab.mono fun b hb=>⟨R.heap.imm b hb,rfl⟩⟩
 refine Yi (h1 w) ((hc w (X.still w) vs R0 ⟨by rw[hvs.1,hl],fun i hi=> ?_⟩).mono fun e w'' ⟨r,u',X',H',k1,k2,k3,k4,k5⟩=>⟨u, ?_, ?_⟩)
 · obtain⟨x,q1,q2⟩:=hvs.2 i (by omega)
   obtain⟨y,q3,q4⟩:=hgm i (by omega)
   have:args'[i]=y:=by simpa[Jh hi]using q3
   rw[this]
   exact⟨x,q1,KI R.heap q4 q2⟩
 · have k5:r=v:=k5
   subst k5
   rw[k1,(Ui hf).2 _ _ _ _ k2]
 · have hg:Za w w'':=⟨fun b hb=>(k4.imm b hb).2,k4.size,k4.os,k4.tape,k4.output⟩
   exact hn v u X st.h w'' ((Ui hf).1 _ _ _) (hg.rel R.heap) (hg.ev R.heap) hk
theorem Qh.mkD(hc:Jq P f args' [] Q)(he:Jm P f)(ho:o.op= .call ⟨.value fo,xs,ts⟩)(ha:Qp st fo xs=some (f,args))(hs:args.mapM (QS st.h)=some args')
 (hk:∀r H',Q r H'→(XB r=true∧scal1 r=true∧Ff H')∧K (Vq st.h.length r) (st.h++QN st.h.length H')):Qh P o st K:=by
 obtain⟨h1,h2⟩:=Vi ha
 refine Qh.call ho h1 he ?_
 rw[h2]
 refine(Jq.frameSn (QS st.h) (fun w X x y v R h hv=>KI R h hv) hs hc fun r H' h=>(hk r H' h).1).mono ?_
 rintro r H2 ⟨r',H',h3,rfl,rfl⟩
 exact(hk _ _ h3).2
end
section
variable{P:Program}{ops:Array Oper}{o:Oper}{s:List AV}{H:Ji}{K:KV}{fo:Operand}{xs:Array Operand}{ts:Array TypeId}{f:FuncId}{args args':List AV}{v:AV}{u:Value}{Q:KV}
theorem Qe.rdD(hc:Qd P f args' v)(he:Jm P f)(ho:o.op= .call ⟨.value fo,xs,ts⟩)(ha:Qp ⟨s,H⟩ fo xs=some (f,args))(hs:args.mapM (QS H)=some args')
 (hf:W7 v=some u) (hk:K v H):Qe P ops o s H K:=Qe.call ho ha fun s' ha'=>Qh.rdD hc he ho ha' hs hf hk
theorem Qe.mkD(hc:Jq P f args' [] Q)(he:Jm P f)(ho:o.op= .call ⟨.value fo,xs,ts⟩)(ha:Qp ⟨s,H⟩ fo xs=some (f,args))(hs:args.mapM (QS H)=some args')
 (hk:∀r H',Q r H'→(XB r=true∧scal1 r=true∧Ff H')∧K (Vq H.length r) (H++QN H.length H')):Qe P ops o s H K:=Qe.call ho ha fun s' ha'=>Qh.mkD hc he ho ha' hs hk
end
theorem ZK{H0 H:Ji}{id g:Nat}{b:ZG}(h:look H id g=some b):look (H0++QN H0.length H) (id+H0.length) g=some (Q3 H0.length b):=by
 obtain⟨h1,h2⟩:=Jw h
 have:(H0++QN H0.length H)[id+H0.length]? =some (some (Q3 H0.length b)):=by
  rw[JN (by omega),Nat.add_sub_cancel]
  simp[QN,h1]
 have:=Qq this
 simp only[Q3]at this⊢
 rw[h2]at this⊢
 exact this
theorem JR{H H':Ji}{id g:Nat}{b:ZG}(h:look H id g=some b):look (H++H') id g=some b:=(Qc.app H H').look h
theorem Nh(k:Nat)(c:CV):Uh (Zo k c)=Uh c:=by cases c<;>rfl
theorem Qv.shift{H0 H:Ji}{c:CV}{xs:List Int}{S:List Nat}(h:Qv H c xs S):Qv (H0++QN H0.length H) (Zo H0.length c) xs (S.map (· +H0.length)):=by
 cases h with
 |e=>exact .e
 |o id g lim xs ys h=>
  refine .o (id+H0.length) g lim xs ys ?_
  rw[ZK h]
  simp only[Q3,Vp]
theorem Qv.app{H H':Ji}{c:CV}{xs:List Int}{S:List Nat}(h:Qv H c xs S):Qv (H++H') c xs S:=by
 cases h with
 |e=>exact .e
 |o id g lim xs ys h=>exact .o id g lim xs ys (JR h)
def RO.sh(k:Nat)(o:RO):RO:=⟨o.r,Zo k o.c,o.i.map (· +k)⟩
theorem kl_sh(k:Nat)(l:List RO):(kl kR l).map (Zo k)=kl kR (l.map (RO.sh k)):=by
 simp only[kl,List.map_flatMap,List.flatMap_map];rfl
theorem ZZ.shift{H0 H:Ji}{c:CV}{rs:List Q2}{S:List Nat}(h:ZZ H c rs S):ZZ (H0++QN H0.length H) (Zo H0.length c) rs (S.map (· +H0.length)):=by
 cases h with
 |e=>exact .e
 |o id g lim l ys h hi hd hy=>
  have:=ZZ.o (H:=H0++QN H0.length H) (id+H0.length) g lim (l.map (RO.sh H0.length)) (ys.map (Zo H0.length)) (by
   rw[ZK h]
   simp only[Q3,J1,kl_sh]) (fun o ho=>by
   obtain⟨p,hp,rfl⟩:=Qs.1 ho
   exact(hi p hp).shift) (by
   have e:(id+H0.length)::(l.map (RO.sh H0.length)).flatMap (·.i)=(id::l.flatMap (·.i)).map (· +H0.length):=by
    simp only[Qf,List.flatMap_map,List.map_flatMap];rfl
   rw[e]
   exact List.pairwise_map.2 (hd.imp fun h he=>h (by omega))) (fun c hc=>by
   obtain⟨d,hd,rfl⟩:=Qs.1 hc
   rw[Nh];exact hy d hd)
  simp only[JL,List.map_map,List.flatMap_map]at this
  simp only[Zo,Qf,List.map_flatMap]
  exact this
theorem ZZ.app{H H':Ji}{c:CV}{rs:List Q2}{S:List Nat}(h:ZZ H c rs S):ZZ (H++H') c rs S:=by
 cases h with
 |e=>exact .e
 |o id g lim l ys h hi hd hy=>exact .o id g lim l ys (JR h) (fun o ho=>(hi o ho).app) hd hy
theorem Qv.frzC{H:Ji}{c:CV}{xs:List Int}{S:List Nat}(h:Qv H c xs S):Lg.frzC H c=some (.f (QD xs)):=by
 have:=h.frz 5
 cases h with
 |e=>rfl
 |o id g lim xs ys h=>simp only[Lg.frzC,this,Option.map_some]
theorem ZZ.frzC{H:Ji}{c:CV}{rs:List Q2}{S:List Nat}(h:ZZ H c rs S):Lg.frzC H c=some (.f (WR eR rs)):=by
 have:=h.frz 4
 cases h with
 |e=>rfl
 |o id g lim l ys h hi hd hy=>simp only[Lg.frzC,this,Option.map_some]
theorem Qv.lt{H:Ji}{c:CV}{xs:List Int}{S:List Nat}(h:Qv H c xs S):∀i∈S,i<H.length:=by
 cases h with
 |e=>simp
 |o id g lim xs ys h=>intro i hi;have:i=id:=by simpa using hi
                      subst this;exact(Ja.1 (Jw h).1).1
theorem ZZ.lt{H:Ji}{c:CV}{xs:List Q2}{S:List Nat}(h:ZZ H c xs S):∀i∈S,i<H.length:=by
 cases h with
 |e=>simp
 |o id g lim l ys h hi hd hy=>
  intro i hm
  rcases JV.1 hm with rfl|hm
  · exact(Ja.1 (Jw h).1).1
  · obtain⟨o,ho,hm⟩:=List.mem_flatMap.1 hm
    exact(hi o ho).lt i hm
theorem Qv.nd{H:Ji}{c:CV}{xs:List Int}{S:List Nat}(h:Qv H c xs S):S.Nodup:=by cases h<;>simp
theorem ZZ.nd{H:Ji}{c:CV}{xs:List Q2}{S:List Nat}(h:ZZ H c xs S):S.Nodup:=by
 cases h with
 |e=>simp
 |o id g lim l ys h hi hd hy=>exact hd
structure V1(H:Ji)(cs:List CV)(p:Zk)(S:List Nat):Prop where
 ex:∃c1 c2 S1 S2,cs=[.f (.int .i64 p.size),c1,c2]∧S=S1++S2∧Qv H c1 p.given S1∧ZZ H c2 p.rules S2
 nd:S.Nodup
structure Wh(H:Ji)(cs:List CV)(q:B8)(S:List Nat):Prop where
 ex:∃c1 c2 c3 c4 S1 S2 S3 S4,cs=[.f (.int .i64 q.task.size),c1,c2,c3,c4]∧S=S1++(S2++(S3++S4))∧Qv H c1 q.task.given S1∧ZZ H c2 q.task.rules S2∧Qv H c3 q.put S3∧Qv H c4 q.moves S4
 nd:S.Nodup
theorem V1.snap{H:Ji}{cs:List CV}{p:Zk}{S:List Nat}(h:V1 H cs p S):QS H (.agg cs)=some (aP p):=by
 obtain⟨c1,c2,S1,S2,rfl,_,h1,h2⟩:=h.ex
 simp only[QS,Jz,Qa,h1.frzC,h2.frzC,Option.pure_def,Option.bind_eq_bind,Option.bind_some]
 rfl
theorem Wh.snap{H:Ji}{cs:List CV}{q:B8}{S:List Nat}(h:Wh H cs q S):QS H (.agg cs)=some (aG q):=by
 obtain⟨c1,c2,c3,c4,S1,S2,S3,S4,rfl,_,h1,h2,h3,h4⟩:=h.ex
 simp only[QS,Jz,Qa,h1.frzC,h2.frzC,h3.frzC,h4.frzC,Option.pure_def,Option.bind_eq_bind,Option.bind_some]
 rfl
theorem W1{S:List Nat}{k:Nat}(h:S.Nodup):(S.map (· +k)).Nodup:=List.pairwise_map.2 (h.imp fun h he=>h (by omega))
theorem V1.shift{H0 H:Ji}{cs:List CV}{p:Zk}{S:List Nat}(h:V1 H cs p S):V1 (H0++QN H0.length H) (cs.map (Zo H0.length)) p (S.map (· +H0.length)):=by
 obtain⟨c1,c2,S1,S2,rfl,rfl,h1,h2⟩:=h.ex
 exact⟨⟨_,_,_,_,rfl,by simp,h1.shift,h2.shift⟩,W1 h.nd⟩
theorem Wh.shift{H0 H:Ji}{cs:List CV}{q:B8}{S:List Nat}(h:Wh H cs q S):Wh (H0++QN H0.length H) (cs.map (Zo H0.length)) q (S.map (· +H0.length)):=by
 obtain⟨c1,c2,c3,c4,S1,S2,S3,S4,rfl,rfl,h1,h2,h3,h4⟩:=h.ex
 exact⟨⟨_,_,_,_,_,_,_,_,rfl,by simp,h1.shift,h2.shift,h3.shift,h4.shift⟩,W1 h.nd⟩
theorem V1.app{H H':Ji}{cs:List CV}{p:Zk}{S:List Nat}(h:V1 H cs p S):V1 (H++H') cs p S:=by
 obtain⟨c1,c2,S1,S2,rfl,rfl,h1,h2⟩:=h.ex
 exact⟨⟨_,_,_,_,rfl,rfl,h1.app,h2.app⟩,h.nd⟩
theorem Wh.app{H H':Ji}{cs:List CV}{q:B8}{S:List Nat}(h:Wh H cs q S):Wh (H++H') cs q S:=by
 obtain⟨c1,c2,c3,c4,S1,S2,S3,S4,rfl,rfl,h1,h2,h3,h4⟩:=h.ex
 exact⟨⟨_,_,_,_,_,_,_,_,rfl,rfl,h1.app,h2.app,h3.app,h4.app⟩,h.nd⟩
theorem Wh.frm{H H':Ji}{cs:List CV}{q:B8}{S T:List Nat}(h:Wh H cs q S)(hf:UH H H' T)(hd:∀i∈S,i∉T):Wh H' cs q S:=by
 obtain⟨c1,c2,c3,c4,S1,S2,S3,S4,rfl,rfl,h1,h2,h3,h4⟩:=h.ex
 refine⟨⟨_,_,_,_,_,_,_,_,rfl,rfl,h1.frm hf fun i hi=>hd i ?_,h2.frm hf fun i hi=>hd i ?_,h3.frm hf fun i hi=>hd i ?_,h4.frm hf fun i hi=>hd i ?_⟩,h.nd⟩<;>simp[hi]
theorem V1.frm{H H':Ji}{cs:List CV}{p:Zk}{S T:List Nat}(h:V1 H cs p S)(hf:UH H H' T)(hd:∀i∈S,i∉T):V1 H' cs p S:=by
 obtain⟨c1,c2,S1,S2,rfl,rfl,h1,h2⟩:=h.ex
 refine⟨⟨_,_,_,_,rfl,rfl,h1.frm hf fun i hi=>hd i ?_,h2.frm hf fun i hi=>hd i ?_⟩,h.nd⟩<;>simp[hi]
theorem Qv.same{H H':Ji}{c:CV}{xs:List Int}{S:List Nat}(h:Qv H c xs S)(hs:∀i∈S,H'[i]? =H[i]?):Qv H' c xs S:=by
 cases h with
 |e=>exact .e
 |o id g lim xs ys h=>exact .o id g lim xs ys (by unfold look at*;rw[hs id (by simp)];exact h)
theorem ZZ.same{H H':Ji}{c:CV}{rs:List Q2}{S:List Nat}(h:ZZ H c rs S)(hs:∀i∈S,H'[i]? =H[i]?):ZZ H' c rs S:=by
 cases h with
 |e=>exact .e
 |o id g lim l ys h hi hn hy=>
  refine .o id g lim l ys (by unfold look at*;rw[hs id (by simp)];exact h) (fun o ho=>(hi o ho).same fun i hm=>hs i ?_) hn hy
  exact List.mem_cons_of_mem _ (List.mem_flatMap.2 ⟨o,ho,hm⟩)
theorem V1.same{H H':Ji}{cs:List CV}{p:Zk}{S:List Nat}(h:V1 H cs p S)(hs:∀i∈S,H'[i]? =H[i]?):V1 H' cs p S:=by
 obtain⟨c1,c2,S1,S2,rfl,rfl,h1,h2⟩:=h.ex
 exact⟨⟨_,_,_,_,rfl,rfl,h1.same fun i hi=>hs i (by simp[hi]),h2.same fun i hi=>hs i (by simp[hi])⟩,h.nd⟩
theorem Wh.of{H:Ji}{z:Int}{c1 c2 c3 c4:CV}{p:Zk}{xs ys:List Int}{S1 S2 S3 S4:List Nat}(h:V1 H [.f (.int .i64 z),c1,c2] p (S1++S2))(h3:Qv H c3 xs S3)(h4:Qv H c4 ys S4)(hn:(S1++(S2++(S3++S4))).Nodup):
 Wh H [.f (.int .i64 z),c1,c2,c3,c4] ⟨p,xs,ys⟩ (S1++(S2++(S3++S4))):=by
 obtain⟨d1,d2,T1,T2,e1,e2,k1,k2⟩:=h.ex
 cases e1
 refine⟨⟨_,_,_,_,T1,T2,S3,S4,rfl, ?_,k1,k2,h3,h4⟩,hn⟩
 rw[←Js,e2,Js]
theorem JY{H:Ji}{g sz:Nat}{cs:List CV}:look (H++[some ⟨g,sz,cs⟩]) H.length g=some ⟨g,sz,cs⟩:=Qq (b:=⟨g,sz,cs⟩) (by simp)
theorem Up{H:Ji}{x y:Option ZG}:(H++[x]).set H.length y=H++[y]:=by rw[List.set_append_right _ _ (Nat.le_refl _),Nat.sub_self];rfl
theorem KU{H H':Ji}{id g:Nat}(h:id<H.length):look (H++H') id g=look H id g:=by
 unfold look;rw[Jb h]
theorem V1.lt{H:Ji}{cs:List CV}{p:Zk}{S:List Nat}(h:V1 H cs p S):∀i∈S,i<H.length:=by
 obtain⟨c1,c2,S1,S2,rfl,rfl,h1,h2⟩:=h.ex
 intro i hi
 rcases JF.1 hi with hi|hi
 · exact h1.lt i hi
 · exact h2.lt i hi
theorem Wh.lt{H:Ji}{cs:List CV}{q:B8}{S:List Nat}(h:Wh H cs q S):∀i∈S,i<H.length:=by
 obtain⟨c1,c2,c3,c4,S1,S2,S3,S4,rfl,rfl,h1,h2,h3,h4⟩:=h.ex
 intro i hi
 simp only[JF]at hi
 rcases hi with hi|hi|hi|hi
 · exact h1.lt i hi
 · exact h2.lt i hi
 · exact h3.lt i hi
 · exact h4.lt i hi
theorem VV(k:Nat)(H:Ji):(QN k H).length=H.length:=by simp[QN]
theorem Nb{S:List Nat}{k n:Nat}(h:∀i∈S,i<n):∀i∈S.map (· +k),k≤i∧i<k+n:=by
 intro i hi
 obtain⟨x,hx,rfl⟩:=Qs.1 hi
 have:=h x hx
 omega
section
variable{P:Program}{o:Oper}{st:St}{K:KV}{fo:Operand}{xs:Array Operand}{ts:Array TypeId}{f:FuncId}{args args':List AV}
end
def R6(S:List Nat)(H:Ji):Ji:=(List.range H.length).map fun i=>if i∈S then H[i]?.join else none
theorem Jc0{S:List Nat}{H:Ji}{i:Nat}(h:i∈S)(hl:i<H.length):(R6 S H)[i]? =H[i]? :=by
 simp[R6,hl,h,Jh hl]
theorem R5{S:List Nat}{H:Ji}{i:Nat}{b:ZG}(h:(R6 S H)[i]? =some (some b)):i∈S∧H[i]? =some (some b):=by
 simp only[R6,Qo,Option.map_eq_some_iff]at h
 obtain⟨j,h1,h2⟩:=h
 have hj:=Ja.1 h1
 obtain⟨hj1,hj2⟩:=hj
 simp only[List.length_range,List.getElem_range]at hj1 hj2
 subst hj2
 split at h2
 · rename_i hm
   refine⟨hm, ?_⟩
   rw[Jh hj1]at h2⊢
   simpa using h2
 · cases h2
theorem Je1(S:List Nat)(H:Ji):Qc H (R6 S H):=fun id b h=>(R5 h).2
theorem Qv.blk{H:Ji}{c:CV}{xs:List Int}{S:List Nat}(h:Qv H c xs S):∀i∈S,∀b,H[i]? =some (some b)→∀x∈b.cs,Uh x=true:=by
 cases h with
 |e=>simp
 |o id g lim xs ys h=>
  intro i hi b hb x hx
  obtain rfl:i=id:=by simpa using hi
  rw[(Jw h).1]at hb
  cases hb
  exact Jd4 (g:=g) (n:=1) (scalI .i64 (xs++ys)) 0 _ rfl x hx
theorem Qv.scal1{H:Ji}{c:CV}{xs:List Int}{S:List Nat}(h:Qv H c xs S):Uh c=true:=by cases h<;>rfl
theorem ZZ.scal1{H:Ji}{c:CV}{xs:List Q2}{S:List Nat}(h:ZZ H c xs S):Uh c=true:=by cases h<;>rfl
theorem ZZ.blk{H:Ji}{c:CV}{xs:List Q2}{S:List Nat}(h:ZZ H c xs S):∀i∈S,∀b,H[i]? =some (some b)→∀x∈b.cs,Uh x=true:=by
 cases h with
 |e=>simp
 |o id g lim l ys h hi hd hy=>
  intro i hm b hb x hx
  rcases JV.1 hm with rfl|hm
  · rw[(Jw h).1]at hb
    cases hb
    rcases JF.1 hx with hx|hx
    · obtain⟨o,ho,hx⟩:=List.mem_flatMap.1 hx
      simp only[kR,JV,Q9,or_false]at hx
      rcases hx with rfl|rfl|rfl
      · rfl
      · exact(hi o ho).scal1
      · rfl
    · exact hy x hx
  · obtain⟨o,ho,hm⟩:=List.mem_flatMap.1 hm
    exact(hi o ho).blk i hm b hb x hx
theorem V1.blk{H:Ji}{cs:List CV}{p:Zk}{S:List Nat}(h:V1 H cs p S):(∀i∈S,∀b,H[i]? =some (some b)→∀x∈b.cs,Uh x=true)∧cs.all Uh=true:=by
 obtain⟨c1,c2,S1,S2,rfl,rfl,h1,h2⟩:=h.ex
 refine⟨fun i hi=> ?_,by simp only[XO,Y0,h1.scal1,h2.scal1,Bool.and_true];rfl⟩
 rcases JF.1 hi with hi|hi
 · exact h1.blk i hi
 · exact h2.blk i hi
theorem Wh.blk{H:Ji}{cs:List CV}{q:B8}{S:List Nat}(h:Wh H cs q S):(∀i∈S,∀b,H[i]? =some (some b)→∀x∈b.cs,Uh x=true)∧cs.all Uh=true:=by
 obtain⟨c1,c2,c3,c4,S1,S2,S3,S4,rfl,rfl,h1,h2,h3,h4⟩:=h.ex
 refine⟨fun i hi=> ?_,by simp only[XO,Y0,h1.scal1,h2.scal1,h3.scal1,h4.scal1,Bool.and_true];rfl⟩
 simp only[JF]at hi
 rcases hi with hi|hi|hi|hi
 · exact h1.blk i hi
 · exact h2.blk i hi
 · exact h3.blk i hi
 · exact h4.blk i hi
theorem Wh.same{H H':Ji}{cs:List CV}{q:B8}{S:List Nat}(h:Wh H cs q S)(hs:∀i∈S,H'[i]? =H[i]?):Wh H' cs q S:=by
 obtain⟨c1,c2,c3,c4,S1,S2,S3,S4,rfl,rfl,h1,h2,h3,h4⟩:=h.ex
 refine⟨⟨_,_,_,_,_,_,_,_,rfl,rfl,h1.same fun i hi=>hs i ?_,h2.same fun i hi=>hs i ?_,h3.same fun i hi=>hs i ?_,h4.same fun i hi=>hs i ?_⟩,h.nd⟩<;>simp[hi]
theorem JaI{S:List Nat}{H:Ji}(h:∀i∈S,∀b,H[i]? =some (some b)→∀x∈b.cs,Uh x=true):Ff (R6 S H):=fun id b hb c hc=>by
 obtain⟨h1,h2⟩:=R5 hb
 exact h id h1 b h2 c hc
section
variable{P:Program}{o:Oper}{st:St}{K:KV}{fo:Operand}{xs:Array Operand}{ts:Array TypeId}{f:FuncId}{args args':List AV}{q:B8}
end
def Jhd(xs:List Int):KV:=fun r H=>∃c S,r= .c c∧Qv H c xs S∧Ff H
theorem Qv.scal{H:Ji}{c:CV}{xs:List Int}{S:List Nat}(h:Qv H c xs S):Uh c=true:=by cases h<;>rfl
section
variable{P:Program}{o:Oper}{st:St}{K:KV}{fo:Operand}{xs:Array Operand}{ts:Array TypeId}{f:FuncId}{args args':List AV}{zs:List Int}
theorem Qh.mkDI(hc:Jq P f args' [] (Jhd zs))(he:Jm P f)(ho:o.op= .call ⟨.value fo,xs,ts⟩)(ha:Qp st fo xs=some (f,args))(hs:args.mapM (QS st.h)=some args')
 (hk:∀c H' S,Qv (st.h++H') c zs S→(∀i∈S,st.h.length≤i∧i<st.h.length+H'.length)→K (.c c) (st.h++H')):Qh P o st K:=
 Qh.mkD hc he ho ha hs fun r H' ⟨c,S,h1,h2,h3⟩=>by
  subst h1
  exact⟨⟨rfl,h2.scal,h3⟩,hk _ _ _ h2.shift (by rw[VV];exact Nb h2.lt)⟩
end
theorem V3{H:Ji}{x y:AV}(h:QS H x=some y):[x].mapM (QS H)=some [y]:=by
 simp only[Jz,Qa,h,Option.pure_def,Option.bind_eq_bind,Option.bind_some]
theorem UX{H:Ji}{x y x' y':AV}(h:QS H x=some y)(h':QS H x'=some y'):[x,x'].mapM (QS H)=some [y,y']:=by
 simp only[Jz,Qa,h,h',Option.pure_def,Option.bind_eq_bind,Option.bind_some]
theorem JaC{H:Ji}{x y x' y' z z':AV}(h:QS H x=some y)(h':QS H x'=some y')(h2:QS H z=some z'):[x,x',z].mapM (QS H)=some [y,y',z']:=by
 simp only[Jz,Qa,h,h',h2,Option.pure_def,Option.bind_eq_bind,Option.bind_some]
theorem Qv.snap{H:Ji}{c:CV}{xs:List Int}{S:List Nat}(h:Qv H c xs S):QS H (.c c)=some (ZY xs):=by
 simp only[QS,h.frzC,Option.map_some]
theorem V4{H:Ji}{x:Int}:QS H (int x)=some (int x):=rfl
theorem fl_if{α β:Type}{E:α→List FV}{n:Nat}[HSz E n]{xs:List α}{x y:β}:(if(fl E xs).length=xs.length*n then x else y)=x:=if_pos (Z5 xs)
theorem JhH{α:Type}{E:α→List FV}{xs:List α}:(fl E xs).map CV.f=cl E xs:=rfl
attribute [go_sem] fl_if JhH
end Go.Lg
