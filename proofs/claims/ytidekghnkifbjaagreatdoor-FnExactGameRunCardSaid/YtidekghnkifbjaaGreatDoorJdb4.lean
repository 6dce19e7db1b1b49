/- LgZ, LgZ2, GpL, GpP, cut to what is needed. -/
import Derived.Test.YtidekghnkifbjaaGreatDoorJdb0
import Derived.Test.YtidekghnkifbjaaGreatDoorJdb3
open List renaming length_cons → Ja, cons_append → Jb, getElem?_append_left → Jc, nil_append → Jd, length_nil → Je, replicate → Jf, getElem?_eq_some_iff → Jh, getElem?_set_ne → Ji, getElem?_eq_getElem → Jl, length_set → Jp, length_append → Jq, take_of_length_le → Js, append_nil → Jt, getElem?_take_of_lt → Jz, getElem?_set_self → JE, mem_append → JI, length_singleton → JQ, getElem?_append_right → JV, append_assoc → JW, length_take → JX, nodup_append → JZ, drop_zero → J1, mapM_cons → J3, mem_map → Qg, map_cons → Qh, length_map → Qi, getElem?_map → Qk, mem_cons → Qn, map_append → Qo, mapM_nil → QB, nodup_cons → Zx, getElem?_cons_succ → Z2, not_mem_nil → Ub, all_cons → UZ, all_nil → V6
open Nat renaming reduceAdd→zA,reduceMul→zM,reduceSub→zS,reduceEqDiff→zE,reduceLeDiff→zL
set_option linter.unusedSimpArgs false
set_option linter.unusedVariables false
namespace Go.Lg
class HSzK {α:Type} (E:α→List CV) (n:outParam Nat):Prop where
 sz:∀x,(E x).length=n
def kl{α:Type}(E:α→List CV)(xs:List α):List CV:=xs.flatMap E
section
variable{α:Type}{E:α→List CV}{n:Nat}
theorem UW[h:HSzK E n](xs:List α):(kl E xs).length=xs.length*n:=by
 induction xs with
 |nil=>simp[kl]
 |cons x xs ih=>simp only[kl,List.flatMap_cons,Jq,h.sz,Ja]at ih⊢;rw[ih,Nat.add_mul];omega
theorem BN(xs ys:List α):kl E (xs++ys)=kl E xs++kl E ys:=by simp[kl]
theorem Jbp[h:HSzK E n]:∀(xs:List α) (i:Nat),(kl E xs).drop (i*n)=kl E (xs.drop i)
 |[],i=>by simp[kl]
 |x::xs,0=>by simp
 |x::xs,i+1=>by
  have ih:=Jbp xs i
  have:(i+1)*n=(E x).length+i*n:=by rw[h.sz,Nat.add_mul];omega
  rw[this]
  simp only[kl,List.flatMap_cons,List.drop_append,List.drop_succ_cons]at ih⊢
  rw[List.drop_eq_nil_of_le (by omega),Nat.add_sub_cancel_left,ih]
  rfl
theorem Jfd[h:HSzK E n]:∀(xs:List α) (i:Nat),(kl E xs).take (i*n)=kl E (xs.take i)
 |[],i=>by simp[kl]
 |x::xs,0=>by simp[kl]
 |x::xs,i+1=>by
  have ih:=Jfd xs i
  have:(i+1)*n=(E x).length+i*n:=by rw[h.sz,Nat.add_mul];omega
  rw[this]
  simp only[kl,List.flatMap_cons,List.take_append,List.take_succ_cons]at ih⊢
  rw[Js (by omega),Nat.add_sub_cancel_left,ih]
theorem kl_at[h:HSzK E n](xs:List α){i:Nat}(hi:i<xs.length):((kl E xs).drop (i*n)).take n=E xs[i]:=by
 rw[Jbp,List.drop_eq_getElem_cons hi]
 simp only[kl,List.flatMap_cons]
 rw[List.take_append_of_le_length (by rw[h.sz];exact Nat.le_refl _),Js (by rw[h.sz];exact Nat.le_refl _)]
theorem JcR[hs:HSzK E n]{xs:List α}{i j:Nat}(hi:i<xs.length)(hj:j<n):(kl E xs)[i*n+j]? =(E xs[i])[j]? :=by
 have h:=kl_at (E:=E) xs hi
 have h2:=congrArg (fun l=>l[j]?) h
 simp only[Jz hj,List.getElem?_drop]at h2
 exact h2
theorem Fh[hs:HSzK E n]{xs:List α}{i:Nat}{v:α}(h:i<xs.length):J6 (kl E xs) (0+i*n) (E v)=kl E (xs.set i v):=by
 have e1:(kl E xs).take (0+i*n)=kl E (xs.take i):=by rw[Nat.zero_add,Jfd]
 have e2:(kl E xs).drop (0+i*n+(E v).length)=kl E (xs.drop (i+1)):=by
  rw[hs.sz,Nat.zero_add,←Nat.succ_mul,Jbp]
 rw[J6,e1,e2,List.set_eq_take_append_cons_drop,if_pos h]
 simp[kl]
theorem RF[hs:HSzK E n]{xs:List α}{i j:Nat}{c:CV}{v:α}(h:i<xs.length)(hj:j<n)(hv:E v=(E xs[i]).set j c):J6 (kl E xs) (0+i*n+j) [c]=kl E (xs.set i v):=by
 have hlen:(E xs[i]).length=n:=hs.sz _
 have key:J6 (kl E xs) (0+i*n+j) [c]=J6 (kl E xs) (0+i*n) ((E xs[i]).set j c):=by
  apply List.ext_getElem?
  intro q
  have hl:=UW (E:=E) xs
  have hle:(i+1)*n≤xs.length*n:=Nat.mul_le_mul_right _ h
  rw[Nat.add_mul,Nat.one_mul]at hle
  have g1:∀(m:List CV) (o:Nat),o+m.length≤(kl E xs).length→(J6 (kl E xs) o m)[q]? =if q<o then(kl E xs)[q]? else if q<o+m.length then m[q -o]? else(kl E xs)[q]? :=by
   intro m o hm
   simp only[J6]
   by_cases h1:q<o
   · rw[if_pos h1,JW,Jc (by simp;omega),Jz h1]
   · rw[if_neg h1]
     by_cases h2:q<o+m.length
     · rw[if_pos h2,JW,JV (by simp;omega),JX,Nat.min_eq_left (by omega),Jc (by omega)]
     · rw[if_neg h2,JV (by simp;omega),Jq,JX,Nat.min_eq_left (by omega),List.getElem?_drop]
       congr 1;omega
  rw[g1 _ _ (by simp;omega),g1 _ _ (by simp[hlen];omega)]
  simp only[JQ,Jp,hlen]
  by_cases h1:q<0+i*n
  · rw[if_pos (by omega),if_pos h1]
  · rw[if_neg h1]
    by_cases h2:q<0+i*n+n
    · rw[if_pos h2]
      have hq:(kl E xs)[q]? =(E xs[i])[q -i*n]? :=by
       rw[←JcR h (show q -i*n<n by omega)]
       congr 1;omega
      by_cases h3:q=0+i*n+j
      · rw[if_neg (by omega),if_pos (by omega)]
        have e1:q -(0+i*n+j)=0:=by omega
        have e2:q -(0+i*n)=j:=by omega
        rw[e1,e2]
        simp[hlen,hj]
      · have e2:q -(0+i*n)=q -i*n:=by omega
        rw[e2,Ji (by omega)]
        by_cases h4:q<0+i*n+j
        · rw[if_pos h4,hq]
        · rw[if_neg h4,if_neg (by omega),hq]
    · rw[if_neg (by omega),if_neg (by omega),if_neg h2]
 rw[key,←hv]
 exact Fh h
end
inductive Qr(H:Jn):CV→List Int→List Nat→Prop where
 |e:Qr H (.f (.sl 0 [])) [] []
 |o (id g:Nat) (lim:Option Nat) (xs ys:List Int) (h:look H id g=some ⟨g,1,cl (eI .i64) (xs++ys)⟩):Qr H (.own id g 0 xs.length lim) xs [id]
def WA(H H':Jn)(S:List Nat):Prop:=H'.length=H.length∧∀id,id∉S→H'[id]? =H[id]?
theorem WA.refl(H:Jn)(S:List Nat):WA H H S:=⟨rfl,fun _ _=>rfl⟩
theorem WA.trans{H H' H'':Jn}{S:List Nat}(h:WA H H' S)(k:WA H' H'' S):WA H H'' S:=⟨k.1.trans h.1,fun id hi=>(k.2 id hi).trans (h.2 id hi)⟩
theorem WA.mono{H H':Jn}{S T:List Nat}(h:WA H H' S)(hs:∀i∈S,i∈T):WA H H' T:=⟨h.1,fun id hi=>h.2 id fun hm=>hi (hs id hm)⟩
theorem WA.look{H H':Jn}{S:List Nat}(h:WA H H' S){id g:Nat}(hi:id∉S):look H' id g=look H id g:=by
 unfold Lg.look;rw[h.2 id hi]
theorem WA.set(H:Jn)(id:Nat)(b:Option Zo):WA H (H.set id b) [id]:=⟨by simp,fun i hi=>by rw[Ji (by simp at hi;exact fun h=>hi h.symm)]⟩
theorem Qr.frm{H H':Jn}{c:CV}{xs:List Int}{S T:List Nat}(h:Qr H c xs S)(hf:WA H H' T)(hd:∀i∈S,i∉T):Qr H' c xs S:=by
 cases h with
 |e=>exact .e
 |o id g lim xs ys h=>exact .o id g lim xs ys (by rw[hf.look (hd id (by simp))];exact h)
theorem Qr.frz{H:Jn}{c:CV}{xs:List Int}{S:List Nat}(h:Qr H c xs S)(n:Nat):frz H (n+1) c=some (Ql xs):=by
 cases h with
 |e=>cases n<;>rfl
 |o id g lim xs ys h=>
  simp only[Lg.frz,h,J1]
  rw[Q7,List.take_append_of_le_length (by rw[Qu];exact Nat.le_refl _),Js (by rw[Qu];exact Nat.le_refl _),BX]
  rfl
structure RO where
 r:Zq
 c:CV
 i:List Nat
 deriving Inhabited
def kR(o:RO):List CV:=[.f (.int .i64 o.r.kind),o.c, .f (.int .i64 o.r.val)]
instance:HSzK kR 3:=⟨fun _=>rfl⟩
def kRo(o:Option RO):List CV:=match o with|none=>[.f (.int .i64 0), .f .nil, .f (.int .i64 0)]|some o=>kR o
instance:HSzK kRo 3:=⟨fun o=>by cases o<;>rfl⟩
theorem JlT(l:List RO):kl kRo (l.map some)=kl kR l:=by simp only[kl,List.flatMap_map];rfl
inductive Ur(H:Jn):CV→List Zq→List Nat→Prop where
 |e:Ur H (.f (.sl 0 [])) [] []
 |o (id g:Nat) (lim:Option Nat) (l:List RO) (ys:List CV) (h:look H id g=some ⟨g,3,kl kR l++ys⟩) (hi:∀o∈l,Qr H o.c o.r.cells o.i) (hd:(id::l.flatMap (·.i)).Nodup) (hy:∀c∈ys,UO c=true):
    Ur H (.own id g 0 l.length lim) (l.map (·.r)) (id::l.flatMap (·.i))
theorem Ur.frm{H H':Jn}{c:CV}{rs:List Zq}{S T:List Nat}(h:Ur H c rs S)(hf:WA H H' T)(hd:∀i∈S,i∉T):Ur H' c rs S:=by
 cases h with
 |e=>exact .e
 |o id g lim l ys h hi hn hy=>
  refine .o id g lim l ys (by rw[hf.look (hd id (by simp))];exact h) (fun o ho=>(hi o ho).frm hf fun i hm=>hd i ?_) hn hy
  exact List.mem_cons_of_mem _ (List.mem_flatMap.2 ⟨o,ho,hm⟩)
theorem Fl{H:Jn}{n:Nat}:∀(l:List RO),(∀o∈l,Qr H o.c o.r.cells o.i)→(kl kR l).mapM (frz H (n+1))=some (fl eR (l.map (·.r)))
 |[],_=>rfl
 |o::l,h=>by
  have h1:=(h o (by simp)).frz n
  have h2:=Fl (n:=n) l fun x hx=>h x (by simp[hx])
  simp only[kl,List.flatMap_cons,kR,Jb,Jd]at h2⊢
  simp only[J3,h1,h2,Option.pure_def,Option.bind_eq_bind,Option.bind_some]
  rfl
theorem Ur.frz{H:Jn}{c:CV}{rs:List Zq}{S:List Nat}(h:Ur H c rs S)(n:Nat):frz H (n+2) c=some (VN eR rs):=by
 cases h with
 |e=>rfl
 |o id g lim l ys h hi hn hy=>
  simp only[Lg.frz,h,J1]
  rw[List.take_append_of_le_length (by rw[UW];exact Nat.le_refl _),Js (by rw[UW];exact Nat.le_refl _),Fl l hi]
  simp
def Zs(H:Jn):AV→Option AV
 | .c x=>(frzC H x).map .c
 | .agg cs=>(cs.mapM (frzC H)).map .agg
 | .void=>some .void
 |_=>none
theorem Nf{w:World}{X:Cx}{H:Jn}(R:ZA w X H){x y:CV}{v:Value}(h:frzC H x=some y)(hv:VC w X H x v):VC w (X.still w) [] y v:=by
 have hw:∀b,(X.ice H).I b→(X.still w).I b:=fun b hb=>by
  rcases hb with hb|⟨id,blk,h1,h2⟩
  · exact R.imm b hb
  · obtain⟨_,_,cc,t,h3,_⟩:=R.blk id blk h1
    rw[←h2]
    exact(Array.getElem?_eq_some_iff.1 h3).1
 have h2:=Ro R h hv
 cases y with
 |f y=>exact VF.wide hw h2
 |fp cs off=>obtain⟨b,o,k1,k2,k3⟩:=h2;exact⟨b,o,k1,hw b k2,k3.mono (fun b hb=>⟨hw b hb,rfl⟩) k2⟩
 |nilp=>exact h2
 |nilf=>exact h2
 |emp=>exact h2
 |ptr id g off=>obtain⟨k1,k2,k3⟩:=h2;exact⟨k1,k2,fun hl=>by simp[look]at hl⟩
 |own id g off n lim=>obtain⟨k1,k2,k3⟩:=h2;exact⟨k1,k2,fun b hb=>by simp[look]at hb⟩
 |fn f caps=>exact h2
theorem Fc{w:World}{X:Cx}{H:Jn}(R:ZA w X H){x y:AV}{v:Value}(h:Zs H x=some y)(hv:VA w X H x v):VA w (X.still w) [] y v:=by
 unfold Zs at h
 split at h
 · rename_i x
   cases hs:frzC H x with
   |none=>simp[hs]at h
   |some z=>simp[hs]at h;subst h;exact .c _ _ (Nf R hs (Ui hv))
 · rename_i cs
   cases hs:cs.mapM (frzC H)with
   |none=>simp[hs]at h
   |some z=>
    simp[hs]at h;subst h
    obtain⟨h1,h2⟩:=Z4 hs
    cases hv with
    |agg cs vs hsz hc=>
     refine .agg _ _ (by omega) fun j hj=> ?_
     obtain⟨y,h3,h4⟩:=h2 j (by omega)
     obtain⟨u,h5,h6⟩:=hc j (by omega)
     have:z[j]=y:=by simpa[Jl hj]using h3
     rw[this]
     exact⟨u,h5,Nf R h4 h6⟩
 · cases h;cases hv;exact .void
 · cases h
end Go.Lg

namespace Go.Lg
section
variable{P:Program}{o:Oper}{st:St}{K:KV}{fo:Operand}{xs:Array Operand}{ts:Array TypeId}{f:FuncId}{args args':List AV}{v:AV}{u:Value}{Q:KV}
theorem JU.rdD(hc:JM P f args' v)(he:Jg P f)(ho:o.op= .call ⟨.value fo,xs,ts⟩)(ha:Qb st fo xs=some (f,args))(hs:args.mapM (Zs st.h)=some args')
 (hf:Ka v=some u) (hk:K v st.h):JU P o st K:=by
 intro w X a R next Q hn
 obtain⟨vs,h1,hvs⟩:=V2 (P:=P) R ho ha he
 obtain⟨hl,hgm⟩:=Z4 hs
 have R0:ZA w (X.still w) []:=⟨fun b hb=>hb,fun id b hb=>by simp at hb,fun id id' b b' hb=>by simp at hb,R.heap.tab.mono fun b hb=>⟨R.heap.imm b hb,rfl⟩⟩
 refine Ru (h1 w) ((hc w (X.still w) vs R0 ⟨by rw[hvs.1,hl],fun i hi=> ?_⟩).mono fun e w'' ⟨r,u',X',H',k1,k2,k3,k4,k5⟩=>⟨u, ?_, ?_⟩)
 · obtain⟨x,q1,q2⟩:=hvs.2 i (by omega)
   obtain⟨y,q3,q4⟩:=hgm i (by omega)
   have:args'[i]=y:=by simpa[Jl hi]using q3
   rw[this]
   exact⟨x,q1,Fc R.heap q4 q2⟩
 · have k5:r=v:=k5
   subst k5
   rw[k1,(VJ hf).2 _ _ _ _ k2]
 · have hg:ZV w w'':=⟨fun b hb=>(k4.imm b hb).2,k4.size,k4.os,k4.tape,k4.output⟩
   exact hn v u X st.h w'' ((VJ hf).1 _ _ _) (hg.rel R.heap) (hg.ev R.heap) hk
theorem JU.mkD(hc:Jk P f args' [] Q)(he:Jg P f)(ho:o.op= .call ⟨.value fo,xs,ts⟩)(ha:Qb st fo xs=some (f,args))(hs:args.mapM (Zs st.h)=some args')
 (hk:∀r H',Q r H'→(KF r=true∧scal1 r=true∧XK H')∧K (Wb st.h.length r) (st.h++Q1 st.h.length H')):JU P o st K:=by
 obtain⟨h1,h2⟩:=XI ha
 refine JU.call ho h1 he ?_
 rw[h2]
 refine(Jk.frameSn (Zs st.h) (fun w X x y v R h hv=>Fc R h hv) hs hc fun r H' h=>(hk r H' h).1).mono ?_
 rintro r H2 ⟨r',H',h3,rfl,rfl⟩
 exact(hk _ _ h3).2
end
section
variable{P:Program}{ops:Array Oper}{o:Oper}{s:List AV}{H:Jn}{K:KV}{fo:Operand}{xs:Array Operand}{ts:Array TypeId}{f:FuncId}{args args':List AV}{v:AV}{u:Value}{Q:KV}
theorem JG.rdD(hc:JM P f args' v)(he:Jg P f)(ho:o.op= .call ⟨.value fo,xs,ts⟩)(ha:Qb ⟨s,H⟩ fo xs=some (f,args))(hs:args.mapM (Zs H)=some args')
 (hf:Ka v=some u) (hk:K v H):JG P ops o s H K:=JG.call ho ha fun s' ha'=>JU.rdD hc he ho ha' hs hf hk
theorem JG.mkD(hc:Jk P f args' [] Q)(he:Jg P f)(ho:o.op= .call ⟨.value fo,xs,ts⟩)(ha:Qb ⟨s,H⟩ fo xs=some (f,args))(hs:args.mapM (Zs H)=some args')
 (hk:∀r H',Q r H'→(KF r=true∧scal1 r=true∧XK H')∧K (Wb H.length r) (H++Q1 H.length H')):JG P ops o s H K:=JG.call ho ha fun s' ha'=>JU.mkD hc he ho ha' hs hk
end
theorem UG{H0 H:Jn}{id g:Nat}{b:Zo}(h:look H id g=some b):look (H0++Q1 H0.length H) (id+H0.length) g=some (ZF H0.length b):=by
 obtain⟨h1,h2⟩:=JH h
 have:(H0++Q1 H0.length H)[id+H0.length]? =some (some (ZF H0.length b)):=by
  rw[JV (by omega),Nat.add_sub_cancel]
  simp[Q1,h1]
 have:=Qj this
 simp only[ZF]at this⊢
 rw[h2]at this⊢
 exact this
theorem J2{H H':Jn}{id g:Nat}{b:Zo}(h:look H id g=some b):look (H++H') id g=some b:=(J5.app H H').look h
theorem Jcj(k:Nat)(c:CV):UO (ZT k c)=UO c:=by cases c<;>rfl
theorem Qr.shift{H0 H:Jn}{c:CV}{xs:List Int}{S:List Nat}(h:Qr H c xs S):Qr (H0++Q1 H0.length H) (ZT H0.length c) xs (S.map (· +H0.length)):=by
 cases h with
 |e=>exact .e
 |o id g lim xs ys h=>
  refine .o (id+H0.length) g lim xs ys ?_
  rw[UG h]
  simp only[ZF,W3]
theorem Qr.app{H H':Jn}{c:CV}{xs:List Int}{S:List Nat}(h:Qr H c xs S):Qr (H++H') c xs S:=by
 cases h with
 |e=>exact .e
 |o id g lim xs ys h=>exact .o id g lim xs ys (J2 h)
def RO.sh(k:Nat)(o:RO):RO:=⟨o.r,ZT k o.c,o.i.map (· +k)⟩
theorem kl_sh(k:Nat)(l:List RO):(kl kR l).map (ZT k)=kl kR (l.map (RO.sh k)):=by
 simp only[kl,List.map_flatMap,List.flatMap_map];rfl
theorem Ur.shift{H0 H:Jn}{c:CV}{rs:List Zq}{S:List Nat}(h:Ur H c rs S):Ur (H0++Q1 H0.length H) (ZT H0.length c) rs (S.map (· +H0.length)):=by
 cases h with
 |e=>exact .e
 |o id g lim l ys h hi hd hy=>
  have:=Ur.o (H:=H0++Q1 H0.length H) (id+H0.length) g lim (l.map (RO.sh H0.length)) (ys.map (ZT H0.length)) (by
   rw[UG h]
   simp only[ZF,Qo,kl_sh]) (fun o ho=>by
   obtain⟨p,hp,rfl⟩:=Qg.1 ho
   exact(hi p hp).shift) (by
   have e:(id+H0.length)::(l.map (RO.sh H0.length)).flatMap (·.i)=(id::l.flatMap (·.i)).map (· +H0.length):=by
    simp only[Qh,List.flatMap_map,List.map_flatMap];rfl
   rw[e]
   exact List.pairwise_map.2 (hd.imp fun h he=>h (by omega))) (fun c hc=>by
   obtain⟨d,hd,rfl⟩:=Qg.1 hc
   rw[Jcj];exact hy d hd)
  simp only[Qi,List.map_map,List.flatMap_map]at this
  simp only[ZT,Qh,List.map_flatMap]
  exact this
theorem Ur.app{H H':Jn}{c:CV}{rs:List Zq}{S:List Nat}(h:Ur H c rs S):Ur (H++H') c rs S:=by
 cases h with
 |e=>exact .e
 |o id g lim l ys h hi hd hy=>exact .o id g lim l ys (J2 h) (fun o ho=>(hi o ho).app) hd hy
theorem Qr.frzC{H:Jn}{c:CV}{xs:List Int}{S:List Nat}(h:Qr H c xs S):Lg.frzC H c=some (.f (Ql xs)):=by
 have:=h.frz 5
 cases h with
 |e=>rfl
 |o id g lim xs ys h=>simp only[Lg.frzC,this,Option.map_some]
theorem Ur.frzC{H:Jn}{c:CV}{rs:List Zq}{S:List Nat}(h:Ur H c rs S):Lg.frzC H c=some (.f (VN eR rs)):=by
 have:=h.frz 4
 cases h with
 |e=>rfl
 |o id g lim l ys h hi hd hy=>simp only[Lg.frzC,this,Option.map_some]
theorem Qr.lt{H:Jn}{c:CV}{xs:List Int}{S:List Nat}(h:Qr H c xs S):∀i∈S,i<H.length:=by
 cases h with
 |e=>simp
 |o id g lim xs ys h=>intro i hi;have:i=id:=by simpa using hi
                      subst this;exact(Jh.1 (JH h).1).1
theorem Ur.lt{H:Jn}{c:CV}{xs:List Zq}{S:List Nat}(h:Ur H c xs S):∀i∈S,i<H.length:=by
 cases h with
 |e=>simp
 |o id g lim l ys h hi hd hy=>
  intro i hm
  rcases Qn.1 hm with rfl|hm
  · exact(Jh.1 (JH h).1).1
  · obtain⟨o,ho,hm⟩:=List.mem_flatMap.1 hm
    exact(hi o ho).lt i hm
theorem Qr.nd{H:Jn}{c:CV}{xs:List Int}{S:List Nat}(h:Qr H c xs S):S.Nodup:=by cases h<;>simp
theorem Ur.nd{H:Jn}{c:CV}{xs:List Zq}{S:List Nat}(h:Ur H c xs S):S.Nodup:=by
 cases h with
 |e=>simp
 |o id g lim l ys h hi hd hy=>exact hd
structure Wj(H:Jn)(cs:List CV)(p:QR)(S:List Nat):Prop where
 ex:∃c1 c2 S1 S2,cs=[.f (.int .i64 p.size),c1,c2]∧S=S1++S2∧Qr H c1 p.given S1∧Ur H c2 p.rules S2
 nd:S.Nodup
structure UF(H:Jn)(cs:List CV)(q:QU)(S:List Nat):Prop where
 ex:∃c1 c2 c3 c4 S1 S2 S3 S4,cs=[.f (.int .i64 q.task.size),c1,c2,c3,c4]∧S=S1++(S2++(S3++S4))∧Qr H c1 q.task.given S1∧Ur H c2 q.task.rules S2∧Qr H c3 q.put S3∧Qr H c4 q.moves S4
 nd:S.Nodup
theorem Wj.snap{H:Jn}{cs:List CV}{p:QR}{S:List Nat}(h:Wj H cs p S):Zs H (.agg cs)=some (aP p):=by
 obtain⟨c1,c2,S1,S2,rfl,_,h1,h2⟩:=h.ex
 simp only[Zs,J3,QB,h1.frzC,h2.frzC,Option.pure_def,Option.bind_eq_bind,Option.bind_some]
 rfl
theorem UF.snap{H:Jn}{cs:List CV}{q:QU}{S:List Nat}(h:UF H cs q S):Zs H (.agg cs)=some (aG q):=by
 obtain⟨c1,c2,c3,c4,S1,S2,S3,S4,rfl,_,h1,h2,h3,h4⟩:=h.ex
 simp only[Zs,J3,QB,h1.frzC,h2.frzC,h3.frzC,h4.frzC,Option.pure_def,Option.bind_eq_bind,Option.bind_some]
 rfl
theorem YY{S:List Nat}{k:Nat}(h:S.Nodup):(S.map (· +k)).Nodup:=List.pairwise_map.2 (h.imp fun h he=>h (by omega))
theorem Wj.shift{H0 H:Jn}{cs:List CV}{p:QR}{S:List Nat}(h:Wj H cs p S):Wj (H0++Q1 H0.length H) (cs.map (ZT H0.length)) p (S.map (· +H0.length)):=by
 obtain⟨c1,c2,S1,S2,rfl,rfl,h1,h2⟩:=h.ex
 exact⟨⟨_,_,_,_,rfl,by simp,h1.shift,h2.shift⟩,YY h.nd⟩
theorem UF.shift{H0 H:Jn}{cs:List CV}{q:QU}{S:List Nat}(h:UF H cs q S):UF (H0++Q1 H0.length H) (cs.map (ZT H0.length)) q (S.map (· +H0.length)):=by
 obtain⟨c1,c2,c3,c4,S1,S2,S3,S4,rfl,rfl,h1,h2,h3,h4⟩:=h.ex
 exact⟨⟨_,_,_,_,_,_,_,_,rfl,by simp,h1.shift,h2.shift,h3.shift,h4.shift⟩,YY h.nd⟩
theorem Wj.app{H H':Jn}{cs:List CV}{p:QR}{S:List Nat}(h:Wj H cs p S):Wj (H++H') cs p S:=by
 obtain⟨c1,c2,S1,S2,rfl,rfl,h1,h2⟩:=h.ex
 exact⟨⟨_,_,_,_,rfl,rfl,h1.app,h2.app⟩,h.nd⟩
theorem UF.app{H H':Jn}{cs:List CV}{q:QU}{S:List Nat}(h:UF H cs q S):UF (H++H') cs q S:=by
 obtain⟨c1,c2,c3,c4,S1,S2,S3,S4,rfl,rfl,h1,h2,h3,h4⟩:=h.ex
 exact⟨⟨_,_,_,_,_,_,_,_,rfl,rfl,h1.app,h2.app,h3.app,h4.app⟩,h.nd⟩
theorem UF.frm{H H':Jn}{cs:List CV}{q:QU}{S T:List Nat}(h:UF H cs q S)(hf:WA H H' T)(hd:∀i∈S,i∉T):UF H' cs q S:=by
 obtain⟨c1,c2,c3,c4,S1,S2,S3,S4,rfl,rfl,h1,h2,h3,h4⟩:=h.ex
 refine⟨⟨_,_,_,_,_,_,_,_,rfl,rfl,h1.frm hf fun i hi=>hd i ?_,h2.frm hf fun i hi=>hd i ?_,h3.frm hf fun i hi=>hd i ?_,h4.frm hf fun i hi=>hd i ?_⟩,h.nd⟩<;>simp[hi]
theorem Wj.frm{H H':Jn}{cs:List CV}{p:QR}{S T:List Nat}(h:Wj H cs p S)(hf:WA H H' T)(hd:∀i∈S,i∉T):Wj H' cs p S:=by
 obtain⟨c1,c2,S1,S2,rfl,rfl,h1,h2⟩:=h.ex
 refine⟨⟨_,_,_,_,rfl,rfl,h1.frm hf fun i hi=>hd i ?_,h2.frm hf fun i hi=>hd i ?_⟩,h.nd⟩<;>simp[hi]
theorem Qr.same{H H':Jn}{c:CV}{xs:List Int}{S:List Nat}(h:Qr H c xs S)(hs:∀i∈S,H'[i]? =H[i]?):Qr H' c xs S:=by
 cases h with
 |e=>exact .e
 |o id g lim xs ys h=>exact .o id g lim xs ys (by unfold look at*;rw[hs id (by simp)];exact h)
theorem Ur.same{H H':Jn}{c:CV}{rs:List Zq}{S:List Nat}(h:Ur H c rs S)(hs:∀i∈S,H'[i]? =H[i]?):Ur H' c rs S:=by
 cases h with
 |e=>exact .e
 |o id g lim l ys h hi hn hy=>
  refine .o id g lim l ys (by unfold look at*;rw[hs id (by simp)];exact h) (fun o ho=>(hi o ho).same fun i hm=>hs i ?_) hn hy
  exact List.mem_cons_of_mem _ (List.mem_flatMap.2 ⟨o,ho,hm⟩)
theorem JkU{a b c a' b' c':Option Zo}{H X:Jn}{S:List Nat}(hS:∀i∈S,3≤i∧i<3+H.length):∀i∈S,(a'::b'::c'::(H++X))[i]? =(a::b::c::H)[i]? :=by
 intro i hi
 obtain⟨h1,h2⟩:=hS i hi
 obtain⟨j,rfl⟩:∃j,i=j+3:=⟨i -3,by omega⟩
 simp only[Z2]
 rw[Jc (by omega)]
theorem Wj.same{H H':Jn}{cs:List CV}{p:QR}{S:List Nat}(h:Wj H cs p S)(hs:∀i∈S,H'[i]? =H[i]?):Wj H' cs p S:=by
 obtain⟨c1,c2,S1,S2,rfl,rfl,h1,h2⟩:=h.ex
 exact⟨⟨_,_,_,_,rfl,rfl,h1.same fun i hi=>hs i (by simp[hi]),h2.same fun i hi=>hs i (by simp[hi])⟩,h.nd⟩
theorem UF.of{H:Jn}{z:Int}{c1 c2 c3 c4:CV}{p:QR}{xs ys:List Int}{S1 S2 S3 S4:List Nat}(h:Wj H [.f (.int .i64 z),c1,c2] p (S1++S2))(h3:Qr H c3 xs S3)(h4:Qr H c4 ys S4)(hn:(S1++(S2++(S3++S4))).Nodup):
 UF H [.f (.int .i64 z),c1,c2,c3,c4] ⟨p,xs,ys⟩ (S1++(S2++(S3++S4))):=by
 obtain⟨d1,d2,T1,T2,e1,e2,k1,k2⟩:=h.ex
 cases e1
 refine⟨⟨_,_,_,_,T1,T2,S3,S4,rfl, ?_,k1,k2,h3,h4⟩,hn⟩
 rw[←JW,e2,JW]
theorem JF{H:Jn}{g sz:Nat}{cs:List CV}:look (H++[some ⟨g,sz,cs⟩]) H.length g=some ⟨g,sz,cs⟩:=Qj (b:=⟨g,sz,cs⟩) (by simp)
theorem Qy{H:Jn}{x y:Option Zo}:(H++[x]).set H.length y=H++[y]:=by rw[List.set_append_right _ _ (Nat.le_refl _),Nat.sub_self];rfl
theorem Vd{H H':Jn}{id g:Nat}(h:id<H.length):look (H++H') id g=look H id g:=by
 unfold look;rw[Jc h]
def JhA(rs:List Zq):KV:=fun v H=>∃c S,v= .c c∧Ur H c rs S
def Jj0(p:QR):KV:=fun v H=>∃cs S,v= .agg cs∧Wj H cs p S
def Jks(q:QU):KV:=fun v H=>∃cs S,v= .agg cs∧UF H cs q S
theorem Wj.lt{H:Jn}{cs:List CV}{p:QR}{S:List Nat}(h:Wj H cs p S):∀i∈S,i<H.length:=by
 obtain⟨c1,c2,S1,S2,rfl,rfl,h1,h2⟩:=h.ex
 intro i hi
 rcases JI.1 hi with hi|hi
 · exact h1.lt i hi
 · exact h2.lt i hi
theorem UF.lt{H:Jn}{cs:List CV}{q:QU}{S:List Nat}(h:UF H cs q S):∀i∈S,i<H.length:=by
 obtain⟨c1,c2,c3,c4,S1,S2,S3,S4,rfl,rfl,h1,h2,h3,h4⟩:=h.ex
 intro i hi
 simp only[JI]at hi
 rcases hi with hi|hi|hi|hi
 · exact h1.lt i hi
 · exact h2.lt i hi
 · exact h3.lt i hi
 · exact h4.lt i hi
theorem QI(k:Nat)(H:Jn):(Q1 k H).length=H.length:=by simp[Q1]
theorem ZX{S:List Nat}{k n:Nat}(h:∀i∈S,i<n):∀i∈S.map (· +k),k≤i∧i<k+n:=by
 intro i hi
 obtain⟨x,hx,rfl⟩:=Qg.1 hi
 have:=h x hx
 omega
section
variable{P:Program}{o:Oper}{st:St}{K:KV}{fo:Operand}{xs:Array Operand}{ts:Array TypeId}{f:FuncId}{args args':List AV}
theorem JU.mkR{rs:List Zq}(hc:Jk P f args [] (JhA rs))(he:Jg P f)(ho:o.op= .call ⟨.value fo,xs,ts⟩)(ha:Qb st fo xs=some (f,args))(hf:args.all Q2=true)
 (hk:∀c H' S,Ur (st.h++H') c rs S→(∀i∈S,st.h.length≤i∧i<st.h.length+H'.length)→K (.c c) (st.h++H')):JU P o st K:=
 JU.mkQ hc he ho ha hf fun r H' ⟨c,S,h1,h2⟩=>by
  subst h1
  exact⟨rfl,hk _ _ _ h2.shift (by rw[QI];exact ZX h2.lt)⟩
theorem JU.mkP{p:QR}(hc:Jk P f args [] (Jj0 p))(he:Jg P f)(ho:o.op= .call ⟨.value fo,xs,ts⟩)(ha:Qb st fo xs=some (f,args))(hf:args.all Q2=true)
 (hk:∀cs H' S,Wj (st.h++H') cs p S→(∀i∈S,st.h.length≤i∧i<st.h.length+H'.length)→K (.agg cs) (st.h++H')):JU P o st K:=
 JU.mkQ hc he ho ha hf fun r H' ⟨c,S,h1,h2⟩=>by
  subst h1
  exact⟨rfl,hk _ _ _ h2.shift (by rw[QI];exact ZX h2.lt)⟩
theorem JU.mkG{q:QU}(hc:Jk P f args [] (Jks q))(he:Jg P f)(ho:o.op= .call ⟨.value fo,xs,ts⟩)(ha:Qb st fo xs=some (f,args))(hf:args.all Q2=true)
 (hk:∀cs H' S,UF (st.h++H') cs q S→(∀i∈S,st.h.length≤i∧i<st.h.length+H'.length)→K (.agg cs) (st.h++H')):JU P o st K:=
 JU.mkQ hc he ho ha hf fun r H' ⟨c,S,h1,h2⟩=>by
  subst h1
  exact⟨rfl,hk _ _ _ h2.shift (by rw[QI];exact ZX h2.lt)⟩
end
def Y4(S:List Nat)(H:Jn):Jn:=(List.range H.length).map fun i=>if i∈S then H[i]?.join else none
theorem WZ{S:List Nat}{H:Jn}{i:Nat}(h:i∈S)(hl:i<H.length):(Y4 S H)[i]? =H[i]? :=by
 simp[Y4,hl,h,Jl hl]
theorem GY{S:List Nat}{H:Jn}{i:Nat}{b:Zo}(h:(Y4 S H)[i]? =some (some b)):i∈S∧H[i]? =some (some b):=by
 simp only[Y4,Qk,Option.map_eq_some_iff]at h
 obtain⟨j,h1,h2⟩:=h
 have hj:=Jh.1 h1
 obtain⟨hj1,hj2⟩:=hj
 simp only[List.length_range,List.getElem_range]at hj1 hj2
 subst hj2
 split at h2
 · rename_i hm
   refine⟨hm, ?_⟩
   rw[Jl hj1]at h2⊢
   simpa using h2
 · cases h2
theorem Y0(S:List Nat)(H:Jn):J5 H (Y4 S H):=fun id b h=>(GY h).2
theorem Qr.blk{H:Jn}{c:CV}{xs:List Int}{S:List Nat}(h:Qr H c xs S):∀i∈S,∀b,H[i]? =some (some b)→∀x∈b.cs,UO x=true:=by
 cases h with
 |e=>simp
 |o id g lim xs ys h=>
  intro i hi b hb x hx
  obtain rfl:i=id:=by simpa using hi
  rw[(JH h).1]at hb
  cases hb
  exact Jci (g:=g) (n:=1) (JkT .i64 (xs++ys)) 0 _ rfl x hx
theorem Qr.scal1{H:Jn}{c:CV}{xs:List Int}{S:List Nat}(h:Qr H c xs S):UO c=true:=by cases h<;>rfl
theorem Ur.scal1{H:Jn}{c:CV}{xs:List Zq}{S:List Nat}(h:Ur H c xs S):UO c=true:=by cases h<;>rfl
theorem Ur.blk{H:Jn}{c:CV}{xs:List Zq}{S:List Nat}(h:Ur H c xs S):∀i∈S,∀b,H[i]? =some (some b)→∀x∈b.cs,UO x=true:=by
 cases h with
 |e=>simp
 |o id g lim l ys h hi hd hy=>
  intro i hm b hb x hx
  rcases Qn.1 hm with rfl|hm
  · rw[(JH h).1]at hb
    cases hb
    rcases JI.1 hx with hx|hx
    · obtain⟨o,ho,hx⟩:=List.mem_flatMap.1 hx
      simp only[kR,Qn,Ub,or_false]at hx
      rcases hx with rfl|rfl|rfl
      · rfl
      · exact(hi o ho).scal1
      · rfl
    · exact hy x hx
  · obtain⟨o,ho,hm⟩:=List.mem_flatMap.1 hm
    exact(hi o ho).blk i hm b hb x hx
theorem Wj.blk{H:Jn}{cs:List CV}{p:QR}{S:List Nat}(h:Wj H cs p S):(∀i∈S,∀b,H[i]? =some (some b)→∀x∈b.cs,UO x=true)∧cs.all UO=true:=by
 obtain⟨c1,c2,S1,S2,rfl,rfl,h1,h2⟩:=h.ex
 refine⟨fun i hi=> ?_,by simp only[UZ,V6,h1.scal1,h2.scal1,Bool.and_true];rfl⟩
 rcases JI.1 hi with hi|hi
 · exact h1.blk i hi
 · exact h2.blk i hi
theorem UF.blk{H:Jn}{cs:List CV}{q:QU}{S:List Nat}(h:UF H cs q S):(∀i∈S,∀b,H[i]? =some (some b)→∀x∈b.cs,UO x=true)∧cs.all UO=true:=by
 obtain⟨c1,c2,c3,c4,S1,S2,S3,S4,rfl,rfl,h1,h2,h3,h4⟩:=h.ex
 refine⟨fun i hi=> ?_,by simp only[UZ,V6,h1.scal1,h2.scal1,h3.scal1,h4.scal1,Bool.and_true];rfl⟩
 simp only[JI]at hi
 rcases hi with hi|hi|hi|hi
 · exact h1.blk i hi
 · exact h2.blk i hi
 · exact h3.blk i hi
 · exact h4.blk i hi
theorem UF.same{H H':Jn}{cs:List CV}{q:QU}{S:List Nat}(h:UF H cs q S)(hs:∀i∈S,H'[i]? =H[i]?):UF H' cs q S:=by
 obtain⟨c1,c2,c3,c4,S1,S2,S3,S4,rfl,rfl,h1,h2,h3,h4⟩:=h.ex
 refine⟨⟨_,_,_,_,_,_,_,_,rfl,rfl,h1.same fun i hi=>hs i ?_,h2.same fun i hi=>hs i ?_,h3.same fun i hi=>hs i ?_,h4.same fun i hi=>hs i ?_⟩,h.nd⟩<;>simp[hi]
theorem W4{S:List Nat}{H:Jn}(h:∀i∈S,∀b,H[i]? =some (some b)→∀x∈b.cs,UO x=true):XK (Y4 S H):=fun id b hb c hc=>by
 obtain⟨h1,h2⟩:=GY hb
 exact h id h1 b h2 c hc
def Wv(F:AV→AV)(q:QU):KV:=fun v H=>∃cs S,v=F (.agg cs)∧UF H cs q S
def gamWS(F:AV→AV)(q:QU):KV:=fun v H=>∃cs S,v=F (.agg cs)∧UF H cs q S∧XK H∧cs.all UO=true
theorem Jk.gamS{P:Program}{f:FuncId}{args:List AV}{H:Jn}{F:AV→AV}{q:QU}(h:Jk P f args H (Wv F q)):Jk P f args H (gamWS F q):=
 h.weaker fun v H' ⟨cs,S,h1,h2⟩=>⟨Y4 S H',Y0 _ _,cs,S,h1,h2.same fun i hi=>WZ hi (h2.lt i hi),W4 h2.blk.1,h2.blk.2⟩
def Yu(b:Bool)(v:AV):AV:= .tup [v,bool b]
section
variable{P:Program}{o:Oper}{st:St}{K:KV}{fo:Operand}{xs:Array Operand}{ts:Array TypeId}{f:FuncId}{args args':List AV}{q:QU}
theorem JU.mkDGB{b:Bool}(hc:Jk P f args' [] (Wv (Yu b) q))(he:Jg P f)(ho:o.op= .call ⟨.value fo,xs,ts⟩)(ha:Qb st fo xs=some (f,args))(hs:args.mapM (Zs st.h)=some args')
 (hk:∀cs H' S,UF (st.h++H') cs q S→(∀i∈S,st.h.length≤i∧i<st.h.length+H'.length)→K (.tup [.agg cs,bool b]) (st.h++H')):JU P o st K:=
 JU.mkD (Jk.gamS hc) he ho ha hs fun r H' ⟨cs,S,h1,h2,h3,h4⟩=>by
  subst h1
  exact⟨⟨rfl,by simp only[Yu,Lg.scal1,UZ,V6,Jal,h4,Bool.true_and,Bool.and_true];rfl,h3⟩,hk _ _ _ h2.shift (by rw[QI];exact ZX h2.lt)⟩
end
def WD(xs:List Int):KV:=fun r H=>∃c S,r= .c c∧Qr H c xs S∧XK H
theorem Qr.scal{H:Jn}{c:CV}{xs:List Int}{S:List Nat}(h:Qr H c xs S):UO c=true:=by cases h<;>rfl
theorem Rb{H:Jn}(h:XK H):XK (none::H):=fun id b hb c hc=>by
 cases id with
 |zero=>simp at hb
 |succ id=>exact h id b hb c hc
theorem Wc{g n:Nat}{xs:List Int}{H:Jn}(h:XK H):XK (some ⟨g,n,cl (eI .i64) xs⟩::H):=fun id b hb c hc=>by
 cases id with
 |zero=>
  simp at hb
  subst hb
  exact Jci (g:=g) (n:=n) (JkT .i64 xs) 0 _ rfl c hc
 |succ id=>exact h id b hb c hc
theorem JhS:Qr [] (.f (.sl 0 [])) [] []:= .e
section
variable{P:Program}{o:Oper}{st:St}{K:KV}{fo:Operand}{xs:Array Operand}{ts:Array TypeId}{f:FuncId}{args args':List AV}{zs:List Int}
theorem JU.mkI(hc:Jk P f args [] (WD zs))(he:Jg P f)(ho:o.op= .call ⟨.value fo,xs,ts⟩)(ha:Qb st fo xs=some (f,args))(hf:args.all Q2=true)
 (hk:∀c H' S,Qr (st.h++H') c zs S→(∀i∈S,st.h.length≤i∧i<st.h.length+H'.length)→K (.c c) (st.h++H')):JU P o st K:=
 JU.mkQ hc he ho ha hf fun r H' ⟨c,S,h1,h2,_⟩=>by
  subst h1
  exact⟨rfl,hk _ _ _ h2.shift (by rw[QI];exact ZX h2.lt)⟩
theorem JU.mkDI(hc:Jk P f args' [] (WD zs))(he:Jg P f)(ho:o.op= .call ⟨.value fo,xs,ts⟩)(ha:Qb st fo xs=some (f,args))(hs:args.mapM (Zs st.h)=some args')
 (hk:∀c H' S,Qr (st.h++H') c zs S→(∀i∈S,st.h.length≤i∧i<st.h.length+H'.length)→K (.c c) (st.h++H')):JU P o st K:=
 JU.mkD hc he ho ha hs fun r H' ⟨c,S,h1,h2,h3⟩=>by
  subst h1
  exact⟨⟨rfl,h2.scal,h3⟩,hk _ _ _ h2.shift (by rw[QI];exact ZX h2.lt)⟩
theorem JM.ownI{P:Program}{f:FuncId}{args:List AV}{zs:List Int}(h:Jk P f args [] (WD zs)):JM P f args (QF zs):=
 JM.ice h fun r H' ⟨c,S,h1,h2,_⟩=>by subst h1;simp only[Vu,XA,h2.frzC,Option.map_some]
end
theorem Jb6{H:Jn}{x y:AV}(h:Zs H x=some y):[x].mapM (Zs H)=some [y]:=by
 simp only[J3,QB,h,Option.pure_def,Option.bind_eq_bind,Option.bind_some]
theorem QW{H:Jn}{x y x' y':AV}(h:Zs H x=some y)(h':Zs H x'=some y'):[x,x'].mapM (Zs H)=some [y,y']:=by
 simp only[J3,QB,h,h',Option.pure_def,Option.bind_eq_bind,Option.bind_some]
theorem W2{H:Jn}{x y x' y' z z':AV}(h:Zs H x=some y)(h':Zs H x'=some y')(h2:Zs H z=some z'):[x,x',z].mapM (Zs H)=some [y,y',z']:=by
 simp only[J3,QB,h,h',h2,Option.pure_def,Option.bind_eq_bind,Option.bind_some]
theorem Qr.snap{H:Jn}{c:CV}{xs:List Int}{S:List Nat}(h:Qr H c xs S):Zs H (.c c)=some (QF xs):=by
 simp only[Zs,h.frzC,Option.map_some]
theorem Wr{H:Jn}{q:QU}:Zs H (aG q)=some (aG q):=rfl
theorem UU{H:Jn}{x:Int}:Zs H (int x)=some (int x):=rfl
theorem fl_if{α β:Type}{E:α→List FV}{n:Nat}[HSz E n]{xs:List α}{x y:β}:(if(fl E xs).length=xs.length*n then x else y)=x:=if_pos (Wh xs)
theorem JlE{α:Type}{E:α→List FV}{xs:List α}:(fl E xs).map CV.f=cl E xs:=rfl
attribute [go_sem] fl_if JlE
end Go.Lg

set_option maxRecDepth 100000
namespace Go.Lg
open Go.Proofs
def JjD(r:Zq):KV:=fun v H=>∃g,v= .agg [.f (.int .i64 r.kind), .own 3 g 0 r.cells.length none, .f (.int .i64 r.val)]∧H=[none,none,none,some ⟨g,1,cl (eI .i64) r.cells⟩]
theorem Jdv(r:Zq)(hx:r.cells.length≤2^40):Jk Tryz.prog 128 [aR r] [] (JjD r):=by
 refine Jk.cw (c:=_) Tryz.func128 rfl (n:=15) Tryz.ntmps128 (rs:=[.cell 2 101]) rfl ?_
 simp only[Ja,Je,zA,zS,Jf,Jb,Jd]
 simp(maxSteps:=999999)(disch:=omega)only[go_sem,zA,zM,zS,zE,zL]
 intro g1 g2 g3
 refine JU.mkQ (W1 r.cells hx) (⟨_,Tryz.func60,rfl,rfl⟩:Jg Tryz.prog 60) rfl rfl rfl ?_
 rintro _ _ ⟨g,rfl,rfl⟩
 refine⟨rfl, ?_⟩
 simp(maxSteps:=999999)(disch:=omega)only[go_sem,zA,zM,zS,zE,zL]
 exact⟨_,Xc _ _ _ (Xc _ _ _ (Xc _ _ _ (J5.refl _))),g,rfl,rfl⟩
theorem Jdf(n:Nat):cl eRo (Jf n none)=kl kRo (Jf n none):=by
 induction n with
 |zero=>rfl
 |succ n ih=>
  simp only[List.replicate_succ,cl,fl,kl,List.flatMap_cons,Qo]at ih⊢
  rw[ih];rfl
theorem JaX(rs:List Zq)(hn:rs.length≤2^40)(hx:∀r∈rs,r.cells.length≤2^40):Jk Tryz.prog 99 [Yf eR rs] [] (JhA rs):=by
 refine Jk.cw (c:=_) Tryz.func99 rfl (n:=23) Tryz.ntmps99 (rs:=[.tmp 2]) rfl ?_
 simp only[Ja,Je,zA,zS,Jf,Jb,Jd]
 simp(maxSteps:=999999)(disch:=omega)only[go_sem,zA,zM,zS,zE,zL]
 intro g
 refine Qx (fun(i:Nat) (b:Jn×List RO)=>rs.length -i) (fun i b=>i≤rs.length∧b.2.length=i∧b.2.map (·.r)=rs.take i∧(∀o∈b.2,Qr (none::b.1) o.c o.r.cells o.i)∧(b.2.flatMap (·.i)).Nodup∧∀x∈b.2.flatMap (·.i),1≤x∧x<b.1.length+1)
  (fun i _=>[.k, .a, .a, .k, .p (int i), .a, .a, .a, .a, .a, .a, .a, .a, .a, .a, .a, .a, .a, .a, .a, .a, .a, .a]) (fun i b=>some ⟨g,3,kl kRo (b.2.map some++Jf (rs.length -i) none)⟩::b.1) 0 ([],[])
  ⟨Nat.zero_le _,rfl,rfl,by simp,by simp,by simp⟩ (by simp(maxSteps:=999999)(disch:=omega)only[go_sem,zA,zM,zS,zE,zL];rfl) (ZY (Jdf _) (J9 _)) ?_
 rintro i ⟨T,l⟩ ⟨hi,hl,hm,ho,hnd,hlt⟩
 simp only at hl hm ho hnd hlt⊢
 simp(maxSteps:=999999)(disch:=omega)only[go_sem,zA,zM,zS,zE,zL]
 ((first|(with_reducible first|refine Jm ?_ ?_|refine Jj ?_ ?_|refine Jo ?_ ?_)|refine Jr ?_ ?_)<;>intro h)
 · have h:i<rs.length:=by omega
   simp(maxSteps:=999999)(disch:=omega)only[go_sem,zA,zM,zS,zE,zL]
   refine JU.mkQ (Jdv (Jy rs i) (hx _ (Q8 h))) (⟨_,Tryz.func128,rfl,rfl⟩:Jg Tryz.prog 128) rfl rfl rfl ?_
   rintro _ _ ⟨g2,rfl,rfl⟩
   refine⟨rfl, ?_⟩
   simp(maxSteps:=999999)(disch:=omega)only[go_sem,zA,zM,zS,zE,zL,UW]
   have hlen:(l.map some++Jf (rs.length -i) (none:Option RO)).length=rs.length:=by simp;omega
   refine⟨i+1,(T++[none,none,none,some ⟨g2,1,cl (eI .i64) (Jy rs i).cells⟩],l++[⟨Jy rs i, .own (3+(T.length+1)) g2 0 (Jy rs i).cells.length none,[T.length+4]⟩]),⟨⟨h,by simp[hl], ?_,fun o hm2=> ?_, ?_,fun x hx2=> ?_⟩,by omega⟩,by omega,ZY ?_ (J5.refl _)⟩
   · rw[Qo,hm,Qa h];rfl
   · rcases JI.1 hm2 with hm2|hm2
     · exact(ho o hm2).app (H':=[none,none,none,some ⟨g2,1,cl (eI .i64) (Jy rs i).cells⟩])
     · have:o=⟨Jy rs i, .own (3+(T.length+1)) g2 0 (Jy rs i).cells.length none,[T.length+4]⟩:=by simpa using hm2
       subst this
       have e:3+(T.length+1)=T.length+4:=by omega
       simp only[e]
       refine Qr.o (T.length+4) g2 none _ [] ?_
       rw[Jt]
       refine Qj (b:=⟨g2,1,cl (eI .i64) (Jy rs i).cells⟩) ?_
       simp
   · rw[List.flatMap_append,JZ]
     refine⟨hnd,by simp,fun a ha b hb=> ?_⟩
     have:=hlt a ha
     have hb:b=T.length+4:=by simpa using hb
     omega
   · rw[List.flatMap_append]at hx2
     simp only[Jq,Ja,Je]
     rcases JI.1 hx2 with hx2|hx2
     · have:=hlt x hx2;omega
     · have:x=T.length+4:=by simpa using hx2
       omega
   · have e2:(l++[(⟨Jy rs i, .own (3+(T.length+1)) g2 0 (Jy rs i).cells.length none,[T.length+4]⟩:RO)]).map some++Jf (rs.length -(i+1)) none=(l.map some++Jf (rs.length -i) none).set i (some ⟨Jy rs i, .own (3+(T.length+1)) g2 0 (Jy rs i).cells.length none,[T.length+4]⟩):=by
      have e3:rs.length -i=(rs.length -(i+1))+1:=by omega
      rw[e3,List.replicate_succ,List.set_append_right _ _ (by simp;omega)]
      simp[hl]
     rw[e2]
     exact Fh (E:=kRo) (v:=some ⟨Jy rs i, .own (3+(T.length+1)) g2 0 (Jy rs i).cells.length none,[T.length+4]⟩) (by rw[hlen];exact h)
 have hir:i=rs.length:=by omega
 simp(maxSteps:=999999)(disch:=omega)only[go_sem,zA,zM,zS,zE,zL]
 subst hir
 rw[List.take_length]at hm
 refine⟨_,J5.refl _, .own 0 g 0 rs.length none,0::l.flatMap (·.i),rfl, ?_⟩
 have key:=Ur.o (H:=some ⟨g,3,kl kRo (l.map some++Jf (rs.length -rs.length) none)⟩::T) 0 g none l [] (by
  rw[Nat.sub_self,List.replicate_zero,Jt,Jt,JlT];simp[look]) (fun o hm2=>by
  have:=(ho o hm2)
  have hi0:0∉o.i:=fun h0=>by have:=hlt 0 (List.mem_flatMap.2 ⟨o,hm2,h0⟩);omega
  exact this.frm (T:=[0]) ⟨by simp,fun id hid=>by cases id with
   |zero=>simp at hid
   |succ id=>rfl⟩ fun i hi=>by simp;rintro rfl;exact hi0 hi) (Zx.2 ⟨fun h0=>by have:=hlt 0 h0;omega,hnd⟩) (by simp)
 rw[hm,hl]at key
 exact key
theorem NG(p:QR)(hx:RC p):Jk Tryz.prog 59 [aP p] [] (Jj0 p):=by
 refine Jk.cw (c:=_) Tryz.func59 rfl (n:=16) Tryz.ntmps59 (rs:=[.cell 2 26]) rfl ?_
 simp only[Ja,Je,zA,zS,Jf,Jb,Jd]
 simp(maxSteps:=999999)(disch:=omega)only[go_sem,zA,zM,zS,zE,zL]
 intro g1 g2 g3
 refine JU.mkQ (W1 p.given hx.1) (⟨_,Tryz.func60,rfl,rfl⟩:Jg Tryz.prog 60) rfl rfl rfl ?_
 rintro _ _ ⟨g,rfl,rfl⟩
 refine⟨rfl, ?_⟩
 simp(maxSteps:=999999)(disch:=omega)only[go_sem,zA,zM,zS,zE,zL]
 refine JU.mkR (JaX p.rules hx.2.1 hx.2.2) (⟨_,Tryz.func99,rfl,rfl⟩:Jg Tryz.prog 99) rfl rfl rfl ?_
 intro c H' S hR hS
 simp only[Ja,Je]at hS
 simp(maxSteps:=999999)(disch:=omega)only[go_sem,zA,zM,zS,zE,zL]
 refine⟨_,J5.refl _,_,[3]++S,rfl,⟨_,_,_,_,rfl,rfl,Qr.o 3 g none p.given [] (by rw[Jt];simp only[go_sem]),hR.frm (T:=[1,2]) ⟨rfl,fun id hid=> ?_⟩ fun i hi=> ?_⟩, ?_⟩
 · match id,hid with
   |0,_=>rfl
   |1,h=>simp at h
   |2,h=>simp at h
   |_+3,_=>rfl
 · have:=hS i hi;simp;omega
 · rw[JZ]
   refine⟨by simp,hR.nd,fun a ha b hb he=> ?_⟩
   have ha:a=3:=by simpa using ha
   have:=hS b hb
   omega
theorem B9(q:QU)(hx:smG q):Jk Tryz.prog 20 [aG q] [] (Jks q):=by
 refine Jk.cw (c:=_) Tryz.func20 rfl (n:=17) Tryz.ntmps20 (rs:=[.cell 2 28]) rfl ?_
 simp only[Ja,Je,zA,zS,Jf,Jb,Jd]
 simp(maxSteps:=999999)(disch:=omega)only[go_sem,zA,zM,zS,zE,zL]
 intro g1 g2 g3
 refine JU.mkP (NG q.task hx.1) (⟨_,Tryz.func59,rfl,rfl⟩:Jg Tryz.prog 59) rfl rfl rfl ?_
 intro cs H' S hP hS
 simp only[Ja,Je]at hS
 obtain⟨c1,c2,S1,S2,rfl,rfl,h1,h2⟩:=hP.ex
 simp(maxSteps:=999999)(disch:=omega)only[go_sem,zA,zM,zS,zE,zL]
 refine JU.mkQ (W1 q.put hx.2.1) (⟨_,Tryz.func60,rfl,rfl⟩:Jg Tryz.prog 60) rfl rfl rfl ?_
 rintro _ _ ⟨g4,rfl,rfl⟩
 refine⟨rfl, ?_⟩
 simp(maxSteps:=999999)(disch:=omega)only[go_sem,zA,zM,zS,zE,zL]
 refine JU.mkQ (W1 q.moves hx.2.2) (⟨_,Tryz.func60,rfl,rfl⟩:Jg Tryz.prog 60) rfl rfl rfl ?_
 rintro _ _ ⟨g5,rfl,rfl⟩
 refine⟨rfl, ?_⟩
 simp(maxSteps:=999999)(disch:=omega)only[go_sem,zA,zM,zS,zE,zL]
 have hS1:∀i∈S1,3≤i∧i<3+H'.length:=fun i hi=>by have:=hS i (by simp[hi]);omega
 have hS2:∀i∈S2,3≤i∧i<3+H'.length:=fun i hi=>by have:=hS i (by simp[hi]);omega
 have e1:0+(H'.length+1+1+1)=H'.length+3:=by omega
 have e2:0+(H'.length+1+1+1+1)=H'.length+4:=by omega
 rw[e1,e2,JW]
 refine⟨_,J5.refl _,_,S1++(S2++([H'.length+3]++[H'.length+4])),rfl,⟨_,_,_,_,_,_,_,_,rfl,rfl,h1.same (JkU hS1),h2.same (JkU hS2),Qr.o _ g4 none q.put [] ?_,Qr.o _ g5 none q.moves [] ?_⟩, ?_⟩
 · rw[Jt]
   refine Qj (b:=⟨g4,1,cl (eI .i64) q.put⟩) ?_
   simp
 · rw[Jt]
   refine Qj (b:=⟨g5,1,cl (eI .i64) q.moves⟩) ?_
   simp
 · have hnd:=hP.nd
   rw[JZ]at hnd⊢
   refine⟨hnd.1, ?_,fun a ha b hb=> ?_⟩
   · rw[JZ]
     refine⟨hnd.2.1,by simp,fun a ha b hb=> ?_⟩
     have:=hS2 a ha
     simp at hb
     omega
   · have h3:=hS1 a ha
     rcases JI.1 hb with hb|hb
     · exact hnd.2.2 a ha b hb
     · simp at hb
       omega
theorem NV(H:Jn)(id g:Nat)(lim:Option Nat)(xs ys:List Int)(k:Int)(hl:look H id g=some ⟨g,1,cl (eI .i64) (xs++ys)⟩)(hk:0≤k∧k≤2^50)(hx:xs.length≤2^40):
 Jk Tryz.prog 64 [.c (.own id g 0 xs.length lim),int k] H (fun r H'=>r=int (k+xs.length)∧H'=H.set id (some ⟨g,1,cl (eI .i64) (UQ k xs.length++ys)⟩)):=by
 refine Jk.cw (c:=_) Tryz.func64 rfl (n:=19) Tryz.ntmps64 (rs:=[.tmp 4]) rfl ?_
 simp only[Ja,Je,zA,zS,Jf,Jb,Jd]
 simp(maxSteps:=999999)(disch:=omega)only[go_sem,zA,zM,zS,zE,zL]
 have hid:H[id]? =some (some ⟨g,1,cl (eI .i64) (xs++ys)⟩):=(JH hl).1
 have hlt:id<H.length:=(Jh.1 hid).1
 have hs:∀ys:List Int,look (H.set id (some ⟨g,1,cl (eI .i64) ys⟩)) id g=some ⟨g,1,cl (eI .i64) ys⟩:=fun ys=>Qj (b:=⟨g,1,cl (eI .i64) ys⟩) (by rw[JE hlt])
 refine Qx (fun(i:Nat) (zs:List Int)=>xs.length -i) (fun i zs=>i≤xs.length∧zs.length=xs.length+ys.length∧(∀j:Nat,j<i→Jy zs j=k+j)∧∀j:Nat,xs.length≤j→Jy zs j=Jy (xs++ys) j) (fun i _=>[.k, .p (int (k+i)), .a, .a, .a, .p (int i), .a, .a, .a, .a, .a, .a, .a, .a, .a, .a, .a, .a, .a]) (fun _ zs=>H.set id (some ⟨g,1,cl (eI .i64) zs⟩)) 0 (xs++ys)
  ⟨Nat.zero_le _,by simp,fun j hj=>absurd hj (Nat.not_lt_zero _),fun j hj=>rfl⟩ (by simp(maxSteps:=999999)(disch:=omega)only[go_sem,zA,zM,zS,zE,zL];simp) (Yo hid) ?_
 rintro i zs ⟨hi,hly,hall,hkeep⟩
 simp(maxSteps:=999999)(disch:=omega)only[go_sem,zA,zM,zS,zE,zL,hs]
 ((first|(with_reducible first|refine Jm ?_ ?_|refine Jj ?_ ?_|refine Jo ?_ ?_)|refine Jr ?_ ?_)<;>intro h)
 · have h:i<xs.length:=by omega
   simp(maxSteps:=999999)(disch:=omega)only[go_sem,zA,zM,zS,zE,zL,hs]
   refine⟨i+1,zs.set i (k+i),⟨⟨h,by simp[hly],fun j hj=> ?_,fun j hj=> ?_⟩,by omega⟩,⟨by push_cast;omega,by push_cast;omega⟩,by rw[List.set_set];exact J5.refl _⟩
   · rw[VU _ _ _ _ (by omega) (by omega)]
     split
     · omega
     · exact hall j (by omega)
   · rw[VU _ _ _ _ (by omega) (by omega),if_neg (by omega)]
     exact hkeep j hj
 have h:i=xs.length:=by omega
 subst h
 simp(maxSteps:=999999)(disch:=omega)only[go_sem,zA,zM,zS,zE,zL]
 have:zs=UQ k xs.length++ys:=V0 (by rw[hly,Jq,Zh]) fun j hj=>by
  by_cases hj2:j<xs.length
  · rw[hall j hj2,Qe (xs:=UQ k xs.length++ys) (by simp[Zh];omega)]
    have:=JaB (k:=k) hj2
    rw[Qe (by rw[Zh];omega)]at this
    rw[←this,List.getElem_append_left]
  · rw[hkeep j (by omega),Qe (by simp;omega),Qe (by simp[Zh];omega)]
    simp only[Int.toNat_natCast]
    rw[List.getElem_append_right (by omega),List.getElem_append_right (by rw[Zh];omega)]
    simp only[Zh]
 subst this
 exact⟨_,J5.refl _,rfl,rfl⟩
theorem Wn(H:Jn)(c:CV)(xs:List Int)(S:List Nat)(k:Int)(h:Qr H c xs S)(hk:0≤k∧k≤2^50)(hx:xs.length≤2^40):
 Jk Tryz.prog 64 [.c c,int k] H (fun r H'=>r=int (k+xs.length)∧Qr H' c (UQ k xs.length) S∧WA H H' S):=by
 cases h with
 |e=>
  refine(Jk.frame rfl (JcH k) fun r H' h=>by rw[h];rfl).weaker ?_
  rintro r H2 ⟨r',H',rfl,rfl,rfl⟩
  refine⟨H,J5.app _ _, ?_, .e,WA.refl _ _⟩
  simp[Wb,shift1,ZT]
 |o id g lim xs ys h=>
  refine(NV H id g lim xs ys k h hk hx).weaker ?_
  rintro r H2 ⟨rfl,rfl⟩
  have hlt:id<H.length:=(Jh.1 (JH h).1).1
  refine⟨_,J5.refl _,rfl, ?_,WA.set _ _ _⟩
  have:=Qr.o (H:=H.set id (some ⟨g,1,cl (eI .i64) (UQ k xs.length++ys)⟩)) id g lim (UQ k xs.length) ys (Qj (b:=⟨g,1,cl (eI .i64) (UQ k xs.length++ys)⟩) (by rw[JE hlt]))
  rw[Zh]at this
  exact this
end Go.Lg

namespace Go.Lg
open Go.Proofs
theorem JU.nilOpen{P:Program}{o:Oper}{st:St}{K:KV}{t yt:TypeId}{x y:Operand}{ei:TI}(ho:o.op= .binOp .eql t x y yt)(ht:QT P t=some ei)
 (hx:QO st.s x= .c (.f (.sl 0 []))) (hy:VX st.h (QO st.s y)=some true) (hk:∀b,K (.c (.f (.bool b))) st.h):JU P o st K:=by
 intro w X a R next Q hn
 obtain⟨ti,e,ht,hk',he⟩:=Um ht
 obtain⟨inf,d,z',h1,h2,h3,h4,h5,h6,h7⟩:=Qd ht
 rw[h5]at hk';cases Zj hk'
 have e2:=Vq hy (J4 R y)
 have hx':=J4 R x
 rw[hx]at hx'
 have:∃a0 c,a.eval x= .slice a0 0 c:=by
  have hh:=Ui hx'
  generalize a.eval x=xv at hh
  cases hh with
  |sl0 a cap=>exact⟨_,_,rfl⟩
  |sl n cs b o cap u hc hI hu hv=>exact⟨_,_,rfl⟩
 obtain⟨a0,c,ex⟩:=this
 have hrun:(do eqGuard .eql t x y (a.eval x) (a.eval y);binOp .eql t (a.eval x) (a.eval y):Sem Value).run P w= .ok (.bool a0.isNone) w:=by
  rw[Sem.run_bind,U0 (by rw[ex]),Result.andThen_ok,e2,ex]
  exact Lib.run_eql_slice_nil w t e _ _ _ _ _ h2
 have h1:(execOp a.eval o).run P w= .ok (.value (.bool a0.isNone)) w:=by
  simp only[execOp,ho];rw[Sem.run_bind,hrun];rfl
 unfold Oper.wp
 rw[h1,Oper.upon_value]
 exact hn (.c (.f (.bool a0.isNone))) _ X st.h w (.c _ _ (VF.bool _)) R.heap (Ev.refl _ _ _) (hk _)
theorem JU.valNil{P:Program}{o:Oper}{st:St}{K:KV}(h:XF P st.s st.h o.op=some (.c (.f .nil)))(hk:K (.c (.f (.sl 0 []))) st.h):JU P o st K:=by
 intro w X a R next Q hn
 obtain⟨u,h1,h2⟩:=Wd (P:=P) R h
 unfold Oper.wp
 rw[h1 w (ZV.refl w) o rfl,Oper.upon_value]
 have:VA w X st.h (.c (.f (.sl 0 []))) u:=by
  have hh:=Ui h2
  cases hh
  exact .c (.f (.sl 0 [])) _ (VF.sl0 none 0)
 exact hn _ u X st.h w this R.heap (Ev.refl _ _ _) hk
theorem Jk.of_bodyN{P:Program}{f:FuncId}{fn:Func}{c:Code}{args:List AV}{H:Jn}{Q:AV→Jn→Prop}(hf:P.funcs[f]? =some fn)(hb:fn.body=some c){n:Nat}(hn:fn.ntmps=n){rs:List ResultVar}(hr:fn.results.toList=rs)
 (h:QN P c ⟨args++Jf (n -args.length) .void,H⟩ fun e st'=>(e= .normal∨e= .ret)∧∃v H',Yg P st'.s st'.h rs=some v∧J5 st'.h H'∧Q v H'):Jk P f args H Q:=by
 subst hn hr
 exact Jk.of_body hf hb h
theorem Wa{P:Program}{t e:TypeId}{ti ei:TI}(ht:JP P t=some ti)(hk:ti.k= .slice e)(he:JP P e=some ei):QT P t=some ei:=by
 unfold QT;simp only[ht,hk,he]
theorem JbL{P:Program}{H:Jn}{t e:TypeId}{ti:TI}{n:Nat}{cs:List FV}(ht:JP P t=some ti)(hk:ti.k= .slice e)(hn:0<n):KE P H .eql t (.c (.f (.sl n cs))) (.c (.f .nil))=some (.c (.f (.bool false))):=by
 unfold KE
 simp only[ht,hk,VX,if_neg (show¬n=0 by omega)]
 rfl
theorem Jjr(xs:List Int)(hx:xs.length≤2^40)(h0:xs≠[]):Jk Tryz.prog 89 [QF xs] [] (WD xs):=by
 have hp:0<xs.length:=List.length_pos_iff.2 h0
 refine Jk.cw (c:=_) Tryz.func89 rfl (n:=8) Tryz.ntmps89 (rs:=[.tmp 2]) rfl ?_
 simp only[Ja,Je,zA,zS,Jf,Jb,Jd]
 simp(maxSteps:=999999)(disch:=omega)only[go_sem,zA,zM,zS,zE,zL,JbL WG rfl hp]
 intro g g'
 rw[Nat.zero_add]
 exact⟨_,J5.refl _,_,_,rfl, .o 0 g' none xs [] (by rw[Jt];exact Qj (b:=⟨g',1,cl (eI .i64) xs⟩) rfl),Wc (fun id b hb=>by simp at hb)⟩
theorem JkQ:Jk Tryz.prog 89 [QF []] [] (WD []):=by
 refine Jk.of_bodyN (c:=_) rfl rfl (n:=8) rfl (rs:=[.tmp 2]) rfl ?_
 refine QN.seq (QN.region (JU.val (v:= .c (.f .nil)) rfl ?_))
 refine QN.seq (QN.seq (QN.region (JU.val (v:=QF []) rfl (JU.nilOpen rfl (Wa WG rfl ti3) rfl rfl fun b=> ?_))))
 refine QN.cond (b:=b) rfl (fun hb=> ?_) (fun hb=> ?_)
 · refine QN.seq (QN.region (JU.valNil rfl ?_))
   refine QN.ret ?_
   exact⟨.inr rfl,_,_,rfl,J5.refl _,_,_,rfl, .e,fun id b hb=>by simp at hb⟩
 · refine QN.skip ?_
   refine(UR _ _ _ (Nl Tryz.prog [.tmp 2] (WD [])) ?_).mono fun e st ⟨h1,v,h2,H',h3,h4⟩=>⟨h1,v,H',h2,h3,h4⟩
   simp only[Ja,Je,zA,zS,Jf,Jb,Jd]
   simp(maxSteps:=999999)(disch:=omega)only[go_sem,zA,zM,zS,zE,zL]
   intro g
   show Uo [some ⟨g,1,[]⟩] (WD []) (.c (.own 0 g 0 0 none))
   exact⟨_,J5.refl _,_,_,rfl, .o 0 g none [] [] (Qj (b:=⟨g,1,[]⟩) rfl),Wc (xs:=[]) (fun id b hb=>by simp at hb)⟩
theorem X7(xs:List Int)(hx:xs.length≤2^40):Jk Tryz.prog 89 [QF xs] [] (WD xs):=by
 by_cases h:xs=[]
 · subst h;exact JkQ
 · exact Jjr xs hx h
end Go.Lg
