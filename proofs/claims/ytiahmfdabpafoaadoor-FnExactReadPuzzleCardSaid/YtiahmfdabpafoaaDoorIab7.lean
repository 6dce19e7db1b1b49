/- LgZ, LgZ2, cut to what is needed. -/
import Derived.Test.YtiahmfdabpafoaaDoorIab4
open Nat renaming reduceAdd→zA,reduceMul→zM,reduceSub→zS,reduceEqDiff→zE,reduceLeDiff→zL
set_option linter.unusedSimpArgs false
set_option linter.unusedVariables false
namespace Go.Lg
class HSzK {α:Type} (E:α→List CV) (n:outParam Nat):Prop where
 sz:∀x,(E x).length=n
def kl{α:Type}(E:α→List CV)(xs:List α):List CV:=xs.flatMap E
section
variable{α:Type}{E:α→List CV}{n:Nat}
theorem kl_length[h:HSzK E n](xs:List α):(kl E xs).length=xs.length*n:=by
 induction xs with
 |nil=>simp[kl]
 |cons x xs ih=>simp only[kl,List.flatMap_cons,List.length_append,h.sz,List.length_cons]at ih⊢;rw[ih,Nat.add_mul];omega
theorem kl_append(xs ys:List α):kl E (xs++ys)=kl E xs++kl E ys:=by simp[kl]
theorem kl_drop[h:HSzK E n]:∀(xs:List α) (i:Nat),(kl E xs).drop (i*n)=kl E (xs.drop i)
 |[],i=>by simp[kl]
 |x::xs,0=>by simp
 |x::xs,i+1=>by
  have ih:=kl_drop xs i
  have:(i+1)*n=(E x).length+i*n:=by rw[h.sz,Nat.add_mul];omega
  rw[this]
  simp only[kl,List.flatMap_cons,List.drop_append,List.drop_succ_cons]at ih⊢
  rw[List.drop_eq_nil_of_le (by omega),Nat.add_sub_cancel_left,ih]
  rfl
theorem kl_take[h:HSzK E n]:∀(xs:List α) (i:Nat),(kl E xs).take (i*n)=kl E (xs.take i)
 |[],i=>by simp[kl]
 |x::xs,0=>by simp[kl]
 |x::xs,i+1=>by
  have ih:=kl_take xs i
  have:(i+1)*n=(E x).length+i*n:=by rw[h.sz,Nat.add_mul];omega
  rw[this]
  simp only[kl,List.flatMap_cons,List.take_append,List.take_succ_cons]at ih⊢
  rw[List.take_of_length_le (by omega),Nat.add_sub_cancel_left,ih]
theorem kl_at[h:HSzK E n](xs:List α){i:Nat}(hi:i<xs.length):((kl E xs).drop (i*n)).take n=E xs[i]:=by
 rw[kl_drop,List.drop_eq_getElem_cons hi]
 simp only[kl,List.flatMap_cons]
 rw[List.take_append_of_le_length (by rw[h.sz];exact Nat.le_refl _),List.take_of_length_le (by rw[h.sz];exact Nat.le_refl _)]
theorem kl_getAt[hs:HSzK E n]{xs:List α}{i j:Nat}(hi:i<xs.length)(hj:j<n):(kl E xs)[i*n+j]? =(E xs[i])[j]? :=by
 have h:=kl_at (E:=E) xs hi
 have h2:=congrArg (fun l=>l[j]?) h
 simp only[List.getElem?_take_of_lt hj,List.getElem?_drop]at h2
 exact h2
theorem setRange_kl[hs:HSzK E n]{xs:List α}{i:Nat}{v:α}(h:i<xs.length):setRange (kl E xs) (0+i*n) (E v)=kl E (xs.set i v):=by
 have e1:(kl E xs).take (0+i*n)=kl E (xs.take i):=by rw[Nat.zero_add,kl_take]
 have e2:(kl E xs).drop (0+i*n+(E v).length)=kl E (xs.drop (i+1)):=by
  rw[hs.sz,Nat.zero_add,←Nat.succ_mul,kl_drop]
 rw[setRange,e1,e2,List.set_eq_take_append_cons_drop,if_pos h]
 simp[kl]
theorem setRange_klj[hs:HSzK E n]{xs:List α}{i j:Nat}{c:CV}{v:α}(h:i<xs.length)(hj:j<n)(hv:E v=(E xs[i]).set j c):setRange (kl E xs) (0+i*n+j) [c]=kl E (xs.set i v):=by
 have hlen:(E xs[i]).length=n:=hs.sz _
 have key:setRange (kl E xs) (0+i*n+j) [c]=setRange (kl E xs) (0+i*n) ((E xs[i]).set j c):=by
  apply List.ext_getElem?
  intro q
  have hl:=kl_length (E:=E) xs
  have hle:(i+1)*n≤xs.length*n:=Nat.mul_le_mul_right _ h
  rw[Nat.add_mul,Nat.one_mul]at hle
  have g1:∀(m:List CV) (o:Nat),o+m.length≤(kl E xs).length→(setRange (kl E xs) o m)[q]? =if q<o then(kl E xs)[q]? else if q<o+m.length then m[q -o]? else(kl E xs)[q]? :=by
   intro m o hm
   simp only[setRange]
   by_cases h1:q<o
   · rw[if_pos h1,List.append_assoc,List.getElem?_append_left (by simp;omega),List.getElem?_take_of_lt h1]
   · rw[if_neg h1]
     by_cases h2:q<o+m.length
     · rw[if_pos h2,List.append_assoc,List.getElem?_append_right (by simp;omega),List.length_take,Nat.min_eq_left (by omega),List.getElem?_append_left (by omega)]
     · rw[if_neg h2,List.getElem?_append_right (by simp;omega),List.length_append,List.length_take,Nat.min_eq_left (by omega),List.getElem?_drop]
       congr 1;omega
  rw[g1 _ _ (by simp;omega),g1 _ _ (by simp[hlen];omega)]
  simp only[List.length_singleton,List.length_set,hlen]
  by_cases h1:q<0+i*n
  · rw[if_pos (by omega),if_pos h1]
  · rw[if_neg h1]
    by_cases h2:q<0+i*n+n
    · rw[if_pos h2]
      have hq:(kl E xs)[q]? =(E xs[i])[q -i*n]? :=by
       rw[←kl_getAt h (show q -i*n<n by omega)]
       congr 1;omega
      by_cases h3:q=0+i*n+j
      · rw[if_neg (by omega),if_pos (by omega)]
        have e1:q -(0+i*n+j)=0:=by omega
        have e2:q -(0+i*n)=j:=by omega
        rw[e1,e2]
        simp[hlen,hj]
      · have e2:q -(0+i*n)=q -i*n:=by omega
        rw[e2,List.getElem?_set_ne (by omega)]
        by_cases h4:q<0+i*n+j
        · rw[if_pos h4,hq]
        · rw[if_neg h4,if_neg (by omega),hq]
    · rw[if_neg (by omega),if_neg (by omega),if_neg h2]
 rw[key,←hv]
 exact setRange_kl h
end
inductive OwnI(H:Heap):CV→List Int→List Nat→Prop where
 |e:OwnI H (.f (.sl 0 [])) [] []
 |o (id g:Nat) (lim:Option Nat) (xs ys:List Int) (h:look H id g=some ⟨g,1,cl (eI .i64) (xs++ys)⟩):OwnI H (.own id g 0 xs.length lim) xs [id]
def Frm(H H':Heap)(S:List Nat):Prop:=H'.length=H.length∧∀id,id∉S→H'[id]? =H[id]?
theorem Frm.refl(H:Heap)(S:List Nat):Frm H H S:=⟨rfl,fun _ _=>rfl⟩
theorem Frm.trans{H H' H'':Heap}{S:List Nat}(h:Frm H H' S)(k:Frm H' H'' S):Frm H H'' S:=⟨k.1.trans h.1,fun id hi=>(k.2 id hi).trans (h.2 id hi)⟩
theorem Frm.mono{H H':Heap}{S T:List Nat}(h:Frm H H' S)(hs:∀i∈S,i∈T):Frm H H' T:=⟨h.1,fun id hi=>h.2 id fun hm=>hi (hs id hm)⟩
theorem Frm.look{H H':Heap}{S:List Nat}(h:Frm H H' S){id g:Nat}(hi:id∉S):look H' id g=look H id g:=by
 unfold Lg.look;rw[h.2 id hi]
theorem Frm.set(H:Heap)(id:Nat)(b:Option Blk):Frm H (H.set id b) [id]:=⟨by simp,fun i hi=>by rw[List.getElem?_set_ne (by simp at hi;exact fun h=>hi h.symm)]⟩
theorem OwnI.frm{H H':Heap}{c:CV}{xs:List Int}{S T:List Nat}(h:OwnI H c xs S)(hf:Frm H H' T)(hd:∀i∈S,i∉T):OwnI H' c xs S:=by
 cases h with
 |e=>exact .e
 |o id g lim xs ys h=>exact .o id g lim xs ys (by rw[hf.look (hd id (by simp))];exact h)
theorem OwnI.frz{H:Heap}{c:CV}{xs:List Int}{S:List Nat}(h:OwnI H c xs S)(n:Nat):frz H (n+1) c=some (fints xs):=by
 cases h with
 |e=>cases n<;>rfl
 |o id g lim xs ys h=>
  simp only[Lg.frz,h,List.drop_zero]
  rw[cl_append,List.take_append_of_le_length (by rw[cl_length];exact Nat.le_refl _),List.take_of_length_le (by rw[cl_length];exact Nat.le_refl _),frz_cl]
  rfl
structure RO where
 r:Rul
 c:CV
 i:List Nat
 deriving Inhabited
def kR(o:RO):List CV:=[.f (.int .i64 o.r.kind),o.c, .f (.int .i64 o.r.val)]
instance:HSzK kR 3:=⟨fun _=>rfl⟩
def kRo(o:Option RO):List CV:=match o with|none=>[.f (.int .i64 0), .f .nil, .f (.int .i64 0)]|some o=>kR o
instance:HSzK kRo 3:=⟨fun o=>by cases o<;>rfl⟩
inductive OwnR(H:Heap):CV→List Rul→List Nat→Prop where
 |e:OwnR H (.f (.sl 0 [])) [] []
 |o (id g:Nat) (lim:Option Nat) (l:List RO) (ys:List CV) (h:look H id g=some ⟨g,3,kl kR l++ys⟩) (hi:∀o∈l,OwnI H o.c o.r.cells o.i) (hd:(id::l.flatMap (·.i)).Nodup) (hy:∀c∈ys,scalC c=true):
    OwnR H (.own id g 0 l.length lim) (l.map (·.r)) (id::l.flatMap (·.i))
theorem OwnR.frm{H H':Heap}{c:CV}{rs:List Rul}{S T:List Nat}(h:OwnR H c rs S)(hf:Frm H H' T)(hd:∀i∈S,i∉T):OwnR H' c rs S:=by
 cases h with
 |e=>exact .e
 |o id g lim l ys h hi hn hy=>
  refine .o id g lim l ys (by rw[hf.look (hd id (by simp))];exact h) (fun o ho=>(hi o ho).frm hf fun i hm=>hd i ?_) hn hy
  exact List.mem_cons_of_mem _ (List.mem_flatMap.2 ⟨o,ho,hm⟩)
theorem mapM_frz_kR{H:Heap}{n:Nat}:∀(l:List RO),(∀o∈l,OwnI H o.c o.r.cells o.i)→(kl kR l).mapM (frz H (n+1))=some (fl eR (l.map (·.r)))
 |[],_=>rfl
 |o::l,h=>by
  have h1:=(h o (by simp)).frz n
  have h2:=mapM_frz_kR (n:=n) l fun x hx=>h x (by simp[hx])
  simp only[kl,List.flatMap_cons,kR,List.cons_append,List.nil_append]at h2⊢
  simp only[List.mapM_cons,h1,h2,Option.pure_def,Option.bind_eq_bind,Option.bind_some]
  rfl
theorem OwnR.frz{H:Heap}{c:CV}{rs:List Rul}{S:List Nat}(h:OwnR H c rs S)(n:Nat):frz H (n+2) c=some (fsl eR rs):=by
 cases h with
 |e=>rfl
 |o id g lim l ys h hi hn hy=>
  simp only[Lg.frz,h,List.drop_zero]
  rw[List.take_append_of_le_length (by rw[kl_length];exact Nat.le_refl _),List.take_of_length_le (by rw[kl_length];exact Nat.le_refl _),mapM_frz_kR l hi]
  simp
def snapD(H:Heap):AV→Option AV
 | .c x=>(frzC H x).map .c
 | .agg cs=>(cs.mapM (frzC H)).map .agg
 | .void=>some .void
 |_=>none
theorem frzC_still{w:World}{X:Cx}{H:Heap}(R:HRel w X H){x y:CV}{v:Value}(h:frzC H x=some y)(hv:VC w X H x v):VC w (X.still w) [] y v:=by
 have hw:∀b,(X.ice H).I b→(X.still w).I b:=fun b hb=>by
  rcases hb with hb|⟨id,blk,h1,h2⟩
  · exact R.imm b hb
  · obtain⟨_,_,cc,t,h3,_⟩:=R.blk id blk h1
    rw[←h2]
    exact(Array.getElem?_eq_some_iff.1 h3).1
 have h2:=frzC_sound R h hv
 cases y with
 |f y=>exact VF.wide hw h2
 |fp cs off=>obtain⟨b,o,k1,k2,k3⟩:=h2;exact⟨b,o,k1,hw b k2,k3.mono (fun b hb=>⟨hw b hb,rfl⟩) k2⟩
 |nilp=>exact h2
 |nilf=>exact h2
 |emp=>exact h2
 |ptr id g off=>obtain⟨k1,k2,k3⟩:=h2;exact⟨k1,k2,fun hl=>by simp[look]at hl⟩
 |own id g off n lim=>obtain⟨k1,k2,k3⟩:=h2;exact⟨k1,k2,fun b hb=>by simp[look]at hb⟩
 |fn f caps=>exact h2
theorem snapD_still{w:World}{X:Cx}{H:Heap}(R:HRel w X H){x y:AV}{v:Value}(h:snapD H x=some y)(hv:VA w X H x v):VA w (X.still w) [] y v:=by
 unfold snapD at h
 split at h
 · rename_i x
   cases hs:frzC H x with
   |none=>simp[hs]at h
   |some z=>simp[hs]at h;subst h;exact .c _ _ (frzC_still R hs (va_c hv))
 · rename_i cs
   cases hs:cs.mapM (frzC H)with
   |none=>simp[hs]at h
   |some z=>
    simp[hs]at h;subst h
    obtain⟨h1,h2⟩:=mapM_get hs
    cases hv with
    |agg cs vs hsz hc=>
     refine .agg _ _ (by omega) fun j hj=> ?_
     obtain⟨y,h3,h4⟩:=h2 j (by omega)
     obtain⟨u,h5,h6⟩:=hc j (by omega)
     have:z[j]=y:=by simpa[List.getElem?_eq_getElem hj]using h3
     rw[this]
     exact⟨u,h5,frzC_still R h4 h6⟩
 · cases h;cases hv;exact .void
 · cases h
end Go.Lg

namespace Go.Lg
section
variable{P:Program}{o:Oper}{st:St}{K:KV}{fo:Operand}{xs:Array Operand}{ts:Array TypeId}{f:FuncId}{args args':List AV}{v:AV}{u:Value}{Q:KV}
theorem OpS.rdD(hc:Reads P f args' v)(he:Enters P f)(ho:o.op= .call ⟨.value fo,xs,ts⟩)(ha:callArgs st fo xs=some (f,args))(hs:args.mapM (snapD st.h)=some args')
 (hf:flatV v=some u) (hk:K v st.h):OpS P o st K:=by
 intro w X a R next Q hn
 obtain⟨vs,h1,hvs⟩:=callArgs_sound (P:=P) R ho ha he
 obtain⟨hl,hgm⟩:=mapM_get hs
 have R0:HRel w (X.still w) []:=⟨fun b hb=>hb,fun id b hb=>by simp at hb,fun id id' b b' hb=>by simp at hb,R.heap.tab.mono fun b hb=>⟨R.heap.imm b hb,rfl⟩⟩
 refine wp_enter (h1 w) ((hc w (X.still w) vs R0 ⟨by rw[hvs.1,hl],fun i hi=> ?_⟩).mono fun e w'' ⟨r,u',X',H',k1,k2,k3,k4,k5⟩=>⟨u, ?_, ?_⟩)
 · obtain⟨x,q1,q2⟩:=hvs.2 i (by omega)
   obtain⟨y,q3,q4⟩:=hgm i (by omega)
   have:args'[i]=y:=by simpa[List.getElem?_eq_getElem hi]using q3
   rw[this]
   exact⟨x,q1,snapD_still R.heap q4 q2⟩
 · have k5:r=v:=k5
   subst k5
   rw[k1,(flatV_sound hf).2 _ _ _ _ k2]
 · have hg:Grow w w'':=⟨fun b hb=>(k4.imm b hb).2,k4.size,k4.os,k4.tape,k4.output⟩
   exact hn v u X st.h w'' ((flatV_sound hf).1 _ _ _) (hg.rel R.heap) (hg.ev R.heap) hk
end
section
variable{P:Program}{ops:Array Oper}{o:Oper}{s:List AV}{H:Heap}{K:KV}{fo:Operand}{xs:Array Operand}{ts:Array TypeId}{f:FuncId}{args args':List AV}{v:AV}{u:Value}{Q:KV}
theorem Loud.rdD(hc:Reads P f args' v)(he:Enters P f)(ho:o.op= .call ⟨.value fo,xs,ts⟩)(ha:callArgs ⟨s,H⟩ fo xs=some (f,args))(hs:args.mapM (snapD H)=some args')
 (hf:flatV v=some u) (hk:K v H):Loud P ops o s H K:=Loud.call ho ha fun s' ha'=>OpS.rdD hc he ho ha' hs hf hk
end
theorem look_shiftH{H0 H:Heap}{id g:Nat}{b:Blk}(h:look H id g=some b):look (H0++shiftH H0.length H) (id+H0.length) g=some (shiftB H0.length b):=by
 obtain⟨h1,h2⟩:=look_some h
 have:(H0++shiftH H0.length H)[id+H0.length]? =some (some (shiftB H0.length b)):=by
  rw[List.getElem?_append_right (by omega),Nat.add_sub_cancel]
  simp[shiftH,h1]
 have:=look_of this
 simp only[shiftB]at this⊢
 rw[h2]at this⊢
 exact this
theorem look_appL{H H':Heap}{id g:Nat}{b:Blk}(h:look H id g=some b):look (H++H') id g=some b:=(HLe.app H H').look h
theorem scalC_shift(k:Nat)(c:CV):scalC (shiftC k c)=scalC c:=by cases c<;>rfl
theorem OwnI.shift{H0 H:Heap}{c:CV}{xs:List Int}{S:List Nat}(h:OwnI H c xs S):OwnI (H0++shiftH H0.length H) (shiftC H0.length c) xs (S.map (· +H0.length)):=by
 cases h with
 |e=>exact .e
 |o id g lim xs ys h=>
  refine .o (id+H0.length) g lim xs ys ?_
  rw[look_shiftH h]
  simp only[shiftB,shift_cl]
theorem OwnI.app{H H':Heap}{c:CV}{xs:List Int}{S:List Nat}(h:OwnI H c xs S):OwnI (H++H') c xs S:=by
 cases h with
 |e=>exact .e
 |o id g lim xs ys h=>exact .o id g lim xs ys (look_appL h)
def RO.sh(k:Nat)(o:RO):RO:=⟨o.r,shiftC k o.c,o.i.map (· +k)⟩
theorem kl_sh(k:Nat)(l:List RO):(kl kR l).map (shiftC k)=kl kR (l.map (RO.sh k)):=by
 simp only[kl,List.map_flatMap,List.flatMap_map];rfl
theorem OwnR.shift{H0 H:Heap}{c:CV}{rs:List Rul}{S:List Nat}(h:OwnR H c rs S):OwnR (H0++shiftH H0.length H) (shiftC H0.length c) rs (S.map (· +H0.length)):=by
 cases h with
 |e=>exact .e
 |o id g lim l ys h hi hd hy=>
  have:=OwnR.o (H:=H0++shiftH H0.length H) (id+H0.length) g lim (l.map (RO.sh H0.length)) (ys.map (shiftC H0.length)) (by
   rw[look_shiftH h]
   simp only[shiftB,List.map_append,kl_sh]) (fun o ho=>by
   obtain⟨p,hp,rfl⟩:=List.mem_map.1 ho
   exact(hi p hp).shift) (by
   have e:(id+H0.length)::(l.map (RO.sh H0.length)).flatMap (·.i)=(id::l.flatMap (·.i)).map (· +H0.length):=by
    simp only[List.map_cons,List.flatMap_map,List.map_flatMap];rfl
   rw[e]
   exact List.pairwise_map.2 (hd.imp fun h he=>h (by omega))) (fun c hc=>by
   obtain⟨d,hd,rfl⟩:=List.mem_map.1 hc
   rw[scalC_shift];exact hy d hd)
  simp only[List.length_map,List.map_map,List.flatMap_map]at this
  simp only[shiftC,List.map_cons,List.map_flatMap]
  exact this
theorem OwnR.app{H H':Heap}{c:CV}{rs:List Rul}{S:List Nat}(h:OwnR H c rs S):OwnR (H++H') c rs S:=by
 cases h with
 |e=>exact .e
 |o id g lim l ys h hi hd hy=>exact .o id g lim l ys (look_appL h) (fun o ho=>(hi o ho).app) hd hy
theorem OwnI.frzC{H:Heap}{c:CV}{xs:List Int}{S:List Nat}(h:OwnI H c xs S):Lg.frzC H c=some (.f (fints xs)):=by
 have:=h.frz 5
 cases h with
 |e=>rfl
 |o id g lim xs ys h=>simp only[Lg.frzC,this,Option.map_some]
theorem OwnR.frzC{H:Heap}{c:CV}{rs:List Rul}{S:List Nat}(h:OwnR H c rs S):Lg.frzC H c=some (.f (fsl eR rs)):=by
 have:=h.frz 4
 cases h with
 |e=>rfl
 |o id g lim l ys h hi hd hy=>simp only[Lg.frzC,this,Option.map_some]
theorem OwnI.lt{H:Heap}{c:CV}{xs:List Int}{S:List Nat}(h:OwnI H c xs S):∀i∈S,i<H.length:=by
 cases h with
 |e=>simp
 |o id g lim xs ys h=>intro i hi;have:i=id:=by simpa using hi
                      subst this;exact(List.getElem?_eq_some_iff.1 (look_some h).1).1
theorem OwnR.lt{H:Heap}{c:CV}{xs:List Rul}{S:List Nat}(h:OwnR H c xs S):∀i∈S,i<H.length:=by
 cases h with
 |e=>simp
 |o id g lim l ys h hi hd hy=>
  intro i hm
  rcases List.mem_cons.1 hm with rfl|hm
  · exact(List.getElem?_eq_some_iff.1 (look_some h).1).1
  · obtain⟨o,ho,hm⟩:=List.mem_flatMap.1 hm
    exact(hi o ho).lt i hm
theorem OwnI.nd{H:Heap}{c:CV}{xs:List Int}{S:List Nat}(h:OwnI H c xs S):S.Nodup:=by cases h<;>simp
theorem OwnR.nd{H:Heap}{c:CV}{xs:List Rul}{S:List Nat}(h:OwnR H c xs S):S.Nodup:=by
 cases h with
 |e=>simp
 |o id g lim l ys h hi hd hy=>exact hd
structure OwnP(H:Heap)(cs:List CV)(p:Puz)(S:List Nat):Prop where
 ex:∃c1 c2 S1 S2,cs=[.f (.int .i64 p.size),c1,c2]∧S=S1++S2∧OwnI H c1 p.given S1∧OwnR H c2 p.rules S2
 nd:S.Nodup
structure OwnG(H:Heap)(cs:List CV)(q:Gam)(S:List Nat):Prop where
 ex:∃c1 c2 c3 c4 S1 S2 S3 S4,cs=[.f (.int .i64 q.task.size),c1,c2,c3,c4]∧S=S1++(S2++(S3++S4))∧OwnI H c1 q.task.given S1∧OwnR H c2 q.task.rules S2∧OwnI H c3 q.put S3∧OwnI H c4 q.moves S4
 nd:S.Nodup
theorem OwnP.snap{H:Heap}{cs:List CV}{p:Puz}{S:List Nat}(h:OwnP H cs p S):snapD H (.agg cs)=some (aP p):=by
 obtain⟨c1,c2,S1,S2,rfl,_,h1,h2⟩:=h.ex
 simp only[snapD,List.mapM_cons,List.mapM_nil,h1.frzC,h2.frzC,Option.pure_def,Option.bind_eq_bind,Option.bind_some]
 rfl
theorem OwnG.snap{H:Heap}{cs:List CV}{q:Gam}{S:List Nat}(h:OwnG H cs q S):snapD H (.agg cs)=some (aG q):=by
 obtain⟨c1,c2,c3,c4,S1,S2,S3,S4,rfl,_,h1,h2,h3,h4⟩:=h.ex
 simp only[snapD,List.mapM_cons,List.mapM_nil,h1.frzC,h2.frzC,h3.frzC,h4.frzC,Option.pure_def,Option.bind_eq_bind,Option.bind_some]
 rfl
theorem nodup_shift{S:List Nat}{k:Nat}(h:S.Nodup):(S.map (· +k)).Nodup:=List.pairwise_map.2 (h.imp fun h he=>h (by omega))
theorem OwnP.shift{H0 H:Heap}{cs:List CV}{p:Puz}{S:List Nat}(h:OwnP H cs p S):OwnP (H0++shiftH H0.length H) (cs.map (shiftC H0.length)) p (S.map (· +H0.length)):=by
 obtain⟨c1,c2,S1,S2,rfl,rfl,h1,h2⟩:=h.ex
 exact⟨⟨_,_,_,_,rfl,by simp,h1.shift,h2.shift⟩,nodup_shift h.nd⟩
theorem OwnG.shift{H0 H:Heap}{cs:List CV}{q:Gam}{S:List Nat}(h:OwnG H cs q S):OwnG (H0++shiftH H0.length H) (cs.map (shiftC H0.length)) q (S.map (· +H0.length)):=by
 obtain⟨c1,c2,c3,c4,S1,S2,S3,S4,rfl,rfl,h1,h2,h3,h4⟩:=h.ex
 exact⟨⟨_,_,_,_,_,_,_,_,rfl,by simp,h1.shift,h2.shift,h3.shift,h4.shift⟩,nodup_shift h.nd⟩
theorem OwnP.app{H H':Heap}{cs:List CV}{p:Puz}{S:List Nat}(h:OwnP H cs p S):OwnP (H++H') cs p S:=by
 obtain⟨c1,c2,S1,S2,rfl,rfl,h1,h2⟩:=h.ex
 exact⟨⟨_,_,_,_,rfl,rfl,h1.app,h2.app⟩,h.nd⟩
theorem OwnG.app{H H':Heap}{cs:List CV}{q:Gam}{S:List Nat}(h:OwnG H cs q S):OwnG (H++H') cs q S:=by
 obtain⟨c1,c2,c3,c4,S1,S2,S3,S4,rfl,rfl,h1,h2,h3,h4⟩:=h.ex
 exact⟨⟨_,_,_,_,_,_,_,_,rfl,rfl,h1.app,h2.app,h3.app,h4.app⟩,h.nd⟩
theorem OwnG.frm{H H':Heap}{cs:List CV}{q:Gam}{S T:List Nat}(h:OwnG H cs q S)(hf:Frm H H' T)(hd:∀i∈S,i∉T):OwnG H' cs q S:=by
 obtain⟨c1,c2,c3,c4,S1,S2,S3,S4,rfl,rfl,h1,h2,h3,h4⟩:=h.ex
 refine⟨⟨_,_,_,_,_,_,_,_,rfl,rfl,h1.frm hf fun i hi=>hd i ?_,h2.frm hf fun i hi=>hd i ?_,h3.frm hf fun i hi=>hd i ?_,h4.frm hf fun i hi=>hd i ?_⟩,h.nd⟩<;>simp[hi]
theorem OwnP.frm{H H':Heap}{cs:List CV}{p:Puz}{S T:List Nat}(h:OwnP H cs p S)(hf:Frm H H' T)(hd:∀i∈S,i∉T):OwnP H' cs p S:=by
 obtain⟨c1,c2,S1,S2,rfl,rfl,h1,h2⟩:=h.ex
 refine⟨⟨_,_,_,_,rfl,rfl,h1.frm hf fun i hi=>hd i ?_,h2.frm hf fun i hi=>hd i ?_⟩,h.nd⟩<;>simp[hi]
theorem OwnI.same{H H':Heap}{c:CV}{xs:List Int}{S:List Nat}(h:OwnI H c xs S)(hs:∀i∈S,H'[i]? =H[i]?):OwnI H' c xs S:=by
 cases h with
 |e=>exact .e
 |o id g lim xs ys h=>exact .o id g lim xs ys (by unfold look at*;rw[hs id (by simp)];exact h)
theorem OwnR.same{H H':Heap}{c:CV}{rs:List Rul}{S:List Nat}(h:OwnR H c rs S)(hs:∀i∈S,H'[i]? =H[i]?):OwnR H' c rs S:=by
 cases h with
 |e=>exact .e
 |o id g lim l ys h hi hn hy=>
  refine .o id g lim l ys (by unfold look at*;rw[hs id (by simp)];exact h) (fun o ho=>(hi o ho).same fun i hm=>hs i ?_) hn hy
  exact List.mem_cons_of_mem _ (List.mem_flatMap.2 ⟨o,ho,hm⟩)
theorem OwnP.same{H H':Heap}{cs:List CV}{p:Puz}{S:List Nat}(h:OwnP H cs p S)(hs:∀i∈S,H'[i]? =H[i]?):OwnP H' cs p S:=by
 obtain⟨c1,c2,S1,S2,rfl,rfl,h1,h2⟩:=h.ex
 exact⟨⟨_,_,_,_,rfl,rfl,h1.same fun i hi=>hs i (by simp[hi]),h2.same fun i hi=>hs i (by simp[hi])⟩,h.nd⟩
theorem OwnG.of{H:Heap}{z:Int}{c1 c2 c3 c4:CV}{p:Puz}{xs ys:List Int}{S1 S2 S3 S4:List Nat}(h:OwnP H [.f (.int .i64 z),c1,c2] p (S1++S2))(h3:OwnI H c3 xs S3)(h4:OwnI H c4 ys S4)(hn:(S1++(S2++(S3++S4))).Nodup):
 OwnG H [.f (.int .i64 z),c1,c2,c3,c4] ⟨p,xs,ys⟩ (S1++(S2++(S3++S4))):=by
 obtain⟨d1,d2,T1,T2,e1,e2,k1,k2⟩:=h.ex
 cases e1
 refine⟨⟨_,_,_,_,T1,T2,S3,S4,rfl, ?_,k1,k2,h3,h4⟩,hn⟩
 rw[←List.append_assoc,e2,List.append_assoc]
theorem look_last{H:Heap}{g sz:Nat}{cs:List CV}:look (H++[some ⟨g,sz,cs⟩]) H.length g=some ⟨g,sz,cs⟩:=look_of (b:=⟨g,sz,cs⟩) (by simp)
theorem set_last{H:Heap}{x y:Option Blk}:(H++[x]).set H.length y=H++[y]:=by rw[List.set_append_right _ _ (Nat.le_refl _),Nat.sub_self];rfl
theorem look_app_lt{H H':Heap}{id g:Nat}(h:id<H.length):look (H++H') id g=look H id g:=by
 unfold look;rw[List.getElem?_append_left h]
theorem OwnP.lt{H:Heap}{cs:List CV}{p:Puz}{S:List Nat}(h:OwnP H cs p S):∀i∈S,i<H.length:=by
 obtain⟨c1,c2,S1,S2,rfl,rfl,h1,h2⟩:=h.ex
 intro i hi
 rcases List.mem_append.1 hi with hi|hi
 · exact h1.lt i hi
 · exact h2.lt i hi
theorem OwnG.lt{H:Heap}{cs:List CV}{q:Gam}{S:List Nat}(h:OwnG H cs q S):∀i∈S,i<H.length:=by
 obtain⟨c1,c2,c3,c4,S1,S2,S3,S4,rfl,rfl,h1,h2,h3,h4⟩:=h.ex
 intro i hi
 simp only[List.mem_append]at hi
 rcases hi with hi|hi|hi|hi
 · exact h1.lt i hi
 · exact h2.lt i hi
 · exact h3.lt i hi
 · exact h4.lt i hi
theorem shiftH_length(k:Nat)(H:Heap):(shiftH k H).length=H.length:=by simp[shiftH]
theorem shift_ge{S:List Nat}{k n:Nat}(h:∀i∈S,i<n):∀i∈S.map (· +k),k≤i∧i<k+n:=by
 intro i hi
 obtain⟨x,hx,rfl⟩:=List.mem_map.1 hi
 have:=h x hx
 omega
section
variable{P:Program}{o:Oper}{st:St}{K:KV}{fo:Operand}{xs:Array Operand}{ts:Array TypeId}{f:FuncId}{args args':List AV}
end
theorem OwnI.blk{H:Heap}{c:CV}{xs:List Int}{S:List Nat}(h:OwnI H c xs S):∀i∈S,∀b,H[i]? =some (some b)→∀x∈b.cs,scalC x=true:=by
 cases h with
 |e=>simp
 |o id g lim xs ys h=>
  intro i hi b hb x hx
  obtain rfl:i=id:=by simpa using hi
  rw[(look_some h).1]at hb
  cases hb
  exact scal_own (g:=g) (n:=1) (scalI .i64 (xs++ys)) 0 _ rfl x hx
theorem OwnI.scal1{H:Heap}{c:CV}{xs:List Int}{S:List Nat}(h:OwnI H c xs S):scalC c=true:=by cases h<;>rfl
theorem OwnR.scal1{H:Heap}{c:CV}{xs:List Rul}{S:List Nat}(h:OwnR H c xs S):scalC c=true:=by cases h<;>rfl
theorem OwnR.blk{H:Heap}{c:CV}{xs:List Rul}{S:List Nat}(h:OwnR H c xs S):∀i∈S,∀b,H[i]? =some (some b)→∀x∈b.cs,scalC x=true:=by
 cases h with
 |e=>simp
 |o id g lim l ys h hi hd hy=>
  intro i hm b hb x hx
  rcases List.mem_cons.1 hm with rfl|hm
  · rw[(look_some h).1]at hb
    cases hb
    rcases List.mem_append.1 hx with hx|hx
    · obtain⟨o,ho,hx⟩:=List.mem_flatMap.1 hx
      simp only[kR,List.mem_cons,List.not_mem_nil,or_false]at hx
      rcases hx with rfl|rfl|rfl
      · rfl
      · exact(hi o ho).scal1
      · rfl
    · exact hy x hx
  · obtain⟨o,ho,hm⟩:=List.mem_flatMap.1 hm
    exact(hi o ho).blk i hm b hb x hx
theorem OwnP.blk{H:Heap}{cs:List CV}{p:Puz}{S:List Nat}(h:OwnP H cs p S):(∀i∈S,∀b,H[i]? =some (some b)→∀x∈b.cs,scalC x=true)∧cs.all scalC=true:=by
 obtain⟨c1,c2,S1,S2,rfl,rfl,h1,h2⟩:=h.ex
 refine⟨fun i hi=> ?_,by simp only[List.all_cons,List.all_nil,h1.scal1,h2.scal1,Bool.and_true];rfl⟩
 rcases List.mem_append.1 hi with hi|hi
 · exact h1.blk i hi
 · exact h2.blk i hi
theorem OwnG.blk{H:Heap}{cs:List CV}{q:Gam}{S:List Nat}(h:OwnG H cs q S):(∀i∈S,∀b,H[i]? =some (some b)→∀x∈b.cs,scalC x=true)∧cs.all scalC=true:=by
 obtain⟨c1,c2,c3,c4,S1,S2,S3,S4,rfl,rfl,h1,h2,h3,h4⟩:=h.ex
 refine⟨fun i hi=> ?_,by simp only[List.all_cons,List.all_nil,h1.scal1,h2.scal1,h3.scal1,h4.scal1,Bool.and_true];rfl⟩
 simp only[List.mem_append]at hi
 rcases hi with hi|hi|hi|hi
 · exact h1.blk i hi
 · exact h2.blk i hi
 · exact h3.blk i hi
 · exact h4.blk i hi
theorem OwnG.same{H H':Heap}{cs:List CV}{q:Gam}{S:List Nat}(h:OwnG H cs q S)(hs:∀i∈S,H'[i]? =H[i]?):OwnG H' cs q S:=by
 obtain⟨c1,c2,c3,c4,S1,S2,S3,S4,rfl,rfl,h1,h2,h3,h4⟩:=h.ex
 refine⟨⟨_,_,_,_,_,_,_,_,rfl,rfl,h1.same fun i hi=>hs i ?_,h2.same fun i hi=>hs i ?_,h3.same fun i hi=>hs i ?_,h4.same fun i hi=>hs i ?_⟩,h.nd⟩<;>simp[hi]
section
variable{P:Program}{o:Oper}{st:St}{K:KV}{fo:Operand}{xs:Array Operand}{ts:Array TypeId}{f:FuncId}{args args':List AV}{q:Gam}
end
theorem OwnI.scal{H:Heap}{c:CV}{xs:List Int}{S:List Nat}(h:OwnI H c xs S):scalC c=true:=by cases h<;>rfl
section
variable{P:Program}{o:Oper}{st:St}{K:KV}{fo:Operand}{xs:Array Operand}{ts:Array TypeId}{f:FuncId}{args args':List AV}{zs:List Int}
end
theorem snap_one{H:Heap}{x y:AV}(h:snapD H x=some y):[x].mapM (snapD H)=some [y]:=by
 simp only[List.mapM_cons,List.mapM_nil,h,Option.pure_def,Option.bind_eq_bind,Option.bind_some]
theorem snap_two{H:Heap}{x y x' y':AV}(h:snapD H x=some y)(h':snapD H x'=some y'):[x,x'].mapM (snapD H)=some [y,y']:=by
 simp only[List.mapM_cons,List.mapM_nil,h,h',Option.pure_def,Option.bind_eq_bind,Option.bind_some]
theorem OwnI.snap{H:Heap}{c:CV}{xs:List Int}{S:List Nat}(h:OwnI H c xs S):snapD H (.c c)=some (ints xs):=by
 simp only[snapD,h.frzC,Option.map_some]
theorem snapD_aP{H:Heap}{q:Puz}:snapD H (aP q)=some (aP q):=rfl
theorem snapD_int{H:Heap}{x:Int}:snapD H (int x)=some (int x):=rfl
theorem fl_if{α β:Type}{E:α→List FV}{n:Nat}[HSz E n]{xs:List α}{x y:β}:(if(fl E xs).length=xs.length*n then x else y)=x:=if_pos (fl_length xs)
theorem map_fl{α:Type}{E:α→List FV}{xs:List α}:(fl E xs).map CV.f=cl E xs:=rfl
attribute [go_sem] fl_if map_fl
end Go.Lg
