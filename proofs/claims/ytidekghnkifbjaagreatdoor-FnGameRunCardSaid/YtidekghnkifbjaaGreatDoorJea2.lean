/- LgH, LgI, LgJ, LgK, cut to what is needed. -/
import Derived.Test.YtidekghnkifbjaaGreatDoorJea1
open List renaming getElem?_append_left → Ja, length_cons → Je, length_nil → Jf, getElem?_eq_some_iff → Jh, length_append → Jk, getElem?_eq_getElem → Jq, append_assoc → Jt, getElem?_eq_none → Jx, getElem?_set_self → JX, getElem?_take_of_lt → J1, getElem?_append_right → J3, mem_map → Qj, map_cons → Qr, length_map → Qs, getElem?_map → Qv, map_nil → ZV
open Nat renaming reduceAdd→zA,reduceMul→zM,reduceSub→zS,reduceEqDiff→zE,reduceLeDiff→zL
set_option linter.unusedSimpArgs false
set_option linter.unusedVariables false
namespace Go.Lg
def JZ(P:Program)(o:Oper)(st:St)(K:AV→Jm→Prop):Prop:=
 ∀w X a,XC w X a st→∀(next:Act→World→Prop) (Q:Exit→Act→World→Prop),
  (∀v u X' H' w',VA w' X' H' v u→ZL w' X' H'→Ev w X st.h w' X' H'→K v H'→next (a.put o.dst u) w')→o.wp P a w next Q
theorem JZ.val{P:Program}{o:Oper}{st:St}{K:AV→Jm→Prop}{v:AV}(h:X8 P st.s st.h o.op=some v)(hk:K v st.h):JZ P o st K:=by
 intro w X a R next Q hn
 obtain⟨u,h1,h2⟩:=Wm (P:=P) R h
 unfold Oper.wp
 rw[h1 w (Z6.refl w) o rfl,Oper.upon_value]
 exact hn v u X st.h w h2 R.heap (Ev.refl _ _ _) hk
def W2:AV→Option (List CV)
 | .c c=>some [c]
 | .agg cs=>some cs
 |_=>none
theorem X7{w:World}{X:Cx}{H:Jm}{v:AV}{u:Value}{l:List CV}(h:W2 v=some l)(hv:VA w X H v u):
 u.cells.size=l.length∧(∀j (h:j<l.length),∃x,u.cells[j]? =some x∧VC w X H l[j] x)∧∀x∈u.cells.toList,x.oneCell'=true:=by
 cases hv with
 |c x u hx=>
  cases h
  have h1:=hx.one
  have hu:u.cells= #[u]:=by cases u<;>first|rfl|(simp[Value.oneCell']at h1)
  rw[hu]
  refine⟨rfl,fun j hj=> ?_,fun x hx=>by simp at hx;subst hx;exact h1⟩
  have:j=0:=by simp at hj;omega
  subst this
  exact⟨u,rfl,hx⟩
 |agg cs vs hs hc=>
  cases h
  refine⟨hs,hc,fun x hx=> ?_⟩
  obtain⟨j,hj,rfl⟩:=List.mem_iff_getElem.1 hx
  simp only[Value.cells,Array.length_toList]at hj
  obtain⟨y,h1,h2⟩:=hc j (by omega)
  have:(vs.toList[j]'(by simpa using hj))=y:=by
   simp only[Array.getElem_toList]
   simpa[hj]using h1
  simp only[Value.cells]
  rw[this]
  exact h2.one
 |_=>cases h
theorem Wj{P:Program}{t:TypeId}{ti:TI}(h:JV P t=some ti):∃z,(∀w,(zeroValue t).run P w= .ok z w)∧z.cells.size=ti.zero.length∧
 ∀(w:World) (X:Cx) (H:Jm) j (h:j<ti.zero.length),∃x,z.cells[j]? =some x∧VC w X H ti.zero[j] x:=by
 obtain⟨i,d,z,hi,hd,hz,hm,h1,h2,h3⟩:=Qi h
 obtain⟨hl,hg⟩:=Uh hm
 refine⟨z,fun w=>by simp[zeroValue,typeInfo,hi,hz],by simpa using hl.symm,fun w X H j hj=> ?_⟩
 obtain⟨y,h4,h5⟩:=hg j (by omega)
 have:ti.zero[j]=y:=by simpa[Jq hj]using h4
 rw[this]
 exact⟨z.cells.toList[j]'(by omega),by simp at hl;simp[←hl,hj],RZ h5⟩
theorem Z7{P:Program}{o:Oper}{a:Act}{w w':World}{u:Value}{next:Act→World→Prop}{Q:Exit→Act→World→Prop}(h:(execOp a.eval o).run P w= .ok (.value u) w')(hn:next (a.put o.dst u) w'):o.wp P a w next Q:=by
 unfold Oper.wp;rw[h,Oper.upon_value];exact hn
theorem JhM{P:Program}{o:Oper}{a:Act}{w w':World}{next:Act→World→Prop}{Q:Exit→Act→World→Prop}(h:(execOp a.eval o).run P w= .ok .skip w')(hn:next (a.put o.dst undef) w'):o.wp P a w next Q:=by
 unfold Oper.wp;rw[h,Oper.upon_skip];exact hn
theorem Jfw{w w':World}{X:Cx}{H:Jm}{sz c:Nat}{cs:List CV}:VA w' (X.new w.heap.size c) (H++[some ⟨X.t,sz,cs⟩]) (.c (.ptr H.length X.t 0)) (.pointer (some ⟨w.heap.size,0,none⟩)):=
 .c _ _ ⟨Nat.lt_succ_self _,rfl,fun _=>by simp[Cx.new]⟩
theorem JZ.alloc{P:Program}{o:Oper}{st:St}{K:AV→Jm→Prop}{t:TypeId}{ti:TI}(ho:o.op= .alloc t)(ht:JV P t=some ti)
 (hk:∀g,K (.c (.ptr st.h.length g 0)) (st.h++[some ⟨g,ti.size,ti.zero⟩])):JZ P o st K:=by
 intro w X a R next Q hn
 obtain⟨z,hz,hzs,hzc⟩:=Wj ht
 have hrun:(execOp a.eval o).run P w= .ok (.value (.pointer (some ⟨w.heap.size,0,none⟩))) (w.alloc (.cells z.cells t)):=by
  simp only[execOp,ho,Instr.alloc,Sem.run_bind,hz,Result.andThen_ok]
  simp[newVar,newRow]
 obtain⟨h1,h2⟩:=Xe (w':=w.alloc (.cells z.cells t)) R.heap (sz:=ti.size) (t:=t) (cs:=ti.zero) (cc:=z.cells) rfl rfl rfl rfl (by omega) (fun j hj=>hzc w X st.h j hj)
 exact Z7 hrun (hn _ _ _ _ _ Jfw h1 h2 (hk _))
theorem JZ.box{P:Program}{o:Oper}{st:St}{K:AV→Jm→Prop}{t:TypeId}{x:Operand}{cs:List CV}(ho:o.op= .box t x)(hx:W2 (QY st.s x)=some cs)
 (hk:∀g,K (.c (.ptr st.h.length g 0)) (st.h++[some ⟨g,1,cs⟩])):JZ P o st K:=by
 intro w X a R next Q hn
 obtain⟨h1,h2,h3⟩:=X7 hx (J7 R x)
 have hrun:(execOp a.eval o).run P w= .ok (.value (.pointer (some ⟨w.heap.size,0,none⟩))) (w.alloc (.cells (a.eval x).cells t)):=by
  simp[execOp,ho,Instr.box,newVar,newRow]
 obtain⟨h4,h5⟩:=Xe (w':=w.alloc (.cells (a.eval x).cells t)) R.heap (sz:=1) (t:=t) (cs:=cs) (cc:=(a.eval x).cells) rfl rfl rfl rfl (by omega) h2
 exact Z7 hrun (hn _ _ _ _ _ Jfw h4 h5 (hk _))
def Qk(l:List CV)(o:Nat)(m:List CV):List CV:=l.take o++m++l.drop (o+m.length)
theorem UB{l m:List CV}{o:Nat}(h:o+m.length≤l.length):(Qk l o m).length=l.length:=by
 simp[Qk];omega
theorem Bb{l m:List CV}{o:Nat}(h:o+m.length≤l.length)(j:Nat)(hj:j<(Qk l o m).length):
 (j<o∧∃h:j<l.length,(Qk l o m)[j]=l[j])∨(∃h:j -o<m.length,o≤j∧(Qk l o m)[j]=m[j -o])∨(o+m.length≤j∧∃h:j<l.length,(Qk l o m)[j]=l[j]):=by
 have hl:=UB h
 by_cases h1:j<o
 · refine .inl ⟨h1,by omega, ?_⟩
   simp only[Qk,Jt]
   rw[List.getElem_append_left (by simp;omega)]
   simp
 · by_cases h2:j<o+m.length
   · refine .inr (.inl ⟨by omega,by omega, ?_⟩)
     simp only[Qk,Jt]
     rw[List.getElem_append_right (by simp;omega)]
     rw[List.getElem_append_left (by simp;omega)]
     congr 1
     simp;omega
   · refine .inr (.inr ⟨by omega,by omega, ?_⟩)
     simp only[Qk]
     rw[List.getElem_append_right (by simp;omega)]
     simp only[List.getElem_drop]
     congr 1
     simp;omega
theorem GT{l:Array Value}{m:List Value}{o j:Nat}(h:o+m.length≤l.size):
 (l.toList.take o++m++l.toList.drop (o+m.length)).toArray[j]? =if o≤j∧j<o+m.length then m[j -o]? else l[j]? :=by
 simp only[List.getElem?_toArray]
 split
 · rename_i hc
   rw[Jt,J3 (by simp;omega),Ja (by simp;omega)]
   congr 1
   simp;omega
 · rename_i hc
   by_cases h1:j<o
   · rw[Jt,Ja (by simp;omega)]
     rw[J1 h1]
     simp
   · rw[J3 (by simp;omega),List.getElem?_drop]
     have:o+m.length+(j -(List.take o l.toList++m).length)=j:=by simp;omega
     rw[this]
     simp
theorem Ba(w:World)(g:Nat)(cur cs:Array Value)(t:TypeId)(fr:Nat×Nat)(hg:w.heap[g]? =some (.cells cur t fr)):
 (w.setRow g cs).heap[g]? =some (.cells cs t fr)∧(∀k,k≠g→(w.setRow g cs).heap[k]? =w.heap[k]?)∧(w.setRow g cs).heap.size=w.heap.size:=by
 refine⟨?_,fun k hk=> ?_,by simp[World.setRow]⟩
 · simp[World.setRow,Array.getElem?_modify,hg]
 · simp only[World.setRow,Array.getElem?_modify]
   rw[if_neg (fun h=>hk h.symm)]
theorem Fd{w:World}{X:Cx}{H:Jm}(R:ZL w X H){id g:Nat}{b:Zv}(hl:look H id g=some b){o:Nat}{cs:List CV}{vs:List Value}(hvl:vs.length=cs.length)(ho:o+cs.length≤b.cs.length)
 (hv:∀j (h:j<cs.length),∃x,vs[j]? =some x∧VC w X H cs[j] x) (h1:∀x∈vs,x.oneCell'=true):
 ∃w',(∀P,(storeCells ⟨X.mu g,o,none⟩ vs).run P w= .ok () w')∧ZL w' X (H.set id (some ⟨b.g,b.sz,Qk b.cs o cs⟩))∧Ev w X H w' X (H.set id (some ⟨b.g,b.sz,Qk b.cs o cs⟩)):=by
 obtain⟨hid,hgg⟩:=JG hl
 subst hgg
 obtain⟨g1,g2,cc,t,g3,g4,g5,g6⟩:=R.blk id b hid
 have hle:o+vs.length≤cc.size:=by omega
 obtain⟨k1,k2,k3⟩:=Ba w (X.mu b.g) cc (cc.toList.take o++vs++cc.toList.drop (o+vs.length)).toArray t (0,0) g3
 refine⟨_,fun P=> ?_,Jf5 R hid k1 k2 k3 rfl rfl rfl (by simp;omega) (UB ho) fun j hj=> ?_⟩
 · have:=run_storeCells_at (P:=P) (X.mu b.g) o t vs 0 cc w g3 (by simpa using hle) h1
   simpa using this
 · rw[GT hle]
   rcases Bb ho j hj with⟨h2,h3,h4⟩|⟨h2,h3,h4⟩|⟨h2,h3,h4⟩
   · rw[if_neg (by omega),h4];exact g6 j h3
   · rw[if_pos (by omega),h4];exact hv _ h2
   · rw[if_neg (by omega),h4];exact g6 j h3
theorem JZ.store{P:Program}{o:Oper}{st:St}{K:AV→Jm→Prop}{t:TypeId}{ti:TI}{p x:Operand}{id g off:Nat}{b:Zv}{cs:List CV}(ho:o.op= .store t p x)(ht:JV P t=some ti)
 (hp:QY st.s p= .c (.ptr id g off)) (hl:look st.h id g=some b) (hx:W2 (QY st.s x)=some cs) (hs:cs.length=ti.size) (hle:off+cs.length≤b.cs.length)
 (hk:K .void (st.h.set id (some ⟨b.g,b.sz,Qk b.cs off cs⟩))):JZ P o st K:=by
 intro w X a R next Q hn
 obtain⟨h1,h2,h3⟩:=X7 hx (J7 R x)
 have hpv:=J7 R p
 rw[hp]at hpv
 have hpe:=(Uy hpv).2.2 (by rw[hl];rfl)
 obtain⟨w',h4,h5,h6⟩:=Fd R.heap hl (o:=off) (cs:=cs) (vs:=(a.eval x).cells.toList) (by simpa using h1) hle (fun j hj=>by obtain⟨y,h7,h8⟩:=h2 j hj;exact⟨y,by simpa using h7,h8⟩) h3
 have hrun:(execOp a.eval o).run P w= .ok .skip w':=by
  have hsz:¬((a.eval x).cells.size≠ti.size):=by omega
  simp only[execOp,ho,Instr.storeAt,hpe,Instr.sureAddr,Sem.run_bind,Sem.run_pure,Result.andThen_ok,storeVar,Zc ht,Sem.run_ite,if_neg hsz,h4]
 exact JhM hrun (hn .void undef _ _ _ .void h5 h6 hk)
end Go.Lg

namespace Go.Lg
theorem Rw(off:Nat):∀(vs:List Value) (k:Nat) (cells:Array Value),off+k+vs.length≤cells.size→
 ((vs.zipIdx k).foldl (fun cs (x:Value×Nat)=>cs.setIfInBounds (off+x.2) x.1) cells).size=cells.size∧
 ∀j,((vs.zipIdx k).foldl (fun cs (x:Value×Nat)=>cs.setIfInBounds (off+x.2) x.1) cells)[j]? =if off+k≤j∧j<off+k+vs.length then vs[j -(off+k)]? else cells[j]?
 |[],k,cells,_=>⟨rfl,fun j=>by rw[if_neg (by simp only[Jf];omega)];rfl⟩
 |v::vs,k,cells,h=>by
  simp only[Je]at h
  obtain⟨h1,h2⟩:=Rw off vs (k+1) (cells.setIfInBounds (off+k) v) (by simp only[Array.size_setIfInBounds];omega)
  simp only[List.zipIdx_cons,List.foldl_cons]
  refine⟨by rw[h1];simp,fun j=> ?_⟩
  rw[h2]
  simp only[Je]
  by_cases hj:j=off+k
  · subst hj
    rw[if_neg (by omega),if_pos (by omega),Array.getElem?_setIfInBounds_self_of_lt (by omega)]
    simp
  · rw[Array.getElem?_setIfInBounds_ne (by omega)]
    by_cases hc:off+(k+1)≤j∧j<off+(k+1)+vs.length
    · rw[if_pos hc,if_pos (by omega)]
      have:j -(off+k)=(j -(off+(k+1)))+1:=by omega
      rw[this]
      simp
    · rw[if_neg hc,if_neg (by omega)]
def WT(place:Nat→Option (Nat×Nat)):List CV→List (Nat×List CV)→Option (List CV)
 |l,[]=>some l
 |l,(i,cs)::rest=>match place i with
  |none=>none
  |some (off,size)=>if cs.length=size∧off+size≤l.length then WT place (Qk l off cs) rest else none
def Vm(s:List AV):List (Nat×Operand)→Option (List (Nat×List CV))
 |[]=>some []
 |(i,x)::rest=>match W2 (QY s x),Vm s rest with
  |some cs,some r=>some ((i,cs)::r)
  |_,_=>none
theorem YL{w:World}{X:Cx}{a:Act}{st:St}(R:XC w X a st){place:Nat→Option (Nat×Nat)}:∀(ps:List (Nat×Operand)) (l:List CV) (cells:Array Value) (rs:List (Nat×List CV)) (r:List CV),
 Vm st.s ps=some rs→WT place l rs=some r→cells.size=l.length→(∀j (h:j<l.length),∃x,cells[j]? =some x∧VC w X st.h l[j] x)→
 ∃out,Instr.fill place cells (ps.map fun p=>(p.1,a.eval p.2))=some out∧out.size=r.length∧∀j (h:j<r.length),∃x,out[j]? =some x∧VC w X st.h r[j] x
 |[],l,cells,rs,r,h1,h2,h3,h4=>by
  cases h1
  cases h2
  exact⟨cells,rfl,h3,h4⟩
 |(i,x)::ps,l,cells,rs,r,h1,h2,h3,h4=>by
  unfold Vm at h1
  split at h1
  · rename_i cs r' e1 e2
    cases h1
    unfold WT at h2
    split at h2
    · cases h2
    · rename_i off size hp
      split at h2
      · rename_i hc
        obtain⟨hc1,hc2⟩:=hc
        obtain⟨k1,k2,k3⟩:=X7 e1 (J7 R x)
        obtain⟨q1,q2⟩:=Rw off (a.eval x).cells.toList 0 cells (by simp;omega)
        have hle:off+cs.length≤l.length:=by omega
        obtain⟨out,o1,o2,o3⟩:=YL R ps (Qk l off cs) (((a.eval x).cells.toList.zipIdx 0).foldl (fun cs (x:Value×Nat)=>cs.setIfInBounds (off+x.2) x.1) cells) r' r e2 h2 (by rw[q1,UB hle];exact h3) (fun j hj=>by
         rw[q2]
         rcases Bb hle j hj with⟨p1,p2,p3⟩|⟨p1,p2,p3⟩|⟨p1,p2,p3⟩
         · rw[if_neg (by omega),p3];exact h4 j p2
         · rw[if_pos (by simp;omega),p3]
           obtain⟨y,y1,y2⟩:=k2 _ p1
           exact⟨y,by simpa using y1,y2⟩
         · rw[if_neg (by simp;omega),p3];exact h4 j p2)
        refine⟨out, ?_,o2,o3⟩
        simp only[Qr,Instr.fill,hp]
        rw[if_neg (by simp;omega)]
        rw[←o1]
        congr 1
        rw[←Array.foldl_toList,Array.toList_zipIdx]
      · cases h2
  · cases h1
def QX(n:Nat)(z:List CV):List CV:=(List.range n).map fun j=>z.getD (j%z.length) (.f .nil)
theorem Yx{w:World}{X:Cx}{H:Jm}{z:Array Value}{zs:List CV}(hl:z.size=zs.length)(hz:∀j (h:j<zs.length),∃x,z[j]? =some x∧VC w X H zs[j] x)(n:Nat)(hn:n≠0→zs.length≠0):
 ((Array.range n).map (z[· %z.size]!)).size=(QX n zs).length∧∀j (h:j<(QX n zs).length),∃x,((Array.range n).map (z[· %z.size]!))[j]? =some x∧VC w X H (QX n zs)[j] x:=by
 refine⟨by simp[QX],fun j hj=> ?_⟩
 simp only[QX,Qs,List.length_range]at hj
 have h0:=hn (by omega)
 have hlt:j%zs.length<zs.length:=Nat.mod_lt _ (by omega)
 obtain⟨x,h1,h2⟩:=hz _ hlt
 refine⟨x, ?_, ?_⟩
 · simp only[Array.getElem?_map]
   rw[Array.getElem?_range]
   simp only[hj,if_true,Option.map_some,hl]
   rw[Array.getElem!_eq_getD,Array.getD_eq_getD_getElem?,h1]
   rfl
 · simp only[QX,List.getElem_map,List.getElem_range,List.getD,Jq hlt,Option.getD_some]
   exact h2
theorem JbI{w w':World}{X:Cx}{H:Jm}{sz c n cap:Nat}{cs:List CV}(h1:n*sz≤cs.length)(h2:n≤cap)(h3:cap*sz≤c)(h4:cs.length≤cap*sz):
 VA w' (X.new w.heap.size c) (H++[some ⟨X.t,sz,cs⟩]) (.c (.own H.length X.t 0 n none)) (.slice (some ⟨w.heap.size,0,none⟩) n cap):=by
 refine .c _ _ ⟨Nat.lt_succ_self _,rfl,fun blk hblk=> ?_⟩
 obtain⟨h5,h6⟩:=JG hblk
 simp at h5
 subst h5
 exact⟨by simpa using h1,_,_,rfl,h2,fun _=>by simp[Cx.new],by simpa[Cx.new]using h3,by simpa using h4⟩
theorem JZ.buildSlice{P:Program}{o:Oper}{st:St}{K:AV→Jm→Prop}{t e:TypeId}{ti ei:TI}{n:Nat}{parts:Array (Nat×Operand)}{rs:List (Nat×List CV)}{cs:List CV}
 (ho:o.op= .buildSlice t n parts) (ht:JV P t=some ti) (hk:ti.k= .slice e) (he:JV P e=some ei) (hz:ei.zero.length=ei.size) (hp:Vm st.s parts.toList=some rs)
 (hf:WT (fun i=>some (i*ei.size,ei.size)) (QX (n*ei.size) ei.zero) rs=some cs) (h24:n*ei.size≤16777216)
 (hK:∀g,K (.c (.own st.h.length g 0 n none)) (st.h++[some ⟨g,ei.size,cs⟩])):JZ P o st K:=by
 intro w X a R next Q hn
 obtain⟨inf,d,z',h1,h2,h3,h4,h5,h6,h7⟩:=Qi ht
 rw[h5]at hk;cases Zu hk
 obtain⟨z,hz1,hz2,hz3⟩:=Wj he
 have hz0:n*ei.size≠0→ei.zero.length≠0:=fun h=>by rw[hz];intro h0;rw[h0]at h;exact h (Nat.mul_zero _)
 obtain⟨q1,q2⟩:=Yx (w:=w) (X:=X) (H:=st.h) hz2 (hz3 w X st.h) (n*ei.size) hz0
 obtain⟨out,o1,o2,o3⟩:=YL R parts.toList (QX (n*ei.size) ei.zero) ((Array.range (n*ei.size)).map (z.cells[· %z.cells.size]!)) rs cs hp hf q1 q2
 have hlen:cs.length=n*ei.size:=by
  have:∀(rs:List (Nat×List CV)) (l r:List CV),WT (fun i=>some (i*ei.size,ei.size)) l rs=some r→r.length=l.length:=by
   intro rs
   induction rs with
   |nil=>intro l r h;cases h;rfl
   |cons p rs ih=>
    intro l r h
    obtain⟨i,c⟩:=p
    simp only[WT]at h
    split at h
    · rename_i hc
      rw[ih _ _ h,UB (by omega)]
    · cases h
  rw[this _ _ _ hf];simp[QX]
 have hrun:(execOp a.eval o).run P w= .ok (.value (.slice (some ⟨w.heap.size,0,none⟩) n n)) (w.alloc (.cells out e)):=by
  have h24':¬(n*ei.size>2^24):=by simpa using h24
  have hparts:(parts.map fun p=>(p.1,a.eval p.2)).toList=parts.toList.map fun p=>(p.1,a.eval p.2):=by simp
  simp only[execOp,ho,Instr.buildSlice,Sem.run_bind,run_underlying h2,Result.andThen_ok,Zc he,Sem.run_ite,if_neg h24',Sem.run_pure]
  by_cases h0:n*ei.size=0
  · simp only[h0,if_true,Result.andThen_ok]at o1⊢
    have e0:(Array.range 0).map ((#[]:Array Value)[· %(#[]:Array Value).size]!)=(Array.range 0).map (z.cells[· %z.cells.size]!):=by simp
    rw[e0,hparts,o1]
    simp[newRow]
  · simp only[if_neg h0,hz1,Result.andThen_ok,Sem.run_bind,Sem.run_pure]
    rw[hparts,o1]
    simp[newRow]
 obtain⟨k1,k2⟩:=Xe (w':=w.alloc (.cells out e)) R.heap (sz:=ei.size) (t:=e) (cs:=cs) (cc:=out) rfl rfl rfl rfl (by omega) o3
 exact Z7 hrun (hn _ _ _ _ _ (JbI (by omega) (Nat.le_refl _) (by omega) (by omega)) k1 k2 (hK _))
theorem JZ.makeSlice{P:Program}{o:Oper}{st:St}{K:AV→Jm→Prop}{t e:TypeId}{ti ei:TI}{x y:Operand}{k k':IntKind}{l c:Int}
 (ho:o.op= .makeSlice t x y) (ht:JV P t=some ti) (hk:ti.k= .slice e) (he:JV P e=some ei) (hz:ei.zero.length=ei.size)
 (hx:QY st.s x= .c (.f (.int k l))) (hy:QY st.s y= .c (.f (.int k' c))) (h0:0≤l) (h1:l≤c) (h63:c≤9223372036854775807) (h48:ei.bytes*c≤281474976710656)
 (hK:∀g,K (.c (.own st.h.length g 0 l.toNat none)) (st.h++[some ⟨g,ei.size,QX (l.toNat*ei.size) ei.zero⟩])):JZ P o st K:=by
 intro w X a R next Q hn
 obtain⟨inf,d,z',i1,i2,i3,i4,i5,i6,i7⟩:=Qi ht
 rw[i5]at hk;cases Zu hk
 obtain⟨infe,de,ze',e1,e2,e3,e4,e5,e6,e7⟩:=Qi he
 obtain⟨z,hz1,hz2,hz3⟩:=Wj he
 have hxv:=J7 R x
 have hyv:=J7 R y
 rw[hx]at hxv;rw[hy]at hyv
 have hz0:c.toNat*ei.size≠0→ei.zero.length≠0:=fun h=>by rw[hz];intro h0;rw[h0]at h;exact h (Nat.mul_zero _)
 obtain⟨q1,q2⟩:=Yx (w:=w) (X:=X) (H:=st.h) hz2 (hz3 w X st.h) (c.toNat*ei.size) hz0
 have hw1:IntKind.i64.wrap l=l:=by
  simp only[IntKind.wrap,IntKind.bits,IntKind.signed]
  have:l%2^64=l:=Int.emod_eq_of_lt h0 (by omega)
  simp[this];omega
 have hw2:IntKind.i64.wrap c=c:=by
  simp only[IntKind.wrap,IntKind.bits,IntKind.signed]
  have:c%2^64=c:=Int.emod_eq_of_lt (by omega) (by omega)
  simp[this];omega
 let out:=(Array.range (c.toNat*ei.size)).map (z.cells[· %z.cells.size]!)
 have hrun:(execOp a.eval o).run P w= .ok (.value (.slice (some ⟨w.heap.size,0,none⟩) l.toNat c.toNat)) (w.alloc (.cells out e)):=by
  have n1:¬((c<0∨(281474976710656:Int)<infe.bytes*c)∨l<0∨c<l):=by rw[←e7];omega
  have hti:(typeInfo e).run P w= .ok infe w:=by simp[typeInfo,e1]
  simp only[execOp,ho,Instr.makeSlice,Sem.run_bind,run_underlying i2,Result.andThen_ok,Vy hxv,Vy hyv,asInt,asIntOf,Sem.run_pure,hti,hw1,hw2]
  rw[if_neg (show¬((decide (c<0)||decide ((infe.bytes:Int)*c>2^48)||decide (l<0)||decide (l>c))=true) by simp;omega)]
  by_cases hn0:c.toNat*ei.size=0
  · simp only[Sem.run_bind,run_askRoom,Result.andThen_ok,Zc he,hn0,if_true,Sem.run_pure]
    have r0:Array.range 0= #[]:=by simp
    simp only[r0,Array.map_empty,newRow,out,hn0]
    simp
  · simp only[Sem.run_bind,run_askRoom,Result.andThen_ok,Zc he,if_neg hn0,Sem.run_pure,hz1]
    simp[newRow,out]
 have hle:l.toNat*ei.size≤c.toNat*ei.size:=Nat.mul_le_mul_right _ (by omega)
 have hzl:(QX (l.toNat*ei.size) ei.zero).length=l.toNat*ei.size:=by simp[QX]
 have hol:out.size=c.toNat*ei.size:=by simp[out]
 obtain⟨k1,k2⟩:=Xe (w':=w.alloc (.cells out e)) R.heap (sz:=ei.size) (t:=e) (cs:=QX (l.toNat*ei.size) ei.zero) (cc:=out) rfl rfl rfl rfl (by omega) (fun j hj=>by
  obtain⟨u,u1,u2⟩:=q2 j (by simp[QX]at hj⊢;omega)
  refine⟨u,u1, ?_⟩
  simp only[QX,List.getElem_map,List.getElem_range]at u2⊢
  exact u2)
 exact Z7 hrun (hn _ _ _ _ _ (JbI (by omega) (by omega) (by omega) (by omega)) k1 k2 (hK _))
end Go.Lg

namespace Go.Lg
def elems(H:Jm)(sz:Nat):AV→Option (Nat×List CV)
 | .c (.f .nil)=>some (0,[])
 | .c .emp=>some (0,[])
 | .c (.f (.sl n cs))=>if cs.length=n*sz then some (n,cs.map .f)else none
 | .c (.own id g off n _)=>match look H id g with
   |some b=>if b.sz=sz then some (n,(b.cs.drop off).take (n*sz))else none
   |none=>none
 |_=>none
theorem VR{w:World}{X:Cx}{H:Jm}(R:ZL w X H){sz n:Nat}{x:AV}{l:List CV}{xv:Value}(h:elems H sz x=some (n,l))(hx:VA w X H x xv):
 l.length=n*sz∧∃(a:Option Addr) (c:Nat) (news:List Value),xv= .slice a n c∧n≤c∧news.length=l.length∧
  (n≠0→∃ad,a=some ad∧∀j v,news[j]? =some v→w.cell? (ad.add j)=some v)∧
  (∀j (h:j<l.length),∃u,news[j]? =some u∧VC w X H l[j] u)∧∀u∈news,u.oneCell'=true:=by
 unfold elems at h
 split at h
 · cases h
   have:=Uy hx;cases this
   exact⟨by simp,none,0,[],rfl,Nat.le_refl _,rfl,fun h=>absurd rfl h,fun j hj=>absurd hj (by simp),by simp⟩
 · cases h
   obtain⟨a,rfl⟩:=Uy hx
   exact⟨by simp,a,0,[],rfl,Nat.le_refl _,rfl,fun h=>absurd rfl h,fun j hj=>absurd hj (by simp),by simp⟩
 · rename_i n' cs
   split at h
   · rename_i hl
     cases h
     have hx':=Uy hx
     cases hx' with
     |sl0 a cap=>exact⟨by simp,a,cap,[],rfl,Nat.zero_le _,rfl,fun h=>absurd rfl h,fun j hj=>absurd hj (by simp),by simp⟩
     |sl n cs b o cap u hc hI hu hv=>
      refine⟨by simpa using hl,some ⟨b,o,none⟩,cap,(List.range cs.length).map u,rfl,hc,by simp,fun _=>⟨_,rfl,fun j v hj=> ?_⟩,fun j hj=> ?_,fun v hv'=> ?_⟩
      · simp only[Qv]at hj
        by_cases hlt:j<cs.length
        · simp[hlt]at hj
          rw[Us,hu j hlt,hj]
        · simp[hlt]at hj
      · have hlt:j<cs.length:=by simpa using hj
        refine⟨u j,by simp[hlt], ?_⟩
        simp only[List.getElem_map]
        exact hv j hlt
      · obtain⟨j,hj,rfl⟩:=Qj.1 hv'
        exact(hv j (by simpa using hj)).one
   · cases h
 · rename_i id g off n' lim
   split at h
   · rename_i b hl
     split at h
     · rename_i hsz
       cases h
       obtain⟨hg,_,hall⟩:=Uy hx
       obtain⟨c1,a0,cap,rfl,c2,c3,c4,c5⟩:=hall b hl
       obtain⟨hid,hgg⟩:=JG hl
       subst hgg
       obtain⟨_,_,cc,t,g3,g4,g5,g6⟩:=R.blk id b hid
       subst hsz
       have hlen:((b.cs.drop off).take (n*b.sz)).length=n*b.sz:=by simp;omega
       have hget:∀j,j<n*b.sz→((cc.toList.drop off).take (n*b.sz))[j]? =cc[off+j]? :=fun j hj=>by
        rw[J1 hj,List.getElem?_drop];simp
       refine⟨hlen,some a0,cap,(cc.toList.drop off).take (n*b.sz),rfl,c2,by rw[hlen];simp;omega,fun h0=>⟨a0,rfl,fun j v hj=> ?_⟩,fun j hj=> ?_,fun v hv'=> ?_⟩
       · have hjl:j<n*b.sz:=by
          rcases Nat.lt_or_ge j (n*b.sz)with h|h
          · exact h
          · rw[Jx (by simp;omega)]at hj;cases hj
         rw[hget j hjl]at hj
         rw[c3 (by omega),Us]
         simp[World.cell?,g3,hj]
       · rw[hlen]at hj
         obtain⟨u,h7,h8⟩:=g6 (off+j) (by omega)
         refine⟨u,by rw[hget j hj];exact h7, ?_⟩
         simp only[List.getElem_take,List.getElem_drop]
         exact h8
       · obtain⟨j,hj,he⟩:=List.mem_iff_getElem.1 hv'
         have hjl:j<n*b.sz:=by simp at hj;omega
         obtain⟨u,h7,h8⟩:=g6 (off+j) (by omega)
         have:v=u:=by
          have:=hget j hjl
          rw[Jq hj,he,h7]at this
          exact Option.some.inj this
         rw[this]
         exact h8.one
     · cases h
   · cases h
 · cases h
theorem Gl{P:Program}(w:World){t ty e:TypeId}{ei:TI}{base a:Option Addr}{n cap c:Nat}(hu:P.underlying t=some (.slice e))(he:JV P e=some ei)(h:n≤cap):
 (Builtin.append_ #[t,t] ty #[.slice base n cap, .slice a 0 c]).run P w= .ok (.slice base n cap) w:=by
 have hf:(Builtin.firstCells ei.size 0 (.slice a 0 c)).run P w= .ok #[] w:=by
  cases a<;>simp[Builtin.firstCells,loadCells,loadCellsFrom]
 cases base<;>simp[Builtin.append_,run_underlying hu,Zc he,Builtin.lenOf,h,hf,storeCells]
theorem WG{P:Program}{o:Oper}{a:Act}{w w':World}{t:TypeId}{s x:Operand}{u:Value}(ho:o.op= .call ⟨.builtin .append,#[s,x],#[t,t]⟩)
 (h:(Builtin.append_ #[t,t] o.type #[a.eval s,a.eval x]).run P w= .ok u w'):(execOp a.eval o).run P w= .ok (.value u) w':=by
 simp only[execOp,ho,resolve,Sem.run_bind,Sem.run_pure,Result.andThen_ok,invoke,builtin,List.map_toArray,Qr,ZV]
 rw[h]
 rfl
theorem JZ.append_zero{P:Program}{o:Oper}{st:St}{K:AV→Jm→Prop}{t e:TypeId}{ti ei:TI}{s x:Operand}{n:Nat}{l:List CV}
 (ho:o.op= .call ⟨.builtin .append,#[s,x],#[t,t]⟩) (ht:JV P t=some ti) (hk:ti.k= .slice e) (he:JV P e=some ei)
 (hs:elems st.h ei.size (QY st.s s)=some (n,l)) (hx:elems st.h ei.size (QY st.s x)=some (0,[])) (hK:K (QY st.s s) st.h):JZ P o st K:=by
 intro w X a R next Q hn
 obtain⟨inf,d,z',i1,i2,i3,i4,i5,i6,i7⟩:=Qi ht
 rw[i5]at hk;cases Zu hk
 obtain⟨_,ba,bc,bn,hb,hb1,_⟩:=VR R.heap hs (J7 R s)
 obtain⟨_,xa,xc,xn,hxe,_⟩:=VR R.heap hx (J7 R x)
 have hrun:=WG ho (w:=w) (w':=w) (u:=a.eval s) (by rw[hb,hxe];exact Gl w i2 he hb1)
 exact Z7 hrun (hn _ _ _ _ _ (J7 R s) R.heap (Ev.refl _ _ _) hK)
def Nh(n m:Nat):AV→Bool
 | .c (.f .nil)=>true
 | .c .emp=>true
 | .c (.own _ _ _ _ (some c))=>c<n+m
 |_=>false
theorem JZ.append_new{P:Program}{o:Oper}{st:St}{K:AV→Jm→Prop}{t e:TypeId}{ti ei:TI}{s x:Operand}{n m:Nat}{l k:List CV}
 (ho:o.op= .call ⟨.builtin .append,#[s,x],#[t,t]⟩) (ht:JV P t=some ti) (hk:ti.k= .slice e) (he:JV P e=some ei) (hz:ei.zero.length=ei.size)
 (hs:elems st.h ei.size (QY st.s s)=some (n,l)) (hx:elems st.h ei.size (QY st.s x)=some (m,k)) (hno:Nh n m (QY st.s s)=true) (hm:0<m)
 (h63:n+m≤9223372036854775807) (h47:(n+m)*ei.bytes≤140737488355328)
 (hK:∀g,K (.c (.own st.h.length g 0 (n+m) none)) (st.h++[some ⟨g,ei.size,l++k⟩])):JZ P o st K:=by
 intro w X a R next Q hn
 obtain⟨inf,d,z',i1,i2,i3,i4,i5,i6,i7⟩:=Qi ht
 rw[i5]at hk;cases Zu hk
 obtain⟨infe,de,ze,e1,e2,e3,e4,e5,e6,e7⟩:=Qi he
 obtain⟨hl,ba,bc,bn,hb,hb1,hb2,hb3,hb4,hb5⟩:=VR R.heap hs (J7 R s)
 obtain⟨hkl,xa,xc,xn,hxe,hx1,hx2,hx3,hx4,hx5⟩:=VR R.heap hx (J7 R x)
 obtain⟨xad,rfl,hxc⟩:=hx3 (by omega)
 have hze:ze.cells.size=ei.size:=by
  obtain⟨q1,_⟩:=Uh e4
  simp at q1;omega
 have hcap:bc<n+m:=by
  have hsv:=J7 R s
  revert hno
  cases hsa:QY st.s s with
  |c cv=>
   rw[hsa,hb]at hsv
   have hsv:=Uy hsv
   cases cv with
   |f fv=>
    cases fv with
    |nil=>intro _;cases hsv;omega
    |_=>intro h;cases h
   |emp=>intro _;obtain⟨_,h⟩:=hsv;cases h;omega
   |own id g off n' lim=>
    cases lim with
    |none=>intro h;cases h
    |some c=>
     intro h
     simp[Nh]at h
     rw[hsa]at hs
     simp only[elems]at hs
     split at hs
     · rename_i b hlk
       obtain⟨_,_,cap,hv,_,_,_,hcc⟩:=hsv.2.2 b hlk
       cases hv
       simp only at hcc
       omega
     · cases hs
   |_=>intro h;cases h
  |_=>intro h;cases h
 --the machine's new block
 have key:∃cap,(Builtin.append_ #[t,t] o.type #[a.eval s,a.eval x]).run P w= .ok (.slice (some ⟨w.heap.size,0,none⟩) (n+m) cap)
  (w.drew.alloc (.cells (bn.toArray++xn.toArray++Builtin.zeroCells ze.cells (cap -(n+m))) e))∧n+m≤cap:=by
  rw[hb,hxe]
  cases ba with
  |none=>
   have hn0:n=0:=by
    by_cases h0:n=0
    · exact h0
    · obtain⟨_,h,_⟩:=hb3 h0;cases h
   subst hn0
   have hbn:bn=[]:=List.eq_nil_of_length_eq_zero (by rw[hb2,hl];simp)
   have hbc:bc=0:=by
    have hsv:=J7 R s
    rw[hb]at hsv
    generalize QY st.s s=q at hsv hs hno
    cases hsv with
    |c cv _ hq=>
     cases cv with
     |f fv=>
      cases fv with
      |nil=>cases hq;rfl
      |_=>simp[Nh]at hno
     |fp cs off=>obtain⟨_,_,h,_⟩:=hq;cases h
     |nilp=>cases hq
     |ptr id g off=>simp[elems]at hs
     |own id g off n' lim=>
      simp only[elems]at hs
      split at hs
      · rename_i b hlk
        obtain⟨_,_,cap,hv,_⟩:=hq.2.2 b hlk
        cases hv
      · cases hs
     |fn f caps=>simp[elems]at hs
     |nilf=>cases hq
     |emp=>obtain⟨_,h⟩:=hq;cases h;rfl
    |any=>simp[elems]at hs
   subst hbc hbn
   refine⟨grownCap w m 0 e, ?_, ?_⟩
   · have:=run_append_nil (P:=P) w t o.type e infe ze i2 e1 e3 xad m xc xn (by rw[hx2,hkl,e6]) hxc hm (by omega) (by rw[←e7];simp at h47;omega)
     simpa using this
   · simpa using grownCap_ge w m 0 e
  |some bad=>
   have hbc':∀j v,bn[j]? =some v→w.cell? (bad.add j)=some v:=by
    by_cases h0:n=0
    · subst h0
      have hbn:bn=[]:=List.eq_nil_of_length_eq_zero (by rw[hb2,hl];simp)
      subst hbn
      intro j v hj;simp at hj
    · obtain⟨ad,h,hh⟩:=hb3 h0
      cases h
      exact hh
   refine⟨grownCap w (n+m) bc e, ?_,grownCap_ge w (n+m) bc e⟩
   exact run_append_grow (P:=P) w t o.type e infe ze i2 e1 e3 bad n bc bn (by rw[hb2,hl,e6]) hbc' xad m xc xn (by rw[hx2,hkl,e6]) hxc hcap (by omega) (growslice_fits hcap (by rw[←e7];exact h47))
 obtain⟨cap,hrun,hge⟩:=key
 have hsz:(bn.toArray++xn.toArray++Builtin.zeroCells ze.cells (cap -(n+m))).size=cap*ei.size:=by
  simp only[Array.size_append,List.size_toArray,size_zeroCells,hze,hb2,hx2,hl,hkl,←Nat.add_mul]
  congr 1
  omega
 have hget:∀j (h:j<(l++k).length),∃u,(bn.toArray++xn.toArray++Builtin.zeroCells ze.cells (cap -(n+m)))[j]? =some u∧VC w X st.h (l++k)[j] u:=by
  intro j hj
  by_cases h1:j<l.length
  · obtain⟨u,q1,q2⟩:=hb4 j h1
    refine⟨u, ?_,by rw[List.getElem_append_left h1];exact q2⟩
    rw[Array.getElem?_append_left (by simp;omega),Array.getElem?_append_left (by simp;omega)]
    simpa using q1
  · have h2:j -l.length<k.length:=by simp at hj;omega
    obtain⟨u,q1,q2⟩:=hx4 _ h2
    refine⟨u, ?_,by rw[List.getElem_append_right (by omega)];exact q2⟩
    rw[Array.getElem?_append_left (by simp;omega),Array.getElem?_append_right (by simp;omega)]
    simpa[hb2]using q1
 have hll:(l++k).length=(n+m)*ei.size:=by rw[Jk,hl,hkl,Nat.add_mul]
 have hle:(n+m)*ei.size≤cap*ei.size:=Nat.mul_le_mul_right _ hge
 obtain⟨k1,k2⟩:=Xe (w':=w.drew.alloc (.cells (bn.toArray++xn.toArray++Builtin.zeroCells ze.cells (cap -(n+m))) e)) R.heap (sz:=ei.size) (t:=e) (cs:=l++k) (cc:=bn.toArray++xn.toArray++Builtin.zeroCells ze.cells (cap -(n+m))) rfl rfl rfl rfl (by omega) hget
 exact Z7 (WG ho hrun) (hn _ _ _ _ _ (JbI (by omega) hge (by omega) (by omega)) k1 k2 (hK _))
end Go.Lg

namespace Go.Lg
theorem JZ.append_own{P:Program}{o:Oper}{st:St}{K:AV→Jm→Prop}{t e:TypeId}{ti ei:TI}{s x:Operand}{id g n m:Nat}{b:Zv}{k:List CV}
 (ho:o.op= .call ⟨.builtin .append,#[s,x],#[t,t]⟩) (ht:JV P t=some ti) (hk:ti.k= .slice e) (he:JV P e=some ei) (hz:ei.zero.length=ei.size)
 (hs:QY st.s s= .c (.own id g 0 n none)) (hl:look st.h id g=some b) (hbs:b.sz=ei.size) (hbl:b.cs.length=n*ei.size)
 (hx:elems st.h ei.size (QY st.s x)=some (m,k)) (hm:0<m)
 (h63:n+m≤9223372036854775807) (h47:(n+m)*ei.bytes≤140737488355328)
 (hK:∀g',K (.c (.own id g' 0 (n+m) none)) (st.h.set id (some ⟨g',ei.size,b.cs++k⟩))):JZ P o st K:=by
 intro w X a R next Q hn
 obtain⟨inf,d,z',i1,i2,i3,i4,i5,i6,i7⟩:=Qi ht
 rw[i5]at hk;cases Zu hk
 obtain⟨infe,de,ze,e1,e2,e3,e4,e5,e6,e7⟩:=Qi he
 obtain⟨hkl,xa,xc,xn,hxe,hx1,hx2,hx3,hx4,hx5⟩:=VR R.heap hx (J7 R x)
 obtain⟨xad,rfl,hxc⟩:=hx3 (by omega)
 have hze:ze.cells.size=ei.size:=by
  obtain⟨q1,_⟩:=Uh e4
  simp at q1;omega
 have hsv:=J7 R s
 rw[hs]at hsv
 obtain⟨hgt,_,hall⟩:=Uy hsv
 obtain⟨c1,a0,cap,hse,c2,c3,c4,c5⟩:=hall b hl
 simp only[Nat.zero_add]at c4 c5
 obtain⟨hid,hgg⟩:=JG hl
 subst hgg
 obtain⟨g1,g2,cc,tt,g3,g4,g5,g6⟩:=R.heap.blk id b hid
 have hlt:id<st.h.length:=(Jh.1 hid).1
 --what is told of the new value
 have hval:∀(w':World) (p c cap':Nat),n+m≤cap'→cap'*ei.size≤c→
  VA w' (X.new p c) (st.h.set id (some ⟨X.t,ei.size,b.cs++k⟩)) (.c (.own id X.t 0 (n+m) none)) (.slice (some ⟨p,0,none⟩) (n+m) cap'):=by
  intro w' p c cap' q1 q2
  refine .c _ _ ⟨Nat.lt_succ_self _,rfl,fun blk hblk=> ?_⟩
  obtain⟨h5,h6⟩:=JG hblk
  rw[JX hlt]at h5
  cases h5
  have hll:(b.cs++k).length=(n+m)*ei.size:=by rw[Jk,hbl,hkl,Nat.add_mul]
  have:(n+m)*ei.size≤cap'*ei.size:=Nat.mul_le_mul_right _ q1
  exact⟨by simp only;omega,_,_,rfl,q1,fun _=>by simp[Cx.new],by simpa[Cx.new]using q2,by simp only;omega⟩
 by_cases hr:n+m≤cap
 · have ha0:=c3 (by omega)
   subst ha0
   have hle:n*ei.size+xn.length≤cc.size:=by
    have:(n+m)*ei.size≤cap*ei.size:=Nat.mul_le_mul_right _ hr
    rw[Nat.add_mul]at this
    rw[hx2,hkl,g4]
    rw[hbs]at c4
    omega
   obtain⟨k1,k2,k3⟩:=Ba w (X.mu b.g) cc (cc.toList.take (n*ei.size)++xn++cc.toList.drop (n*ei.size+xn.length)).toArray tt (0,0) g3
   have hst:=run_storeCells_at (P:=P) (X.mu b.g) (n*ei.size) tt xn 0 cc w g3 (by simpa using hle) hx5
   simp only[Nat.add_zero]at hst
   have hf:=run_firstCells_some (P:=P) w ei.size m xad m xc xn (by rw[hx2,hkl]) hxc
   have hrun:(Builtin.append_ #[t,t] o.type #[a.eval s,a.eval x]).run P w= .ok (.slice (some ⟨X.mu b.g,0,none⟩) (n+m) cap) (w.setRow (X.mu b.g) (cc.toList.take (n*ei.size)++xn++cc.toList.drop (n*ei.size+xn.length)).toArray):=by
    rw[hse,hxe]
    simp[Builtin.append_,run_underlying i2,Zc he,Builtin.lenOf,hr,hf,Us,hst]
   have hcs:(cc.toList.take (n*ei.size)++xn++cc.toList.drop (n*ei.size+xn.length)).toArray.size=cc.size:=by simp;omega
   obtain⟨q1,q2⟩:=Fc (sz':=ei.size) (cs:=b.cs++k) (cc:=(cc.toList.take (n*ei.size)++xn++cc.toList.drop (n*ei.size+xn.length)).toArray) R.heap hid (.inl rfl) k1 (fun k _ h=>k2 k h) (by omega) rfl rfl rfl
    (by rw[hcs,Jk,hbl,←hx2];exact hle) (fun j hj=>by
      rw[GT hle]
      by_cases h1:j<b.cs.length
      · rw[if_neg (by omega),List.getElem_append_left h1]
        exact g6 j h1
      · have h2:j -b.cs.length<k.length:=by simp at hj;omega
        rw[if_pos (by omega),List.getElem_append_right (by omega)]
        obtain⟨u,u1,u2⟩:=hx4 _ h2
        exact⟨u,by rw[←hbl];exact u1,u2⟩)
   refine Z7 (WG ho hrun) (hn _ _ _ _ _ (hval _ _ _ cap hr ?_) q1 q2 (hK _))
   rw[hcs,g4,←hbs];exact c4
 · have hcap:cap<n+m:=by omega
   have holds:∀j v,(cc.toList.take (n*ei.size))[j]? =some v→w.cell? (a0.add j)=some v:=by
    intro j v hj
    have hjl:j<n*ei.size:=by
     rcases Nat.lt_or_ge j (n*ei.size)with h|h
     · exact h
     · rw[Jx (by simp;omega)]at hj;cases hj
    have h0:cap≠0:=by
     intro h0
     have:n=0:=by omega
     rw[this]at hjl;simp at hjl
    rw[c3 h0,Us,Nat.zero_add]
    rw[J1 hjl]at hj
    simp[World.cell?,g3]
    simpa using hj
   have hcl:(cc.toList.take (n*ei.size)).length=n*ei.size:=by simp;omega
   have hrun:(Builtin.append_ #[t,t] o.type #[a.eval s,a.eval x]).run P w= .ok (.slice (some ⟨w.heap.size,0,none⟩) (n+m) (grownCap w (n+m) cap e))
    (w.drew.alloc (.cells ((cc.toList.take (n*ei.size)).toArray++xn.toArray++Builtin.zeroCells ze.cells (grownCap w (n+m) cap e -(n+m))) e)):=by
    rw[hse,hxe]
    exact run_append_grow (P:=P) w t o.type e infe ze i2 e1 e3 a0 n cap _ (by rw[hcl,e6]) holds xad m xc xn (by rw[hx2,hkl,e6]) hxc hcap (by omega) (growslice_fits hcap (by rw[←e7];exact h47))
   have hge:=grownCap_ge w (n+m) cap e
   have hsz:((cc.toList.take (n*ei.size)).toArray++xn.toArray++Builtin.zeroCells ze.cells (grownCap w (n+m) cap e -(n+m))).size=grownCap w (n+m) cap e*ei.size:=by
    simp only[Array.size_append,List.size_toArray,size_zeroCells,hze,hcl,hx2,hkl,←Nat.add_mul]
    congr 1
    omega
   have hle:(n+m)*ei.size≤grownCap w (n+m) cap e*ei.size:=Nat.mul_le_mul_right _ hge
   obtain⟨q1,q2⟩:=Fc (w':=w.drew.alloc (.cells ((cc.toList.take (n*ei.size)).toArray++xn.toArray++Builtin.zeroCells ze.cells (grownCap w (n+m) cap e -(n+m))) e)) (sz':=ei.size) (cs:=b.cs++k)
    (cc:=(cc.toList.take (n*ei.size)).toArray++xn.toArray++Builtin.zeroCells ze.cells (grownCap w (n+m) cap e -(n+m))) R.heap hid (.inr rfl) (heap_alloc_new w.drew _) (fun k hk _=>by show(w.heap.push _)[k]? =_;rw[Array.getElem?_push,if_neg (by omega)]) (by simp) rfl rfl rfl
    (by rw[hsz,Jk,hbl,hkl,←Nat.add_mul];exact hle) (fun j hj=>by
      by_cases h1:j<b.cs.length
      · rw[List.getElem_append_left h1,Array.getElem?_append_left (by simp;omega),Array.getElem?_append_left (by simp;omega)]
        obtain⟨u,u1,u2⟩:=g6 j h1
        refine⟨u, ?_,u2⟩
        rw[hbl]at h1
        simp[J1 h1,u1]
      · have h2:j -b.cs.length<k.length:=by simp at hj;omega
        obtain⟨u,u1,u2⟩:=hx4 _ h2
        refine⟨u, ?_,by rw[List.getElem_append_right (by omega)];exact u2⟩
        rw[Array.getElem?_append_left (by simp;omega),Array.getElem?_append_right (by simp;omega)]
        have:min (n*ei.size) cc.size=n*ei.size:=by omega
        simpa[this,hbl]using u1)
   exact Z7 (WG ho hrun) (hn _ _ _ _ _ (hval _ _ _ _ hge (by rw[hsz];exact Nat.le_refl _)) q1 q2 (hK _))
theorem JZ.append_in{P:Program}{o:Oper}{st:St}{K:AV→Jm→Prop}{t e:TypeId}{ti ei:TI}{s x:Operand}{id g off n m:Nat}{lim:Option Nat}{b:Zv}{k:List CV}
 (ho:o.op= .call ⟨.builtin .append,#[s,x],#[t,t]⟩) (ht:JV P t=some ti) (hk:ti.k= .slice e) (he:JV P e=some ei) (h0:0<ei.size)
 (hs:QY st.s s= .c (.own id g off n lim)) (hl:look st.h id g=some b) (hbs:b.sz=ei.size) (hfit:off+(n+m)*ei.size≤b.cs.length) (hlim:n+m≤lim.getD (n+m))
 (hx:elems st.h ei.size (QY st.s x)=some (m,k)) (hm:0<m)
 (hK:K (.c (.own id g off (n+m) lim)) (st.h.set id (some ⟨b.g,b.sz,Qk b.cs (off+n*ei.size) k⟩))):JZ P o st K:=by
 intro w X a R next Q hn
 obtain⟨inf,d,z',i1,i2,i3,i4,i5,i6,i7⟩:=Qi ht
 rw[i5]at hk;cases Zu hk
 obtain⟨hkl,xa,xc,xn,hxe,hx1,hx2,hx3,hx4,hx5⟩:=VR R.heap hx (J7 R x)
 obtain⟨xad,rfl,hxc⟩:=hx3 (by omega)
 have hsv:=J7 R s
 rw[hs]at hsv
 obtain⟨hgt,_,hall⟩:=Uy hsv
 obtain⟨c1,a0,cap,hse,c2,c3,c4,c5⟩:=hall b hl
 have hr:n+m≤cap:=by
  cases lim with
  |none=>
   simp only at c5
   have:(n+m)*ei.size≤cap*ei.size:=by rw[hbs]at c5;omega
   exact Nat.le_of_mul_le_mul_right this h0
  |some c=>simp only at c5;simp at hlim;omega
 have ha0:=c3 (by omega)
 subst ha0
 have hfit':off+n*ei.size+k.length≤b.cs.length:=by rw[hkl];rw[Nat.add_mul]at hfit;omega
 obtain⟨w',h4,h5,h6⟩:=Fd R.heap hl (o:=off+n*ei.size) (cs:=k) (vs:=xn) hx2 hfit' hx4 hx5
 have hf:=run_firstCells_some (P:=P) w ei.size m xad m xc xn (by rw[hx2,hkl]) hxc
 have hrun:(Builtin.append_ #[t,t] o.type #[a.eval s,a.eval x]).run P w= .ok (.slice (some ⟨X.mu g,off,none⟩) (n+m) cap) w':=by
  rw[hse,hxe]
  simp[Builtin.append_,run_underlying i2,Zc he,Builtin.lenOf,hr,hf,Us,h4]
 have hv:VC w' X (st.h.set id (some ⟨b.g,b.sz,Qk b.cs (off+n*ei.size) k⟩)) (.own id g off (n+m) lim) (.slice (some ⟨X.mu g,off,none⟩) (n+m) cap):=by
  refine⟨hgt,rfl,fun blk hblk=> ?_⟩
  obtain⟨hid,hgg⟩:=JG hl
  obtain⟨q1,q2⟩:=JG hblk
  have hlt:id<st.h.length:=(Jh.1 hid).1
  rw[JX hlt]at q1
  cases q1
  refine⟨by simp only[UB hfit',hbs];exact hfit,_,_,rfl,hr,fun _=>rfl,c4, ?_⟩
  cases lim with
  |none=>simpa[UB hfit']using c5
  |some c=>exact c5
 exact Z7 (WG ho hrun) (hn _ _ _ _ _ (.c _ _ hv) h5 h6 hK)
def Ji(P:Program)(f:FuncId):Prop:=∃fn,P.funcs[f]? =some fn∧(fn.name== "runtime.NumGoroutine")=false∧fn.body.isNone=false
theorem Bj{P:Program}{f:FuncId}(h:Ji P f)(args:Array Value)(w:World):(callFunc f args).run P w= .ok (.enter f args) w:=by
 obtain⟨fn,h1,h2,h3⟩:=h
 simp only[callFunc,Sem.run_bind,run_program,Result.andThen_ok,h1,h2,h3,Bool.false_eq_true,if_false,Sem.run_ite,Sem.run_pure]
theorem R5{P:Program}{o:Oper}{a:Act}{w:World}{f:FuncId}{args:Array Value}{next:Act→World→Prop}{Q:Exit→Act→World→Prop}(h:(execOp a.eval o).run P w= .ok (.enter f args) w)
 (hc:Calls P f args w fun e w'=>∃u,e= .returned u∧next (a.put o.dst u) w'):o.wp P a w next Q:=by
 unfold Oper.wp
 rw[h,Oper.upon_enter]
 refine hc.mono fun e w' ⟨u,he,hn⟩=> ?_
 subst he
 exact hn
def VX(H:Jm):AV→Option (FuncId×List AV)
 | .c (.fn f caps)=>if caps.all fun c=>(look H c.1 c.2).isSome then some (f,caps.map fun c=> .c (.ptr c.1 c.2 0))else none
 |_=>none
theorem JZ.call{P:Program}{o:Oper}{st:St}{K:AV→Jm→Prop}{fo:Operand}{xs:Array Operand}{ts:Array TypeId}{f:FuncId}{caps:List AV}
 (ho:o.op= .call ⟨.value fo,xs,ts⟩) (hf:VX st.h (QY st.s fo)=some (f,caps)) (he:Ji P f)
 (hc:Jn P f (xs.toList.map (QY st.s)++caps) st.h K):JZ P o st K:=by
 intro w X a R next Q hn
 have hfv:=J7 R fo
 unfold VX at hf
 split at hf
 · rename_i f' cs e
   split at hf
   · rename_i hall
     cases hf
     rw[e]at hfv
     obtain⟨q1,_,q2⟩:=Uy hfv
     have hfe:=q2 (fun c hc=>List.all_eq_true.1 hall c hc)
     let args:Array Value:=xs.map a.eval++(cs.map fun c=>Value.pointer (some ⟨X.mu c.2,0,none⟩)).toArray
     have hrun:(execOp a.eval o).run P w= .ok (.enter f args) w:=by
      simp only[execOp,ho,resolve,Sem.run_bind,hfe,Deferred.ofValue,Sem.run_pure,Result.andThen_ok,invoke]
      rw[Bj he]
      simp[args]
     refine R5 hrun ((hc w X args R.heap ⟨?_,fun i hi=> ?_⟩).mono fun e' w' ⟨v,u,X',H',h1,h2,h3,h4,h5⟩=>⟨u,h1,hn v u X' H' w' h2 h3 h4 h5⟩)
     · simp[args]
     · simp only[Jk,Qs,Array.length_toList]at hi
       by_cases hlt:i<xs.size
       · refine⟨a.eval xs[i], ?_, ?_⟩
         · simp only[args]
           rw[Array.getElem?_append_left (by simpa using hlt)]
           simp[hlt]
         · rw[List.getElem_append_left (by simpa using hlt)]
           simp only[List.getElem_map,Array.getElem_toList]
           exact J7 R _
       · have h2:i -xs.size<cs.length:=by omega
         refine⟨.pointer (some ⟨X.mu (cs[i -xs.size]).2,0,none⟩), ?_, ?_⟩
         · simp only[args]
           rw[Array.getElem?_append_right (by simp;omega)]
           simp[h2]
         · rw[List.getElem_append_right (by simp;omega)]
           simp only[List.getElem_map,Qs,Array.length_toList]
           exact .c _ _ ⟨q1 _ (List.getElem_mem h2),rfl,fun _=>rfl⟩
   · cases hf
 · cases hf
end Go.Lg
