/- LgH, LgI, LgJ, LgK, cut to what is needed. -/
import Derived.Test.YtidekghnkifbjaaGreatDoorJda1
open List renaming length_cons → Ja, getElem?_append_left → Jc, length_nil → Je, getElem?_eq_some_iff → Jh, getElem?_eq_getElem → Jl, length_append → Jq, getElem?_eq_none → Ju, getElem?_take_of_lt → Jz, getElem?_set_self → JE, getElem?_append_right → JV, append_assoc → JW, mem_map → Qg, map_cons → Qh, length_map → Qi, getElem?_map → Qk, map_nil → ZJ
open Nat renaming reduceAdd→zA,reduceMul→zM,reduceSub→zS,reduceEqDiff→zE,reduceLeDiff→zL
set_option linter.unusedSimpArgs false
set_option linter.unusedVariables false
namespace Go.Lg
def JU(P:Program)(o:Oper)(st:St)(K:AV→Jn→Prop):Prop:=
 ∀w X a,Xk w X a st→∀(next:Act→World→Prop) (Q:Exit→Act→World→Prop),
  (∀v u X' H' w',VA w' X' H' v u→ZA w' X' H'→Ev w X st.h w' X' H'→K v H'→next (a.put o.dst u) w')→o.wp P a w next Q
theorem JU.val{P:Program}{o:Oper}{st:St}{K:AV→Jn→Prop}{v:AV}(h:XF P st.s st.h o.op=some v)(hk:K v st.h):JU P o st K:=by
 intro w X a R next Q hn
 obtain⟨u,h1,h2⟩:=Wd (P:=P) R h
 unfold Oper.wp
 rw[h1 w (ZV.refl w) o rfl,Oper.upon_value]
 exact hn v u X st.h w h2 R.heap (Ev.refl _ _ _) hk
def WP:AV→Option (List CV)
 | .c c=>some [c]
 | .agg cs=>some cs
 |_=>none
theorem XD{w:World}{X:Cx}{H:Jn}{v:AV}{u:Value}{l:List CV}(h:WP v=some l)(hv:VA w X H v u):
 u.cells.size=l.length∧(∀j (h:j<l.length),∃x,u.cells[j]? =some x∧VC w X H l[j] x)∧∀x∈u.cells.toList,x.oneCell'=true:=by
 cases hv with
 |c x u hx=>
  cases h
  have h1:=hx.one
  have hu:u.cells= #[u]:=by cases u<;>first|rfl|(simp[Value.oneCell']at h1)
  rw[hu]
  refine⟨rfl,fun j hj=> ?_,fun x hx=>by simp at hx;subst hx;exact h1⟩
  have:j=0:=by simp at hj;omega
  subst this
  exact⟨u,rfl,hx⟩
 |agg cs vs hs hc=>
  cases h
  refine⟨hs,hc,fun x hx=> ?_⟩
  obtain⟨j,hj,rfl⟩:=List.mem_iff_getElem.1 hx
  simp only[Value.cells,Array.length_toList]at hj
  obtain⟨y,h1,h2⟩:=hc j (by omega)
  have:(vs.toList[j]'(by simpa using hj))=y:=by
   simp only[Array.getElem_toList]
   simpa[hj]using h1
  simp only[Value.cells]
  rw[this]
  exact h2.one
 |_=>cases h
theorem V9{P:Program}{t:TypeId}{ti:TI}(h:JP P t=some ti):∃z,(∀w,(zeroValue t).run P w= .ok z w)∧z.cells.size=ti.zero.length∧
 ∀(w:World) (X:Cx) (H:Jn) j (h:j<ti.zero.length),∃x,z.cells[j]? =some x∧VC w X H ti.zero[j] x:=by
 obtain⟨i,d,z,hi,hd,hz,hm,h1,h2,h3⟩:=Qd h
 obtain⟨hl,hg⟩:=Z4 hm
 refine⟨z,fun w=>by simp[zeroValue,typeInfo,hi,hz],by simpa using hl.symm,fun w X H j hj=> ?_⟩
 obtain⟨y,h4,h5⟩:=hg j (by omega)
 have:ti.zero[j]=y:=by simpa[Jl hj]using h4
 rw[this]
 exact⟨z.cells.toList[j]'(by omega),by simp at hl;simp[←hl,hj],Rp h5⟩
theorem ZW{P:Program}{o:Oper}{a:Act}{w w':World}{u:Value}{next:Act→World→Prop}{Q:Exit→Act→World→Prop}(h:(execOp a.eval o).run P w= .ok (.value u) w')(hn:next (a.put o.dst u) w'):o.wp P a w next Q:=by
 unfold Oper.wp;rw[h,Oper.upon_value];exact hn
theorem Jhb{P:Program}{o:Oper}{a:Act}{w w':World}{next:Act→World→Prop}{Q:Exit→Act→World→Prop}(h:(execOp a.eval o).run P w= .ok .skip w')(hn:next (a.put o.dst undef) w'):o.wp P a w next Q:=by
 unfold Oper.wp;rw[h,Oper.upon_skip];exact hn
theorem Je1{w w':World}{X:Cx}{H:Jn}{sz c:Nat}{cs:List CV}:VA w' (X.new w.heap.size c) (H++[some ⟨X.t,sz,cs⟩]) (.c (.ptr H.length X.t 0)) (.pointer (some ⟨w.heap.size,0,none⟩)):=
 .c _ _ ⟨Nat.lt_succ_self _,rfl,fun _=>by simp[Cx.new]⟩
theorem JU.alloc{P:Program}{o:Oper}{st:St}{K:AV→Jn→Prop}{t:TypeId}{ti:TI}(ho:o.op= .alloc t)(ht:JP P t=some ti)
 (hk:∀g,K (.c (.ptr st.h.length g 0)) (st.h++[some ⟨g,ti.size,ti.zero⟩])):JU P o st K:=by
 intro w X a R next Q hn
 obtain⟨z,hz,hzs,hzc⟩:=V9 ht
 have hrun:(execOp a.eval o).run P w= .ok (.value (.pointer (some ⟨w.heap.size,0,none⟩))) (w.alloc (.cells z.cells t)):=by
  simp only[execOp,ho,Instr.alloc,Sem.run_bind,hz,Result.andThen_ok]
  simp[newVar,newRow]
 obtain⟨h1,h2⟩:=WY (w':=w.alloc (.cells z.cells t)) R.heap (sz:=ti.size) (t:=t) (cs:=ti.zero) (cc:=z.cells) rfl rfl rfl rfl (by omega) (fun j hj=>hzc w X st.h j hj)
 exact ZW hrun (hn _ _ _ _ _ Je1 h1 h2 (hk _))
theorem JU.box{P:Program}{o:Oper}{st:St}{K:AV→Jn→Prop}{t:TypeId}{x:Operand}{cs:List CV}(ho:o.op= .box t x)(hx:WP (QO st.s x)=some cs)
 (hk:∀g,K (.c (.ptr st.h.length g 0)) (st.h++[some ⟨g,1,cs⟩])):JU P o st K:=by
 intro w X a R next Q hn
 obtain⟨h1,h2,h3⟩:=XD hx (J4 R x)
 have hrun:(execOp a.eval o).run P w= .ok (.value (.pointer (some ⟨w.heap.size,0,none⟩))) (w.alloc (.cells (a.eval x).cells t)):=by
  simp[execOp,ho,Instr.box,newVar,newRow]
 obtain⟨h4,h5⟩:=WY (w':=w.alloc (.cells (a.eval x).cells t)) R.heap (sz:=1) (t:=t) (cs:=cs) (cc:=(a.eval x).cells) rfl rfl rfl rfl (by omega) h2
 exact ZW hrun (hn _ _ _ _ _ Je1 h4 h5 (hk _))
def J6(l:List CV)(o:Nat)(m:List CV):List CV:=l.take o++m++l.drop (o+m.length)
theorem Uk{l m:List CV}{o:Nat}(h:o+m.length≤l.length):(J6 l o m).length=l.length:=by
 simp[J6];omega
theorem RG{l m:List CV}{o:Nat}(h:o+m.length≤l.length)(j:Nat)(hj:j<(J6 l o m).length):
 (j<o∧∃h:j<l.length,(J6 l o m)[j]=l[j])∨(∃h:j -o<m.length,o≤j∧(J6 l o m)[j]=m[j -o])∨(o+m.length≤j∧∃h:j<l.length,(J6 l o m)[j]=l[j]):=by
 have hl:=Uk h
 by_cases h1:j<o
 · refine .inl ⟨h1,by omega, ?_⟩
   simp only[J6,JW]
   rw[List.getElem_append_left (by simp;omega)]
   simp
 · by_cases h2:j<o+m.length
   · refine .inr (.inl ⟨by omega,by omega, ?_⟩)
     simp only[J6,JW]
     rw[List.getElem_append_right (by simp;omega)]
     rw[List.getElem_append_left (by simp;omega)]
     congr 1
     simp;omega
   · refine .inr (.inr ⟨by omega,by omega, ?_⟩)
     simp only[J6]
     rw[List.getElem_append_right (by simp;omega)]
     simp only[List.getElem_drop]
     congr 1
     simp;omega
theorem Gm{l:Array Value}{m:List Value}{o j:Nat}(h:o+m.length≤l.size):
 (l.toList.take o++m++l.toList.drop (o+m.length)).toArray[j]? =if o≤j∧j<o+m.length then m[j -o]? else l[j]? :=by
 simp only[List.getElem?_toArray]
 split
 · rename_i hc
   rw[JW,JV (by simp;omega),Jc (by simp;omega)]
   congr 1
   simp;omega
 · rename_i hc
   by_cases h1:j<o
   · rw[JW,Jc (by simp;omega)]
     rw[Jz h1]
     simp
   · rw[JV (by simp;omega),List.getElem?_drop]
     have:o+m.length+(j -(List.take o l.toList++m).length)=j:=by simp;omega
     rw[this]
     simp
theorem RE(w:World)(g:Nat)(cur cs:Array Value)(t:TypeId)(fr:Nat×Nat)(hg:w.heap[g]? =some (.cells cur t fr)):
 (w.setRow g cs).heap[g]? =some (.cells cs t fr)∧(∀k,k≠g→(w.setRow g cs).heap[k]? =w.heap[k]?)∧(w.setRow g cs).heap.size=w.heap.size:=by
 refine⟨?_,fun k hk=> ?_,by simp[World.setRow]⟩
 · simp[World.setRow,Array.getElem?_modify,hg]
 · simp only[World.setRow,Array.getElem?_modify]
   rw[if_neg (fun h=>hk h.symm)]
theorem BF{w:World}{X:Cx}{H:Jn}(R:ZA w X H){id g:Nat}{b:Zo}(hl:look H id g=some b){o:Nat}{cs:List CV}{vs:List Value}(hvl:vs.length=cs.length)(ho:o+cs.length≤b.cs.length)
 (hv:∀j (h:j<cs.length),∃x,vs[j]? =some x∧VC w X H cs[j] x) (h1:∀x∈vs,x.oneCell'=true):
 ∃w',(∀P,(storeCells ⟨X.mu g,o,none⟩ vs).run P w= .ok () w')∧ZA w' X (H.set id (some ⟨b.g,b.sz,J6 b.cs o cs⟩))∧Ev w X H w' X (H.set id (some ⟨b.g,b.sz,J6 b.cs o cs⟩)):=by
 obtain⟨hid,hgg⟩:=JH hl
 subst hgg
 obtain⟨g1,g2,cc,t,g3,g4,g5,g6⟩:=R.blk id b hid
 have hle:o+vs.length≤cc.size:=by omega
 obtain⟨k1,k2,k3⟩:=RE w (X.mu b.g) cc (cc.toList.take o++vs++cc.toList.drop (o+vs.length)).toArray t (0,0) g3
 refine⟨_,fun P=> ?_,JfD R hid k1 k2 k3 rfl rfl rfl (by simp;omega) (Uk ho) fun j hj=> ?_⟩
 · have:=run_storeCells_at (P:=P) (X.mu b.g) o t vs 0 cc w g3 (by simpa using hle) h1
   simpa using this
 · rw[Gm hle]
   rcases RG ho j hj with⟨h2,h3,h4⟩|⟨h2,h3,h4⟩|⟨h2,h3,h4⟩
   · rw[if_neg (by omega),h4];exact g6 j h3
   · rw[if_pos (by omega),h4];exact hv _ h2
   · rw[if_neg (by omega),h4];exact g6 j h3
theorem JU.store{P:Program}{o:Oper}{st:St}{K:AV→Jn→Prop}{t:TypeId}{ti:TI}{p x:Operand}{id g off:Nat}{b:Zo}{cs:List CV}(ho:o.op= .store t p x)(ht:JP P t=some ti)
 (hp:QO st.s p= .c (.ptr id g off)) (hl:look st.h id g=some b) (hx:WP (QO st.s x)=some cs) (hs:cs.length=ti.size) (hle:off+cs.length≤b.cs.length)
 (hk:K .void (st.h.set id (some ⟨b.g,b.sz,J6 b.cs off cs⟩))):JU P o st K:=by
 intro w X a R next Q hn
 obtain⟨h1,h2,h3⟩:=XD hx (J4 R x)
 have hpv:=J4 R p
 rw[hp]at hpv
 have hpe:=(Ui hpv).2.2 (by rw[hl];rfl)
 obtain⟨w',h4,h5,h6⟩:=BF R.heap hl (o:=off) (cs:=cs) (vs:=(a.eval x).cells.toList) (by simpa using h1) hle (fun j hj=>by obtain⟨y,h7,h8⟩:=h2 j hj;exact⟨y,by simpa using h7,h8⟩) h3
 have hrun:(execOp a.eval o).run P w= .ok .skip w':=by
  have hsz:¬((a.eval x).cells.size≠ti.size):=by omega
  simp only[execOp,ho,Instr.storeAt,hpe,Instr.sureAddr,Sem.run_bind,Sem.run_pure,Result.andThen_ok,storeVar,QZ ht,Sem.run_ite,if_neg hsz,h4]
 exact Jhb hrun (hn .void undef _ _ _ .void h5 h6 hk)
end Go.Lg

namespace Go.Lg
theorem KX(off:Nat):∀(vs:List Value) (k:Nat) (cells:Array Value),off+k+vs.length≤cells.size→
 ((vs.zipIdx k).foldl (fun cs (x:Value×Nat)=>cs.setIfInBounds (off+x.2) x.1) cells).size=cells.size∧
 ∀j,((vs.zipIdx k).foldl (fun cs (x:Value×Nat)=>cs.setIfInBounds (off+x.2) x.1) cells)[j]? =if off+k≤j∧j<off+k+vs.length then vs[j -(off+k)]? else cells[j]?
 |[],k,cells,_=>⟨rfl,fun j=>by rw[if_neg (by simp only[Je];omega)];rfl⟩
 |v::vs,k,cells,h=>by
  simp only[Ja]at h
  obtain⟨h1,h2⟩:=KX off vs (k+1) (cells.setIfInBounds (off+k) v) (by simp only[Array.size_setIfInBounds];omega)
  simp only[List.zipIdx_cons,List.foldl_cons]
  refine⟨by rw[h1];simp,fun j=> ?_⟩
  rw[h2]
  simp only[Ja]
  by_cases hj:j=off+k
  · subst hj
    rw[if_neg (by omega),if_pos (by omega),Array.getElem?_setIfInBounds_self_of_lt (by omega)]
    simp
  · rw[Array.getElem?_setIfInBounds_ne (by omega)]
    by_cases hc:off+(k+1)≤j∧j<off+(k+1)+vs.length
    · rw[if_pos hc,if_pos (by omega)]
      have:j -(off+k)=(j -(off+(k+1)))+1:=by omega
      rw[this]
      simp
    · rw[if_neg hc,if_neg (by omega)]
def WF(place:Nat→Option (Nat×Nat)):List CV→List (Nat×List CV)→Option (List CV)
 |l,[]=>some l
 |l,(i,cs)::rest=>match place i with
  |none=>none
  |some (off,size)=>if cs.length=size∧off+size≤l.length then WF place (J6 l off cs) rest else none
def Vc(s:List AV):List (Nat×Operand)→Option (List (Nat×List CV))
 |[]=>some []
 |(i,x)::rest=>match WP (QO s x),Vc s rest with
  |some cs,some r=>some ((i,cs)::r)
  |_,_=>none
theorem Yp{w:World}{X:Cx}{a:Act}{st:St}(R:Xk w X a st){place:Nat→Option (Nat×Nat)}:∀(ps:List (Nat×Operand)) (l:List CV) (cells:Array Value) (rs:List (Nat×List CV)) (r:List CV),
 Vc st.s ps=some rs→WF place l rs=some r→cells.size=l.length→(∀j (h:j<l.length),∃x,cells[j]? =some x∧VC w X st.h l[j] x)→
 ∃out,Instr.fill place cells (ps.map fun p=>(p.1,a.eval p.2))=some out∧out.size=r.length∧∀j (h:j<r.length),∃x,out[j]? =some x∧VC w X st.h r[j] x
 |[],l,cells,rs,r,h1,h2,h3,h4=>by
  cases h1
  cases h2
  exact⟨cells,rfl,h3,h4⟩
 |(i,x)::ps,l,cells,rs,r,h1,h2,h3,h4=>by
  unfold Vc at h1
  split at h1
  · rename_i cs r' e1 e2
    cases h1
    unfold WF at h2
    split at h2
    · cases h2
    · rename_i off size hp
      split at h2
      · rename_i hc
        obtain⟨hc1,hc2⟩:=hc
        obtain⟨k1,k2,k3⟩:=XD e1 (J4 R x)
        obtain⟨q1,q2⟩:=KX off (a.eval x).cells.toList 0 cells (by simp;omega)
        have hle:off+cs.length≤l.length:=by omega
        obtain⟨out,o1,o2,o3⟩:=Yp R ps (J6 l off cs) (((a.eval x).cells.toList.zipIdx 0).foldl (fun cs (x:Value×Nat)=>cs.setIfInBounds (off+x.2) x.1) cells) r' r e2 h2 (by rw[q1,Uk hle];exact h3) (fun j hj=>by
         rw[q2]
         rcases RG hle j hj with⟨p1,p2,p3⟩|⟨p1,p2,p3⟩|⟨p1,p2,p3⟩
         · rw[if_neg (by omega),p3];exact h4 j p2
         · rw[if_pos (by simp;omega),p3]
           obtain⟨y,y1,y2⟩:=k2 _ p1
           exact⟨y,by simpa using y1,y2⟩
         · rw[if_neg (by simp;omega),p3];exact h4 j p2)
        refine⟨out, ?_,o2,o3⟩
        simp only[Qh,Instr.fill,hp]
        rw[if_neg (by simp;omega)]
        rw[←o1]
        congr 1
        rw[←Array.foldl_toList,Array.toList_zipIdx]
      · cases h2
  · cases h1
def QL(n:Nat)(z:List CV):List CV:=(List.range n).map fun j=>z.getD (j%z.length) (.f .nil)
theorem X8{w:World}{X:Cx}{H:Jn}{z:Array Value}{zs:List CV}(hl:z.size=zs.length)(hz:∀j (h:j<zs.length),∃x,z[j]? =some x∧VC w X H zs[j] x)(n:Nat)(hn:n≠0→zs.length≠0):
 ((Array.range n).map (z[· %z.size]!)).size=(QL n zs).length∧∀j (h:j<(QL n zs).length),∃x,((Array.range n).map (z[· %z.size]!))[j]? =some x∧VC w X H (QL n zs)[j] x:=by
 refine⟨by simp[QL],fun j hj=> ?_⟩
 simp only[QL,Qi,List.length_range]at hj
 have h0:=hn (by omega)
 have hlt:j%zs.length<zs.length:=Nat.mod_lt _ (by omega)
 obtain⟨x,h1,h2⟩:=hz _ hlt
 refine⟨x, ?_, ?_⟩
 · simp only[Array.getElem?_map]
   rw[Array.getElem?_range]
   simp only[hj,if_true,Option.map_some,hl]
   rw[Array.getElem!_eq_getD,Array.getD_eq_getD_getElem?,h1]
   rfl
 · simp only[QL,List.getElem_map,List.getElem_range,List.getD,Jl hlt,Option.getD_some]
   exact h2
theorem Jbh{w w':World}{X:Cx}{H:Jn}{sz c n cap:Nat}{cs:List CV}(h1:n*sz≤cs.length)(h2:n≤cap)(h3:cap*sz≤c)(h4:cs.length≤cap*sz):
 VA w' (X.new w.heap.size c) (H++[some ⟨X.t,sz,cs⟩]) (.c (.own H.length X.t 0 n none)) (.slice (some ⟨w.heap.size,0,none⟩) n cap):=by
 refine .c _ _ ⟨Nat.lt_succ_self _,rfl,fun blk hblk=> ?_⟩
 obtain⟨h5,h6⟩:=JH hblk
 simp at h5
 subst h5
 exact⟨by simpa using h1,_,_,rfl,h2,fun _=>by simp[Cx.new],by simpa[Cx.new]using h3,by simpa using h4⟩
theorem JU.buildSlice{P:Program}{o:Oper}{st:St}{K:AV→Jn→Prop}{t e:TypeId}{ti ei:TI}{n:Nat}{parts:Array (Nat×Operand)}{rs:List (Nat×List CV)}{cs:List CV}
 (ho:o.op= .buildSlice t n parts) (ht:JP P t=some ti) (hk:ti.k= .slice e) (he:JP P e=some ei) (hz:ei.zero.length=ei.size) (hp:Vc st.s parts.toList=some rs)
 (hf:WF (fun i=>some (i*ei.size,ei.size)) (QL (n*ei.size) ei.zero) rs=some cs) (h24:n*ei.size≤16777216)
 (hK:∀g,K (.c (.own st.h.length g 0 n none)) (st.h++[some ⟨g,ei.size,cs⟩])):JU P o st K:=by
 intro w X a R next Q hn
 obtain⟨inf,d,z',h1,h2,h3,h4,h5,h6,h7⟩:=Qd ht
 rw[h5]at hk;cases Zj hk
 obtain⟨z,hz1,hz2,hz3⟩:=V9 he
 have hz0:n*ei.size≠0→ei.zero.length≠0:=fun h=>by rw[hz];intro h0;rw[h0]at h;exact h (Nat.mul_zero _)
 obtain⟨q1,q2⟩:=X8 (w:=w) (X:=X) (H:=st.h) hz2 (hz3 w X st.h) (n*ei.size) hz0
 obtain⟨out,o1,o2,o3⟩:=Yp R parts.toList (QL (n*ei.size) ei.zero) ((Array.range (n*ei.size)).map (z.cells[· %z.cells.size]!)) rs cs hp hf q1 q2
 have hlen:cs.length=n*ei.size:=by
  have:∀(rs:List (Nat×List CV)) (l r:List CV),WF (fun i=>some (i*ei.size,ei.size)) l rs=some r→r.length=l.length:=by
   intro rs
   induction rs with
   |nil=>intro l r h;cases h;rfl
   |cons p rs ih=>
    intro l r h
    obtain⟨i,c⟩:=p
    simp only[WF]at h
    split at h
    · rename_i hc
      rw[ih _ _ h,Uk (by omega)]
    · cases h
  rw[this _ _ _ hf];simp[QL]
 have hrun:(execOp a.eval o).run P w= .ok (.value (.slice (some ⟨w.heap.size,0,none⟩) n n)) (w.alloc (.cells out e)):=by
  have h24':¬(n*ei.size>2^24):=by simpa using h24
  have hparts:(parts.map fun p=>(p.1,a.eval p.2)).toList=parts.toList.map fun p=>(p.1,a.eval p.2):=by simp
  simp only[execOp,ho,Instr.buildSlice,Sem.run_bind,run_underlying h2,Result.andThen_ok,QZ he,Sem.run_ite,if_neg h24',Sem.run_pure]
  by_cases h0:n*ei.size=0
  · simp only[h0,if_true,Result.andThen_ok]at o1⊢
    have e0:(Array.range 0).map ((#[]:Array Value)[· %(#[]:Array Value).size]!)=(Array.range 0).map (z.cells[· %z.cells.size]!):=by simp
    rw[e0,hparts,o1]
    simp[newRow]
  · simp only[if_neg h0,hz1,Result.andThen_ok,Sem.run_bind,Sem.run_pure]
    rw[hparts,o1]
    simp[newRow]
 obtain⟨k1,k2⟩:=WY (w':=w.alloc (.cells out e)) R.heap (sz:=ei.size) (t:=e) (cs:=cs) (cc:=out) rfl rfl rfl rfl (by omega) o3
 exact ZW hrun (hn _ _ _ _ _ (Jbh (by omega) (Nat.le_refl _) (by omega) (by omega)) k1 k2 (hK _))
theorem JU.makeSlice{P:Program}{o:Oper}{st:St}{K:AV→Jn→Prop}{t e:TypeId}{ti ei:TI}{x y:Operand}{k k':IntKind}{l c:Int}
 (ho:o.op= .makeSlice t x y) (ht:JP P t=some ti) (hk:ti.k= .slice e) (he:JP P e=some ei) (hz:ei.zero.length=ei.size)
 (hx:QO st.s x= .c (.f (.int k l))) (hy:QO st.s y= .c (.f (.int k' c))) (h0:0≤l) (h1:l≤c) (h63:c≤9223372036854775807) (h48:ei.bytes*c≤281474976710656)
 (hK:∀g,K (.c (.own st.h.length g 0 l.toNat none)) (st.h++[some ⟨g,ei.size,QL (l.toNat*ei.size) ei.zero⟩])):JU P o st K:=by
 intro w X a R next Q hn
 obtain⟨inf,d,z',i1,i2,i3,i4,i5,i6,i7⟩:=Qd ht
 rw[i5]at hk;cases Zj hk
 obtain⟨infe,de,ze',e1,e2,e3,e4,e5,e6,e7⟩:=Qd he
 obtain⟨z,hz1,hz2,hz3⟩:=V9 he
 have hxv:=J4 R x
 have hyv:=J4 R y
 rw[hx]at hxv;rw[hy]at hyv
 have hz0:c.toNat*ei.size≠0→ei.zero.length≠0:=fun h=>by rw[hz];intro h0;rw[h0]at h;exact h (Nat.mul_zero _)
 obtain⟨q1,q2⟩:=X8 (w:=w) (X:=X) (H:=st.h) hz2 (hz3 w X st.h) (c.toNat*ei.size) hz0
 have hw1:IntKind.i64.wrap l=l:=by
  simp only[IntKind.wrap,IntKind.bits,IntKind.signed]
  have:l%2^64=l:=Int.emod_eq_of_lt h0 (by omega)
  simp[this];omega
 have hw2:IntKind.i64.wrap c=c:=by
  simp only[IntKind.wrap,IntKind.bits,IntKind.signed]
  have:c%2^64=c:=Int.emod_eq_of_lt (by omega) (by omega)
  simp[this];omega
 let out:=(Array.range (c.toNat*ei.size)).map (z.cells[· %z.cells.size]!)
 have hrun:(execOp a.eval o).run P w= .ok (.value (.slice (some ⟨w.heap.size,0,none⟩) l.toNat c.toNat)) (w.alloc (.cells out e)):=by
  have n1:¬((c<0∨(281474976710656:Int)<infe.bytes*c)∨l<0∨c<l):=by rw[←e7];omega
  have hti:(typeInfo e).run P w= .ok infe w:=by simp[typeInfo,e1]
  simp only[execOp,ho,Instr.makeSlice,Sem.run_bind,run_underlying i2,Result.andThen_ok,Vn hxv,Vn hyv,asInt,asIntOf,Sem.run_pure,hti,hw1,hw2]
  rw[if_neg (show¬((decide (c<0)||decide ((infe.bytes:Int)*c>2^48)||decide (l<0)||decide (l>c))=true) by simp;omega)]
  by_cases hn0:c.toNat*ei.size=0
  · simp only[Sem.run_bind,run_askRoom,Result.andThen_ok,QZ he,hn0,if_true,Sem.run_pure]
    have r0:Array.range 0= #[]:=by simp
    simp only[r0,Array.map_empty,newRow,out,hn0]
    simp
  · simp only[Sem.run_bind,run_askRoom,Result.andThen_ok,QZ he,if_neg hn0,Sem.run_pure,hz1]
    simp[newRow,out]
 have hle:l.toNat*ei.size≤c.toNat*ei.size:=Nat.mul_le_mul_right _ (by omega)
 have hzl:(QL (l.toNat*ei.size) ei.zero).length=l.toNat*ei.size:=by simp[QL]
 have hol:out.size=c.toNat*ei.size:=by simp[out]
 obtain⟨k1,k2⟩:=WY (w':=w.alloc (.cells out e)) R.heap (sz:=ei.size) (t:=e) (cs:=QL (l.toNat*ei.size) ei.zero) (cc:=out) rfl rfl rfl rfl (by omega) (fun j hj=>by
  obtain⟨u,u1,u2⟩:=q2 j (by simp[QL]at hj⊢;omega)
  refine⟨u,u1, ?_⟩
  simp only[QL,List.getElem_map,List.getElem_range]at u2⊢
  exact u2)
 exact ZW hrun (hn _ _ _ _ _ (Jbh (by omega) (by omega) (by omega) (by omega)) k1 k2 (hK _))
end Go.Lg

namespace Go.Lg
def elems(H:Jn)(sz:Nat):AV→Option (Nat×List CV)
 | .c (.f .nil)=>some (0,[])
 | .c .emp=>some (0,[])
 | .c (.f (.sl n cs))=>if cs.length=n*sz then some (n,cs.map .f)else none
 | .c (.own id g off n _)=>match look H id g with
   |some b=>if b.sz=sz then some (n,(b.cs.drop off).take (n*sz))else none
   |none=>none
 |_=>none
theorem VK{w:World}{X:Cx}{H:Jn}(R:ZA w X H){sz n:Nat}{x:AV}{l:List CV}{xv:Value}(h:elems H sz x=some (n,l))(hx:VA w X H x xv):
 l.length=n*sz∧∃(a:Option Addr) (c:Nat) (news:List Value),xv= .slice a n c∧n≤c∧news.length=l.length∧
  (n≠0→∃ad,a=some ad∧∀j v,news[j]? =some v→w.cell? (ad.add j)=some v)∧
  (∀j (h:j<l.length),∃u,news[j]? =some u∧VC w X H l[j] u)∧∀u∈news,u.oneCell'=true:=by
 unfold elems at h
 split at h
 · cases h
   have:=Ui hx;cases this
   exact⟨by simp,none,0,[],rfl,Nat.le_refl _,rfl,fun h=>absurd rfl h,fun j hj=>absurd hj (by simp),by simp⟩
 · cases h
   obtain⟨a,rfl⟩:=Ui hx
   exact⟨by simp,a,0,[],rfl,Nat.le_refl _,rfl,fun h=>absurd rfl h,fun j hj=>absurd hj (by simp),by simp⟩
 · rename_i n' cs
   split at h
   · rename_i hl
     cases h
     have hx':=Ui hx
     cases hx' with
     |sl0 a cap=>exact⟨by simp,a,cap,[],rfl,Nat.zero_le _,rfl,fun h=>absurd rfl h,fun j hj=>absurd hj (by simp),by simp⟩
     |sl n cs b o cap u hc hI hu hv=>
      refine⟨by simpa using hl,some ⟨b,o,none⟩,cap,(List.range cs.length).map u,rfl,hc,by simp,fun _=>⟨_,rfl,fun j v hj=> ?_⟩,fun j hj=> ?_,fun v hv'=> ?_⟩
      · simp only[Qk]at hj
        by_cases hlt:j<cs.length
        · simp[hlt]at hj
          rw[Z1,hu j hlt,hj]
        · simp[hlt]at hj
      · have hlt:j<cs.length:=by simpa using hj
        refine⟨u j,by simp[hlt], ?_⟩
        simp only[List.getElem_map]
        exact hv j hlt
      · obtain⟨j,hj,rfl⟩:=Qg.1 hv'
        exact(hv j (by simpa using hj)).one
   · cases h
 · rename_i id g off n' lim
   split at h
   · rename_i b hl
     split at h
     · rename_i hsz
       cases h
       obtain⟨hg,_,hall⟩:=Ui hx
       obtain⟨c1,a0,cap,rfl,c2,c3,c4,c5⟩:=hall b hl
       obtain⟨hid,hgg⟩:=JH hl
       subst hgg
       obtain⟨_,_,cc,t,g3,g4,g5,g6⟩:=R.blk id b hid
       subst hsz
       have hlen:((b.cs.drop off).take (n*b.sz)).length=n*b.sz:=by simp;omega
       have hget:∀j,j<n*b.sz→((cc.toList.drop off).take (n*b.sz))[j]? =cc[off+j]? :=fun j hj=>by
        rw[Jz hj,List.getElem?_drop];simp
       refine⟨hlen,some a0,cap,(cc.toList.drop off).take (n*b.sz),rfl,c2,by rw[hlen];simp;omega,fun h0=>⟨a0,rfl,fun j v hj=> ?_⟩,fun j hj=> ?_,fun v hv'=> ?_⟩
       · have hjl:j<n*b.sz:=by
          rcases Nat.lt_or_ge j (n*b.sz)with h|h
          · exact h
          · rw[Ju (by simp;omega)]at hj;cases hj
         rw[hget j hjl]at hj
         rw[c3 (by omega),Z1]
         simp[World.cell?,g3,hj]
       · rw[hlen]at hj
         obtain⟨u,h7,h8⟩:=g6 (off+j) (by omega)
         refine⟨u,by rw[hget j hj];exact h7, ?_⟩
         simp only[List.getElem_take,List.getElem_drop]
         exact h8
       · obtain⟨j,hj,he⟩:=List.mem_iff_getElem.1 hv'
         have hjl:j<n*b.sz:=by simp at hj;omega
         obtain⟨u,h7,h8⟩:=g6 (off+j) (by omega)
         have:v=u:=by
          have:=hget j hjl
          rw[Jl hj,he,h7]at this
          exact Option.some.inj this
         rw[this]
         exact h8.one
     · cases h
   · cases h
 · cases h
theorem FI{P:Program}(w:World){t ty e:TypeId}{ei:TI}{base a:Option Addr}{n cap c:Nat}(hu:P.underlying t=some (.slice e))(he:JP P e=some ei)(h:n≤cap):
 (Builtin.append_ #[t,t] ty #[.slice base n cap, .slice a 0 c]).run P w= .ok (.slice base n cap) w:=by
 have hf:(Builtin.firstCells ei.size 0 (.slice a 0 c)).run P w= .ok #[] w:=by
  cases a<;>simp[Builtin.firstCells,loadCells,loadCellsFrom]
 cases base<;>simp[Builtin.append_,run_underlying hu,QZ he,Builtin.lenOf,h,hf,storeCells]
theorem Ww{P:Program}{o:Oper}{a:Act}{w w':World}{t:TypeId}{s x:Operand}{u:Value}(ho:o.op= .call ⟨.builtin .append,#[s,x],#[t,t]⟩)
 (h:(Builtin.append_ #[t,t] o.type #[a.eval s,a.eval x]).run P w= .ok u w'):(execOp a.eval o).run P w= .ok (.value u) w':=by
 simp only[execOp,ho,resolve,Sem.run_bind,Sem.run_pure,Result.andThen_ok,invoke,builtin,List.map_toArray,Qh,ZJ]
 rw[h]
 rfl
theorem JU.append_zero{P:Program}{o:Oper}{st:St}{K:AV→Jn→Prop}{t e:TypeId}{ti ei:TI}{s x:Operand}{n:Nat}{l:List CV}
 (ho:o.op= .call ⟨.builtin .append,#[s,x],#[t,t]⟩) (ht:JP P t=some ti) (hk:ti.k= .slice e) (he:JP P e=some ei)
 (hs:elems st.h ei.size (QO st.s s)=some (n,l)) (hx:elems st.h ei.size (QO st.s x)=some (0,[])) (hK:K (QO st.s s) st.h):JU P o st K:=by
 intro w X a R next Q hn
 obtain⟨inf,d,z',i1,i2,i3,i4,i5,i6,i7⟩:=Qd ht
 rw[i5]at hk;cases Zj hk
 obtain⟨_,ba,bc,bn,hb,hb1,_⟩:=VK R.heap hs (J4 R s)
 obtain⟨_,xa,xc,xn,hxe,_⟩:=VK R.heap hx (J4 R x)
 have hrun:=Ww ho (w:=w) (w':=w) (u:=a.eval s) (by rw[hb,hxe];exact FI w i2 he hb1)
 exact ZW hrun (hn _ _ _ _ _ (J4 R s) R.heap (Ev.refl _ _ _) hK)
def GF(n m:Nat):AV→Bool
 | .c (.f .nil)=>true
 | .c .emp=>true
 | .c (.own _ _ _ _ (some c))=>c<n+m
 |_=>false
theorem JU.append_new{P:Program}{o:Oper}{st:St}{K:AV→Jn→Prop}{t e:TypeId}{ti ei:TI}{s x:Operand}{n m:Nat}{l k:List CV}
 (ho:o.op= .call ⟨.builtin .append,#[s,x],#[t,t]⟩) (ht:JP P t=some ti) (hk:ti.k= .slice e) (he:JP P e=some ei) (hz:ei.zero.length=ei.size)
 (hs:elems st.h ei.size (QO st.s s)=some (n,l)) (hx:elems st.h ei.size (QO st.s x)=some (m,k)) (hno:GF n m (QO st.s s)=true) (hm:0<m)
 (h63:n+m≤9223372036854775807) (h47:(n+m)*ei.bytes≤140737488355328)
 (hK:∀g,K (.c (.own st.h.length g 0 (n+m) none)) (st.h++[some ⟨g,ei.size,l++k⟩])):JU P o st K:=by
 intro w X a R next Q hn
 obtain⟨inf,d,z',i1,i2,i3,i4,i5,i6,i7⟩:=Qd ht
 rw[i5]at hk;cases Zj hk
 obtain⟨infe,de,ze,e1,e2,e3,e4,e5,e6,e7⟩:=Qd he
 obtain⟨hl,ba,bc,bn,hb,hb1,hb2,hb3,hb4,hb5⟩:=VK R.heap hs (J4 R s)
 obtain⟨hkl,xa,xc,xn,hxe,hx1,hx2,hx3,hx4,hx5⟩:=VK R.heap hx (J4 R x)
 obtain⟨xad,rfl,hxc⟩:=hx3 (by omega)
 have hze:ze.cells.size=ei.size:=by
  obtain⟨q1,_⟩:=Z4 e4
  simp at q1;omega
 have hcap:bc<n+m:=by
  have hsv:=J4 R s
  revert hno
  cases hsa:QO st.s s with
  |c cv=>
   rw[hsa,hb]at hsv
   have hsv:=Ui hsv
   cases cv with
   |f fv=>
    cases fv with
    |nil=>intro _;cases hsv;omega
    |_=>intro h;cases h
   |emp=>intro _;obtain⟨_,h⟩:=hsv;cases h;omega
   |own id g off n' lim=>
    cases lim with
    |none=>intro h;cases h
    |some c=>
     intro h
     simp[GF]at h
     rw[hsa]at hs
     simp only[elems]at hs
     split at hs
     · rename_i b hlk
       obtain⟨_,_,cap,hv,_,_,_,hcc⟩:=hsv.2.2 b hlk
       cases hv
       simp only at hcc
       omega
     · cases hs
   |_=>intro h;cases h
  |_=>intro h;cases h
 --the machine's new block
 have key:∃cap,(Builtin.append_ #[t,t] o.type #[a.eval s,a.eval x]).run P w= .ok (.slice (some ⟨w.heap.size,0,none⟩) (n+m) cap)
  (w.drew.alloc (.cells (bn.toArray++xn.toArray++Builtin.zeroCells ze.cells (cap -(n+m))) e))∧n+m≤cap:=by
  rw[hb,hxe]
  cases ba with
  |none=>
   have hn0:n=0:=by
    by_cases h0:n=0
    · exact h0
    · obtain⟨_,h,_⟩:=hb3 h0;cases h
   subst hn0
   have hbn:bn=[]:=List.eq_nil_of_length_eq_zero (by rw[hb2,hl];simp)
   have hbc:bc=0:=by
    have hsv:=J4 R s
    rw[hb]at hsv
    generalize QO st.s s=q at hsv hs hno
    cases hsv with
    |c cv _ hq=>
     cases cv with
     |f fv=>
      cases fv with
      |nil=>cases hq;rfl
      |_=>simp[GF]at hno
     |fp cs off=>obtain⟨_,_,h,_⟩:=hq;cases h
     |nilp=>cases hq
     |ptr id g off=>simp[elems]at hs
     |own id g off n' lim=>
      simp only[elems]at hs
      split at hs
      · rename_i b hlk
        obtain⟨_,_,cap,hv,_⟩:=hq.2.2 b hlk
        cases hv
      · cases hs
     |fn f caps=>simp[elems]at hs
     |nilf=>cases hq
     |emp=>obtain⟨_,h⟩:=hq;cases h;rfl
    |any=>simp[elems]at hs
   subst hbc hbn
   refine⟨grownCap w m 0 e, ?_, ?_⟩
   · have:=run_append_nil (P:=P) w t o.type e infe ze i2 e1 e3 xad m xc xn (by rw[hx2,hkl,e6]) hxc hm (by omega) (by rw[←e7];simp at h47;omega)
     simpa using this
   · simpa using grownCap_ge w m 0 e
  |some bad=>
   have hbc':∀j v,bn[j]? =some v→w.cell? (bad.add j)=some v:=by
    by_cases h0:n=0
    · subst h0
      have hbn:bn=[]:=List.eq_nil_of_length_eq_zero (by rw[hb2,hl];simp)
      subst hbn
      intro j v hj;simp at hj
    · obtain⟨ad,h,hh⟩:=hb3 h0
      cases h
      exact hh
   refine⟨grownCap w (n+m) bc e, ?_,grownCap_ge w (n+m) bc e⟩
   exact run_append_grow (P:=P) w t o.type e infe ze i2 e1 e3 bad n bc bn (by rw[hb2,hl,e6]) hbc' xad m xc xn (by rw[hx2,hkl,e6]) hxc hcap (by omega) (growslice_fits hcap (by rw[←e7];exact h47))
 obtain⟨cap,hrun,hge⟩:=key
 have hsz:(bn.toArray++xn.toArray++Builtin.zeroCells ze.cells (cap -(n+m))).size=cap*ei.size:=by
  simp only[Array.size_append,List.size_toArray,size_zeroCells,hze,hb2,hx2,hl,hkl,←Nat.add_mul]
  congr 1
  omega
 have hget:∀j (h:j<(l++k).length),∃u,(bn.toArray++xn.toArray++Builtin.zeroCells ze.cells (cap -(n+m)))[j]? =some u∧VC w X st.h (l++k)[j] u:=by
  intro j hj
  by_cases h1:j<l.length
  · obtain⟨u,q1,q2⟩:=hb4 j h1
    refine⟨u, ?_,by rw[List.getElem_append_left h1];exact q2⟩
    rw[Array.getElem?_append_left (by simp;omega),Array.getElem?_append_left (by simp;omega)]
    simpa using q1
  · have h2:j -l.length<k.length:=by simp at hj;omega
    obtain⟨u,q1,q2⟩:=hx4 _ h2
    refine⟨u, ?_,by rw[List.getElem_append_right (by omega)];exact q2⟩
    rw[Array.getElem?_append_left (by simp;omega),Array.getElem?_append_right (by simp;omega)]
    simpa[hb2]using q1
 have hll:(l++k).length=(n+m)*ei.size:=by rw[Jq,hl,hkl,Nat.add_mul]
 have hle:(n+m)*ei.size≤cap*ei.size:=Nat.mul_le_mul_right _ hge
 obtain⟨k1,k2⟩:=WY (w':=w.drew.alloc (.cells (bn.toArray++xn.toArray++Builtin.zeroCells ze.cells (cap -(n+m))) e)) R.heap (sz:=ei.size) (t:=e) (cs:=l++k) (cc:=bn.toArray++xn.toArray++Builtin.zeroCells ze.cells (cap -(n+m))) rfl rfl rfl rfl (by omega) hget
 exact ZW (Ww ho hrun) (hn _ _ _ _ _ (Jbh (by omega) hge (by omega) (by omega)) k1 k2 (hK _))
end Go.Lg

namespace Go.Lg
theorem JU.append_own{P:Program}{o:Oper}{st:St}{K:AV→Jn→Prop}{t e:TypeId}{ti ei:TI}{s x:Operand}{id g n m:Nat}{b:Zo}{k:List CV}
 (ho:o.op= .call ⟨.builtin .append,#[s,x],#[t,t]⟩) (ht:JP P t=some ti) (hk:ti.k= .slice e) (he:JP P e=some ei) (hz:ei.zero.length=ei.size)
 (hs:QO st.s s= .c (.own id g 0 n none)) (hl:look st.h id g=some b) (hbs:b.sz=ei.size) (hbl:b.cs.length=n*ei.size)
 (hx:elems st.h ei.size (QO st.s x)=some (m,k)) (hm:0<m)
 (h63:n+m≤9223372036854775807) (h47:(n+m)*ei.bytes≤140737488355328)
 (hK:∀g',K (.c (.own id g' 0 (n+m) none)) (st.h.set id (some ⟨g',ei.size,b.cs++k⟩))):JU P o st K:=by
 intro w X a R next Q hn
 obtain⟨inf,d,z',i1,i2,i3,i4,i5,i6,i7⟩:=Qd ht
 rw[i5]at hk;cases Zj hk
 obtain⟨infe,de,ze,e1,e2,e3,e4,e5,e6,e7⟩:=Qd he
 obtain⟨hkl,xa,xc,xn,hxe,hx1,hx2,hx3,hx4,hx5⟩:=VK R.heap hx (J4 R x)
 obtain⟨xad,rfl,hxc⟩:=hx3 (by omega)
 have hze:ze.cells.size=ei.size:=by
  obtain⟨q1,_⟩:=Z4 e4
  simp at q1;omega
 have hsv:=J4 R s
 rw[hs]at hsv
 obtain⟨hgt,_,hall⟩:=Ui hsv
 obtain⟨c1,a0,cap,hse,c2,c3,c4,c5⟩:=hall b hl
 simp only[Nat.zero_add]at c4 c5
 obtain⟨hid,hgg⟩:=JH hl
 subst hgg
 obtain⟨g1,g2,cc,tt,g3,g4,g5,g6⟩:=R.heap.blk id b hid
 have hlt:id<st.h.length:=(Jh.1 hid).1
 --what is told of the new value
 have hval:∀(w':World) (p c cap':Nat),n+m≤cap'→cap'*ei.size≤c→
  VA w' (X.new p c) (st.h.set id (some ⟨X.t,ei.size,b.cs++k⟩)) (.c (.own id X.t 0 (n+m) none)) (.slice (some ⟨p,0,none⟩) (n+m) cap'):=by
  intro w' p c cap' q1 q2
  refine .c _ _ ⟨Nat.lt_succ_self _,rfl,fun blk hblk=> ?_⟩
  obtain⟨h5,h6⟩:=JH hblk
  rw[JE hlt]at h5
  cases h5
  have hll:(b.cs++k).length=(n+m)*ei.size:=by rw[Jq,hbl,hkl,Nat.add_mul]
  have:(n+m)*ei.size≤cap'*ei.size:=Nat.mul_le_mul_right _ q1
  exact⟨by simp only;omega,_,_,rfl,q1,fun _=>by simp[Cx.new],by simpa[Cx.new]using q2,by simp only;omega⟩
 by_cases hr:n+m≤cap
 · have ha0:=c3 (by omega)
   subst ha0
   have hle:n*ei.size+xn.length≤cc.size:=by
    have:(n+m)*ei.size≤cap*ei.size:=Nat.mul_le_mul_right _ hr
    rw[Nat.add_mul]at this
    rw[hx2,hkl,g4]
    rw[hbs]at c4
    omega
   obtain⟨k1,k2,k3⟩:=RE w (X.mu b.g) cc (cc.toList.take (n*ei.size)++xn++cc.toList.drop (n*ei.size+xn.length)).toArray tt (0,0) g3
   have hst:=run_storeCells_at (P:=P) (X.mu b.g) (n*ei.size) tt xn 0 cc w g3 (by simpa using hle) hx5
   simp only[Nat.add_zero]at hst
   have hf:=run_firstCells_some (P:=P) w ei.size m xad m xc xn (by rw[hx2,hkl]) hxc
   have hrun:(Builtin.append_ #[t,t] o.type #[a.eval s,a.eval x]).run P w= .ok (.slice (some ⟨X.mu b.g,0,none⟩) (n+m) cap) (w.setRow (X.mu b.g) (cc.toList.take (n*ei.size)++xn++cc.toList.drop (n*ei.size+xn.length)).toArray):=by
    rw[hse,hxe]
    simp[Builtin.append_,run_underlying i2,QZ he,Builtin.lenOf,hr,hf,Z1,hst]
   have hcs:(cc.toList.take (n*ei.size)++xn++cc.toList.drop (n*ei.size+xn.length)).toArray.size=cc.size:=by simp;omega
   obtain⟨q1,q2⟩:=BE (sz':=ei.size) (cs:=b.cs++k) (cc:=(cc.toList.take (n*ei.size)++xn++cc.toList.drop (n*ei.size+xn.length)).toArray) R.heap hid (.inl rfl) k1 (fun k _ h=>k2 k h) (by omega) rfl rfl rfl
    (by rw[hcs,Jq,hbl,←hx2];exact hle) (fun j hj=>by
      rw[Gm hle]
      by_cases h1:j<b.cs.length
      · rw[if_neg (by omega),List.getElem_append_left h1]
        exact g6 j h1
      · have h2:j -b.cs.length<k.length:=by simp at hj;omega
        rw[if_pos (by omega),List.getElem_append_right (by omega)]
        obtain⟨u,u1,u2⟩:=hx4 _ h2
        exact⟨u,by rw[←hbl];exact u1,u2⟩)
   refine ZW (Ww ho hrun) (hn _ _ _ _ _ (hval _ _ _ cap hr ?_) q1 q2 (hK _))
   rw[hcs,g4,←hbs];exact c4
 · have hcap:cap<n+m:=by omega
   have holds:∀j v,(cc.toList.take (n*ei.size))[j]? =some v→w.cell? (a0.add j)=some v:=by
    intro j v hj
    have hjl:j<n*ei.size:=by
     rcases Nat.lt_or_ge j (n*ei.size)with h|h
     · exact h
     · rw[Ju (by simp;omega)]at hj;cases hj
    have h0:cap≠0:=by
     intro h0
     have:n=0:=by omega
     rw[this]at hjl;simp at hjl
    rw[c3 h0,Z1,Nat.zero_add]
    rw[Jz hjl]at hj
    simp[World.cell?,g3]
    simpa using hj
   have hcl:(cc.toList.take (n*ei.size)).length=n*ei.size:=by simp;omega
   have hrun:(Builtin.append_ #[t,t] o.type #[a.eval s,a.eval x]).run P w= .ok (.slice (some ⟨w.heap.size,0,none⟩) (n+m) (grownCap w (n+m) cap e))
    (w.drew.alloc (.cells ((cc.toList.take (n*ei.size)).toArray++xn.toArray++Builtin.zeroCells ze.cells (grownCap w (n+m) cap e -(n+m))) e)):=by
    rw[hse,hxe]
    exact run_append_grow (P:=P) w t o.type e infe ze i2 e1 e3 a0 n cap _ (by rw[hcl,e6]) holds xad m xc xn (by rw[hx2,hkl,e6]) hxc hcap (by omega) (growslice_fits hcap (by rw[←e7];exact h47))
   have hge:=grownCap_ge w (n+m) cap e
   have hsz:((cc.toList.take (n*ei.size)).toArray++xn.toArray++Builtin.zeroCells ze.cells (grownCap w (n+m) cap e -(n+m))).size=grownCap w (n+m) cap e*ei.size:=by
    simp only[Array.size_append,List.size_toArray,size_zeroCells,hze,hcl,hx2,hkl,←Nat.add_mul]
    congr 1
    omega
   have hle:(n+m)*ei.size≤grownCap w (n+m) cap e*ei.size:=Nat.mul_le_mul_right _ hge
   obtain⟨q1,q2⟩:=BE (w':=w.drew.alloc (.cells ((cc.toList.take (n*ei.size)).toArray++xn.toArray++Builtin.zeroCells ze.cells (grownCap w (n+m) cap e -(n+m))) e)) (sz':=ei.size) (cs:=b.cs++k)
    (cc:=(cc.toList.take (n*ei.size)).toArray++xn.toArray++Builtin.zeroCells ze.cells (grownCap w (n+m) cap e -(n+m))) R.heap hid (.inr rfl) (heap_alloc_new w.drew _) (fun k hk _=>by show(w.heap.push _)[k]? =_;rw[Array.getElem?_push,if_neg (by omega)]) (by simp) rfl rfl rfl
    (by rw[hsz,Jq,hbl,hkl,←Nat.add_mul];exact hle) (fun j hj=>by
      by_cases h1:j<b.cs.length
      · rw[List.getElem_append_left h1,Array.getElem?_append_left (by simp;omega),Array.getElem?_append_left (by simp;omega)]
        obtain⟨u,u1,u2⟩:=g6 j h1
        refine⟨u, ?_,u2⟩
        rw[hbl]at h1
        simp[Jz h1,u1]
      · have h2:j -b.cs.length<k.length:=by simp at hj;omega
        obtain⟨u,u1,u2⟩:=hx4 _ h2
        refine⟨u, ?_,by rw[List.getElem_append_right (by omega)];exact u2⟩
        rw[Array.getElem?_append_left (by simp;omega),Array.getElem?_append_right (by simp;omega)]
        have:min (n*ei.size) cc.size=n*ei.size:=by omega
        simpa[this,hbl]using u1)
   exact ZW (Ww ho hrun) (hn _ _ _ _ _ (hval _ _ _ _ hge (by rw[hsz];exact Nat.le_refl _)) q1 q2 (hK _))
theorem JU.append_in{P:Program}{o:Oper}{st:St}{K:AV→Jn→Prop}{t e:TypeId}{ti ei:TI}{s x:Operand}{id g off n m:Nat}{lim:Option Nat}{b:Zo}{k:List CV}
 (ho:o.op= .call ⟨.builtin .append,#[s,x],#[t,t]⟩) (ht:JP P t=some ti) (hk:ti.k= .slice e) (he:JP P e=some ei) (h0:0<ei.size)
 (hs:QO st.s s= .c (.own id g off n lim)) (hl:look st.h id g=some b) (hbs:b.sz=ei.size) (hfit:off+(n+m)*ei.size≤b.cs.length) (hlim:n+m≤lim.getD (n+m))
 (hx:elems st.h ei.size (QO st.s x)=some (m,k)) (hm:0<m)
 (hK:K (.c (.own id g off (n+m) lim)) (st.h.set id (some ⟨b.g,b.sz,J6 b.cs (off+n*ei.size) k⟩))):JU P o st K:=by
 intro w X a R next Q hn
 obtain⟨inf,d,z',i1,i2,i3,i4,i5,i6,i7⟩:=Qd ht
 rw[i5]at hk;cases Zj hk
 obtain⟨hkl,xa,xc,xn,hxe,hx1,hx2,hx3,hx4,hx5⟩:=VK R.heap hx (J4 R x)
 obtain⟨xad,rfl,hxc⟩:=hx3 (by omega)
 have hsv:=J4 R s
 rw[hs]at hsv
 obtain⟨hgt,_,hall⟩:=Ui hsv
 obtain⟨c1,a0,cap,hse,c2,c3,c4,c5⟩:=hall b hl
 have hr:n+m≤cap:=by
  cases lim with
  |none=>
   simp only at c5
   have:(n+m)*ei.size≤cap*ei.size:=by rw[hbs]at c5;omega
   exact Nat.le_of_mul_le_mul_right this h0
  |some c=>simp only at c5;simp at hlim;omega
 have ha0:=c3 (by omega)
 subst ha0
 have hfit':off+n*ei.size+k.length≤b.cs.length:=by rw[hkl];rw[Nat.add_mul]at hfit;omega
 obtain⟨w',h4,h5,h6⟩:=BF R.heap hl (o:=off+n*ei.size) (cs:=k) (vs:=xn) hx2 hfit' hx4 hx5
 have hf:=run_firstCells_some (P:=P) w ei.size m xad m xc xn (by rw[hx2,hkl]) hxc
 have hrun:(Builtin.append_ #[t,t] o.type #[a.eval s,a.eval x]).run P w= .ok (.slice (some ⟨X.mu g,off,none⟩) (n+m) cap) w':=by
  rw[hse,hxe]
  simp[Builtin.append_,run_underlying i2,QZ he,Builtin.lenOf,hr,hf,Z1,h4]
 have hv:VC w' X (st.h.set id (some ⟨b.g,b.sz,J6 b.cs (off+n*ei.size) k⟩)) (.own id g off (n+m) lim) (.slice (some ⟨X.mu g,off,none⟩) (n+m) cap):=by
  refine⟨hgt,rfl,fun blk hblk=> ?_⟩
  obtain⟨hid,hgg⟩:=JH hl
  obtain⟨q1,q2⟩:=JH hblk
  have hlt:id<st.h.length:=(Jh.1 hid).1
  rw[JE hlt]at q1
  cases q1
  refine⟨by simp only[Uk hfit',hbs];exact hfit,_,_,rfl,hr,fun _=>rfl,c4, ?_⟩
  cases lim with
  |none=>simpa[Uk hfit']using c5
  |some c=>exact c5
 exact ZW (Ww ho hrun) (hn _ _ _ _ _ (.c _ _ hv) h5 h6 hK)
def Jg(P:Program)(f:FuncId):Prop:=∃fn,P.funcs[f]? =some fn∧(fn.name== "runtime.NumGoroutine")=false∧fn.body.isNone=false
theorem RP{P:Program}{f:FuncId}(h:Jg P f)(args:Array Value)(w:World):(callFunc f args).run P w= .ok (.enter f args) w:=by
 obtain⟨fn,h1,h2,h3⟩:=h
 simp only[callFunc,Sem.run_bind,run_program,Result.andThen_ok,h1,h2,h3,Bool.false_eq_true,if_false,Sem.run_ite,Sem.run_pure]
theorem Ru{P:Program}{o:Oper}{a:Act}{w:World}{f:FuncId}{args:Array Value}{next:Act→World→Prop}{Q:Exit→Act→World→Prop}(h:(execOp a.eval o).run P w= .ok (.enter f args) w)
 (hc:Calls P f args w fun e w'=>∃u,e= .returned u∧next (a.put o.dst u) w'):o.wp P a w next Q:=by
 unfold Oper.wp
 rw[h,Oper.upon_enter]
 refine hc.mono fun e w' ⟨u,he,hn⟩=> ?_
 subst he
 exact hn
def VQ(H:Jn):AV→Option (FuncId×List AV)
 | .c (.fn f caps)=>if caps.all fun c=>(look H c.1 c.2).isSome then some (f,caps.map fun c=> .c (.ptr c.1 c.2 0))else none
 |_=>none
theorem JU.call{P:Program}{o:Oper}{st:St}{K:AV→Jn→Prop}{fo:Operand}{xs:Array Operand}{ts:Array TypeId}{f:FuncId}{caps:List AV}
 (ho:o.op= .call ⟨.value fo,xs,ts⟩) (hf:VQ st.h (QO st.s fo)=some (f,caps)) (he:Jg P f)
 (hc:Jk P f (xs.toList.map (QO st.s)++caps) st.h K):JU P o st K:=by
 intro w X a R next Q hn
 have hfv:=J4 R fo
 unfold VQ at hf
 split at hf
 · rename_i f' cs e
   split at hf
   · rename_i hall
     cases hf
     rw[e]at hfv
     obtain⟨q1,_,q2⟩:=Ui hfv
     have hfe:=q2 (fun c hc=>List.all_eq_true.1 hall c hc)
     let args:Array Value:=xs.map a.eval++(cs.map fun c=>Value.pointer (some ⟨X.mu c.2,0,none⟩)).toArray
     have hrun:(execOp a.eval o).run P w= .ok (.enter f args) w:=by
      simp only[execOp,ho,resolve,Sem.run_bind,hfe,Deferred.ofValue,Sem.run_pure,Result.andThen_ok,invoke]
      rw[RP he]
      simp[args]
     refine Ru hrun ((hc w X args R.heap ⟨?_,fun i hi=> ?_⟩).mono fun e' w' ⟨v,u,X',H',h1,h2,h3,h4,h5⟩=>⟨u,h1,hn v u X' H' w' h2 h3 h4 h5⟩)
     · simp[args]
     · simp only[Jq,Qi,Array.length_toList]at hi
       by_cases hlt:i<xs.size
       · refine⟨a.eval xs[i], ?_, ?_⟩
         · simp only[args]
           rw[Array.getElem?_append_left (by simpa using hlt)]
           simp[hlt]
         · rw[List.getElem_append_left (by simpa using hlt)]
           simp only[List.getElem_map,Array.getElem_toList]
           exact J4 R _
       · have h2:i -xs.size<cs.length:=by omega
         refine⟨.pointer (some ⟨X.mu (cs[i -xs.size]).2,0,none⟩), ?_, ?_⟩
         · simp only[args]
           rw[Array.getElem?_append_right (by simp;omega)]
           simp[h2]
         · rw[List.getElem_append_right (by simp;omega)]
           simp only[List.getElem_map,Qi,Array.length_toList]
           exact .c _ _ ⟨q1 _ (List.getElem_mem h2),rfl,fun _=>rfl⟩
   · cases hf
 · cases hf
end Go.Lg
