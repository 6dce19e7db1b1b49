/- LgF, LgG, LgH, cut to what is needed. -/
import Derived.Test.YtiahmfdabpafoaaGreatDoorKaa1
import Derived.ArgAppend
open List renaming getElem?_eq_some_iff → Ja, getElem?_append_left → Jb, getElem?_eq_getElem → Jh, getElem?_set_ne → Jj, append_assoc → Js, getElem?_eq_none → Ju, getElem?_take_of_lt → JG, length_map → JL, getElem?_append_right → JN, getElem?_set_self → J0, map_cons → Qf, map_nil → ZC
open Nat renaming reduceAdd→zA,reduceMul→zM,reduceSub→zS,reduceEqDiff→zE,reduceLeDiff→zL
set_option linter.unusedSimpArgs false
set_option linter.unusedVariables false
namespace Go.Lg
def YS(s:List AV)(o:Operand):Option (Nat×Nat):=
 match QH s o with
 | .c (.ptr id g 0)=>some (id,g)
 |_=>none
def Rc(mx:Bool)(x y:AV):Option AV:=
 match x,y with
 | .c (.f (.int k a)), .c (.f (.int _ b))=>some (.c (.f (.int k (if mx then(if a<b then b else a)else(if b<a then b else a)))))
 |_,_=>none
def Wq(H:Ji)(x:AV):Option AV:=
 match x with
 | .c (.ptr id g o)=>if(look H id g).isSome then some (.c (.ptr id g o))else none
 | .c (.fp cs o)=>some (.c (.fp cs o))
 | .c (.fn f caps)=>if caps.all fun c=>(look H c.1 c.2).isSome then some (.c (.fn f caps))else none
 |_=>none
def GH(P:Program)(s:List AV)(H:Ji)(b:Builtin)(args:List Operand)(ts:List TypeId):Option AV:=
 match b,args,ts with
 | .len,[x],[t]=>Xz P H t (QH s x)
 | .min,[x,y],_=>Rc false (QH s x) (QH s y)
 | .max,[x,y],_=>Rc true (QH s x) (QH s y)
 |_,_,_=>none
def WQ(P:Program)(s:List AV)(H:Ji):Op→Option AV
 | .move x=>some (QH s x)
 | .assign x=>some (QH s x)
 | .pick c x y=>match QH s c with
   | .c (.f (.bool t))=>some (if t then QH s x else QH s y)
   |_=>none
 | .nilCheck x=>Wq H (QH s x)
 | .binOp op t x y _=>BZ P s H op t x y
 | .unOp op _ x=>unV op (QH s x)
 | .convert src dst x=>YO P H src dst (QH s x)
 | .fieldAddr t x f=>Wx P H t (QH s x) f
 | .field t x f=>Kx P t (QH s x) f
 | .indexAddr t x i=>YN P H t (QH s x) (QH s i)
 | .index t x i=>Kl P t (QH s x) (QH s i)
 | .extract t i=>match QH s t with
   | .tup vs=>vs[i]?
   |_=>none
 | .load t p=>Uy P H t (QH s p)
 | .slice t x lo hi mx=>match UE s lo,UE s hi,UE s mx with
   |some l,some h,some m=>Uf P H t (QH s x) l h m
   |_,_,_=>none
 | .makeFunc (.func f) first caps=>if first.size=0 then(caps.toList.mapM (YS s)).map fun l=> .c (.fn f l)else none
 | .call ⟨.builtin b,args,ts⟩=>GH P s H b args.toList ts.toList
 |_=>none
theorem JaV{P:Program}{w:World}{X:Cx}{a:Act}{st:St}(R:V2 w X a st){x:Operand}{v:AV}(h:Wq st.h (QH st.s x)=some v):
 (∀w',Bw P (.nilCheck x) a w' (a.eval x))∧VA w X st.h v (a.eval x):=by
 have hx:=JO R x
 unfold Wq at h
 split at h
 · rename_i id g o e
   rw[e]at hx
   split at h
   · rename_i hl
     cases h
     refine⟨fun w' oo ho=> ?_,hx⟩
     have:=(ZB hx).2.2 hl
     simp[execOp,ho,this]
   · cases h
 · rename_i cs o e
   rw[e]at hx
   cases h
   refine⟨fun w' oo ho=> ?_,hx⟩
   obtain⟨b,o',h1,_⟩:=ZB hx
   simp[execOp,ho,h1]
 · rename_i f caps e
   rw[e]at hx
   split at h
   · rename_i hl
     cases h
     refine⟨fun w' oo ho=> ?_,hx⟩
     have:=(ZB hx).2.2 (fun c hc=>List.all_eq_true.1 hl c hc)
     simp[execOp,ho,this]
   · cases h
 · cases h
theorem K5{w:World}{X:Cx}{a:Act}{st:St}(R:V2 w X a st){o:Operand}{c:Nat×Nat}(h:YS st.s o=some c):
 c.2<X.t∧((look st.h c.1 c.2).isSome→a.eval o= .pointer (some ⟨X.mu c.2,0,none⟩)):=by
 unfold YS at h
 have hx:=JO R o
 split at h
 · rename_i id g e
   cases h
   rw[e]at hx
   exact⟨(ZB hx).1,(ZB hx).2.2⟩
 · cases h
theorem Xo{P:Program}{w:World}{X:Cx}{a:Act}{st:St}(R:V2 w X a st){op:Op}{v:AV}(h:WQ P st.s st.h op=some v):
 ∃u,(∀w',Za w w'→Bw P op a w' u)∧VA w X st.h v u:=by
 unfold WQ at h
 split at h
 · rename_i x
   cases h;exact⟨_,fun w' _=>GT x,JO R x⟩
 · rename_i x
   cases h;exact⟨_,fun w' _=>BF x,JO R x⟩
 · rename_i c x y
   split at h
   · rename_i t e
     cases h
     have hc:=JO R c
     rw[e]at hc
     refine⟨_,fun w' _=>GS (Wl hc), ?_⟩
     cases t
     · exact JO R y
     · exact JO R x
   · cases h
 · rename_i x
   obtain⟨h1,h2⟩:=JaV (P:=P) R h
   exact⟨_,fun w' _=>h1 w',h2⟩
 · rename_i op t x y yt
   obtain⟨u,h1,h2⟩:=Jbt R h
   exact⟨u,fun w' hg o ho=>by simp only[execOp,ho];rw[Sem.run_bind,h1 w' hg];rfl,h2⟩
 · rename_i op t x
   obtain⟨u,h1,h2⟩:=Jcj (P:=P) h (JO R x)
   exact⟨u,fun w' hg o ho=>by simp only[execOp,ho];rw[Sem.run_bind,h1 w' hg];rfl,h2⟩
 · rename_i src dst x
   obtain⟨u,h1,h2⟩:=Jad R.heap h (JO R x)
   exact⟨u,fun w' hg o ho=>by simp only[execOp,ho];rw[Sem.run_bind,h1 w' hg];rfl,h2⟩
 · rename_i t x f
   obtain⟨u,h1,h2⟩:=Gy (P:=P) h (JO R x)
   exact⟨u,fun w' hg o ho=>by simp only[execOp,ho];rw[Sem.run_bind,h1 w' hg];rfl,h2⟩
 · rename_i t x f
   obtain⟨u,h1,h2⟩:=Gz (P:=P) h (JO R x)
   exact⟨u,fun w' hg o ho=>by simp only[execOp,ho];rw[Sem.run_bind,h1 w' hg];rfl,h2⟩
 · rename_i t x i
   obtain⟨u,h1,h2⟩:=Jab (P:=P) h (JO R x) (JO R i)
   exact⟨u,fun w' hg o ho=>by simp only[execOp,ho];rw[Sem.run_bind,h1 w' hg];rfl,h2⟩
 · rename_i t x i
   obtain⟨u,h1,h2⟩:=Gr (P:=P) h (JO R x) (JO R i)
   exact⟨u,fun w' hg o ho=>by simp only[execOp,ho];rw[Sem.run_bind,h1 w' hg];rfl,h2⟩
 · rename_i t i
   split at h
   · rename_i vs e
     have hx:=JO R t
     rw[e]at hx
     generalize hq:a.eval t=q at hx
     cases hx with
     |tup vs us hus=>
      obtain⟨hlt,he⟩:=Ja.1 h
      have h9:=hus i hlt
      rw[he]at h9
      refine⟨us i,fun w' _ o ho=> ?_,h9⟩
      simp only[execOp,ho,hq]
      simp[Instr.extract,hlt]
   · cases h
 · rename_i t p
   obtain⟨u,h1,h2⟩:=KW (P:=P) R.heap h (JO R p)
   exact⟨u,fun w' hg o ho=>by simp only[execOp,ho];rw[Sem.run_bind,h1 w' hg];rfl,h2⟩
 · rename_i t x lo hi mx
   split at h
   · rename_i l hh m e1 e2 e3
     obtain⟨u,h1,h2⟩:=FZ (P:=P) R e1 e2 e3 (JO R x) h
     exact⟨u,fun w' hg o ho=>by simp only[execOp,ho];rw[Sem.run_bind,h1 w' hg];rfl,h2⟩
   · cases h
 · rename_i f first caps
   split at h
   · rename_i h0
     cases hm:caps.toList.mapM (YS st.s)with
     |none=>simp[hm]at h
     |some l=>
      simp[hm]at h
      subst h
      obtain⟨hl,hg⟩:=Zf hm
      have hg':∀j (hj:j<l.length),∃o,caps.toList[j]? =some o∧YS st.s o=some l[j]:=fun j hj=>by
       obtain⟨y,h1,h2⟩:=hg j (by omega)
       have:l[j]=y:=by simpa[Jh hj]using h1
       exact⟨caps.toList[j]'(by omega),by simp[Jh (show j<caps.toList.length by omega)],by rw[this];exact h2⟩
      have hfirst:first= #[]:=Array.eq_empty_of_size_eq_zero h0
      subst hfirst
      refine⟨.func (.func f) #[] (caps.map a.eval),fun w' _ o ho=>by simp[execOp,ho,Instr.makeFunc], .c _ _ ⟨fun c hc=> ?_,rfl,fun hall=> ?_⟩⟩
      · obtain⟨j,hj,rfl⟩:=List.mem_iff_getElem.1 hc
        obtain⟨o,_,h2⟩:=hg' j hj
        exact(K5 R h2).1
      · congr 1
        apply Array.ext'
        rw[Array.toList_map]
        apply List.ext_getElem
        · simp;simpa using hl.symm
        · intro j h1 h2
          simp only[JL]at h1 h2
          obtain⟨o,h3,h4⟩:=hg' j h2
          have h5:caps.toList[j]=o:=by simpa[Jh h1]using h3
          simp only[List.getElem_map]
          rw[h5]
          exact(K5 R h4).2 (hall _ (List.getElem_mem h2))
   · cases h
 · rename_i b args ts
   unfold GH at h
   split at h
   · rename_i x t e1 e2
     have hlen:=fun ty=>Ja6 (P:=P) (ty:=ty) h (JO R x)
     obtain⟨u,h1,h2⟩:=hlen 0
     have ea:args= #[x]:=by cases args;simp at e1;simp[e1]
     have et:ts= #[t]:=by cases ts;simp at e2;simp[e2]
     subst ea et
     refine⟨u,fun w' hg o ho=> ?_,h2⟩
     simp only[execOp,ho]
     simp only[resolve,Sem.run_bind,Sem.run_pure,Result.andThen_ok,invoke,builtin,List.map_toArray,Qf,ZC]
     have:(Builtin.len_ #[t] o.type #[a.eval x]).run P w'= .ok u w':=h1 w' hg
     rw[this]
     rfl
   · rename_i x y e1
     unfold Rc at h
     split at h
     · rename_i k p k' q e3 e4
       cases h
       have hx:=JO R x
       have hy:=JO R y
       rw[e3]at hx;rw[e4]at hy
       have ea:args= #[x,y]:=by cases args;simp at e1;simp[e1]
       subst ea
       refine⟨_,fun w' _ o ho=> ?_, .c _ _ (VF.int _ _)⟩
       simp[execOp,ho,resolve,invoke,builtin,Builtin.min_,Builtin.min2,ZL hx,ZL hy]
     · cases h
   · rename_i x y e1
     unfold Rc at h
     split at h
     · rename_i k p k' q e3 e4
       cases h
       have hx:=JO R x
       have hy:=JO R y
       rw[e3]at hx;rw[e4]at hy
       have ea:args= #[x,y]:=by cases args;simp at e1;simp[e1]
       subst ea
       refine⟨_,fun w' _ o ho=> ?_, .c _ _ (VF.int _ _)⟩
       simp[execOp,ho,resolve,invoke,builtin,Builtin.max_,Builtin.max2,ZL hx,ZL hy]
     · cases h
   · cases h
 · cases h
end Go.Lg

namespace Go.Lg
def Cx.new(X:Cx)(g c:Nat):Cx:=
 {mu:=fun k=>if k=X.t then g else X.mu k,sz:=fun k=>if k=X.t then c else X.sz k,I:=X.I,t:=X.t+1}
theorem NL{H:Ji}{b:ZG}{id g:Nat}{b':ZG}(h:look (H++[some b]) id g=some b'):look H id g=some b'∨(b'=b∧g=b.g∧id=H.length):=by
 obtain⟨h1,h2⟩:=Jw h
 by_cases hlt:id<H.length
 · rw[Jb hlt]at h1
   left
   rw[←h2]
   exact Qq h1
 · right
   rw[JN (by omega)]at h1
   by_cases he:id -H.length=0
   · rw[he]at h1
     simp at h1
     subst h1
     exact⟨rfl,h2.symm,by omega⟩
   · rw[Ju (by simp;omega)]at h1
     cases h1
theorem Vl{w w':World}{X:Cx}{H:Ji}(R:QZ w X H){sz t:Nat}{cs:List CV}{cc:Array Value}
 (hh:w'.heap=w.heap.push (.cells cc t (0,0))) (ho:w'.os=w.os) (ht:w'.tape=w.tape) (hout:w'.output=w.output)
 (hl:cs.length≤cc.size) (hc:∀j (h:j<cs.length),∃u,cc[j]? =some u∧VC w X H cs[j] u):
 QZ w' (X.new w.heap.size cc.size) (H++[some ⟨X.t,sz,cs⟩])∧Ev w X H w' (X.new w.heap.size cc.size) (H++[some ⟨X.t,sz,cs⟩]):=by
 have hold:∀b,b<w.heap.size→w'.heap[b]? =w.heap[b]? :=fun b hb=>by rw[hh,Array.getElem?_push,if_neg (by omega)]
 have hnew:w'.heap[w.heap.size]? =some (.cells cc t (0,0)):=by rw[hh];simp
 have E:Ev w X H w' (X.new w.heap.size cc.size) (H++[some ⟨X.t,sz,cs⟩]):=by
  refine⟨fun b hb=>⟨hb,hold b (R.imm b hb)⟩,Nat.le_succ _,fun g hg=> ?_,by rw[hh];simp,ho,ht,hout, ?_,fun b hb _=>hold b hb, ?_,fun b hb=> .inl hb⟩
  · simp only[Cx.new]
    rw[if_neg (by omega),if_neg (by omega)]
    exact⟨rfl,rfl⟩
  · intro id g b' hg hlk
    rcases NL hlk with h|⟨rfl,rfl,_⟩
    · exact⟨b',h,rfl,rfl⟩
    · exact absurd hg (Nat.lt_irrefl _)
  · rintro b ⟨id,blk,h1,h2⟩
    by_cases hlt:id<H.length
    · rw[Jb hlt]at h1
      refine .inl ⟨id,blk,h1, ?_⟩
      rw[←h2]
      simp only[Cx.new]
      rw[if_neg (by have:=(R.blk id blk h1).1;omega)]
    · rw[JN (by omega)]at h1
      have he:id -H.length=0:=by
       by_cases he:id -H.length=0
       · exact he
       · rw[Ju (by simp;omega)]at h1;cases h1
      rw[he]at h1
      simp at h1
      subst h1
      right
      rw[←h2]
      simp[Cx.new]
 refine⟨⟨fun b hb=> ?_,fun id b hb=> ?_,fun id id' b b' hb hb' heq=> ?_,R.tab.mono E.imm⟩,E⟩
 · have:=R.imm b hb
   rw[hh];simp;omega
 · by_cases hlt:id<H.length
   · rw[Jb hlt]at hb
     obtain⟨h1,h2,cc',t',h3,h4,h5,h6⟩:=R.blk id b hb
     have hm:=E.mu b.g h1
     refine⟨Nat.lt_of_lt_of_le h1 E.t,by rw[hm.1];exact h2,cc',t', ?_,by rw[hm.2];exact h4,h5,fun j hj=> ?_⟩
     · rw[hm.1,hold _ ?_]
       · exact h3
       · exact(Array.getElem?_eq_some_iff.1 h3).1
     · obtain⟨u,h7,h8⟩:=h6 j hj
       exact⟨u,h7,h8.mono E⟩
   · rw[JN (by omega)]at hb
     have he:id -H.length=0:=by
      by_cases he:id -H.length=0
      · exact he
      · rw[Ju (by simp;omega)]at hb;cases hb
     rw[he]at hb
     simp at hb
     subst hb
     refine⟨Nat.lt_succ_self _, ?_,cc,t, ?_, ?_,hl,fun j hj=> ?_⟩
     · simp only[Cx.new,if_true]
       intro hI
       exact absurd (R.imm _ hI) (Nat.lt_irrefl _)
     · simp only[Cx.new,if_true];exact hnew
     · simp only[Cx.new,if_true]
     · obtain⟨u,h7,h8⟩:=hc j hj
       exact⟨u,h7,h8.mono E⟩
 · have key:∀(i:Nat) (c:ZG),(H++[some ⟨X.t,sz,cs⟩])[i]? =some (some c)→(i<H.length∧H[i]? =some (some c)∧c.g<X.t∧(X.new w.heap.size cc.size).mu c.g=X.mu c.g∧X.mu c.g<w.heap.size)∨(i=H.length∧(X.new w.heap.size cc.size).mu c.g=w.heap.size):=by
    intro i c hi
    by_cases hlt:i<H.length
    · rw[Jb hlt]at hi
      obtain⟨h1,h2,cc',t',h3,_⟩:=R.blk i c hi
      exact .inl ⟨hlt,hi,h1,(E.mu c.g h1).1,(Array.getElem?_eq_some_iff.1 h3).1⟩
    · rw[JN (by omega)]at hi
      have he:i -H.length=0:=by
       by_cases he:i -H.length=0
       · exact he
       · rw[Ju (by simp;omega)]at hi;cases hi
      rw[he]at hi
      simp at hi
      subst hi
      exact .inr ⟨by omega,by simp[Cx.new]⟩
   rcases key id b hb with⟨_,k1,k2,k3,k4⟩|⟨k1,k2⟩<;>rcases key id' b' hb' with⟨_,l1,l2,l3,l4⟩|⟨l1,l2⟩
   · exact R.inj id id' b b' k1 l1 (by rw[←k3,←l3];exact heq)
   · rw[k3,l2]at heq;omega
   · rw[k2,l3]at heq;omega
   · omega
theorem NK{H:Ji}{id:Nat}{b0 b:ZG}(h0:H[id]? =some (some b0)){i g:Nat}{b':ZG}(h:look (H.set id (some b)) i g=some b'):
 (i≠id∧look H i g=some b')∨(i=id∧b'=b∧g=b.g):=by
 obtain⟨h1,h2⟩:=Jw h
 by_cases he:i=id
 · subst he
   have hlt:i<H.length:=(Ja.1 h0).1
   rw[J0 hlt]at h1
   cases h1
   exact .inr ⟨rfl,rfl,h2.symm⟩
 · rw[Jj (fun h=>he h.symm)]at h1
   refine .inl ⟨he, ?_⟩
   rw[←h2]
   exact Qq h1
theorem Jci{w w':World}{X:Cx}{H:Ji}(R:QZ w X H){id:Nat}{b:ZG}(hb:H[id]? =some (some b)){cs:List CV}{cc:Array Value}{t:TypeId}
 (hh:w'.heap[X.mu b.g]? =some (.cells cc t (0,0))) (hoth:∀k,k≠X.mu b.g→w'.heap[k]? =w.heap[k]?) (hsz:w'.heap.size=w.heap.size)
 (ho:w'.os=w.os) (ht:w'.tape=w.tape) (hout:w'.output=w.output) (hcc:cc.size=X.sz b.g) (hl:cs.length=b.cs.length)
 (hc:∀j (h:j<cs.length),∃u,cc[j]? =some u∧VC w X H cs[j] u):
 QZ w' X (H.set id (some ⟨b.g,b.sz,cs⟩))∧Ev w X H w' X (H.set id (some ⟨b.g,b.sz,cs⟩)):=by
 obtain⟨g1,g2,cc0,t0,g3,g4,g5,g6⟩:=R.blk id b hb
 have E:Ev w X H w' X (H.set id (some ⟨b.g,b.sz,cs⟩)):=by
  refine⟨fun k hk=>⟨hk,hoth k (fun he=>g2 (he▸hk))⟩,Nat.le_refl _,fun g hg=>⟨rfl,rfl⟩,by omega,ho,ht,hout, ?_,fun k hk hn=>hoth k fun he=>hn ⟨id,b,hb,he.symm⟩, ?_,fun k hk=> .inl hk⟩
  · intro i g b' hg hlk
    rcases NK hb hlk with⟨_,h⟩|⟨rfl,rfl,rfl⟩
    · exact⟨b',h,rfl,rfl⟩
    · exact⟨b,Qq hb,hl.symm,rfl⟩
  · rintro k ⟨i,blk,h1,h2⟩
    left
    by_cases he:i=id
    · subst he
      rw[J0 (Ja.1 hb).1]at h1
      cases h1
      exact⟨i,b,hb,h2⟩
    · rw[Jj (fun h=>he h.symm)]at h1
      exact⟨i,blk,h1,h2⟩
 have hlt:id<H.length:=(Ja.1 hb).1
 have key:∀(i:Nat) (c:ZG),(H.set id (some ⟨b.g,b.sz,cs⟩))[i]? =some (some c)→(i≠id∧H[i]? =some (some c))∨(i=id∧c=⟨b.g,b.sz,cs⟩):=by
  intro i c hi
  by_cases he:i=id
  · subst he
    rw[J0 hlt]at hi
    cases hi
    exact .inr ⟨rfl,rfl⟩
  · rw[Jj (fun h=>he h.symm)]at hi
    exact .inl ⟨he,hi⟩
 refine⟨⟨fun k hk=>by rw[hsz];exact R.imm k hk,fun i c hi=> ?_,fun i i' c c' hi hi' heq=> ?_,R.tab.mono E.imm⟩,E⟩
 · rcases key i c hi with⟨hne,hi⟩|⟨rfl,rfl⟩
   · obtain⟨h1,h2,cc',t',h3,h4,h5,h6⟩:=R.blk i c hi
     refine⟨h1,h2,cc',t', ?_,h4,h5,fun j hj=> ?_⟩
     · rw[hoth _ (fun he=>hne (R.inj i id c b hi hb he))];exact h3
     · obtain⟨u,h7,h8⟩:=h6 j hj
       exact⟨u,h7,h8.mono E⟩
   · refine⟨g1,g2,cc,t,hh,hcc,by simp only;omega,fun j hj=> ?_⟩
     obtain⟨u,h7,h8⟩:=hc j hj
     exact⟨u,h7,h8.mono E⟩
 · rcases key i c hi with⟨_,k1⟩|⟨e1,e2⟩<;>rcases key i' c' hi' with⟨_,k2⟩|⟨e3,e4⟩
   · exact R.inj _ _ _ _ k1 k2 heq
   · rw[e4]at heq
     rw[e3]
     exact R.inj _ _ c b k1 hb heq
   · rw[e2]at heq
     rw[e1]
     exact R.inj _ _ b c' hb k2 heq
   · rw[e1,e3]
theorem Fh{w w':World}{X:Cx}{H:Ji}(R:QZ w X H){id:Nat}{b:ZG}(hb:H[id]? =some (some b)){sz':Nat}{cs:List CV}{cc:Array Value}{t:TypeId}{p:Nat}
 (hp:p=X.mu b.g∨p=w.heap.size)
 (hh:w'.heap[p]? =some (.cells cc t (0,0))) (hoth:∀k,k<w.heap.size→k≠p→w'.heap[k]? =w.heap[k]?) (hsz:w.heap.size≤w'.heap.size)
 (ho:w'.os=w.os) (ht:w'.tape=w.tape) (hout:w'.output=w.output) (hl:cs.length≤cc.size)
 (hc:∀j (h:j<cs.length),∃u,cc[j]? =some u∧VC w X H cs[j] u):
 QZ w' (X.new p cc.size) (H.set id (some ⟨X.t,sz',cs⟩))∧Ev w X H w' (X.new p cc.size) (H.set id (some ⟨X.t,sz',cs⟩)):=by
 obtain⟨g1,g2,cc0,t0,g3,g4,g5,g6⟩:=R.blk id b hb
 have hpI:¬X.I p:=by
  rcases hp with rfl|rfl
  · exact g2
  · intro hI;exact absurd (R.imm _ hI) (Nat.lt_irrefl _)
 have E:Ev w X H w' (X.new p cc.size) (H.set id (some ⟨X.t,sz',cs⟩)):=by
  refine⟨fun k hk=>⟨hk,hoth k (R.imm k hk) (fun he=>hpI (he▸hk))⟩,Nat.le_succ _,fun g hg=> ?_,hsz,ho,ht,hout, ?_,fun k hk hn=>hoth k hk ?_, ?_,fun k hk=> .inl hk⟩
  · simp only[Cx.new]
    rw[if_neg (by omega),if_neg (by omega)]
    exact⟨rfl,rfl⟩
  · intro i g b' hg hlk
    rcases NK hb hlk with⟨_,h⟩|⟨rfl,rfl,rfl⟩
    · exact⟨b',h,rfl,rfl⟩
    · exact absurd hg (Nat.lt_irrefl _)
  · rintro rfl
    rcases hp with hp|hp
    · exact hn ⟨id,b,hb,hp.symm⟩
    · omega
  · rintro k ⟨i,blk,h1,h2⟩
    by_cases he:i=id
    · subst he
      rw[J0 (Ja.1 hb).1]at h1
      cases h1
      simp only[Cx.new,if_true]at h2
      subst h2
      rcases hp with hp|hp
      · exact .inl ⟨i,b,hb,hp.symm⟩
      · exact .inr (by omega)
    · rw[Jj (fun h=>he h.symm)]at h1
      refine .inl ⟨i,blk,h1, ?_⟩
      rw[←h2]
      simp only[Cx.new]
      rw[if_neg (by have:=(R.blk i blk h1).1;omega)]
 have hlt:id<H.length:=(Ja.1 hb).1
 have key:∀(i:Nat) (c:ZG),(H.set id (some ⟨X.t,sz',cs⟩))[i]? =some (some c)→(i≠id∧H[i]? =some (some c)∧(X.new p cc.size).mu c.g=X.mu c.g∧X.mu c.g≠p)∨(i=id∧c=⟨X.t,sz',cs⟩):=by
  intro i c hi
  by_cases he:i=id
  · subst he
    rw[J0 hlt]at hi
    cases hi
    exact .inr ⟨rfl,rfl⟩
  · rw[Jj (fun h=>he h.symm)]at hi
    obtain⟨h1,h2,cc',t',h3,_⟩:=R.blk i c hi
    refine .inl ⟨he,hi,(E.mu c.g h1).1,fun hq=> ?_⟩
    rcases hp with hp|hp
    · exact he (R.inj i id c b hi hb (hq.trans hp))
    · have:=(Array.getElem?_eq_some_iff.1 h3).1
      omega
 refine⟨⟨fun k hk=>Nat.lt_of_lt_of_le (R.imm k hk) hsz,fun i c hi=> ?_,fun i i' c c' hi hi' heq=> ?_,R.tab.mono E.imm⟩,E⟩
 · rcases key i c hi with⟨hne,hi,hm,hq⟩|⟨rfl,rfl⟩
   · obtain⟨h1,h2,cc',t',h3,h4,h5,h6⟩:=R.blk i c hi
     refine⟨Nat.lt_succ_of_lt h1,by rw[hm];exact h2,cc',t', ?_,by rw[(E.mu c.g h1).2];exact h4,h5,fun j hj=> ?_⟩
     · rw[hm,hoth _ (Array.getElem?_eq_some_iff.1 h3).1 hq];exact h3
     · obtain⟨u,h7,h8⟩:=h6 j hj
       exact⟨u,h7,h8.mono E⟩
   · refine⟨Nat.lt_succ_self _,by simp only[Cx.new,if_true];exact hpI,cc,t,by simp only[Cx.new,if_true];exact hh,by simp only[Cx.new,if_true],hl,fun j hj=> ?_⟩
     obtain⟨u,h7,h8⟩:=hc j hj
     exact⟨u,h7,h8.mono E⟩
 · rcases key i c hi with⟨_,hi,hm,hq⟩|⟨rfl,rfl⟩<;>rcases key i' c' hi' with⟨_,hi',hm',hq'⟩|⟨rfl,rfl⟩
   · rw[hm,hm']at heq
     exact R.inj _ _ _ _ hi hi' heq
   · rw[hm]at heq
     simp only[Cx.new,if_true]at heq
     exact absurd heq hq
   · rw[hm']at heq
     simp only[Cx.new,if_true]at heq
     exact absurd heq.symm hq'
   · rfl
end Go.Lg

namespace Go.Lg
def Qh(P:Program)(o:Oper)(st:St)(K:AV→Ji→Prop):Prop:=
 ∀w X a,V2 w X a st→∀(next:Act→World→Prop) (Q:Exit→Act→World→Prop),
  (∀v u X' H' w',VA w' X' H' v u→QZ w' X' H'→Ev w X st.h w' X' H'→K v H'→next (a.put o.dst u) w')→o.wp P a w next Q
theorem Qh.val{P:Program}{o:Oper}{st:St}{K:AV→Ji→Prop}{v:AV}(h:WQ P st.s st.h o.op=some v)(hk:K v st.h):Qh P o st K:=by
 intro w X a R next Q hn
 obtain⟨u,h1,h2⟩:=Xo (P:=P) R h
 unfold Oper.wp
 rw[h1 w (Za.refl w) o rfl,Oper.upon_value]
 exact hn v u X st.h w h2 R.heap (Ev.refl _ _ _) hk
def Vf:AV→Option (List CV)
 | .c c=>some [c]
 | .agg cs=>some cs
 |_=>none
theorem VZ{w:World}{X:Cx}{H:Ji}{v:AV}{u:Value}{l:List CV}(h:Vf v=some l)(hv:VA w X H v u):
 u.cells.size=l.length∧(∀j (h:j<l.length),∃x,u.cells[j]? =some x∧VC w X H l[j] x)∧∀x∈u.cells.toList,x.oneCell'=true:=by
 cases hv with
 |c x u hx=>
  cases h
  have h1:=hx.one
  have hu:u.cells= #[u]:=by cases u<;>first|rfl|(simp[Value.oneCell']at h1)
  rw[hu]
  refine⟨rfl,fun j hj=> ?_,fun x hx=>by simp at hx;subst hx;exact h1⟩
  have:j=0:=by simp at hj;omega
  subst this
  exact⟨u,rfl,hx⟩
 |agg cs vs hs hc=>
  cases h
  refine⟨hs,hc,fun x hx=> ?_⟩
  obtain⟨j,hj,rfl⟩:=List.mem_iff_getElem.1 hx
  simp only[Value.cells,Array.length_toList]at hj
  obtain⟨y,h1,h2⟩:=hc j (by omega)
  have:(vs.toList[j]'(by simpa using hj))=y:=by
   simp only[Array.getElem_toList]
   simpa[hj]using h1
  simp only[Value.cells]
  rw[this]
  exact h2.one
 |_=>cases h
theorem UK{P:Program}{t:TypeId}{ti:TI}(h:Jy P t=some ti):∃z,(∀w,(zeroValue t).run P w= .ok z w)∧z.cells.size=ti.zero.length∧
 ∀(w:World) (X:Cx) (H:Ji) j (h:j<ti.zero.length),∃x,z.cells[j]? =some x∧VC w X H ti.zero[j] x:=by
 obtain⟨i,d,z,hi,hd,hz,hm,h1,h2,h3⟩:=J2 h
 obtain⟨hl,hg⟩:=Zf hm
 refine⟨z,fun w=>by simp[zeroValue,typeInfo,hi,hz],by simpa using hl.symm,fun w X H j hj=> ?_⟩
 obtain⟨y,h4,h5⟩:=hg j (by omega)
 have:ti.zero[j]=y:=by simpa[Jh hj]using h4
 rw[this]
 exact⟨z.cells.toList[j]'(by omega),by simp at hl;simp[←hl,hj],Yc h5⟩
theorem Zn{P:Program}{o:Oper}{a:Act}{w w':World}{u:Value}{next:Act→World→Prop}{Q:Exit→Act→World→Prop}(h:(execOp a.eval o).run P w= .ok (.value u) w')(hn:next (a.put o.dst u) w'):o.wp P a w next Q:=by
 unfold Oper.wp;rw[h,Oper.upon_value];exact hn
theorem JdN{P:Program}{o:Oper}{a:Act}{w w':World}{next:Act→World→Prop}{Q:Exit→Act→World→Prop}(h:(execOp a.eval o).run P w= .ok .skip w')(hn:next (a.put o.dst undef) w'):o.wp P a w next Q:=by
 unfold Oper.wp;rw[h,Oper.upon_skip];exact hn
theorem JbU{w w':World}{X:Cx}{H:Ji}{sz c:Nat}{cs:List CV}:VA w' (X.new w.heap.size c) (H++[some ⟨X.t,sz,cs⟩]) (.c (.ptr H.length X.t 0)) (.pointer (some ⟨w.heap.size,0,none⟩)):=
 .c _ _ ⟨Nat.lt_succ_self _,rfl,fun _=>by simp[Cx.new]⟩
theorem Qh.alloc{P:Program}{o:Oper}{st:St}{K:AV→Ji→Prop}{t:TypeId}{ti:TI}(ho:o.op= .alloc t)(ht:Jy P t=some ti)
 (hk:∀g,K (.c (.ptr st.h.length g 0)) (st.h++[some ⟨g,ti.size,ti.zero⟩])):Qh P o st K:=by
 intro w X a R next Q hn
 obtain⟨z,hz,hzs,hzc⟩:=UK ht
 have hrun:(execOp a.eval o).run P w= .ok (.value (.pointer (some ⟨w.heap.size,0,none⟩))) (w.alloc (.cells z.cells t)):=by
  simp only[execOp,ho,Instr.alloc,Sem.run_bind,hz,Result.andThen_ok]
  simp[newVar,newRow]
 obtain⟨h1,h2⟩:=Vl (w':=w.alloc (.cells z.cells t)) R.heap (sz:=ti.size) (t:=t) (cs:=ti.zero) (cc:=z.cells) rfl rfl rfl rfl (by omega) (fun j hj=>hzc w X st.h j hj)
 exact Zn hrun (hn _ _ _ _ _ JbU h1 h2 (hk _))
theorem Qh.box{P:Program}{o:Oper}{st:St}{K:AV→Ji→Prop}{t:TypeId}{x:Operand}{cs:List CV}(ho:o.op= .box t x)(hx:Vf (QH st.s x)=some cs)
 (hk:∀g,K (.c (.ptr st.h.length g 0)) (st.h++[some ⟨g,1,cs⟩])):Qh P o st K:=by
 intro w X a R next Q hn
 obtain⟨h1,h2,h3⟩:=VZ hx (JO R x)
 have hrun:(execOp a.eval o).run P w= .ok (.value (.pointer (some ⟨w.heap.size,0,none⟩))) (w.alloc (.cells (a.eval x).cells t)):=by
  simp[execOp,ho,Instr.box,newVar,newRow]
 obtain⟨h4,h5⟩:=Vl (w':=w.alloc (.cells (a.eval x).cells t)) R.heap (sz:=1) (t:=t) (cs:=cs) (cc:=(a.eval x).cells) rfl rfl rfl rfl (by omega) h2
 exact Zn hrun (hn _ _ _ _ _ JbU h4 h5 (hk _))
def Qm(l:List CV)(o:Nat)(m:List CV):List CV:=l.take o++m++l.drop (o+m.length)
theorem Zw{l m:List CV}{o:Nat}(h:o+m.length≤l.length):(Qm l o m).length=l.length:=by
 simp[Qm];omega
theorem Yo{l m:List CV}{o:Nat}(h:o+m.length≤l.length)(j:Nat)(hj:j<(Qm l o m).length):
 (j<o∧∃h:j<l.length,(Qm l o m)[j]=l[j])∨(∃h:j -o<m.length,o≤j∧(Qm l o m)[j]=m[j -o])∨(o+m.length≤j∧∃h:j<l.length,(Qm l o m)[j]=l[j]):=by
 have hl:=Zw h
 by_cases h1:j<o
 · refine .inl ⟨h1,by omega, ?_⟩
   simp only[Qm,Js]
   rw[List.getElem_append_left (by simp;omega)]
   simp
 · by_cases h2:j<o+m.length
   · refine .inr (.inl ⟨by omega,by omega, ?_⟩)
     simp only[Qm,Js]
     rw[List.getElem_append_right (by simp;omega)]
     rw[List.getElem_append_left (by simp;omega)]
     congr 1
     simp;omega
   · refine .inr (.inr ⟨by omega,by omega, ?_⟩)
     simp only[Qm]
     rw[List.getElem_append_right (by simp;omega)]
     simp only[List.getElem_drop]
     congr 1
     simp;omega
theorem RF{l:Array Value}{m:List Value}{o j:Nat}(h:o+m.length≤l.size):
 (l.toList.take o++m++l.toList.drop (o+m.length)).toArray[j]? =if o≤j∧j<o+m.length then m[j -o]? else l[j]? :=by
 simp only[List.getElem?_toArray]
 split
 · rename_i hc
   rw[Js,JN (by simp;omega),Jb (by simp;omega)]
   congr 1
   simp;omega
 · rename_i hc
   by_cases h1:j<o
   · rw[Js,Jb (by simp;omega)]
     rw[JG h1]
     simp
   · rw[JN (by simp;omega),List.getElem?_drop]
     have:o+m.length+(j -(List.take o l.toList++m).length)=j:=by simp;omega
     rw[this]
     simp
theorem Yn(w:World)(g:Nat)(cur cs:Array Value)(t:TypeId)(fr:Nat×Nat)(hg:w.heap[g]? =some (.cells cur t fr)):
 (w.setRow g cs).heap[g]? =some (.cells cs t fr)∧(∀k,k≠g→(w.setRow g cs).heap[k]? =w.heap[k]?)∧(w.setRow g cs).heap.size=w.heap.size:=by
 refine⟨?_,fun k hk=> ?_,by simp[World.setRow]⟩
 · simp[World.setRow,Array.getElem?_modify,hg]
 · simp only[World.setRow,Array.getElem?_modify]
   rw[if_neg (fun h=>hk h.symm)]
theorem Ke{w:World}{X:Cx}{H:Ji}(R:QZ w X H){id g:Nat}{b:ZG}(hl:look H id g=some b){o:Nat}{cs:List CV}{vs:List Value}(hvl:vs.length=cs.length)(ho:o+cs.length≤b.cs.length)
 (hv:∀j (h:j<cs.length),∃x,vs[j]? =some x∧VC w X H cs[j] x) (h1:∀x∈vs,x.oneCell'=true):
 ∃w',(∀P,(storeCells ⟨X.mu g,o,none⟩ vs).run P w= .ok () w')∧QZ w' X (H.set id (some ⟨b.g,b.sz,Qm b.cs o cs⟩))∧Ev w X H w' X (H.set id (some ⟨b.g,b.sz,Qm b.cs o cs⟩)):=by
 obtain⟨hid,hgg⟩:=Jw hl
 subst hgg
 obtain⟨g1,g2,cc,t,g3,g4,g5,g6⟩:=R.blk id b hid
 have hle:o+vs.length≤cc.size:=by omega
 obtain⟨k1,k2,k3⟩:=Yn w (X.mu b.g) cc (cc.toList.take o++vs++cc.toList.drop (o+vs.length)).toArray t (0,0) g3
 refine⟨_,fun P=> ?_,Jci R hid k1 k2 k3 rfl rfl rfl (by simp;omega) (Zw ho) fun j hj=> ?_⟩
 · have:=run_storeCells_at (P:=P) (X.mu b.g) o t vs 0 cc w g3 (by simpa using hle) h1
   simpa using this
 · rw[RF hle]
   rcases Yo ho j hj with⟨h2,h3,h4⟩|⟨h2,h3,h4⟩|⟨h2,h3,h4⟩
   · rw[if_neg (by omega),h4];exact g6 j h3
   · rw[if_pos (by omega),h4];exact hv _ h2
   · rw[if_neg (by omega),h4];exact g6 j h3
theorem Qh.store{P:Program}{o:Oper}{st:St}{K:AV→Ji→Prop}{t:TypeId}{ti:TI}{p x:Operand}{id g off:Nat}{b:ZG}{cs:List CV}(ho:o.op= .store t p x)(ht:Jy P t=some ti)
 (hp:QH st.s p= .c (.ptr id g off)) (hl:look st.h id g=some b) (hx:Vf (QH st.s x)=some cs) (hs:cs.length=ti.size) (hle:off+cs.length≤b.cs.length)
 (hk:K .void (st.h.set id (some ⟨b.g,b.sz,Qm b.cs off cs⟩))):Qh P o st K:=by
 intro w X a R next Q hn
 obtain⟨h1,h2,h3⟩:=VZ hx (JO R x)
 have hpv:=JO R p
 rw[hp]at hpv
 have hpe:=(ZB hpv).2.2 (by rw[hl];rfl)
 obtain⟨w',h4,h5,h6⟩:=Ke R.heap hl (o:=off) (cs:=cs) (vs:=(a.eval x).cells.toList) (by simpa using h1) hle (fun j hj=>by obtain⟨y,h7,h8⟩:=h2 j hj;exact⟨y,by simpa using h7,h8⟩) h3
 have hrun:(execOp a.eval o).run P w= .ok .skip w':=by
  have hsz:¬((a.eval x).cells.size≠ti.size):=by omega
  simp only[execOp,ho,Instr.storeAt,hpe,Instr.sureAddr,Sem.run_bind,Sem.run_pure,Result.andThen_ok,storeVar,QL ht,Sem.run_ite,if_neg hsz,h4]
 exact JdN hrun (hn .void undef _ _ _ .void h5 h6 hk)
end Go.Lg
