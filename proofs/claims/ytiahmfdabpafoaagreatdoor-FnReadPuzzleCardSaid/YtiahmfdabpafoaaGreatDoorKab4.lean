/- LgX, GpH, cut to what is needed. -/
import Derived.Test.YtiahmfdabpafoaaGreatDoorKab1
import Derived.Test.YtiahmfdabpafoaaGreatDoorKab3
import Derived.Test.YtiahmfdabpafoaaGreatDoorKab2
open List renaming cons_append → Jc, nil_append → Jd, length_cons → Jf, replicate → Jg, length_nil → Jl, take_of_length_le → Jn, drop_zero → JB, map_append → J1, map_cons → Qf, getElem?_map → Qo, map_nil → ZC, all_cons → XO, all_nil → Y0
open Nat renaming reduceAdd→zA,reduceMul→zM,reduceSub→zS,reduceEqDiff→zE,reduceLeDiff→zL
set_option linter.unusedSimpArgs false
set_option linter.unusedVariables false
namespace Go.Lg
section
variable{P:Program}{ops r:Array Oper}{rl:List Oper}{s:List AV}{H:Ji}{K:KS}{Q:KT}{d:Option Tmp}{op:Op}{t:TypeId}{p:String}{e:Array Edge}{gd:Option (Nat×Bool)}{c x y:Code}{w:Bool}{q:Prop}[Decidable q]
theorem JU(h1:q→ZQ P ops ⟨d,op,t,p,e,gd⟩ rl s H K w (some true))(h2:¬q→ZQ P ops ⟨d,op,t,p,e,gd⟩ rl s H K w (some false)):ZQ P ops ⟨d,op,t,p,e,gd⟩ rl s H K w (some (decide q)):=by
 by_cases h:q
 · rw[decide_eq_true h];exact h1 h
 · rw[decide_eq_false h];exact h2 h
theorem JJ(h1:q→ZQ P ops ⟨d,op,t,p,e,gd⟩ rl s H K w (some false))(h2:¬q→ZQ P ops ⟨d,op,t,p,e,gd⟩ rl s H K w (some true)):ZQ P ops ⟨d,op,t,p,e,gd⟩ rl s H K w (some (!decide q)):=by
 by_cases h:q
 · rw[decide_eq_true h];exact h1 h
 · rw[decide_eq_false h];exact h2 h
theorem J6{b:Bool}(h1:b=true→ZQ P ops ⟨d,op,t,p,e,gd⟩ rl s H K w (some false))(h2:b=false→ZQ P ops ⟨d,op,t,p,e,gd⟩ rl s H K w (some true)):ZQ P ops ⟨d,op,t,p,e,gd⟩ rl s H K w (some (!b)):=by
 cases b
 · exact h2 rfl
 · exact h1 rfl
theorem JS{G:KS}(h1:q→ZO P ops ⟨d,op,t,p,e,gd⟩ rl s H G w (some true))(h2:¬q→ZO P ops ⟨d,op,t,p,e,gd⟩ rl s H G w (some false)):ZO P ops ⟨d,op,t,p,e,gd⟩ rl s H G w (some (decide q)):=by
 by_cases h:q
 · rw[decide_eq_true h];exact h1 h
 · rw[decide_eq_false h];exact h2 h
theorem JH{G:KS}(h1:q→ZO P ops ⟨d,op,t,p,e,gd⟩ rl s H G w (some false))(h2:¬q→ZO P ops ⟨d,op,t,p,e,gd⟩ rl s H G w (some true)):ZO P ops ⟨d,op,t,p,e,gd⟩ rl s H G w (some (!decide q)):=by
 by_cases h:q
 · rw[decide_eq_true h];exact h1 h
 · rw[decide_eq_false h];exact h2 h
theorem J4{b:Bool}{G:KS}(h1:b=true→ZO P ops ⟨d,op,t,p,e,gd⟩ rl s H G w (some false))(h2:b=false→ZO P ops ⟨d,op,t,p,e,gd⟩ rl s H G w (some true)):ZO P ops ⟨d,op,t,p,e,gd⟩ rl s H G w (some (!b)):=by
 cases b
 · exact h2 rfl
 · exact h1 rfl
theorem Jo(h1:q→cw P x s H Q)(h2:¬q→cw P y s H Q):W9 P x y s H Q (decide q):=by
 by_cases h:q
 · rw[decide_eq_true h,YP];exact h1 h
 · rw[decide_eq_false h,YQ];exact h2 h
theorem Jk(h1:q→cw P y s H Q)(h2:¬q→cw P x s H Q):W9 P x y s H Q (!decide q):=by
 by_cases h:q
 · rw[decide_eq_true h];exact YQ▸h1 h
 · rw[decide_eq_false h];exact YP▸h2 h
theorem Jr{b:Bool}(h1:b=true→cw P x s H Q)(h2:b=false→cw P y s H Q):W9 P x y s H Q b:=by
 cases b
 · rw[YQ];exact h2 rfl
 · rw[YP];exact h1 rfl
theorem Jp{b:Bool}(h1:b=true→cw P y s H Q)(h2:b=false→cw P x s H Q):W9 P x y s H Q (!b):=by
 cases b
 · exact YP▸h2 rfl
 · exact YQ▸h1 rfl
end
def KO(m:List Bool)(H H':Ji):Prop:=Qc (QT m H') (QT m H)
theorem YB(H:Ji):QT [] H=H:=by cases H<;>rfl
theorem JeH(m:List Bool)(x:Option ZG)(H:Ji):QT (true::m) (x::H)=none::QT m H:=rfl
theorem JeI(m:List Bool)(x:Option ZG)(H:Ji):QT (false::m) (x::H)=x::QT m H:=rfl
theorem JeJ(m:List Bool):QT m []=[]:=by cases m with
 |nil=>rfl
 |cons b m=>cases b<;>rfl
theorem Jev(m:List Bool)(H:Ji):KO m H H=True:=eq_true (Qc.refl _)
theorem JgA(m:List Bool)(H:Ji):KO m [] H=True:=eq_true (by unfold KO;rw[JeJ];exact J8 _)
theorem JbS(H H':Ji):KO [] H (H++H')=True:=eq_true (by unfold KO;rw[YB,YB];exact Qc.app _ _)
theorem YK(x:Option ZG)(H H':Ji):Qc (x::H) (x::H')↔Qc H H':=
 ⟨fun h id b hb=>h (id+1) b hb,fun h=>Zq x H H' h⟩
theorem Gt(x:Option ZG)(H H':Ji):Qc (x::H) (none::H')↔Qc H H':=
 ⟨fun h id b hb=>h (id+1) b hb,fun h=>Bb x H H' h⟩
theorem JhG(x:Option ZG)(H H':Ji):KO [] (x::H) (x::H')=KO [] H H':=by
 unfold KO;simp only[YB];exact propext (YK x H' H)
theorem okM_t(m:List Bool)(x y:Option ZG)(H H':Ji):KO (true::m) (x::H) (y::H')=KO m H H':=by
 unfold KO;simp only[JeH];exact propext (Gt none _ _)
theorem okM_f(m:List Bool)(x:Option ZG)(H H':Ji):KO (false::m) (x::H) (x::H')=KO m H H':=by
 unfold KO;simp only[JeI];exact propext (YK x _ _)
theorem Z6.empty{P:Program}{ops:Array Oper}{o:Oper}{s:List AV}{t:TypeId}{ei:TI}(ho:o.op= .buildSlice t 0 #[]) (hs:QJ P t=some ei) (H:Ji):Z6 P ops o s H (.c .emp):=by
 intro w X a R next Q hn
 obtain⟨ti,e,ht,hk,he⟩:=ZM hs
 obtain⟨inf,d,z',h1,h2,h3,h4,h5,h6,h7⟩:=J2 ht
 rw[h5]at hk;cases QW hk
 have hrun:(execOp a.eval o).run P w= .ok (.value (.slice (some ⟨w.heap.size,0,none⟩) 0 0)) (w.alloc (.cells #[] e)):=by
  simp only[execOp,ho,Instr.buildSlice,Sem.run_bind,run_underlying h2,Result.andThen_ok,QL he,Sem.run_ite,Sem.run_pure]
  simp[newRow,Instr.fill]
  rw[show Array.range 0= #[]from rfl,Array.map_empty]
 have R0:QZ w X []:=⟨R.heap.imm,fun id b hb=>by simp at hb,fun id id' b b' hb=>by simp at hb,R.heap.tab⟩
 obtain⟨_,k2⟩:=Vl (w':=w.alloc (.cells #[] e)) R0 (sz:=1) (t:=e) (cs:=[]) (cc:= #[]) rfl rfl rfl rfl (Nat.le_refl _) (fun j hj=>absurd hj (Nat.not_lt_zero _))
 have no:∀b,¬WN X [] b:=fun b ⟨id,blk,h,_⟩=>by simp at h
 have hg:Za w (w.alloc (.cells #[] e)):=⟨fun b hb=>k2.frame b hb (no b),k2.size,k2.os,k2.tape,k2.output⟩
 exact Zn hrun (hn _ _ X hg (UF.refl _ _) (.c _ _ ⟨_,rfl⟩) (hg.rel R.heap))
theorem BJ{P:Program}{ops:Array Oper}{o:Oper}{s:List AV}{K:AV→Prop}{t:TypeId}{n:Nat}{ps:Array (Nat×Operand)}(ho:o.op= .buildSlice t n ps)(h:Zv P s t n ps.toList K):∃v,(∀H,Z6 P ops o s H v)∧K v:=by
 have h0:=h
 unfold Zv at h
 split at h
 · rename_i ei rs h1 h2
   split at h
   · rename_i xs h3
     refine⟨.c (.f (.sl n xs)),fun H=> ?_, ?_⟩
     · have:Zv P s t n ps.toList (fun v=>v= .c (.f (.sl n xs))):=by
        unfold Zv
        simp only[h1,h2,h3]
        obtain⟨hz,hif⟩:=h
        refine⟨hz, ?_⟩
        split at hif
        · rename_i hq;rw[if_pos hq];trivial
        · exact hif.elim
       obtain⟨v,q1,q2⟩:=WF (ops:=ops) (H:=H) ho this
       rw[←q2];exact q1
     · obtain⟨hz,hif⟩:=h
       split at hif
       · exact hif
       · exact hif.elim
   · exact h.elim
 · exact h.elim
def Xh(P:Program)(s:List AV)(t:TypeId)(v x:AV)(K:AV→Prop):Prop:=
 match QJ P t,v,x with
 |some ei, .c .emp, .c (.f (.sl m cs))=>W0 (ei.zero.length=ei.size∧cs.length=m*ei.size∧m≤9223372036854775807∧m*ei.bytes≤140737488355328) (K (.c (.f (.sl m cs))))
 |_,_,_=>False
theorem G8{P:Program}{ops:Array Oper}{o:Oper}{s:List AV}{K:AV→Prop}{t:TypeId}{v x:Operand}(ho:o.op= .call ⟨.builtin .append,#[v,x],#[t,t]⟩) (h:Xh P s t (QH s v) (QH s x) K):∃r,(∀H,Z6 P ops o s H r)∧K r:=by
 unfold Xh at h
 split at h
 · rename_i ei m cs hs hv hx
   obtain⟨⟨hz,hl,h63,h47⟩,hK⟩:=h
   obtain⟨ti,e,k1,k2,k3⟩:=ZM hs
   refine⟨_,fun H=>Z6.ops (fun y hy=> ?_) rfl (fun s' hs'=> ?_),hK⟩
   · rw[ho]at hy
     simp only[Op.operands,Call.operands]at hy
     have:y=v∨y=x:=by simpa using hy
     rcases this with rfl|rfl
     · rw[hv];rfl
     · rw[hx];rfl
   · have e1:QH s' v= .c .emp:=by rw[hs' v (by rw[ho];simp[Op.operands,Call.operands])];exact hv
     have e2:QH s' x= .c (.f (.sl m cs)):=by rw[hs' x (by rw[ho];simp[Op.operands,Call.operands])];exact hx
     by_cases hm:m=0
     · subst hm
       have hcs:cs=[]:=List.eq_nil_of_length_eq_zero (by omega)
       subst hcs
       refine Qh.append_zero (n:=0) (l:=[]) ho k1 k2 k3 ?_ ?_ ?_
       · rw[e1];rfl
       · rw[e2];simp[elems]
       · rw[e1];rfl
     · refine Qh.append_new (n:=0) (m:=m) (l:=[]) (k:=cs.map .f) ho k1 k2 k3 hz ?_ ?_ ?_ (by omega) (by omega) (by simpa using h47) fun g=> ?_
       · rw[e1];rfl
       · rw[e2];simp only[elems];rw[if_pos hl]
       · rw[e1];simp[RT]
       · have:look [some (⟨g,ei.size,([]:List CV)++cs.map .f⟩:ZG)] 0 g=some ⟨g,ei.size,cs.map .f⟩:=by simp[look]
         simp only[Jl,Jd,U7,Wf,frzC,frz]
         have l0:look [some (⟨g,ei.size,cs.map .f⟩:ZG)] 0 g=some ⟨g,ei.size,cs.map .f⟩:=by simp[look]
         rw[l0]
         simp only[JB,Nat.zero_add]
         rw[Jn (by simp[hl]),N3]
         rfl
 · exact h.elim
def VL(P:Program)(ops:Array Oper)(o:Oper)(s:List AV)(K:AV→Prop):Prop:=
 match o.op with
 | .buildSlice t n ps=>if n=0∧ps= #[]then Qx (QJ P t) (fun _=>K (.c .emp))else Zv P s t n ps.toList K
 | .call ⟨.builtin .append,⟨[v,x]⟩,⟨[t,u]⟩⟩=>if t=u then Xh P s t (QH s v) (QH s x) K else False
 |_=>∃v,(∀H,Z6 P ops o s H v)∧K v
theorem Jcr{P:Program}{ops:Array Oper}{o:Oper}{s:List AV}{K:AV→Prop}(h:VL P ops o s K):∃v,(∀H,Z6 P ops o s H v)∧K v:=by
 unfold VL at h
 split at h
 · rename_i t n ps ho
   split at h
   · rename_i hn
     obtain⟨rfl,rfl⟩:=hn
     obtain⟨ei,h1,h2⟩:=h
     exact⟨_,fun H=>Z6.empty ho h1 H,h2⟩
   · exact BJ ho h
 · rename_i v x t u ho
   split at h
   · rename_i htu;subst htu
     exact G8 ho h
   · exact h.elim
 · exact h
theorem FY{P:Program}{ops:Array Oper}{s:List AV}{K:AV→Prop}{d:Option Tmp}{t t':TypeId}{p:String}{e:Array Edge}{g:Option (Nat×Bool)}:VL P ops ⟨d, .buildSlice t 0 #[],t',p,e,g⟩ s K=Qx (QJ P t) (fun _=>K (.c .emp)):=by
 simp[VL]
theorem G7{P:Program}{ops:Array Oper}{s:List AV}{K:AV→Prop}{d:Option Tmp}{t t':TypeId}{p:String}{e:Array Edge}{g:Option (Nat×Bool)}{n:Nat}{ps:List (Nat×Operand)}:VL P ops ⟨d, .buildSlice t (n+1) ps.toArray,t',p,e,g⟩ s K=Zv P s t (n+1) ps K:=by
 simp[VL]
theorem Jcq{P:Program}{ops:Array Oper}{s:List AV}{K:AV→Prop}{d:Option Tmp}{t t':TypeId}{p:String}{e:Array Edge}{g:Option (Nat×Bool)}{v x:Operand}:VL P ops ⟨d, .call ⟨.builtin .append,#[v,x],#[t,t]⟩,t',p,e,g⟩ s K=Xh P s t (QH s v) (QH s x) K:=by
 simp[VL]
theorem JaB{P:Program}{s:List AV}{t:TypeId}{m:Nat}{cs:List FV}{K:AV→Prop}:Xh P s t (.c .emp) (.c (.f (.sl m cs))) K=Qx (QJ P t) (fun ei=>W0 (ei.zero.length=ei.size∧cs.length=m*ei.size∧m≤9223372036854775807∧m*ei.bytes≤140737488355328) (K (.c (.f (.sl m cs))))):=by
 unfold Xh
 cases QJ P t<;>simp[Qx]
section
variable(P:Program)(ops:Array Oper)(m:List Bool)(F:List Nat)(D:Option Nat)(r:List Nat)(G:Option Gh)(s:List AV)(H:Ji)(K:KS)
def XY:List Nat→Option Gh→List AV→Ji→KS→Prop
 |[],G,s,H,K=>Xl G s H K
 |i::r,G,s,H,K=>match ops[i]? with
  |none=>False
  |some o=>if D=some i then Qx (ghV P s o) (fun e=>e.d<s.length∧XY r (some e) (QG s o.dst .any) H K)else match o.guard with
   |none=>if UA o.op=true then Va P o s (QT m H) (fun v _=>XY r G (QG s o.dst v) H K)else if F.contains i=true then VL P ops o s (fun v=>XY r G (QG s o.dst v) H K)else if W4 o.op=true then Va P o s H (fun v H'=>KO m H H'∧XY r G (QG s o.dst v) H' K)else Qe P ops o s H (fun v H'=>KO m H H'∧XY r G (QG s o.dst v) H' K)
   |some (j,want)=>Qx (Zh ops s j) (fun g=>ZP g want (if UA o.op=true then Va P o s (QT m H) (fun v _=>XY r G (QG s o.dst v) H K)else if F.contains i=true then VL P ops o s (fun v=>XY r G (QG s o.dst v) H K)else if W4 o.op=true then Va P o s H (fun v H'=>KO m H H'∧XY r G (QG s o.dst v) H' K)else Qe P ops o s H (fun v H'=>KO m H H'∧XY r G (QG s o.dst v) H' K)) (XY r G (QG s o.dst .void) H K))
def lwV(d:Option Tmp):KV:=fun v _=>XY P ops m F D r G (QG s d v) H K
def lwL(d:Option Tmp):KV:=fun v H'=>KO m H H'∧XY P ops m F D r G (QG s d v) H' K
def lwG(d:Option Tmp):Gh→Prop:=fun e=>e.d<s.length∧XY P ops m F D r (some e) (QG s d .any) H K
def lwS(d:Option Tmp):AV→Prop:=fun v=>XY P ops m F D r G (QG s d v) H K
def YC(i:Nat)(o:Oper):Prop:=if UA o.op=true then Va P o s (QT m H) (lwV P ops m F D r G s H K o.dst)else if F.contains i=true then VL P ops o s (lwS P ops m F D r G s H K o.dst)else if W4 o.op=true then Va P o s H (lwL P ops m F D r G s H K o.dst)else Qe P ops o s H (lwL P ops m F D r G s H K o.dst)
def FA(i:Nat)(o:Oper)(want:Bool):Option Bool→Prop:=fun g=>ZP g want (YC P ops m F D r G s H K i o) (XY P ops m F D r G (QG s o.dst .void) H K)
def lwO(i:Nat):Option Oper→Prop
 |none=>False
 |some o=>if D=some i then Qx (ghV P s o) (lwG P ops m F D r s H K o.dst)else match o.guard with
  |none=>YC P ops m F D r G s H K i o
  |some (j,want)=>Qx (Zh ops s j) (FA P ops m F D r G s H K i o want)
theorem JP(i:Nat):XY P ops m F D (i::r) G s H K=lwO P ops m F D r G s H K i ops[i]? :=by
 rw[XY]
 cases ops[i]? with
 |none=>rfl
 |some o=>rfl
theorem FB(ih:∀G s H,XY P ops m F D r G s H K→lw P ops m F D r G s H K)(i:Nat)(o:Oper)(h:YC P ops m F D r G s H K i o):(if Wc F i o=true then∃v,qv P ops m o s H v∧lw P ops m F D r G (QG s o.dst v) H K
         else Qe P ops o s H fun v H'=>Qc (QT m H') (QT m H)∧lw P ops m F D r G (QG s o.dst v) H' K):=by
 unfold YC at h
 split at h
 · rename_i hv
   rw[if_pos (by simp only[Wc,hv,Bool.true_or])]
   simp only[Va,hv,if_true,Qx,FO,lwV]at h
   obtain⟨v,h1,h2⟩:=h
   exact⟨v,by unfold qv;rw[if_pos hv];exact h1,ih _ _ _ h2⟩
 · rename_i hv
   split at h
   · rename_i hc
     rw[if_pos (by unfold Wc;rw[hc];simp only[Bool.or_true])]
     obtain⟨v,h1,h2⟩:=Jcr h
     exact⟨v,by unfold qv;rw[if_neg hv];exact h1,ih _ _ _ h2⟩
   · rename_i hc
     rw[if_neg (by simp only[Wc,Bool.or_eq_true];exact fun h=>h.elim hv hc)]
     have hL:Qe P ops o s H (lwL P ops m F D r G s H K o.dst):=by
      split at h
      · rename_i hm
        refine NH ?_
        unfold JeN
        rw[if_pos hm]
        simp only[Va,if_neg hv]at h
        exact h
      · exact h
     exact hL.mono fun v H' hk=>⟨hk.1,ih _ _ _ hk.2⟩
theorem Jb0:XY P ops m F D [] G s H K=Xl G s H K:=by rw[XY]
theorem Jhf:∀(r:List Nat) (G:Option Gh) (s:List AV) (H:Ji),XY P ops m F D r G s H K→lw P ops m F D r G s H K
 |[],G,s,H,h=>by rw[Jb0]at h;rw[lw];exact h
 |i::r,G,s,H,h=>by
  have ih:=Jhf r
  rw[JP]at h
  unfold lw
  cases ho:ops[i]? with
  |none=>rw[ho]at h;exact h.elim
  |some o=>
   rw[ho]at h
   simp only[lwO]at h⊢
   split at h
   · rename_i hD
     rw[if_pos hD]
     obtain⟨e,h1,h2,h3⟩:=h
     exact⟨e,h1,h2,ih _ _ _ h3⟩
   · rename_i hD
     rw[if_neg hD]
     split at h
     · rename_i hg;simp only[hg];exact FB P ops m F D r G s H K ih i o h
     · rename_i j want hg
       simp only[hg]
       obtain⟨g,h1,h2,h3⟩:=h
       exact⟨g,h1,fun he=>FB P ops m F D r G s H K ih i o (h2 he),fun hn=>ih _ _ _ (h3 hn)⟩
theorem Ua{P:Program}{ops:Array Oper}{s:List AV}{H:Ji}{K:KS}(π:List Nat)(F:List Nat)(D:Option Nat)(σ:List Nat)(m:List Bool)(hm:P.follows .mixedOrders=true)(hB:U9 ops π F D σ=true)(h:XY P ops m F D π none s H (swK P ops σ K)):Bk P ops s H K:=
 JgU π F D σ m hm hB (Jhf P ops m F D _ π none s H h)
theorem NG(i:Nat)(d:Option Tmp)(op:Op)(t:TypeId)(p:String)(e:Array Edge):
 lwO P ops m F D r G s H K i (some ⟨d,op,t,p,e,none⟩)=if D=some i then Qx (ghV P s ⟨d,op,t,p,e,none⟩) (lwG P ops m F D r s H K d)else YC P ops m F D r G s H K i ⟨d,op,t,p,e,none⟩:=propext Iff.rfl
theorem JcT(i:Nat)(d:Option Tmp)(op:Op)(t:TypeId)(p:String)(e:Array Edge)(j:Nat)(want:Bool):
 lwO P ops m F D r G s H K i (some ⟨d,op,t,p,e,some (j,want)⟩)=if D=some i then Qx (ghV P s ⟨d,op,t,p,e,some (j,want)⟩) (lwG P ops m F D r s H K d)else Qx (Zh ops s j) (FA P ops m F D r G s H K i ⟨d,op,t,p,e,some (j,want)⟩ want):=propext Iff.rfl
theorem NF(i:Nat)(d:Option Tmp)(op:Op)(t:TypeId)(p:String)(e:Array Edge)(g:Option (Nat×Bool)):
 YC P ops m F D r G s H K i ⟨d,op,t,p,e,g⟩=if UA op=true then Va P ⟨d,op,t,p,e,g⟩ s (QT m H) (lwV P ops m F D r G s H K d)else if F.contains i=true then VL P ops ⟨d,op,t,p,e,g⟩ s (lwS P ops m F D r G s H K d)else if W4 op=true then Va P ⟨d,op,t,p,e,g⟩ s H (lwL P ops m F D r G s H K d)else Qe P ops ⟨d,op,t,p,e,g⟩ s H (lwL P ops m F D r G s H K d):=propext Iff.rfl
theorem JhO(d:Option Tmp)(v:AV)(H':Ji):lwV P ops m F D r G s H K d v H'=XY P ops m F D r G (QG s d v) H K:=propext Iff.rfl
theorem JeM(d:Option Tmp)(v:AV):lwS P ops m F D r G s H K d v=XY P ops m F D r G (QG s d v) H K:=propext Iff.rfl
theorem JhP(d:Option Tmp)(v:AV)(H':Ji):lwL P ops m F D r G s H K d v H'=W0 (KO m H H') (XY P ops m F D r G (QG s d v) H' K):=propext Iff.rfl
theorem JhQ(d:Option Tmp)(e:Gh):lwG P ops m F D r s H K d e=W0 (e.d<s.length) (XY P ops m F D r (some e) (QG s d .any) H K):=propext Iff.rfl
theorem RY(i:Nat)(d:Option Tmp)(op:Op)(t:TypeId)(p:String)(e:Array Edge)(gd:Option (Nat×Bool))(want:Bool)(g:Option Bool):
 FA P ops m F D r G s H K i ⟨d,op,t,p,e,gd⟩ want g=ZP g want (YC P ops m F D r G s H K i ⟨d,op,t,p,e,gd⟩) (XY P ops m F D r G (QG s d .void) H K):=propext Iff.rfl
theorem F2:Xl none s H K=K s H:=propext Iff.rfl
theorem F1(d:Tmp)(n:Option Nat)(sz:Nat)(cs:List CV):Xl (some ⟨d,n,sz,cs⟩) s H K=∀g,K (s.set d (ghA H.length g n)) (H++[some ⟨g,sz,cs⟩]):=propext Iff.rfl
def swO:Option Oper→Prop
 |none=>False
 |some o=>vw P ops [o] s H (swK P ops r K)
theorem Jga(i:Nat):sw P ops (i::r) s H K=swO P ops r s H K ops[i]? :=by
 rw[sw]
 cases ops[i]? <;>rfl
theorem Jhs:sw P ops [] s H K=K s H:=by rw[sw]
theorem JdY(o:Oper):swO P ops r s H K (some o)=vw P ops [o] s H (swK P ops r K):=propext Iff.rfl
theorem Jht:swK P ops r K s H=sw P ops r s H K:=propext Iff.rfl
end
theorem Jdj{P:Program}{s:List AV}{d:Tmp}{t:TypeId}{t':TypeId}{p:String}{e:Array Edge}{g:Option (Nat×Bool)}:ghV P s ⟨some d, .alloc t,t',p,e,g⟩=match Jy P t with
 |some ti=>if ti.zero.all VY=true then some ⟨d,none,ti.size,ti.zero⟩else none
 |none=>none:=rfl
theorem Je8{P:Program}{s:List AV}{d:Tmp}{t:TypeId}{t':TypeId}{p:String}{e:Array Edge}{g:Option (Nat×Bool)}{l c:Operand}:ghV P s ⟨some d, .makeSlice t l c,t',p,e,g⟩=match QJ P t,QH s l,QH s c with
 |some ei, .c (.f (.int _ l)), .c (.f (.int _ c))=>if ei.zero.all VY∧ei.zero.length=ei.size∧(0≤l∧l≤c)∧c≤9223372036854775807∧ei.bytes*c≤281474976710656 then some ⟨d,some (cnt l),ei.size,QC (cnt l*ei.size) ei.zero⟩else none
 |_,_,_=>none:=rfl
section
variable{P:Program}{ops:Array Oper}{m:List Bool}{F:List Nat}{D:Option Nat}{i:Nat}{rl:List Nat}{G:Option Gh}{s:List AV}{H:Ji}{K:KS}{d:Option Tmp}{op:Op}{t:TypeId}{p:String}{e:Array Edge}{gd:Option (Nat×Bool)}{b w:Bool}{q:Prop}[Decidable q]
theorem JhJ:FA P ops m F D rl G s H K i ⟨d,op,t,p,e,gd⟩ true (some true)=YC P ops m F D rl G s H K i ⟨d,op,t,p,e,gd⟩:=by rw[RY,Kq]
theorem JhN:FA P ops m F D rl G s H K i ⟨d,op,t,p,e,gd⟩ false (some false)=YC P ops m F D rl G s H K i ⟨d,op,t,p,e,gd⟩:=by rw[RY,Kt]
theorem JhK:FA P ops m F D rl G s H K i ⟨d,op,t,p,e,gd⟩ true (some false)=XY P ops m F D rl G (QG s d .void) H K:=by rw[RY,Ks]
theorem JhM:FA P ops m F D rl G s H K i ⟨d,op,t,p,e,gd⟩ false (some true)=XY P ops m F D rl G (QG s d .void) H K:=by rw[RY,Kr]
theorem JhL:FA P ops m F D rl G s H K i ⟨d,op,t,p,e,gd⟩ w none=XY P ops m F D rl G (QG s d .void) H K:=by rw[RY,W6]
theorem JD(h1:b=true→FA P ops m F D rl G s H K i ⟨d,op,t,p,e,gd⟩ w (some true))(h2:b=false→FA P ops m F D rl G s H K i ⟨d,op,t,p,e,gd⟩ w (some false)):FA P ops m F D rl G s H K i ⟨d,op,t,p,e,gd⟩ w (some b):=by
 cases b
 · exact h2 rfl
 · exact h1 rfl
theorem J5(h1:b=true→FA P ops m F D rl G s H K i ⟨d,op,t,p,e,gd⟩ w (some false))(h2:b=false→FA P ops m F D rl G s H K i ⟨d,op,t,p,e,gd⟩ w (some true)):FA P ops m F D rl G s H K i ⟨d,op,t,p,e,gd⟩ w (some (!b)):=by
 cases b
 · exact h2 rfl
 · exact h1 rfl
theorem JT(h1:q→FA P ops m F D rl G s H K i ⟨d,op,t,p,e,gd⟩ w (some true))(h2:¬q→FA P ops m F D rl G s H K i ⟨d,op,t,p,e,gd⟩ w (some false)):FA P ops m F D rl G s H K i ⟨d,op,t,p,e,gd⟩ w (some (decide q)):=by
 by_cases h:q
 · rw[decide_eq_true h];exact h1 h
 · rw[decide_eq_false h];exact h2 h
theorem JI(h1:q→FA P ops m F D rl G s H K i ⟨d,op,t,p,e,gd⟩ w (some false))(h2:¬q→FA P ops m F D rl G s H K i ⟨d,op,t,p,e,gd⟩ w (some true)):FA P ops m F D rl G s H K i ⟨d,op,t,p,e,gd⟩ w (some (!decide q)):=by
 by_cases h:q
 · rw[decide_eq_true h];exact h1 h
 · rw[decide_eq_false h];exact h2 h
end
section
variable{P:Program}{ops:Array Oper}{o:Oper}{s:List AV}{H:Ji}{K:KV}{fo:Operand}{xs:Array Operand}{ts:Array TypeId}{f:FuncId}{args args':List AV}{v:AV}{u:Value}{Q:KV}
theorem Qe.call(ho:o.op= .call ⟨.value fo,xs,ts⟩)(ha:Qp ⟨s,H⟩ fo xs=some (f,args))(h:∀s',Qp ⟨s',H⟩ fo xs=some (f,args)→Qh P o ⟨s',H⟩ K):Qe P ops o s H K:=
 Qe.of (h _ (by rw[VG (s:=s) (H:=H) ts fun x hx=>Xs (Vh (by rw[ho];exact hx))];exact ha))
theorem Qe.rd(hc:Qd P f args' v)(he:Jm P f)(ho:o.op= .call ⟨.value fo,xs,ts⟩)(ha:Qp ⟨s,H⟩ fo xs=some (f,args))(hs:args.mapM (WG H)=some args')
 (hf:W7 v=some u) (hk:K v H):Qe P ops o s H K:=Qe.call ho ha fun s' ha'=>Qh.rd hc he ho ha' hs hf hk
theorem Qe.mk(hc:Qd P f args v)(he:Jm P f)(ho:o.op= .call ⟨.value fo,xs,ts⟩)(ha:Qp ⟨s,H⟩ fo xs=some (f,args))(hf:args.all Zc=true)
 (ht:XB v=true) (hv:Vq H.length v=v) (hk:K v H):Qe P ops o s H K:=Qe.call ho ha fun s' ha'=>Qh.mk hc he ho ha' hf ht hv hk
theorem Qe.mkQ(hc:Jq P f args [] Q)(he:Jm P f)(ho:o.op= .call ⟨.value fo,xs,ts⟩)(ha:Qp ⟨s,H⟩ fo xs=some (f,args))(hf:args.all Zc=true)
 (hk:∀r H',Q r H'→XB r=true∧K (Vq H.length r) (H++QN H.length H')):Qe P ops o s H K:=Qe.call ho ha fun s' ha'=>Qh.mkQ hc he ho ha' hf hk
theorem Qe.run(hc:Jq P f args H Q)(he:Jm P f)(ho:o.op= .call ⟨.value fo,xs,ts⟩)(ha:Qp ⟨s,H⟩ fo xs=some (f,args))(hk:∀r H',Q r H'→K r H'):Qe P ops o s H K:=
 Qe.call ho ha fun s' ha'=>Qh.run hc he ho ha' hk
end
theorem JcK{P:Program}{s:List AV}{H:Ji}{F:KV}{d:Option Tmp}{t:TypeId}{p:String}{e:Array Edge}{g:Option (Nat×Bool)}(bt:TypeId)(ps:List (Nat×Operand)):Va P ⟨d, .build bt ps.toArray,t,p,e,g⟩ s H F=JfN P s H bt ps F:=propext Iff.rfl
theorem Bu{P:Program}:(∀f∈([]:List (TypeId×Nat)),(Jy P f.1).isSome=true)=True:=eq_true (by simp)
theorem Rh{P:Program}{t:TypeId}{n:Nat}{l:List (TypeId×Nat)}:(∀f∈(t,n)::l,(Jy P f.1).isSome=true)=((Jy P t).isSome=true∧∀f∈l,(Jy P f.1).isSome=true):=by simp
theorem JeE(k k':IntKind)(a b:Int):Rc true (.c (.f (.int k a))) (.c (.f (.int k' b)))=some (.c (.f (.int k (max a b)))):=by
 simp only[Rc,if_true]
 congr 4
 split<;>omega
theorem JeD(k k':IntKind)(a b:Int):Rc false (.c (.f (.int k a))) (.c (.f (.int k' b)))=some (.c (.f (.int k (min a b)))):=by
 simp only[Rc,Bool.false_eq_true,if_false]
 congr 4
 split<;>omega
attribute [go_sem] JP JeE JeD Option.map_none YB JeH JeI JeJ Jev JgA JbS JhG okM_t okM_f Jb0 NG JcT NF JhO JeM JhP FY G7 Jcq JaB List.contains_cons List.contains_nil Bool.or_false Bool.false_or Nat.reduceBEq JhQ JhJ JhN JhK JhM JhL F2 F1 Jga Jhs JdY Jht Jdj Je8 ghA
 UA W4 Option.some.injEq XO Y0 VY Bool.and_self JcK JfN Bu Rh Jaw
theorem Jcw(P:Program)(s:List AV)(H:Ji)(t:Nat)(ty:TypeId):WP P s H [.cell t ty]=Uy P H ty (s.getD t .void):=by
 simp only[WP,Wo,Kb]
 cases Uy P H ty (s.getD t .void)<;>rfl
theorem JeT{g sz:Nat}{c:CV}{l:List CV}:ldP (some ⟨g,sz,c::l⟩) 0=some (.c c):=rfl
theorem JeU{g sz n:Nat}{c:CV}{l:List CV}:ldP (some ⟨g,sz,c::l⟩) (n+1)=ldP (some ⟨g,sz,l⟩) n:=rfl
def ldN(b:Option ZG)(off n:Nat):Option (List CV):=match b with
 |some b=>if off+n≤b.cs.length then some ((b.cs.drop off).take n)else none
 |none=>none
theorem Jak{H:Ji}{id g off n:Nat}:Zi H (.ptr id g off) n=ldN (look H id g) off n:=rfl
theorem JeW{g sz n off:Nat}{c:CV}{l:List CV}:ldN (some ⟨g,sz,c::l⟩) (off+1) n=ldN (some ⟨g,sz,l⟩) off n:=by
 simp only[ldN,Jf,List.drop_succ_cons]
 by_cases h:off+n≤l.length
 · rw[if_pos h,if_pos (by omega)]
 · rw[if_neg h,if_neg (by omega)]
theorem ldN_z{g sz:Nat}{l:List CV}:ldN (some ⟨g,sz,l⟩) 0 0=some []:=by simp[ldN]
theorem JhT{g sz n:Nat}{c:CV}{l:List CV}:ldN (some ⟨g,sz,c::l⟩) 0 (n+1)=(ldN (some ⟨g,sz,l⟩) 0 n).map (c::·):=by
 simp only[ldN,Jf,JB,List.take_succ_cons]
 by_cases h:0+n≤l.length
 · rw[if_pos h,if_pos (by omega)];rfl
 · rw[if_neg h,if_neg (by omega)];rfl
theorem JaG{l:List CV}:Qm l 0 []=l:=by simp[Qm]
theorem Nc{c d:CV}{l m:List CV}:Qm (c::l) 0 (d::m)=d::Qm l 0 m:=by simp[Qm]
theorem JaH{c:CV}{l m:List CV}{n:Nat}:Qm (c::l) (n+1) m=c::Qm l n m:=by
 simp only[Qm,List.take_succ_cons,Jc,List.cons.injEq,true_and]
 rw[show n+1+m.length=n+m.length+1 by omega,List.drop_succ_cons]
theorem JgJ{α:Type}{E:α→List FV}{n:Nat}[Inhabited α][hs:HSz E n]{g sz:Nat}{xs:List α}{e:Int}{j:Nat}(h:0≤e∧e<(xs.length:Int))(hj:j<n):
 ldP (some ⟨g,sz,cl E xs⟩) (0+e.toNat*n+j)=some (.c (.f ((E (JM xs e)).getD j .nil))):=by
 have hi:e.toNat<xs.length:=by omega
 have:=YM (E:=E) (xs:=xs) hi hj
 rw[NO,Nat.zero_add,Qu h]
 simp only[cl,Qo,this,Option.map_some]
theorem JhU{α:Type}{E:α→List FV}{n:Nat}[Inhabited α][hs:HSz E n]{g sz:Nat}{xs:List α}{e:Int}(h:0≤e∧e<(xs.length:Int)):
 ldN (some ⟨g,sz,cl E xs⟩) (0+e.toNat*n) n=some ((E (JM xs e)).map .f):=by
 have hi:e.toNat<xs.length:=by omega
 have h2:=Jfa (E:=E) xs hi
 simp only[ldN,Qb,Nat.zero_add]
 rw[if_pos (by rw[←Nat.succ_mul];exact Nat.mul_le_mul_right _ hi),Qu h]
 simp only[cl,←List.map_drop,←List.map_take,h2]
theorem Yp{α:Type}{E:α→List FV}{n:Nat}[hs:HSz E n]{xs:List α}{e:Int}{v:α}{l:List CV}(hl:(E v).map .f=l)(h:0≤e∧e<(xs.length:Int)):
 Qm (cl E xs) (0+e.toNat*n) l=cl E (xs.set e.toNat v):=by
 subst hl
 exact VM (E:=E) (by omega)
theorem Jfh{α:Type}{E:α→List FV}{sz:Nat}[h:HSz E sz]{xs:List α}{b:Int}(hb:0≤b∧b≤xs.length):Jdv sz xs.length (fl E xs) 0 b.toNat=some (Rj E (sub xs 0 b)):=GE (a:=0) (by omega)
theorem Jfg{α:Type}{E:α→List FV}{sz:Nat}[h:HSz E sz]{xs:List α}{a:Int}(hb:0≤a∧a≤xs.length):Jdv sz xs.length (fl E xs) a.toNat xs.length=some (Rj E (sub xs a xs.length)):=GE (b:=xs.length) (by omega)
theorem Jdu{l:List UInt8}{b:Int}(hb:0≤b∧b≤l.length):GD l 0 b.toNat=some (Um (sub l 0 b)):=Bl (a:=0) (by omega)
theorem Jdt{l:List UInt8}{a:Int}(hb:0≤a∧a≤l.length):GD l a.toNat l.length=some (Um (sub l a l.length)):=Bl (b:=l.length) (by omega)
theorem Jce{q:Prop}[Decidable q](h:¬q):false=decide q:=(decide_eq_false h).symm
theorem Jcc{q:Prop}[Decidable q](h:q):true=decide q:=(decide_eq_true h).symm
theorem Jcd{p q:Prop}[Decidable p][Decidable q](h:p↔q):decide p=decide q:=decide_eq_decide.2 h
structure Q2 where
 kind:Int
 cells:List Int
 val:Int
 deriving DecidableEq,Inhabited
structure Zk where
 size:Int
 given:List Int
 rules:List Q2
 deriving DecidableEq,Inhabited
structure B8 where
 task:Zk
 put:List Int
 moves:List Int
 deriving DecidableEq,Inhabited
structure BC where
 tech:Int
 cell:Int
 deriving DecidableEq,Inhabited
structure Hnt where
 tech:Int
 cell:Int
 val:Int
 deriving DecidableEq,Inhabited
def eR(r:Q2):List FV:=[.int .i64 r.kind,QD r.cells, .int .i64 r.val]
instance:HSz eR 3:=⟨fun _=>rfl⟩
def eB(b:BC):List FV:=[.int .i64 b.tech, .int .i64 b.cell]
instance:HSz eB 2:=⟨fun _=>rfl⟩
def eL(l:List Int):List FV:=[QD l]
instance:HSz eL 1:=⟨fun _=>rfl⟩
theorem eR_0(r:Q2):(eR r).getD 0 .nil= .int .i64 r.kind:=rfl
theorem eR_1(r:Q2):(eR r).getD 1 .nil=QD r.cells:=rfl
theorem eR_2(r:Q2):(eR r).getD 2 .nil= .int .i64 r.val:=rfl
theorem eB_0(r:BC):(eB r).getD 0 .nil= .int .i64 r.tech:=rfl
theorem eB_1(r:BC):(eB r).getD 1 .nil= .int .i64 r.cell:=rfl
theorem eL_0(l:List Int):(eL l).getD 0 .nil=QD l:=rfl
abbrev cR (r:Q2):List CV:=[.f (.int .i64 r.kind), .f (QD r.cells), .f (.int .i64 r.val)]
abbrev cB (b:BC):List CV:=[.f (.int .i64 b.tech), .f (.int .i64 b.cell)]
abbrev cP (p:Zk):List CV:=[.f (.int .i64 p.size), .f (QD p.given), .f (WR eR p.rules)]
abbrev cG (g:B8):List CV:=[.f (.int .i64 g.task.size), .f (QD g.task.given), .f (WR eR g.task.rules), .f (QD g.put), .f (QD g.moves)]
abbrev aR (r:Q2):AV:= .agg (cR r)
abbrev aP (p:Zk):AV:= .agg (cP p)
abbrev aG (g:B8):AV:= .agg (cG g)
theorem Jh1(r:Q2):(eR r).map CV.f=cR r:=rfl
theorem Jh4(r:BC):(eB r).map CV.f=cB r:=rfl
theorem Jh2(r:List Int):(eL r).map CV.f=[.f (QD r)]:=rfl
attribute [go_sem] Jfh Jfg Jdu Jdt Jcw JeT JeU Jak JeW ldN_z JhT JaG Nc JaH JgJ JhU eR_0 eR_1 eR_2 eB_0 eB_1 eL_0 Jh1 Jh4 Jh2 V9 Wx Kx Jfq
end Go.Lg

set_option maxRecDepth 100000
namespace Go.Lg
open Go.Proofs
theorem Z4{α:Type}[Inhabited α]{xs:List α}{i:Nat}(h:i<xs.length):JM xs i∈xs:=by
 rw[Qu (by omega)];exact List.getElem_mem _
def eRo(r:Option Q2):List FV:=match r with|none=>[.int .i64 0, .nil, .int .i64 0]|some r=>eR r
instance:HSz eRo 3:=⟨fun r=>by cases r<;>rfl⟩
theorem Jf1(n:Nat):QC (n*3) [.f (.int .i64 0), .f .nil, .f (.int .i64 0)]=cl eRo (Jg n none):=by
 induction n with
 |zero=>rfl
 |succ n ih=>
  have e:QC ((n+1)*3) [.f (.int .i64 0), .f .nil, .f (.int .i64 0)]=QC (n*3) [.f (.int .i64 0), .f .nil, .f (.int .i64 0)]++[.f (.int .i64 0), .f .nil, .f (.int .i64 0)]:=by
   simp only[QC,Nat.add_mul,List.range_add,J1,Jf,Jl]
   congr 1
   simp only[List.range_succ,List.range_zero,Jd,J1,Qf,ZC,Jc,List.map_map]
   simp[Nat.add_mod,Nat.mul_mod]
  rw[e,ih,List.replicate_succ',QP];rfl
theorem setRo{xs:List (Option Q2)}{e:Int}{v:Q2}(h:0≤e∧e<(xs.length:Int)):Qm (cl eRo xs) (0+e.toNat*3) (cR v)=cl eRo (xs.set e.toNat (some v)):=
 Yp (E:=eRo) (v:=some v) rfl h
theorem Jhl(n:Nat):QC (n*2) [.f (.int .i64 0), .f (.int .i64 0)]=cl eB (Jg n ⟨0,0⟩):=by
 induction n with
 |zero=>rfl
 |succ n ih=>
  have e:QC ((n+1)*2) [.f (.int .i64 0), .f (.int .i64 0)]=QC (n*2) [.f (.int .i64 0), .f (.int .i64 0)]++[.f (.int .i64 0), .f (.int .i64 0)]:=by
   simp only[QC,Nat.add_mul,List.range_add,J1,Jf,Jl]
   congr 1
   simp only[List.range_succ,List.range_zero,Jd,J1,Qf,ZC,Jc,List.map_map]
   simp[Nat.add_mod,Nat.mul_mod]
  rw[e,ih,List.replicate_succ',QP];rfl
theorem setB{xs:List BC}{e:Int}{v:BC}(h:0≤e∧e<(xs.length:Int)):Qm (cl eB xs) (0+e.toNat*2) (cB v)=cl eB (xs.set e.toNat v):=
 Yp (E:=eB) rfl h
attribute [go_sem] Jf1 setRo Jhl setB
def Jgc(rs:List Q2):Prop:=rs.length≤2^40∧∀r∈rs,r.cells.length≤2^40
def BD(p:Zk):Prop:=p.given.length≤2^40∧Jgc p.rules
end Go.Lg
