/- LgX, GpH, GpG, cut to what is needed. -/
import Derived.Test.YtidekghnkifbjaaGreatDoorJaa9
open List renaming cons_append → Ja, nil_append → Jc, replicate → Jd, length_cons → Je, length_nil → Jf, take_of_length_le → Js, drop_zero → JQ, map_cons → Qq, getElem?_map → Qu, map_append → QB, map_nil → ZZ, all_cons → Wr, all_nil → Yw
open Nat renaming reduceAdd→zA,reduceMul→zM,reduceSub→zS,reduceEqDiff→zE,reduceLeDiff→zL
set_option linter.unusedSimpArgs false
set_option linter.unusedVariables false
namespace Go.Lg
section
variable{P:Program}{ops r:Array Oper}{rl:List Oper}{s:List AV}{H:Jm}{K:KS}{Q:KT}{d:Option Tmp}{op:Op}{t:TypeId}{p:String}{e:Array Edge}{gd:Option (Nat×Bool)}{c x y:Code}{w:Bool}{q:Prop}[Decidable q]
theorem JH(h1:q→UP P ops ⟨d,op,t,p,e,gd⟩ rl s H K w (some true))(h2:¬q→UP P ops ⟨d,op,t,p,e,gd⟩ rl s H K w (some false)):UP P ops ⟨d,op,t,p,e,gd⟩ rl s H K w (some (decide q)):=by
 by_cases h:q
 · rw[decide_eq_true h];exact h1 h
 · rw[decide_eq_false h];exact h2 h
theorem JD(h1:q→UP P ops ⟨d,op,t,p,e,gd⟩ rl s H K w (some false))(h2:¬q→UP P ops ⟨d,op,t,p,e,gd⟩ rl s H K w (some true)):UP P ops ⟨d,op,t,p,e,gd⟩ rl s H K w (some (!decide q)):=by
 by_cases h:q
 · rw[decide_eq_true h];exact h1 h
 · rw[decide_eq_false h];exact h2 h
theorem JP{b:Bool}(h1:b=true→UP P ops ⟨d,op,t,p,e,gd⟩ rl s H K w (some false))(h2:b=false→UP P ops ⟨d,op,t,p,e,gd⟩ rl s H K w (some true)):UP P ops ⟨d,op,t,p,e,gd⟩ rl s H K w (some (!b)):=by
 cases b
 · exact h2 rfl
 · exact h1 rfl
theorem JF{G:KS}(h1:q→UN P ops ⟨d,op,t,p,e,gd⟩ rl s H G w (some true))(h2:¬q→UN P ops ⟨d,op,t,p,e,gd⟩ rl s H G w (some false)):UN P ops ⟨d,op,t,p,e,gd⟩ rl s H G w (some (decide q)):=by
 by_cases h:q
 · rw[decide_eq_true h];exact h1 h
 · rw[decide_eq_false h];exact h2 h
theorem JB{G:KS}(h1:q→UN P ops ⟨d,op,t,p,e,gd⟩ rl s H G w (some false))(h2:¬q→UN P ops ⟨d,op,t,p,e,gd⟩ rl s H G w (some true)):UN P ops ⟨d,op,t,p,e,gd⟩ rl s H G w (some (!decide q)):=by
 by_cases h:q
 · rw[decide_eq_true h];exact h1 h
 · rw[decide_eq_false h];exact h2 h
theorem JN{b:Bool}{G:KS}(h1:b=true→UN P ops ⟨d,op,t,p,e,gd⟩ rl s H G w (some false))(h2:b=false→UN P ops ⟨d,op,t,p,e,gd⟩ rl s H G w (some true)):UN P ops ⟨d,op,t,p,e,gd⟩ rl s H G w (some (!b)):=by
 cases b
 · exact h2 rfl
 · exact h1 rfl
theorem Jl(h1:q→cw P x s H Q)(h2:¬q→cw P y s H Q):Kr P x y s H Q (decide q):=by
 by_cases h:q
 · rw[decide_eq_true h,Br];exact h1 h
 · rw[decide_eq_false h,Bs];exact h2 h
theorem Jj(h1:q→cw P y s H Q)(h2:¬q→cw P x s H Q):Kr P x y s H Q (!decide q):=by
 by_cases h:q
 · rw[decide_eq_true h];exact Bs▸h1 h
 · rw[decide_eq_false h];exact Br▸h2 h
theorem Jr{b:Bool}(h1:b=true→cw P x s H Q)(h2:b=false→cw P y s H Q):Kr P x y s H Q b:=by
 cases b
 · rw[Bs];exact h2 rfl
 · rw[Br];exact h1 rfl
theorem Jp{b:Bool}(h1:b=true→cw P y s H Q)(h2:b=false→cw P x s H Q):Kr P x y s H Q (!b):=by
 cases b
 · exact Br▸h2 rfl
 · exact Bs▸h1 rfl
end
def RD(m:List Bool)(H H':Jm):Prop:=J0 (Zc m H') (Zc m H)
theorem R9(H:Jm):Zc [] H=H:=by cases H<;>rfl
theorem Jig(m:List Bool)(x:Option Zv)(H:Jm):Zc (true::m) (x::H)=none::Zc m H:=rfl
theorem Jih(m:List Bool)(x:Option Zv)(H:Jm):Zc (false::m) (x::H)=x::Zc m H:=rfl
theorem Jii(m:List Bool):Zc m []=[]:=by cases m with
 |nil=>rfl
 |cons b m=>cases b<;>rfl
theorem Jh3(m:List Bool)(H:Jm):RD m H H=True:=eq_true (J0.refl _)
theorem Jka(m:List Bool)(H:Jm):RD m [] H=True:=eq_true (by unfold RD;rw[Jii];exact Qt _)
theorem Je1(H H':Jm):RD [] H (H++H')=True:=eq_true (by unfold RD;rw[R9,R9];exact J0.app _ _)
theorem Bl(x:Option Zv)(H H':Jm):J0 (x::H) (x::H')↔J0 H H':=
 ⟨fun h id b hb=>h (id+1) b hb,fun h=>JcV x H H' h⟩
theorem Jbm(x:Option Zv)(H H':Jm):J0 (x::H) (none::H')↔J0 H H':=
 ⟨fun h id b hb=>h (id+1) b hb,fun h=>Bk x H H' h⟩
theorem Jlz(x:Option Zv)(H H':Jm):RD [] (x::H) (x::H')=RD [] H H':=by
 unfold RD;simp only[R9];exact propext (Bl x H' H)
theorem okM_t(m:List Bool)(x y:Option Zv)(H H':Jm):RD (true::m) (x::H) (y::H')=RD m H H':=by
 unfold RD;simp only[Jig];exact propext (Jbm none _ _)
theorem okM_f(m:List Bool)(x:Option Zv)(H H':Jm):RD (false::m) (x::H) (x::H')=RD m H H':=by
 unfold RD;simp only[Jih];exact propext (Bl x _ _)
theorem Vl.empty{P:Program}{ops:Array Oper}{o:Oper}{s:List AV}{t:TypeId}{ei:TI}(ho:o.op= .buildSlice t 0 #[]) (hs:QR P t=some ei) (H:Jm):Vl P ops o s H (.c .emp):=by
 intro w X a R next Q hn
 obtain⟨ti,e,ht,hk,he⟩:=Uw hs
 obtain⟨inf,d,z',h1,h2,h3,h4,h5,h6,h7⟩:=Qg ht
 rw[h5]at hk;cases Zk hk
 have hrun:(execOp a.eval o).run P w= .ok (.value (.slice (some ⟨w.heap.size,0,none⟩) 0 0)) (w.alloc (.cells #[] e)):=by
  simp only[execOp,ho,Instr.buildSlice,Sem.run_bind,run_underlying h2,Result.andThen_ok,Q7 he,Sem.run_ite,Sem.run_pure]
  simp[newRow,Instr.fill]
  rw[show Array.range 0= #[]from rfl,Array.map_empty]
 have R0:ZC w X []:=⟨R.heap.imm,fun id b hb=>by simp at hb,fun id id' b b' hb=>by simp at hb,R.heap.tab⟩
 obtain⟨_,k2⟩:=W3 (w':=w.alloc (.cells #[] e)) R0 (sz:=1) (t:=e) (cs:=[]) (cc:= #[]) rfl rfl rfl rfl (Nat.le_refl _) (fun j hj=>absurd hj (Nat.not_lt_zero _))
 have no:∀b,¬YL X [] b:=fun b ⟨id,blk,h,_⟩=>by simp at h
 have hg:ZY w (w.alloc (.cells #[] e)):=⟨fun b hb=>k2.frame b hb (no b),k2.size,k2.os,k2.tape,k2.output⟩
 exact Z0 hrun (hn _ _ X hg (V5.refl _ _) (.c _ _ ⟨_,rfl⟩) (hg.rel R.heap))
theorem NK{P:Program}{ops:Array Oper}{o:Oper}{s:List AV}{K:AV→Prop}{t:TypeId}{n:Nat}{ps:Array (Nat×Operand)}(ho:o.op= .buildSlice t n ps)(h:UD P s t n ps.toList K):∃v,(∀H,Vl P ops o s H v)∧K v:=by
 have h0:=h
 unfold UD at h
 split at h
 · rename_i ei rs h1 h2
   split at h
   · rename_i xs h3
     refine⟨.c (.f (.sl n xs)),fun H=> ?_, ?_⟩
     · have:UD P s t n ps.toList (fun v=>v= .c (.f (.sl n xs))):=by
        unfold UD
        simp only[h1,h2,h3]
        obtain⟨hz,hif⟩:=h
        refine⟨hz, ?_⟩
        split at hif
        · rename_i hq;rw[if_pos hq];trivial
        · exact hif.elim
       obtain⟨v,q1,q2⟩:=Yy (ops:=ops) (H:=H) ho this
       rw[←q2];exact q1
     · obtain⟨hz,hif⟩:=h
       split at hif
       · exact hif
       · exact hif.elim
   · exact h.elim
 · exact h.elim
def KC(P:Program)(s:List AV)(t:TypeId)(v x:AV)(K:AV→Prop):Prop:=
 match QR P t,v,x with
 |some ei, .c .emp, .c (.f (.sl m cs))=>YD (ei.zero.length=ei.size∧cs.length=m*ei.size∧m≤9223372036854775807∧m*ei.bytes≤140737488355328) (K (.c (.f (.sl m cs))))
 |_,_,_=>False
theorem Jb1{P:Program}{ops:Array Oper}{o:Oper}{s:List AV}{K:AV→Prop}{t:TypeId}{v x:Operand}(ho:o.op= .call ⟨.builtin .append,#[v,x],#[t,t]⟩) (h:KC P s t (QU s v) (QU s x) K):∃r,(∀H,Vl P ops o s H r)∧K r:=by
 unfold KC at h
 split at h
 · rename_i ei m cs hs hv hx
   obtain⟨⟨hz,hl,h63,h47⟩,hK⟩:=h
   obtain⟨ti,e,k1,k2,k3⟩:=Uw hs
   refine⟨_,fun H=>Vl.ops (fun y hy=> ?_) rfl (fun s' hs'=> ?_),hK⟩
   · rw[ho]at hy
     simp only[Op.operands,Call.operands]at hy
     have:y=v∨y=x:=by simpa using hy
     rcases this with rfl|rfl
     · rw[hv];rfl
     · rw[hx];rfl
   · have e1:QU s' v= .c .emp:=by rw[hs' v (by rw[ho];simp[Op.operands,Call.operands])];exact hv
     have e2:QU s' x= .c (.f (.sl m cs)):=by rw[hs' x (by rw[ho];simp[Op.operands,Call.operands])];exact hx
     by_cases hm:m=0
     · subst hm
       have hcs:cs=[]:=List.eq_nil_of_length_eq_zero (by omega)
       subst hcs
       refine JY.append_zero (n:=0) (l:=[]) ho k1 k2 k3 ?_ ?_ ?_
       · rw[e1];rfl
       · rw[e2];simp[elems]
       · rw[e1];rfl
     · refine JY.append_new (n:=0) (m:=m) (l:=[]) (k:=cs.map .f) ho k1 k2 k3 hz ?_ ?_ ?_ (by omega) (by omega) (by simpa using h47) fun g=> ?_
       · rw[e1];rfl
       · rw[e2];simp only[elems];rw[if_pos hl]
       · rw[e1];simp[GO]
       · have:look [some (⟨g,ei.size,([]:List CV)++cs.map .f⟩:Zv)] 0 g=some ⟨g,ei.size,cs.map .f⟩:=by simp[look]
         simp only[Jf,Jc,VZ,XV,frzC,frz]
         have l0:look [some (⟨g,ei.size,cs.map .f⟩:Zv)] 0 g=some ⟨g,ei.size,cs.map .f⟩:=by simp[look]
         rw[l0]
         simp only[JQ,Nat.zero_add]
         rw[Js (by simp[hl]),Jc0]
         rfl
 · exact h.elim
def Xk(P:Program)(ops:Array Oper)(o:Oper)(s:List AV)(K:AV→Prop):Prop:=
 match o.op with
 | .buildSlice t n ps=>if n=0∧ps= #[]then QJ (QR P t) (fun _=>K (.c .emp))else UD P s t n ps.toList K
 | .call ⟨.builtin .append,⟨[v,x]⟩,⟨[t,u]⟩⟩=>if t=u then KC P s t (QU s v) (QU s x) K else False
 |_=>∃v,(∀H,Vl P ops o s H v)∧K v
theorem JfH{P:Program}{ops:Array Oper}{o:Oper}{s:List AV}{K:AV→Prop}(h:Xk P ops o s K):∃v,(∀H,Vl P ops o s H v)∧K v:=by
 unfold Xk at h
 split at h
 · rename_i t n ps ho
   split at h
   · rename_i hn
     obtain⟨rfl,rfl⟩:=hn
     obtain⟨ei,h1,h2⟩:=h
     exact⟨_,fun H=>Vl.empty ho h1 H,h2⟩
   · exact NK ho h
 · rename_i v x t u ho
   split at h
   · rename_i htu;subst htu
     exact Jb1 ho h
   · exact h.elim
 · exact h
theorem JaX{P:Program}{ops:Array Oper}{s:List AV}{K:AV→Prop}{d:Option Tmp}{t t':TypeId}{p:String}{e:Array Edge}{g:Option (Nat×Bool)}:Xk P ops ⟨d, .buildSlice t 0 #[],t',p,e,g⟩ s K=QJ (QR P t) (fun _=>K (.c .emp)):=by
 simp[Xk]
theorem Jb0{P:Program}{ops:Array Oper}{s:List AV}{K:AV→Prop}{d:Option Tmp}{t t':TypeId}{p:String}{e:Array Edge}{g:Option (Nat×Bool)}{n:Nat}{ps:List (Nat×Operand)}:Xk P ops ⟨d, .buildSlice t (n+1) ps.toArray,t',p,e,g⟩ s K=UD P s t (n+1) ps K:=by
 simp[Xk]
theorem JfG{P:Program}{ops:Array Oper}{s:List AV}{K:AV→Prop}{d:Option Tmp}{t t':TypeId}{p:String}{e:Array Edge}{g:Option (Nat×Bool)}{v x:Operand}:Xk P ops ⟨d, .call ⟨.builtin .append,#[v,x],#[t,t]⟩,t',p,e,g⟩ s K=KC P s t (QU s v) (QU s x) K:=by
 simp[Xk]
theorem JdI{P:Program}{s:List AV}{t:TypeId}{m:Nat}{cs:List FV}{K:AV→Prop}:KC P s t (.c .emp) (.c (.f (.sl m cs))) K=QJ (QR P t) (fun ei=>YD (ei.zero.length=ei.size∧cs.length=m*ei.size∧m≤9223372036854775807∧m*ei.bytes≤140737488355328) (K (.c (.f (.sl m cs))))):=by
 unfold KC
 cases QR P t<;>simp[QJ]
section
variable(P:Program)(ops:Array Oper)(m:List Bool)(F:List Nat)(D:Option Nat)(r:List Nat)(G:Option Gh)(s:List AV)(H:Jm)(K:KS)
def K2:List Nat→Option Gh→List AV→Jm→KS→Prop
 |[],G,s,H,K=>Xm G s H K
 |i::r,G,s,H,K=>match ops[i]? with
  |none=>False
  |some o=>if D=some i then QJ (ghV P s o) (fun e=>e.d<s.length∧K2 r (some e) (QQ s o.dst .any) H K)else match o.guard with
   |none=>if Vf o.op=true then opW P o s (Zc m H) (fun v _=>K2 r G (QQ s o.dst v) H K)else if F.contains i=true then Xk P ops o s (fun v=>K2 r G (QQ s o.dst v) H K)else if XB o.op=true then opW P o s H (fun v H'=>RD m H H'∧K2 r G (QQ s o.dst v) H' K)else JM P ops o s H (fun v H'=>RD m H H'∧K2 r G (QQ s o.dst v) H' K)
   |some (j,want)=>QJ (Ue ops s j) (fun g=>UO g want (if Vf o.op=true then opW P o s (Zc m H) (fun v _=>K2 r G (QQ s o.dst v) H K)else if F.contains i=true then Xk P ops o s (fun v=>K2 r G (QQ s o.dst v) H K)else if XB o.op=true then opW P o s H (fun v H'=>RD m H H'∧K2 r G (QQ s o.dst v) H' K)else JM P ops o s H (fun v H'=>RD m H H'∧K2 r G (QQ s o.dst v) H' K)) (K2 r G (QQ s o.dst .void) H K))
def lwV(d:Option Tmp):KV:=fun v _=>K2 P ops m F D r G (QQ s d v) H K
def lwL(d:Option Tmp):KV:=fun v H'=>RD m H H'∧K2 P ops m F D r G (QQ s d v) H' K
def lwG(d:Option Tmp):Gh→Prop:=fun e=>e.d<s.length∧K2 P ops m F D r (some e) (QQ s d .any) H K
def lwS(d:Option Tmp):AV→Prop:=fun v=>K2 P ops m F D r G (QQ s d v) H K
def Bd(i:Nat)(o:Oper):Prop:=if Vf o.op=true then opW P o s (Zc m H) (lwV P ops m F D r G s H K o.dst)else if F.contains i=true then Xk P ops o s (lwS P ops m F D r G s H K o.dst)else if XB o.op=true then opW P o s H (lwL P ops m F D r G s H K o.dst)else JM P ops o s H (lwL P ops m F D r G s H K o.dst)
def lwW(i:Nat)(o:Oper)(want:Bool):Option Bool→Prop:=fun g=>UO g want (Bd P ops m F D r G s H K i o) (K2 P ops m F D r G (QQ s o.dst .void) H K)
def lwO(i:Nat):Option Oper→Prop
 |none=>False
 |some o=>if D=some i then QJ (ghV P s o) (lwG P ops m F D r s H K o.dst)else match o.guard with
  |none=>Bd P ops m F D r G s H K i o
  |some (j,want)=>QJ (Ue ops s j) (lwW P ops m F D r G s H K i o want)
theorem JE(i:Nat):K2 P ops m F D (i::r) G s H K=lwO P ops m F D r G s H K i ops[i]? :=by
 rw[K2]
 cases ops[i]? with
 |none=>rfl
 |some o=>rfl
theorem JaB(ih:∀G s H,K2 P ops m F D r G s H K→lw P ops m F D r G s H K)(i:Nat)(o:Oper)(h:Bd P ops m F D r G s H K i o):(if Xg F i o=true then∃v,qv P ops m o s H v∧lw P ops m F D r G (QQ s o.dst v) H K
         else JM P ops o s H fun v H'=>J0 (Zc m H') (Zc m H)∧lw P ops m F D r G (QQ s o.dst v) H' K):=by
 unfold Bd at h
 split at h
 · rename_i hv
   rw[if_pos (by simp only[Xg,hv,Bool.true_or])]
   simp only[opW,hv,if_true,QJ,atH,lwV]at h
   obtain⟨v,h1,h2⟩:=h
   exact⟨v,by unfold qv;rw[if_pos hv];exact h1,ih _ _ _ h2⟩
 · rename_i hv
   split at h
   · rename_i hc
     rw[if_pos (by unfold Xg;rw[hc];simp only[Bool.or_true])]
     obtain⟨v,h1,h2⟩:=JfH h
     exact⟨v,by unfold qv;rw[if_neg hv];exact h1,ih _ _ _ h2⟩
   · rename_i hc
     rw[if_neg (by simp only[Xg,Bool.or_eq_true];exact fun h=>h.elim hv hc)]
     have hL:JM P ops o s H (lwL P ops m F D r G s H K o.dst):=by
      split at h
      · rename_i hm
        refine Fs ?_
        unfold Jfe
        rw[if_pos hm]
        simp only[opW,if_neg hv]at h
        exact h
      · exact h
     exact hL.mono fun v H' hk=>⟨hk.1,ih _ _ _ hk.2⟩
theorem Jfd:K2 P ops m F D [] G s H K=Xm G s H K:=by rw[K2]
theorem Jil:∀(r:List Nat) (G:Option Gh) (s:List AV) (H:Jm),K2 P ops m F D r G s H K→lw P ops m F D r G s H K
 |[],G,s,H,h=>by rw[Jfd]at h;rw[lw];exact h
 |i::r,G,s,H,h=>by
  have ih:=Jil r
  rw[JE]at h
  unfold lw
  cases ho:ops[i]? with
  |none=>rw[ho]at h;exact h.elim
  |some o=>
   rw[ho]at h
   simp only[lwO]at h⊢
   split at h
   · rename_i hD
     rw[if_pos hD]
     obtain⟨e,h1,h2,h3⟩:=h
     exact⟨e,h1,h2,ih _ _ _ h3⟩
   · rename_i hD
     rw[if_neg hD]
     split at h
     · rename_i hg;simp only[hg];exact JaB P ops m F D r G s H K ih i o h
     · rename_i j want hg
       simp only[hg]
       obtain⟨g,h1,h2,h3⟩:=h
       exact⟨g,h1,fun he=>JaB P ops m F D r G s H K ih i o (h2 he),fun hn=>ih _ _ _ (h3 hn)⟩
theorem Z9{P:Program}{ops:Array Oper}{s:List AV}{H:Jm}{K:KS}(π:List Nat)(F:List Nat)(D:Option Nat)(σ:List Nat)(m:List Bool)(hm:P.follows .mixedOrders=true)(hB:V9 ops π F D σ=true)(h:K2 P ops m F D π none s H (swK P ops σ K)):Kn P ops s H K:=
 Jkx π F D σ m hm hB (Jil P ops m F D _ π none s H h)
theorem Jin(i:Nat)(d:Option Tmp)(op:Op)(t:TypeId)(p:String)(e:Array Edge):
 lwO P ops m F D r G s H K i (some ⟨d,op,t,p,e,none⟩)=if D=some i then QJ (ghV P s ⟨d,op,t,p,e,none⟩) (lwG P ops m F D r s H K d)else Bd P ops m F D r G s H K i ⟨d,op,t,p,e,none⟩:=propext Iff.rfl
theorem Jgc(i:Nat)(d:Option Tmp)(op:Op)(t:TypeId)(p:String)(e:Array Edge)(j:Nat)(want:Bool):
 lwO P ops m F D r G s H K i (some ⟨d,op,t,p,e,some (j,want)⟩)=if D=some i then QJ (ghV P s ⟨d,op,t,p,e,some (j,want)⟩) (lwG P ops m F D r s H K d)else QJ (Ue ops s j) (lwW P ops m F D r G s H K i ⟨d,op,t,p,e,some (j,want)⟩ want):=propext Iff.rfl
theorem Jim(i:Nat)(d:Option Tmp)(op:Op)(t:TypeId)(p:String)(e:Array Edge)(g:Option (Nat×Bool)):
 Bd P ops m F D r G s H K i ⟨d,op,t,p,e,g⟩=if Vf op=true then opW P ⟨d,op,t,p,e,g⟩ s (Zc m H) (lwV P ops m F D r G s H K d)else if F.contains i=true then Xk P ops ⟨d,op,t,p,e,g⟩ s (lwS P ops m F D r G s H K d)else if XB op=true then opW P ⟨d,op,t,p,e,g⟩ s H (lwL P ops m F D r G s H K d)else JM P ops ⟨d,op,t,p,e,g⟩ s H (lwL P ops m F D r G s H K d):=propext Iff.rfl
theorem JlL(d:Option Tmp)(v:AV)(H':Jm):lwV P ops m F D r G s H K d v H'=K2 P ops m F D r G (QQ s d v) H K:=propext Iff.rfl
theorem JlM(d:Option Tmp)(v:AV):lwS P ops m F D r G s H K d v=K2 P ops m F D r G (QQ s d v) H K:=propext Iff.rfl
theorem JlN(d:Option Tmp)(v:AV)(H':Jm):lwL P ops m F D r G s H K d v H'=YD (RD m H H') (K2 P ops m F D r G (QQ s d v) H' K):=propext Iff.rfl
theorem JlO(d:Option Tmp)(e:Gh):lwG P ops m F D r s H K d e=YD (e.d<s.length) (K2 P ops m F D r (some e) (QQ s d .any) H K):=propext Iff.rfl
theorem GX(i:Nat)(d:Option Tmp)(op:Op)(t:TypeId)(p:String)(e:Array Edge)(gd:Option (Nat×Bool))(want:Bool)(g:Option Bool):
 lwW P ops m F D r G s H K i ⟨d,op,t,p,e,gd⟩ want g=UO g want (Bd P ops m F D r G s H K i ⟨d,op,t,p,e,gd⟩) (K2 P ops m F D r G (QQ s d .void) H K):=propext Iff.rfl
theorem Ja4:Xm none s H K=K s H:=propext Iff.rfl
theorem Ja3(d:Tmp)(n:Option Nat)(sz:Nat)(cs:List CV):Xm (some ⟨d,n,sz,cs⟩) s H K=∀g,K (s.set d (ghA H.length g n)) (H++[some ⟨g,sz,cs⟩]):=propext Iff.rfl
def swO:Option Oper→Prop
 |none=>False
 |some o=>vw P ops [o] s H (swK P ops r K)
theorem JjJ(i:Nat):sw P ops (i::r) s H K=swO P ops r s H K ops[i]? :=by
 rw[sw]
 cases ops[i]? <;>rfl
theorem Jlg:sw P ops [] s H K=K s H:=by rw[sw]
theorem Jht(o:Oper):swO P ops r s H K (some o)=vw P ops [o] s H (swK P ops r K):=propext Iff.rfl
theorem Jli:swK P ops r K s H=sw P ops r s H K:=propext Iff.rfl
end
theorem JgC{P:Program}{s:List AV}{d:Tmp}{t:TypeId}{t':TypeId}{p:String}{e:Array Edge}{g:Option (Nat×Bool)}:ghV P s ⟨some d, .alloc t,t',p,e,g⟩=match JS P t with
 |some ti=>if ti.zero.all XC=true then some ⟨d,none,ti.size,ti.zero⟩else none
 |none=>none:=rfl
theorem JiE{P:Program}{s:List AV}{d:Tmp}{t:TypeId}{t':TypeId}{p:String}{e:Array Edge}{g:Option (Nat×Bool)}{l c:Operand}:ghV P s ⟨some d, .makeSlice t l c,t',p,e,g⟩=match QR P t,QU s l,QU s c with
 |some ei, .c (.f (.int _ l)), .c (.f (.int _ c))=>if ei.zero.all XC∧ei.zero.length=ei.size∧(0≤l∧l≤c)∧c≤9223372036854775807∧ei.bytes*c≤281474976710656 then some ⟨d,some (cnt l),ei.size,QS (cnt l*ei.size) ei.zero⟩else none
 |_,_,_=>none:=rfl
section
variable{P:Program}{ops:Array Oper}{m:List Bool}{F:List Nat}{D:Option Nat}{i:Nat}{rl:List Nat}{G:Option Gh}{s:List AV}{H:Jm}{K:KS}{d:Option Tmp}{op:Op}{t:TypeId}{p:String}{e:Array Edge}{gd:Option (Nat×Bool)}{b w:Bool}{q:Prop}[Decidable q]
theorem JlG:lwW P ops m F D rl G s H K i ⟨d,op,t,p,e,gd⟩ true (some true)=Bd P ops m F D rl G s H K i ⟨d,op,t,p,e,gd⟩:=by rw[GX,BV]
theorem JlK:lwW P ops m F D rl G s H K i ⟨d,op,t,p,e,gd⟩ false (some false)=Bd P ops m F D rl G s H K i ⟨d,op,t,p,e,gd⟩:=by rw[GX,BY]
theorem JlH:lwW P ops m F D rl G s H K i ⟨d,op,t,p,e,gd⟩ true (some false)=K2 P ops m F D rl G (QQ s d .void) H K:=by rw[GX,BX]
theorem JlJ:lwW P ops m F D rl G s H K i ⟨d,op,t,p,e,gd⟩ false (some true)=K2 P ops m F D rl G (QQ s d .void) H K:=by rw[GX,BW]
theorem JlI:lwW P ops m F D rl G s H K i ⟨d,op,t,p,e,gd⟩ w none=K2 P ops m F D rl G (QQ s d .void) H K:=by rw[GX,Kg]
theorem Jx(h1:b=true→lwW P ops m F D rl G s H K i ⟨d,op,t,p,e,gd⟩ w (some true))(h2:b=false→lwW P ops m F D rl G s H K i ⟨d,op,t,p,e,gd⟩ w (some false)):lwW P ops m F D rl G s H K i ⟨d,op,t,p,e,gd⟩ w (some b):=by
 cases b
 · exact h2 rfl
 · exact h1 rfl
theorem JO(h1:b=true→lwW P ops m F D rl G s H K i ⟨d,op,t,p,e,gd⟩ w (some false))(h2:b=false→lwW P ops m F D rl G s H K i ⟨d,op,t,p,e,gd⟩ w (some true)):lwW P ops m F D rl G s H K i ⟨d,op,t,p,e,gd⟩ w (some (!b)):=by
 cases b
 · exact h2 rfl
 · exact h1 rfl
theorem JG(h1:q→lwW P ops m F D rl G s H K i ⟨d,op,t,p,e,gd⟩ w (some true))(h2:¬q→lwW P ops m F D rl G s H K i ⟨d,op,t,p,e,gd⟩ w (some false)):lwW P ops m F D rl G s H K i ⟨d,op,t,p,e,gd⟩ w (some (decide q)):=by
 by_cases h:q
 · rw[decide_eq_true h];exact h1 h
 · rw[decide_eq_false h];exact h2 h
theorem JC(h1:q→lwW P ops m F D rl G s H K i ⟨d,op,t,p,e,gd⟩ w (some false))(h2:¬q→lwW P ops m F D rl G s H K i ⟨d,op,t,p,e,gd⟩ w (some true)):lwW P ops m F D rl G s H K i ⟨d,op,t,p,e,gd⟩ w (some (!decide q)):=by
 by_cases h:q
 · rw[decide_eq_true h];exact h1 h
 · rw[decide_eq_false h];exact h2 h
end
section
variable{P:Program}{ops:Array Oper}{o:Oper}{s:List AV}{H:Jm}{K:KV}{fo:Operand}{xs:Array Operand}{ts:Array TypeId}{f:FuncId}{args args':List AV}{v:AV}{u:Value}{Q:KV}
theorem JM.call(ho:o.op= .call ⟨.value fo,xs,ts⟩)(ha:Qa ⟨s,H⟩ fo xs=some (f,args))(h:∀s',Qa ⟨s',H⟩ fo xs=some (f,args)→JY P o ⟨s',H⟩ K):JM P ops o s H K:=
 JM.of (h _ (by rw[V3 (s:=s) (H:=H) ts fun x hx=>XX (Vi (by rw[ho];exact hx))];exact ha))
theorem JM.rd(hc:JW P f args' v)(he:Jh P f)(ho:o.op= .call ⟨.value fo,xs,ts⟩)(ha:Qa ⟨s,H⟩ fo xs=some (f,args))(hs:args.mapM (RK H)=some args')
 (hf:Kj v=some u) (hk:K v H):JM P ops o s H K:=JM.call ho ha fun s' ha'=>JY.rd hc he ho ha' hs hf hk
theorem JM.mk(hc:JW P f args v)(he:Jh P f)(ho:o.op= .call ⟨.value fo,xs,ts⟩)(ha:Qa ⟨s,H⟩ fo xs=some (f,args))(hf:args.all Q0=true)
 (ht:YV v=true) (hv:WE H.length v=v) (hk:K v H):JM P ops o s H K:=JM.call ho ha fun s' ha'=>JY.mk hc he ho ha' hf ht hv hk
theorem JM.mkQ(hc:Jn P f args [] Q)(he:Jh P f)(ho:o.op= .call ⟨.value fo,xs,ts⟩)(ha:Qa ⟨s,H⟩ fo xs=some (f,args))(hf:args.all Q0=true)
 (hk:∀r H',Q r H'→YV r=true∧K (WE H.length r) (H++Q2 H.length H')):JM P ops o s H K:=JM.call ho ha fun s' ha'=>JY.mkQ hc he ho ha' hf hk
theorem JM.run(hc:Jn P f args H Q)(he:Jh P f)(ho:o.op= .call ⟨.value fo,xs,ts⟩)(ha:Qa ⟨s,H⟩ fo xs=some (f,args))(hk:∀r H',Q r H'→K r H'):JM P ops o s H K:=
 JM.call ho ha fun s' ha'=>JY.run hc he ho ha' hk
end
theorem Jf1{P:Program}{s:List AV}{H:Jm}{F:KV}{d:Option Tmp}{t:TypeId}{p:String}{e:Array Edge}{g:Option (Nat×Bool)}(bt:TypeId)(ps:List (Nat×Operand)):opW P ⟨d, .build bt ps.toArray,t,p,e,g⟩ s H F=Jjn P s H bt ps F:=propext Iff.rfl
theorem Ny{P:Program}:(∀f∈([]:List (TypeId×Nat)),(JS P f.1).isSome=true)=True:=eq_true (by simp)
theorem FT{P:Program}{t:TypeId}{n:Nat}{l:List (TypeId×Nat)}:(∀f∈(t,n)::l,(JS P f.1).isSome=true)=((JS P t).isSome=true∧∀f∈l,(JS P f.1).isSome=true):=by simp
theorem Jic(k k':IntKind)(a b:Int):FP true (.c (.f (.int k a))) (.c (.f (.int k' b)))=some (.c (.f (.int k (max a b)))):=by
 simp only[FP,if_true]
 congr 4
 split<;>omega
theorem Jib(k k':IntKind)(a b:Int):FP false (.c (.f (.int k a))) (.c (.f (.int k' b)))=some (.c (.f (.int k (min a b)))):=by
 simp only[FP,Bool.false_eq_true,if_false]
 congr 4
 split<;>omega
attribute [go_sem] JE Jic Jib Option.map_none R9 Jig Jih Jii Jh3 Jka Je1 Jlz okM_t okM_f Jfd Jin Jgc Jim JlL JlM JlN JaX Jb0 JfG JdI List.contains_cons List.contains_nil Bool.or_false Bool.false_or Nat.reduceBEq JlO JlG JlK JlH JlJ JlI Ja4 Ja3 JjJ Jlg Jht Jli JgC JiE ghA
 Vf XB Option.some.injEq Wr Yw XC Bool.and_self Jf1 Jjn Ny FT JdD
theorem JfO(P:Program)(s:List AV)(H:Jm)(t:Nat)(ty:TypeId):Yh P s H [.cell t ty]=VW P H ty (s.getD t .void):=by
 simp only[Yh,Yi,BL]
 cases VW P H ty (s.getD t .void)<;>rfl
theorem Jit{g sz:Nat}{c:CV}{l:List CV}:ldP (some ⟨g,sz,c::l⟩) 0=some (.c c):=rfl
theorem Jiu{g sz n:Nat}{c:CV}{l:List CV}:ldP (some ⟨g,sz,c::l⟩) (n+1)=ldP (some ⟨g,sz,l⟩) n:=rfl
def ldN(b:Option Zv)(off n:Nat):Option (List CV):=match b with
 |some b=>if off+n≤b.cs.length then some ((b.cs.drop off).take n)else none
 |none=>none
theorem Jdl{H:Jm}{id g off n:Nat}:Uf H (.ptr id g off) n=ldN (look H id g) off n:=rfl
theorem Jiv{g sz n off:Nat}{c:CV}{l:List CV}:ldN (some ⟨g,sz,c::l⟩) (off+1) n=ldN (some ⟨g,sz,l⟩) off n:=by
 simp only[ldN,Je,List.drop_succ_cons]
 by_cases h:off+n≤l.length
 · rw[if_pos h,if_pos (by omega)]
 · rw[if_neg h,if_neg (by omega)]
theorem ldN_z{g sz:Nat}{l:List CV}:ldN (some ⟨g,sz,l⟩) 0 0=some []:=by simp[ldN]
theorem JlS{g sz n:Nat}{c:CV}{l:List CV}:ldN (some ⟨g,sz,c::l⟩) 0 (n+1)=(ldN (some ⟨g,sz,l⟩) 0 n).map (c::·):=by
 simp only[ldN,Je,JQ,List.take_succ_cons]
 by_cases h:0+n≤l.length
 · rw[if_pos h,if_pos (by omega)];rfl
 · rw[if_neg h,if_neg (by omega)];rfl
theorem JdM{l:List CV}:Qj l 0 []=l:=by simp[Qj]
theorem Jb9{c d:CV}{l m:List CV}:Qj (c::l) 0 (d::m)=d::Qj l 0 m:=by simp[Qj]
theorem JdN{c:CV}{l m:List CV}{n:Nat}:Qj (c::l) (n+1) m=c::Qj l n m:=by
 simp only[Qj,List.take_succ_cons,Ja,List.cons.injEq,true_and]
 rw[show n+1+m.length=n+m.length+1 by omega,List.drop_succ_cons]
theorem Jkm{α:Type}{E:α→List FV}{n:Nat}[Inhabited α][hs:HSz E n]{g sz:Nat}{xs:List α}{e:Int}{j:Nat}(h:0≤e∧e<(xs.length:Int))(hj:j<n):
 ldP (some ⟨g,sz,cl E xs⟩) (0+e.toNat*n+j)=some (.c (.f ((E (JA xs e)).getD j .nil))):=by
 have hi:e.toNat<xs.length:=by omega
 have:=Bn (E:=E) (xs:=xs) hi hj
 rw[JcN,Nat.zero_add,Qs h]
 simp only[cl,Qu,this,Option.map_some]
theorem JlT{α:Type}{E:α→List FV}{n:Nat}[Inhabited α][hs:HSz E n]{g sz:Nat}{xs:List α}{e:Int}(h:0≤e∧e<(xs.length:Int)):
 ldN (some ⟨g,sz,cl E xs⟩) (0+e.toNat*n) n=some ((E (JA xs e)).map .f):=by
 have hi:e.toNat<xs.length:=by omega
 have h2:=JiG (E:=E) xs hi
 simp only[ldN,J7,Nat.zero_add]
 rw[if_pos (by rw[←Nat.succ_mul];exact Nat.mul_le_mul_right _ hi),Qs h]
 simp only[cl,←List.map_drop,←List.map_take,h2]
theorem RN{α:Type}{E:α→List FV}{n:Nat}[hs:HSz E n]{xs:List α}{e:Int}{v:α}{l:List CV}(hl:(E v).map .f=l)(h:0≤e∧e<(xs.length:Int)):
 Qj (cl E xs) (0+e.toNat*n) l=cl E (xs.set e.toNat v):=by
 subst hl
 exact Vb (E:=E) (by omega)
theorem JiK{α:Type}{E:α→List FV}{sz:Nat}[h:HSz E sz]{xs:List α}{b:Int}(hb:0≤b∧b≤xs.length):JgT sz xs.length (fl E xs) 0 b.toNat=some (rsl E (sub xs 0 b)):=Jby (a:=0) (by omega)
theorem JiJ{α:Type}{E:α→List FV}{sz:Nat}[h:HSz E sz]{xs:List α}{a:Int}(hb:0≤a∧a≤xs.length):JgT sz xs.length (fl E xs) a.toNat xs.length=some (rsl E (sub xs a xs.length)):=Jby (b:=xs.length) (by omega)
theorem JgR{l:List UInt8}{b:Int}(hb:0≤b∧b≤l.length):JgS l 0 b.toNat=some (Ye (sub l 0 b)):=Nq (a:=0) (by omega)
theorem JgQ{l:List UInt8}{a:Int}(hb:0≤a∧a≤l.length):JgS l a.toNat l.length=some (Ye (sub l a l.length)):=Nq (b:=l.length) (by omega)
theorem Jfr{q:Prop}[Decidable q](h:¬q):false=decide q:=(decide_eq_false h).symm
theorem Jfp{q:Prop}[Decidable q](h:q):true=decide q:=(decide_eq_true h).symm
theorem Jfq{p q:Prop}[Decidable p][Decidable q](h:p↔q):decide p=decide q:=decide_eq_decide.2 h
structure ZS where
 kind:Int
 cells:List Int
 val:Int
 deriving DecidableEq,Inhabited
structure QV where
 size:Int
 given:List Int
 rules:List ZS
 deriving DecidableEq,Inhabited
structure ZF where
 task:QV
 put:List Int
 moves:List Int
 deriving DecidableEq,Inhabited
structure Brn where
 tech:Int
 cell:Int
 deriving DecidableEq,Inhabited
structure Hnt where
 tech:Int
 cell:Int
 val:Int
 deriving DecidableEq,Inhabited
def eR(r:ZS):List FV:=[.int .i64 r.kind,Qf r.cells, .int .i64 r.val]
instance:HSz eR 3:=⟨fun _=>rfl⟩
def eB(b:Brn):List FV:=[.int .i64 b.tech, .int .i64 b.cell]
instance:HSz eB 2:=⟨fun _=>rfl⟩
def eL(l:List Int):List FV:=[Qf l]
instance:HSz eL 1:=⟨fun _=>rfl⟩
theorem eR_0(r:ZS):(eR r).getD 0 .nil= .int .i64 r.kind:=rfl
theorem eR_1(r:ZS):(eR r).getD 1 .nil=Qf r.cells:=rfl
theorem eR_2(r:ZS):(eR r).getD 2 .nil= .int .i64 r.val:=rfl
theorem eB_0(r:Brn):(eB r).getD 0 .nil= .int .i64 r.tech:=rfl
theorem eB_1(r:Brn):(eB r).getD 1 .nil= .int .i64 r.cell:=rfl
theorem eL_0(l:List Int):(eL l).getD 0 .nil=Qf l:=rfl
abbrev cR (r:ZS):List CV:=[.f (.int .i64 r.kind), .f (Qf r.cells), .f (.int .i64 r.val)]
abbrev cB (b:Brn):List CV:=[.f (.int .i64 b.tech), .f (.int .i64 b.cell)]
abbrev cP (p:QV):List CV:=[.f (.int .i64 p.size), .f (Qf p.given), .f (Va eR p.rules)]
abbrev cG (g:ZF):List CV:=[.f (.int .i64 g.task.size), .f (Qf g.task.given), .f (Va eR g.task.rules), .f (Qf g.put), .f (Qf g.moves)]
abbrev cH (h:Hnt):List CV:=[.f (.int .i64 h.tech), .f (.int .i64 h.cell), .f (.int .i64 h.val)]
abbrev aR (r:ZS):AV:= .agg (cR r)
abbrev aP (p:QV):AV:= .agg (cP p)
abbrev aG (g:ZF):AV:= .agg (cG g)
abbrev aH (h:Hnt):AV:= .agg (cH h)
theorem JlY(r:ZS):(eR r).map CV.f=cR r:=rfl
theorem Jl1(r:Brn):(eB r).map CV.f=cB r:=rfl
theorem JlZ(r:List Int):(eL r).map CV.f=[.f (Qf r)]:=rfl
attribute [go_sem] JiK JiJ JgR JgQ JfO Jit Jiu Jdl Jiv ldN_z JlS JdM Jb9 JdN Jkm JlT eR_0 eR_1 eR_2 eB_0 eB_1 eL_0 JlY Jl1 JlZ XP Yq B4 JiX
end Go.Lg

set_option maxRecDepth 100000
namespace Go.Lg
open Go.Proofs
theorem ZX{α:Type}[Inhabited α]{xs:List α}{i:Nat}(h:i<xs.length):JA xs i∈xs:=by
 rw[Qs (by omega)];exact List.getElem_mem _
def eRo(r:Option ZS):List FV:=match r with|none=>[.int .i64 0, .nil, .int .i64 0]|some r=>eR r
instance:HSz eRo 3:=⟨fun r=>by cases r<;>rfl⟩
theorem Jjz(n:Nat):QS (n*3) [.f (.int .i64 0), .f .nil, .f (.int .i64 0)]=cl eRo (Jd n none):=by
 induction n with
 |zero=>rfl
 |succ n ih=>
  have e:QS ((n+1)*3) [.f (.int .i64 0), .f .nil, .f (.int .i64 0)]=QS (n*3) [.f (.int .i64 0), .f .nil, .f (.int .i64 0)]++[.f (.int .i64 0), .f .nil, .f (.int .i64 0)]:=by
   simp only[QS,Nat.add_mul,List.range_add,QB,Je,Jf]
   congr 1
   simp only[List.range_succ,List.range_zero,Jc,QB,Qq,ZZ,Ja,List.map_map]
   simp[Nat.add_mod,Nat.mul_mod]
  rw[e,ih,List.replicate_succ',QZ];rfl
theorem setRo{xs:List (Option ZS)}{e:Int}{v:ZS}(h:0≤e∧e<(xs.length:Int)):Qj (cl eRo xs) (0+e.toNat*3) (cR v)=cl eRo (xs.set e.toNat (some v)):=
 RN (E:=eRo) (v:=some v) rfl h
theorem Jk7(n:Nat):QS (n*2) [.f (.int .i64 0), .f (.int .i64 0)]=cl eB (Jd n ⟨0,0⟩):=by
 induction n with
 |zero=>rfl
 |succ n ih=>
  have e:QS ((n+1)*2) [.f (.int .i64 0), .f (.int .i64 0)]=QS (n*2) [.f (.int .i64 0), .f (.int .i64 0)]++[.f (.int .i64 0), .f (.int .i64 0)]:=by
   simp only[QS,Nat.add_mul,List.range_add,QB,Je,Jf]
   congr 1
   simp only[List.range_succ,List.range_zero,Jc,QB,Qq,ZZ,Ja,List.map_map]
   simp[Nat.add_mod,Nat.mul_mod]
  rw[e,ih,List.replicate_succ',QZ];rfl
theorem setB{xs:List Brn}{e:Int}{v:Brn}(h:0≤e∧e<(xs.length:Int)):Qj (cl eB xs) (0+e.toNat*2) (cB v)=cl eB (xs.set e.toNat v):=
 RN (E:=eB) rfl h
attribute [go_sem] Jjz setRo Jk7 setB
def JfI(rs:List ZS):Prop:=rs.length≤2^40∧∀r∈rs,r.cells.length≤2^40
def YR(p:QV):Prop:=p.given.length≤2^40∧JfI p.rules
def smG(g:ZF):Prop:=YR g.task∧g.put.length≤2^40∧g.moves.length≤2^40
end Go.Lg

namespace Go.Lg
open Go.Proofs
theorem Ko{α:Type}[Inhabited α]{xs:List α}{f:α→Bool}{i:Nat}(h:i<xs.length):(xs.take (i+1)).countP f=(xs.take i).countP f+if f (JA xs i)then 1 else 0:=by
 rw[Ql h,List.countP_append];simp[List.countP_cons]
theorem JaL{α:Type}(xs:List α)(f:α→Bool)(i:Nat):(xs.take i).countP f≤xs.length:=by
 have:=List.countP_le_length (p:=f) (l:=xs.take i)
 simp at this;omega
def ZL(xs:List Int)(n:Int):Int:=if J8 xs n then(xs.countP fun v=>decide (0<v):Nat)else-1
theorem V7(xs:List Int)(n:Int)(hx:xs.length≤2^40):JW Tryz.prog 43 [QG xs,int n] (int (ZL xs n)):=by
 refine Jn.cw (c:=_) Tryz.func43 rfl (n:=24) Tryz.ntmps43 (rs:=[.tmp 4]) rfl ?_
 simp only[Je,Jf,zA,zS,Jd,Ja,Jc]
 simp(maxSteps:=999999)(disch:=omega)only[go_sem,zA,zM,zS,zE,zL]
 first|refine JY.rd (Zb xs n (by omega)) (⟨_,Tryz.func54,rfl,rfl⟩:Jh Tryz.prog 54) rfl rfl rfl rfl ?_|refine JM.rd (Zb xs n (by omega)) (⟨_,Tryz.func54,rfl,rfl⟩:Jh Tryz.prog 54) rfl rfl rfl rfl ?_
 simp(maxSteps:=999999)(disch:=omega)only[go_sem,zA,zM,zS,zE,zL]
 ((first|(with_reducible first|refine Jl ?_ ?_|refine Jj ?_ ?_|refine Jp ?_ ?_)|refine Jr ?_ ?_)<;>intro hv)
 rotate_left
 · simp(maxSteps:=999999)(disch:=omega)only[go_sem,zA,zM,zS,zE,zL]
   simp[ZL,hv]
 simp(maxSteps:=999999)(disch:=omega)only[go_sem,zA,zM,zS,zE,zL]
 refine JT (fun i:Nat=>xs.length -i) (fun i=>i≤xs.length) (fun i=>[.a, .a, .a, .a, .a, .p (int ((xs.take i).countP fun v=>decide (0<v):Nat)), .a, .a, .a, .a, .a, .a, .k, .k, .p (int i), .a, .a, .a, .a, .a, .a, .a, .a, .a]) (fun _=>[]) 0
  (Nat.zero_le _) (by simp(maxSteps:=999999)(disch:=omega)only[go_sem,zA,zM,zS,zE,zL];simp) (Qt _) ?_
 intro i hi
 have hb:=JaL xs (fun v=>decide (0<v)) i
 simp(maxSteps:=999999)(disch:=omega)only[go_sem,zA,zM,zS,zE,zL]
 ((first|(with_reducible first|refine Jl ?_ ?_|refine Jj ?_ ?_|refine Jp ?_ ?_)|refine Jr ?_ ?_)<;>intro h)
 · have h:i<xs.length:=by omega
   have hc:=Ko (f:=fun v=>decide (0<v)) h
   simp(maxSteps:=999999)(disch:=omega)only[go_sem,zA,zM,zS,zE,zL]
   ((first|(with_reducible first|refine Jl ?_ ?_|refine Jj ?_ ?_|refine Jp ?_ ?_)|refine Jr ?_ ?_)<;>intro h2)
   · simp(maxSteps:=999999)(disch:=omega)only[go_sem,zA,zM,zS,zE,zL]
     refine⟨i+1,⟨h,by omega⟩,⟨?_,by omega⟩,Qt _⟩
     rw[hc];simp[h2]
   · simp(maxSteps:=999999)(disch:=omega)only[go_sem,zA,zM,zS,zE,zL]
     refine⟨i+1,⟨h,by omega⟩,⟨?_,by omega⟩,Qt _⟩
     rw[hc];simp[h2]
 · simp(maxSteps:=999999)(disch:=omega)only[go_sem,zA,zM,zS,zE,zL]
   rw[Js (by omega)]
   simp only[ZL,hv,if_true]
end Go.Lg
