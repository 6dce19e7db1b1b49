/- LgX, GpH, GpG, cut to what is needed. -/
import Derived.Test.YtidekghnkifbjaaGreatDoorJea9
open List renaming cons_append → Jb, nil_append → Jc, replicate → Jd, length_cons → Je, length_nil → Jf, take_of_length_le → Js, drop_zero → JR, map_cons → Qr, getElem?_map → Qv, map_append → QE, map_nil → ZV, all_cons → VI, all_nil → W3
open Nat renaming reduceAdd→zA,reduceMul→zM,reduceSub→zS,reduceEqDiff→zE,reduceLeDiff→zL
set_option linter.unusedSimpArgs false
set_option linter.unusedVariables false
namespace Go.Lg
section
variable{P:Program}{ops r:Array Oper}{rl:List Oper}{s:List AV}{H:Jm}{K:KS}{Q:KT}{d:Option Tmp}{op:Op}{t:TypeId}{p:String}{e:Array Edge}{gd:Option (Nat×Bool)}{c x y:Code}{w:Bool}{q:Prop}[Decidable q]
theorem JJ(h1:q→UZ P ops ⟨d,op,t,p,e,gd⟩ rl s H K w (some true))(h2:¬q→UZ P ops ⟨d,op,t,p,e,gd⟩ rl s H K w (some false)):UZ P ops ⟨d,op,t,p,e,gd⟩ rl s H K w (some (decide q)):=by
 by_cases h:q
 · rw[decide_eq_true h];exact h1 h
 · rw[decide_eq_false h];exact h2 h
theorem JF(h1:q→UZ P ops ⟨d,op,t,p,e,gd⟩ rl s H K w (some false))(h2:¬q→UZ P ops ⟨d,op,t,p,e,gd⟩ rl s H K w (some true)):UZ P ops ⟨d,op,t,p,e,gd⟩ rl s H K w (some (!decide q)):=by
 by_cases h:q
 · rw[decide_eq_true h];exact h1 h
 · rw[decide_eq_false h];exact h2 h
theorem JU{b:Bool}(h1:b=true→UZ P ops ⟨d,op,t,p,e,gd⟩ rl s H K w (some false))(h2:b=false→UZ P ops ⟨d,op,t,p,e,gd⟩ rl s H K w (some true)):UZ P ops ⟨d,op,t,p,e,gd⟩ rl s H K w (some (!b)):=by
 cases b
 · exact h2 rfl
 · exact h1 rfl
theorem JH{G:KS}(h1:q→UX P ops ⟨d,op,t,p,e,gd⟩ rl s H G w (some true))(h2:¬q→UX P ops ⟨d,op,t,p,e,gd⟩ rl s H G w (some false)):UX P ops ⟨d,op,t,p,e,gd⟩ rl s H G w (some (decide q)):=by
 by_cases h:q
 · rw[decide_eq_true h];exact h1 h
 · rw[decide_eq_false h];exact h2 h
theorem JD{G:KS}(h1:q→UX P ops ⟨d,op,t,p,e,gd⟩ rl s H G w (some false))(h2:¬q→UX P ops ⟨d,op,t,p,e,gd⟩ rl s H G w (some true)):UX P ops ⟨d,op,t,p,e,gd⟩ rl s H G w (some (!decide q)):=by
 by_cases h:q
 · rw[decide_eq_true h];exact h1 h
 · rw[decide_eq_false h];exact h2 h
theorem JS{b:Bool}{G:KS}(h1:b=true→UX P ops ⟨d,op,t,p,e,gd⟩ rl s H G w (some false))(h2:b=false→UX P ops ⟨d,op,t,p,e,gd⟩ rl s H G w (some true)):UX P ops ⟨d,op,t,p,e,gd⟩ rl s H G w (some (!b)):=by
 cases b
 · exact h2 rfl
 · exact h1 rfl
theorem Jl(h1:q→cw P x s H Q)(h2:¬q→cw P y s H Q):KN P x y s H Q (decide q):=by
 by_cases h:q
 · rw[decide_eq_true h,BR];exact h1 h
 · rw[decide_eq_false h,BS];exact h2 h
theorem Jj(h1:q→cw P y s H Q)(h2:¬q→cw P x s H Q):KN P x y s H Q (!decide q):=by
 by_cases h:q
 · rw[decide_eq_true h];exact BS▸h1 h
 · rw[decide_eq_false h];exact BR▸h2 h
theorem Jr{b:Bool}(h1:b=true→cw P x s H Q)(h2:b=false→cw P y s H Q):KN P x y s H Q b:=by
 cases b
 · rw[BS];exact h2 rfl
 · rw[BR];exact h1 rfl
theorem Jp{b:Bool}(h1:b=true→cw P y s H Q)(h2:b=false→cw P x s H Q):KN P x y s H Q (!b):=by
 cases b
 · exact BR▸h2 rfl
 · exact BS▸h1 rfl
end
def RM(m:List Bool)(H H':Jm):Prop:=J0 (Zg m H') (Zg m H)
theorem Bw(H:Jm):Zg [] H=H:=by cases H<;>rfl
theorem JiI(m:List Bool)(x:Option Zv)(H:Jm):Zg (true::m) (x::H)=none::Zg m H:=rfl
theorem JiJ(m:List Bool)(x:Option Zv)(H:Jm):Zg (false::m) (x::H)=x::Zg m H:=rfl
theorem JiK(m:List Bool):Zg m []=[]:=by cases m with
 |nil=>rfl
 |cons b m=>cases b<;>rfl
theorem Jiw(m:List Bool)(H:Jm):RM m H H=True:=eq_true (J0.refl _)
theorem JkG(m:List Bool)(H:Jm):RM m [] H=True:=eq_true (by unfold RM;rw[JiK];exact Qu _)
theorem Jft(H H':Jm):RM [] H (H++H')=True:=eq_true (by unfold RM;rw[Bw,Bw];exact J0.app _ _)
theorem BK(x:Option Zv)(H H':Jm):J0 (x::H) (x::H')↔J0 H H':=
 ⟨fun h id b hb=>h (id+1) b hb,fun h=>Jdt x H H' h⟩
theorem JbT(x:Option Zv)(H H':Jm):J0 (x::H) (none::H')↔J0 H H':=
 ⟨fun h id b hb=>h (id+1) b hb,fun h=>BJ x H H' h⟩
theorem Jl4(x:Option Zv)(H H':Jm):RM [] (x::H) (x::H')=RM [] H H':=by
 unfold RM;simp only[Bw];exact propext (BK x H' H)
theorem okM_t(m:List Bool)(x y:Option Zv)(H H':Jm):RM (true::m) (x::H) (y::H')=RM m H H':=by
 unfold RM;simp only[JiI];exact propext (JbT none _ _)
theorem okM_f(m:List Bool)(x:Option Zv)(H H':Jm):RM (false::m) (x::H) (x::H')=RM m H H':=by
 unfold RM;simp only[JiJ];exact propext (BK x _ _)
theorem Vw.empty{P:Program}{ops:Array Oper}{o:Oper}{s:List AV}{t:TypeId}{ei:TI}(ho:o.op= .buildSlice t 0 #[]) (hs:QW P t=some ei) (H:Jm):Vw P ops o s H (.c .emp):=by
 intro w X a R next Q hn
 obtain⟨ti,e,ht,hk,he⟩:=UF hs
 obtain⟨inf,d,z',h1,h2,h3,h4,h5,h6,h7⟩:=Qi ht
 rw[h5]at hk;cases Zu hk
 have hrun:(execOp a.eval o).run P w= .ok (.value (.slice (some ⟨w.heap.size,0,none⟩) 0 0)) (w.alloc (.cells #[] e)):=by
  simp only[execOp,ho,Instr.buildSlice,Sem.run_bind,run_underlying h2,Result.andThen_ok,Zc he,Sem.run_ite,Sem.run_pure]
  simp[newRow,Instr.fill]
  rw[show Array.range 0= #[]from rfl,Array.map_empty]
 have R0:ZL w X []:=⟨R.heap.imm,fun id b hb=>by simp at hb,fun id id' b b' hb=>by simp at hb,R.heap.tab⟩
 obtain⟨_,k2⟩:=Xe (w':=w.alloc (.cells #[] e)) R0 (sz:=1) (t:=e) (cs:=[]) (cc:= #[]) rfl rfl rfl rfl (Nat.le_refl _) (fun j hj=>absurd hj (Nat.not_lt_zero _))
 have no:∀b,¬Kc X [] b:=fun b ⟨id,blk,h,_⟩=>by simp at h
 have hg:Z6 w (w.alloc (.cells #[] e)):=⟨fun b hb=>k2.frame b hb (no b),k2.size,k2.os,k2.tape,k2.output⟩
 exact Z7 hrun (hn _ _ X hg (Wc.refl _ _) (.c _ _ ⟨_,rfl⟩) (hg.rel R.heap))
theorem Jag{P:Program}{ops:Array Oper}{o:Oper}{s:List AV}{K:AV→Prop}{t:TypeId}{n:Nat}{ps:Array (Nat×Operand)}(ho:o.op= .buildSlice t n ps)(h:UN P s t n ps.toList K):∃v,(∀H,Vw P ops o s H v)∧K v:=by
 have h0:=h
 unfold UN at h
 split at h
 · rename_i ei rs h1 h2
   split at h
   · rename_i xs h3
     refine⟨.c (.f (.sl n xs)),fun H=> ?_, ?_⟩
     · have:UN P s t n ps.toList (fun v=>v= .c (.f (.sl n xs))):=by
        unfold UN
        simp only[h1,h2,h3]
        obtain⟨hz,hif⟩:=h
        refine⟨hz, ?_⟩
        split at hif
        · rename_i hq;rw[if_pos hq];trivial
        · exact hif.elim
       obtain⟨v,q1,q2⟩:=YV (ops:=ops) (H:=H) ho this
       rw[←q2];exact q1
     · obtain⟨hz,hif⟩:=h
       split at hif
       · exact hif
       · exact hif.elim
   · exact h.elim
 · exact h.elim
def KZ(P:Program)(s:List AV)(t:TypeId)(v x:AV)(K:AV→Prop):Prop:=
 match QW P t,v,x with
 |some ei, .c .emp, .c (.f (.sl m cs))=>Y4 (ei.zero.length=ei.size∧cs.length=m*ei.size∧m≤9223372036854775807∧m*ei.bytes≤140737488355328) (K (.c (.f (.sl m cs))))
 |_,_,_=>False
theorem Jcy{P:Program}{ops:Array Oper}{o:Oper}{s:List AV}{K:AV→Prop}{t:TypeId}{v x:Operand}(ho:o.op= .call ⟨.builtin .append,#[v,x],#[t,t]⟩) (h:KZ P s t (QY s v) (QY s x) K):∃r,(∀H,Vw P ops o s H r)∧K r:=by
 unfold KZ at h
 split at h
 · rename_i ei m cs hs hv hx
   obtain⟨⟨hz,hl,h63,h47⟩,hK⟩:=h
   obtain⟨ti,e,k1,k2,k3⟩:=UF hs
   refine⟨_,fun H=>Vw.ops (fun y hy=> ?_) rfl (fun s' hs'=> ?_),hK⟩
   · rw[ho]at hy
     simp only[Op.operands,Call.operands]at hy
     have:y=v∨y=x:=by simpa using hy
     rcases this with rfl|rfl
     · rw[hv];rfl
     · rw[hx];rfl
   · have e1:QY s' v= .c .emp:=by rw[hs' v (by rw[ho];simp[Op.operands,Call.operands])];exact hv
     have e2:QY s' x= .c (.f (.sl m cs)):=by rw[hs' x (by rw[ho];simp[Op.operands,Call.operands])];exact hx
     by_cases hm:m=0
     · subst hm
       have hcs:cs=[]:=List.eq_nil_of_length_eq_zero (by omega)
       subst hcs
       refine JZ.append_zero (n:=0) (l:=[]) ho k1 k2 k3 ?_ ?_ ?_
       · rw[e1];rfl
       · rw[e2];simp[elems]
       · rw[e1];rfl
     · refine JZ.append_new (n:=0) (m:=m) (l:=[]) (k:=cs.map .f) ho k1 k2 k3 hz ?_ ?_ ?_ (by omega) (by omega) (by simpa using h47) fun g=> ?_
       · rw[e1];rfl
       · rw[e2];simp only[elems];rw[if_pos hl]
       · rw[e1];simp[Nh]
       · have:look [some (⟨g,ei.size,([]:List CV)++cs.map .f⟩:Zv)] 0 g=some ⟨g,ei.size,cs.map .f⟩:=by simp[look]
         simp only[Jf,Jc,Vu,Xw,frzC,frz]
         have l0:look [some (⟨g,ei.size,cs.map .f⟩:Zv)] 0 g=some ⟨g,ei.size,cs.map .f⟩:=by simp[look]
         rw[l0]
         simp only[JR,Nat.zero_add]
         rw[Js (by simp[hl]),Jdy]
         rfl
 · exact h.elim
def XF(P:Program)(ops:Array Oper)(o:Oper)(s:List AV)(K:AV→Prop):Prop:=
 match o.op with
 | .buildSlice t n ps=>if n=0∧ps= #[]then QP (QW P t) (fun _=>K (.c .emp))else UN P s t n ps.toList K
 | .call ⟨.builtin .append,⟨[v,x]⟩,⟨[t,u]⟩⟩=>if t=u then KZ P s t (QY s v) (QY s x) K else False
 |_=>∃v,(∀H,Vw P ops o s H v)∧K v
theorem Jge{P:Program}{ops:Array Oper}{o:Oper}{s:List AV}{K:AV→Prop}(h:XF P ops o s K):∃v,(∀H,Vw P ops o s H v)∧K v:=by
 unfold XF at h
 split at h
 · rename_i t n ps ho
   split at h
   · rename_i hn
     obtain⟨rfl,rfl⟩:=hn
     obtain⟨ei,h1,h2⟩:=h
     exact⟨_,fun H=>Vw.empty ho h1 H,h2⟩
   · exact Jag ho h
 · rename_i v x t u ho
   split at h
   · rename_i htu;subst htu
     exact Jcy ho h
   · exact h.elim
 · exact h
theorem Jbv{P:Program}{ops:Array Oper}{s:List AV}{K:AV→Prop}{d:Option Tmp}{t t':TypeId}{p:String}{e:Array Edge}{g:Option (Nat×Bool)}:XF P ops ⟨d, .buildSlice t 0 #[],t',p,e,g⟩ s K=QP (QW P t) (fun _=>K (.c .emp)):=by
 simp[XF]
theorem Jcx{P:Program}{ops:Array Oper}{s:List AV}{K:AV→Prop}{d:Option Tmp}{t t':TypeId}{p:String}{e:Array Edge}{g:Option (Nat×Bool)}{n:Nat}{ps:List (Nat×Operand)}:XF P ops ⟨d, .buildSlice t (n+1) ps.toArray,t',p,e,g⟩ s K=UN P s t (n+1) ps K:=by
 simp[XF]
theorem Jgd{P:Program}{ops:Array Oper}{s:List AV}{K:AV→Prop}{d:Option Tmp}{t t':TypeId}{p:String}{e:Array Edge}{g:Option (Nat×Bool)}{v x:Operand}:XF P ops ⟨d, .call ⟨.builtin .append,#[v,x],#[t,t]⟩,t',p,e,g⟩ s K=KZ P s t (QY s v) (QY s x) K:=by
 simp[XF]
theorem Jed{P:Program}{s:List AV}{t:TypeId}{m:Nat}{cs:List FV}{K:AV→Prop}:KZ P s t (.c .emp) (.c (.f (.sl m cs))) K=QP (QW P t) (fun ei=>Y4 (ei.zero.length=ei.size∧cs.length=m*ei.size∧m≤9223372036854775807∧m*ei.bytes≤140737488355328) (K (.c (.f (.sl m cs))))):=by
 unfold KZ
 cases QW P t<;>simp[QP]
section
variable(P:Program)(ops:Array Oper)(m:List Bool)(F:List Nat)(D:Option Nat)(r:List Nat)(G:Option Gh)(s:List AV)(H:Jm)(K:KS)
def Rq:List Nat→Option Gh→List AV→Jm→KS→Prop
 |[],G,s,H,K=>XH G s H K
 |i::r,G,s,H,K=>match ops[i]? with
  |none=>False
  |some o=>if D=some i then QP (ghV P s o) (fun e=>e.d<s.length∧Rq r (some e) (QV s o.dst .any) H K)else match o.guard with
   |none=>if Vo o.op=true then opW P o s (Zg m H) (fun v _=>Rq r G (QV s o.dst v) H K)else if F.contains i=true then XF P ops o s (fun v=>Rq r G (QV s o.dst v) H K)else if X4 o.op=true then opW P o s H (fun v H'=>RM m H H'∧Rq r G (QV s o.dst v) H' K)else JK P ops o s H (fun v H'=>RM m H H'∧Rq r G (QV s o.dst v) H' K)
   |some (j,want)=>QP (Um ops s j) (fun g=>UY g want (if Vo o.op=true then opW P o s (Zg m H) (fun v _=>Rq r G (QV s o.dst v) H K)else if F.contains i=true then XF P ops o s (fun v=>Rq r G (QV s o.dst v) H K)else if X4 o.op=true then opW P o s H (fun v H'=>RM m H H'∧Rq r G (QV s o.dst v) H' K)else JK P ops o s H (fun v H'=>RM m H H'∧Rq r G (QV s o.dst v) H' K)) (Rq r G (QV s o.dst .void) H K))
def lwV(d:Option Tmp):KV:=fun v _=>Rq P ops m F D r G (QV s d v) H K
def lwL(d:Option Tmp):KV:=fun v H'=>RM m H H'∧Rq P ops m F D r G (QV s d v) H' K
def lwG(d:Option Tmp):Gh→Prop:=fun e=>e.d<s.length∧Rq P ops m F D r (some e) (QV s d .any) H K
def lwS(d:Option Tmp):AV→Prop:=fun v=>Rq P ops m F D r G (QV s d v) H K
def BA(i:Nat)(o:Oper):Prop:=if Vo o.op=true then opW P o s (Zg m H) (lwV P ops m F D r G s H K o.dst)else if F.contains i=true then XF P ops o s (lwS P ops m F D r G s H K o.dst)else if X4 o.op=true then opW P o s H (lwL P ops m F D r G s H K o.dst)else JK P ops o s H (lwL P ops m F D r G s H K o.dst)
def lwW(i:Nat)(o:Oper)(want:Bool):Option Bool→Prop:=fun g=>UY g want (BA P ops m F D r G s H K i o) (Rq P ops m F D r G (QV s o.dst .void) H K)
def lwO(i:Nat):Option Oper→Prop
 |none=>False
 |some o=>if D=some i then QP (ghV P s o) (lwG P ops m F D r s H K o.dst)else match o.guard with
  |none=>BA P ops m F D r G s H K i o
  |some (j,want)=>QP (Um ops s j) (lwW P ops m F D r G s H K i o want)
theorem Jv(i:Nat):Rq P ops m F D (i::r) G s H K=lwO P ops m F D r G s H K i ops[i]? :=by
 rw[Rq]
 cases ops[i]? with
 |none=>rfl
 |some o=>rfl
theorem Ja7(ih:∀G s H,Rq P ops m F D r G s H K→lw P ops m F D r G s H K)(i:Nat)(o:Oper)(h:BA P ops m F D r G s H K i o):(if XD F i o=true then∃v,qv P ops m o s H v∧lw P ops m F D r G (QV s o.dst v) H K
         else JK P ops o s H fun v H'=>J0 (Zg m H') (Zg m H)∧lw P ops m F D r G (QV s o.dst v) H' K):=by
 unfold BA at h
 split at h
 · rename_i hv
   rw[if_pos (by simp only[XD,hv,Bool.true_or])]
   simp only[opW,hv,if_true,QP,atH,lwV]at h
   obtain⟨v,h1,h2⟩:=h
   exact⟨v,by unfold qv;rw[if_pos hv];exact h1,ih _ _ _ h2⟩
 · rename_i hv
   split at h
   · rename_i hc
     rw[if_pos (by unfold XD;rw[hc];simp only[Bool.or_true])]
     obtain⟨v,h1,h2⟩:=Jge h
     exact⟨v,by unfold qv;rw[if_neg hv];exact h1,ih _ _ _ h2⟩
   · rename_i hc
     rw[if_neg (by simp only[XD,Bool.or_eq_true];exact fun h=>h.elim hv hc)]
     have hL:JK P ops o s H (lwL P ops m F D r G s H K o.dst):=by
      split at h
      · rename_i hm
        refine FW ?_
        unfold JfF
        rw[if_pos hm]
        simp only[opW,if_neg hv]at h
        exact h
      · exact h
     exact hL.mono fun v H' hk=>⟨hk.1,ih _ _ _ hk.2⟩
theorem JfE:Rq P ops m F D [] G s H K=XH G s H K:=by rw[Rq]
theorem JiN:∀(r:List Nat) (G:Option Gh) (s:List AV) (H:Jm),Rq P ops m F D r G s H K→lw P ops m F D r G s H K
 |[],G,s,H,h=>by rw[JfE]at h;rw[lw];exact h
 |i::r,G,s,H,h=>by
  have ih:=JiN r
  rw[Jv]at h
  unfold lw
  cases ho:ops[i]? with
  |none=>rw[ho]at h;exact h.elim
  |some o=>
   rw[ho]at h
   simp only[lwO]at h⊢
   split at h
   · rename_i hD
     rw[if_pos hD]
     obtain⟨e,h1,h2,h3⟩:=h
     exact⟨e,h1,h2,ih _ _ _ h3⟩
   · rename_i hD
     rw[if_neg hD]
     split at h
     · rename_i hg;simp only[hg];exact Ja7 P ops m F D r G s H K ih i o h
     · rename_i j want hg
       simp only[hg]
       obtain⟨g,h1,h2,h3⟩:=h
       exact⟨g,h1,fun he=>Ja7 P ops m F D r G s H K ih i o (h2 he),fun hn=>ih _ _ _ (h3 hn)⟩
theorem Ui{P:Program}{ops:Array Oper}{s:List AV}{H:Jm}{K:KS}(π:List Nat)(F:List Nat)(D:Option Nat)(σ:List Nat)(m:List Bool)(hm:P.follows .mixedOrders=true)(hB:Wi ops π F D σ=true)(h:Rq P ops m F D π none s H (swK P ops σ K)):KJ P ops s H K:=
 Jk5 π F D σ m hm hB (JiN P ops m F D _ π none s H h)
theorem JiP(i:Nat)(d:Option Tmp)(op:Op)(t:TypeId)(p:String)(e:Array Edge):
 lwO P ops m F D r G s H K i (some ⟨d,op,t,p,e,none⟩)=if D=some i then QP (ghV P s ⟨d,op,t,p,e,none⟩) (lwG P ops m F D r s H K d)else BA P ops m F D r G s H K i ⟨d,op,t,p,e,none⟩:=propext Iff.rfl
theorem JgI(i:Nat)(d:Option Tmp)(op:Op)(t:TypeId)(p:String)(e:Array Edge)(j:Nat)(want:Bool):
 lwO P ops m F D r G s H K i (some ⟨d,op,t,p,e,some (j,want)⟩)=if D=some i then QP (ghV P s ⟨d,op,t,p,e,some (j,want)⟩) (lwG P ops m F D r s H K d)else QP (Um ops s j) (lwW P ops m F D r G s H K i ⟨d,op,t,p,e,some (j,want)⟩ want):=propext Iff.rfl
theorem JiO(i:Nat)(d:Option Tmp)(op:Op)(t:TypeId)(p:String)(e:Array Edge)(g:Option (Nat×Bool)):
 BA P ops m F D r G s H K i ⟨d,op,t,p,e,g⟩=if Vo op=true then opW P ⟨d,op,t,p,e,g⟩ s (Zg m H) (lwV P ops m F D r G s H K d)else if F.contains i=true then XF P ops ⟨d,op,t,p,e,g⟩ s (lwS P ops m F D r G s H K d)else if X4 op=true then opW P ⟨d,op,t,p,e,g⟩ s H (lwL P ops m F D r G s H K d)else JK P ops ⟨d,op,t,p,e,g⟩ s H (lwL P ops m F D r G s H K d):=propext Iff.rfl
theorem Jmd(d:Option Tmp)(v:AV)(H':Jm):lwV P ops m F D r G s H K d v H'=Rq P ops m F D r G (QV s d v) H K:=propext Iff.rfl
theorem Jme(d:Option Tmp)(v:AV):lwS P ops m F D r G s H K d v=Rq P ops m F D r G (QV s d v) H K:=propext Iff.rfl
theorem Jmf(d:Option Tmp)(v:AV)(H':Jm):lwL P ops m F D r G s H K d v H'=Y4 (RM m H H') (Rq P ops m F D r G (QV s d v) H' K):=propext Iff.rfl
theorem Jmg(d:Option Tmp)(e:Gh):lwG P ops m F D r s H K d e=Y4 (e.d<s.length) (Rq P ops m F D r (some e) (QV s d .any) H K):=propext Iff.rfl
theorem Nq(i:Nat)(d:Option Tmp)(op:Op)(t:TypeId)(p:String)(e:Array Edge)(gd:Option (Nat×Bool))(want:Bool)(g:Option Bool):
 lwW P ops m F D r G s H K i ⟨d,op,t,p,e,gd⟩ want g=UY g want (BA P ops m F D r G s H K i ⟨d,op,t,p,e,gd⟩) (Rq P ops m F D r G (QV s d .void) H K):=propext Iff.rfl
theorem JbB:XH none s H K=K s H:=propext Iff.rfl
theorem JbA(d:Tmp)(n:Option Nat)(sz:Nat)(cs:List CV):XH (some ⟨d,n,sz,cs⟩) s H K=∀g,K (s.set d (ghA H.length g n)) (H++[some ⟨g,sz,cs⟩]):=propext Iff.rfl
def swO:Option Oper→Prop
 |none=>False
 |some o=>vw P ops [o] s H (swK P ops r K)
theorem Jke(i:Nat):sw P ops (i::r) s H K=swO P ops r s H K ops[i]? :=by
 rw[sw]
 cases ops[i]? <;>rfl
theorem JlL:sw P ops [] s H K=K s H:=by rw[sw]
theorem JhW(o:Oper):swO P ops r s H K (some o)=vw P ops [o] s H (swK P ops r K):=propext Iff.rfl
theorem JlN:swK P ops r K s H=sw P ops r s H K:=propext Iff.rfl
end
theorem Jg8{P:Program}{s:List AV}{d:Tmp}{t:TypeId}{t':TypeId}{p:String}{e:Array Edge}{g:Option (Nat×Bool)}:ghV P s ⟨some d, .alloc t,t',p,e,g⟩=match JV P t with
 |some ti=>if ti.zero.all X5=true then some ⟨d,none,ti.size,ti.zero⟩else none
 |none=>none:=rfl
theorem Ji7{P:Program}{s:List AV}{d:Tmp}{t:TypeId}{t':TypeId}{p:String}{e:Array Edge}{g:Option (Nat×Bool)}{l c:Operand}:ghV P s ⟨some d, .makeSlice t l c,t',p,e,g⟩=match QW P t,QY s l,QY s c with
 |some ei, .c (.f (.int _ l)), .c (.f (.int _ c))=>if ei.zero.all X5∧ei.zero.length=ei.size∧(0≤l∧l≤c)∧c≤9223372036854775807∧ei.bytes*c≤281474976710656 then some ⟨d,some (cnt l),ei.size,QX (cnt l*ei.size) ei.zero⟩else none
 |_,_,_=>none:=rfl
section
variable{P:Program}{ops:Array Oper}{m:List Bool}{F:List Nat}{D:Option Nat}{i:Nat}{rl:List Nat}{G:Option Gh}{s:List AV}{H:Jm}{K:KS}{d:Option Tmp}{op:Op}{t:TypeId}{p:String}{e:Array Edge}{gd:Option (Nat×Bool)}{b w:Bool}{q:Prop}[Decidable q]
theorem Jl8:lwW P ops m F D rl G s H K i ⟨d,op,t,p,e,gd⟩ true (some true)=BA P ops m F D rl G s H K i ⟨d,op,t,p,e,gd⟩:=by rw[Nq,Fo]
theorem Jmc:lwW P ops m F D rl G s H K i ⟨d,op,t,p,e,gd⟩ false (some false)=BA P ops m F D rl G s H K i ⟨d,op,t,p,e,gd⟩:=by rw[Nq,Fr]
theorem Jl9:lwW P ops m F D rl G s H K i ⟨d,op,t,p,e,gd⟩ true (some false)=Rq P ops m F D rl G (QV s d .void) H K:=by rw[Nq,Fq]
theorem Jmb:lwW P ops m F D rl G s H K i ⟨d,op,t,p,e,gd⟩ false (some true)=Rq P ops m F D rl G (QV s d .void) H K:=by rw[Nq,Fp]
theorem Jma:lwW P ops m F D rl G s H K i ⟨d,op,t,p,e,gd⟩ w none=Rq P ops m F D rl G (QV s d .void) H K:=by rw[Nq,KC]
theorem Jz(h1:b=true→lwW P ops m F D rl G s H K i ⟨d,op,t,p,e,gd⟩ w (some true))(h2:b=false→lwW P ops m F D rl G s H K i ⟨d,op,t,p,e,gd⟩ w (some false)):lwW P ops m F D rl G s H K i ⟨d,op,t,p,e,gd⟩ w (some b):=by
 cases b
 · exact h2 rfl
 · exact h1 rfl
theorem JT(h1:b=true→lwW P ops m F D rl G s H K i ⟨d,op,t,p,e,gd⟩ w (some false))(h2:b=false→lwW P ops m F D rl G s H K i ⟨d,op,t,p,e,gd⟩ w (some true)):lwW P ops m F D rl G s H K i ⟨d,op,t,p,e,gd⟩ w (some (!b)):=by
 cases b
 · exact h2 rfl
 · exact h1 rfl
theorem JI(h1:q→lwW P ops m F D rl G s H K i ⟨d,op,t,p,e,gd⟩ w (some true))(h2:¬q→lwW P ops m F D rl G s H K i ⟨d,op,t,p,e,gd⟩ w (some false)):lwW P ops m F D rl G s H K i ⟨d,op,t,p,e,gd⟩ w (some (decide q)):=by
 by_cases h:q
 · rw[decide_eq_true h];exact h1 h
 · rw[decide_eq_false h];exact h2 h
theorem JE(h1:q→lwW P ops m F D rl G s H K i ⟨d,op,t,p,e,gd⟩ w (some false))(h2:¬q→lwW P ops m F D rl G s H K i ⟨d,op,t,p,e,gd⟩ w (some true)):lwW P ops m F D rl G s H K i ⟨d,op,t,p,e,gd⟩ w (some (!decide q)):=by
 by_cases h:q
 · rw[decide_eq_true h];exact h1 h
 · rw[decide_eq_false h];exact h2 h
end
section
variable{P:Program}{ops:Array Oper}{o:Oper}{s:List AV}{H:Jm}{K:KV}{fo:Operand}{xs:Array Operand}{ts:Array TypeId}{f:FuncId}{args args':List AV}{v:AV}{u:Value}{Q:KV}
theorem JK.call(ho:o.op= .call ⟨.value fo,xs,ts⟩)(ha:Qc ⟨s,H⟩ fo xs=some (f,args))(h:∀s',Qc ⟨s',H⟩ fo xs=some (f,args)→JZ P o ⟨s',H⟩ K):JK P ops o s H K:=
 JK.of (h _ (by rw[Wa (s:=s) (H:=H) ts fun x hx=>Ym (Vr (by rw[ho];exact hx))];exact ha))
theorem JK.rd(hc:JW P f args' v)(he:Ji P f)(ho:o.op= .call ⟨.value fo,xs,ts⟩)(ha:Qc ⟨s,H⟩ fo xs=some (f,args))(hs:args.mapM (R9 H)=some args')
 (hf:KE v=some u) (hk:K v H):JK P ops o s H K:=JK.call ho ha fun s' ha'=>JZ.rd hc he ho ha' hs hf hk
theorem JK.mk(hc:JW P f args v)(he:Ji P f)(ho:o.op= .call ⟨.value fo,xs,ts⟩)(ha:Qc ⟨s,H⟩ fo xs=some (f,args))(hf:args.all Q2=true)
 (ht:Kl v=true) (hv:WO H.length v=v) (hk:K v H):JK P ops o s H K:=JK.call ho ha fun s' ha'=>JZ.mk hc he ho ha' hf ht hv hk
theorem JK.mkQ(hc:Jn P f args [] Q)(he:Ji P f)(ho:o.op= .call ⟨.value fo,xs,ts⟩)(ha:Qc ⟨s,H⟩ fo xs=some (f,args))(hf:args.all Q2=true)
 (hk:∀r H',Q r H'→Kl r=true∧K (WO H.length r) (H++Q7 H.length H')):JK P ops o s H K:=JK.call ho ha fun s' ha'=>JZ.mkQ hc he ho ha' hf hk
theorem JK.run(hc:Jn P f args H Q)(he:Ji P f)(ho:o.op= .call ⟨.value fo,xs,ts⟩)(ha:Qc ⟨s,H⟩ fo xs=some (f,args))(hk:∀r H',Q r H'→K r H'):JK P ops o s H K:=
 JK.call ho ha fun s' ha'=>JZ.run hc he ho ha' hk
end
theorem Jgx{P:Program}{s:List AV}{H:Jm}{F:KV}{d:Option Tmp}{t:TypeId}{p:String}{e:Array Edge}{g:Option (Nat×Bool)}(bt:TypeId)(ps:List (Nat×Operand)):opW P ⟨d, .build bt ps.toArray,t,p,e,g⟩ s H F=JjR P s H bt ps F:=propext Iff.rfl
theorem N4{P:Program}:(∀f∈([]:List (TypeId×Nat)),(JV P f.1).isSome=true)=True:=eq_true (by simp)
theorem Gr{P:Program}{t:TypeId}{n:Nat}{l:List (TypeId×Nat)}:(∀f∈(t,n)::l,(JV P f.1).isSome=true)=((JV P t).isSome=true∧∀f∈l,(JV P f.1).isSome=true):=by simp
theorem JiE(k k':IntKind)(a b:Int):Gn true (.c (.f (.int k a))) (.c (.f (.int k' b)))=some (.c (.f (.int k (max a b)))):=by
 simp only[Gn,if_true]
 congr 4
 split<;>omega
theorem JiD(k k':IntKind)(a b:Int):Gn false (.c (.f (.int k a))) (.c (.f (.int k' b)))=some (.c (.f (.int k (min a b)))):=by
 simp only[Gn,Bool.false_eq_true,if_false]
 congr 4
 split<;>omega
attribute [go_sem] Jv JiE JiD Option.map_none Bw JiI JiJ JiK Jiw JkG Jft Jl4 okM_t okM_f JfE JiP JgI JiO Jmd Jme Jmf Jbv Jcx Jgd Jed List.contains_cons List.contains_nil Bool.or_false Bool.false_or Nat.reduceBEq Jmg Jl8 Jmc Jl9 Jmb Jma JbB JbA Jke JlL JhW JlN Jg8 Ji7 ghA
 Vo X4 Option.some.injEq VI W3 X5 Bool.and_self Jgx JjR N4 Gr Jd8
theorem Jgm(P:Program)(s:List AV)(H:Jm)(t:Nat)(ty:TypeId):YD P s H [.cell t ty]=V3 P H ty (s.getD t .void):=by
 simp only[YD,YE,Fb]
 cases V3 P H ty (s.getD t .void)<;>rfl
theorem JiV{g sz:Nat}{c:CV}{l:List CV}:ldP (some ⟨g,sz,c::l⟩) 0=some (.c c):=rfl
theorem JiW{g sz n:Nat}{c:CV}{l:List CV}:ldP (some ⟨g,sz,c::l⟩) (n+1)=ldP (some ⟨g,sz,l⟩) n:=rfl
def ldN(b:Option Zv)(off n:Nat):Option (List CV):=match b with
 |some b=>if off+n≤b.cs.length then some ((b.cs.drop off).take n)else none
 |none=>none
theorem JdR{H:Jm}{id g off n:Nat}:Un H (.ptr id g off) n=ldN (look H id g) off n:=rfl
theorem JiX{g sz n off:Nat}{c:CV}{l:List CV}:ldN (some ⟨g,sz,c::l⟩) (off+1) n=ldN (some ⟨g,sz,l⟩) off n:=by
 simp only[ldN,Je,List.drop_succ_cons]
 by_cases h:off+n≤l.length
 · rw[if_pos h,if_pos (by omega)]
 · rw[if_neg h,if_neg (by omega)]
theorem ldN_z{g sz:Nat}{l:List CV}:ldN (some ⟨g,sz,l⟩) 0 0=some []:=by simp[ldN]
theorem Jmk{g sz n:Nat}{c:CV}{l:List CV}:ldN (some ⟨g,sz,c::l⟩) 0 (n+1)=(ldN (some ⟨g,sz,l⟩) 0 n).map (c::·):=by
 simp only[ldN,Je,JR,List.take_succ_cons]
 by_cases h:0+n≤l.length
 · rw[if_pos h,if_pos (by omega)];rfl
 · rw[if_neg h,if_neg (by omega)];rfl
theorem Jeh{l:List CV}:Qk l 0 []=l:=by simp[Qk]
theorem JcG{c d:CV}{l m:List CV}:Qk (c::l) 0 (d::m)=d::Qk l 0 m:=by simp[Qk]
theorem Jei{c:CV}{l m:List CV}{n:Nat}:Qk (c::l) (n+1) m=c::Qk l n m:=by
 simp only[Qk,List.take_succ_cons,Jb,List.cons.injEq,true_and]
 rw[show n+1+m.length=n+m.length+1 by omega,List.drop_succ_cons]
theorem JkU{α:Type}{E:α→List FV}{n:Nat}[Inhabited α][hs:HSz E n]{g sz:Nat}{xs:List α}{e:Int}{j:Nat}(h:0≤e∧e<(xs.length:Int))(hj:j<n):
 ldP (some ⟨g,sz,cl E xs⟩) (0+e.toNat*n+j)=some (.c (.f ((E (JA xs e)).getD j .nil))):=by
 have hi:e.toNat<xs.length:=by omega
 have:=BN (E:=E) (xs:=xs) hi hj
 rw[Jdn,Nat.zero_add,Qt h]
 simp only[cl,Qv,this,Option.map_some]
theorem Jml{α:Type}{E:α→List FV}{n:Nat}[Inhabited α][hs:HSz E n]{g sz:Nat}{xs:List α}{e:Int}(h:0≤e∧e<(xs.length:Int)):
 ldN (some ⟨g,sz,cl E xs⟩) (0+e.toNat*n) n=some ((E (JA xs e)).map .f):=by
 have hi:e.toNat<xs.length:=by omega
 have h2:=Ji9 (E:=E) xs hi
 simp only[ldN,Qa,Nat.zero_add]
 rw[if_pos (by rw[←Nat.succ_mul];exact Nat.mul_le_mul_right _ hi),Qt h]
 simp only[cl,←List.map_drop,←List.map_take,h2]
theorem Bc{α:Type}{E:α→List FV}{n:Nat}[hs:HSz E n]{xs:List α}{e:Int}{v:α}{l:List CV}(hl:(E v).map .f=l)(h:0≤e∧e<(xs.length:Int)):
 Qk (cl E xs) (0+e.toNat*n) l=cl E (xs.set e.toNat v):=by
 subst hl
 exact Vj (E:=E) (by omega)
theorem Jjd{α:Type}{E:α→List FV}{sz:Nat}[h:HSz E sz]{xs:List α}{b:Int}(hb:0≤b∧b≤xs.length):Jho sz xs.length (fl E xs) 0 b.toNat=some (Bl E (sub xs 0 b)):=Jb5 (a:=0) (by omega)
theorem Jjc{α:Type}{E:α→List FV}{sz:Nat}[h:HSz E sz]{xs:List α}{a:Int}(hb:0≤a∧a≤xs.length):Jho sz xs.length (fl E xs) a.toNat xs.length=some (Bl E (sub xs a xs.length)):=Jb5 (b:=xs.length) (by omega)
theorem Jhm{l:List UInt8}{b:Int}(hb:0≤b∧b≤l.length):Jhn l 0 b.toNat=some (WU (sub l 0 b)):=NU (a:=0) (by omega)
theorem Jhl{l:List UInt8}{a:Int}(hb:0≤a∧a≤l.length):Jhn l a.toNat l.length=some (WU (sub l a l.length)):=NU (b:=l.length) (by omega)
theorem JfV{q:Prop}[Decidable q](h:¬q):false=decide q:=(decide_eq_false h).symm
theorem JfT{q:Prop}[Decidable q](h:q):true=decide q:=(decide_eq_true h).symm
theorem JfU{p q:Prop}[Decidable p][Decidable q](h:p↔q):decide p=decide q:=decide_eq_decide.2 h
structure Z0 where
 kind:Int
 cells:List Int
 val:Int
 deriving DecidableEq,Inhabited
structure Q4 where
 size:Int
 given:List Int
 rules:List Z0
 deriving DecidableEq,Inhabited
structure QZ where
 task:Q4
 put:List Int
 moves:List Int
 deriving DecidableEq,Inhabited
structure Brn where
 tech:Int
 cell:Int
 deriving DecidableEq,Inhabited
structure Hnt where
 tech:Int
 cell:Int
 val:Int
 deriving DecidableEq,Inhabited
def eR(r:Z0):List FV:=[.int .i64 r.kind,J5 r.cells, .int .i64 r.val]
instance:HSz eR 3:=⟨fun _=>rfl⟩
def eB(b:Brn):List FV:=[.int .i64 b.tech, .int .i64 b.cell]
instance:HSz eB 2:=⟨fun _=>rfl⟩
def eL(l:List Int):List FV:=[J5 l]
instance:HSz eL 1:=⟨fun _=>rfl⟩
theorem eR_0(r:Z0):(eR r).getD 0 .nil= .int .i64 r.kind:=rfl
theorem eR_1(r:Z0):(eR r).getD 1 .nil=J5 r.cells:=rfl
theorem eR_2(r:Z0):(eR r).getD 2 .nil= .int .i64 r.val:=rfl
theorem eB_0(r:Brn):(eB r).getD 0 .nil= .int .i64 r.tech:=rfl
theorem eB_1(r:Brn):(eB r).getD 1 .nil= .int .i64 r.cell:=rfl
theorem eL_0(l:List Int):(eL l).getD 0 .nil=J5 l:=rfl
abbrev cR (r:Z0):List CV:=[.f (.int .i64 r.kind), .f (J5 r.cells), .f (.int .i64 r.val)]
abbrev cB (b:Brn):List CV:=[.f (.int .i64 b.tech), .f (.int .i64 b.cell)]
abbrev cP (p:Q4):List CV:=[.f (.int .i64 p.size), .f (J5 p.given), .f (Uu eR p.rules)]
abbrev cG (g:QZ):List CV:=[.f (.int .i64 g.task.size), .f (J5 g.task.given), .f (Uu eR g.task.rules), .f (J5 g.put), .f (J5 g.moves)]
abbrev cH (h:Hnt):List CV:=[.f (.int .i64 h.tech), .f (.int .i64 h.cell), .f (.int .i64 h.val)]
abbrev aR (r:Z0):AV:= .agg (cR r)
abbrev aP (p:Q4):AV:= .agg (cP p)
abbrev aG (g:QZ):AV:= .agg (cG g)
abbrev aH (h:Hnt):AV:= .agg (cH h)
theorem Jmr(r:Z0):(eR r).map CV.f=cR r:=rfl
theorem Jmu(r:Brn):(eB r).map CV.f=cB r:=rfl
theorem Jms(r:List Int):(eL r).map CV.f=[.f (J5 r)]:=rfl
attribute [go_sem] Jjd Jjc Jhm Jhl Jgm JiV JiW JdR JiX ldN_z Jmk Jeh JcG Jei JkU Jml eR_0 eR_1 eR_2 eB_0 eB_1 eL_0 Jmr Jmu Jms Yg YM Fv Jjr
end Go.Lg

set_option maxRecDepth 100000
namespace Go.Lg
open Go.Proofs
theorem ZP{α:Type}[Inhabited α]{xs:List α}{i:Nat}(h:i<xs.length):JA xs i∈xs:=by
 rw[Qt (by omega)];exact List.getElem_mem _
def eRo(r:Option Z0):List FV:=match r with|none=>[.int .i64 0, .nil, .int .i64 0]|some r=>eR r
instance:HSz eRo 3:=⟨fun r=>by cases r<;>rfl⟩
theorem Jj4(n:Nat):QX (n*3) [.f (.int .i64 0), .f .nil, .f (.int .i64 0)]=cl eRo (Jd n none):=by
 induction n with
 |zero=>rfl
 |succ n ih=>
  have e:QX ((n+1)*3) [.f (.int .i64 0), .f .nil, .f (.int .i64 0)]=QX (n*3) [.f (.int .i64 0), .f .nil, .f (.int .i64 0)]++[.f (.int .i64 0), .f .nil, .f (.int .i64 0)]:=by
   simp only[QX,Nat.add_mul,List.range_add,QE,Je,Jf]
   congr 1
   simp only[List.range_succ,List.range_zero,Jc,QE,Qr,ZV,Jb,List.map_map]
   simp[Nat.add_mod,Nat.mul_mod]
  rw[e,ih,List.replicate_succ',Q6];rfl
theorem setRo{xs:List (Option Z0)}{e:Int}{v:Z0}(h:0≤e∧e<(xs.length:Int)):Qk (cl eRo xs) (0+e.toNat*3) (cR v)=cl eRo (xs.set e.toNat (some v)):=
 Bc (E:=eRo) (v:=some v) rfl h
theorem JlF(n:Nat):QX (n*2) [.f (.int .i64 0), .f (.int .i64 0)]=cl eB (Jd n ⟨0,0⟩):=by
 induction n with
 |zero=>rfl
 |succ n ih=>
  have e:QX ((n+1)*2) [.f (.int .i64 0), .f (.int .i64 0)]=QX (n*2) [.f (.int .i64 0), .f (.int .i64 0)]++[.f (.int .i64 0), .f (.int .i64 0)]:=by
   simp only[QX,Nat.add_mul,List.range_add,QE,Je,Jf]
   congr 1
   simp only[List.range_succ,List.range_zero,Jc,QE,Qr,ZV,Jb,List.map_map]
   simp[Nat.add_mod,Nat.mul_mod]
  rw[e,ih,List.replicate_succ',Q6];rfl
theorem setB{xs:List Brn}{e:Int}{v:Brn}(h:0≤e∧e<(xs.length:Int)):Qk (cl eB xs) (0+e.toNat*2) (cB v)=cl eB (xs.set e.toNat v):=
 Bc (E:=eB) rfl h
attribute [go_sem] Jj4 setRo JlF setB
def Jgf(rs:List Z0):Prop:=rs.length≤2^40∧∀r∈rs,r.cells.length≤2^40
def Rf(p:Q4):Prop:=p.given.length≤2^40∧Jgf p.rules
def smG(g:QZ):Prop:=Rf g.task∧g.put.length≤2^40∧g.moves.length≤2^40
end Go.Lg

namespace Go.Lg
open Go.Proofs
theorem KK{α:Type}[Inhabited α]{xs:List α}{f:α→Bool}{i:Nat}(h:i<xs.length):(xs.take (i+1)).countP f=(xs.take i).countP f+if f (JA xs i)then 1 else 0:=by
 rw[Qg h,List.countP_append];simp[List.countP_cons]
theorem Jbj{α:Type}(xs:List α)(f:α→Bool)(i:Nat):(xs.take i).countP f≤xs.length:=by
 have:=List.countP_le_length (p:=f) (l:=xs.take i)
 simp at this;omega
def ZT(xs:List Int)(n:Int):Int:=if Qe xs n then(xs.countP fun v=>decide (0<v):Nat)else-1
theorem Wd(xs:List Int)(n:Int)(hx:xs.length≤2^40):JW Tryz.prog 43 [QO xs,int n] (int (ZT xs n)):=by
 refine Jn.cw (c:=_) Tryz.func43 rfl (n:=24) Tryz.ntmps43 (rs:=[.tmp 4]) rfl ?_
 simp only[Je,Jf,zA,zS,Jd,Jb,Jc]
 simp(maxSteps:=999999)(disch:=omega)only[go_sem,zA,zM,zS,zE,zL]
 first|refine JZ.rd (ZG xs n (by omega)) (⟨_,Tryz.func54,rfl,rfl⟩:Ji Tryz.prog 54) rfl rfl rfl rfl ?_|refine JK.rd (ZG xs n (by omega)) (⟨_,Tryz.func54,rfl,rfl⟩:Ji Tryz.prog 54) rfl rfl rfl rfl ?_
 simp(maxSteps:=999999)(disch:=omega)only[go_sem,zA,zM,zS,zE,zL]
 ((first|(with_reducible first|refine Jl ?_ ?_|refine Jj ?_ ?_|refine Jp ?_ ?_)|refine Jr ?_ ?_)<;>intro hv)
 rotate_left
 · simp(maxSteps:=999999)(disch:=omega)only[go_sem,zA,zM,zS,zE,zL]
   simp[ZT,hv]
 simp(maxSteps:=999999)(disch:=omega)only[go_sem,zA,zM,zS,zE,zL]
 refine JY (fun i:Nat=>xs.length -i) (fun i=>i≤xs.length) (fun i=>[.a, .a, .a, .a, .a, .p (int ((xs.take i).countP fun v=>decide (0<v):Nat)), .a, .a, .a, .a, .a, .a, .k, .k, .p (int i), .a, .a, .a, .a, .a, .a, .a, .a, .a]) (fun _=>[]) 0
  (Nat.zero_le _) (by simp(maxSteps:=999999)(disch:=omega)only[go_sem,zA,zM,zS,zE,zL];simp) (Qu _) ?_
 intro i hi
 have hb:=Jbj xs (fun v=>decide (0<v)) i
 simp(maxSteps:=999999)(disch:=omega)only[go_sem,zA,zM,zS,zE,zL]
 ((first|(with_reducible first|refine Jl ?_ ?_|refine Jj ?_ ?_|refine Jp ?_ ?_)|refine Jr ?_ ?_)<;>intro h)
 · have h:i<xs.length:=by omega
   have hc:=KK (f:=fun v=>decide (0<v)) h
   simp(maxSteps:=999999)(disch:=omega)only[go_sem,zA,zM,zS,zE,zL]
   ((first|(with_reducible first|refine Jl ?_ ?_|refine Jj ?_ ?_|refine Jp ?_ ?_)|refine Jr ?_ ?_)<;>intro h2)
   · simp(maxSteps:=999999)(disch:=omega)only[go_sem,zA,zM,zS,zE,zL]
     refine⟨i+1,⟨h,by omega⟩,⟨?_,by omega⟩,Qu _⟩
     rw[hc];simp[h2]
   · simp(maxSteps:=999999)(disch:=omega)only[go_sem,zA,zM,zS,zE,zL]
     refine⟨i+1,⟨h,by omega⟩,⟨?_,by omega⟩,Qu _⟩
     rw[hc];simp[h2]
 · simp(maxSteps:=999999)(disch:=omega)only[go_sem,zA,zM,zS,zE,zL]
   rw[Js (by omega)]
   simp only[ZT,hv,if_true]
end Go.Lg
