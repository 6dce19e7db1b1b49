/- LgX, cut to what is needed. -/
import Derived.Test.YtiahmfdabpafoaaDoorIab1
open Nat renaming reduceAdd→zA,reduceMul→zM,reduceSub→zS,reduceEqDiff→zE,reduceLeDiff→zL
set_option linter.unusedSimpArgs false
set_option linter.unusedVariables false
namespace Go.Lg
section
variable{P:Program}{ops r:Array Oper}{rl:List Oper}{s:List AV}{H:Heap}{K:KS}{Q:KT}{d:Option Tmp}{op:Op}{t:TypeId}{p:String}{e:Array Edge}{gd:Option (Nat×Bool)}{c x y:Code}{w:Bool}{q:Prop}[Decidable q]
theorem guardK_dec(h1:q→guardK P ops ⟨d,op,t,p,e,gd⟩ rl s H K w (some true))(h2:¬q→guardK P ops ⟨d,op,t,p,e,gd⟩ rl s H K w (some false)):guardK P ops ⟨d,op,t,p,e,gd⟩ rl s H K w (some (decide q)):=by
 by_cases h:q
 · rw[decide_eq_true h];exact h1 h
 · rw[decide_eq_false h];exact h2 h
theorem guardK_ndec(h1:q→guardK P ops ⟨d,op,t,p,e,gd⟩ rl s H K w (some false))(h2:¬q→guardK P ops ⟨d,op,t,p,e,gd⟩ rl s H K w (some true)):guardK P ops ⟨d,op,t,p,e,gd⟩ rl s H K w (some (!decide q)):=by
 by_cases h:q
 · rw[decide_eq_true h];exact h1 h
 · rw[decide_eq_false h];exact h2 h
theorem guardK_nb{b:Bool}(h1:b=true→guardK P ops ⟨d,op,t,p,e,gd⟩ rl s H K w (some false))(h2:b=false→guardK P ops ⟨d,op,t,p,e,gd⟩ rl s H K w (some true)):guardK P ops ⟨d,op,t,p,e,gd⟩ rl s H K w (some (!b)):=by
 cases b
 · exact h2 rfl
 · exact h1 rfl
theorem guardQ_dec{G:KS}(h1:q→guardQ P ops ⟨d,op,t,p,e,gd⟩ rl s H G w (some true))(h2:¬q→guardQ P ops ⟨d,op,t,p,e,gd⟩ rl s H G w (some false)):guardQ P ops ⟨d,op,t,p,e,gd⟩ rl s H G w (some (decide q)):=by
 by_cases h:q
 · rw[decide_eq_true h];exact h1 h
 · rw[decide_eq_false h];exact h2 h
theorem guardQ_ndec{G:KS}(h1:q→guardQ P ops ⟨d,op,t,p,e,gd⟩ rl s H G w (some false))(h2:¬q→guardQ P ops ⟨d,op,t,p,e,gd⟩ rl s H G w (some true)):guardQ P ops ⟨d,op,t,p,e,gd⟩ rl s H G w (some (!decide q)):=by
 by_cases h:q
 · rw[decide_eq_true h];exact h1 h
 · rw[decide_eq_false h];exact h2 h
theorem guardQ_nb{b:Bool}{G:KS}(h1:b=true→guardQ P ops ⟨d,op,t,p,e,gd⟩ rl s H G w (some false))(h2:b=false→guardQ P ops ⟨d,op,t,p,e,gd⟩ rl s H G w (some true)):guardQ P ops ⟨d,op,t,p,e,gd⟩ rl s H G w (some (!b)):=by
 cases b
 · exact h2 rfl
 · exact h1 rfl
theorem condK_dec(h1:q→cw P x s H Q)(h2:¬q→cw P y s H Q):condK P x y s H Q (decide q):=by
 by_cases h:q
 · rw[decide_eq_true h,condK_t];exact h1 h
 · rw[decide_eq_false h,condK_f];exact h2 h
theorem condK_ndec(h1:q→cw P y s H Q)(h2:¬q→cw P x s H Q):condK P x y s H Q (!decide q):=by
 by_cases h:q
 · rw[decide_eq_true h];exact condK_f▸h1 h
 · rw[decide_eq_false h];exact condK_t▸h2 h
theorem condK_b{b:Bool}(h1:b=true→cw P x s H Q)(h2:b=false→cw P y s H Q):condK P x y s H Q b:=by
 cases b
 · rw[condK_f];exact h2 rfl
 · rw[condK_t];exact h1 rfl
theorem condK_nb{b:Bool}(h1:b=true→cw P y s H Q)(h2:b=false→cw P x s H Q):condK P x y s H Q (!b):=by
 cases b
 · exact condK_t▸h2 rfl
 · exact condK_f▸h1 rfl
end
def okM(m:List Bool)(H H':Heap):Prop:=HLe (mask m H') (mask m H)
theorem mask_nil(H:Heap):mask [] H=H:=by cases H<;>rfl
theorem mask_t(m:List Bool)(x:Option Blk)(H:Heap):mask (true::m) (x::H)=none::mask m H:=rfl
theorem mask_f(m:List Bool)(x:Option Blk)(H:Heap):mask (false::m) (x::H)=x::mask m H:=rfl
theorem mask_e(m:List Bool):mask m []=[]:=by cases m with
 |nil=>rfl
 |cons b m=>cases b<;>rfl
theorem okM_self(m:List Bool)(H:Heap):okM m H H=True:=eq_true (HLe.refl _)
theorem okM_nil(m:List Bool)(H:Heap):okM m [] H=True:=eq_true (by unfold okM;rw[mask_e];exact hle_nil _)
theorem okM_app(H H':Heap):okM [] H (H++H')=True:=eq_true (by unfold okM;rw[mask_nil,mask_nil];exact HLe.app _ _)
theorem hle_cons_iff(x:Option Blk)(H H':Heap):HLe (x::H) (x::H')↔HLe H H':=
 ⟨fun h id b hb=>h (id+1) b hb,fun h=>hle_self x H H' h⟩
theorem hle_none_iff(x:Option Blk)(H H':Heap):HLe (x::H) (none::H')↔HLe H H':=
 ⟨fun h id b hb=>h (id+1) b hb,fun h=>hle_none x H H' h⟩
theorem okM_cs(x:Option Blk)(H H':Heap):okM [] (x::H) (x::H')=okM [] H H':=by
 unfold okM;simp only[mask_nil];exact propext (hle_cons_iff x H' H)
theorem okM_t(m:List Bool)(x y:Option Blk)(H H':Heap):okM (true::m) (x::H) (y::H')=okM m H H':=by
 unfold okM;simp only[mask_t];exact propext (hle_none_iff none _ _)
theorem okM_f(m:List Bool)(x:Option Blk)(H H':Heap):okM (false::m) (x::H) (x::H')=okM m H H':=by
 unfold okM;simp only[mask_f];exact propext (hle_cons_iff x _ _)
theorem Soft.empty{P:Program}{ops:Array Oper}{o:Oper}{s:List AV}{t:TypeId}{ei:TI}(ho:o.op= .buildSlice t 0 #[]) (hs:sliceOf P t=some ei) (H:Heap):Soft P ops o s H (.c .emp):=by
 intro w X a R next Q hn
 obtain⟨ti,e,ht,hk,he⟩:=sliceOf_some hs
 obtain⟨inf,d,z',h1,h2,h3,h4,h5,h6,h7⟩:=tinf_some ht
 rw[h5]at hk;cases tk_slice hk
 have hrun:(execOp a.eval o).run P w= .ok (.value (.slice (some ⟨w.heap.size,0,none⟩) 0 0)) (w.alloc (.cells #[] e)):=by
  simp only[execOp,ho,Instr.buildSlice,Sem.run_bind,run_underlying h2,Result.andThen_ok,run_sizeOf' he,Sem.run_ite,Sem.run_pure]
  simp[newRow,Instr.fill]
  rw[show Array.range 0= #[]from rfl,Array.map_empty]
 have R0:HRel w X []:=⟨R.heap.imm,fun id b hb=>by simp at hb,fun id id' b b' hb=>by simp at hb,R.heap.tab⟩
 obtain⟨_,k2⟩:=new_block (w':=w.alloc (.cells #[] e)) R0 (sz:=1) (t:=e) (cs:=[]) (cc:= #[]) rfl rfl rfl rfl (Nat.le_refl _) (fun j hj=>absurd hj (Nat.not_lt_zero _))
 have no:∀b,¬Owned X [] b:=fun b ⟨id,blk,h,_⟩=>by simp at h
 have hg:Grow w (w.alloc (.cells #[] e)):=⟨fun b hb=>k2.frame b hb (no b),k2.size,k2.os,k2.tape,k2.output⟩
 exact wp_value hrun (hn _ _ X hg (Wider.refl _ _) (.c _ _ ⟨_,rfl⟩) (hg.rel R.heap))
theorem softBuild_all{P:Program}{ops:Array Oper}{o:Oper}{s:List AV}{K:AV→Prop}{t:TypeId}{n:Nat}{ps:Array (Nat×Operand)}(ho:o.op= .buildSlice t n ps)(h:softBuild P s t n ps.toList K):∃v,(∀H,Soft P ops o s H v)∧K v:=by
 have h0:=h
 unfold softBuild at h
 split at h
 · rename_i ei rs h1 h2
   split at h
   · rename_i xs h3
     refine⟨.c (.f (.sl n xs)),fun H=> ?_, ?_⟩
     · have:softBuild P s t n ps.toList (fun v=>v= .c (.f (.sl n xs))):=by
        unfold softBuild
        simp only[h1,h2,h3]
        obtain⟨hz,hif⟩:=h
        refine⟨hz, ?_⟩
        split at hif
        · rename_i hq;rw[if_pos hq];trivial
        · exact hif.elim
       obtain⟨v,q1,q2⟩:=softBuild_sound (ops:=ops) (H:=H) ho this
       rw[←q2];exact q1
     · obtain⟨hz,hif⟩:=h
       split at hif
       · exact hif
       · exact hif.elim
   · exact h.elim
 · exact h.elim
def softApp(P:Program)(s:List AV)(t:TypeId)(v x:AV)(K:AV→Prop):Prop:=
 match sliceOf P t,v,x with
 |some ei, .c .emp, .c (.f (.sl m cs))=>okP (ei.zero.length=ei.size∧cs.length=m*ei.size∧m≤9223372036854775807∧m*ei.bytes≤140737488355328) (K (.c (.f (.sl m cs))))
 |_,_,_=>False
theorem softApp_all{P:Program}{ops:Array Oper}{o:Oper}{s:List AV}{K:AV→Prop}{t:TypeId}{v x:Operand}(ho:o.op= .call ⟨.builtin .append,#[v,x],#[t,t]⟩) (h:softApp P s t (evO s v) (evO s x) K):∃r,(∀H,Soft P ops o s H r)∧K r:=by
 unfold softApp at h
 split at h
 · rename_i ei m cs hs hv hx
   obtain⟨⟨hz,hl,h63,h47⟩,hK⟩:=h
   obtain⟨ti,e,k1,k2,k3⟩:=sliceOf_some hs
   refine⟨_,fun H=>Soft.ops (fun y hy=> ?_) rfl (fun s' hs'=> ?_),hK⟩
   · rw[ho]at hy
     simp only[Op.operands,Call.operands]at hy
     have:y=v∨y=x:=by simpa using hy
     rcases this with rfl|rfl
     · rw[hv];rfl
     · rw[hx];rfl
   · have e1:evO s' v= .c .emp:=by rw[hs' v (by rw[ho];simp[Op.operands,Call.operands])];exact hv
     have e2:evO s' x= .c (.f (.sl m cs)):=by rw[hs' x (by rw[ho];simp[Op.operands,Call.operands])];exact hx
     by_cases hm:m=0
     · subst hm
       have hcs:cs=[]:=List.eq_nil_of_length_eq_zero (by omega)
       subst hcs
       refine OpS.append_zero (n:=0) (l:=[]) ho k1 k2 k3 ?_ ?_ ?_
       · rw[e1];rfl
       · rw[e2];simp[elems]
       · rw[e1];rfl
     · refine OpS.append_new (n:=0) (m:=m) (l:=[]) (k:=cs.map .f) ho k1 k2 k3 hz ?_ ?_ ?_ (by omega) (by omega) (by simpa using h47) fun g=> ?_
       · rw[e1];rfl
       · rw[e2];simp only[elems];rw[if_pos hl]
       · rw[e1];simp[noRoom]
       · have:look [some (⟨g,ei.size,([]:List CV)++cs.map .f⟩:Blk)] 0 g=some ⟨g,ei.size,cs.map .f⟩:=by simp[look]
         simp only[List.length_nil,List.nil_append,frzA,frz1,frzC,frz]
         have l0:look [some (⟨g,ei.size,cs.map .f⟩:Blk)] 0 g=some ⟨g,ei.size,cs.map .f⟩:=by simp[look]
         rw[l0]
         simp only[List.drop_zero,Nat.zero_add]
         rw[List.take_of_length_le (by simp[hl]),frz_list]
         rfl
 · exact h.elim
def softW(P:Program)(ops:Array Oper)(o:Oper)(s:List AV)(K:AV→Prop):Prop:=
 match o.op with
 | .buildSlice t n ps=>if n=0∧ps= #[]then bindP (sliceOf P t) (fun _=>K (.c .emp))else softBuild P s t n ps.toList K
 | .call ⟨.builtin .append,⟨[v,x]⟩,⟨[t,u]⟩⟩=>if t=u then softApp P s t (evO s v) (evO s x) K else False
 |_=>∃v,(∀H,Soft P ops o s H v)∧K v
theorem softW_all{P:Program}{ops:Array Oper}{o:Oper}{s:List AV}{K:AV→Prop}(h:softW P ops o s K):∃v,(∀H,Soft P ops o s H v)∧K v:=by
 unfold softW at h
 split at h
 · rename_i t n ps ho
   split at h
   · rename_i hn
     obtain⟨rfl,rfl⟩:=hn
     obtain⟨ei,h1,h2⟩:=h
     exact⟨_,fun H=>Soft.empty ho h1 H,h2⟩
   · exact softBuild_all ho h
 · rename_i v x t u ho
   split at h
   · rename_i htu;subst htu
     exact softApp_all ho h
   · exact h.elim
 · exact h
theorem softW_build0{P:Program}{ops:Array Oper}{s:List AV}{K:AV→Prop}{d:Option Tmp}{t t':TypeId}{p:String}{e:Array Edge}{g:Option (Nat×Bool)}:softW P ops ⟨d, .buildSlice t 0 #[],t',p,e,g⟩ s K=bindP (sliceOf P t) (fun _=>K (.c .emp)):=by
 simp[softW]
theorem softW_build{P:Program}{ops:Array Oper}{s:List AV}{K:AV→Prop}{d:Option Tmp}{t t':TypeId}{p:String}{e:Array Edge}{g:Option (Nat×Bool)}{n:Nat}{ps:List (Nat×Operand)}:softW P ops ⟨d, .buildSlice t (n+1) ps.toArray,t',p,e,g⟩ s K=softBuild P s t (n+1) ps K:=by
 simp[softW]
theorem softW_app{P:Program}{ops:Array Oper}{s:List AV}{K:AV→Prop}{d:Option Tmp}{t t':TypeId}{p:String}{e:Array Edge}{g:Option (Nat×Bool)}{v x:Operand}:softW P ops ⟨d, .call ⟨.builtin .append,#[v,x],#[t,t]⟩,t',p,e,g⟩ s K=softApp P s t (evO s v) (evO s x) K:=by
 simp[softW]
theorem softApp_sl{P:Program}{s:List AV}{t:TypeId}{m:Nat}{cs:List FV}{K:AV→Prop}:softApp P s t (.c .emp) (.c (.f (.sl m cs))) K=bindP (sliceOf P t) (fun ei=>okP (ei.zero.length=ei.size∧cs.length=m*ei.size∧m≤9223372036854775807∧m*ei.bytes≤140737488355328) (K (.c (.f (.sl m cs))))):=by
 unfold softApp
 cases sliceOf P t<;>simp[bindP]
section
variable(P:Program)(ops:Array Oper)(m:List Bool)(F:List Nat)(D:Option Nat)(r:List Nat)(G:Option Gh)(s:List AV)(H:Heap)(K:KS)
def lwF:List Nat→Option Gh→List AV→Heap→KS→Prop
 |[],G,s,H,K=>realize G s H K
 |i::r,G,s,H,K=>match ops[i]? with
  |none=>False
  |some o=>if D=some i then bindP (ghV P s o) (fun e=>e.d<s.length∧lwF r (some e) (putS s o.dst .any) H K)else match o.guard with
   |none=>if isVal o.op=true then opW P o s (mask m H) (fun v _=>lwF r G (putS s o.dst v) H K)else if F.contains i=true then softW P ops o s (fun v=>lwF r G (putS s o.dst v) H K)else if isMemo o.op=true then opW P o s H (fun v H'=>okM m H H'∧lwF r G (putS s o.dst v) H' K)else Loud P ops o s H (fun v H'=>okM m H H'∧lwF r G (putS s o.dst v) H' K)
   |some (j,want)=>bindP (guardV ops s j) (fun g=>guardP g want (if isVal o.op=true then opW P o s (mask m H) (fun v _=>lwF r G (putS s o.dst v) H K)else if F.contains i=true then softW P ops o s (fun v=>lwF r G (putS s o.dst v) H K)else if isMemo o.op=true then opW P o s H (fun v H'=>okM m H H'∧lwF r G (putS s o.dst v) H' K)else Loud P ops o s H (fun v H'=>okM m H H'∧lwF r G (putS s o.dst v) H' K)) (lwF r G (putS s o.dst .void) H K))
def lwV(d:Option Tmp):KV:=fun v _=>lwF P ops m F D r G (putS s d v) H K
def lwL(d:Option Tmp):KV:=fun v H'=>okM m H H'∧lwF P ops m F D r G (putS s d v) H' K
def lwG(d:Option Tmp):Gh→Prop:=fun e=>e.d<s.length∧lwF P ops m F D r (some e) (putS s d .any) H K
def lwS(d:Option Tmp):AV→Prop:=fun v=>lwF P ops m F D r G (putS s d v) H K
def lwOne(i:Nat)(o:Oper):Prop:=if isVal o.op=true then opW P o s (mask m H) (lwV P ops m F D r G s H K o.dst)else if F.contains i=true then softW P ops o s (lwS P ops m F D r G s H K o.dst)else if isMemo o.op=true then opW P o s H (lwL P ops m F D r G s H K o.dst)else Loud P ops o s H (lwL P ops m F D r G s H K o.dst)
def lwW(i:Nat)(o:Oper)(want:Bool):Option Bool→Prop:=fun g=>guardP g want (lwOne P ops m F D r G s H K i o) (lwF P ops m F D r G (putS s o.dst .void) H K)
def lwO(i:Nat):Option Oper→Prop
 |none=>False
 |some o=>if D=some i then bindP (ghV P s o) (lwG P ops m F D r s H K o.dst)else match o.guard with
  |none=>lwOne P ops m F D r G s H K i o
  |some (j,want)=>bindP (guardV ops s j) (lwW P ops m F D r G s H K i o want)
theorem lwF_cons(i:Nat):lwF P ops m F D (i::r) G s H K=lwO P ops m F D r G s H K i ops[i]? :=by
 rw[lwF]
 cases ops[i]? with
 |none=>rfl
 |some o=>rfl
theorem lwOne_imp(ih:∀G s H,lwF P ops m F D r G s H K→lw P ops m F D r G s H K)(i:Nat)(o:Oper)(h:lwOne P ops m F D r G s H K i o):(if isAt F i o=true then∃v,qv P ops m o s H v∧lw P ops m F D r G (putS s o.dst v) H K
         else Loud P ops o s H fun v H'=>HLe (mask m H') (mask m H)∧lw P ops m F D r G (putS s o.dst v) H' K):=by
 unfold lwOne at h
 split at h
 · rename_i hv
   rw[if_pos (by simp only[isAt,hv,Bool.true_or])]
   simp only[opW,hv,if_true,bindP,atH,lwV]at h
   obtain⟨v,h1,h2⟩:=h
   exact⟨v,by unfold qv;rw[if_pos hv];exact h1,ih _ _ _ h2⟩
 · rename_i hv
   split at h
   · rename_i hc
     rw[if_pos (by unfold isAt;rw[hc];simp only[Bool.or_true])]
     obtain⟨v,h1,h2⟩:=softW_all h
     exact⟨v,by unfold qv;rw[if_neg hv];exact h1,ih _ _ _ h2⟩
   · rename_i hc
     rw[if_neg (by simp only[isAt,Bool.or_eq_true];exact fun h=>h.elim hv hc)]
     have hL:Loud P ops o s H (lwL P ops m F D r G s H K o.dst):=by
      split at h
      · rename_i hm
        refine loudW_sound ?_
        unfold loudW
        rw[if_pos hm]
        simp only[opW,if_neg hv]at h
        exact h
      · exact h
     exact hL.mono fun v H' hk=>⟨hk.1,ih _ _ _ hk.2⟩
theorem lwF_nil:lwF P ops m F D [] G s H K=realize G s H K:=by rw[lwF]
theorem lw_of:∀(r:List Nat) (G:Option Gh) (s:List AV) (H:Heap),lwF P ops m F D r G s H K→lw P ops m F D r G s H K
 |[],G,s,H,h=>by rw[lwF_nil]at h;rw[lw];exact h
 |i::r,G,s,H,h=>by
  have ih:=lw_of r
  rw[lwF_cons]at h
  unfold lw
  cases ho:ops[i]? with
  |none=>rw[ho]at h;exact h.elim
  |some o=>
   rw[ho]at h
   simp only[lwO]at h⊢
   split at h
   · rename_i hD
     rw[if_pos hD]
     obtain⟨e,h1,h2,h3⟩:=h
     exact⟨e,h1,h2,ih _ _ _ h3⟩
   · rename_i hD
     rw[if_neg hD]
     split at h
     · rename_i hg;simp only[hg];exact lwOne_imp P ops m F D r G s H K ih i o h
     · rename_i j want hg
       simp only[hg]
       obtain⟨g,h1,h2,h3⟩:=h
       exact⟨g,h1,fun he=>lwOne_imp P ops m F D r G s H K ih i o (h2 he),fun hn=>ih _ _ _ (h3 hn)⟩
theorem drawP_lF{P:Program}{ops:Array Oper}{s:List AV}{H:Heap}{K:KS}(π:List Nat)(F:List Nat)(D:Option Nat)(σ:List Nat)(m:List Bool)(hm:P.follows .mixedOrders=true)(hB:planB ops π F D σ=true)(h:lwF P ops m F D π none s H (swK P ops σ K)):drawP P ops s H K:=
 drawP_l π F D σ m hm hB (lw_of P ops m F D _ π none s H h)
theorem lwO_some(i:Nat)(d:Option Tmp)(op:Op)(t:TypeId)(p:String)(e:Array Edge):
 lwO P ops m F D r G s H K i (some ⟨d,op,t,p,e,none⟩)=if D=some i then bindP (ghV P s ⟨d,op,t,p,e,none⟩) (lwG P ops m F D r s H K d)else lwOne P ops m F D r G s H K i ⟨d,op,t,p,e,none⟩:=propext Iff.rfl
theorem lwO_guard(i:Nat)(d:Option Tmp)(op:Op)(t:TypeId)(p:String)(e:Array Edge)(j:Nat)(want:Bool):
 lwO P ops m F D r G s H K i (some ⟨d,op,t,p,e,some (j,want)⟩)=if D=some i then bindP (ghV P s ⟨d,op,t,p,e,some (j,want)⟩) (lwG P ops m F D r s H K d)else bindP (guardV ops s j) (lwW P ops m F D r G s H K i ⟨d,op,t,p,e,some (j,want)⟩ want):=propext Iff.rfl
theorem lwOne_op(i:Nat)(d:Option Tmp)(op:Op)(t:TypeId)(p:String)(e:Array Edge)(g:Option (Nat×Bool)):
 lwOne P ops m F D r G s H K i ⟨d,op,t,p,e,g⟩=if isVal op=true then opW P ⟨d,op,t,p,e,g⟩ s (mask m H) (lwV P ops m F D r G s H K d)else if F.contains i=true then softW P ops ⟨d,op,t,p,e,g⟩ s (lwS P ops m F D r G s H K d)else if isMemo op=true then opW P ⟨d,op,t,p,e,g⟩ s H (lwL P ops m F D r G s H K d)else Loud P ops ⟨d,op,t,p,e,g⟩ s H (lwL P ops m F D r G s H K d):=propext Iff.rfl
theorem lwV_ap(d:Option Tmp)(v:AV)(H':Heap):lwV P ops m F D r G s H K d v H'=lwF P ops m F D r G (putS s d v) H K:=propext Iff.rfl
theorem lwS_ap(d:Option Tmp)(v:AV):lwS P ops m F D r G s H K d v=lwF P ops m F D r G (putS s d v) H K:=propext Iff.rfl
theorem lwL_ap(d:Option Tmp)(v:AV)(H':Heap):lwL P ops m F D r G s H K d v H'=okP (okM m H H') (lwF P ops m F D r G (putS s d v) H' K):=propext Iff.rfl
theorem lwG_ap(d:Option Tmp)(e:Gh):lwG P ops m F D r s H K d e=okP (e.d<s.length) (lwF P ops m F D r (some e) (putS s d .any) H K):=propext Iff.rfl
theorem lwW_ap(i:Nat)(d:Option Tmp)(op:Op)(t:TypeId)(p:String)(e:Array Edge)(gd:Option (Nat×Bool))(want:Bool)(g:Option Bool):
 lwW P ops m F D r G s H K i ⟨d,op,t,p,e,gd⟩ want g=guardP g want (lwOne P ops m F D r G s H K i ⟨d,op,t,p,e,gd⟩) (lwF P ops m F D r G (putS s d .void) H K):=propext Iff.rfl
theorem realize_none:realize none s H K=K s H:=propext Iff.rfl
theorem realize_some(d:Tmp)(n:Option Nat)(sz:Nat)(cs:List CV):realize (some ⟨d,n,sz,cs⟩) s H K=∀g,K (s.set d (ghA H.length g n)) (H++[some ⟨g,sz,cs⟩]):=propext Iff.rfl
def swO:Option Oper→Prop
 |none=>False
 |some o=>vw P ops [o] s H (swK P ops r K)
theorem sw_cons(i:Nat):sw P ops (i::r) s H K=swO P ops r s H K ops[i]? :=by
 rw[sw]
 cases ops[i]? <;>rfl
theorem sw_nil:sw P ops [] s H K=K s H:=by rw[sw]
theorem swO_some(o:Oper):swO P ops r s H K (some o)=vw P ops [o] s H (swK P ops r K):=propext Iff.rfl
theorem swK_ap:swK P ops r K s H=sw P ops r s H K:=propext Iff.rfl
end
theorem ghV_alloc{P:Program}{s:List AV}{d:Tmp}{t:TypeId}{t':TypeId}{p:String}{e:Array Edge}{g:Option (Nat×Bool)}:ghV P s ⟨some d, .alloc t,t',p,e,g⟩=match tinf P t with
 |some ti=>if ti.zero.all constC=true then some ⟨d,none,ti.size,ti.zero⟩else none
 |none=>none:=rfl
theorem ghV_make{P:Program}{s:List AV}{d:Tmp}{t:TypeId}{t':TypeId}{p:String}{e:Array Edge}{g:Option (Nat×Bool)}{l c:Operand}:ghV P s ⟨some d, .makeSlice t l c,t',p,e,g⟩=match sliceOf P t,evO s l,evO s c with
 |some ei, .c (.f (.int _ l)), .c (.f (.int _ c))=>if ei.zero.all constC∧ei.zero.length=ei.size∧(0≤l∧l≤c)∧c≤9223372036854775807∧ei.bytes*c≤281474976710656 then some ⟨d,some (cnt l),ei.size,zerosL (cnt l*ei.size) ei.zero⟩else none
 |_,_,_=>none:=rfl
section
variable{P:Program}{ops:Array Oper}{m:List Bool}{F:List Nat}{D:Option Nat}{i:Nat}{rl:List Nat}{G:Option Gh}{s:List AV}{H:Heap}{K:KS}{d:Option Tmp}{op:Op}{t:TypeId}{p:String}{e:Array Edge}{gd:Option (Nat×Bool)}{b w:Bool}{q:Prop}[Decidable q]
theorem lwW_tt:lwW P ops m F D rl G s H K i ⟨d,op,t,p,e,gd⟩ true (some true)=lwOne P ops m F D rl G s H K i ⟨d,op,t,p,e,gd⟩:=by rw[lwW_ap,guardP_tt]
theorem lwW_ff:lwW P ops m F D rl G s H K i ⟨d,op,t,p,e,gd⟩ false (some false)=lwOne P ops m F D rl G s H K i ⟨d,op,t,p,e,gd⟩:=by rw[lwW_ap,guardP_ff]
theorem lwW_tf:lwW P ops m F D rl G s H K i ⟨d,op,t,p,e,gd⟩ true (some false)=lwF P ops m F D rl G (putS s d .void) H K:=by rw[lwW_ap,guardP_ft]
theorem lwW_ft:lwW P ops m F D rl G s H K i ⟨d,op,t,p,e,gd⟩ false (some true)=lwF P ops m F D rl G (putS s d .void) H K:=by rw[lwW_ap,guardP_tf]
theorem lwW_no:lwW P ops m F D rl G s H K i ⟨d,op,t,p,e,gd⟩ w none=lwF P ops m F D rl G (putS s d .void) H K:=by rw[lwW_ap,guardP_none]
theorem guardL_split(h1:b=true→lwW P ops m F D rl G s H K i ⟨d,op,t,p,e,gd⟩ w (some true))(h2:b=false→lwW P ops m F D rl G s H K i ⟨d,op,t,p,e,gd⟩ w (some false)):lwW P ops m F D rl G s H K i ⟨d,op,t,p,e,gd⟩ w (some b):=by
 cases b
 · exact h2 rfl
 · exact h1 rfl
theorem guardL_nb(h1:b=true→lwW P ops m F D rl G s H K i ⟨d,op,t,p,e,gd⟩ w (some false))(h2:b=false→lwW P ops m F D rl G s H K i ⟨d,op,t,p,e,gd⟩ w (some true)):lwW P ops m F D rl G s H K i ⟨d,op,t,p,e,gd⟩ w (some (!b)):=by
 cases b
 · exact h2 rfl
 · exact h1 rfl
theorem guardL_dec(h1:q→lwW P ops m F D rl G s H K i ⟨d,op,t,p,e,gd⟩ w (some true))(h2:¬q→lwW P ops m F D rl G s H K i ⟨d,op,t,p,e,gd⟩ w (some false)):lwW P ops m F D rl G s H K i ⟨d,op,t,p,e,gd⟩ w (some (decide q)):=by
 by_cases h:q
 · rw[decide_eq_true h];exact h1 h
 · rw[decide_eq_false h];exact h2 h
theorem guardL_ndec(h1:q→lwW P ops m F D rl G s H K i ⟨d,op,t,p,e,gd⟩ w (some false))(h2:¬q→lwW P ops m F D rl G s H K i ⟨d,op,t,p,e,gd⟩ w (some true)):lwW P ops m F D rl G s H K i ⟨d,op,t,p,e,gd⟩ w (some (!decide q)):=by
 by_cases h:q
 · rw[decide_eq_true h];exact h1 h
 · rw[decide_eq_false h];exact h2 h
end
section
variable{P:Program}{ops:Array Oper}{o:Oper}{s:List AV}{H:Heap}{K:KV}{fo:Operand}{xs:Array Operand}{ts:Array TypeId}{f:FuncId}{args args':List AV}{v:AV}{u:Value}{Q:KV}
theorem Loud.call(ho:o.op= .call ⟨.value fo,xs,ts⟩)(ha:callArgs ⟨s,H⟩ fo xs=some (f,args))(h:∀s',callArgs ⟨s',H⟩ fo xs=some (f,args)→OpS P o ⟨s',H⟩ K):Loud P ops o s H K:=
 Loud.of (h _ (by rw[callArgs_congr (s:=s) (H:=H) ts fun x hx=>evO_restr (tmp_looks (by rw[ho];exact hx))];exact ha))
theorem Loud.rd(hc:Reads P f args' v)(he:Enters P f)(ho:o.op= .call ⟨.value fo,xs,ts⟩)(ha:callArgs ⟨s,H⟩ fo xs=some (f,args))(hs:args.mapM (snapA H)=some args')
 (hf:flatV v=some u) (hk:K v H):Loud P ops o s H K:=Loud.call ho ha fun s' ha'=>OpS.rd hc he ho ha' hs hf hk
theorem Loud.mk(hc:Reads P f args v)(he:Enters P f)(ho:o.op= .call ⟨.value fo,xs,ts⟩)(ha:callArgs ⟨s,H⟩ fo xs=some (f,args))(hf:args.all frozenA=true)
 (ht:tupOk v=true) (hv:shiftA H.length v=v) (hk:K v H):Loud P ops o s H K:=Loud.call ho ha fun s' ha'=>OpS.mk hc he ho ha' hf ht hv hk
theorem Loud.mkQ(hc:RunCall P f args [] Q)(he:Enters P f)(ho:o.op= .call ⟨.value fo,xs,ts⟩)(ha:callArgs ⟨s,H⟩ fo xs=some (f,args))(hf:args.all frozenA=true)
 (hk:∀r H',Q r H'→tupOk r=true∧K (shiftA H.length r) (H++shiftH H.length H')):Loud P ops o s H K:=Loud.call ho ha fun s' ha'=>OpS.mkQ hc he ho ha' hf hk
theorem Loud.run(hc:RunCall P f args H Q)(he:Enters P f)(ho:o.op= .call ⟨.value fo,xs,ts⟩)(ha:callArgs ⟨s,H⟩ fo xs=some (f,args))(hk:∀r H',Q r H'→K r H'):Loud P ops o s H K:=
 Loud.call ho ha fun s' ha'=>OpS.run hc he ho ha' hk
end
theorem opW_build{P:Program}{s:List AV}{H:Heap}{F:KV}{d:Option Tmp}{t:TypeId}{p:String}{e:Array Edge}{g:Option (Nat×Bool)}(bt:TypeId)(ps:List (Nat×Operand)):opW P ⟨d, .build bt ps.toArray,t,p,e,g⟩ s H F=aggM P s H bt ps F:=propext Iff.rfl
theorem all_isSome_nil{P:Program}:(∀f∈([]:List (TypeId×Nat)),(tinf P f.1).isSome=true)=True:=eq_true (by simp)
theorem all_isSome_cons{P:Program}{t:TypeId}{n:Nat}{l:List (TypeId×Nat)}:(∀f∈(t,n)::l,(tinf P f.1).isSome=true)=((tinf P t).isSome=true∧∀f∈l,(tinf P f.1).isSome=true):=by simp
theorem minV_max(k k':IntKind)(a b:Int):minV true (.c (.f (.int k a))) (.c (.f (.int k' b)))=some (.c (.f (.int k (max a b)))):=by
 simp only[minV,if_true]
 congr 4
 split<;>omega
theorem minV_min(k k':IntKind)(a b:Int):minV false (.c (.f (.int k a))) (.c (.f (.int k' b)))=some (.c (.f (.int k (min a b)))):=by
 simp only[minV,Bool.false_eq_true,if_false]
 congr 4
 split<;>omega
attribute [go_sem] lwF_cons minV_max minV_min Option.map_none mask_nil mask_t mask_f mask_e okM_self okM_nil okM_app okM_cs okM_t okM_f lwF_nil lwO_some lwO_guard lwOne_op lwV_ap lwS_ap lwL_ap softW_build0 softW_build softW_app softApp_sl List.contains_cons List.contains_nil Bool.or_false Bool.false_or Nat.reduceBEq lwG_ap lwW_tt lwW_ff lwW_tf lwW_ft lwW_no realize_none realize_some sw_cons sw_nil swO_some swK_ap ghV_alloc ghV_make ghA
 isVal isMemo Option.some.injEq List.all_cons List.all_nil constC Bool.and_self opW_build aggM all_isSome_nil all_isSome_cons szOf
theorem resV_cell(P:Program)(s:List AV)(H:Heap)(t:Nat)(ty:TypeId):resV P s H [.cell t ty]=loadV P H ty (s.getD t .void):=by
 simp only[resV,resAll,resOne]
 cases loadV P H ty (s.getD t .void)<;>rfl
theorem ldP_zero{g sz:Nat}{c:CV}{l:List CV}:ldP (some ⟨g,sz,c::l⟩) 0=some (.c c):=rfl
theorem ldP_succ{g sz n:Nat}{c:CV}{l:List CV}:ldP (some ⟨g,sz,c::l⟩) (n+1)=ldP (some ⟨g,sz,l⟩) n:=rfl
def ldN(b:Option Blk)(off n:Nat):Option (List CV):=match b with
 |some b=>if off+n≤b.cs.length then some ((b.cs.drop off).take n)else none
 |none=>none
theorem cellsAt_ptr{H:Heap}{id g off n:Nat}:cellsAt H (.ptr id g off) n=ldN (look H id g) off n:=rfl
theorem ldN_succ{g sz n off:Nat}{c:CV}{l:List CV}:ldN (some ⟨g,sz,c::l⟩) (off+1) n=ldN (some ⟨g,sz,l⟩) off n:=by
 simp only[ldN,List.length_cons,List.drop_succ_cons]
 by_cases h:off+n≤l.length
 · rw[if_pos h,if_pos (by omega)]
 · rw[if_neg h,if_neg (by omega)]
theorem ldN_z{g sz:Nat}{l:List CV}:ldN (some ⟨g,sz,l⟩) 0 0=some []:=by simp[ldN]
theorem ldN_zs{g sz n:Nat}{c:CV}{l:List CV}:ldN (some ⟨g,sz,c::l⟩) 0 (n+1)=(ldN (some ⟨g,sz,l⟩) 0 n).map (c::·):=by
 simp only[ldN,List.length_cons,List.drop_zero,List.take_succ_cons]
 by_cases h:0+n≤l.length
 · rw[if_pos h,if_pos (by omega)];rfl
 · rw[if_neg h,if_neg (by omega)];rfl
theorem setRange_z{l:List CV}:setRange l 0 []=l:=by simp[setRange]
theorem setRange_zs{c d:CV}{l m:List CV}:setRange (c::l) 0 (d::m)=d::setRange l 0 m:=by simp[setRange]
theorem setRange_s{c:CV}{l m:List CV}{n:Nat}:setRange (c::l) (n+1) m=c::setRange l n m:=by
 simp only[setRange,List.take_succ_cons,List.cons_append,List.cons.injEq,true_and]
 rw[show n+1+m.length=n+m.length+1 by omega,List.drop_succ_cons]
theorem ldP_clj{α:Type}{E:α→List FV}{n:Nat}[Inhabited α][hs:HSz E n]{g sz:Nat}{xs:List α}{e:Int}{j:Nat}(h:0≤e∧e<(xs.length:Int))(hj:j<n):
 ldP (some ⟨g,sz,cl E xs⟩) (0+e.toNat*n+j)=some (.c (.f ((E (nth xs e)).getD j .nil))):=by
 have hi:e.toNat<xs.length:=by omega
 have:=fl_getAt (E:=E) (xs:=xs) hi hj
 rw[ldP_some,Nat.zero_add,nth_eq h]
 simp only[cl,List.getElem?_map,this,Option.map_some]
theorem ldN_cl{α:Type}{E:α→List FV}{n:Nat}[Inhabited α][hs:HSz E n]{g sz:Nat}{xs:List α}{e:Int}(h:0≤e∧e<(xs.length:Int)):
 ldN (some ⟨g,sz,cl E xs⟩) (0+e.toNat*n) n=some ((E (nth xs e)).map .f):=by
 have hi:e.toNat<xs.length:=by omega
 have h2:=fl_at (E:=E) xs hi
 simp only[ldN,cl_length,Nat.zero_add]
 rw[if_pos (by rw[←Nat.succ_mul];exact Nat.mul_le_mul_right _ hi),nth_eq h]
 simp only[cl,←List.map_drop,←List.map_take,h2]
theorem setRange_clI{α:Type}{E:α→List FV}{n:Nat}[hs:HSz E n]{xs:List α}{e:Int}{v:α}{l:List CV}(hl:(E v).map .f=l)(h:0≤e∧e<(xs.length:Int)):
 setRange (cl E xs) (0+e.toNat*n) l=cl E (xs.set e.toNat v):=by
 subst hl
 exact setRange_cl (E:=E) (by omega)
theorem cutS_fl0{α:Type}{E:α→List FV}{sz:Nat}[h:HSz E sz]{xs:List α}{b:Int}(hb:0≤b∧b≤xs.length):cutS sz xs.length (fl E xs) 0 b.toNat=some (rsl E (sub xs 0 b)):=cutS_fl (a:=0) (by omega)
theorem cutS_flN{α:Type}{E:α→List FV}{sz:Nat}[h:HSz E sz]{xs:List α}{a:Int}(hb:0≤a∧a≤xs.length):cutS sz xs.length (fl E xs) a.toNat xs.length=some (rsl E (sub xs a xs.length)):=cutS_fl (b:=xs.length) (by omega)
theorem cutT_sub0{l:List UInt8}{b:Int}(hb:0≤b∧b≤l.length):cutT l 0 b.toNat=some (txt (sub l 0 b)):=cutT_sub (a:=0) (by omega)
theorem cutT_subN{l:List UInt8}{a:Int}(hb:0≤a∧a≤l.length):cutT l a.toNat l.length=some (txt (sub l a l.length)):=cutT_sub (b:=l.length) (by omega)
theorem bool_ff{q:Prop}[Decidable q](h:¬q):false=decide q:=(decide_eq_false h).symm
theorem bool_tt{q:Prop}[Decidable q](h:q):true=decide q:=(decide_eq_true h).symm
theorem bool_pq{p q:Prop}[Decidable p][Decidable q](h:p↔q):decide p=decide q:=decide_eq_decide.2 h
structure Rul where
 kind:Int
 cells:List Int
 val:Int
 deriving DecidableEq,Inhabited
structure Puz where
 size:Int
 given:List Int
 rules:List Rul
 deriving DecidableEq,Inhabited
structure Gam where
 task:Puz
 put:List Int
 moves:List Int
 deriving DecidableEq,Inhabited
structure Brn where
 tech:Int
 cell:Int
 deriving DecidableEq,Inhabited
structure Hnt where
 tech:Int
 cell:Int
 val:Int
 deriving DecidableEq,Inhabited
def eR(r:Rul):List FV:=[.int .i64 r.kind,fints r.cells, .int .i64 r.val]
instance:HSz eR 3:=⟨fun _=>rfl⟩
def eB(b:Brn):List FV:=[.int .i64 b.tech, .int .i64 b.cell]
instance:HSz eB 2:=⟨fun _=>rfl⟩
def eL(l:List Int):List FV:=[fints l]
instance:HSz eL 1:=⟨fun _=>rfl⟩
theorem eR_0(r:Rul):(eR r).getD 0 .nil= .int .i64 r.kind:=rfl
theorem eR_1(r:Rul):(eR r).getD 1 .nil=fints r.cells:=rfl
theorem eR_2(r:Rul):(eR r).getD 2 .nil= .int .i64 r.val:=rfl
theorem eB_0(r:Brn):(eB r).getD 0 .nil= .int .i64 r.tech:=rfl
theorem eB_1(r:Brn):(eB r).getD 1 .nil= .int .i64 r.cell:=rfl
theorem eL_0(l:List Int):(eL l).getD 0 .nil=fints l:=rfl
abbrev cR (r:Rul):List CV:=[.f (.int .i64 r.kind), .f (fints r.cells), .f (.int .i64 r.val)]
abbrev cB (b:Brn):List CV:=[.f (.int .i64 b.tech), .f (.int .i64 b.cell)]
abbrev cP (p:Puz):List CV:=[.f (.int .i64 p.size), .f (fints p.given), .f (fsl eR p.rules)]
abbrev cG (g:Gam):List CV:=[.f (.int .i64 g.task.size), .f (fints g.task.given), .f (fsl eR g.task.rules), .f (fints g.put), .f (fints g.moves)]
abbrev aR (r:Rul):AV:= .agg (cR r)
abbrev aP (p:Puz):AV:= .agg (cP p)
abbrev aG (g:Gam):AV:= .agg (cG g)
theorem eR_map(r:Rul):(eR r).map CV.f=cR r:=rfl
theorem eB_map(r:Brn):(eB r).map CV.f=cB r:=rfl
theorem eL_map(r:List Int):(eL r).map CV.f=[.f (fints r)]:=rfl
attribute [go_sem] cutS_fl0 cutS_flN cutT_sub0 cutT_subN resV_cell ldP_zero ldP_succ cellsAt_ptr ldN_succ ldN_z ldN_zs setRange_z setRange_zs setRange_s ldP_clj ldN_cl eR_0 eR_1 eR_2 eB_0 eB_1 eL_0 eR_map eB_map eL_map moved fieldV fieldA boxM
end Go.Lg
