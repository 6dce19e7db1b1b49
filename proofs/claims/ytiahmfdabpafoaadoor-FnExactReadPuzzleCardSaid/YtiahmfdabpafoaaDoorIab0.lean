/- LgO, cut to what is needed. -/
import Derived.Test.YtiahmfdabpafoaaDoorIaa9
import Derived.IntWalk
open Nat renaming reduceAdd→zA,reduceMul→zM,reduceSub→zS,reduceEqDiff→zE,reduceLeDiff→zL
set_option linter.unusedSimpArgs false
set_option linter.unusedVariables false
namespace Go.Lg
abbrev int (n:Int):AV:= .c (.f (.int .i64 n))
abbrev byte (n:Int):AV:= .c (.f (.int .u8 n))
abbrev bool (b:Bool):AV:= .c (.f (.bool b))
abbrev str (b:ByteArray):AV:= .c (.f (.str b))
theorem lessQ_is(H:Heap)(v r:AV):lessQ H (isQ v) r=(r=v):=propext ⟨fun⟨_,_,h⟩=>h,fun h=>⟨[],fun _ _ h=>by simp at h,h⟩⟩
theorem OpS.rd{P:Program}{o:Oper}{st:St}{K:AV→Heap→Prop}{fo:Operand}{xs:Array Operand}{ts:Array TypeId}{f:FuncId}{args args':List AV}{v:AV}{u:Value}
 (hc:Reads P f args' v) (he:Enters P f) (ho:o.op= .call ⟨.value fo,xs,ts⟩) (ha:callArgs st fo xs=some (f,args)) (hs:args.mapM (snapA st.h)=some args')
 (hf:flatV v=some u) (hk:K v st.h):OpS P o st K:=OpS.callStill ho ha he hs hc hf hk
section
variable{P:Program}{ops r:Array Oper}{rl:List Oper}{s:List AV}{H:Heap}{K:KS}{Q:KT}{d:Option Tmp}{op:Op}{t:TypeId}{p:String}{e:Array Edge}{gd:Option (Nat×Bool)}{c x y:Code}{b w:Bool}
theorem guardK_tt:guardK P ops ⟨d,op,t,p,e,gd⟩ rl s H K true (some true)=opW P ⟨d,op,t,p,e,gd⟩ s H (vwK P ops rl s d K):=by rw[guardK_ap,guardP_tt]
theorem guardK_ff:guardK P ops ⟨d,op,t,p,e,gd⟩ rl s H K false (some false)=opW P ⟨d,op,t,p,e,gd⟩ s H (vwK P ops rl s d K):=by rw[guardK_ap,guardP_ff]
theorem guardK_tf:guardK P ops ⟨d,op,t,p,e,gd⟩ rl s H K true (some false)=vw P ops rl (putS s d .void) H K:=by rw[guardK_ap,guardP_ft]
theorem guardK_ft:guardK P ops ⟨d,op,t,p,e,gd⟩ rl s H K false (some true)=vw P ops rl (putS s d .void) H K:=by rw[guardK_ap,guardP_tf]
theorem guardK_no:guardK P ops ⟨d,op,t,p,e,gd⟩ rl s H K w none=vw P ops rl (putS s d .void) H K:=by rw[guardK_ap,guardP_none]
theorem guardK_split(h1:b=true→guardK P ops ⟨d,op,t,p,e,gd⟩ rl s H K w (some true))(h2:b=false→guardK P ops ⟨d,op,t,p,e,gd⟩ rl s H K w (some false)):guardK P ops ⟨d,op,t,p,e,gd⟩ rl s H K w (some b):=by
 cases b
 · exact h2 rfl
 · exact h1 rfl
theorem guardQ_tt{G:KS}:guardQ P ops ⟨d,op,t,p,e,gd⟩ rl s H G true (some true)=quietW P ops ⟨d,op,t,p,e,gd⟩ s H (qwK P ops rl s d H G):=by rw[guardQ_ap,guardP_tt]
theorem guardQ_ff{G:KS}:guardQ P ops ⟨d,op,t,p,e,gd⟩ rl s H G false (some false)=quietW P ops ⟨d,op,t,p,e,gd⟩ s H (qwK P ops rl s d H G):=by rw[guardQ_ap,guardP_ff]
theorem guardQ_tf{G:KS}:guardQ P ops ⟨d,op,t,p,e,gd⟩ rl s H G true (some false)=qw P ops rl (putS s d .void) H G:=by rw[guardQ_ap,guardP_ft]
theorem guardQ_ft{G:KS}:guardQ P ops ⟨d,op,t,p,e,gd⟩ rl s H G false (some true)=qw P ops rl (putS s d .void) H G:=by rw[guardQ_ap,guardP_tf]
theorem guardQ_no{G:KS}:guardQ P ops ⟨d,op,t,p,e,gd⟩ rl s H G w none=qw P ops rl (putS s d .void) H G:=by rw[guardQ_ap,guardP_none]
theorem guardQ_split{G:KS}(h1:b=true→guardQ P ops ⟨d,op,t,p,e,gd⟩ rl s H G w (some true))(h2:b=false→guardQ P ops ⟨d,op,t,p,e,gd⟩ rl s H G w (some false)):guardQ P ops ⟨d,op,t,p,e,gd⟩ rl s H G w (some b):=by
 cases b
 · exact h2 rfl
 · exact h1 rfl
theorem condK_t:condK P x y s H Q true=cw P x s H Q:=by rw[condK_ap,condP_t]
theorem condK_f:condK P x y s H Q false=cw P y s H Q:=by rw[condK_ap,condP_f]
theorem condK_split(h1:b=true→condK P x y s H Q true)(h2:b=false→condK P x y s H Q false):condK P x y s H Q b:=by
 cases b
 · exact h2 rfl
 · exact h1 rfl
end
section
theorem binI_geq(k:IntKind)(a b:Int):binI .geq k a k b=some (.bool (decide (b≤a))):=by simp[binI]
theorem binI_leq(k:IntKind)(a b:Int):binI .leq k a k b=some (.bool (decide (a≤b))):=by simp[binI]
theorem binI_lss(k:IntKind)(a b:Int):binI .lss k a k b=some (.bool (decide (a<b))):=by simp[binI]
theorem binI_gtr(k:IntKind)(a b:Int):binI .gtr k a k b=some (.bool (decide (b<a))):=by simp[binI]
theorem binI_eql(k:IntKind)(a b:Int):binI .eql k a k b=some (.bool (decide (a=b))):=by
 have:(a==b)=decide (a=b):=by rw[Bool.eq_iff_iff];simp
 simp only[binI,if_true,this]
theorem binI_neq(k:IntKind)(a b:Int):binI .neq k a k b=some (.bool (!decide (a=b))):=by
 have:(a==b)=decide (a=b):=by rw[Bool.eq_iff_iff];simp
 simp only[binI,if_true,bne,this]
theorem binI_add(k:IntKind)(a b:Int):binI .add k a k b=some (.int k (k.wrap (a+b))):=by simp[binI]
theorem binI_sub(k:IntKind)(a b:Int):binI .sub k a k b=some (.int k (k.wrap (a -b))):=by simp[binI]
theorem binI_mul(k:IntKind)(a b:Int):binI .mul k a k b=some (.int k (k.wrap (a*b))):=by simp[binI]
theorem binI_quo(k:IntKind)(a b:Int):binI .quo k a k b=if b≠0 then some (.int k (k.wrap (a.tdiv b)))else none:=by simp[binI]
theorem binI_rem(k:IntKind)(a b:Int):binI .rem k a k b=if b≠0 then some (.int k (a.tmod b))else none:=by simp[binI]
theorem binI_and(k:IntKind)(a b:Int):binI .and k a k b=some (.int k (bitsI .and k a b)):=by simp[binI]
theorem binI_or(k:IntKind)(a b:Int):binI .or k a k b=some (.int k (bitsI .or k a b)):=by simp[binI]
theorem binI_xor(k:IntKind)(a b:Int):binI .xor k a k b=some (.int k (bitsI .xor k a b)):=by simp[binI]
theorem binI_andNot(k:IntKind)(a b:Int):binI .andNot k a k b=some (.int k (bitsI .andNot k a b)):=by simp[binI]
theorem unV_not(b:Bool):unV .not (bool b)=some (bool (!b)):=rfl
theorem unV_neg(k:IntKind)(n:Int):unV .neg (.c (.f (.int k n)))=some (.c (.f (.int k (k.wrap (0 -n))))):=rfl
theorem resV_one(P:Program)(s:List AV)(H:Heap)(t:Nat):resV P s H [.tmp t]=some (s.getD t .void):=rfl
theorem resV_two(P:Program)(s:List AV)(H:Heap)(t u:Nat):resV P s H [.tmp t, .tmp u]=some (.tup [s.getD t .void,s.getD u .void]):=rfl
theorem resV_three(P:Program)(s:List AV)(H:Heap)(t u v:Nat):resV P s H [.tmp t, .tmp u, .tmp v]=some (.tup [s.getD t .void,s.getD u .void,s.getD v .void]):=rfl
theorem guardV_lit{ops:Array Oper}{s:List AV}{j:Nat}:guardV ops s j=match(ops[j]?).bind (·.dst)with
 |none=>some none
 |some d=>match s[d]? with
  |none=>some none
  |some (.c (.f (.bool b)))=>some (some b)
  |some .void=>some none
  |_=>none:=rfl
end
def Sle:List AV→List AV→Prop
 |[],[]=>True
 |a::s,b::s'=>(b= .any∨a=b)∧Sle s s'
 |_,_=>False
theorem Sle.sle:∀{s s':List AV},Sle s s'→SLe s s'
 |[],[],_=>⟨rfl,fun i hi=>absurd hi (Nat.not_lt_zero _)⟩
 |a::s,b::s',h=>by
  obtain⟨h1,h2⟩:=h
  obtain⟨h3,h4⟩:=Sle.sle h2
  refine⟨by simp[h3],fun i hi=> ?_⟩
  cases i with
  |zero=>rcases h1 with h|h
         · exact .inl h
         · exact .inr (by simp[h])
  |succ i=>simpa using h4 i (by simpa using hi)
 |[],_::_,h=>h.elim
 |_::_,[],h=>h.elim
theorem Sle.refl:∀(s:List AV),Sle s s
 |[]=>trivial
 |_::s=>⟨.inr rfl,Sle.refl s⟩
theorem sle_nil:Sle [] []=True:=rfl
theorem sle_any(a:AV)(s s':List AV):Sle (a::s) (.any::s')=Sle s s':=by simp[Sle]
theorem sle_self(a:AV)(s s':List AV):Sle (a::s) (a::s')=Sle s s':=by simp[Sle]
theorem sle_c(a:AV)(x:CV)(s s':List AV):Sle (a::s) (.c x::s')=(a= .c x∧Sle s s'):=by simp[Sle]
inductive Sl where
 |a
 |k
 |p (v:AV)
def mergeS:List Sl→List AV→List AV
 | .a::m,_::s=> .any::mergeS m s
 | .k::m,x::s=>x::mergeS m s
 | .p v::m,_::s=>v::mergeS m s
 |_,_=>[]
theorem merge_a(m:List Sl)(x:AV)(s:List AV):mergeS (.a::m) (x::s)= .any::mergeS m s:=rfl
theorem merge_k(m:List Sl)(x:AV)(s:List AV):mergeS (.k::m) (x::s)=x::mergeS m s:=rfl
theorem merge_p(v:AV)(m:List Sl)(x:AV)(s:List AV):mergeS (.p v::m) (x::s)=v::mergeS m s:=rfl
theorem merge_nil(s:List AV):mergeS [] s=[]:=rfl
def loopK{α:Type}(ok:α→Prop)(S:α→List AV)(G:α→Heap)(Q:KT):KT:=fun e s H=>match e with
 | .normal=>∃a,ok a∧Sle s (S a)∧HLe H (G a)
 |e=>Q e s H
section
variable{α:Type}{ok:α→Prop}{S:α→List AV}{G:α→Heap}{Q:KT}{s:List AV}{H:Heap}
theorem loopK_normal:loopK ok S G Q .normal s H=∃a,ok a∧Sle s (S a)∧HLe H (G a):=propext Iff.rfl
theorem loopK_exit(i:Nat):loopK ok S G Q (.exit i) s H=Q (.exit i) s H:=propext Iff.rfl
theorem loopK_ret:loopK ok S G Q .ret s H=Q .ret s H:=propext Iff.rfl
end
theorem loop_rule{P:Program}{c:Code}{s:List AV}{H:Heap}{Q:KT}{α:Type}(μ:α→Nat)(ok:α→Prop)(M:α→List Sl)(G:α→Heap)(a0:α)(h0:ok a0)(hs:Sle s (mergeS (M a0) s))(hh:HLe H (G a0))
 (step:∀a,ok a→cw P c (mergeS (M a) s) (G a) (loopK (fun b=>ok b∧μ b<μ a) (fun b=>mergeS (M b) s) G Q)):RunC P (.loop c) ⟨s,H⟩ (stK Q):=by
 refine RunC.weaken (st':=⟨mergeS (M a0) s,G a0⟩) hs.sle hh ?_
 refine RunC.loop (fun n st=>∃a,ok a∧μ a=n∧st=⟨mergeS (M a) s,G a⟩) ?_ ⟨a0,h0,rfl,rfl⟩
 rintro n st ⟨a,ha,rfl,rfl⟩
 refine(cw_sound _ _ _ _ (step a ha)).mono fun e st hq=> ?_
 cases e with
 |normal=>
  obtain⟨b,⟨hb,hlt⟩,hs',hh'⟩:=hq
  exact⟨μ b,⟨mergeS (M b) s,G b⟩,hlt,hs'.sle,hh',b,hb,rfl,rfl⟩
 |exit id=>exact hq
 |goto l=>exact hq
 |ret=>exact hq
 |panic c=>exact hq
 |outgrown=>exact hq
def loopK2{α β:Type}(ok:α→β→Prop)(S:α→β→List AV)(G:α→β→Heap)(Q:KT):KT:=fun e s H=>match e with
 | .normal=>∃a b,ok a b∧Sle s (S a b)∧HLe H (G a b)
 |e=>Q e s H
def loopK3{α β γ:Type}(ok:α→β→γ→Prop)(S:α→β→γ→List AV)(G:α→β→γ→Heap)(Q:KT):KT:=fun e s H=>match e with
 | .normal=>∃a b c,ok a b c∧Sle s (S a b c)∧HLe H (G a b c)
 |e=>Q e s H
section
variable{α β γ:Type}{Q:KT}{s:List AV}{H:Heap}
theorem loopK2_normal{ok:α→β→Prop}{S:α→β→List AV}{G:α→β→Heap}:loopK2 ok S G Q .normal s H=∃a b,ok a b∧Sle s (S a b)∧HLe H (G a b):=propext Iff.rfl
theorem loopK2_exit{ok:α→β→Prop}{S:α→β→List AV}{G:α→β→Heap}(i:Nat):loopK2 ok S G Q (.exit i) s H=Q (.exit i) s H:=propext Iff.rfl
theorem loopK2_ret{ok:α→β→Prop}{S:α→β→List AV}{G:α→β→Heap}:loopK2 ok S G Q .ret s H=Q .ret s H:=propext Iff.rfl
theorem loopK3_normal{ok:α→β→γ→Prop}{S:α→β→γ→List AV}{G:α→β→γ→Heap}:loopK3 ok S G Q .normal s H=∃a b c,ok a b c∧Sle s (S a b c)∧HLe H (G a b c):=propext Iff.rfl
theorem loopK3_exit{ok:α→β→γ→Prop}{S:α→β→γ→List AV}{G:α→β→γ→Heap}(i:Nat):loopK3 ok S G Q (.exit i) s H=Q (.exit i) s H:=propext Iff.rfl
theorem loopK3_ret{ok:α→β→γ→Prop}{S:α→β→γ→List AV}{G:α→β→γ→Heap}:loopK3 ok S G Q .ret s H=Q .ret s H:=propext Iff.rfl
end
theorem loop_rule2{P:Program}{c:Code}{s:List AV}{H:Heap}{Q:KT}{α β:Type}(μ:α→β→Nat)(ok:α→β→Prop)(M:α→β→List Sl)(G:α→β→Heap)(a0:α)(b0:β)(h0:ok a0 b0)(hs:Sle s (mergeS (M a0 b0) s))(hh:HLe H (G a0 b0))
 (step:∀a b,ok a b→cw P c (mergeS (M a b) s) (G a b) (loopK2 (fun a' b'=>ok a' b'∧μ a' b'<μ a b) (fun a' b'=>mergeS (M a' b') s) G Q)):RunC P (.loop c) ⟨s,H⟩ (stK Q):=by
 refine RunC.weaken (st':=⟨mergeS (M a0 b0) s,G a0 b0⟩) hs.sle hh ?_
 refine RunC.loop (fun n st=>∃a b,ok a b∧μ a b=n∧st=⟨mergeS (M a b) s,G a b⟩) ?_ ⟨a0,b0,h0,rfl,rfl⟩
 rintro n st ⟨a,b,ha,rfl,rfl⟩
 refine(cw_sound _ _ _ _ (step a b ha)).mono fun e st hq=> ?_
 cases e with
 |normal=>
  obtain⟨a',b',⟨hb,hlt⟩,hs',hh'⟩:=hq
  exact⟨μ a' b',⟨mergeS (M a' b') s,G a' b'⟩,hlt,hs'.sle,hh',a',b',hb,rfl,rfl⟩
 |exit id=>exact hq
 |goto l=>exact hq
 |ret=>exact hq
 |panic c=>exact hq
 |outgrown=>exact hq
theorem loop_rule3{P:Program}{c:Code}{s:List AV}{H:Heap}{Q:KT}{α β γ:Type}(μ:α→β→γ→Nat)(ok:α→β→γ→Prop)(M:α→β→γ→List Sl)(G:α→β→γ→Heap)(a0:α)(b0:β)(c0:γ)(h0:ok a0 b0 c0)(hs:Sle s (mergeS (M a0 b0 c0) s))(hh:HLe H (G a0 b0 c0))
 (step:∀a b d,ok a b d→cw P c (mergeS (M a b d) s) (G a b d) (loopK3 (fun a' b' c'=>ok a' b' c'∧μ a' b' c'<μ a b d) (fun a' b' c'=>mergeS (M a' b' c') s) G Q)):RunC P (.loop c) ⟨s,H⟩ (stK Q):=by
 refine RunC.weaken (st':=⟨mergeS (M a0 b0 c0) s,G a0 b0 c0⟩) hs.sle hh ?_
 refine RunC.loop (fun n st=>∃a b d,ok a b d∧μ a b d=n∧st=⟨mergeS (M a b d) s,G a b d⟩) ?_ ⟨a0,b0,c0,h0,rfl,rfl⟩
 rintro n st ⟨a,b,d,ha,rfl,rfl⟩
 refine(cw_sound _ _ _ _ (step a b d ha)).mono fun e st hq=> ?_
 cases e with
 |normal=>
  obtain⟨a',b',d',⟨hb,hlt⟩,hs',hh'⟩:=hq
  exact⟨μ a' b' d',⟨mergeS (M a' b' d') s,G a' b' d'⟩,hlt,hs'.sle,hh',a',b',d',hb,rfl,rfl⟩
 |exit id=>exact hq
 |goto l=>exact hq
 |ret=>exact hq
 |panic c=>exact hq
 |outgrown=>exact hq
theorem hle_eq{g sz:Nat}{cs cs':List CV}{H H':Heap}(h:cs=cs')(hh:HLe H H'):HLe (some ⟨g,sz,cs⟩::H) (some ⟨g,sz,cs'⟩::H'):=fun id b hb=>by
 subst h
 cases id with
 |zero=>exact hb
 |succ id=>exact hh id b hb
theorem hle_self(x:Option Blk)(H H':Heap)(h:HLe H H'):HLe (x::H) (x::H'):=fun id b hb=>by
 cases id with
 |zero=>exact hb
 |succ id=>exact h id b hb
theorem hle_nil(H:Heap):HLe H []:=fun id b hb=>by simp at hb
theorem hle_none(x:Option Blk)(H H':Heap)(h:HLe H H'):HLe (x::H) (none::H'):=fun id b hb=>by
 cases id with
 |zero=>simp at hb
 |succ id=>exact h id b hb
theorem bound_i64{n:Int}(h1: -9223372036854775808≤n)(h2:n≤9223372036854775807):IntKind.i64.wrap n=n:=IntWalk.i64_in _ (by omega)
def load1(H:Heap)(p:CV):Option AV:=match cellsAt H p 1 with
 |some [c]=>some (.c c)
 |_=>none
theorem loadV_eq(P:Program)(H:Heap)(t:TypeId)(p:CV):loadV P H t (.c p)=match tinf P t with
 |some i=>(match isAggK i.k with
  |true=>(cellsAt H p i.size).map .agg
  |false=>load1 H p)
 |none=>none:=by
 unfold loadV
 cases tinf P t<;>rfl
theorem load1_fp{H:Heap}{l:List FV}{off:Nat}:load1 H (.fp l off)=(l[off]?).map fun x=> .c (.f x):=by
 simp only[load1,cellsAt]
 by_cases h:off<l.length
 · rw[if_pos (by omega),List.getElem?_eq_getElem h]
   have:(l.drop off).take 1=[l[off]]:=by
    rw[List.drop_eq_getElem_cons h];rfl
   simp[this]
 · rw[if_neg (by omega),List.getElem?_eq_none (by omega)]
   rfl
section
variable{P:Program}{ops:Array Oper}{s:List AV}{H:Heap}{F:AV→Prop}{d:Option Tmp}{t:TypeId}{p:String}{e:Array Edge}{g:Option (Nat×Bool)}
theorem qW_move(x:Operand):quietW P ops ⟨d, .move x,t,p,e,g⟩ s H F=F (evO s x):=by simp[quietW,isVal,opV,bindP]
theorem qW_assign(x:Operand):quietW P ops ⟨d, .assign x,t,p,e,g⟩ s H F=F (evO s x):=by simp[quietW,isVal,opV,bindP]
theorem qW_pick(c x y:Operand):quietW P ops ⟨d, .pick c x y,t,p,e,g⟩ s H F=bindP (boolV (evO s c)) (pickK s H x y fun v _=>F v):=by simp only[quietW,isVal,if_true,opV_pick,bindP_map];rfl
theorem qW_bin(op:BinOp)(xt:TypeId)(x y:Operand)(yt:TypeId):quietW P ops ⟨d, .binOp op xt x y yt,t,p,e,g⟩ s H F=bindP (binV P s H op xt x y) F:=propext Iff.rfl
theorem qW_un(op:UnOp)(xt:TypeId)(x:Operand):quietW P ops ⟨d, .unOp op xt x,t,p,e,g⟩ s H F=bindP (unV op (evO s x)) F:=propext Iff.rfl
theorem qW_conv(st dt:TypeId)(x:Operand):quietW P ops ⟨d, .convert st dt x,t,p,e,g⟩ s H F=bindP (convV P H st dt (evO s x)) F:=propext Iff.rfl
theorem qW_fieldAddr(st:TypeId)(x:Operand)(f:Nat):quietW P ops ⟨d, .fieldAddr st x f,t,p,e,g⟩ s H F=bindP (fieldV P H st (evO s x) f) F:=propext Iff.rfl
theorem qW_field(st:TypeId)(x:Operand)(f:Nat):quietW P ops ⟨d, .field st x f,t,p,e,g⟩ s H F=bindP (fieldA P st (evO s x) f) F:=propext Iff.rfl
theorem qW_indexAddr(st:TypeId)(x i:Operand):quietW P ops ⟨d, .indexAddr st x i,t,p,e,g⟩ s H F=bindP (elemV P H st (evO s x) (evO s i)) F:=propext Iff.rfl
theorem qW_index(st:TypeId)(x i:Operand):quietW P ops ⟨d, .index st x i,t,p,e,g⟩ s H F=bindP (indexV P st (evO s x) (evO s i)) F:=propext Iff.rfl
theorem qW_load(st:TypeId)(x:Operand):quietW P ops ⟨d, .load st x,t,p,e,g⟩ s H F=bindP (loadV P H st (evO s x)) F:=propext Iff.rfl
theorem qW_nilCheck(x:Operand):quietW P ops ⟨d, .nilCheck x,t,p,e,g⟩ s H F=bindP (nilV H (evO s x)) F:=propext Iff.rfl
theorem qW_slice(st:TypeId)(x:Operand)(lo hi mx:Option Operand):quietW P ops ⟨d, .slice st x lo hi mx,t,p,e,g⟩ s H F=bindP (sliceO P s H st x lo hi mx) F:=propext Iff.rfl
theorem qW_len(x:Operand)(xt:TypeId):quietW P ops ⟨d, .call ⟨.builtin .len,#[x],#[xt]⟩,t,p,e,g⟩ s H F=bindP (lenO P H xt (evO s x)) F:=propext Iff.rfl
theorem qW_min(x y:Operand)(ts:Array TypeId):quietW P ops ⟨d, .call ⟨.builtin .min,#[x,y],ts⟩,t,p,e,g⟩ s H F=bindP (minV false (evO s x) (evO s y)) F:=propext Iff.rfl
theorem qW_max(x y:Operand)(ts:Array TypeId):quietW P ops ⟨d, .call ⟨.builtin .max,#[x,y],ts⟩,t,p,e,g⟩ s H F=bindP (minV true (evO s x) (evO s y)) F:=propext Iff.rfl
theorem qW_extract(x:Operand)(i:Nat):quietW P ops ⟨d, .extract x i,t,p,e,g⟩ s H F=bindP (extractO i (evO s x)) F:=propext Iff.rfl
end
theorem qW_build{P:Program}{ops:Array Oper}{s:List AV}{H:Heap}{F:AV→Prop}{d:Option Tmp}{t:TypeId}{p:String}{e:Array Edge}{g:Option (Nat×Bool)}(bt:TypeId)(n:Nat)(ps:List (Nat×Operand)):
 quietW P ops ⟨d, .buildSlice bt n ps.toArray,t,p,e,g⟩ s H F=softBuild P s bt n ps F:=propext Iff.rfl
theorem quietW.rd{P:Program}{ops:Array Oper}{o:Oper}{s:List AV}{H:Heap}{F:AV→Prop}{fo:Operand}{xs:Array Operand}{ts:Array TypeId}{f:FuncId}{args args':List AV}{v:AV}{u:Value}
 (hc:Reads P f args' v) (he:Enters P f) (ho:o.op= .call ⟨.value fo,xs,ts⟩) (ha:callArgs ⟨s,H⟩ fo xs=some (f,args)) (hs:args.mapM (snapA H)=some args')
 (hf:flatV v=some u) (hk:F v):quietW P ops o s H F:=by
 unfold quietW
 rw[ho]
 exact⟨v,Soft.flat hc he ho ha hs hf,hk⟩
theorem quietW.mk{P:Program}{ops:Array Oper}{o:Oper}{s:List AV}{H:Heap}{F:AV→Prop}{fo:Operand}{xs:Array Operand}{ts:Array TypeId}{f:FuncId}{args:List AV}{v:AV}
 (hc:Reads P f args v) (he:Enters P f) (ho:o.op= .call ⟨.value fo,xs,ts⟩) (ha:callArgs ⟨s,H⟩ fo xs=some (f,args)) (hz:args.all frozenA=true)
 (hf:frozen1 v=true) (hv:frzA [] v=some v) (hk:F v):quietW P ops o s H F:=by
 unfold quietW
 rw[ho]
 have hca:∃f',evO s fo= .c (.fn f' [])∧f'=f∧args=xs.toList.map (evO s):=by
  unfold callArgs at ha
  split at ha
  · rename_i f' e;cases ha;exact⟨_,e,rfl,rfl⟩
  · cases ha
 obtain⟨f',e1,hff,e2⟩:=hca
 subst hff
 refine⟨v,Soft.ops (fun x hx=> ?_) hf (fun s' hs'=> ?_),hk⟩
 · rw[ho]at hx
   simp only[Op.operands,Call.operands,Array.mem_append]at hx
   rcases hx with hx|hx
   · have:x=fo:=by simpa using hx
     subst this
     rw[e1];rfl
   · exact List.all_eq_true.1 hz _ (by rw[e2];exact List.mem_map.2 ⟨x,by simpa using hx,rfl⟩)
 · have ha':callArgs ⟨s',[]⟩ fo xs=some (f',args):=by
    rw[callArgs_congr (s:=s) (H:=H) ts fun x hx=>hs' x (by rw[ho];exact hx)];exact ha
   obtain⟨h1,h2⟩:=target_of ha'
   refine OpS.call ho h1 he ?_
   rw[h2]
   refine RunCall.weaker (Q':=fun r H'=>frzA H' r=some v) hc fun r H' hr=>⟨[],fun _ _ h=>by simp at h, ?_⟩
   rw[show r=v from hr];exact hv
theorem ok_i64{n:Int}(h: -9223372036854775808≤n∧n≤9223372036854775807):IntKind.i64.wrap n=n:=bound_i64 h.1 h.2
theorem ok_u8{n:Int}(h:0≤n∧n≤255):IntKind.u8.wrap n=n:=by simp only[IntKind.wrap];simp[IntKind.bits,IntKind.signed];omega
attribute [go_sem] cw_seq cw_region cw_regionQ cw_ret cw_cond cw_block cw_exit cw_skip cw_loop seqK_normal seqK_exit seqK_ret blockK_normal blockK_ret blockK_hit condK_t condK_f
 vw_cons vw_guard vw_nil vwK_ap guardK_tt guardK_ff guardK_tf guardK_ft guardK_no opW_move opW_assign opW_bin opW_pick opW_call opW_indexAddr opW_index opW_load opW_len opW_un opW_conv opW_fieldAddr opW_field opW_nilCheck opW_slice opW_min opW_max opW_extract opW_makeFunc
 qw_cons qw_guard qw_nil qwK_ap guardQ_tt guardQ_ff guardQ_tf guardQ_ft guardQ_no
 qW_move qW_assign qW_pick qW_bin qW_un qW_conv qW_fieldAddr qW_field qW_indexAddr qW_index qW_load qW_nilCheck qW_slice qW_len qW_min qW_max qW_extract qW_build softBuild icedL
 opW_append opW_box opW_alloc opW_store opW_buildSlice opW_makeSlice putS_some putS_none List.set_cons_zero List.set_cons_succ evO_tmp evO_int evO_bool evO_fn evO_nil List.getD_cons_zero List.getD_cons_succ
 boolV_b bindP_some bindP_ite bindP_map compF_ap binV_eq binA_int binI_geq binI_leq binI_lss binI_gtr binI_eql binI_neq binI_add binI_sub binI_mul binI_quo binI_rem binI_and binI_or binI_xor binI_andNot
 Option.map_some atH_ap guardV_lit pickK_ap List.getElem?_toArray List.getElem?_cons_zero List.getElem?_cons_succ Option.bind_some doneK_ret doneK_normal resV_one resV_two resV_three unV_not unV_neg loopK_normal loopK_exit loopK_ret loopK2_normal loopK2_exit loopK2_ret loopK3_normal loopK3_exit loopK3_ret sle_nil sle_any sle_self sle_c
 merge_a merge_k merge_p merge_nil lessQ_is ok_i64 ok_u8 okP_true okP_ok loadV_eq elemV lenO isAggK AV.c.injEq CV.f.injEq FV.int.injEq FV.bool.injEq true_and and_true if_true Bool.false_eq_true if_false
theorem nif_t{α:Sort _}{a b:Nat}{x y:α}(h:a=b):(if a=b then x else y)=x:=if_pos h
theorem nif_f{α:Sort _}{a b:Nat}{x y:α}(h:a≠b):(if a=b then x else y)=y:=if_neg h
theorem lif_t{α:Sort _}{a b:Nat}{x y:α}(h:a<b):(if a<b then x else y)=x:=if_pos h
theorem lif_f{α:Sort _}{a b:Nat}{x y:α}(h:¬a<b):(if a<b then x else y)=y:=if_neg h
attribute [go_sem] nif_t nif_f lif_t lif_f CV.own.injEq CV.ptr.injEq
attribute [go_sem↓] pickK_t pickK_f
end Go.Lg
