/- LgO, cut to what is needed. -/
import Derived.Test.YtiahmfdabpafoaaGreatDoorKaa9
import Derived.IntWalk
open Nat renaming reduceAdd→zA,reduceMul→zM,reduceSub→zS,reduceEqDiff→zE,reduceLeDiff→zL
set_option linter.unusedSimpArgs false
set_option linter.unusedVariables false
namespace Go.Lg
abbrev int (n:Int):AV:= .c (.f (.int .i64 n))
abbrev byte (n:Int):AV:= .c (.f (.int .u8 n))
abbrev bool (b:Bool):AV:= .c (.f (.bool b))
abbrev str (b:ByteArray):AV:= .c (.f (.str b))
theorem JeS(H:Ji)(v r:AV):Wa H (isQ v) r=(r=v):=propext ⟨fun⟨_,_,h⟩=>h,fun h=>⟨[],fun _ _ h=>by simp at h,h⟩⟩
theorem Qh.rd{P:Program}{o:Oper}{st:St}{K:AV→Ji→Prop}{fo:Operand}{xs:Array Operand}{ts:Array TypeId}{f:FuncId}{args args':List AV}{v:AV}{u:Value}
 (hc:Qd P f args' v) (he:Jm P f) (ho:o.op= .call ⟨.value fo,xs,ts⟩) (ha:Qp st fo xs=some (f,args)) (hs:args.mapM (WG st.h)=some args')
 (hf:W7 v=some u) (hk:K v st.h):Qh P o st K:=Qh.callStill ho ha he hs hc hf hk
section
variable{P:Program}{ops r:Array Oper}{rl:List Oper}{s:List AV}{H:Ji}{K:KS}{Q:KT}{d:Option Tmp}{op:Op}{t:TypeId}{p:String}{e:Array Edge}{gd:Option (Nat×Bool)}{c x y:Code}{b w:Bool}
theorem Jc9:ZQ P ops ⟨d,op,t,p,e,gd⟩ rl s H K true (some true)=Va P ⟨d,op,t,p,e,gd⟩ s H (vwK P ops rl s d K):=by rw[We,Kq]
theorem Jdd:ZQ P ops ⟨d,op,t,p,e,gd⟩ rl s H K false (some false)=Va P ⟨d,op,t,p,e,gd⟩ s H (vwK P ops rl s d K):=by rw[We,Kt]
theorem Jda:ZQ P ops ⟨d,op,t,p,e,gd⟩ rl s H K true (some false)=vw P ops rl (QG s d .void) H K:=by rw[We,Ks]
theorem Jdc:ZQ P ops ⟨d,op,t,p,e,gd⟩ rl s H K false (some true)=vw P ops rl (QG s d .void) H K:=by rw[We,Kr]
theorem Jdb:ZQ P ops ⟨d,op,t,p,e,gd⟩ rl s H K w none=vw P ops rl (QG s d .void) H K:=by rw[We,W6]
theorem Jx(h1:b=true→ZQ P ops ⟨d,op,t,p,e,gd⟩ rl s H K w (some true))(h2:b=false→ZQ P ops ⟨d,op,t,p,e,gd⟩ rl s H K w (some false)):ZQ P ops ⟨d,op,t,p,e,gd⟩ rl s H K w (some b):=by
 cases b
 · exact h2 rfl
 · exact h1 rfl
theorem Jc4{G:KS}:ZO P ops ⟨d,op,t,p,e,gd⟩ rl s H G true (some true)=QI P ops ⟨d,op,t,p,e,gd⟩ s H (qwK P ops rl s d H G):=by rw[Wd,Kq]
theorem Jc8{G:KS}:ZO P ops ⟨d,op,t,p,e,gd⟩ rl s H G false (some false)=QI P ops ⟨d,op,t,p,e,gd⟩ s H (qwK P ops rl s d H G):=by rw[Wd,Kt]
theorem Jc5{G:KS}:ZO P ops ⟨d,op,t,p,e,gd⟩ rl s H G true (some false)=qw P ops rl (QG s d .void) H G:=by rw[Wd,Ks]
theorem Jc7{G:KS}:ZO P ops ⟨d,op,t,p,e,gd⟩ rl s H G false (some true)=qw P ops rl (QG s d .void) H G:=by rw[Wd,Kr]
theorem Jc6{G:KS}:ZO P ops ⟨d,op,t,p,e,gd⟩ rl s H G w none=qw P ops rl (QG s d .void) H G:=by rw[Wd,W6]
theorem JC{G:KS}(h1:b=true→ZO P ops ⟨d,op,t,p,e,gd⟩ rl s H G w (some true))(h2:b=false→ZO P ops ⟨d,op,t,p,e,gd⟩ rl s H G w (some false)):ZO P ops ⟨d,op,t,p,e,gd⟩ rl s H G w (some b):=by
 cases b
 · exact h2 rfl
 · exact h1 rfl
theorem YP:W9 P x y s H Q true=cw P x s H Q:=by rw[Jae,Jg0]
theorem YQ:W9 P x y s H Q false=cw P y s H Q:=by rw[Jae,Jg1]
theorem QB(h1:b=true→W9 P x y s H Q true)(h2:b=false→W9 P x y s H Q false):W9 P x y s H Q b:=by
 cases b
 · exact h2 rfl
 · exact h1 rfl
end
section
theorem JfC(k:IntKind)(a b:Int):ZJ .geq k a k b=some (.bool (decide (b≤a))):=by simp[ZJ]
theorem JfA(k:IntKind)(a b:Int):ZJ .leq k a k b=some (.bool (decide (a≤b))):=by simp[ZJ]
theorem Jfz(k:IntKind)(a b:Int):ZJ .lss k a k b=some (.bool (decide (a<b))):=by simp[ZJ]
theorem JfB(k:IntKind)(a b:Int):ZJ .gtr k a k b=some (.bool (decide (b<a))):=by simp[ZJ]
theorem JfD(k:IntKind)(a b:Int):ZJ .eql k a k b=some (.bool (decide (a=b))):=by
 have:(a==b)=decide (a=b):=by rw[Bool.eq_iff_iff];simp
 simp only[ZJ,if_true,this]
theorem Jfx(k:IntKind)(a b:Int):ZJ .neq k a k b=some (.bool (!decide (a=b))):=by
 have:(a==b)=decide (a=b):=by rw[Bool.eq_iff_iff];simp
 simp only[ZJ,if_true,bne,this]
theorem JfF(k:IntKind)(a b:Int):ZJ .add k a k b=some (.int k (k.wrap (a+b))):=by simp[ZJ]
theorem Jfu(k:IntKind)(a b:Int):ZJ .sub k a k b=some (.int k (k.wrap (a -b))):=by simp[ZJ]
theorem Jfy(k:IntKind)(a b:Int):ZJ .mul k a k b=some (.int k (k.wrap (a*b))):=by simp[ZJ]
theorem Jfw(k:IntKind)(a b:Int):ZJ .quo k a k b=if b≠0 then some (.int k (k.wrap (a.tdiv b)))else none:=by simp[ZJ]
theorem Jfv(k:IntKind)(a b:Int):ZJ .rem k a k b=if b≠0 then some (.int k (a.tmod b))else none:=by simp[ZJ]
theorem JfE(k:IntKind)(a b:Int):ZJ .and k a k b=some (.int k (U3 .and k a b)):=by simp[ZJ]
theorem Jg6(k:IntKind)(a b:Int):ZJ .or k a k b=some (.int k (U3 .or k a b)):=by simp[ZJ]
theorem Jft(k:IntKind)(a b:Int):ZJ .xor k a k b=some (.int k (U3 .xor k a b)):=by simp[ZJ]
theorem Jam(k:IntKind)(a b:Int):ZJ .andNot k a k b=some (.int k (U3 .andNot k a b)):=by simp[ZJ]
theorem Jf6(b:Bool):unV .not (bool b)=some (bool (!b)):=rfl
theorem Jf7(k:IntKind)(n:Int):unV .neg (.c (.f (.int k n)))=some (.c (.f (.int k (k.wrap (0 -n))))):=rfl
theorem Jd9(P:Program)(s:List AV)(H:Ji)(t:Nat):WP P s H [.tmp t]=some (s.getD t .void):=rfl
theorem Jd8(P:Program)(s:List AV)(H:Ji)(t u:Nat):WP P s H [.tmp t, .tmp u]=some (.tup [s.getD t .void,s.getD u .void]):=rfl
theorem JaK(P:Program)(s:List AV)(H:Ji)(t u v:Nat):WP P s H [.tmp t, .tmp u, .tmp v]=some (.tup [s.getD t .void,s.getD u .void,s.getD v .void]):=rfl
theorem Jbc{ops:Array Oper}{s:List AV}{j:Nat}:Zh ops s j=match(ops[j]?).bind (·.dst)with
 |none=>some none
 |some d=>match s[d]? with
  |none=>some none
  |some (.c (.f (.bool b)))=>some (some b)
  |some .void=>some none
  |_=>none:=rfl
end
def KD:List AV→List AV→Prop
 |[],[]=>True
 |a::s,b::s'=>(b= .any∨a=b)∧KD s s'
 |_,_=>False
theorem KD.sle:∀{s s':List AV},KD s s'→SLe s s'
 |[],[],_=>⟨rfl,fun i hi=>absurd hi (Nat.not_lt_zero _)⟩
 |a::s,b::s',h=>by
  obtain⟨h1,h2⟩:=h
  obtain⟨h3,h4⟩:=KD.sle h2
  refine⟨by simp[h3],fun i hi=> ?_⟩
  cases i with
  |zero=>rcases h1 with h|h
         · exact .inl h
         · exact .inr (by simp[h])
  |succ i=>simpa using h4 i (by simpa using hi)
 |[],_::_,h=>h.elim
 |_::_,[],h=>h.elim
theorem KD.refl:∀(s:List AV),KD s s
 |[]=>trivial
 |_::s=>⟨.inr rfl,KD.refl s⟩
theorem Jgd:KD [] []=True:=rfl
theorem Jge(a:AV)(s s':List AV):KD (a::s) (.any::s')=KD s s':=by simp[KD]
theorem Jd2(a:AV)(s s':List AV):KD (a::s) (a::s')=KD s s':=by simp[KD]
theorem sle_c(a:AV)(x:CV)(s s':List AV):KD (a::s) (.c x::s')=(a= .c x∧KD s s'):=by simp[KD]
inductive Sl where
 |a
 |k
 |p (v:AV)
def QY:List Sl→List AV→List AV
 | .a::m,_::s=> .any::QY m s
 | .k::m,x::s=>x::QY m s
 | .p v::m,_::s=>v::QY m s
 |_,_=>[]
theorem JgG(m:List Sl)(x:AV)(s:List AV):QY (.a::m) (x::s)= .any::QY m s:=rfl
theorem JgF(m:List Sl)(x:AV)(s:List AV):QY (.k::m) (x::s)=x::QY m s:=rfl
theorem JgE(v:AV)(m:List Sl)(x:AV)(s:List AV):QY (.p v::m) (x::s)=v::QY m s:=rfl
theorem JcS(s:List AV):QY [] s=[]:=rfl
def Jb1{α:Type}(ok:α→Prop)(S:α→List AV)(G:α→Ji)(Q:KT):KT:=fun e s H=>match e with
 | .normal=>∃a,ok a∧KD s (S a)∧Qc H (G a)
 |e=>Q e s H
section
variable{α:Type}{ok:α→Prop}{S:α→List AV}{G:α→Ji}{Q:KT}{s:List AV}{H:Ji}
theorem Gj:Jb1 ok S G Q .normal s H=∃a,ok a∧KD s (S a)∧Qc H (G a):=propext Iff.rfl
theorem Ja1(i:Nat):Jb1 ok S G Q (.exit i) s H=Q (.exit i) s H:=propext Iff.rfl
theorem JcU:Jb1 ok S G Q .ret s H=Q .ret s H:=propext Iff.rfl
end
theorem Qw{P:Program}{c:Code}{s:List AV}{H:Ji}{Q:KT}{α:Type}(μ:α→Nat)(ok:α→Prop)(M:α→List Sl)(G:α→Ji)(a0:α)(h0:ok a0)(hs:KD s (QY (M a0) s))(hh:Qc H (G a0))
 (step:∀a,ok a→cw P c (QY (M a) s) (G a) (Jb1 (fun b=>ok b∧μ b<μ a) (fun b=>QY (M b) s) G Q)):QM P (.loop c) ⟨s,H⟩ (stK Q):=by
 refine QM.weaken (st':=⟨QY (M a0) s,G a0⟩) hs.sle hh ?_
 refine QM.loop (fun n st=>∃a,ok a∧μ a=n∧st=⟨QY (M a) s,G a⟩) ?_ ⟨a0,h0,rfl,rfl⟩
 rintro n st ⟨a,ha,rfl,rfl⟩
 refine(ZU _ _ _ _ (step a ha)).mono fun e st hq=> ?_
 cases e with
 |normal=>
  obtain⟨b,⟨hb,hlt⟩,hs',hh'⟩:=hq
  exact⟨μ b,⟨QY (M b) s,G b⟩,hlt,hs'.sle,hh',b,hb,rfl,rfl⟩
 |exit id=>exact hq
 |goto l=>exact hq
 |ret=>exact hq
 |panic c=>exact hq
 |outgrown=>exact hq
def Gm{α β:Type}(ok:α→β→Prop)(S:α→β→List AV)(G:α→β→Ji)(Q:KT):KT:=fun e s H=>match e with
 | .normal=>∃a b,ok a b∧KD s (S a b)∧Qc H (G a b)
 |e=>Q e s H
def Gl{α β γ:Type}(ok:α→β→γ→Prop)(S:α→β→γ→List AV)(G:α→β→γ→Ji)(Q:KT):KT:=fun e s H=>match e with
 | .normal=>∃a b c,ok a b c∧KD s (S a b c)∧Qc H (G a b c)
 |e=>Q e s H
section
variable{α β γ:Type}{Q:KT}{s:List AV}{H:Ji}
theorem BQ{ok:α→β→Prop}{S:α→β→List AV}{G:α→β→Ji}:Gm ok S G Q .normal s H=∃a b,ok a b∧KD s (S a b)∧Qc H (G a b):=propext Iff.rfl
theorem NJ{ok:α→β→Prop}{S:α→β→List AV}{G:α→β→Ji}(i:Nat):Gm ok S G Q (.exit i) s H=Q (.exit i) s H:=propext Iff.rfl
theorem Ja3{ok:α→β→Prop}{S:α→β→List AV}{G:α→β→Ji}:Gm ok S G Q .ret s H=Q .ret s H:=propext Iff.rfl
theorem BP{ok:α→β→γ→Prop}{S:α→β→γ→List AV}{G:α→β→γ→Ji}:Gl ok S G Q .normal s H=∃a b c,ok a b c∧KD s (S a b c)∧Qc H (G a b c):=propext Iff.rfl
theorem NI{ok:α→β→γ→Prop}{S:α→β→γ→List AV}{G:α→β→γ→Ji}(i:Nat):Gl ok S G Q (.exit i) s H=Q (.exit i) s H:=propext Iff.rfl
theorem Ja2{ok:α→β→γ→Prop}{S:α→β→γ→List AV}{G:α→β→γ→Ji}:Gl ok S G Q .ret s H=Q .ret s H:=propext Iff.rfl
end
theorem Qj{P:Program}{c:Code}{s:List AV}{H:Ji}{Q:KT}{α β:Type}(μ:α→β→Nat)(ok:α→β→Prop)(M:α→β→List Sl)(G:α→β→Ji)(a0:α)(b0:β)(h0:ok a0 b0)(hs:KD s (QY (M a0 b0) s))(hh:Qc H (G a0 b0))
 (step:∀a b,ok a b→cw P c (QY (M a b) s) (G a b) (Gm (fun a' b'=>ok a' b'∧μ a' b'<μ a b) (fun a' b'=>QY (M a' b') s) G Q)):QM P (.loop c) ⟨s,H⟩ (stK Q):=by
 refine QM.weaken (st':=⟨QY (M a0 b0) s,G a0 b0⟩) hs.sle hh ?_
 refine QM.loop (fun n st=>∃a b,ok a b∧μ a b=n∧st=⟨QY (M a b) s,G a b⟩) ?_ ⟨a0,b0,h0,rfl,rfl⟩
 rintro n st ⟨a,b,ha,rfl,rfl⟩
 refine(ZU _ _ _ _ (step a b ha)).mono fun e st hq=> ?_
 cases e with
 |normal=>
  obtain⟨a',b',⟨hb,hlt⟩,hs',hh'⟩:=hq
  exact⟨μ a' b',⟨QY (M a' b') s,G a' b'⟩,hlt,hs'.sle,hh',a',b',hb,rfl,rfl⟩
 |exit id=>exact hq
 |goto l=>exact hq
 |ret=>exact hq
 |panic c=>exact hq
 |outgrown=>exact hq
theorem XZ{P:Program}{c:Code}{s:List AV}{H:Ji}{Q:KT}{α β γ:Type}(μ:α→β→γ→Nat)(ok:α→β→γ→Prop)(M:α→β→γ→List Sl)(G:α→β→γ→Ji)(a0:α)(b0:β)(c0:γ)(h0:ok a0 b0 c0)(hs:KD s (QY (M a0 b0 c0) s))(hh:Qc H (G a0 b0 c0))
 (step:∀a b d,ok a b d→cw P c (QY (M a b d) s) (G a b d) (Gl (fun a' b' c'=>ok a' b' c'∧μ a' b' c'<μ a b d) (fun a' b' c'=>QY (M a' b' c') s) G Q)):QM P (.loop c) ⟨s,H⟩ (stK Q):=by
 refine QM.weaken (st':=⟨QY (M a0 b0 c0) s,G a0 b0 c0⟩) hs.sle hh ?_
 refine QM.loop (fun n st=>∃a b d,ok a b d∧μ a b d=n∧st=⟨QY (M a b d) s,G a b d⟩) ?_ ⟨a0,b0,c0,h0,rfl,rfl⟩
 rintro n st ⟨a,b,d,ha,rfl,rfl⟩
 refine(ZU _ _ _ _ (step a b d ha)).mono fun e st hq=> ?_
 cases e with
 |normal=>
  obtain⟨a',b',d',⟨hb,hlt⟩,hs',hh'⟩:=hq
  exact⟨μ a' b' d',⟨QY (M a' b' d') s,G a' b' d'⟩,hlt,hs'.sle,hh',a',b',d',hb,rfl,rfl⟩
 |exit id=>exact hq
 |goto l=>exact hq
 |ret=>exact hq
 |panic c=>exact hq
 |outgrown=>exact hq
theorem Zd{g sz:Nat}{cs cs':List CV}{H H':Ji}(h:cs=cs')(hh:Qc H H'):Qc (some ⟨g,sz,cs⟩::H) (some ⟨g,sz,cs'⟩::H'):=fun id b hb=>by
 subst h
 cases id with
 |zero=>exact hb
 |succ id=>exact hh id b hb
theorem Zq(x:Option ZG)(H H':Ji)(h:Qc H H'):Qc (x::H) (x::H'):=fun id b hb=>by
 cases id with
 |zero=>exact hb
 |succ id=>exact h id b hb
theorem J8(H:Ji):Qc H []:=fun id b hb=>by simp at hb
theorem Bb(x:Option ZG)(H H':Ji)(h:Qc H H'):Qc (x::H) (none::H'):=fun id b hb=>by
 cases id with
 |zero=>simp at hb
 |succ id=>exact h id b hb
theorem Jdy{n:Int}(h1: -9223372036854775808≤n)(h2:n≤9223372036854775807):IntKind.i64.wrap n=n:=IntWalk.i64_in _ (by omega)
def R3(H:Ji)(p:CV):Option AV:=match Zi H p 1 with
 |some [c]=>some (.c c)
 |_=>none
theorem JeO(P:Program)(H:Ji)(t:TypeId)(p:CV):Uy P H t (.c p)=match Jy P t with
 |some i=>(match X4 i.k with
  |true=>(Zi H p i.size).map .agg
  |false=>R3 H p)
 |none=>none:=by
 unfold Uy
 cases Jy P t<;>rfl
theorem NM{H:Ji}{l:List FV}{off:Nat}:R3 H (.fp l off)=(l[off]?).map fun x=> .c (.f x):=by
 simp only[R3,Zi]
 by_cases h:off<l.length
 · rw[if_pos (by omega),List.getElem?_eq_getElem h]
   have:(l.drop off).take 1=[l[off]]:=by
    rw[List.drop_eq_getElem_cons h];rfl
   simp[this]
 · rw[if_neg (by omega),List.getElem?_eq_none (by omega)]
   rfl
section
variable{P:Program}{ops:Array Oper}{s:List AV}{H:Ji}{F:AV→Prop}{d:Option Tmp}{t:TypeId}{p:String}{e:Array Edge}{g:Option (Nat×Bool)}
theorem Jgk(x:Operand):QI P ops ⟨d, .move x,t,p,e,g⟩ s H F=F (QH s x):=by simp[QI,UA,WQ,Qx]
theorem JcC(x:Operand):QI P ops ⟨d, .assign x,t,p,e,g⟩ s H F=F (QH s x):=by simp[QI,UA,WQ,Qx]
theorem Jgj(c x y:Operand):QI P ops ⟨d, .pick c x y,t,p,e,g⟩ s H F=Qx (YT (QH s c)) (Nu s H x y fun v _=>F v):=by simp only[QI,UA,if_true,Nx,KA];rfl
theorem JhA(op:BinOp)(xt:TypeId)(x y:Operand)(yt:TypeId):QI P ops ⟨d, .binOp op xt x y yt,t,p,e,g⟩ s H F=Qx (BZ P s H op xt x y) F:=propext Iff.rfl
theorem qW_un(op:UnOp)(xt:TypeId)(x:Operand):QI P ops ⟨d, .unOp op xt x,t,p,e,g⟩ s H F=Qx (unV op (QH s x)) F:=propext Iff.rfl
theorem Jgm(st dt:TypeId)(x:Operand):QI P ops ⟨d, .convert st dt x,t,p,e,g⟩ s H F=Qx (YO P H st dt (QH s x)) F:=propext Iff.rfl
theorem F5(st:TypeId)(x:Operand)(f:Nat):QI P ops ⟨d, .fieldAddr st x f,t,p,e,g⟩ s H F=Qx (Wx P H st (QH s x) f) F:=propext Iff.rfl
theorem Jej(st:TypeId)(x:Operand)(f:Nat):QI P ops ⟨d, .field st x f,t,p,e,g⟩ s H F=Qx (Kx P st (QH s x) f) F:=propext Iff.rfl
theorem F4(st:TypeId)(x i:Operand):QI P ops ⟨d, .indexAddr st x i,t,p,e,g⟩ s H F=Qx (YN P H st (QH s x) (QH s i)) F:=propext Iff.rfl
theorem Jei(st:TypeId)(x i:Operand):QI P ops ⟨d, .index st x i,t,p,e,g⟩ s H F=Qx (Kl P st (QH s x) (QH s i)) F:=propext Iff.rfl
theorem Jgl(st:TypeId)(x:Operand):QI P ops ⟨d, .load st x,t,p,e,g⟩ s H F=Qx (Uy P H st (QH s x)) F:=propext Iff.rfl
theorem Nr(x:Operand):QI P ops ⟨d, .nilCheck x,t,p,e,g⟩ s H F=Qx (Wq H (QH s x)) F:=propext Iff.rfl
theorem Jeh(st:TypeId)(x:Operand)(lo hi mx:Option Operand):QI P ops ⟨d, .slice st x lo hi mx,t,p,e,g⟩ s H F=Qx (JaE P s H st x lo hi mx) F:=propext Iff.rfl
theorem Jhz(x:Operand)(xt:TypeId):QI P ops ⟨d, .call ⟨.builtin .len,#[x],#[xt]⟩,t,p,e,g⟩ s H F=Qx (Xz P H xt (QH s x)) F:=propext Iff.rfl
theorem Jhx(x y:Operand)(ts:Array TypeId):QI P ops ⟨d, .call ⟨.builtin .min,#[x,y],ts⟩,t,p,e,g⟩ s H F=Qx (Rc false (QH s x) (QH s y)) F:=propext Iff.rfl
theorem Jhy(x y:Operand)(ts:Array TypeId):QI P ops ⟨d, .call ⟨.builtin .max,#[x,y],ts⟩,t,p,e,g⟩ s H F=Qx (Rc true (QH s x) (QH s y)) F:=propext Iff.rfl
theorem JaN(x:Operand)(i:Nat):QI P ops ⟨d, .extract x i,t,p,e,g⟩ s H F=Qx (Bi i (QH s x)) F:=propext Iff.rfl
end
theorem Jek{P:Program}{ops:Array Oper}{s:List AV}{H:Ji}{F:AV→Prop}{d:Option Tmp}{t:TypeId}{p:String}{e:Array Edge}{g:Option (Nat×Bool)}(bt:TypeId)(n:Nat)(ps:List (Nat×Operand)):
 QI P ops ⟨d, .buildSlice bt n ps.toArray,t,p,e,g⟩ s H F=Zv P s bt n ps F:=propext Iff.rfl
theorem QI.rd{P:Program}{ops:Array Oper}{o:Oper}{s:List AV}{H:Ji}{F:AV→Prop}{fo:Operand}{xs:Array Operand}{ts:Array TypeId}{f:FuncId}{args args':List AV}{v:AV}{u:Value}
 (hc:Qd P f args' v) (he:Jm P f) (ho:o.op= .call ⟨.value fo,xs,ts⟩) (ha:Qp ⟨s,H⟩ fo xs=some (f,args)) (hs:args.mapM (WG H)=some args')
 (hf:W7 v=some u) (hk:F v):QI P ops o s H F:=by
 unfold QI
 rw[ho]
 exact⟨v,Z6.flat hc he ho ha hs hf,hk⟩
theorem QI.mk{P:Program}{ops:Array Oper}{o:Oper}{s:List AV}{H:Ji}{F:AV→Prop}{fo:Operand}{xs:Array Operand}{ts:Array TypeId}{f:FuncId}{args:List AV}{v:AV}
 (hc:Qd P f args v) (he:Jm P f) (ho:o.op= .call ⟨.value fo,xs,ts⟩) (ha:Qp ⟨s,H⟩ fo xs=some (f,args)) (hz:args.all Zc=true)
 (hf:Gw v=true) (hv:U7 [] v=some v) (hk:F v):QI P ops o s H F:=by
 unfold QI
 rw[ho]
 have hca:∃f',QH s fo= .c (.fn f' [])∧f'=f∧args=xs.toList.map (QH s):=by
  unfold Qp at ha
  split at ha
  · rename_i f' e;cases ha;exact⟨_,e,rfl,rfl⟩
  · cases ha
 obtain⟨f',e1,hff,e2⟩:=hca
 subst hff
 refine⟨v,Z6.ops (fun x hx=> ?_) hf (fun s' hs'=> ?_),hk⟩
 · rw[ho]at hx
   simp only[Op.operands,Call.operands,Array.mem_append]at hx
   rcases hx with hx|hx
   · have:x=fo:=by simpa using hx
     subst this
     rw[e1];rfl
   · exact List.all_eq_true.1 hz _ (by rw[e2];exact List.mem_map.2 ⟨x,by simpa using hx,rfl⟩)
 · have ha':Qp ⟨s',[]⟩ fo xs=some (f',args):=by
    rw[VG (s:=s) (H:=H) ts fun x hx=>hs' x (by rw[ho];exact hx)];exact ha
   obtain⟨h1,h2⟩:=Vi ha'
   refine Qh.call ho h1 he ?_
   rw[h2]
   refine Jq.weaker (Q':=fun r H'=>U7 H' r=some v) hc fun r H' hr=>⟨[],fun _ _ h=>by simp at h, ?_⟩
   rw[show r=v from hr];exact hv
theorem F8{n:Int}(h: -9223372036854775808≤n∧n≤9223372036854775807):IntKind.i64.wrap n=n:=Jdy h.1 h.2
theorem ok_u8{n:Int}(h:0≤n∧n≤255):IntKind.u8.wrap n=n:=by simp only[IntKind.wrap];simp[IntKind.bits,IntKind.signed];omega
attribute [go_sem] Jh5 Jds Jbi Jh6 JgZ Jfd JgY JgW JgX Nd Jcu Jd3 BY Jbq Jbr YP YQ
 Jf4 JdR Jhm Jhn Jc9 Jdd Jda Jdc Jdb Jeq JaT Jgw Jep Jet BN JcI Jer Jgu JhE Jes BO JcJ F6 JcH Jgs Jgt Nw F7
 Jgi Jeg Jhv Jhw Jc4 Jc8 Jc5 Jc7 Jc6
 Jgk JcC Jgj JhA qW_un Jgm F5 Jej F4 Jei Jgl Nr Jeh Jhz Jhx Jhy JaN Jek Zv Vz
 JaU Jgv JcL JcG RP BM JcE JcF List.set_cons_zero List.set_cons_succ JgR JgT Jfc JhY JgS List.getD_cons_zero List.getD_cons_succ
 Jg4 Jbs Jdz KA Jfi Jg5 JfH JfC JfA Jfz JfB JfD Jfx JfF Jfu Jfy Jfw Jfv JfE Jg6 Jft Jam
 Option.map_some Jic Jbc Jen List.getElem?_toArray List.getElem?_cons_zero List.getElem?_cons_succ Option.bind_some Jdq GB Jd9 Jd8 JaK Jf6 Jf7 Gj Ja1 JcU BQ NJ Ja3 BP NI Ja2 Jgd Jge Jd2 sle_c
 JgG JgF JgE JcS JeS F8 ok_u8 Jeu JhF JeO YN Xz X4 AV.c.injEq CV.f.injEq FV.int.injEq FV.bool.injEq true_and and_true if_true Bool.false_eq_true if_false
theorem nif_t{α:Sort _}{a b:Nat}{x y:α}(h:a=b):(if a=b then x else y)=x:=if_pos h
theorem nif_f{α:Sort _}{a b:Nat}{x y:α}(h:a≠b):(if a=b then x else y)=y:=if_neg h
theorem lif_t{α:Sort _}{a b:Nat}{x y:α}(h:a<b):(if a<b then x else y)=x:=if_pos h
theorem lif_f{α:Sort _}{a b:Nat}{x y:α}(h:¬a<b):(if a<b then x else y)=y:=if_neg h
attribute [go_sem] nif_t nif_f lif_t lif_f CV.own.injEq CV.ptr.injEq
attribute [go_sem↓] Jgo Jgp
end Go.Lg
