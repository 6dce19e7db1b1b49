/- LgN2, LgO, cut to what is needed. -/
import Derived.Test.YtidekghnkifbjaaGreatDoorJda7
import Derived.IntWalk
open Nat renaming reduceAdd→zA,reduceMul→zM,reduceSub→zS,reduceEqDiff→zE,reduceLeDiff→zL
set_option linter.unusedSimpArgs false
set_option linter.unusedVariables false
namespace Go.Lg
def Bp:AV→Option Bool
 | .c (.f (.bool b))=>some b
 |_=>none
theorem Jeo{v:AV}{b:Bool}(h:Bp v=some b):v= .c (.f (.bool b)):=by
 unfold Bp at h
 split at h
 · cases h;rfl
 · cases h
def Nn(b:Bool)(A B:Prop):Prop:=(b=true→A)∧(b=false→B)
abbrev KT:=Exit→List AV→Jn→Prop
def nrm(K:KS)(e:Exit)(st:St):Prop:=match e with
 | .normal=>K st.s st.h
 |_=>False
def Kf(P:Program)(ops:Array Oper)(s:List AV)(H:Jn)(K:KS):Prop:=
 P.follows .mixedOrders=true∧((Jah ops=true∧qw P ops ops.toList s H K)∨(∃π F D σ m,V7 ops π F D σ=true∧lw P ops m F D π none s H fun s H=>sw P ops σ s H K)∨∀id,QN P (.region id ops true) ⟨s,H⟩ (nrm K))
theorem Zi{P:Program}{ops:Array Oper}{s:List AV}{H:Jn}{K:KS}(hm:P.follows .mixedOrders=true)(hB:Jah ops=true)(h:qw P ops ops.toList s H K):Kf P ops s H K:=⟨hm, .inl ⟨hB,h⟩⟩
theorem Jkz{P:Program}{ops:Array Oper}{s:List AV}{H:Jn}{K:KS}(π:List Nat)(F:List Nat)(D:Option Nat)(σ:List Nat)(m:List Bool)(hm:P.follows .mixedOrders=true)(hB:V7 ops π F D σ=true)(h:lw P ops m F D π none s H (swK P ops σ K)):Kf P ops s H K:=
 ⟨hm, .inr (.inl ⟨π,F,D,σ,m,hB,h⟩)⟩
theorem Fv{P:Program}{id:Nat}{ops:Array Oper}{s:List AV}{H:Jn}{Q:Exit→St→Prop}(h:Kf P ops s H fun s H=>Q .normal ⟨s,H⟩):QN P (.region id ops true) ⟨s,H⟩ Q:=by
 obtain⟨hm,⟨hB,h⟩|⟨π,F,D,σ,m,hB,h⟩|h⟩:=h
 · exact QN.regionF hm hB (RU _ _ _ _ h)
 · exact QN.regionL π F D σ m hm hB h
 · exact(h id).mono fun e st hq=>by
    cases e with
    |normal=>exact hq
    |_=>exact hq.elim
theorem Jfo{P:Program}{ops:Array Oper}{s:List AV}{H:Jn}{K:KS}(hm:P.follows .mixedOrders=true)(h:∀id,QN P (.region id ops true) ⟨s,H⟩ (nrm K)):Kf P ops s H K:=⟨hm, .inr (.inr h)⟩
def cw(P:Program):Code→List AV→Jn→KT→Prop
 | .skip,s,H,K=>K .normal s H
 | .exit id,s,H,K=>K (.exit id) s H
 | .ret,s,H,K=>K .ret s H
 | .region _ ops false,s,H,K=>vw P ops ops.toList s H (K .normal)
 | .region _ ops true,s,H,K=>Kf P ops s H (K .normal)
 | .seq x y,s,H,K=>cw P x s H fun e s' H'=>match e with
   | .normal=>cw P y s' H' K
   |e=>K e s' H'
 | .cond c x y,s,H,K=>QG (Bp (QO s c)) fun b=>Nn b (cw P x s H K) (cw P y s H K)
 | .block id c,s,H,K=>cw P c s H fun e s' H'=>match e with
   | .exit id'=>if id'=id then K .normal s' H' else K (.exit id') s' H'
   |e=>K e s' H'
 |c,s,H,K=>QN P c ⟨s,H⟩ fun e st=>K e st.s st.h
def JjP(P:Program)(y:Code)(K:KT):KT:=fun e s' H'=>match e with
    | .normal=>cw P y s' H' K
    |e=>K e s' H'
def Kj(P:Program)(x y:Code)(s:List AV)(H:Jn)(K:KT):Bool→Prop:=fun b=>Nn b (cw P x s H K) (cw P y s H K)
def Nr(id:Nat)(K:KT):KT:=fun e s' H'=>match e with
    | .exit id'=>if id'=id then K .normal s' H' else K (.exit id') s' H'
    |e=>K e s' H'
def stK(K:KT):Exit→St→Prop:=fun e st=>K e st.s st.h
theorem UR{P:Program}:∀(c:Code) (s:List AV) (H:Jn) (K:KT),cw P c s H K→QN P c ⟨s,H⟩ (stK K)
 | .skip,s,H,K,h=>QN.skip h
 | .exit id,s,H,K,h=>QN.exit h
 | .ret,s,H,K,h=>QN.ret h
 | .region _ ops false,s,H,K,h=>QN.region (YO _ _ _ _ h)
 | .region _ ops true,s,H,K,h=>Fv h
 | .seq x y,s,H,K,h=>QN.seq ((UR x s H _ h).mono fun e st hq=>by
    cases e with
    |normal=>exact UR y _ _ K hq
    |exit id=>exact hq
    |goto l=>exact hq
    |ret=>exact hq
    |panic c=>exact hq
    |outgrown=>exact hq)
 | .cond c x y,s,H,K,h=>by
   obtain⟨b,h1,h2,h3⟩:=h
   exact QN.cond (Jeo h1) (fun hb=>UR x s H K (h2 hb)) (fun hb=>UR y s H K (h3 hb))
 | .block id c,s,H,K,h=>QN.block ((UR c s H _ h).mono fun e st hq=>by
    cases e with
    |exit id'=>exact hq
    |normal=>exact hq
    |goto l=>exact hq
    |ret=>exact hq
    |panic c=>exact hq
    |outgrown=>exact hq)
 | .loop _,s,H,K,h=>h
 | .rangeFunc _ _ _ _,s,H,K,h=>h
 | .scope _,s,H,K,h=>h
 | .label _,s,H,K,h=>h
 | .goto _,s,H,K,h=>h
 | .refuse _,s,H,K,h=>h
def Nl(P:Program)(rs:List ResultVar)(Q:KV):KT:=fun e s H=>(e= .normal∨e= .ret)∧QG (Yg P s H rs) fun v=>∃H',J5 H H'∧Q v H'
def Uo(H:Jn)(Q:KV):AV→Prop:=fun v=>∃H',J5 H H'∧Q v H'
theorem Jk.cw{P:Program}{f:FuncId}{fn:Func}{c:Code}{args:List AV}{H:Jn}{Q:KV}(hf:P.funcs[f]? =some fn)(hb:fn.body=some c){n:Nat}(hn:fn.ntmps=n){rs:List ResultVar}(hr:fn.results.toList=rs)
 (h:Lg.cw P c (args++List.replicate (n -args.length) .void) H (Nl P rs Q)):Jk P f args H Q:=by
 subst hn hr
 exact Jk.of_body hf hb ((UR _ _ _ _ h).mono fun e st ⟨h1,v,h2,H',h3,h4⟩=>⟨h1,v,H',h2,h3,h4⟩)
section
variable{P:Program}{ops:Array Oper}{s:List AV}{H:Jn}{K:KS}{Q:KT}{F:KV}
theorem JkA:cw P .skip s H Q=Q .normal s H:=propext Iff.rfl
theorem JkC(i:Nat):cw P (.exit i) s H Q=Q (.exit i) s H:=propext Iff.rfl
theorem Jl3:cw P .ret s H Q=Q .ret s H:=propext Iff.rfl
theorem JgJ(i:Nat)(l:List Oper):cw P (.region i l.toArray false) s H Q=vw P l.toArray l s H (Q .normal):=propext Iff.rfl
theorem Jei(i:Nat)(l:List Oper):cw P (.region i l.toArray true) s H Q=Kf P l.toArray s H (Q .normal):=propext Iff.rfl
theorem Jl2(x y:Code):cw P (.seq x y) s H Q=cw P x s H (JjP P y Q):=propext Iff.rfl
theorem JkD(c:Operand)(x y:Code):cw P (.cond c x y) s H Q=QG (Bp (QO s c)) (Kj P x y s H Q):=propext Iff.rfl
theorem JiF(i:Nat)(c:Code):cw P (.block i c) s H Q=cw P c s H (Nr i Q):=propext Iff.rfl
theorem JkB(c:Code):cw P (.loop c) s H Q=QN P (.loop c) ⟨s,H⟩ (stK Q):=propext Iff.rfl
theorem Jdb(x y:Code)(b:Bool):Kj P x y s H Q b=Nn b (cw P x s H Q) (cw P y s H Q):=propext Iff.rfl
theorem Jcg(y:Code):JjP P y Q .normal s H=cw P y s H Q:=propext Iff.rfl
theorem JfP(y:Code)(i:Nat):JjP P y Q (.exit i) s H=Q (.exit i) s H:=propext Iff.rfl
theorem Jhw(y:Code):JjP P y Q .ret s H=Q .ret s H:=propext Iff.rfl
theorem N6(i:Nat):Nr i Q .normal s H=Q .normal s H:=propext Iff.rfl
theorem Jep(i:Nat):Nr i Q .ret s H=Q .ret s H:=propext Iff.rfl
theorem Jeq(i:Nat):Nr i Q (.exit i) s H=Q .normal s H:=by simp[Nr]
theorem JgI(rs:List ResultVar):Nl P rs F .ret s H=QG (Yg P s H rs) (Uo H F):=by simp only[Nl,reduceCtorEq,true_or,or_true,true_and];rfl
theorem JbE(rs:List ResultVar):Nl P rs F .normal s H=QG (Yg P s H rs) (Uo H F):=by simp only[Nl,reduceCtorEq,true_or,or_true,true_and];rfl
theorem Jk9:vw P ops [] s H K=K s H:=by rw[vw]
theorem JjA(d:Option Tmp)(op:Op)(t:TypeId)(p:String)(e:Array Edge)(r:List Oper):
 vw P ops (⟨d,op,t,p,e,none⟩::r) s H K=opW P ⟨d,op,t,p,e,none⟩ s H (vwK P ops r s d K):=by rw[vw];rfl
theorem Jhe(d:Option Tmp)(op:Op)(t:TypeId)(p:String)(e:Array Edge)(j:Nat)(want:Bool)(r:List Oper):
 vw P ops (⟨d,op,t,p,e,some (j,want)⟩::r) s H K=QG (Z8 ops s j) (UK P ops ⟨d,op,t,p,e,some (j,want)⟩ r s H K want):=by rw[vw];rfl
theorem Jla(r:List Oper)(d:Option Tmp)(v:AV)(H':Jn):vwK P ops r s d K v H'=vw P ops r (QK s d v) H' K:=propext Iff.rfl
theorem XT(d:Option Tmp)(op:Op)(t:TypeId)(p:String)(e:Array Edge)(gd:Option (Nat×Bool))(r:List Oper)(want:Bool)(g:Option Bool):
 UK P ops ⟨d,op,t,p,e,gd⟩ r s H K want g=UJ g want (opW P ⟨d,op,t,p,e,gd⟩ s H (vwK P ops r s d K)) (vw P ops r (QK s d .void) H K):=propext Iff.rfl
theorem Jln:qw P ops [] s H K=K s H:=by rw[qw]
theorem JjV(d:Option Tmp)(op:Op)(t:TypeId)(p:String)(e:Array Edge)(r:List Oper):
 qw P ops (⟨d,op,t,p,e,none⟩::r) s H K=QM P ops ⟨d,op,t,p,e,none⟩ s H (qwK P ops r s d H K):=by rw[qw];rfl
theorem JhH(d:Option Tmp)(op:Op)(t:TypeId)(p:String)(e:Array Edge)(j:Nat)(want:Bool)(r:List Oper):
 qw P ops (⟨d,op,t,p,e,some (j,want)⟩::r) s H K=QG (Z8 ops s j) (UI P ops ⟨d,op,t,p,e,some (j,want)⟩ r s H K want):=by rw[qw];rfl
theorem Jlo(r:List Oper)(d:Option Tmp)(v:AV):qwK P ops r s d H K v=qw P ops r (QK s d v) H K:=propext Iff.rfl
theorem XS(d:Option Tmp)(op:Op)(t:TypeId)(p:String)(e:Array Edge)(gd:Option (Nat×Bool))(r:List Oper)(want:Bool)(g:Option Bool):
 UI P ops ⟨d,op,t,p,e,gd⟩ r s H K want g=UJ g want (QM P ops ⟨d,op,t,p,e,gd⟩ s H (qwK P ops r s d H K)) (qw P ops r (QK s d .void) H K):=propext Iff.rfl
theorem BR(A B:Prop):UJ (some true) true A B=A:=by simp[UJ]
theorem BU(A B:Prop):UJ (some false) false A B=A:=by simp[UJ]
theorem BS(A B:Prop):UJ (some true) false A B=B:=by simp[UJ]
theorem BT(A B:Prop):UJ (some false) true A B=B:=by simp[UJ]
theorem Y8(w:Bool)(A B:Prop):UJ none w A B=B:=by simp[UJ]
theorem JkE(A B:Prop):Nn true A B=A:=by simp[Nn]
theorem JkF(A B:Prop):Nn false A B=B:=by simp[Nn]
theorem JkJ(b:Bool):Bp (.c (.f (.bool b)))=some b:=rfl
variable{d:Option Tmp}{t:TypeId}{p:String}{e:Array Edge}{g:Option (Nat×Bool)}
def Jcv(s:List AV)(H:Jn)(x y:Operand)(F:KV):Bool→Prop:=fun b=>F (if b then QO s x else QO s y) H
theorem Jj2(x y:Operand):Jcv s H x y F true=F (QO s x) H:=propext Iff.rfl
theorem Jj3(x y:Operand):Jcv s H x y F false=F (QO s y) H:=propext Iff.rfl
theorem JhQ(x y:Operand)(b:Bool):Jcv s H x y F b=F (if b then QO s x else QO s y) H:=propext Iff.rfl
theorem JhV(x:Operand):opW P ⟨d, .move x,t,p,e,g⟩ s H F=F (QO s x) H:=by simp[opW,Ve,XF,QG,atH]
theorem JdV(x:Operand):opW P ⟨d, .assign x,t,p,e,g⟩ s H F=F (QO s x) H:=by simp[opW,Ve,XF,QG,atH]
theorem Jcz(c x y:Operand):XF P s H (.pick c x y)=(Bp (QO s c)).map fun b=>if b then QO s x else QO s y:=by
 simp only[XF,Bp]
 cases QO s c with
 |c x=>cases x with
  |f y=>cases y<;>rfl
  |_=>rfl
 |_=>rfl
theorem JhU(c x y:Operand):opW P ⟨d, .pick c x y,t,p,e,g⟩ s H F=QG (Bp (QO s c)) (Jcv s H x y F):=by
 simp only[opW,Ve,if_true,Jcz,B1];rfl
theorem Jj9(op:BinOp)(xt:TypeId)(x y:Operand)(yt:TypeId):opW P ⟨d, .binOp op xt x y yt,t,p,e,g⟩ s H F=QG (N7 P s H op xt x y) (atH F H):=propext Iff.rfl
theorem Jlx(op:UnOp)(xt:TypeId)(x:Operand):opW P ⟨d, .unOp op xt x,t,p,e,g⟩ s H F=QG (unV op (QO s x)) (atH F H):=propext Iff.rfl
theorem JhX(st dt:TypeId)(x:Operand):opW P ⟨d, .convert st dt x,t,p,e,g⟩ s H F=QG (Bj P H st dt (QO s x)) (atH F H):=propext Iff.rfl
theorem NT(st:TypeId)(x:Operand)(f:Nat):opW P ⟨d, .fieldAddr st x f,t,p,e,g⟩ s H F=QG (Yq P H st (QO s x) f) (atH F H):=propext Iff.rfl
theorem Jf0(st:TypeId)(x:Operand)(f:Nat):opW P ⟨d, .field st x f,t,p,e,g⟩ s H F=QG (BZ P st (QO s x) f) (atH F H):=propext Iff.rfl
theorem NS(st:TypeId)(x i:Operand):opW P ⟨d, .indexAddr st x i,t,p,e,g⟩ s H F=QG (Bh P H st (QO s x) (QO s i)) (atH F H):=propext Iff.rfl
theorem JfZ(st:TypeId)(x i:Operand):opW P ⟨d, .index st x i,t,p,e,g⟩ s H F=QG (BP P st (QO s x) (QO s i)) (atH F H):=propext Iff.rfl
theorem JhW(st:TypeId)(x:Operand):opW P ⟨d, .load st x,t,p,e,g⟩ s H F=QG (VV P H st (QO s x)) (atH F H):=propext Iff.rfl
theorem Jbe(x:Operand):opW P ⟨d, .nilCheck x,t,p,e,g⟩ s H F=QG (YL H (QO s x)) (atH F H):=propext Iff.rfl
def JdJ(P:Program)(s:List AV)(H:Jn)(st:TypeId)(x:Operand)(lo hi mx:Option Operand):Option AV:=match V4 s lo,V4 s hi,V4 s mx with
    |some l,some h,some m=>Vy P H st (QO s x) l h m
    |_,_,_=>none
theorem JfY(st:TypeId)(x:Operand)(lo hi mx:Option Operand):opW P ⟨d, .slice st x lo hi mx,t,p,e,g⟩ s H F=QG (JdJ P s H st x lo hi mx) (atH F H):=propext Iff.rfl
theorem Jj7(x:Operand)(xt:TypeId):opW P ⟨d, .call ⟨.builtin .len,#[x],#[xt]⟩,t,p,e,g⟩ s H F=QG (GT P H xt (QO s x)) (atH F H):=propext Iff.rfl
theorem Jj5(x y:Operand)(ts:Array TypeId):opW P ⟨d, .call ⟨.builtin .min,#[x,y],ts⟩,t,p,e,g⟩ s H F=QG (FJ false (QO s x) (QO s y)) (atH F H):=propext Iff.rfl
theorem Jj6(x y:Operand)(ts:Array TypeId):opW P ⟨d, .call ⟨.builtin .max,#[x,y],ts⟩,t,p,e,g⟩ s H F=QG (FJ true (QO s x) (QO s y)) (atH F H):=propext Iff.rfl
def Nj(i:Nat):AV→Option AV
 | .tup vs=>vs[i]?
 |_=>none
theorem Jcy(x:Operand)(i:Nat):opW P ⟨d, .extract x i,t,p,e,g⟩ s H F=QG (Nj i (QO s x)) (atH F H):=propext Iff.rfl
theorem Jbf(f:FuncId)(fi ca:Array Operand):opW P ⟨d, .makeFunc (.func f) fi ca,t,p,e,g⟩ s H F=QG (if fi.size=0 then(ca.toList.mapM (YD s)).map fun l=> .c (.fn f l)else none) (atH F H):=propext Iff.rfl
theorem JhY(f:Operand)(xs:Array Operand)(ts:Array TypeId):opW P ⟨d, .call ⟨.value f,xs,ts⟩,t,p,e,g⟩ s H F=JU P ⟨d, .call ⟨.value f,xs,ts⟩,t,p,e,g⟩ ⟨s,H⟩ F:=by simp[opW,Ve,opM]
theorem JdW(x y:Operand)(u:TypeId):opW P ⟨d, .call ⟨.builtin .append,#[x,y],#[u,u]⟩,t,p,e,g⟩ s H F=Qf P H u (QO s x) (QO s y) F:=by simp[opW,Ve,opM]
theorem Jj8(bt:TypeId)(x:Operand):opW P ⟨d, .box bt x,t,p,e,g⟩ s H F=JiT H (QO s x) F:=propext Iff.rfl
theorem Jf2(bt:TypeId):opW P ⟨d, .alloc bt,t,p,e,g⟩ s H F=JbO P H bt F:=propext Iff.rfl
theorem JfX(bt:TypeId)(x y:Operand):opW P ⟨d, .store bt x y,t,p,e,g⟩ s H F=Ja0 P H bt (QO s x) (QO s y) F:=propext Iff.rfl
theorem GA(bt:TypeId)(n:Nat)(ps:List (Nat×Operand)):opW P ⟨d, .buildSlice bt n ps.toArray,t,p,e,g⟩ s H F=Nq P s H bt n ps F:=propext Iff.rfl
theorem NR(bt:TypeId)(x y:Operand):opW P ⟨d, .makeSlice bt x y,t,p,e,g⟩ s H F=Je6 P H bt (QO s x) (QO s y) F:=propext Iff.rfl
theorem Jkv(n:Nat):QO s (.tmp n)=s.getD n .void:=rfl
theorem Jkx(k:IntKind)(n:Int):QO s (.const (.int k n))= .c (.f (.int k n)):=rfl
theorem JiE(b:Bool):QO s (.const (.bool b))= .c (.f (.bool b)):=rfl
theorem Jkw:QO s (.const (.slice none 0 0))= .c (.f .nil):=rfl
theorem JlV(f:FuncId):QO s (.func f)= .c (.fn f []):=rfl
theorem JfU(n:Nat)(v:AV):QK s (some n) v=s.set n v:=rfl
theorem JfV(v:AV):QK s none v=s:=rfl
def KE(P:Program)(H:Jn)(op:BinOp)(t:TypeId)(x y:AV):Option AV:=
 match x,y with
 | .c (.f (.int k a)), .c (.f (.int k' b))=>(Uw op k a k' b).map fun r=> .c (.f r)
 | .c (.f (.str a)), .c (.f (.str b))=>match op with
   | .add=>if a.size+b.size≤9223372036854775807 then some (.c (.f (.str (a++b))))else none
   | .eql=>some (.c (.f (.bool (a.toList==b.toList))))
   | .neq=>some (.c (.f (.bool (!(a.toList==b.toList)))))
   |_=>none
 | .c (.f (.bool a)), .c (.f (.bool b))=>match JP P t with
   |some ti=>match ti.k,op with
    | .bool, .eql=>some (.c (.f (.bool (a==b))))
    | .bool, .neq=>some (.c (.f (.bool (!(a==b)))))
    |_,_=>none
   |none=>none
 | .agg cs, .agg ds=>JkM P op t cs ds
 |vx,vy=>match JP P t,VX H vx,VX H vy with
  |some ti,some nx,some ny=>match ti.k,op with
   | .slice _, .eql=>if ny=true then some (.c (.f (.bool nx)))else if nx=true then some (.c (.f (.bool ny)))else none
   | .slice _, .neq=>if ny=true then some (.c (.f (.bool (!nx))))else if nx=true then some (.c (.f (.bool (!ny))))else none
   |_,_=>none
  |_,_,_=>none
theorem JkK(op:BinOp)(xt:TypeId)(x y:Operand):N7 P s H op xt x y=KE P H op xt (QO s x) (QO s y):=rfl
theorem Jja(op:BinOp)(xt:TypeId)(k k':IntKind)(a b:Int):KE P H op xt (.c (.f (.int k a))) (.c (.f (.int k' b)))=(Uw op k a k' b).map fun r=> .c (.f r):=rfl
end
end Go.Lg

namespace Go.Lg
abbrev int (n:Int):AV:= .c (.f (.int .i64 n))
abbrev bool (b:Bool):AV:= .c (.f (.bool b))
abbrev str (b:ByteArray):AV:= .c (.f (.str b))
theorem Jin(H:Jn)(v r:AV):Uo H (isQ v) r=(r=v):=propext ⟨fun⟨_,_,h⟩=>h,fun h=>⟨[],fun _ _ h=>by simp at h,h⟩⟩
theorem JU.rd{P:Program}{o:Oper}{st:St}{K:AV→Jn→Prop}{fo:Operand}{xs:Array Operand}{ts:Array TypeId}{f:FuncId}{args args':List AV}{v:AV}{u:Value}
 (hc:JM P f args' v) (he:Jg P f) (ho:o.op= .call ⟨.value fo,xs,ts⟩) (ha:Qb st fo xs=some (f,args)) (hs:args.mapM (RB st.h)=some args')
 (hf:Ka v=some u) (hk:K v st.h):JU P o st K:=JU.callStill ho ha he hs hc hf hk
section
variable{P:Program}{ops r:Array Oper}{rl:List Oper}{s:List AV}{H:Jn}{K:KS}{Q:KT}{d:Option Tmp}{op:Op}{t:TypeId}{p:String}{e:Array Edge}{gd:Option (Nat×Bool)}{c x y:Code}{b w:Bool}
theorem Jgp:UK P ops ⟨d,op,t,p,e,gd⟩ rl s H K true (some true)=opW P ⟨d,op,t,p,e,gd⟩ s H (vwK P ops rl s d K):=by rw[XT,BR]
theorem Jgt:UK P ops ⟨d,op,t,p,e,gd⟩ rl s H K false (some false)=opW P ⟨d,op,t,p,e,gd⟩ s H (vwK P ops rl s d K):=by rw[XT,BU]
theorem Jgq:UK P ops ⟨d,op,t,p,e,gd⟩ rl s H K true (some false)=vw P ops rl (QK s d .void) H K:=by rw[XT,BT]
theorem Jgs:UK P ops ⟨d,op,t,p,e,gd⟩ rl s H K false (some true)=vw P ops rl (QK s d .void) H K:=by rw[XT,BS]
theorem Jgr:UK P ops ⟨d,op,t,p,e,gd⟩ rl s H K w none=vw P ops rl (QK s d .void) H K:=by rw[XT,Y8]
theorem Jv(h1:b=true→UK P ops ⟨d,op,t,p,e,gd⟩ rl s H K w (some true))(h2:b=false→UK P ops ⟨d,op,t,p,e,gd⟩ rl s H K w (some false)):UK P ops ⟨d,op,t,p,e,gd⟩ rl s H K w (some b):=by
 cases b
 · exact h2 rfl
 · exact h1 rfl
theorem Jgk{G:KS}:UI P ops ⟨d,op,t,p,e,gd⟩ rl s H G true (some true)=QM P ops ⟨d,op,t,p,e,gd⟩ s H (qwK P ops rl s d H G):=by rw[XS,BR]
theorem Jgo{G:KS}:UI P ops ⟨d,op,t,p,e,gd⟩ rl s H G false (some false)=QM P ops ⟨d,op,t,p,e,gd⟩ s H (qwK P ops rl s d H G):=by rw[XS,BU]
theorem Jgl{G:KS}:UI P ops ⟨d,op,t,p,e,gd⟩ rl s H G true (some false)=qw P ops rl (QK s d .void) H G:=by rw[XS,BT]
theorem Jgn{G:KS}:UI P ops ⟨d,op,t,p,e,gd⟩ rl s H G false (some true)=qw P ops rl (QK s d .void) H G:=by rw[XS,BS]
theorem Jgm{G:KS}:UI P ops ⟨d,op,t,p,e,gd⟩ rl s H G w none=qw P ops rl (QK s d .void) H G:=by rw[XS,Y8]
theorem Jw{G:KS}(h1:b=true→UI P ops ⟨d,op,t,p,e,gd⟩ rl s H G w (some true))(h2:b=false→UI P ops ⟨d,op,t,p,e,gd⟩ rl s H G w (some false)):UI P ops ⟨d,op,t,p,e,gd⟩ rl s H G w (some b):=by
 cases b
 · exact h2 rfl
 · exact h1 rfl
theorem Bl:Kj P x y s H Q true=cw P x s H Q:=by rw[Jdb,JkE]
theorem Bm:Kj P x y s H Q false=cw P y s H Q:=by rw[Jdb,JkF]
theorem QS(h1:b=true→Kj P x y s H Q true)(h2:b=false→Kj P x y s H Q false):Kj P x y s H Q b:=by
 cases b
 · exact h2 rfl
 · exact h1 rfl
end
section
theorem Ji4(k:IntKind)(a b:Int):Uw .geq k a k b=some (.bool (decide (b≤a))):=by simp[Uw]
theorem Ji2(k:IntKind)(a b:Int):Uw .leq k a k b=some (.bool (decide (a≤b))):=by simp[Uw]
theorem Ji1(k:IntKind)(a b:Int):Uw .lss k a k b=some (.bool (decide (a<b))):=by simp[Uw]
theorem Ji3(k:IntKind)(a b:Int):Uw .gtr k a k b=some (.bool (decide (b<a))):=by simp[Uw]
theorem Ji5(k:IntKind)(a b:Int):Uw .eql k a k b=some (.bool (decide (a=b))):=by
 have:(a==b)=decide (a=b):=by rw[Bool.eq_iff_iff];simp
 simp only[Uw,if_true,this]
theorem JiZ(k:IntKind)(a b:Int):Uw .neq k a k b=some (.bool (!decide (a=b))):=by
 have:(a==b)=decide (a=b):=by rw[Bool.eq_iff_iff];simp
 simp only[Uw,if_true,bne,this]
theorem Ji7(k:IntKind)(a b:Int):Uw .add k a k b=some (.int k (k.wrap (a+b))):=by simp[Uw]
theorem JiW(k:IntKind)(a b:Int):Uw .sub k a k b=some (.int k (k.wrap (a -b))):=by simp[Uw]
theorem Ji0(k:IntKind)(a b:Int):Uw .mul k a k b=some (.int k (k.wrap (a*b))):=by simp[Uw]
theorem JiY(k:IntKind)(a b:Int):Uw .quo k a k b=if b≠0 then some (.int k (k.wrap (a.tdiv b)))else none:=by simp[Uw]
theorem JiX(k:IntKind)(a b:Int):Uw .rem k a k b=if b≠0 then some (.int k (a.tmod b))else none:=by simp[Uw]
theorem Ji6(k:IntKind)(a b:Int):Uw .and k a k b=some (.int k (Uv .and k a b)):=by simp[Uw]
theorem JkL(k:IntKind)(a b:Int):Uw .or k a k b=some (.int k (Uv .or k a b)):=by simp[Uw]
theorem JiV(k:IntKind)(a b:Int):Uw .xor k a k b=some (.int k (Uv .xor k a b)):=by simp[Uw]
theorem Jdj(k:IntKind)(a b:Int):Uw .andNot k a k b=some (.int k (Uv .andNot k a b)):=by simp[Uw]
theorem JjB(b:Bool):unV .not (bool b)=some (bool (!b)):=rfl
theorem JjC(k:IntKind)(n:Int):unV .neg (.c (.f (.int k n)))=some (.c (.f (.int k (k.wrap (0 -n))))):=rfl
theorem JhD(P:Program)(s:List AV)(H:Jn)(t:Nat):Yg P s H [.tmp t]=some (s.getD t .void):=rfl
theorem JhC(P:Program)(s:List AV)(H:Jn)(t u:Nat):Yg P s H [.tmp t, .tmp u]=some (.tup [s.getD t .void,s.getD u .void]):=rfl
theorem JdQ(P:Program)(s:List AV)(H:Jn)(t u v:Nat):Yg P s H [.tmp t, .tmp u, .tmp v]=some (.tup [s.getD t .void,s.getD u .void,s.getD v .void]):=rfl
theorem Jeb{ops:Array Oper}{s:List AV}{j:Nat}:Z8 ops s j=match(ops[j]?).bind (·.dst)with
 |none=>some none
 |some d=>match s[d]? with
  |none=>some none
  |some (.c (.f (.bool b)))=>some (some b)
  |some .void=>some none
  |_=>none:=rfl
end
def FE:List AV→List AV→Prop
 |[],[]=>True
 |a::s,b::s'=>(b= .any∨a=b)∧FE s s'
 |_,_=>False
theorem FE.sle:∀{s s':List AV},FE s s'→SLe s s'
 |[],[],_=>⟨rfl,fun i hi=>absurd hi (Nat.not_lt_zero _)⟩
 |a::s,b::s',h=>by
  obtain⟨h1,h2⟩:=h
  obtain⟨h3,h4⟩:=FE.sle h2
  refine⟨by simp[h3],fun i hi=> ?_⟩
  cases i with
  |zero=>rcases h1 with h|h
         · exact .inl h
         · exact .inr (by simp[h])
  |succ i=>simpa using h4 i (by simpa using hi)
 |[],_::_,h=>h.elim
 |_::_,[],h=>h.elim
theorem FE.refl:∀(s:List AV),FE s s
 |[]=>trivial
 |_::s=>⟨.inr rfl,FE.refl s⟩
theorem JjK:FE [] []=True:=rfl
theorem JjL(a:AV)(s s':List AV):FE (a::s) (.any::s')=FE s s':=by simp[FE]
theorem Jhr(a:AV)(s s':List AV):FE (a::s) (a::s')=FE s s':=by simp[FE]
theorem sle_c(a:AV)(x:CV)(s s':List AV):FE (a::s) (.c x::s')=(a= .c x∧FE s s'):=by simp[FE]
inductive Sl where
 |a
 |k
 |p (v:AV)
def ZP:List Sl→List AV→List AV
 | .a::m,_::s=> .any::ZP m s
 | .k::m,x::s=>x::ZP m s
 | .p v::m,_::s=>v::ZP m s
 |_,_=>[]
theorem Jkk(m:List Sl)(x:AV)(s:List AV):ZP (.a::m) (x::s)= .any::ZP m s:=rfl
theorem Jkj(m:List Sl)(x:AV)(s:List AV):ZP (.k::m) (x::s)=x::ZP m s:=rfl
theorem Jki(v:AV)(m:List Sl)(x:AV)(s:List AV):ZP (.p v::m) (x::s)=v::ZP m s:=rfl
theorem Jf9(s:List AV):ZP [] s=[]:=rfl
def Jfb{α:Type}(ok:α→Prop)(S:α→List AV)(G:α→Jn)(Q:KT):KT:=fun e s H=>match e with
 | .normal=>∃a,ok a∧FE s (S a)∧J5 H (G a)
 |e=>Q e s H
section
variable{α:Type}{ok:α→Prop}{S:α→List AV}{G:α→Jn}{Q:KT}{s:List AV}{H:Jn}
theorem Jbj:Jfb ok S G Q .normal s H=∃a,ok a∧FE s (S a)∧J5 H (G a):=propext Iff.rfl
theorem Jd1(i:Nat):Jfb ok S G Q (.exit i) s H=Q (.exit i) s H:=propext Iff.rfl
theorem Jgc:Jfb ok S G Q .ret s H=Q .ret s H:=propext Iff.rfl
end
theorem JO{P:Program}{c:Code}{s:List AV}{H:Jn}{Q:KT}{α:Type}(μ:α→Nat)(ok:α→Prop)(M:α→List Sl)(G:α→Jn)(a0:α)(h0:ok a0)(hs:FE s (ZP (M a0) s))(hh:J5 H (G a0))
 (step:∀a,ok a→cw P c (ZP (M a) s) (G a) (Jfb (fun b=>ok b∧μ b<μ a) (fun b=>ZP (M b) s) G Q)):QN P (.loop c) ⟨s,H⟩ (stK Q):=by
 refine QN.weaken (st':=⟨ZP (M a0) s,G a0⟩) hs.sle hh ?_
 refine QN.loop (fun n st=>∃a,ok a∧μ a=n∧st=⟨ZP (M a) s,G a⟩) ?_ ⟨a0,h0,rfl,rfl⟩
 rintro n st ⟨a,ha,rfl,rfl⟩
 refine(UR _ _ _ _ (step a ha)).mono fun e st hq=> ?_
 cases e with
 |normal=>
  obtain⟨b,⟨hb,hlt⟩,hs',hh'⟩:=hq
  exact⟨μ b,⟨ZP (M b) s,G b⟩,hlt,hs'.sle,hh',b,hb,rfl,rfl⟩
 |exit id=>exact hq
 |goto l=>exact hq
 |ret=>exact hq
 |panic c=>exact hq
 |outgrown=>exact hq
def Jbl{α β:Type}(ok:α→β→Prop)(S:α→β→List AV)(G:α→β→Jn)(Q:KT):KT:=fun e s H=>match e with
 | .normal=>∃a b,ok a b∧FE s (S a b)∧J5 H (G a b)
 |e=>Q e s H
def Jbk{α β γ:Type}(ok:α→β→γ→Prop)(S:α→β→γ→List AV)(G:α→β→γ→Jn)(Q:KT):KT:=fun e s H=>match e with
 | .normal=>∃a b c,ok a b c∧FE s (S a b c)∧J5 H (G a b c)
 |e=>Q e s H
section
variable{α β γ:Type}{Q:KT}{s:List AV}{H:Jn}
theorem NX{ok:α→β→Prop}{S:α→β→List AV}{G:α→β→Jn}:Jbl ok S G Q .normal s H=∃a b,ok a b∧FE s (S a b)∧J5 H (G a b):=propext Iff.rfl
theorem JcJ{ok:α→β→Prop}{S:α→β→List AV}{G:α→β→Jn}(i:Nat):Jbl ok S G Q (.exit i) s H=Q (.exit i) s H:=propext Iff.rfl
theorem Jd3{ok:α→β→Prop}{S:α→β→List AV}{G:α→β→Jn}:Jbl ok S G Q .ret s H=Q .ret s H:=propext Iff.rfl
theorem NW{ok:α→β→γ→Prop}{S:α→β→γ→List AV}{G:α→β→γ→Jn}:Jbk ok S G Q .normal s H=∃a b c,ok a b c∧FE s (S a b c)∧J5 H (G a b c):=propext Iff.rfl
theorem JcI{ok:α→β→γ→Prop}{S:α→β→γ→List AV}{G:α→β→γ→Jn}(i:Nat):Jbk ok S G Q (.exit i) s H=Q (.exit i) s H:=propext Iff.rfl
theorem Jd2{ok:α→β→γ→Prop}{S:α→β→γ→List AV}{G:α→β→γ→Jn}:Jbk ok S G Q .ret s H=Q .ret s H:=propext Iff.rfl
end
theorem Qx{P:Program}{c:Code}{s:List AV}{H:Jn}{Q:KT}{α β:Type}(μ:α→β→Nat)(ok:α→β→Prop)(M:α→β→List Sl)(G:α→β→Jn)(a0:α)(b0:β)(h0:ok a0 b0)(hs:FE s (ZP (M a0 b0) s))(hh:J5 H (G a0 b0))
 (step:∀a b,ok a b→cw P c (ZP (M a b) s) (G a b) (Jbl (fun a' b'=>ok a' b'∧μ a' b'<μ a b) (fun a' b'=>ZP (M a' b') s) G Q)):QN P (.loop c) ⟨s,H⟩ (stK Q):=by
 refine QN.weaken (st':=⟨ZP (M a0 b0) s,G a0 b0⟩) hs.sle hh ?_
 refine QN.loop (fun n st=>∃a b,ok a b∧μ a b=n∧st=⟨ZP (M a b) s,G a b⟩) ?_ ⟨a0,b0,h0,rfl,rfl⟩
 rintro n st ⟨a,b,ha,rfl,rfl⟩
 refine(UR _ _ _ _ (step a b ha)).mono fun e st hq=> ?_
 cases e with
 |normal=>
  obtain⟨a',b',⟨hb,hlt⟩,hs',hh'⟩:=hq
  exact⟨μ a' b',⟨ZP (M a' b') s,G a' b'⟩,hlt,hs'.sle,hh',a',b',hb,rfl,rfl⟩
 |exit id=>exact hq
 |goto l=>exact hq
 |ret=>exact hq
 |panic c=>exact hq
 |outgrown=>exact hq
theorem Xa{P:Program}{c:Code}{s:List AV}{H:Jn}{Q:KT}{α β γ:Type}(μ:α→β→γ→Nat)(ok:α→β→γ→Prop)(M:α→β→γ→List Sl)(G:α→β→γ→Jn)(a0:α)(b0:β)(c0:γ)(h0:ok a0 b0 c0)(hs:FE s (ZP (M a0 b0 c0) s))(hh:J5 H (G a0 b0 c0))
 (step:∀a b d,ok a b d→cw P c (ZP (M a b d) s) (G a b d) (Jbk (fun a' b' c'=>ok a' b' c'∧μ a' b' c'<μ a b d) (fun a' b' c'=>ZP (M a' b' c') s) G Q)):QN P (.loop c) ⟨s,H⟩ (stK Q):=by
 refine QN.weaken (st':=⟨ZP (M a0 b0 c0) s,G a0 b0 c0⟩) hs.sle hh ?_
 refine QN.loop (fun n st=>∃a b d,ok a b d∧μ a b d=n∧st=⟨ZP (M a b d) s,G a b d⟩) ?_ ⟨a0,b0,c0,h0,rfl,rfl⟩
 rintro n st ⟨a,b,d,ha,rfl,rfl⟩
 refine(UR _ _ _ _ (step a b d ha)).mono fun e st hq=> ?_
 cases e with
 |normal=>
  obtain⟨a',b',d',⟨hb,hlt⟩,hs',hh'⟩:=hq
  exact⟨μ a' b' d',⟨ZP (M a' b' d') s,G a' b' d'⟩,hlt,hs'.sle,hh',a',b',d',hb,rfl,rfl⟩
 |exit id=>exact hq
 |goto l=>exact hq
 |ret=>exact hq
 |panic c=>exact hq
 |outgrown=>exact hq
theorem ZY{g sz:Nat}{cs cs':List CV}{H H':Jn}(h:cs=cs')(hh:J5 H H'):J5 (some ⟨g,sz,cs⟩::H) (some ⟨g,sz,cs'⟩::H'):=fun id b hb=>by
 subst h
 cases id with
 |zero=>exact hb
 |succ id=>exact hh id b hb
theorem JcT(x:Option Zo)(H H':Jn)(h:J5 H H'):J5 (x::H) (x::H'):=fun id b hb=>by
 cases id with
 |zero=>exact hb
 |succ id=>exact h id b hb
theorem J9(H:Jn):J5 H []:=fun id b hb=>by simp at hb
theorem Xc(x:Option Zo)(H H':Jn)(h:J5 H H'):J5 (x::H) (none::H'):=fun id b hb=>by
 cases id with
 |zero=>simp at hb
 |succ id=>exact h id b hb
theorem JgR{n:Int}(h1: -9223372036854775808≤n)(h2:n≤9223372036854775807):IntKind.i64.wrap n=n:=IntWalk.i64_in _ (by omega)
def Fq(H:Jn)(p:CV):Option AV:=match Z9 H p 1 with
 |some [c]=>some (.c c)
 |_=>none
theorem Jik(P:Program)(H:Jn)(t:TypeId)(p:CV):VV P H t (.c p)=match JP P t with
 |some i=>(match Rl i.k with
  |true=>(Z9 H p i.size).map .agg
  |false=>Fq H p)
 |none=>none:=by
 unfold VV
 cases JP P t<;>rfl
theorem JcN{H:Jn}{l:List FV}{off:Nat}:Fq H (.fp l off)=(l[off]?).map fun x=> .c (.f x):=by
 simp only[Fq,Z9]
 by_cases h:off<l.length
 · rw[if_pos (by omega),List.getElem?_eq_getElem h]
   have:(l.drop off).take 1=[l[off]]:=by
    rw[List.drop_eq_getElem_cons h];rfl
   simp[this]
 · rw[if_neg (by omega),List.getElem?_eq_none (by omega)]
   rfl
section
variable{P:Program}{ops:Array Oper}{s:List AV}{H:Jn}{F:AV→Prop}{d:Option Tmp}{t:TypeId}{p:String}{e:Array Edge}{g:Option (Nat×Bool)}
theorem JjX(x:Operand):QM P ops ⟨d, .move x,t,p,e,g⟩ s H F=F (QO s x):=by simp[QM,Ve,XF,QG]
theorem JfS(x:Operand):QM P ops ⟨d, .assign x,t,p,e,g⟩ s H F=F (QO s x):=by simp[QM,Ve,XF,QG]
theorem JjW(c x y:Operand):QM P ops ⟨d, .pick c x y,t,p,e,g⟩ s H F=QG (Bp (QO s c)) (Jcv s H x y fun v _=>F v):=by simp only[QM,Ve,if_true,Jcz,B1];rfl
theorem Jls(op:BinOp)(xt:TypeId)(x y:Operand)(yt:TypeId):QM P ops ⟨d, .binOp op xt x y yt,t,p,e,g⟩ s H F=QG (N7 P s H op xt x y) F:=propext Iff.rfl
theorem qW_un(op:UnOp)(xt:TypeId)(x:Operand):QM P ops ⟨d, .unOp op xt x,t,p,e,g⟩ s H F=QG (unV op (QO s x)) F:=propext Iff.rfl
theorem JjZ(st dt:TypeId)(x:Operand):QM P ops ⟨d, .convert st dt x,t,p,e,g⟩ s H F=QG (Bj P H st dt (QO s x)) F:=propext Iff.rfl
theorem Jba(st:TypeId)(x:Operand)(f:Nat):QM P ops ⟨d, .fieldAddr st x f,t,p,e,g⟩ s H F=QG (Yq P H st (QO s x) f) F:=propext Iff.rfl
theorem JhK(st:TypeId)(x:Operand)(f:Nat):QM P ops ⟨d, .field st x f,t,p,e,g⟩ s H F=QG (BZ P st (QO s x) f) F:=propext Iff.rfl
theorem Ja9(st:TypeId)(x i:Operand):QM P ops ⟨d, .indexAddr st x i,t,p,e,g⟩ s H F=QG (Bh P H st (QO s x) (QO s i)) F:=propext Iff.rfl
theorem JhJ(st:TypeId)(x i:Operand):QM P ops ⟨d, .index st x i,t,p,e,g⟩ s H F=QG (BP P st (QO s x) (QO s i)) F:=propext Iff.rfl
theorem JjY(st:TypeId)(x:Operand):QM P ops ⟨d, .load st x,t,p,e,g⟩ s H F=QG (VV P H st (QO s x)) F:=propext Iff.rfl
theorem Jcq(x:Operand):QM P ops ⟨d, .nilCheck x,t,p,e,g⟩ s H F=QG (YL H (QO s x)) F:=propext Iff.rfl
theorem JhI(st:TypeId)(x:Operand)(lo hi mx:Option Operand):QM P ops ⟨d, .slice st x lo hi mx,t,p,e,g⟩ s H F=QG (JdJ P s H st x lo hi mx) F:=propext Iff.rfl
theorem Jlr(x:Operand)(xt:TypeId):QM P ops ⟨d, .call ⟨.builtin .len,#[x],#[xt]⟩,t,p,e,g⟩ s H F=QG (GT P H xt (QO s x)) F:=propext Iff.rfl
theorem Jlp(x y:Operand)(ts:Array TypeId):QM P ops ⟨d, .call ⟨.builtin .min,#[x,y],ts⟩,t,p,e,g⟩ s H F=QG (FJ false (QO s x) (QO s y)) F:=propext Iff.rfl
theorem Jlq(x y:Operand)(ts:Array TypeId):QM P ops ⟨d, .call ⟨.builtin .max,#[x,y],ts⟩,t,p,e,g⟩ s H F=QG (FJ true (QO s x) (QO s y)) F:=propext Iff.rfl
theorem JdS(x:Operand)(i:Nat):QM P ops ⟨d, .extract x i,t,p,e,g⟩ s H F=QG (Nj i (QO s x)) F:=propext Iff.rfl
end
theorem JhL{P:Program}{ops:Array Oper}{s:List AV}{H:Jn}{F:AV→Prop}{d:Option Tmp}{t:TypeId}{p:String}{e:Array Edge}{g:Option (Nat×Bool)}(bt:TypeId)(n:Nat)(ps:List (Nat×Operand)):
 QM P ops ⟨d, .buildSlice bt n ps.toArray,t,p,e,g⟩ s H F=Uy P s bt n ps F:=propext Iff.rfl
theorem QM.rd{P:Program}{ops:Array Oper}{o:Oper}{s:List AV}{H:Jn}{F:AV→Prop}{fo:Operand}{xs:Array Operand}{ts:Array TypeId}{f:FuncId}{args args':List AV}{v:AV}{u:Value}
 (hc:JM P f args' v) (he:Jg P f) (ho:o.op= .call ⟨.value fo,xs,ts⟩) (ha:Qb ⟨s,H⟩ fo xs=some (f,args)) (hs:args.mapM (RB H)=some args')
 (hf:Ka v=some u) (hk:F v):QM P ops o s H F:=by
 unfold QM
 rw[ho]
 exact⟨v,Vm.flat hc he ho ha hs hf,hk⟩
theorem QM.mk{P:Program}{ops:Array Oper}{o:Oper}{s:List AV}{H:Jn}{F:AV→Prop}{fo:Operand}{xs:Array Operand}{ts:Array TypeId}{f:FuncId}{args:List AV}{v:AV}
 (hc:JM P f args v) (he:Jg P f) (ho:o.op= .call ⟨.value fo,xs,ts⟩) (ha:Qb ⟨s,H⟩ fo xs=some (f,args)) (hz:args.all Q2=true)
 (hf:FX v=true) (hv:Vu [] v=some v) (hk:F v):QM P ops o s H F:=by
 unfold QM
 rw[ho]
 have hca:∃f',QO s fo= .c (.fn f' [])∧f'=f∧args=xs.toList.map (QO s):=by
  unfold Qb at ha
  split at ha
  · rename_i f' e;cases ha;exact⟨_,e,rfl,rfl⟩
  · cases ha
 obtain⟨f',e1,hff,e2⟩:=hca
 subst hff
 refine⟨v,Vm.ops (fun x hx=> ?_) hf (fun s' hs'=> ?_),hk⟩
 · rw[ho]at hx
   simp only[Op.operands,Call.operands,Array.mem_append]at hx
   rcases hx with hx|hx
   · have:x=fo:=by simpa using hx
     subst this
     rw[e1];rfl
   · exact List.all_eq_true.1 hz _ (by rw[e2];exact List.mem_map.2 ⟨x,by simpa using hx,rfl⟩)
 · have ha':Qb ⟨s',[]⟩ fo xs=some (f',args):=by
    rw[V3 (s:=s) (H:=H) ts fun x hx=>hs' x (by rw[ho];exact hx)];exact ha
   obtain⟨h1,h2⟩:=XI ha'
   refine JU.call ho h1 he ?_
   rw[h2]
   refine Jk.weaker (Q':=fun r H'=>Vu H' r=some v) hc fun r H' hr=>⟨[],fun _ _ h=>by simp at h, ?_⟩
   rw[show r=v from hr];exact hv
theorem BJ{n:Int}(h: -9223372036854775808≤n∧n≤9223372036854775807):IntKind.i64.wrap n=n:=JgR h.1 h.2
theorem ok_u8{n:Int}(h:0≤n∧n≤255):IntKind.u8.wrap n=n:=by simp only[IntKind.wrap];simp[IntKind.bits,IntKind.signed];omega
attribute [go_sem] Jl2 JgJ Jei Jl3 JkD JiF JkC JkA JkB Jcg JfP Jhw N6 Jep Jeq Bl Bm
 JjA Jhe Jk9 Jla Jgp Jgt Jgq Jgs Jgr JhV JdV Jj9 JhU JhY NS JfZ JhW Jj7 Jlx JhX NT Jf0 Jbe JfY Jj5 Jj6 Jcy Jbf
 JjV JhH Jln Jlo Jgk Jgo Jgl Jgn Jgm
 JjX JfS JjW Jls qW_un JjZ Jba JhK Ja9 JhJ JjY Jcq JhI Jlr Jlp Jlq JdS JhL Uy Xu
 JdW Jj8 Jf2 JfX GA NR JfU JfV List.set_cons_zero List.set_cons_succ Jkv Jkx JiE JlV Jkw List.getD_cons_zero List.getD_cons_succ
 JkJ Jer JgV B1 JiJ JkK Jja Ji4 Ji2 Ji1 Ji3 Ji5 JiZ Ji7 JiW Ji0 JiY JiX Ji6 JkL JiV Jdj
 Option.map_some Jl7 Jeb JhQ List.getElem?_toArray List.getElem?_cons_zero List.getElem?_cons_succ Option.bind_some JgI JbE JhD JhC JdQ JjB JjC Jbj Jd1 Jgc NX JcJ Jd3 NW JcI Jd2 JjK JjL Jhr sle_c
 Jkk Jkj Jki Jf9 Jin BJ ok_u8 JhZ Jlz Jik Bh GT Rl AV.c.injEq CV.f.injEq FV.int.injEq FV.bool.injEq true_and and_true if_true Bool.false_eq_true if_false
theorem nif_t{α:Sort _}{a b:Nat}{x y:α}(h:a=b):(if a=b then x else y)=x:=if_pos h
theorem nif_f{α:Sort _}{a b:Nat}{x y:α}(h:a≠b):(if a=b then x else y)=y:=if_neg h
theorem lif_t{α:Sort _}{a b:Nat}{x y:α}(h:a<b):(if a<b then x else y)=x:=if_pos h
theorem lif_f{α:Sort _}{a b:Nat}{x y:α}(h:¬a<b):(if a<b then x else y)=y:=if_neg h
attribute [go_sem] nif_t nif_f lif_t lif_f CV.own.injEq CV.ptr.injEq
attribute [go_sem↓] Jj2 Jj3
end Go.Lg
