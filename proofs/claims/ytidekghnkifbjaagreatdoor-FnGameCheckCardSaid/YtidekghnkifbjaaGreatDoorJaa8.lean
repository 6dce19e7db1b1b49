/- LgN2, LgO, cut to what is needed. -/
import Derived.Test.YtidekghnkifbjaaGreatDoorJaa7
import Derived.IntWalk
open Nat renaming reduceAdd→zA,reduceMul→zM,reduceSub→zS,reduceEqDiff→zE,reduceLeDiff→zL
set_option linter.unusedSimpArgs false
set_option linter.unusedVariables false
namespace Go.Lg
def Bu:AV→Option Bool
 | .c (.f (.bool b))=>some b
 |_=>none
theorem Jes{v:AV}{b:Bool}(h:Bu v=some b):v= .c (.f (.bool b)):=by
 unfold Bu at h
 split at h
 · cases h;rfl
 · cases h
def Nr(b:Bool)(A B:Prop):Prop:=(b=true→A)∧(b=false→B)
abbrev KT:=Exit→List AV→Jm→Prop
def nrm(K:KS)(e:Exit)(st:St):Prop:=match e with
 | .normal=>K st.s st.h
 |_=>False
def Kn(P:Program)(ops:Array Oper)(s:List AV)(H:Jm)(K:KS):Prop:=
 P.follows .mixedOrders=true∧((Jaj ops=true∧qw P ops ops.toList s H K)∨(∃π F D σ m,V9 ops π F D σ=true∧lw P ops m F D π none s H fun s H=>sw P ops σ s H K)∨∀id,QE P (.region id ops true) ⟨s,H⟩ (nrm K))
theorem Zj{P:Program}{ops:Array Oper}{s:List AV}{H:Jm}{K:KS}(hm:P.follows .mixedOrders=true)(hB:Jaj ops=true)(h:qw P ops ops.toList s H K):Kn P ops s H K:=⟨hm, .inl ⟨hB,h⟩⟩
theorem Jkx{P:Program}{ops:Array Oper}{s:List AV}{H:Jm}{K:KS}(π:List Nat)(F:List Nat)(D:Option Nat)(σ:List Nat)(m:List Bool)(hm:P.follows .mixedOrders=true)(hB:V9 ops π F D σ=true)(h:lw P ops m F D π none s H (swK P ops σ K)):Kn P ops s H K:=
 ⟨hm, .inr (.inl ⟨π,F,D,σ,m,hB,h⟩)⟩
theorem FB{P:Program}{id:Nat}{ops:Array Oper}{s:List AV}{H:Jm}{Q:Exit→St→Prop}(h:Kn P ops s H fun s H=>Q .normal ⟨s,H⟩):QE P (.region id ops true) ⟨s,H⟩ Q:=by
 obtain⟨hm,⟨hB,h⟩|⟨π,F,D,σ,m,hB,h⟩|h⟩:=h
 · exact QE.regionF hm hB (RY _ _ _ _ h)
 · exact QE.regionL π F D σ m hm hB h
 · exact(h id).mono fun e st hq=>by
    cases e with
    |normal=>exact hq
    |_=>exact hq.elim
theorem Jfo{P:Program}{ops:Array Oper}{s:List AV}{H:Jm}{K:KS}(hm:P.follows .mixedOrders=true)(h:∀id,QE P (.region id ops true) ⟨s,H⟩ (nrm K)):Kn P ops s H K:=⟨hm, .inr (.inr h)⟩
def cw(P:Program):Code→List AV→Jm→KT→Prop
 | .skip,s,H,K=>K .normal s H
 | .exit id,s,H,K=>K (.exit id) s H
 | .ret,s,H,K=>K .ret s H
 | .region _ ops false,s,H,K=>vw P ops ops.toList s H (K .normal)
 | .region _ ops true,s,H,K=>Kn P ops s H (K .normal)
 | .seq x y,s,H,K=>cw P x s H fun e s' H'=>match e with
   | .normal=>cw P y s' H' K
   |e=>K e s' H'
 | .cond c x y,s,H,K=>QJ (Bu (QU s c)) fun b=>Nr b (cw P x s H K) (cw P y s H K)
 | .block id c,s,H,K=>cw P c s H fun e s' H'=>match e with
   | .exit id'=>if id'=id then K .normal s' H' else K (.exit id') s' H'
   |e=>K e s' H'
 |c,s,H,K=>QE P c ⟨s,H⟩ fun e st=>K e st.s st.h
def JjN(P:Program)(y:Code)(K:KT):KT:=fun e s' H'=>match e with
    | .normal=>cw P y s' H' K
    |e=>K e s' H'
def Kr(P:Program)(x y:Code)(s:List AV)(H:Jm)(K:KT):Bool→Prop:=fun b=>Nr b (cw P x s H K) (cw P y s H K)
def Nw(id:Nat)(K:KT):KT:=fun e s' H'=>match e with
    | .exit id'=>if id'=id then K .normal s' H' else K (.exit id') s' H'
    |e=>K e s' H'
def stK(K:KT):Exit→St→Prop:=fun e st=>K e st.s st.h
theorem Ua{P:Program}:∀(c:Code) (s:List AV) (H:Jm) (K:KT),cw P c s H K→QE P c ⟨s,H⟩ (stK K)
 | .skip,s,H,K,h=>QE.skip h
 | .exit id,s,H,K,h=>QE.exit h
 | .ret,s,H,K,h=>QE.ret h
 | .region _ ops false,s,H,K,h=>QE.region (YU _ _ _ _ h)
 | .region _ ops true,s,H,K,h=>FB h
 | .seq x y,s,H,K,h=>QE.seq ((Ua x s H _ h).mono fun e st hq=>by
    cases e with
    |normal=>exact Ua y _ _ K hq
    |exit id=>exact hq
    |goto l=>exact hq
    |ret=>exact hq
    |panic c=>exact hq
    |outgrown=>exact hq)
 | .cond c x y,s,H,K,h=>by
   obtain⟨b,h1,h2,h3⟩:=h
   exact QE.cond (Jes h1) (fun hb=>Ua x s H K (h2 hb)) (fun hb=>Ua y s H K (h3 hb))
 | .block id c,s,H,K,h=>QE.block ((Ua c s H _ h).mono fun e st hq=>by
    cases e with
    |exit id'=>exact hq
    |normal=>exact hq
    |goto l=>exact hq
    |ret=>exact hq
    |panic c=>exact hq
    |outgrown=>exact hq)
 | .loop _,s,H,K,h=>h
 | .rangeFunc _ _ _ _,s,H,K,h=>h
 | .scope _,s,H,K,h=>h
 | .label _,s,H,K,h=>h
 | .goto _,s,H,K,h=>h
 | .refuse _,s,H,K,h=>h
def FD(P:Program)(rs:List ResultVar)(Q:KV):KT:=fun e s H=>(e= .normal∨e= .ret)∧QJ (Yh P s H rs) fun v=>∃H',J0 H H'∧Q v H'
def Uy(H:Jm)(Q:KV):AV→Prop:=fun v=>∃H',J0 H H'∧Q v H'
theorem Jn.cw{P:Program}{f:FuncId}{fn:Func}{c:Code}{args:List AV}{H:Jm}{Q:KV}(hf:P.funcs[f]? =some fn)(hb:fn.body=some c){n:Nat}(hn:fn.ntmps=n){rs:List ResultVar}(hr:fn.results.toList=rs)
 (h:Lg.cw P c (args++List.replicate (n -args.length) .void) H (FD P rs Q)):Jn P f args H Q:=by
 subst hn hr
 exact Jn.of_body hf hb ((Ua _ _ _ _ h).mono fun e st ⟨h1,v,h2,H',h3,h4⟩=>⟨h1,v,H',h2,h3,h4⟩)
section
variable{P:Program}{ops:Array Oper}{s:List AV}{H:Jm}{K:KS}{Q:KT}{F:KV}
theorem Jky:cw P .skip s H Q=Q .normal s H:=propext Iff.rfl
theorem JkA(i:Nat):cw P (.exit i) s H Q=Q (.exit i) s H:=propext Iff.rfl
theorem Jl3:cw P .ret s H Q=Q .ret s H:=propext Iff.rfl
theorem JgP(i:Nat)(l:List Oper):cw P (.region i l.toArray false) s H Q=vw P l.toArray l s H (Q .normal):=propext Iff.rfl
theorem Jek(i:Nat)(l:List Oper):cw P (.region i l.toArray true) s H Q=Kn P l.toArray s H (Q .normal):=propext Iff.rfl
theorem Jl2(x y:Code):cw P (.seq x y) s H Q=cw P x s H (JjN P y Q):=propext Iff.rfl
theorem JkB(c:Operand)(x y:Code):cw P (.cond c x y) s H Q=QJ (Bu (QU s c)) (Kr P x y s H Q):=propext Iff.rfl
theorem JiI(i:Nat)(c:Code):cw P (.block i c) s H Q=cw P c s H (Nw i Q):=propext Iff.rfl
theorem Jkz(c:Code):cw P (.loop c) s H Q=QE P (.loop c) ⟨s,H⟩ (stK Q):=propext Iff.rfl
theorem Jdd(x y:Code)(b:Bool):Kr P x y s H Q b=Nr b (cw P x s H Q) (cw P y s H Q):=propext Iff.rfl
theorem Jca(y:Code):JjN P y Q .normal s H=cw P y s H Q:=propext Iff.rfl
theorem JfM(y:Code)(i:Nat):JjN P y Q (.exit i) s H=Q (.exit i) s H:=propext Iff.rfl
theorem JhC(y:Code):JjN P y Q .ret s H=Q .ret s H:=propext Iff.rfl
theorem N7(i:Nat):Nw i Q .normal s H=Q .normal s H:=propext Iff.rfl
theorem Jet(i:Nat):Nw i Q .ret s H=Q .ret s H:=propext Iff.rfl
theorem Jeu(i:Nat):Nw i Q (.exit i) s H=Q .normal s H:=by simp[Nw]
theorem JgO(rs:List ResultVar):FD P rs F .ret s H=QJ (Yh P s H rs) (Uy H F):=by simp only[FD,reduceCtorEq,true_or,or_true,true_and];rfl
theorem Jbx(rs:List ResultVar):FD P rs F .normal s H=QJ (Yh P s H rs) (Uy H F):=by simp only[FD,reduceCtorEq,true_or,or_true,true_and];rfl
theorem Jlb:vw P ops [] s H K=K s H:=by rw[vw]
theorem JjD(d:Option Tmp)(op:Op)(t:TypeId)(p:String)(e:Array Edge)(r:List Oper):
 vw P ops (⟨d,op,t,p,e,none⟩::r) s H K=opW P ⟨d,op,t,p,e,none⟩ s H (vwK P ops r s d K):=by rw[vw];rfl
theorem Jhm(d:Option Tmp)(op:Op)(t:TypeId)(p:String)(e:Array Edge)(j:Nat)(want:Bool)(r:List Oper):
 vw P ops (⟨d,op,t,p,e,some (j,want)⟩::r) s H K=QJ (Ue ops s j) (UP P ops ⟨d,op,t,p,e,some (j,want)⟩ r s H K want):=by rw[vw];rfl
theorem Jlc(r:List Oper)(d:Option Tmp)(v:AV)(H':Jm):vwK P ops r s d K v H'=vw P ops r (QQ s d v) H' K:=propext Iff.rfl
theorem XT(d:Option Tmp)(op:Op)(t:TypeId)(p:String)(e:Array Edge)(gd:Option (Nat×Bool))(r:List Oper)(want:Bool)(g:Option Bool):
 UP P ops ⟨d,op,t,p,e,gd⟩ r s H K want g=UO g want (opW P ⟨d,op,t,p,e,gd⟩ s H (vwK P ops r s d K)) (vw P ops r (QQ s d .void) H K):=propext Iff.rfl
theorem Jll:qw P ops [] s H K=K s H:=by rw[qw]
theorem JjS(d:Option Tmp)(op:Op)(t:TypeId)(p:String)(e:Array Edge)(r:List Oper):
 qw P ops (⟨d,op,t,p,e,none⟩::r) s H K=QY P ops ⟨d,op,t,p,e,none⟩ s H (qwK P ops r s d H K):=by rw[qw];rfl
theorem JhJ(d:Option Tmp)(op:Op)(t:TypeId)(p:String)(e:Array Edge)(j:Nat)(want:Bool)(r:List Oper):
 qw P ops (⟨d,op,t,p,e,some (j,want)⟩::r) s H K=QJ (Ue ops s j) (UN P ops ⟨d,op,t,p,e,some (j,want)⟩ r s H K want):=by rw[qw];rfl
theorem Jlm(r:List Oper)(d:Option Tmp)(v:AV):qwK P ops r s d H K v=qw P ops r (QQ s d v) H K:=propext Iff.rfl
theorem XS(d:Option Tmp)(op:Op)(t:TypeId)(p:String)(e:Array Edge)(gd:Option (Nat×Bool))(r:List Oper)(want:Bool)(g:Option Bool):
 UN P ops ⟨d,op,t,p,e,gd⟩ r s H K want g=UO g want (QY P ops ⟨d,op,t,p,e,gd⟩ s H (qwK P ops r s d H K)) (qw P ops r (QQ s d .void) H K):=propext Iff.rfl
theorem BV(A B:Prop):UO (some true) true A B=A:=by simp[UO]
theorem BY(A B:Prop):UO (some false) false A B=A:=by simp[UO]
theorem BW(A B:Prop):UO (some true) false A B=B:=by simp[UO]
theorem BX(A B:Prop):UO (some false) true A B=B:=by simp[UO]
theorem Kg(w:Bool)(A B:Prop):UO none w A B=B:=by simp[UO]
theorem JkC(A B:Prop):Nr true A B=A:=by simp[Nr]
theorem JkD(A B:Prop):Nr false A B=B:=by simp[Nr]
theorem JkI(b:Bool):Bu (.c (.f (.bool b)))=some b:=rfl
variable{d:Option Tmp}{t:TypeId}{p:String}{e:Array Edge}{g:Option (Nat×Bool)}
def Jct(s:List AV)(H:Jm)(x y:Operand)(F:KV):Bool→Prop:=fun b=>F (if b then QU s x else QU s y) H
theorem JjZ(x y:Operand):Jct s H x y F true=F (QU s x) H:=propext Iff.rfl
theorem Jj0(x y:Operand):Jct s H x y F false=F (QU s y) H:=propext Iff.rfl
theorem JhS(x y:Operand)(b:Bool):Jct s H x y F b=F (if b then QU s x else QU s y) H:=propext Iff.rfl
theorem JhX(x:Operand):opW P ⟨d, .move x,t,p,e,g⟩ s H F=F (QU s x) H:=by simp[opW,Vf,XG,QJ,atH]
theorem JdV(x:Operand):opW P ⟨d, .assign x,t,p,e,g⟩ s H F=F (QU s x) H:=by simp[opW,Vf,XG,QJ,atH]
theorem Jcx(c x y:Operand):XG P s H (.pick c x y)=(Bu (QU s c)).map fun b=>if b then QU s x else QU s y:=by
 simp only[XG,Bu]
 cases QU s c with
 |c x=>cases x with
  |f y=>cases y<;>rfl
  |_=>rfl
 |_=>rfl
theorem JhW(c x y:Operand):opW P ⟨d, .pick c x y,t,p,e,g⟩ s H F=QJ (Bu (QU s c)) (Jct s H x y F):=by
 simp only[opW,Vf,if_true,Jcx,B7];rfl
theorem Jj6(op:BinOp)(xt:TypeId)(x y:Operand)(yt:TypeId):opW P ⟨d, .binOp op xt x y yt,t,p,e,g⟩ s H F=QJ (N8 P s H op xt x y) (atH F H):=propext Iff.rfl
theorem Jlw(op:UnOp)(xt:TypeId)(x:Operand):opW P ⟨d, .unOp op xt x,t,p,e,g⟩ s H F=QJ (unV op (QU s x)) (atH F H):=propext Iff.rfl
theorem JhZ(st dt:TypeId)(x:Operand):opW P ⟨d, .convert st dt x,t,p,e,g⟩ s H F=QJ (Bq P H st dt (QU s x)) (atH F H):=propext Iff.rfl
theorem NV(st:TypeId)(x:Operand)(f:Nat):opW P ⟨d, .fieldAddr st x f,t,p,e,g⟩ s H F=QJ (Yq P H st (QU s x) f) (atH F H):=propext Iff.rfl
theorem Jf0(st:TypeId)(x:Operand)(f:Nat):opW P ⟨d, .field st x f,t,p,e,g⟩ s H F=QJ (B4 P st (QU s x) f) (atH F H):=propext Iff.rfl
theorem NU(st:TypeId)(x i:Operand):opW P ⟨d, .indexAddr st x i,t,p,e,g⟩ s H F=QJ (Bo P H st (QU s x) (QU s i)) (atH F H):=propext Iff.rfl
theorem JfZ(st:TypeId)(x i:Operand):opW P ⟨d, .index st x i,t,p,e,g⟩ s H F=QJ (BT P st (QU s x) (QU s i)) (atH F H):=propext Iff.rfl
theorem JhY(st:TypeId)(x:Operand):opW P ⟨d, .load st x,t,p,e,g⟩ s H F=QJ (VW P H st (QU s x)) (atH F H):=propext Iff.rfl
theorem Ja9(x:Operand):opW P ⟨d, .nilCheck x,t,p,e,g⟩ s H F=QJ (Xz H (QU s x)) (atH F H):=propext Iff.rfl
def JdK(P:Program)(s:List AV)(H:Jm)(st:TypeId)(x:Operand)(lo hi mx:Option Operand):Option AV:=match V4 s lo,V4 s hi,V4 s mx with
    |some l,some h,some m=>UA P H st (QU s x) l h m
    |_,_,_=>none
theorem JfY(st:TypeId)(x:Operand)(lo hi mx:Option Operand):opW P ⟨d, .slice st x lo hi mx,t,p,e,g⟩ s H F=QJ (JdK P s H st x lo hi mx) (atH F H):=propext Iff.rfl
theorem Jj4(x:Operand)(xt:TypeId):opW P ⟨d, .call ⟨.builtin .len,#[x],#[xt]⟩,t,p,e,g⟩ s H F=QJ (Y8 P H xt (QU s x)) (atH F H):=propext Iff.rfl
theorem Jj2(x y:Operand)(ts:Array TypeId):opW P ⟨d, .call ⟨.builtin .min,#[x,y],ts⟩,t,p,e,g⟩ s H F=QJ (FP false (QU s x) (QU s y)) (atH F H):=propext Iff.rfl
theorem Jj3(x y:Operand)(ts:Array TypeId):opW P ⟨d, .call ⟨.builtin .max,#[x,y],ts⟩,t,p,e,g⟩ s H F=QJ (FP true (QU s x) (QU s y)) (atH F H):=propext Iff.rfl
def No(i:Nat):AV→Option AV
 | .tup vs=>vs[i]?
 |_=>none
theorem Jcw(x:Operand)(i:Nat):opW P ⟨d, .extract x i,t,p,e,g⟩ s H F=QJ (No i (QU s x)) (atH F H):=propext Iff.rfl
theorem Jba(f:FuncId)(fi ca:Array Operand):opW P ⟨d, .makeFunc (.func f) fi ca,t,p,e,g⟩ s H F=QJ (if fi.size=0 then(ca.toList.mapM (YI s)).map fun l=> .c (.fn f l)else none) (atH F H):=propext Iff.rfl
theorem Jh0(f:Operand)(xs:Array Operand)(ts:Array TypeId):opW P ⟨d, .call ⟨.value f,xs,ts⟩,t,p,e,g⟩ s H F=JY P ⟨d, .call ⟨.value f,xs,ts⟩,t,p,e,g⟩ ⟨s,H⟩ F:=by simp[opW,Vf,opM]
theorem JdW(x y:Operand)(u:TypeId):opW P ⟨d, .call ⟨.builtin .append,#[x,y],#[u,u]⟩,t,p,e,g⟩ s H F=J9 P H u (QU s x) (QU s y) F:=by simp[opW,Vf,opM]
theorem Jj5(bt:TypeId)(x:Operand):opW P ⟨d, .box bt x,t,p,e,g⟩ s H F=JiX H (QU s x) F:=propext Iff.rfl
theorem Jf2(bt:TypeId):opW P ⟨d, .alloc bt,t,p,e,g⟩ s H F=JbI P H bt F:=propext Iff.rfl
theorem JfX(bt:TypeId)(x y:Operand):opW P ⟨d, .store bt x y,t,p,e,g⟩ s H F=JaV P H bt (QU s x) (QU s y) F:=propext Iff.rfl
theorem GJ(bt:TypeId)(n:Nat)(ps:List (Nat×Operand)):opW P ⟨d, .buildSlice bt n ps.toArray,t,p,e,g⟩ s H F=Nu P s H bt n ps F:=propext Iff.rfl
theorem NT(bt:TypeId)(x y:Operand):opW P ⟨d, .makeSlice bt x y,t,p,e,g⟩ s H F=Jfa P H bt (QU s x) (QU s y) F:=propext Iff.rfl
theorem Jkt(n:Nat):QU s (.tmp n)=s.getD n .void:=rfl
theorem Jkv(k:IntKind)(n:Int):QU s (.const (.int k n))= .c (.f (.int k n)):=rfl
theorem JiH(b:Bool):QU s (.const (.bool b))= .c (.f (.bool b)):=rfl
theorem Jku:QU s (.const (.slice none 0 0))= .c (.f .nil):=rfl
theorem JlV(f:FuncId):QU s (.func f)= .c (.fn f []):=rfl
theorem JfT(n:Nat)(v:AV):QQ s (some n) v=s.set n v:=rfl
theorem JfU(v:AV):QQ s none v=s:=rfl
def KW(P:Program)(H:Jm)(op:BinOp)(t:TypeId)(x y:AV):Option AV:=
 match x,y with
 | .c (.f (.int k a)), .c (.f (.int k' b))=>(UC op k a k' b).map fun r=> .c (.f r)
 | .c (.f (.str a)), .c (.f (.str b))=>match op with
   | .add=>if a.size+b.size≤9223372036854775807 then some (.c (.f (.str (a++b))))else none
   | .eql=>some (.c (.f (.bool (a.toList==b.toList))))
   | .neq=>some (.c (.f (.bool (!(a.toList==b.toList)))))
   |_=>none
 | .c (.f (.bool a)), .c (.f (.bool b))=>match JS P t with
   |some ti=>match ti.k,op with
    | .bool, .eql=>some (.c (.f (.bool (a==b))))
    | .bool, .neq=>some (.c (.f (.bool (!(a==b)))))
    |_,_=>none
   |none=>none
 | .agg cs, .agg ds=>JkN P op t cs ds
 |vx,vy=>match JS P t,VX H vx,VX H vy with
  |some ti,some nx,some ny=>match ti.k,op with
   | .slice _, .eql=>if ny=true then some (.c (.f (.bool nx)))else if nx=true then some (.c (.f (.bool ny)))else none
   | .slice _, .neq=>if ny=true then some (.c (.f (.bool (!nx))))else if nx=true then some (.c (.f (.bool (!ny))))else none
   |_,_=>none
  |_,_,_=>none
theorem JkJ(op:BinOp)(xt:TypeId)(x y:Operand):N8 P s H op xt x y=KW P H op xt (QU s x) (QU s y):=rfl
theorem Jjf(op:BinOp)(xt:TypeId)(k k':IntKind)(a b:Int):KW P H op xt (.c (.f (.int k a))) (.c (.f (.int k' b)))=(UC op k a k' b).map fun r=> .c (.f r):=rfl
end
end Go.Lg

namespace Go.Lg
abbrev int (n:Int):AV:= .c (.f (.int .i64 n))
abbrev bool (b:Bool):AV:= .c (.f (.bool b))
abbrev str (b:ByteArray):AV:= .c (.f (.str b))
theorem Jis(H:Jm)(v r:AV):Uy H (isQ v) r=(r=v):=propext ⟨fun⟨_,_,h⟩=>h,fun h=>⟨[],fun _ _ h=>by simp at h,h⟩⟩
theorem JY.rd{P:Program}{o:Oper}{st:St}{K:AV→Jm→Prop}{fo:Operand}{xs:Array Operand}{ts:Array TypeId}{f:FuncId}{args args':List AV}{v:AV}{u:Value}
 (hc:JW P f args' v) (he:Jh P f) (ho:o.op= .call ⟨.value fo,xs,ts⟩) (ha:Qa st fo xs=some (f,args)) (hs:args.mapM (RK st.h)=some args')
 (hf:Kj v=some u) (hk:K v st.h):JY P o st K:=JY.callStill ho ha he hs hc hf hk
section
variable{P:Program}{ops r:Array Oper}{rl:List Oper}{s:List AV}{H:Jm}{K:KS}{Q:KT}{d:Option Tmp}{op:Op}{t:TypeId}{p:String}{e:Array Edge}{gd:Option (Nat×Bool)}{c x y:Code}{b w:Bool}
theorem Jgs:UP P ops ⟨d,op,t,p,e,gd⟩ rl s H K true (some true)=opW P ⟨d,op,t,p,e,gd⟩ s H (vwK P ops rl s d K):=by rw[XT,BV]
theorem Jgw:UP P ops ⟨d,op,t,p,e,gd⟩ rl s H K false (some false)=opW P ⟨d,op,t,p,e,gd⟩ s H (vwK P ops rl s d K):=by rw[XT,BY]
theorem Jgt:UP P ops ⟨d,op,t,p,e,gd⟩ rl s H K true (some false)=vw P ops rl (QQ s d .void) H K:=by rw[XT,BX]
theorem Jgv:UP P ops ⟨d,op,t,p,e,gd⟩ rl s H K false (some true)=vw P ops rl (QQ s d .void) H K:=by rw[XT,BW]
theorem Jgu:UP P ops ⟨d,op,t,p,e,gd⟩ rl s H K w none=vw P ops rl (QQ s d .void) H K:=by rw[XT,Kg]
theorem Jv(h1:b=true→UP P ops ⟨d,op,t,p,e,gd⟩ rl s H K w (some true))(h2:b=false→UP P ops ⟨d,op,t,p,e,gd⟩ rl s H K w (some false)):UP P ops ⟨d,op,t,p,e,gd⟩ rl s H K w (some b):=by
 cases b
 · exact h2 rfl
 · exact h1 rfl
theorem Jgn{G:KS}:UN P ops ⟨d,op,t,p,e,gd⟩ rl s H G true (some true)=QY P ops ⟨d,op,t,p,e,gd⟩ s H (qwK P ops rl s d H G):=by rw[XS,BV]
theorem Jgr{G:KS}:UN P ops ⟨d,op,t,p,e,gd⟩ rl s H G false (some false)=QY P ops ⟨d,op,t,p,e,gd⟩ s H (qwK P ops rl s d H G):=by rw[XS,BY]
theorem Jgo{G:KS}:UN P ops ⟨d,op,t,p,e,gd⟩ rl s H G true (some false)=qw P ops rl (QQ s d .void) H G:=by rw[XS,BX]
theorem Jgq{G:KS}:UN P ops ⟨d,op,t,p,e,gd⟩ rl s H G false (some true)=qw P ops rl (QQ s d .void) H G:=by rw[XS,BW]
theorem Jgp{G:KS}:UN P ops ⟨d,op,t,p,e,gd⟩ rl s H G w none=qw P ops rl (QQ s d .void) H G:=by rw[XS,Kg]
theorem Jw{G:KS}(h1:b=true→UN P ops ⟨d,op,t,p,e,gd⟩ rl s H G w (some true))(h2:b=false→UN P ops ⟨d,op,t,p,e,gd⟩ rl s H G w (some false)):UN P ops ⟨d,op,t,p,e,gd⟩ rl s H G w (some b):=by
 cases b
 · exact h2 rfl
 · exact h1 rfl
theorem Br:Kr P x y s H Q true=cw P x s H Q:=by rw[Jdd,JkC]
theorem Bs:Kr P x y s H Q false=cw P y s H Q:=by rw[Jdd,JkD]
theorem Wz(h1:b=true→Kr P x y s H Q true)(h2:b=false→Kr P x y s H Q false):Kr P x y s H Q b:=by
 cases b
 · exact h2 rfl
 · exact h1 rfl
end
section
theorem Ji9(k:IntKind)(a b:Int):UC .geq k a k b=some (.bool (decide (b≤a))):=by simp[UC]
theorem Ji7(k:IntKind)(a b:Int):UC .leq k a k b=some (.bool (decide (a≤b))):=by simp[UC]
theorem Ji6(k:IntKind)(a b:Int):UC .lss k a k b=some (.bool (decide (a<b))):=by simp[UC]
theorem Ji8(k:IntKind)(a b:Int):UC .gtr k a k b=some (.bool (decide (b<a))):=by simp[UC]
theorem Jja(k:IntKind)(a b:Int):UC .eql k a k b=some (.bool (decide (a=b))):=by
 have:(a==b)=decide (a=b):=by rw[Bool.eq_iff_iff];simp
 simp only[UC,if_true,this]
theorem Ji4(k:IntKind)(a b:Int):UC .neq k a k b=some (.bool (!decide (a=b))):=by
 have:(a==b)=decide (a=b):=by rw[Bool.eq_iff_iff];simp
 simp only[UC,if_true,bne,this]
theorem Jjc(k:IntKind)(a b:Int):UC .add k a k b=some (.int k (k.wrap (a+b))):=by simp[UC]
theorem Ji1(k:IntKind)(a b:Int):UC .sub k a k b=some (.int k (k.wrap (a -b))):=by simp[UC]
theorem Ji5(k:IntKind)(a b:Int):UC .mul k a k b=some (.int k (k.wrap (a*b))):=by simp[UC]
theorem Ji3(k:IntKind)(a b:Int):UC .quo k a k b=if b≠0 then some (.int k (k.wrap (a.tdiv b)))else none:=by simp[UC]
theorem Ji2(k:IntKind)(a b:Int):UC .rem k a k b=if b≠0 then some (.int k (a.tmod b))else none:=by simp[UC]
theorem Jjb(k:IntKind)(a b:Int):UC .and k a k b=some (.int k (Ug .and k a b)):=by simp[UC]
theorem JkK(k:IntKind)(a b:Int):UC .or k a k b=some (.int k (Ug .or k a b)):=by simp[UC]
theorem Ji0(k:IntKind)(a b:Int):UC .xor k a k b=some (.int k (Ug .xor k a b)):=by simp[UC]
theorem Jdp(k:IntKind)(a b:Int):UC .andNot k a k b=some (.int k (Ug .andNot k a b)):=by simp[UC]
theorem JjF(b:Bool):unV .not (bool b)=some (bool (!b)):=rfl
theorem JjG(k:IntKind)(n:Int):unV .neg (.c (.f (.int k n)))=some (.c (.f (.int k (k.wrap (0 -n))))):=rfl
theorem JhG(P:Program)(s:List AV)(H:Jm)(t:Nat):Yh P s H [.tmp t]=some (s.getD t .void):=rfl
theorem JhF(P:Program)(s:List AV)(H:Jm)(t u:Nat):Yh P s H [.tmp t, .tmp u]=some (.tup [s.getD t .void,s.getD u .void]):=rfl
theorem JdQ(P:Program)(s:List AV)(H:Jm)(t u v:Nat):Yh P s H [.tmp t, .tmp u, .tmp v]=some (.tup [s.getD t .void,s.getD u .void,s.getD v .void]):=rfl
theorem Jed{ops:Array Oper}{s:List AV}{j:Nat}:Ue ops s j=match(ops[j]?).bind (·.dst)with
 |none=>some none
 |some d=>match s[d]? with
  |none=>some none
  |some (.c (.f (.bool b)))=>some (some b)
  |some .void=>some none
  |_=>none:=rfl
end
def Fa:List AV→List AV→Prop
 |[],[]=>True
 |a::s,b::s'=>(b= .any∨a=b)∧Fa s s'
 |_,_=>False
theorem Fa.sle:∀{s s':List AV},Fa s s'→SLe s s'
 |[],[],_=>⟨rfl,fun i hi=>absurd hi (Nat.not_lt_zero _)⟩
 |a::s,b::s',h=>by
  obtain⟨h1,h2⟩:=h
  obtain⟨h3,h4⟩:=Fa.sle h2
  refine⟨by simp[h3],fun i hi=> ?_⟩
  cases i with
  |zero=>rcases h1 with h|h
         · exact .inl h
         · exact .inr (by simp[h])
  |succ i=>simpa using h4 i (by simpa using hi)
 |[],_::_,h=>h.elim
 |_::_,[],h=>h.elim
theorem Fa.refl:∀(s:List AV),Fa s s
 |[]=>trivial
 |_::s=>⟨.inr rfl,Fa.refl s⟩
theorem JjK:Fa [] []=True:=rfl
theorem JjL(a:AV)(s s':List AV):Fa (a::s) (.any::s')=Fa s s':=by simp[Fa]
theorem JhA(a:AV)(s s':List AV):Fa (a::s) (a::s')=Fa s s':=by simp[Fa]
theorem sle_c(a:AV)(x:CV)(s s':List AV):Fa (a::s) (.c x::s')=(a= .c x∧Fa s s'):=by simp[Fa]
inductive Sl where
 |a
 |k
 |p (v:AV)
def ZB:List Sl→List AV→List AV
 | .a::m,_::s=> .any::ZB m s
 | .k::m,x::s=>x::ZB m s
 | .p v::m,_::s=>v::ZB m s
 |_,_=>[]
theorem Jki(m:List Sl)(x:AV)(s:List AV):ZB (.a::m) (x::s)= .any::ZB m s:=rfl
theorem Jkh(m:List Sl)(x:AV)(s:List AV):ZB (.k::m) (x::s)=x::ZB m s:=rfl
theorem Jkg(v:AV)(m:List Sl)(x:AV)(s:List AV):ZB (.p v::m) (x::s)=v::ZB m s:=rfl
theorem Jga(s:List AV):ZB [] s=[]:=rfl
def Jff{α:Type}(ok:α→Prop)(S:α→List AV)(G:α→Jm)(Q:KT):KT:=fun e s H=>match e with
 | .normal=>∃a,ok a∧Fa s (S a)∧J0 H (G a)
 |e=>Q e s H
section
variable{α:Type}{ok:α→Prop}{S:α→List AV}{G:α→Jm}{Q:KT}{s:List AV}{H:Jm}
theorem Jbd:Jff ok S G Q .normal s H=∃a,ok a∧Fa s (S a)∧J0 H (G a):=propext Iff.rfl
theorem Jd1(i:Nat):Jff ok S G Q (.exit i) s H=Q (.exit i) s H:=propext Iff.rfl
theorem Jgd:Jff ok S G Q .ret s H=Q .ret s H:=propext Iff.rfl
end
theorem JT{P:Program}{c:Code}{s:List AV}{H:Jm}{Q:KT}{α:Type}(μ:α→Nat)(ok:α→Prop)(M:α→List Sl)(G:α→Jm)(a0:α)(h0:ok a0)(hs:Fa s (ZB (M a0) s))(hh:J0 H (G a0))
 (step:∀a,ok a→cw P c (ZB (M a) s) (G a) (Jff (fun b=>ok b∧μ b<μ a) (fun b=>ZB (M b) s) G Q)):QE P (.loop c) ⟨s,H⟩ (stK Q):=by
 refine QE.weaken (st':=⟨ZB (M a0) s,G a0⟩) hs.sle hh ?_
 refine QE.loop (fun n st=>∃a,ok a∧μ a=n∧st=⟨ZB (M a) s,G a⟩) ?_ ⟨a0,h0,rfl,rfl⟩
 rintro n st ⟨a,ha,rfl,rfl⟩
 refine(Ua _ _ _ _ (step a ha)).mono fun e st hq=> ?_
 cases e with
 |normal=>
  obtain⟨b,⟨hb,hlt⟩,hs',hh'⟩:=hq
  exact⟨μ b,⟨ZB (M b) s,G b⟩,hlt,hs'.sle,hh',b,hb,rfl,rfl⟩
 |exit id=>exact hq
 |goto l=>exact hq
 |ret=>exact hq
 |panic c=>exact hq
 |outgrown=>exact hq
def Jbf{α β:Type}(ok:α→β→Prop)(S:α→β→List AV)(G:α→β→Jm)(Q:KT):KT:=fun e s H=>match e with
 | .normal=>∃a b,ok a b∧Fa s (S a b)∧J0 H (G a b)
 |e=>Q e s H
def Jbe{α β γ:Type}(ok:α→β→γ→Prop)(S:α→β→γ→List AV)(G:α→β→γ→Jm)(Q:KT):KT:=fun e s H=>match e with
 | .normal=>∃a b c,ok a b c∧Fa s (S a b c)∧J0 H (G a b c)
 |e=>Q e s H
section
variable{α β γ:Type}{Q:KT}{s:List AV}{H:Jm}
theorem NY{ok:α→β→Prop}{S:α→β→List AV}{G:α→β→Jm}:Jbf ok S G Q .normal s H=∃a b,ok a b∧Fa s (S a b)∧J0 H (G a b):=propext Iff.rfl
theorem JcH{ok:α→β→Prop}{S:α→β→List AV}{G:α→β→Jm}(i:Nat):Jbf ok S G Q (.exit i) s H=Q (.exit i) s H:=propext Iff.rfl
theorem Jd3{ok:α→β→Prop}{S:α→β→List AV}{G:α→β→Jm}:Jbf ok S G Q .ret s H=Q .ret s H:=propext Iff.rfl
theorem NX{ok:α→β→γ→Prop}{S:α→β→γ→List AV}{G:α→β→γ→Jm}:Jbe ok S G Q .normal s H=∃a b c,ok a b c∧Fa s (S a b c)∧J0 H (G a b c):=propext Iff.rfl
theorem JcG{ok:α→β→γ→Prop}{S:α→β→γ→List AV}{G:α→β→γ→Jm}(i:Nat):Jbe ok S G Q (.exit i) s H=Q (.exit i) s H:=propext Iff.rfl
theorem Jd2{ok:α→β→γ→Prop}{S:α→β→γ→List AV}{G:α→β→γ→Jm}:Jbe ok S G Q .ret s H=Q .ret s H:=propext Iff.rfl
end
theorem Qv{P:Program}{c:Code}{s:List AV}{H:Jm}{Q:KT}{α β:Type}(μ:α→β→Nat)(ok:α→β→Prop)(M:α→β→List Sl)(G:α→β→Jm)(a0:α)(b0:β)(h0:ok a0 b0)(hs:Fa s (ZB (M a0 b0) s))(hh:J0 H (G a0 b0))
 (step:∀a b,ok a b→cw P c (ZB (M a b) s) (G a b) (Jbf (fun a' b'=>ok a' b'∧μ a' b'<μ a b) (fun a' b'=>ZB (M a' b') s) G Q)):QE P (.loop c) ⟨s,H⟩ (stK Q):=by
 refine QE.weaken (st':=⟨ZB (M a0 b0) s,G a0 b0⟩) hs.sle hh ?_
 refine QE.loop (fun n st=>∃a b,ok a b∧μ a b=n∧st=⟨ZB (M a b) s,G a b⟩) ?_ ⟨a0,b0,h0,rfl,rfl⟩
 rintro n st ⟨a,b,ha,rfl,rfl⟩
 refine(Ua _ _ _ _ (step a b ha)).mono fun e st hq=> ?_
 cases e with
 |normal=>
  obtain⟨a',b',⟨hb,hlt⟩,hs',hh'⟩:=hq
  exact⟨μ a' b',⟨ZB (M a' b') s,G a' b'⟩,hlt,hs'.sle,hh',a',b',hb,rfl,rfl⟩
 |exit id=>exact hq
 |goto l=>exact hq
 |ret=>exact hq
 |panic c=>exact hq
 |outgrown=>exact hq
theorem Xb{P:Program}{c:Code}{s:List AV}{H:Jm}{Q:KT}{α β γ:Type}(μ:α→β→γ→Nat)(ok:α→β→γ→Prop)(M:α→β→γ→List Sl)(G:α→β→γ→Jm)(a0:α)(b0:β)(c0:γ)(h0:ok a0 b0 c0)(hs:Fa s (ZB (M a0 b0 c0) s))(hh:J0 H (G a0 b0 c0))
 (step:∀a b d,ok a b d→cw P c (ZB (M a b d) s) (G a b d) (Jbe (fun a' b' c'=>ok a' b' c'∧μ a' b' c'<μ a b d) (fun a' b' c'=>ZB (M a' b' c') s) G Q)):QE P (.loop c) ⟨s,H⟩ (stK Q):=by
 refine QE.weaken (st':=⟨ZB (M a0 b0 c0) s,G a0 b0 c0⟩) hs.sle hh ?_
 refine QE.loop (fun n st=>∃a b d,ok a b d∧μ a b d=n∧st=⟨ZB (M a b d) s,G a b d⟩) ?_ ⟨a0,b0,c0,h0,rfl,rfl⟩
 rintro n st ⟨a,b,d,ha,rfl,rfl⟩
 refine(Ua _ _ _ _ (step a b d ha)).mono fun e st hq=> ?_
 cases e with
 |normal=>
  obtain⟨a',b',d',⟨hb,hlt⟩,hs',hh'⟩:=hq
  exact⟨μ a' b' d',⟨ZB (M a' b' d') s,G a' b' d'⟩,hlt,hs'.sle,hh',a',b',d',hb,rfl,rfl⟩
 |exit id=>exact hq
 |goto l=>exact hq
 |ret=>exact hq
 |panic c=>exact hq
 |outgrown=>exact hq
theorem ZU{g sz:Nat}{cs cs':List CV}{H H':Jm}(h:cs=cs')(hh:J0 H H'):J0 (some ⟨g,sz,cs⟩::H) (some ⟨g,sz,cs'⟩::H'):=fun id b hb=>by
 subst h
 cases id with
 |zero=>exact hb
 |succ id=>exact hh id b hb
theorem JcV(x:Option Zv)(H H':Jm)(h:J0 H H'):J0 (x::H) (x::H'):=fun id b hb=>by
 cases id with
 |zero=>exact hb
 |succ id=>exact h id b hb
theorem Qt(H:Jm):J0 H []:=fun id b hb=>by simp at hb
theorem Bk(x:Option Zv)(H H':Jm)(h:J0 H H'):J0 (x::H) (none::H'):=fun id b hb=>by
 cases id with
 |zero=>simp at hb
 |succ id=>exact h id b hb
theorem B6{n:Int}(h1: -9223372036854775808≤n)(h2:n≤9223372036854775807):IntKind.i64.wrap n=n:=IntWalk.i64_in _ (by omega)
def Fu(H:Jm)(p:CV):Option AV:=match Uf H p 1 with
 |some [c]=>some (.c c)
 |_=>none
theorem Jip(P:Program)(H:Jm)(t:TypeId)(p:CV):VW P H t (.c p)=match JS P t with
 |some i=>(match Rv i.k with
  |true=>(Uf H p i.size).map .agg
  |false=>Fu H p)
 |none=>none:=by
 unfold VW
 cases JS P t<;>rfl
theorem JcL{H:Jm}{l:List FV}{off:Nat}:Fu H (.fp l off)=(l[off]?).map fun x=> .c (.f x):=by
 simp only[Fu,Uf]
 by_cases h:off<l.length
 · rw[if_pos (by omega),List.getElem?_eq_getElem h]
   have:(l.drop off).take 1=[l[off]]:=by
    rw[List.drop_eq_getElem_cons h];rfl
   simp[this]
 · rw[if_neg (by omega),List.getElem?_eq_none (by omega)]
   rfl
section
variable{P:Program}{ops:Array Oper}{s:List AV}{H:Jm}{F:AV→Prop}{d:Option Tmp}{t:TypeId}{p:String}{e:Array Edge}{g:Option (Nat×Bool)}
theorem JjU(x:Operand):QY P ops ⟨d, .move x,t,p,e,g⟩ s H F=F (QU s x):=by simp[QY,Vf,XG,QJ]
theorem JfR(x:Operand):QY P ops ⟨d, .assign x,t,p,e,g⟩ s H F=F (QU s x):=by simp[QY,Vf,XG,QJ]
theorem JjT(c x y:Operand):QY P ops ⟨d, .pick c x y,t,p,e,g⟩ s H F=QJ (Bu (QU s c)) (Jct s H x y fun v _=>F v):=by simp only[QY,Vf,if_true,Jcx,B7];rfl
theorem Jlq(op:BinOp)(xt:TypeId)(x y:Operand)(yt:TypeId):QY P ops ⟨d, .binOp op xt x y yt,t,p,e,g⟩ s H F=QJ (N8 P s H op xt x y) F:=propext Iff.rfl
theorem qW_un(op:UnOp)(xt:TypeId)(x:Operand):QY P ops ⟨d, .unOp op xt x,t,p,e,g⟩ s H F=QJ (unV op (QU s x)) F:=propext Iff.rfl
theorem JjW(st dt:TypeId)(x:Operand):QY P ops ⟨d, .convert st dt x,t,p,e,g⟩ s H F=QJ (Bq P H st dt (QU s x)) F:=propext Iff.rfl
theorem Ja6(st:TypeId)(x:Operand)(f:Nat):QY P ops ⟨d, .fieldAddr st x f,t,p,e,g⟩ s H F=QJ (Yq P H st (QU s x) f) F:=propext Iff.rfl
theorem JhM(st:TypeId)(x:Operand)(f:Nat):QY P ops ⟨d, .field st x f,t,p,e,g⟩ s H F=QJ (B4 P st (QU s x) f) F:=propext Iff.rfl
theorem Ja5(st:TypeId)(x i:Operand):QY P ops ⟨d, .indexAddr st x i,t,p,e,g⟩ s H F=QJ (Bo P H st (QU s x) (QU s i)) F:=propext Iff.rfl
theorem JhL(st:TypeId)(x i:Operand):QY P ops ⟨d, .index st x i,t,p,e,g⟩ s H F=QJ (BT P st (QU s x) (QU s i)) F:=propext Iff.rfl
theorem JjV(st:TypeId)(x:Operand):QY P ops ⟨d, .load st x,t,p,e,g⟩ s H F=QJ (VW P H st (QU s x)) F:=propext Iff.rfl
theorem Jco(x:Operand):QY P ops ⟨d, .nilCheck x,t,p,e,g⟩ s H F=QJ (Xz H (QU s x)) F:=propext Iff.rfl
theorem JhK(st:TypeId)(x:Operand)(lo hi mx:Option Operand):QY P ops ⟨d, .slice st x lo hi mx,t,p,e,g⟩ s H F=QJ (JdK P s H st x lo hi mx) F:=propext Iff.rfl
theorem Jlp(x:Operand)(xt:TypeId):QY P ops ⟨d, .call ⟨.builtin .len,#[x],#[xt]⟩,t,p,e,g⟩ s H F=QJ (Y8 P H xt (QU s x)) F:=propext Iff.rfl
theorem Jln(x y:Operand)(ts:Array TypeId):QY P ops ⟨d, .call ⟨.builtin .min,#[x,y],ts⟩,t,p,e,g⟩ s H F=QJ (FP false (QU s x) (QU s y)) F:=propext Iff.rfl
theorem Jlo(x y:Operand)(ts:Array TypeId):QY P ops ⟨d, .call ⟨.builtin .max,#[x,y],ts⟩,t,p,e,g⟩ s H F=QJ (FP true (QU s x) (QU s y)) F:=propext Iff.rfl
theorem JdS(x:Operand)(i:Nat):QY P ops ⟨d, .extract x i,t,p,e,g⟩ s H F=QJ (No i (QU s x)) F:=propext Iff.rfl
end
theorem JhN{P:Program}{ops:Array Oper}{s:List AV}{H:Jm}{F:AV→Prop}{d:Option Tmp}{t:TypeId}{p:String}{e:Array Edge}{g:Option (Nat×Bool)}(bt:TypeId)(n:Nat)(ps:List (Nat×Operand)):
 QY P ops ⟨d, .buildSlice bt n ps.toArray,t,p,e,g⟩ s H F=UD P s bt n ps F:=propext Iff.rfl
theorem QY.rd{P:Program}{ops:Array Oper}{o:Oper}{s:List AV}{H:Jm}{F:AV→Prop}{fo:Operand}{xs:Array Operand}{ts:Array TypeId}{f:FuncId}{args args':List AV}{v:AV}{u:Value}
 (hc:JW P f args' v) (he:Jh P f) (ho:o.op= .call ⟨.value fo,xs,ts⟩) (ha:Qa ⟨s,H⟩ fo xs=some (f,args)) (hs:args.mapM (RK H)=some args')
 (hf:Kj v=some u) (hk:F v):QY P ops o s H F:=by
 unfold QY
 rw[ho]
 exact⟨v,Vl.flat hc he ho ha hs hf,hk⟩
theorem QY.mk{P:Program}{ops:Array Oper}{o:Oper}{s:List AV}{H:Jm}{F:AV→Prop}{fo:Operand}{xs:Array Operand}{ts:Array TypeId}{f:FuncId}{args:List AV}{v:AV}
 (hc:JW P f args v) (he:Jh P f) (ho:o.op= .call ⟨.value fo,xs,ts⟩) (ha:Qa ⟨s,H⟩ fo xs=some (f,args)) (hz:args.all Q0=true)
 (hf:F3 v=true) (hv:VZ [] v=some v) (hk:F v):QY P ops o s H F:=by
 unfold QY
 rw[ho]
 have hca:∃f',QU s fo= .c (.fn f' [])∧f'=f∧args=xs.toList.map (QU s):=by
  unfold Qa at ha
  split at ha
  · rename_i f' e;cases ha;exact⟨_,e,rfl,rfl⟩
  · cases ha
 obtain⟨f',e1,hff,e2⟩:=hca
 subst hff
 refine⟨v,Vl.ops (fun x hx=> ?_) hf (fun s' hs'=> ?_),hk⟩
 · rw[ho]at hx
   simp only[Op.operands,Call.operands,Array.mem_append]at hx
   rcases hx with hx|hx
   · have:x=fo:=by simpa using hx
     subst this
     rw[e1];rfl
   · exact List.all_eq_true.1 hz _ (by rw[e2];exact List.mem_map.2 ⟨x,by simpa using hx,rfl⟩)
 · have ha':Qa ⟨s',[]⟩ fo xs=some (f',args):=by
    rw[V3 (s:=s) (H:=H) ts fun x hx=>hs' x (by rw[ho];exact hx)];exact ha
   obtain⟨h1,h2⟩:=WY ha'
   refine JY.call ho h1 he ?_
   rw[h2]
   refine Jn.weaker (Q':=fun r H'=>VZ H' r=some v) hc fun r H' hr=>⟨[],fun _ _ h=>by simp at h, ?_⟩
   rw[show r=v from hr];exact hv
theorem Y5{n:Int}(h: -9223372036854775808≤n∧n≤9223372036854775807):IntKind.i64.wrap n=n:=B6 h.1 h.2
theorem ok_u8{n:Int}(h:0≤n∧n≤255):IntKind.u8.wrap n=n:=by simp only[IntKind.wrap];simp[IntKind.bits,IntKind.signed];omega
attribute [go_sem] Jl2 JgP Jek Jl3 JkB JiI JkA Jky Jkz Jca JfM JhC N7 Jet Jeu Br Bs
 JjD Jhm Jlb Jlc Jgs Jgw Jgt Jgv Jgu JhX JdV Jj6 JhW Jh0 NU JfZ JhY Jj4 Jlw JhZ NV Jf0 Ja9 JfY Jj2 Jj3 Jcw Jba
 JjS JhJ Jll Jlm Jgn Jgr Jgo Jgq Jgp
 JjU JfR JjT Jlq qW_un JjW Ja6 JhM Ja5 JhL JjV Jco JhK Jlp Jln Jlo JdS JhN UD Xq
 JdW Jj5 Jf2 JfX GJ NT JfT JfU List.set_cons_zero List.set_cons_succ Jkt Jkv JiH JlV Jku List.getD_cons_zero List.getD_cons_succ
 JkI Jev Jg0 B7 JiM JkJ Jjf Ji9 Ji7 Ji6 Ji8 Jja Ji4 Jjc Ji1 Ji5 Ji3 Ji2 Jjb JkK Ji0 Jdp
 Option.map_some Jl7 Jed JhS List.getElem?_toArray List.getElem?_cons_zero List.getElem?_cons_succ Option.bind_some JgO Jbx JhG JhF JdQ JjF JjG Jbd Jd1 Jgd NY JcH Jd3 NX JcG Jd2 JjK JjL JhA sle_c
 Jki Jkh Jkg Jga Jis Y5 ok_u8 Jh2 Jly Jip Bo Y8 Rv AV.c.injEq CV.f.injEq FV.int.injEq FV.bool.injEq true_and and_true if_true Bool.false_eq_true if_false
theorem nif_t{α:Sort _}{a b:Nat}{x y:α}(h:a=b):(if a=b then x else y)=x:=if_pos h
theorem nif_f{α:Sort _}{a b:Nat}{x y:α}(h:a≠b):(if a=b then x else y)=y:=if_neg h
theorem lif_t{α:Sort _}{a b:Nat}{x y:α}(h:a<b):(if a<b then x else y)=x:=if_pos h
theorem lif_f{α:Sort _}{a b:Nat}{x y:α}(h:¬a<b):(if a<b then x else y)=y:=if_neg h
attribute [go_sem] nif_t nif_f lif_t lif_f CV.own.injEq CV.ptr.injEq
attribute [go_sem↓] JjZ Jj0
end Go.Lg
