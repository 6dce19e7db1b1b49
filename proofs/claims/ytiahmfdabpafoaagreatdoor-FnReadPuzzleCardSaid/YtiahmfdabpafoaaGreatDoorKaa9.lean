/- LgN2, cut to what is needed. -/
import Derived.Test.YtiahmfdabpafoaaGreatDoorKaa8
open Nat renaming reduceAdd→zA,reduceMul→zM,reduceSub→zS,reduceEqDiff→zE,reduceLeDiff→zL
set_option linter.unusedSimpArgs false
set_option linter.unusedVariables false
namespace Go.Lg
def YT:AV→Option Bool
 | .c (.f (.bool b))=>some b
 |_=>none
theorem Jbp{v:AV}{b:Bool}(h:YT v=some b):v= .c (.f (.bool b)):=by
 unfold YT at h
 split at h
 · cases h;rfl
 · cases h
def Bn(b:Bool)(A B:Prop):Prop:=(b=true→A)∧(b=false→B)
abbrev KT:=Exit→List AV→Ji→Prop
def nrm(K:KS)(e:Exit)(st:St):Prop:=match e with
 | .normal=>K st.s st.h
 |_=>False
def Bk(P:Program)(ops:Array Oper)(s:List AV)(H:Ji)(K:KS):Prop:=
 P.follows .mixedOrders=true∧((Fd ops=true∧qw P ops ops.toList s H K)∨(∃π F D σ m,U9 ops π F D σ=true∧lw P ops m F D π none s H fun s H=>sw P ops σ s H K)∨∀id,QM P (.region id ops true) ⟨s,H⟩ (nrm K))
theorem Q7{P:Program}{ops:Array Oper}{s:List AV}{H:Ji}{K:KS}(hm:P.follows .mixedOrders=true)(hB:Fd ops=true)(h:qw P ops ops.toList s H K):Bk P ops s H K:=⟨hm, .inl ⟨hB,h⟩⟩
theorem JgU{P:Program}{ops:Array Oper}{s:List AV}{H:Ji}{K:KS}(π:List Nat)(F:List Nat)(D:Option Nat)(σ:List Nat)(m:List Bool)(hm:P.follows .mixedOrders=true)(hB:U9 ops π F D σ=true)(h:lw P ops m F D π none s H (swK P ops σ K)):Bk P ops s H K:=
 ⟨hm, .inr (.inl ⟨π,F,D,σ,m,hB,h⟩)⟩
theorem Jac{P:Program}{id:Nat}{ops:Array Oper}{s:List AV}{H:Ji}{Q:Exit→St→Prop}(h:Bk P ops s H fun s H=>Q .normal ⟨s,H⟩):QM P (.region id ops true) ⟨s,H⟩ Q:=by
 obtain⟨hm,⟨hB,h⟩|⟨π,F,D,σ,m,hB,h⟩|h⟩:=h
 · exact QM.regionF hm hB (Yw _ _ _ _ h)
 · exact QM.regionL π F D σ m hm hB h
 · exact(h id).mono fun e st hq=>by
    cases e with
    |normal=>exact hq
    |_=>exact hq.elim
def cw(P:Program):Code→List AV→Ji→KT→Prop
 | .skip,s,H,K=>K .normal s H
 | .exit id,s,H,K=>K (.exit id) s H
 | .ret,s,H,K=>K .ret s H
 | .region _ ops false,s,H,K=>vw P ops ops.toList s H (K .normal)
 | .region _ ops true,s,H,K=>Bk P ops s H (K .normal)
 | .seq x y,s,H,K=>cw P x s H fun e s' H'=>match e with
   | .normal=>cw P y s' H' K
   |e=>K e s' H'
 | .cond c x y,s,H,K=>Qx (YT (QH s c)) fun b=>Bn b (cw P x s H K) (cw P y s H K)
 | .block id c,s,H,K=>cw P c s H fun e s' H'=>match e with
   | .exit id'=>if id'=id then K .normal s' H' else K (.exit id') s' H'
   |e=>K e s' H'
 |c,s,H,K=>QM P c ⟨s,H⟩ fun e st=>K e st.s st.h
def Jgf(P:Program)(y:Code)(K:KT):KT:=fun e s' H'=>match e with
    | .normal=>cw P y s' H' K
    |e=>K e s' H'
def W9(P:Program)(x y:Code)(s:List AV)(H:Ji)(K:KT):Bool→Prop:=fun b=>Bn b (cw P x s H K) (cw P y s H K)
def Bs(id:Nat)(K:KT):KT:=fun e s' H'=>match e with
    | .exit id'=>if id'=id then K .normal s' H' else K (.exit id') s' H'
    |e=>K e s' H'
def stK(K:KT):Exit→St→Prop:=fun e st=>K e st.s st.h
theorem ZU{P:Program}:∀(c:Code) (s:List AV) (H:Ji) (K:KT),cw P c s H K→QM P c ⟨s,H⟩ (stK K)
 | .skip,s,H,K,h=>QM.skip h
 | .exit id,s,H,K,h=>QM.exit h
 | .ret,s,H,K,h=>QM.ret h
 | .region _ ops false,s,H,K,h=>QM.region (WS _ _ _ _ h)
 | .region _ ops true,s,H,K,h=>Jac h
 | .seq x y,s,H,K,h=>QM.seq ((ZU x s H _ h).mono fun e st hq=>by
    cases e with
    |normal=>exact ZU y _ _ K hq
    |exit id=>exact hq
    |goto l=>exact hq
    |ret=>exact hq
    |panic c=>exact hq
    |outgrown=>exact hq)
 | .cond c x y,s,H,K,h=>by
   obtain⟨b,h1,h2,h3⟩:=h
   exact QM.cond (Jbp h1) (fun hb=>ZU x s H K (h2 hb)) (fun hb=>ZU y s H K (h3 hb))
 | .block id c,s,H,K,h=>QM.block ((ZU c s H _ h).mono fun e st hq=>by
    cases e with
    |exit id'=>exact hq
    |normal=>exact hq
    |goto l=>exact hq
    |ret=>exact hq
    |panic c=>exact hq
    |outgrown=>exact hq)
 | .loop _,s,H,K,h=>h
 | .rangeFunc _ _ _ _,s,H,K,h=>h
 | .scope _,s,H,K,h=>h
 | .label _,s,H,K,h=>h
 | .goto _,s,H,K,h=>h
 | .refuse _,s,H,K,h=>h
def FL(P:Program)(rs:List ResultVar)(Q:KV):KT:=fun e s H=>(e= .normal∨e= .ret)∧Qx (WP P s H rs) fun v=>∃H',Qc H H'∧Q v H'
def Wa(H:Ji)(Q:KV):AV→Prop:=fun v=>∃H',Qc H H'∧Q v H'
theorem Jq.cw{P:Program}{f:FuncId}{fn:Func}{c:Code}{args:List AV}{H:Ji}{Q:KV}(hf:P.funcs[f]? =some fn)(hb:fn.body=some c){n:Nat}(hn:fn.ntmps=n){rs:List ResultVar}(hr:fn.results.toList=rs)
 (h:Lg.cw P c (args++List.replicate (n -args.length) .void) H (FL P rs Q)):Jq P f args H Q:=by
 subst hn hr
 exact Jq.of_body hf hb ((ZU _ _ _ _ h).mono fun e st ⟨h1,v,h2,H',h3,h4⟩=>⟨h1,v,H',h2,h3,h4⟩)
section
variable{P:Program}{ops:Array Oper}{s:List AV}{H:Ji}{K:KS}{Q:KT}{F:KV}
theorem JgW:cw P .skip s H Q=Q .normal s H:=propext Iff.rfl
theorem JgY(i:Nat):cw P (.exit i) s H Q=Q (.exit i) s H:=propext Iff.rfl
theorem Jh6:cw P .ret s H Q=Q .ret s H:=propext Iff.rfl
theorem Jds(i:Nat)(l:List Oper):cw P (.region i l.toArray false) s H Q=vw P l.toArray l s H (Q .normal):=propext Iff.rfl
theorem Jbi(i:Nat)(l:List Oper):cw P (.region i l.toArray true) s H Q=Bk P l.toArray s H (Q .normal):=propext Iff.rfl
theorem Jh5(x y:Code):cw P (.seq x y) s H Q=cw P x s H (Jgf P y Q):=propext Iff.rfl
theorem JgZ(c:Operand)(x y:Code):cw P (.cond c x y) s H Q=Qx (YT (QH s c)) (W9 P x y s H Q):=propext Iff.rfl
theorem Jfd(i:Nat)(c:Code):cw P (.block i c) s H Q=cw P c s H (Bs i Q):=propext Iff.rfl
theorem JgX(c:Code):cw P (.loop c) s H Q=QM P (.loop c) ⟨s,H⟩ (stK Q):=propext Iff.rfl
theorem Jae(x y:Code)(b:Bool):W9 P x y s H Q b=Bn b (cw P x s H Q) (cw P y s H Q):=propext Iff.rfl
theorem Nd(y:Code):Jgf P y Q .normal s H=cw P y s H Q:=propext Iff.rfl
theorem Jcu(y:Code)(i:Nat):Jgf P y Q (.exit i) s H=Q (.exit i) s H:=propext Iff.rfl
theorem Jd3(y:Code):Jgf P y Q .ret s H=Q .ret s H:=propext Iff.rfl
theorem BY(i:Nat):Bs i Q .normal s H=Q .normal s H:=propext Iff.rfl
theorem Jbq(i:Nat):Bs i Q .ret s H=Q .ret s H:=propext Iff.rfl
theorem Jbr(i:Nat):Bs i Q (.exit i) s H=Q .normal s H:=by simp[Bs]
theorem Jdq(rs:List ResultVar):FL P rs F .ret s H=Qx (WP P s H rs) (Wa H F):=by simp only[FL,reduceCtorEq,true_or,or_true,true_and];rfl
theorem GB(rs:List ResultVar):FL P rs F .normal s H=Qx (WP P s H rs) (Wa H F):=by simp only[FL,reduceCtorEq,true_or,or_true,true_and];rfl
theorem Jhm:vw P ops [] s H K=K s H:=by rw[vw]
theorem Jf4(d:Option Tmp)(op:Op)(t:TypeId)(p:String)(e:Array Edge)(r:List Oper):
 vw P ops (⟨d,op,t,p,e,none⟩::r) s H K=Va P ⟨d,op,t,p,e,none⟩ s H (vwK P ops r s d K):=by rw[vw];rfl
theorem JdR(d:Option Tmp)(op:Op)(t:TypeId)(p:String)(e:Array Edge)(j:Nat)(want:Bool)(r:List Oper):
 vw P ops (⟨d,op,t,p,e,some (j,want)⟩::r) s H K=Qx (Zh ops s j) (ZQ P ops ⟨d,op,t,p,e,some (j,want)⟩ r s H K want):=by rw[vw];rfl
theorem Jhn(r:List Oper)(d:Option Tmp)(v:AV)(H':Ji):vwK P ops r s d K v H'=vw P ops r (QG s d v) H' K:=propext Iff.rfl
theorem We(d:Option Tmp)(op:Op)(t:TypeId)(p:String)(e:Array Edge)(gd:Option (Nat×Bool))(r:List Oper)(want:Bool)(g:Option Bool):
 ZQ P ops ⟨d,op,t,p,e,gd⟩ r s H K want g=ZP g want (Va P ⟨d,op,t,p,e,gd⟩ s H (vwK P ops r s d K)) (vw P ops r (QG s d .void) H K):=propext Iff.rfl
theorem Jhv:qw P ops [] s H K=K s H:=by rw[qw]
theorem Jgi(d:Option Tmp)(op:Op)(t:TypeId)(p:String)(e:Array Edge)(r:List Oper):
 qw P ops (⟨d,op,t,p,e,none⟩::r) s H K=QI P ops ⟨d,op,t,p,e,none⟩ s H (qwK P ops r s d H K):=by rw[qw];rfl
theorem Jeg(d:Option Tmp)(op:Op)(t:TypeId)(p:String)(e:Array Edge)(j:Nat)(want:Bool)(r:List Oper):
 qw P ops (⟨d,op,t,p,e,some (j,want)⟩::r) s H K=Qx (Zh ops s j) (ZO P ops ⟨d,op,t,p,e,some (j,want)⟩ r s H K want):=by rw[qw];rfl
theorem Jhw(r:List Oper)(d:Option Tmp)(v:AV):qwK P ops r s d H K v=qw P ops r (QG s d v) H K:=propext Iff.rfl
theorem Wd(d:Option Tmp)(op:Op)(t:TypeId)(p:String)(e:Array Edge)(gd:Option (Nat×Bool))(r:List Oper)(want:Bool)(g:Option Bool):
 ZO P ops ⟨d,op,t,p,e,gd⟩ r s H K want g=ZP g want (QI P ops ⟨d,op,t,p,e,gd⟩ s H (qwK P ops r s d H K)) (qw P ops r (QG s d .void) H K):=propext Iff.rfl
theorem Kq(A B:Prop):ZP (some true) true A B=A:=by simp[ZP]
theorem Kt(A B:Prop):ZP (some false) false A B=A:=by simp[ZP]
theorem Kr(A B:Prop):ZP (some true) false A B=B:=by simp[ZP]
theorem Ks(A B:Prop):ZP (some false) true A B=B:=by simp[ZP]
theorem W6(w:Bool)(A B:Prop):ZP none w A B=B:=by simp[ZP]
theorem Jg0(A B:Prop):Bn true A B=A:=by simp[Bn]
theorem Jg1(A B:Prop):Bn false A B=B:=by simp[Bn]
theorem Jg4(b:Bool):YT (.c (.f (.bool b)))=some b:=rfl
variable{d:Option Tmp}{t:TypeId}{p:String}{e:Array Edge}{g:Option (Nat×Bool)}
def Nu(s:List AV)(H:Ji)(x y:Operand)(F:KV):Bool→Prop:=fun b=>F (if b then QH s x else QH s y) H
theorem Jgo(x y:Operand):Nu s H x y F true=F (QH s x) H:=propext Iff.rfl
theorem Jgp(x y:Operand):Nu s H x y F false=F (QH s y) H:=propext Iff.rfl
theorem Jen(x y:Operand)(b:Bool):Nu s H x y F b=F (if b then QH s x else QH s y) H:=propext Iff.rfl
theorem Jeq(x:Operand):Va P ⟨d, .move x,t,p,e,g⟩ s H F=F (QH s x) H:=by simp[Va,UA,WQ,Qx,FO]
theorem JaT(x:Operand):Va P ⟨d, .assign x,t,p,e,g⟩ s H F=F (QH s x) H:=by simp[Va,UA,WQ,Qx,FO]
theorem Nx(c x y:Operand):WQ P s H (.pick c x y)=(YT (QH s c)).map fun b=>if b then QH s x else QH s y:=by
 simp only[WQ,YT]
 cases QH s c with
 |c x=>cases x with
  |f y=>cases y<;>rfl
  |_=>rfl
 |_=>rfl
theorem Jep(c x y:Operand):Va P ⟨d, .pick c x y,t,p,e,g⟩ s H F=Qx (YT (QH s c)) (Nu s H x y F):=by
 simp only[Va,UA,if_true,Nx,KA];rfl
theorem Jgw(op:BinOp)(xt:TypeId)(x y:Operand)(yt:TypeId):Va P ⟨d, .binOp op xt x y yt,t,p,e,g⟩ s H F=Qx (BZ P s H op xt x y) (FO F H):=propext Iff.rfl
theorem JhE(op:UnOp)(xt:TypeId)(x:Operand):Va P ⟨d, .unOp op xt x,t,p,e,g⟩ s H F=Qx (unV op (QH s x)) (FO F H):=propext Iff.rfl
theorem Jes(st dt:TypeId)(x:Operand):Va P ⟨d, .convert st dt x,t,p,e,g⟩ s H F=Qx (YO P H st dt (QH s x)) (FO F H):=propext Iff.rfl
theorem BO(st:TypeId)(x:Operand)(f:Nat):Va P ⟨d, .fieldAddr st x f,t,p,e,g⟩ s H F=Qx (Wx P H st (QH s x) f) (FO F H):=propext Iff.rfl
theorem JcJ(st:TypeId)(x:Operand)(f:Nat):Va P ⟨d, .field st x f,t,p,e,g⟩ s H F=Qx (Kx P st (QH s x) f) (FO F H):=propext Iff.rfl
theorem BN(st:TypeId)(x i:Operand):Va P ⟨d, .indexAddr st x i,t,p,e,g⟩ s H F=Qx (YN P H st (QH s x) (QH s i)) (FO F H):=propext Iff.rfl
theorem JcI(st:TypeId)(x i:Operand):Va P ⟨d, .index st x i,t,p,e,g⟩ s H F=Qx (Kl P st (QH s x) (QH s i)) (FO F H):=propext Iff.rfl
theorem Jer(st:TypeId)(x:Operand):Va P ⟨d, .load st x,t,p,e,g⟩ s H F=Qx (Uy P H st (QH s x)) (FO F H):=propext Iff.rfl
theorem F6(x:Operand):Va P ⟨d, .nilCheck x,t,p,e,g⟩ s H F=Qx (Wq H (QH s x)) (FO F H):=propext Iff.rfl
def JaE(P:Program)(s:List AV)(H:Ji)(st:TypeId)(x:Operand)(lo hi mx:Option Operand):Option AV:=match UE s lo,UE s hi,UE s mx with
    |some l,some h,some m=>Uf P H st (QH s x) l h m
    |_,_,_=>none
theorem JcH(st:TypeId)(x:Operand)(lo hi mx:Option Operand):Va P ⟨d, .slice st x lo hi mx,t,p,e,g⟩ s H F=Qx (JaE P s H st x lo hi mx) (FO F H):=propext Iff.rfl
theorem Jgu(x:Operand)(xt:TypeId):Va P ⟨d, .call ⟨.builtin .len,#[x],#[xt]⟩,t,p,e,g⟩ s H F=Qx (Xz P H xt (QH s x)) (FO F H):=propext Iff.rfl
theorem Jgs(x y:Operand)(ts:Array TypeId):Va P ⟨d, .call ⟨.builtin .min,#[x,y],ts⟩,t,p,e,g⟩ s H F=Qx (Rc false (QH s x) (QH s y)) (FO F H):=propext Iff.rfl
theorem Jgt(x y:Operand)(ts:Array TypeId):Va P ⟨d, .call ⟨.builtin .max,#[x,y],ts⟩,t,p,e,g⟩ s H F=Qx (Rc true (QH s x) (QH s y)) (FO F H):=propext Iff.rfl
def Bi(i:Nat):AV→Option AV
 | .tup vs=>vs[i]?
 |_=>none
theorem Nw(x:Operand)(i:Nat):Va P ⟨d, .extract x i,t,p,e,g⟩ s H F=Qx (Bi i (QH s x)) (FO F H):=propext Iff.rfl
theorem F7(f:FuncId)(fi ca:Array Operand):Va P ⟨d, .makeFunc (.func f) fi ca,t,p,e,g⟩ s H F=Qx (if fi.size=0 then(ca.toList.mapM (YS s)).map fun l=> .c (.fn f l)else none) (FO F H):=propext Iff.rfl
theorem Jet(f:Operand)(xs:Array Operand)(ts:Array TypeId):Va P ⟨d, .call ⟨.value f,xs,ts⟩,t,p,e,g⟩ s H F=Qh P ⟨d, .call ⟨.value f,xs,ts⟩,t,p,e,g⟩ ⟨s,H⟩ F:=by simp[Va,UA,opM]
theorem JaU(x y:Operand)(u:TypeId):Va P ⟨d, .call ⟨.builtin .append,#[x,y],#[u,u]⟩,t,p,e,g⟩ s H F=Qg P H u (QH s x) (QH s y) F:=by simp[Va,UA,opM]
theorem Jgv(bt:TypeId)(x:Operand):Va P ⟨d, .box bt x,t,p,e,g⟩ s H F=Jfq H (QH s x) F:=propext Iff.rfl
theorem JcL(bt:TypeId):Va P ⟨d, .alloc bt,t,p,e,g⟩ s H F=GK P H bt F:=propext Iff.rfl
theorem JcG(bt:TypeId)(x y:Operand):Va P ⟨d, .store bt x y,t,p,e,g⟩ s H F=FU P H bt (QH s x) (QH s y) F:=propext Iff.rfl
theorem RP(bt:TypeId)(n:Nat)(ps:List (Nat×Operand)):Va P ⟨d, .buildSlice bt n ps.toArray,t,p,e,g⟩ s H F=Bp P s H bt n ps F:=propext Iff.rfl
theorem BM(bt:TypeId)(x y:Operand):Va P ⟨d, .makeSlice bt x y,t,p,e,g⟩ s H F=JbY P H bt (QH s x) (QH s y) F:=propext Iff.rfl
theorem JgR(n:Nat):QH s (.tmp n)=s.getD n .void:=rfl
theorem JgT(k:IntKind)(n:Int):QH s (.const (.int k n))= .c (.f (.int k n)):=rfl
theorem Jfc(b:Bool):QH s (.const (.bool b))= .c (.f (.bool b)):=rfl
theorem JgS:QH s (.const (.slice none 0 0))= .c (.f .nil):=rfl
theorem JhY(f:FuncId):QH s (.func f)= .c (.fn f []):=rfl
theorem JcE(n:Nat)(v:AV):QG s (some n) v=s.set n v:=rfl
theorem JcF(v:AV):QG s none v=s:=rfl
def Rg(P:Program)(H:Ji)(op:BinOp)(t:TypeId)(x y:AV):Option AV:=
 match x,y with
 | .c (.f (.int k a)), .c (.f (.int k' b))=>(ZJ op k a k' b).map fun r=> .c (.f r)
 | .c (.f (.str a)), .c (.f (.str b))=>match op with
   | .add=>if a.size+b.size≤9223372036854775807 then some (.c (.f (.str (a++b))))else none
   | .eql=>some (.c (.f (.bool (a.toList==b.toList))))
   | .neq=>some (.c (.f (.bool (!(a.toList==b.toList)))))
   |_=>none
 | .c (.f (.bool a)), .c (.f (.bool b))=>match Jy P t with
   |some ti=>match ti.k,op with
    | .bool, .eql=>some (.c (.f (.bool (a==b))))
    | .bool, .neq=>some (.c (.f (.bool (!(a==b)))))
    |_,_=>none
   |none=>none
 | .agg cs, .agg ds=>Jg7 P op t cs ds
 |vx,vy=>match Jy P t,Vy H vx,Vy H vy with
  |some ti,some nx,some ny=>match ti.k,op with
   | .slice _, .eql=>if ny=true then some (.c (.f (.bool nx)))else if nx=true then some (.c (.f (.bool ny)))else none
   | .slice _, .neq=>if ny=true then some (.c (.f (.bool (!nx))))else if nx=true then some (.c (.f (.bool (!ny))))else none
   |_,_=>none
  |_,_,_=>none
theorem Jg5(op:BinOp)(xt:TypeId)(x y:Operand):BZ P s H op xt x y=Rg P H op xt (QH s x) (QH s y):=rfl
theorem JfH(op:BinOp)(xt:TypeId)(k k':IntKind)(a b:Int):Rg P H op xt (.c (.f (.int k a))) (.c (.f (.int k' b)))=(ZJ op k a k' b).map fun r=> .c (.f r):=rfl
end
end Go.Lg
