/- LgN2, LgO, cut to what is needed. -/
import Derived.Test.YtidekghnkifbjaaGreatDoorJea7
import Derived.IntWalk
open Nat renaming reduceAdd→zA,reduceMul→zM,reduceSub→zS,reduceEqDiff→zE,reduceLeDiff→zL
set_option linter.unusedSimpArgs false
set_option linter.unusedVariables false
namespace Go.Lg
def BV:AV→Option Bool
 | .c (.f (.bool b))=>some b
 |_=>none
theorem JeV{v:AV}{b:Bool}(h:BV v=some b):v= .c (.f (.bool b)):=by
 unfold BV at h
 split at h
 · cases h;rfl
 · cases h
def NV(b:Bool)(A B:Prop):Prop:=(b=true→A)∧(b=false→B)
abbrev KT:=Exit→List AV→Jm→Prop
def nrm(K:KS)(e:Exit)(st:St):Prop:=match e with
 | .normal=>K st.s st.h
 |_=>False
def KJ(P:Program)(ops:Array Oper)(s:List AV)(H:Jm)(K:KS):Prop:=
 P.follows .mixedOrders=true∧((JaN ops=true∧qw P ops ops.toList s H K)∨(∃π F D σ m,Wi ops π F D σ=true∧lw P ops m F D π none s H fun s H=>sw P ops σ s H K)∨∀id,QH P (.region id ops true) ⟨s,H⟩ (nrm K))
theorem Zj{P:Program}{ops:Array Oper}{s:List AV}{H:Jm}{K:KS}(hm:P.follows .mixedOrders=true)(hB:JaN ops=true)(h:qw P ops ops.toList s H K):KJ P ops s H K:=⟨hm, .inl ⟨hB,h⟩⟩
theorem Jk5{P:Program}{ops:Array Oper}{s:List AV}{H:Jm}{K:KS}(π:List Nat)(F:List Nat)(D:Option Nat)(σ:List Nat)(m:List Bool)(hm:P.follows .mixedOrders=true)(hB:Wi ops π F D σ=true)(h:lw P ops m F D π none s H (swK P ops σ K)):KJ P ops s H K:=
 ⟨hm, .inr (.inl ⟨π,F,D,σ,m,hB,h⟩)⟩
theorem F7{P:Program}{id:Nat}{ops:Array Oper}{s:List AV}{H:Jm}{Q:Exit→St→Prop}(h:KJ P ops s H fun s H=>Q .normal ⟨s,H⟩):QH P (.region id ops true) ⟨s,H⟩ Q:=by
 obtain⟨hm,⟨hB,h⟩|⟨π,F,D,σ,m,hB,h⟩|h⟩:=h
 · exact QH.regionF hm hB (Bo _ _ _ _ h)
 · exact QH.regionL π F D σ m hm hB h
 · exact(h id).mono fun e st hq=>by
    cases e with
    |normal=>exact hq
    |_=>exact hq.elim
theorem JfR{P:Program}{ops:Array Oper}{s:List AV}{H:Jm}{K:KS}(hm:P.follows .mixedOrders=true)(h:∀id,QH P (.region id ops true) ⟨s,H⟩ (nrm K)):KJ P ops s H K:=⟨hm, .inr (.inr h)⟩
def cw(P:Program):Code→List AV→Jm→KT→Prop
 | .skip,s,H,K=>K .normal s H
 | .exit id,s,H,K=>K (.exit id) s H
 | .ret,s,H,K=>K .ret s H
 | .region _ ops false,s,H,K=>vw P ops ops.toList s H (K .normal)
 | .region _ ops true,s,H,K=>KJ P ops s H (K .normal)
 | .seq x y,s,H,K=>cw P x s H fun e s' H'=>match e with
   | .normal=>cw P y s' H' K
   |e=>K e s' H'
 | .cond c x y,s,H,K=>QP (BV (QY s c)) fun b=>NV b (cw P x s H K) (cw P y s H K)
 | .block id c,s,H,K=>cw P c s H fun e s' H'=>match e with
   | .exit id'=>if id'=id then K .normal s' H' else K (.exit id') s' H'
   |e=>K e s' H'
 |c,s,H,K=>QH P c ⟨s,H⟩ fun e st=>K e st.s st.h
def Jki(P:Program)(y:Code)(K:KT):KT:=fun e s' H'=>match e with
    | .normal=>cw P y s' H' K
    |e=>K e s' H'
def KN(P:Program)(x y:Code)(s:List AV)(H:Jm)(K:KT):Bool→Prop:=fun b=>NV b (cw P x s H K) (cw P y s H K)
def N0(id:Nat)(K:KT):KT:=fun e s' H'=>match e with
    | .exit id'=>if id'=id then K .normal s' H' else K (.exit id') s' H'
    |e=>K e s' H'
def stK(K:KT):Exit→St→Prop:=fun e st=>K e st.s st.h
theorem Ua{P:Program}:∀(c:Code) (s:List AV) (H:Jm) (K:KT),cw P c s H K→QH P c ⟨s,H⟩ (stK K)
 | .skip,s,H,K,h=>QH.skip h
 | .exit id,s,H,K,h=>QH.exit h
 | .ret,s,H,K,h=>QH.ret h
 | .region _ ops false,s,H,K,h=>QH.region (Kk _ _ _ _ h)
 | .region _ ops true,s,H,K,h=>F7 h
 | .seq x y,s,H,K,h=>QH.seq ((Ua x s H _ h).mono fun e st hq=>by
    cases e with
    |normal=>exact Ua y _ _ K hq
    |exit id=>exact hq
    |goto l=>exact hq
    |ret=>exact hq
    |panic c=>exact hq
    |outgrown=>exact hq)
 | .cond c x y,s,H,K,h=>by
   obtain⟨b,h1,h2,h3⟩:=h
   exact QH.cond (JeV h1) (fun hb=>Ua x s H K (h2 hb)) (fun hb=>Ua y s H K (h3 hb))
 | .block id c,s,H,K,h=>QH.block ((Ua c s H _ h).mono fun e st hq=>by
    cases e with
    |exit id'=>exact hq
    |normal=>exact hq
    |goto l=>exact hq
    |ret=>exact hq
    |panic c=>exact hq
    |outgrown=>exact hq)
 | .loop _,s,H,K,h=>h
 | .rangeFunc _ _ _ _,s,H,K,h=>h
 | .scope _,s,H,K,h=>h
 | .label _,s,H,K,h=>h
 | .goto _,s,H,K,h=>h
 | .refuse _,s,H,K,h=>h
def F8(P:Program)(rs:List ResultVar)(Q:KV):KT:=fun e s H=>(e= .normal∨e= .ret)∧QP (YD P s H rs) fun v=>∃H',J0 H H'∧Q v H'
def Uz(H:Jm)(Q:KV):AV→Prop:=fun v=>∃H',J0 H H'∧Q v H'
theorem Jn.cw{P:Program}{f:FuncId}{fn:Func}{c:Code}{args:List AV}{H:Jm}{Q:KV}(hf:P.funcs[f]? =some fn)(hb:fn.body=some c){n:Nat}(hn:fn.ntmps=n){rs:List ResultVar}(hr:fn.results.toList=rs)
 (h:Lg.cw P c (args++List.replicate (n -args.length) .void) H (F8 P rs Q)):Jn P f args H Q:=by
 subst hn hr
 exact Jn.of_body hf hb ((Ua _ _ _ _ h).mono fun e st ⟨h1,v,h2,H',h3,h4⟩=>⟨h1,v,H',h2,h3,h4⟩)
section
variable{P:Program}{ops:Array Oper}{s:List AV}{H:Jm}{K:KS}{Q:KT}{F:KV}
theorem Jk6:cw P .skip s H Q=Q .normal s H:=propext Iff.rfl
theorem Jk8(i:Nat):cw P (.exit i) s H Q=Q (.exit i) s H:=propext Iff.rfl
theorem Jmw:cw P .ret s H Q=Q .ret s H:=propext Iff.rfl
theorem Jhk(i:Nat)(l:List Oper):cw P (.region i l.toArray false) s H Q=vw P l.toArray l s H (Q .normal):=propext Iff.rfl
theorem JeO(i:Nat)(l:List Oper):cw P (.region i l.toArray true) s H Q=KJ P l.toArray s H (Q .normal):=propext Iff.rfl
theorem Jmv(x y:Code):cw P (.seq x y) s H Q=cw P x s H (Jki P y Q):=propext Iff.rfl
theorem Jk9(c:Operand)(x y:Code):cw P (.cond c x y) s H Q=QP (BV (QY s c)) (KN P x y s H Q):=propext Iff.rfl
theorem Jjb(i:Nat)(c:Code):cw P (.block i c) s H Q=cw P c s H (N0 i Q):=propext Iff.rfl
theorem Jk7(c:Code):cw P (.loop c) s H Q=QH P (.loop c) ⟨s,H⟩ (stK Q):=propext Iff.rfl
theorem JdL(x y:Code)(b:Bool):KN P x y s H Q b=NV b (cw P x s H Q) (cw P y s H Q):=propext Iff.rfl
theorem JcH(y:Code):Jki P y Q .normal s H=cw P y s H Q:=propext Iff.rfl
theorem Jgj(y:Code)(i:Nat):Jki P y Q (.exit i) s H=Q (.exit i) s H:=propext Iff.rfl
theorem Jh5(y:Code):Jki P y Q .ret s H=Q .ret s H:=propext Iff.rfl
theorem JaD(i:Nat):N0 i Q .normal s H=Q .normal s H:=propext Iff.rfl
theorem JeW(i:Nat):N0 i Q .ret s H=Q .ret s H:=propext Iff.rfl
theorem JeX(i:Nat):N0 i Q (.exit i) s H=Q .normal s H:=by simp[N0]
theorem Jhj(rs:List ResultVar):F8 P rs F .ret s H=QP (YD P s H rs) (Uz H F):=by simp only[F8,reduceCtorEq,true_or,or_true,true_and];rfl
theorem Jb4(rs:List ResultVar):F8 P rs F .normal s H=QP (YD P s H rs) (Uz H F):=by simp only[F8,reduceCtorEq,true_or,or_true,true_and];rfl
theorem JlH:vw P ops [] s H K=K s H:=by rw[vw]
theorem Jj8(d:Option Tmp)(op:Op)(t:TypeId)(p:String)(e:Array Edge)(r:List Oper):
 vw P ops (⟨d,op,t,p,e,none⟩::r) s H K=opW P ⟨d,op,t,p,e,none⟩ s H (vwK P ops r s d K):=by rw[vw];rfl
theorem JhQ(d:Option Tmp)(op:Op)(t:TypeId)(p:String)(e:Array Edge)(j:Nat)(want:Bool)(r:List Oper):
 vw P ops (⟨d,op,t,p,e,some (j,want)⟩::r) s H K=QP (Um ops s j) (UZ P ops ⟨d,op,t,p,e,some (j,want)⟩ r s H K want):=by rw[vw];rfl
theorem JlI(r:List Oper)(d:Option Tmp)(v:AV)(H':Jm):vwK P ops r s d K v H'=vw P ops r (QV s d v) H' K:=propext Iff.rfl
theorem Yj(d:Option Tmp)(op:Op)(t:TypeId)(p:String)(e:Array Edge)(gd:Option (Nat×Bool))(r:List Oper)(want:Bool)(g:Option Bool):
 UZ P ops ⟨d,op,t,p,e,gd⟩ r s H K want g=UY g want (opW P ⟨d,op,t,p,e,gd⟩ s H (vwK P ops r s d K)) (vw P ops r (QV s d .void) H K):=propext Iff.rfl
theorem JlQ:qw P ops [] s H K=K s H:=by rw[qw]
theorem Jko(d:Option Tmp)(op:Op)(t:TypeId)(p:String)(e:Array Edge)(r:List Oper):
 qw P ops (⟨d,op,t,p,e,none⟩::r) s H K=Q0 P ops ⟨d,op,t,p,e,none⟩ s H (qwK P ops r s d H K):=by rw[qw];rfl
theorem Jic(d:Option Tmp)(op:Op)(t:TypeId)(p:String)(e:Array Edge)(j:Nat)(want:Bool)(r:List Oper):
 qw P ops (⟨d,op,t,p,e,some (j,want)⟩::r) s H K=QP (Um ops s j) (UX P ops ⟨d,op,t,p,e,some (j,want)⟩ r s H K want):=by rw[qw];rfl
theorem JlR(r:List Oper)(d:Option Tmp)(v:AV):qwK P ops r s d H K v=qw P ops r (QV s d v) H K:=propext Iff.rfl
theorem Yi(d:Option Tmp)(op:Op)(t:TypeId)(p:String)(e:Array Edge)(gd:Option (Nat×Bool))(r:List Oper)(want:Bool)(g:Option Bool):
 UX P ops ⟨d,op,t,p,e,gd⟩ r s H K want g=UY g want (Q0 P ops ⟨d,op,t,p,e,gd⟩ s H (qwK P ops r s d H K)) (qw P ops r (QV s d .void) H K):=propext Iff.rfl
theorem Fo(A B:Prop):UY (some true) true A B=A:=by simp[UY]
theorem Fr(A B:Prop):UY (some false) false A B=A:=by simp[UY]
theorem Fp(A B:Prop):UY (some true) false A B=B:=by simp[UY]
theorem Fq(A B:Prop):UY (some false) true A B=B:=by simp[UY]
theorem KC(w:Bool)(A B:Prop):UY none w A B=B:=by simp[UY]
theorem Jla(A B:Prop):NV true A B=A:=by simp[NV]
theorem Jlb(A B:Prop):NV false A B=B:=by simp[NV]
theorem Jlg(b:Bool):BV (.c (.f (.bool b)))=some b:=rfl
variable{d:Option Tmp}{t:TypeId}{p:String}{e:Array Edge}{g:Option (Nat×Bool)}
def Jc2(s:List AV)(H:Jm)(x y:Operand)(F:KV):Bool→Prop:=fun b=>F (if b then QY s x else QY s y) H
theorem Jkv(x y:Operand):Jc2 s H x y F true=F (QY s x) H:=propext Iff.rfl
theorem Jkw(x y:Operand):Jc2 s H x y F false=F (QY s y) H:=propext Iff.rfl
theorem Jik(x y:Operand)(b:Bool):Jc2 s H x y F b=F (if b then QY s x else QY s y) H:=propext Iff.rfl
theorem Jiq(x:Operand):opW P ⟨d, .move x,t,p,e,g⟩ s H F=F (QY s x) H:=by simp[opW,Vo,X8,QP,atH]
theorem Jer(x:Operand):opW P ⟨d, .assign x,t,p,e,g⟩ s H F=F (QY s x) H:=by simp[opW,Vo,X8,QP,atH]
theorem Jc6(c x y:Operand):X8 P s H (.pick c x y)=(BV (QY s c)).map fun b=>if b then QY s x else QY s y:=by
 simp only[X8,BV]
 cases QY s c with
 |c x=>cases x with
  |f y=>cases y<;>rfl
  |_=>rfl
 |_=>rfl
theorem Jip(c x y:Operand):opW P ⟨d, .pick c x y,t,p,e,g⟩ s H F=QP (BV (QY s c)) (Jc2 s H x y F):=by
 simp only[opW,Vo,if_true,Jc6,FA];rfl
theorem JkC(op:BinOp)(xt:TypeId)(x y:Operand)(yt:TypeId):opW P ⟨d, .binOp op xt x y yt,t,p,e,g⟩ s H F=QP (JaE P s H op xt x y) (atH F H):=propext Iff.rfl
theorem Jl2(op:UnOp)(xt:TypeId)(x:Operand):opW P ⟨d, .unOp op xt x,t,p,e,g⟩ s H F=QP (unV op (QY s x)) (atH F H):=propext Iff.rfl
theorem Jis(st dt:TypeId)(x:Operand):opW P ⟨d, .convert st dt x,t,p,e,g⟩ s H F=QP (BQ P H st dt (QY s x)) (atH F H):=propext Iff.rfl
theorem Jaq(st:TypeId)(x:Operand)(f:Nat):opW P ⟨d, .fieldAddr st x f,t,p,e,g⟩ s H F=QP (YM P H st (QY s x) f) (atH F H):=propext Iff.rfl
theorem Jgw(st:TypeId)(x:Operand)(f:Nat):opW P ⟨d, .field st x f,t,p,e,g⟩ s H F=QP (Fv P st (QY s x) f) (atH F H):=propext Iff.rfl
theorem Jap(st:TypeId)(x i:Operand):opW P ⟨d, .indexAddr st x i,t,p,e,g⟩ s H F=QP (BO P H st (QY s x) (QY s i)) (atH F H):=propext Iff.rfl
theorem Jgv(st:TypeId)(x i:Operand):opW P ⟨d, .index st x i,t,p,e,g⟩ s H F=QP (Fl P st (QY s x) (QY s i)) (atH F H):=propext Iff.rfl
theorem Jir(st:TypeId)(x:Operand):opW P ⟨d, .load st x,t,p,e,g⟩ s H F=QP (V3 P H st (QY s x)) (atH F H):=propext Iff.rfl
theorem JbG(x:Operand):opW P ⟨d, .nilCheck x,t,p,e,g⟩ s H F=QP (XY H (QY s x)) (atH F H):=propext Iff.rfl
def Jef(P:Program)(s:List AV)(H:Jm)(st:TypeId)(x:Operand)(lo hi mx:Option Operand):Option AV:=match Wb s lo,Wb s hi,Wb s mx with
    |some l,some h,some m=>UI P H st (QY s x) l h m
    |_,_,_=>none
theorem Jgu(st:TypeId)(x:Operand)(lo hi mx:Option Operand):opW P ⟨d, .slice st x lo hi mx,t,p,e,g⟩ s H F=QP (Jef P s H st x lo hi mx) (atH F H):=propext Iff.rfl
theorem JkA(x:Operand)(xt:TypeId):opW P ⟨d, .call ⟨.builtin .len,#[x],#[xt]⟩,t,p,e,g⟩ s H F=QP (Kx P H xt (QY s x)) (atH F H):=propext Iff.rfl
theorem Jky(x y:Operand)(ts:Array TypeId):opW P ⟨d, .call ⟨.builtin .min,#[x,y],ts⟩,t,p,e,g⟩ s H F=QP (Gn false (QY s x) (QY s y)) (atH F H):=propext Iff.rfl
theorem Jkz(x y:Operand)(ts:Array TypeId):opW P ⟨d, .call ⟨.builtin .max,#[x,y],ts⟩,t,p,e,g⟩ s H F=QP (Gn true (QY s x) (QY s y)) (atH F H):=propext Iff.rfl
def NR(i:Nat):AV→Option AV
 | .tup vs=>vs[i]?
 |_=>none
theorem Jc5(x:Operand)(i:Nat):opW P ⟨d, .extract x i,t,p,e,g⟩ s H F=QP (NR i (QY s x)) (atH F H):=propext Iff.rfl
theorem JbH(f:FuncId)(fi ca:Array Operand):opW P ⟨d, .makeFunc (.func f) fi ca,t,p,e,g⟩ s H F=QP (if fi.size=0 then(ca.toList.mapM (Ka s)).map fun l=> .c (.fn f l)else none) (atH F H):=propext Iff.rfl
theorem Jit(f:Operand)(xs:Array Operand)(ts:Array TypeId):opW P ⟨d, .call ⟨.value f,xs,ts⟩,t,p,e,g⟩ s H F=JZ P ⟨d, .call ⟨.value f,xs,ts⟩,t,p,e,g⟩ ⟨s,H⟩ F:=by simp[opW,Vo,opM]
theorem Jes(x y:Operand)(u:TypeId):opW P ⟨d, .call ⟨.builtin .append,#[x,y],#[u,u]⟩,t,p,e,g⟩ s H F=J9 P H u (QY s x) (QY s y) F:=by simp[opW,Vo,opM]
theorem JkB(bt:TypeId)(x:Operand):opW P ⟨d, .box bt x,t,p,e,g⟩ s H F=Jjr H (QY s x) F:=propext Iff.rfl
theorem Jgy(bt:TypeId):opW P ⟨d, .alloc bt,t,p,e,g⟩ s H F=Jce P H bt F:=propext Iff.rfl
theorem Jgt(bt:TypeId)(x y:Operand):opW P ⟨d, .store bt x y,t,p,e,g⟩ s H F=Jbt P H bt (QY s x) (QY s y) F:=propext Iff.rfl
theorem Nb(bt:TypeId)(n:Nat)(ps:List (Nat×Operand)):opW P ⟨d, .buildSlice bt n ps.toArray,t,p,e,g⟩ s H F=NY P s H bt n ps F:=propext Iff.rfl
theorem Jao(bt:TypeId)(x y:Operand):opW P ⟨d, .makeSlice bt x y,t,p,e,g⟩ s H F=JfB P H bt (QY s x) (QY s y) F:=propext Iff.rfl
theorem Jk1(n:Nat):QY s (.tmp n)=s.getD n .void:=rfl
theorem Jk3(k:IntKind)(n:Int):QY s (.const (.int k n))= .c (.f (.int k n)):=rfl
theorem Jja(b:Bool):QY s (.const (.bool b))= .c (.f (.bool b)):=rfl
theorem Jk2:QY s (.const (.slice none 0 0))= .c (.f .nil):=rfl
theorem Jmo(f:FuncId):QY s (.func f)= .c (.fn f []):=rfl
theorem Jgq(n:Nat)(v:AV):QV s (some n) v=s.set n v:=rfl
theorem Jgr(v:AV):QV s none v=s:=rfl
def Rj(P:Program)(H:Jm)(op:BinOp)(t:TypeId)(x y:AV):Option AV:=
 match x,y with
 | .c (.f (.int k a)), .c (.f (.int k' b))=>(UM op k a k' b).map fun r=> .c (.f r)
 | .c (.f (.str a)), .c (.f (.str b))=>match op with
   | .add=>if a.size+b.size≤9223372036854775807 then some (.c (.f (.str (a++b))))else none
   | .eql=>some (.c (.f (.bool (a.toList==b.toList))))
   | .neq=>some (.c (.f (.bool (!(a.toList==b.toList)))))
   |_=>none
 | .c (.f (.bool a)), .c (.f (.bool b))=>match JV P t with
   |some ti=>match ti.k,op with
    | .bool, .eql=>some (.c (.f (.bool (a==b))))
    | .bool, .neq=>some (.c (.f (.bool (!(a==b)))))
    |_,_=>none
   |none=>none
 | .agg cs, .agg ds=>Jlj P op t cs ds
 |vx,vy=>match JV P t,V4 H vx,V4 H vy with
  |some ti,some nx,some ny=>match ti.k,op with
   | .slice _, .eql=>if ny=true then some (.c (.f (.bool nx)))else if nx=true then some (.c (.f (.bool ny)))else none
   | .slice _, .neq=>if ny=true then some (.c (.f (.bool (!nx))))else if nx=true then some (.c (.f (.bool (!ny))))else none
   |_,_=>none
  |_,_,_=>none
theorem Jlh(op:BinOp)(xt:TypeId)(x y:Operand):JaE P s H op xt x y=Rj P H op xt (QY s x) (QY s y):=rfl
theorem JjJ(op:BinOp)(xt:TypeId)(k k':IntKind)(a b:Int):Rj P H op xt (.c (.f (.int k a))) (.c (.f (.int k' b)))=(UM op k a k' b).map fun r=> .c (.f r):=rfl
end
end Go.Lg

namespace Go.Lg
abbrev int (n:Int):AV:= .c (.f (.int .i64 n))
abbrev bool (b:Bool):AV:= .c (.f (.bool b))
abbrev str (b:ByteArray):AV:= .c (.f (.str b))
theorem JiU(H:Jm)(v r:AV):Uz H (isQ v) r=(r=v):=propext ⟨fun⟨_,_,h⟩=>h,fun h=>⟨[],fun _ _ h=>by simp at h,h⟩⟩
theorem JZ.rd{P:Program}{o:Oper}{st:St}{K:AV→Jm→Prop}{fo:Operand}{xs:Array Operand}{ts:Array TypeId}{f:FuncId}{args args':List AV}{v:AV}{u:Value}
 (hc:JW P f args' v) (he:Ji P f) (ho:o.op= .call ⟨.value fo,xs,ts⟩) (ha:Qc st fo xs=some (f,args)) (hs:args.mapM (R9 st.h)=some args')
 (hf:KE v=some u) (hk:K v st.h):JZ P o st K:=JZ.callStill ho ha he hs hc hf hk
section
variable{P:Program}{ops r:Array Oper}{rl:List Oper}{s:List AV}{H:Jm}{K:KS}{Q:KT}{d:Option Tmp}{op:Op}{t:TypeId}{p:String}{e:Array Edge}{gd:Option (Nat×Bool)}{c x y:Code}{b w:Bool}
theorem JgY:UZ P ops ⟨d,op,t,p,e,gd⟩ rl s H K true (some true)=opW P ⟨d,op,t,p,e,gd⟩ s H (vwK P ops rl s d K):=by rw[Yj,Fo]
theorem Jg2:UZ P ops ⟨d,op,t,p,e,gd⟩ rl s H K false (some false)=opW P ⟨d,op,t,p,e,gd⟩ s H (vwK P ops rl s d K):=by rw[Yj,Fr]
theorem JgZ:UZ P ops ⟨d,op,t,p,e,gd⟩ rl s H K true (some false)=vw P ops rl (QV s d .void) H K:=by rw[Yj,Fq]
theorem Jg1:UZ P ops ⟨d,op,t,p,e,gd⟩ rl s H K false (some true)=vw P ops rl (QV s d .void) H K:=by rw[Yj,Fp]
theorem Jg0:UZ P ops ⟨d,op,t,p,e,gd⟩ rl s H K w none=vw P ops rl (QV s d .void) H K:=by rw[Yj,KC]
theorem Jw(h1:b=true→UZ P ops ⟨d,op,t,p,e,gd⟩ rl s H K w (some true))(h2:b=false→UZ P ops ⟨d,op,t,p,e,gd⟩ rl s H K w (some false)):UZ P ops ⟨d,op,t,p,e,gd⟩ rl s H K w (some b):=by
 cases b
 · exact h2 rfl
 · exact h1 rfl
theorem JgT{G:KS}:UX P ops ⟨d,op,t,p,e,gd⟩ rl s H G true (some true)=Q0 P ops ⟨d,op,t,p,e,gd⟩ s H (qwK P ops rl s d H G):=by rw[Yi,Fo]
theorem JgX{G:KS}:UX P ops ⟨d,op,t,p,e,gd⟩ rl s H G false (some false)=Q0 P ops ⟨d,op,t,p,e,gd⟩ s H (qwK P ops rl s d H G):=by rw[Yi,Fr]
theorem JgU{G:KS}:UX P ops ⟨d,op,t,p,e,gd⟩ rl s H G true (some false)=qw P ops rl (QV s d .void) H G:=by rw[Yi,Fq]
theorem JgW{G:KS}:UX P ops ⟨d,op,t,p,e,gd⟩ rl s H G false (some true)=qw P ops rl (QV s d .void) H G:=by rw[Yi,Fp]
theorem JgV{G:KS}:UX P ops ⟨d,op,t,p,e,gd⟩ rl s H G w none=qw P ops rl (QV s d .void) H G:=by rw[Yi,KC]
theorem Jy{G:KS}(h1:b=true→UX P ops ⟨d,op,t,p,e,gd⟩ rl s H G w (some true))(h2:b=false→UX P ops ⟨d,op,t,p,e,gd⟩ rl s H G w (some false)):UX P ops ⟨d,op,t,p,e,gd⟩ rl s H G w (some b):=by
 cases b
 · exact h2 rfl
 · exact h1 rfl
theorem BR:KN P x y s H Q true=cw P x s H Q:=by rw[JdL,Jla]
theorem BS:KN P x y s H Q false=cw P y s H Q:=by rw[JdL,Jlb]
theorem WH(h1:b=true→KN P x y s H Q true)(h2:b=false→KN P x y s H Q false):KN P x y s H Q b:=by
 cases b
 · exact h2 rfl
 · exact h1 rfl
end
section
theorem JjD(k:IntKind)(a b:Int):UM .geq k a k b=some (.bool (decide (b≤a))):=by simp[UM]
theorem JjB(k:IntKind)(a b:Int):UM .leq k a k b=some (.bool (decide (a≤b))):=by simp[UM]
theorem JjA(k:IntKind)(a b:Int):UM .lss k a k b=some (.bool (decide (a<b))):=by simp[UM]
theorem JjC(k:IntKind)(a b:Int):UM .gtr k a k b=some (.bool (decide (b<a))):=by simp[UM]
theorem JjE(k:IntKind)(a b:Int):UM .eql k a k b=some (.bool (decide (a=b))):=by
 have:(a==b)=decide (a=b):=by rw[Bool.eq_iff_iff];simp
 simp only[UM,if_true,this]
theorem Jjy(k:IntKind)(a b:Int):UM .neq k a k b=some (.bool (!decide (a=b))):=by
 have:(a==b)=decide (a=b):=by rw[Bool.eq_iff_iff];simp
 simp only[UM,if_true,bne,this]
theorem JjG(k:IntKind)(a b:Int):UM .add k a k b=some (.int k (k.wrap (a+b))):=by simp[UM]
theorem Jjv(k:IntKind)(a b:Int):UM .sub k a k b=some (.int k (k.wrap (a -b))):=by simp[UM]
theorem Jjz(k:IntKind)(a b:Int):UM .mul k a k b=some (.int k (k.wrap (a*b))):=by simp[UM]
theorem Jjx(k:IntKind)(a b:Int):UM .quo k a k b=if b≠0 then some (.int k (k.wrap (a.tdiv b)))else none:=by simp[UM]
theorem Jjw(k:IntKind)(a b:Int):UM .rem k a k b=if b≠0 then some (.int k (a.tmod b))else none:=by simp[UM]
theorem JjF(k:IntKind)(a b:Int):UM .and k a k b=some (.int k (Uq .and k a b)):=by simp[UM]
theorem Jli(k:IntKind)(a b:Int):UM .or k a k b=some (.int k (Uq .or k a b)):=by simp[UM]
theorem Jju(k:IntKind)(a b:Int):UM .xor k a k b=some (.int k (Uq .xor k a b)):=by simp[UM]
theorem JdV(k:IntKind)(a b:Int):UM .andNot k a k b=some (.int k (Uq .andNot k a b)):=by simp[UM]
theorem Jj9(b:Bool):unV .not (bool b)=some (bool (!b)):=rfl
theorem Jka(k:IntKind)(n:Int):unV .neg (.c (.f (.int k n)))=some (.c (.f (.int k (k.wrap (0 -n))))):=rfl
theorem Jh9(P:Program)(s:List AV)(H:Jm)(t:Nat):YD P s H [.tmp t]=some (s.getD t .void):=rfl
theorem Jh8(P:Program)(s:List AV)(H:Jm)(t u:Nat):YD P s H [.tmp t, .tmp u]=some (.tup [s.getD t .void,s.getD u .void]):=rfl
theorem Jel(P:Program)(s:List AV)(H:Jm)(t u v:Nat):YD P s H [.tmp t, .tmp u, .tmp v]=some (.tup [s.getD t .void,s.getD u .void,s.getD v .void]):=rfl
theorem JeJ{ops:Array Oper}{s:List AV}{j:Nat}:Um ops s j=match(ops[j]?).bind (·.dst)with
 |none=>some none
 |some d=>match s[d]? with
  |none=>some none
  |some (.c (.f (.bool b)))=>some (some b)
  |some .void=>some none
  |_=>none:=rfl
end
def FD:List AV→List AV→Prop
 |[],[]=>True
 |a::s,b::s'=>(b= .any∨a=b)∧FD s s'
 |_,_=>False
theorem FD.sle:∀{s s':List AV},FD s s'→SLe s s'
 |[],[],_=>⟨rfl,fun i hi=>absurd hi (Nat.not_lt_zero _)⟩
 |a::s,b::s',h=>by
  obtain⟨h1,h2⟩:=h
  obtain⟨h3,h4⟩:=FD.sle h2
  refine⟨by simp[h3],fun i hi=> ?_⟩
  cases i with
  |zero=>rcases h1 with h|h
         · exact .inl h
         · exact .inr (by simp[h])
  |succ i=>simpa using h4 i (by simpa using hi)
 |[],_::_,h=>h.elim
 |_::_,[],h=>h.elim
theorem FD.refl:∀(s:List AV),FD s s
 |[]=>trivial
 |_::s=>⟨.inr rfl,FD.refl s⟩
theorem Jkf:FD [] []=True:=rfl
theorem Jkg(a:AV)(s s':List AV):FD (a::s) (.any::s')=FD s s':=by simp[FD]
theorem Jh3(a:AV)(s s':List AV):FD (a::s) (a::s')=FD s s':=by simp[FD]
theorem sle_c(a:AV)(x:CV)(s s':List AV):FD (a::s) (.c x::s')=(a= .c x∧FD s s'):=by simp[FD]
inductive Sl where
 |a
 |k
 |p (v:AV)
def ZK:List Sl→List AV→List AV
 | .a::m,_::s=> .any::ZK m s
 | .k::m,x::s=>x::ZK m s
 | .p v::m,_::s=>v::ZK m s
 |_,_=>[]
theorem JkO(m:List Sl)(x:AV)(s:List AV):ZK (.a::m) (x::s)= .any::ZK m s:=rfl
theorem JkN(m:List Sl)(x:AV)(s:List AV):ZK (.k::m) (x::s)=x::ZK m s:=rfl
theorem JkM(v:AV)(m:List Sl)(x:AV)(s:List AV):ZK (.p v::m) (x::s)=v::ZK m s:=rfl
theorem JgG(s:List AV):ZK [] s=[]:=rfl
def JfG{α:Type}(ok:α→Prop)(S:α→List AV)(G:α→Jm)(Q:KT):KT:=fun e s H=>match e with
 | .normal=>∃a,ok a∧FD s (S a)∧J0 H (G a)
 |e=>Q e s H
section
variable{α:Type}{ok:α→Prop}{S:α→List AV}{G:α→Jm}{Q:KT}{s:List AV}{H:Jm}
theorem JbK:JfG ok S G Q .normal s H=∃a,ok a∧FD s (S a)∧J0 H (G a):=propext Iff.rfl
theorem Jex(i:Nat):JfG ok S G Q (.exit i) s H=Q (.exit i) s H:=propext Iff.rfl
theorem JgJ:JfG ok S G Q .ret s H=Q .ret s H:=propext Iff.rfl
end
theorem JY{P:Program}{c:Code}{s:List AV}{H:Jm}{Q:KT}{α:Type}(μ:α→Nat)(ok:α→Prop)(M:α→List Sl)(G:α→Jm)(a0:α)(h0:ok a0)(hs:FD s (ZK (M a0) s))(hh:J0 H (G a0))
 (step:∀a,ok a→cw P c (ZK (M a) s) (G a) (JfG (fun b=>ok b∧μ b<μ a) (fun b=>ZK (M b) s) G Q)):QH P (.loop c) ⟨s,H⟩ (stK Q):=by
 refine QH.weaken (st':=⟨ZK (M a0) s,G a0⟩) hs.sle hh ?_
 refine QH.loop (fun n st=>∃a,ok a∧μ a=n∧st=⟨ZK (M a) s,G a⟩) ?_ ⟨a0,h0,rfl,rfl⟩
 rintro n st ⟨a,ha,rfl,rfl⟩
 refine(Ua _ _ _ _ (step a ha)).mono fun e st hq=> ?_
 cases e with
 |normal=>
  obtain⟨b,⟨hb,hlt⟩,hs',hh'⟩:=hq
  exact⟨μ b,⟨ZK (M b) s,G b⟩,hlt,hs'.sle,hh',b,hb,rfl,rfl⟩
 |exit id=>exact hq
 |goto l=>exact hq
 |ret=>exact hq
 |panic c=>exact hq
 |outgrown=>exact hq
def JbM{α β:Type}(ok:α→β→Prop)(S:α→β→List AV)(G:α→β→Jm)(Q:KT):KT:=fun e s H=>match e with
 | .normal=>∃a b,ok a b∧FD s (S a b)∧J0 H (G a b)
 |e=>Q e s H
def JbL{α β γ:Type}(ok:α→β→γ→Prop)(S:α→β→γ→List AV)(G:α→β→γ→Jm)(Q:KT):KT:=fun e s H=>match e with
 | .normal=>∃a b c,ok a b c∧FD s (S a b c)∧J0 H (G a b c)
 |e=>Q e s H
section
variable{α β γ:Type}{Q:KT}{s:List AV}{H:Jm}
theorem Jat{ok:α→β→Prop}{S:α→β→List AV}{G:α→β→Jm}:JbM ok S G Q .normal s H=∃a b,ok a b∧FD s (S a b)∧J0 H (G a b):=propext Iff.rfl
theorem Jdh{ok:α→β→Prop}{S:α→β→List AV}{G:α→β→Jm}(i:Nat):JbM ok S G Q (.exit i) s H=Q (.exit i) s H:=propext Iff.rfl
theorem Jez{ok:α→β→Prop}{S:α→β→List AV}{G:α→β→Jm}:JbM ok S G Q .ret s H=Q .ret s H:=propext Iff.rfl
theorem Jas{ok:α→β→γ→Prop}{S:α→β→γ→List AV}{G:α→β→γ→Jm}:JbL ok S G Q .normal s H=∃a b c,ok a b c∧FD s (S a b c)∧J0 H (G a b c):=propext Iff.rfl
theorem Jdg{ok:α→β→γ→Prop}{S:α→β→γ→List AV}{G:α→β→γ→Jm}(i:Nat):JbL ok S G Q (.exit i) s H=Q (.exit i) s H:=propext Iff.rfl
theorem Jey{ok:α→β→γ→Prop}{S:α→β→γ→List AV}{G:α→β→γ→Jm}:JbL ok S G Q .ret s H=Q .ret s H:=propext Iff.rfl
end
theorem Qp{P:Program}{c:Code}{s:List AV}{H:Jm}{Q:KT}{α β:Type}(μ:α→β→Nat)(ok:α→β→Prop)(M:α→β→List Sl)(G:α→β→Jm)(a0:α)(b0:β)(h0:ok a0 b0)(hs:FD s (ZK (M a0 b0) s))(hh:J0 H (G a0 b0))
 (step:∀a b,ok a b→cw P c (ZK (M a b) s) (G a b) (JbM (fun a' b'=>ok a' b'∧μ a' b'<μ a b) (fun a' b'=>ZK (M a' b') s) G Q)):QH P (.loop c) ⟨s,H⟩ (stK Q):=by
 refine QH.weaken (st':=⟨ZK (M a0 b0) s,G a0 b0⟩) hs.sle hh ?_
 refine QH.loop (fun n st=>∃a b,ok a b∧μ a b=n∧st=⟨ZK (M a b) s,G a b⟩) ?_ ⟨a0,b0,h0,rfl,rfl⟩
 rintro n st ⟨a,b,ha,rfl,rfl⟩
 refine(Ua _ _ _ _ (step a b ha)).mono fun e st hq=> ?_
 cases e with
 |normal=>
  obtain⟨a',b',⟨hb,hlt⟩,hs',hh'⟩:=hq
  exact⟨μ a' b',⟨ZK (M a' b') s,G a' b'⟩,hlt,hs'.sle,hh',a',b',hb,rfl,rfl⟩
 |exit id=>exact hq
 |goto l=>exact hq
 |ret=>exact hq
 |panic c=>exact hq
 |outgrown=>exact hq
theorem Xq{P:Program}{c:Code}{s:List AV}{H:Jm}{Q:KT}{α β γ:Type}(μ:α→β→γ→Nat)(ok:α→β→γ→Prop)(M:α→β→γ→List Sl)(G:α→β→γ→Jm)(a0:α)(b0:β)(c0:γ)(h0:ok a0 b0 c0)(hs:FD s (ZK (M a0 b0 c0) s))(hh:J0 H (G a0 b0 c0))
 (step:∀a b d,ok a b d→cw P c (ZK (M a b d) s) (G a b d) (JbL (fun a' b' c'=>ok a' b' c'∧μ a' b' c'<μ a b d) (fun a' b' c'=>ZK (M a' b' c') s) G Q)):QH P (.loop c) ⟨s,H⟩ (stK Q):=by
 refine QH.weaken (st':=⟨ZK (M a0 b0 c0) s,G a0 b0 c0⟩) hs.sle hh ?_
 refine QH.loop (fun n st=>∃a b d,ok a b d∧μ a b d=n∧st=⟨ZK (M a b d) s,G a b d⟩) ?_ ⟨a0,b0,c0,h0,rfl,rfl⟩
 rintro n st ⟨a,b,d,ha,rfl,rfl⟩
 refine(Ua _ _ _ _ (step a b d ha)).mono fun e st hq=> ?_
 cases e with
 |normal=>
  obtain⟨a',b',d',⟨hb,hlt⟩,hs',hh'⟩:=hq
  exact⟨μ a' b' d',⟨ZK (M a' b' d') s,G a' b' d'⟩,hlt,hs'.sle,hh',a',b',d',hb,rfl,rfl⟩
 |exit id=>exact hq
 |goto l=>exact hq
 |ret=>exact hq
 |panic c=>exact hq
 |outgrown=>exact hq
theorem Z4{g sz:Nat}{cs cs':List CV}{H H':Jm}(h:cs=cs')(hh:J0 H H'):J0 (some ⟨g,sz,cs⟩::H) (some ⟨g,sz,cs'⟩::H'):=fun id b hb=>by
 subst h
 cases id with
 |zero=>exact hb
 |succ id=>exact hh id b hb
theorem Jdt(x:Option Zv)(H H':Jm)(h:J0 H H'):J0 (x::H) (x::H'):=fun id b hb=>by
 cases id with
 |zero=>exact hb
 |succ id=>exact h id b hb
theorem Qu(H:Jm):J0 H []:=fun id b hb=>by simp at hb
theorem BJ(x:Option Zv)(H H':Jm)(h:J0 H H'):J0 (x::H) (none::H'):=fun id b hb=>by
 cases id with
 |zero=>simp at hb
 |succ id=>exact h id b hb
theorem Fy{n:Int}(h1: -9223372036854775808≤n)(h2:n≤9223372036854775807):IntKind.i64.wrap n=n:=IntWalk.i64_in _ (by omega)
def FY(H:Jm)(p:CV):Option AV:=match Un H p 1 with
 |some [c]=>some (.c c)
 |_=>none
theorem JiR(P:Program)(H:Jm)(t:TypeId)(p:CV):V3 P H t (.c p)=match JV P t with
 |some i=>(match RU i.k with
  |true=>(Un H p i.size).map .agg
  |false=>FY H p)
 |none=>none:=by
 unfold V3
 cases JV P t<;>rfl
theorem Jdl{H:Jm}{l:List FV}{off:Nat}:FY H (.fp l off)=(l[off]?).map fun x=> .c (.f x):=by
 simp only[FY,Un]
 by_cases h:off<l.length
 · rw[if_pos (by omega),List.getElem?_eq_getElem h]
   have:(l.drop off).take 1=[l[off]]:=by
    rw[List.drop_eq_getElem_cons h];rfl
   simp[this]
 · rw[if_neg (by omega),List.getElem?_eq_none (by omega)]
   rfl
section
variable{P:Program}{ops:Array Oper}{s:List AV}{H:Jm}{F:AV→Prop}{d:Option Tmp}{t:TypeId}{p:String}{e:Array Edge}{g:Option (Nat×Bool)}
theorem Jkq(x:Operand):Q0 P ops ⟨d, .move x,t,p,e,g⟩ s H F=F (QY s x):=by simp[Q0,Vo,X8,QP]
theorem Jgo(x:Operand):Q0 P ops ⟨d, .assign x,t,p,e,g⟩ s H F=F (QY s x):=by simp[Q0,Vo,X8,QP]
theorem Jkp(c x y:Operand):Q0 P ops ⟨d, .pick c x y,t,p,e,g⟩ s H F=QP (BV (QY s c)) (Jc2 s H x y fun v _=>F v):=by simp only[Q0,Vo,if_true,Jc6,FA];rfl
theorem JlV(op:BinOp)(xt:TypeId)(x y:Operand)(yt:TypeId):Q0 P ops ⟨d, .binOp op xt x y yt,t,p,e,g⟩ s H F=QP (JaE P s H op xt x y) F:=propext Iff.rfl
theorem qW_un(op:UnOp)(xt:TypeId)(x:Operand):Q0 P ops ⟨d, .unOp op xt x,t,p,e,g⟩ s H F=QP (unV op (QY s x)) F:=propext Iff.rfl
theorem Jks(st dt:TypeId)(x:Operand):Q0 P ops ⟨d, .convert st dt x,t,p,e,g⟩ s H F=QP (BQ P H st dt (QY s x)) F:=propext Iff.rfl
theorem JbD(st:TypeId)(x:Operand)(f:Nat):Q0 P ops ⟨d, .fieldAddr st x f,t,p,e,g⟩ s H F=QP (YM P H st (QY s x) f) F:=propext Iff.rfl
theorem Jif(st:TypeId)(x:Operand)(f:Nat):Q0 P ops ⟨d, .field st x f,t,p,e,g⟩ s H F=QP (Fv P st (QY s x) f) F:=propext Iff.rfl
theorem JbC(st:TypeId)(x i:Operand):Q0 P ops ⟨d, .indexAddr st x i,t,p,e,g⟩ s H F=QP (BO P H st (QY s x) (QY s i)) F:=propext Iff.rfl
theorem Jie(st:TypeId)(x i:Operand):Q0 P ops ⟨d, .index st x i,t,p,e,g⟩ s H F=QP (Fl P st (QY s x) (QY s i)) F:=propext Iff.rfl
theorem Jkr(st:TypeId)(x:Operand):Q0 P ops ⟨d, .load st x,t,p,e,g⟩ s H F=QP (V3 P H st (QY s x)) F:=propext Iff.rfl
theorem JcW(x:Operand):Q0 P ops ⟨d, .nilCheck x,t,p,e,g⟩ s H F=QP (XY H (QY s x)) F:=propext Iff.rfl
theorem Jid(st:TypeId)(x:Operand)(lo hi mx:Option Operand):Q0 P ops ⟨d, .slice st x lo hi mx,t,p,e,g⟩ s H F=QP (Jef P s H st x lo hi mx) F:=propext Iff.rfl
theorem JlU(x:Operand)(xt:TypeId):Q0 P ops ⟨d, .call ⟨.builtin .len,#[x],#[xt]⟩,t,p,e,g⟩ s H F=QP (Kx P H xt (QY s x)) F:=propext Iff.rfl
theorem JlS(x y:Operand)(ts:Array TypeId):Q0 P ops ⟨d, .call ⟨.builtin .min,#[x,y],ts⟩,t,p,e,g⟩ s H F=QP (Gn false (QY s x) (QY s y)) F:=propext Iff.rfl
theorem JlT(x y:Operand)(ts:Array TypeId):Q0 P ops ⟨d, .call ⟨.builtin .max,#[x,y],ts⟩,t,p,e,g⟩ s H F=QP (Gn true (QY s x) (QY s y)) F:=propext Iff.rfl
theorem Jen(x:Operand)(i:Nat):Q0 P ops ⟨d, .extract x i,t,p,e,g⟩ s H F=QP (NR i (QY s x)) F:=propext Iff.rfl
end
theorem Jig{P:Program}{ops:Array Oper}{s:List AV}{H:Jm}{F:AV→Prop}{d:Option Tmp}{t:TypeId}{p:String}{e:Array Edge}{g:Option (Nat×Bool)}(bt:TypeId)(n:Nat)(ps:List (Nat×Operand)):
 Q0 P ops ⟨d, .buildSlice bt n ps.toArray,t,p,e,g⟩ s H F=UN P s bt n ps F:=propext Iff.rfl
theorem Q0.rd{P:Program}{ops:Array Oper}{o:Oper}{s:List AV}{H:Jm}{F:AV→Prop}{fo:Operand}{xs:Array Operand}{ts:Array TypeId}{f:FuncId}{args args':List AV}{v:AV}{u:Value}
 (hc:JW P f args' v) (he:Ji P f) (ho:o.op= .call ⟨.value fo,xs,ts⟩) (ha:Qc ⟨s,H⟩ fo xs=some (f,args)) (hs:args.mapM (R9 H)=some args')
 (hf:KE v=some u) (hk:F v):Q0 P ops o s H F:=by
 unfold Q0
 rw[ho]
 exact⟨v,Vw.flat hc he ho ha hs hf,hk⟩
theorem Q0.mk{P:Program}{ops:Array Oper}{o:Oper}{s:List AV}{H:Jm}{F:AV→Prop}{fo:Operand}{xs:Array Operand}{ts:Array TypeId}{f:FuncId}{args:List AV}{v:AV}
 (hc:JW P f args v) (he:Ji P f) (ho:o.op= .call ⟨.value fo,xs,ts⟩) (ha:Qc ⟨s,H⟩ fo xs=some (f,args)) (hz:args.all Q2=true)
 (hf:Gw v=true) (hv:Vu [] v=some v) (hk:F v):Q0 P ops o s H F:=by
 unfold Q0
 rw[ho]
 have hca:∃f',QY s fo= .c (.fn f' [])∧f'=f∧args=xs.toList.map (QY s):=by
  unfold Qc at ha
  split at ha
  · rename_i f' e;cases ha;exact⟨_,e,rfl,rfl⟩
  · cases ha
 obtain⟨f',e1,hff,e2⟩:=hca
 subst hff
 refine⟨v,Vw.ops (fun x hx=> ?_) hf (fun s' hs'=> ?_),hk⟩
 · rw[ho]at hx
   simp only[Op.operands,Call.operands,Array.mem_append]at hx
   rcases hx with hx|hx
   · have:x=fo:=by simpa using hx
     subst this
     rw[e1];rfl
   · exact List.all_eq_true.1 hz _ (by rw[e2];exact List.mem_map.2 ⟨x,by simpa using hx,rfl⟩)
 · have ha':Qc ⟨s',[]⟩ fo xs=some (f',args):=by
    rw[Wa (s:=s) (H:=H) ts fun x hx=>hs' x (by rw[ho];exact hx)];exact ha
   obtain⟨h1,h2⟩:=W7 ha'
   refine JZ.call ho h1 he ?_
   rw[h2]
   refine Jn.weaker (Q':=fun r H'=>Vu H' r=some v) hc fun r H' hr=>⟨[],fun _ _ h=>by simp at h, ?_⟩
   rw[show r=v from hr];exact hv
theorem Ku{n:Int}(h: -9223372036854775808≤n∧n≤9223372036854775807):IntKind.i64.wrap n=n:=Fy h.1 h.2
theorem ok_u8{n:Int}(h:0≤n∧n≤255):IntKind.u8.wrap n=n:=by simp only[IntKind.wrap];simp[IntKind.bits,IntKind.signed];omega
attribute [go_sem] Jmv Jhk JeO Jmw Jk9 Jjb Jk8 Jk6 Jk7 JcH Jgj Jh5 JaD JeW JeX BR BS
 Jj8 JhQ JlH JlI JgY Jg2 JgZ Jg1 Jg0 Jiq Jer JkC Jip Jit Jap Jgv Jir JkA Jl2 Jis Jaq Jgw JbG Jgu Jky Jkz Jc5 JbH
 Jko Jic JlQ JlR JgT JgX JgU JgW JgV
 Jkq Jgo Jkp JlV qW_un Jks JbD Jif JbC Jie Jkr JcW Jid JlU JlS JlT Jen Jig UN XM
 Jes JkB Jgy Jgt Nb Jao Jgq Jgr List.set_cons_zero List.set_cons_succ Jk1 Jk3 Jja Jmo Jk2 List.getD_cons_zero List.getD_cons_succ
 Jlg JeY Jhv FA Jjf Jlh JjJ JjD JjB JjA JjC JjE Jjy JjG Jjv Jjz Jjx Jjw JjF Jli Jju JdV
 Option.map_some JmB JeJ Jik List.getElem?_toArray List.getElem?_cons_zero List.getElem?_cons_succ Option.bind_some Jhj Jb4 Jh9 Jh8 Jel Jj9 Jka JbK Jex JgJ Jat Jdh Jez Jas Jdg Jey Jkf Jkg Jh3 sle_c
 JkO JkN JkM JgG JiU Ku ok_u8 Jiv Jl3 JiR BO Kx RU AV.c.injEq CV.f.injEq FV.int.injEq FV.bool.injEq true_and and_true if_true Bool.false_eq_true if_false
theorem nif_t{α:Sort _}{a b:Nat}{x y:α}(h:a=b):(if a=b then x else y)=x:=if_pos h
theorem nif_f{α:Sort _}{a b:Nat}{x y:α}(h:a≠b):(if a=b then x else y)=y:=if_neg h
theorem lif_t{α:Sort _}{a b:Nat}{x y:α}(h:a<b):(if a<b then x else y)=x:=if_pos h
theorem lif_f{α:Sort _}{a b:Nat}{x y:α}(h:¬a<b):(if a<b then x else y)=y:=if_neg h
attribute [go_sem] nif_t nif_f lif_t lif_f CV.own.injEq CV.ptr.injEq
attribute [go_sem↓] Jkv Jkw
end Go.Lg
