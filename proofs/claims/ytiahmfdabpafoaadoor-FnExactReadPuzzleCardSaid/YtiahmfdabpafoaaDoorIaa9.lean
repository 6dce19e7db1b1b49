/- LgN2, cut to what is needed. -/
import Derived.Test.YtiahmfdabpafoaaDoorIaa8
open Nat renaming reduceAdd→zA,reduceMul→zM,reduceSub→zS,reduceEqDiff→zE,reduceLeDiff→zL
set_option linter.unusedSimpArgs false
set_option linter.unusedVariables false
namespace Go.Lg
def boolV:AV→Option Bool
 | .c (.f (.bool b))=>some b
 |_=>none
theorem boolV_some{v:AV}{b:Bool}(h:boolV v=some b):v= .c (.f (.bool b)):=by
 unfold boolV at h
 split at h
 · cases h;rfl
 · cases h
def condP(b:Bool)(A B:Prop):Prop:=(b=true→A)∧(b=false→B)
abbrev KT:=Exit→List AV→Heap→Prop
def nrm(K:KS)(e:Exit)(st:St):Prop:=match e with
 | .normal=>K st.s st.h
 |_=>False
def drawP(P:Program)(ops:Array Oper)(s:List AV)(H:Heap)(K:KS):Prop:=
 P.follows .mixedOrders=true∧((softB ops=true∧qw P ops ops.toList s H K)∨(∃π F D σ m,planB ops π F D σ=true∧lw P ops m F D π none s H fun s H=>sw P ops σ s H K)∨∀id,RunC P (.region id ops true) ⟨s,H⟩ (nrm K))
theorem drawP_q{P:Program}{ops:Array Oper}{s:List AV}{H:Heap}{K:KS}(hm:P.follows .mixedOrders=true)(hB:softB ops=true)(h:qw P ops ops.toList s H K):drawP P ops s H K:=⟨hm, .inl ⟨hB,h⟩⟩
theorem drawP_l{P:Program}{ops:Array Oper}{s:List AV}{H:Heap}{K:KS}(π:List Nat)(F:List Nat)(D:Option Nat)(σ:List Nat)(m:List Bool)(hm:P.follows .mixedOrders=true)(hB:planB ops π F D σ=true)(h:lw P ops m F D π none s H (swK P ops σ K)):drawP P ops s H K:=
 ⟨hm, .inr (.inl ⟨π,F,D,σ,m,hB,h⟩)⟩
theorem drawP_sound{P:Program}{id:Nat}{ops:Array Oper}{s:List AV}{H:Heap}{Q:Exit→St→Prop}(h:drawP P ops s H fun s H=>Q .normal ⟨s,H⟩):RunC P (.region id ops true) ⟨s,H⟩ Q:=by
 obtain⟨hm,⟨hB,h⟩|⟨π,F,D,σ,m,hB,h⟩|h⟩:=h
 · exact RunC.regionF hm hB (qw_sound _ _ _ _ h)
 · exact RunC.regionL π F D σ m hm hB h
 · exact(h id).mono fun e st hq=>by
    cases e with
    |normal=>exact hq
    |_=>exact hq.elim
def cw(P:Program):Code→List AV→Heap→KT→Prop
 | .skip,s,H,K=>K .normal s H
 | .exit id,s,H,K=>K (.exit id) s H
 | .ret,s,H,K=>K .ret s H
 | .region _ ops false,s,H,K=>vw P ops ops.toList s H (K .normal)
 | .region _ ops true,s,H,K=>drawP P ops s H (K .normal)
 | .seq x y,s,H,K=>cw P x s H fun e s' H'=>match e with
   | .normal=>cw P y s' H' K
   |e=>K e s' H'
 | .cond c x y,s,H,K=>bindP (boolV (evO s c)) fun b=>condP b (cw P x s H K) (cw P y s H K)
 | .block id c,s,H,K=>cw P c s H fun e s' H'=>match e with
   | .exit id'=>if id'=id then K .normal s' H' else K (.exit id') s' H'
   |e=>K e s' H'
 |c,s,H,K=>RunC P c ⟨s,H⟩ fun e st=>K e st.s st.h
def seqK(P:Program)(y:Code)(K:KT):KT:=fun e s' H'=>match e with
    | .normal=>cw P y s' H' K
    |e=>K e s' H'
def condK(P:Program)(x y:Code)(s:List AV)(H:Heap)(K:KT):Bool→Prop:=fun b=>condP b (cw P x s H K) (cw P y s H K)
def blockK(id:Nat)(K:KT):KT:=fun e s' H'=>match e with
    | .exit id'=>if id'=id then K .normal s' H' else K (.exit id') s' H'
    |e=>K e s' H'
def stK(K:KT):Exit→St→Prop:=fun e st=>K e st.s st.h
theorem cw_sound{P:Program}:∀(c:Code) (s:List AV) (H:Heap) (K:KT),cw P c s H K→RunC P c ⟨s,H⟩ (stK K)
 | .skip,s,H,K,h=>RunC.skip h
 | .exit id,s,H,K,h=>RunC.exit h
 | .ret,s,H,K,h=>RunC.ret h
 | .region _ ops false,s,H,K,h=>RunC.region (vw_sound _ _ _ _ h)
 | .region _ ops true,s,H,K,h=>drawP_sound h
 | .seq x y,s,H,K,h=>RunC.seq ((cw_sound x s H _ h).mono fun e st hq=>by
    cases e with
    |normal=>exact cw_sound y _ _ K hq
    |exit id=>exact hq
    |goto l=>exact hq
    |ret=>exact hq
    |panic c=>exact hq
    |outgrown=>exact hq)
 | .cond c x y,s,H,K,h=>by
   obtain⟨b,h1,h2,h3⟩:=h
   exact RunC.cond (boolV_some h1) (fun hb=>cw_sound x s H K (h2 hb)) (fun hb=>cw_sound y s H K (h3 hb))
 | .block id c,s,H,K,h=>RunC.block ((cw_sound c s H _ h).mono fun e st hq=>by
    cases e with
    |exit id'=>exact hq
    |normal=>exact hq
    |goto l=>exact hq
    |ret=>exact hq
    |panic c=>exact hq
    |outgrown=>exact hq)
 | .loop _,s,H,K,h=>h
 | .rangeFunc _ _ _ _,s,H,K,h=>h
 | .scope _,s,H,K,h=>h
 | .label _,s,H,K,h=>h
 | .goto _,s,H,K,h=>h
 | .refuse _,s,H,K,h=>h
def doneK(P:Program)(rs:List ResultVar)(Q:KV):KT:=fun e s H=>(e= .normal∨e= .ret)∧bindP (resV P s H rs) fun v=>∃H',HLe H H'∧Q v H'
def lessQ(H:Heap)(Q:KV):AV→Prop:=fun v=>∃H',HLe H H'∧Q v H'
theorem RunCall.cw{P:Program}{f:FuncId}{fn:Func}{c:Code}{args:List AV}{H:Heap}{Q:KV}(hf:P.funcs[f]? =some fn)(hb:fn.body=some c){n:Nat}(hn:fn.ntmps=n){rs:List ResultVar}(hr:fn.results.toList=rs)
 (h:Lg.cw P c (args++List.replicate (n -args.length) .void) H (doneK P rs Q)):RunCall P f args H Q:=by
 subst hn hr
 exact RunCall.of_body hf hb ((cw_sound _ _ _ _ h).mono fun e st ⟨h1,v,h2,H',h3,h4⟩=>⟨h1,v,H',h2,h3,h4⟩)
section
variable{P:Program}{ops:Array Oper}{s:List AV}{H:Heap}{K:KS}{Q:KT}{F:KV}
theorem cw_skip:cw P .skip s H Q=Q .normal s H:=propext Iff.rfl
theorem cw_exit(i:Nat):cw P (.exit i) s H Q=Q (.exit i) s H:=propext Iff.rfl
theorem cw_ret:cw P .ret s H Q=Q .ret s H:=propext Iff.rfl
theorem cw_region(i:Nat)(l:List Oper):cw P (.region i l.toArray false) s H Q=vw P l.toArray l s H (Q .normal):=propext Iff.rfl
theorem cw_regionQ(i:Nat)(l:List Oper):cw P (.region i l.toArray true) s H Q=drawP P l.toArray s H (Q .normal):=propext Iff.rfl
theorem cw_seq(x y:Code):cw P (.seq x y) s H Q=cw P x s H (seqK P y Q):=propext Iff.rfl
theorem cw_cond(c:Operand)(x y:Code):cw P (.cond c x y) s H Q=bindP (boolV (evO s c)) (condK P x y s H Q):=propext Iff.rfl
theorem cw_block(i:Nat)(c:Code):cw P (.block i c) s H Q=cw P c s H (blockK i Q):=propext Iff.rfl
theorem cw_loop(c:Code):cw P (.loop c) s H Q=RunC P (.loop c) ⟨s,H⟩ (stK Q):=propext Iff.rfl
theorem condK_ap(x y:Code)(b:Bool):condK P x y s H Q b=condP b (cw P x s H Q) (cw P y s H Q):=propext Iff.rfl
theorem seqK_normal(y:Code):seqK P y Q .normal s H=cw P y s H Q:=propext Iff.rfl
theorem seqK_exit(y:Code)(i:Nat):seqK P y Q (.exit i) s H=Q (.exit i) s H:=propext Iff.rfl
theorem seqK_ret(y:Code):seqK P y Q .ret s H=Q .ret s H:=propext Iff.rfl
theorem blockK_normal(i:Nat):blockK i Q .normal s H=Q .normal s H:=propext Iff.rfl
theorem blockK_ret(i:Nat):blockK i Q .ret s H=Q .ret s H:=propext Iff.rfl
theorem blockK_hit(i:Nat):blockK i Q (.exit i) s H=Q .normal s H:=by simp[blockK]
theorem doneK_ret(rs:List ResultVar):doneK P rs F .ret s H=bindP (resV P s H rs) (lessQ H F):=by simp only[doneK,reduceCtorEq,true_or,or_true,true_and];rfl
theorem doneK_normal(rs:List ResultVar):doneK P rs F .normal s H=bindP (resV P s H rs) (lessQ H F):=by simp only[doneK,reduceCtorEq,true_or,or_true,true_and];rfl
theorem vw_nil:vw P ops [] s H K=K s H:=by rw[vw]
theorem vw_cons(d:Option Tmp)(op:Op)(t:TypeId)(p:String)(e:Array Edge)(r:List Oper):
 vw P ops (⟨d,op,t,p,e,none⟩::r) s H K=opW P ⟨d,op,t,p,e,none⟩ s H (vwK P ops r s d K):=by rw[vw];rfl
theorem vw_guard(d:Option Tmp)(op:Op)(t:TypeId)(p:String)(e:Array Edge)(j:Nat)(want:Bool)(r:List Oper):
 vw P ops (⟨d,op,t,p,e,some (j,want)⟩::r) s H K=bindP (guardV ops s j) (guardK P ops ⟨d,op,t,p,e,some (j,want)⟩ r s H K want):=by rw[vw];rfl
theorem vwK_ap(r:List Oper)(d:Option Tmp)(v:AV)(H':Heap):vwK P ops r s d K v H'=vw P ops r (putS s d v) H' K:=propext Iff.rfl
theorem guardK_ap(d:Option Tmp)(op:Op)(t:TypeId)(p:String)(e:Array Edge)(gd:Option (Nat×Bool))(r:List Oper)(want:Bool)(g:Option Bool):
 guardK P ops ⟨d,op,t,p,e,gd⟩ r s H K want g=guardP g want (opW P ⟨d,op,t,p,e,gd⟩ s H (vwK P ops r s d K)) (vw P ops r (putS s d .void) H K):=propext Iff.rfl
theorem qw_nil:qw P ops [] s H K=K s H:=by rw[qw]
theorem qw_cons(d:Option Tmp)(op:Op)(t:TypeId)(p:String)(e:Array Edge)(r:List Oper):
 qw P ops (⟨d,op,t,p,e,none⟩::r) s H K=quietW P ops ⟨d,op,t,p,e,none⟩ s H (qwK P ops r s d H K):=by rw[qw];rfl
theorem qw_guard(d:Option Tmp)(op:Op)(t:TypeId)(p:String)(e:Array Edge)(j:Nat)(want:Bool)(r:List Oper):
 qw P ops (⟨d,op,t,p,e,some (j,want)⟩::r) s H K=bindP (guardV ops s j) (guardQ P ops ⟨d,op,t,p,e,some (j,want)⟩ r s H K want):=by rw[qw];rfl
theorem qwK_ap(r:List Oper)(d:Option Tmp)(v:AV):qwK P ops r s d H K v=qw P ops r (putS s d v) H K:=propext Iff.rfl
theorem guardQ_ap(d:Option Tmp)(op:Op)(t:TypeId)(p:String)(e:Array Edge)(gd:Option (Nat×Bool))(r:List Oper)(want:Bool)(g:Option Bool):
 guardQ P ops ⟨d,op,t,p,e,gd⟩ r s H K want g=guardP g want (quietW P ops ⟨d,op,t,p,e,gd⟩ s H (qwK P ops r s d H K)) (qw P ops r (putS s d .void) H K):=propext Iff.rfl
theorem guardP_tt(A B:Prop):guardP (some true) true A B=A:=by simp[guardP]
theorem guardP_ff(A B:Prop):guardP (some false) false A B=A:=by simp[guardP]
theorem guardP_tf(A B:Prop):guardP (some true) false A B=B:=by simp[guardP]
theorem guardP_ft(A B:Prop):guardP (some false) true A B=B:=by simp[guardP]
theorem guardP_none(w:Bool)(A B:Prop):guardP none w A B=B:=by simp[guardP]
theorem condP_t(A B:Prop):condP true A B=A:=by simp[condP]
theorem condP_f(A B:Prop):condP false A B=B:=by simp[condP]
theorem boolV_b(b:Bool):boolV (.c (.f (.bool b)))=some b:=rfl
variable{d:Option Tmp}{t:TypeId}{p:String}{e:Array Edge}{g:Option (Nat×Bool)}
def pickK(s:List AV)(H:Heap)(x y:Operand)(F:KV):Bool→Prop:=fun b=>F (if b then evO s x else evO s y) H
theorem pickK_t(x y:Operand):pickK s H x y F true=F (evO s x) H:=propext Iff.rfl
theorem pickK_f(x y:Operand):pickK s H x y F false=F (evO s y) H:=propext Iff.rfl
theorem pickK_ap(x y:Operand)(b:Bool):pickK s H x y F b=F (if b then evO s x else evO s y) H:=propext Iff.rfl
theorem opW_move(x:Operand):opW P ⟨d, .move x,t,p,e,g⟩ s H F=F (evO s x) H:=by simp[opW,isVal,opV,bindP,atH]
theorem opW_assign(x:Operand):opW P ⟨d, .assign x,t,p,e,g⟩ s H F=F (evO s x) H:=by simp[opW,isVal,opV,bindP,atH]
theorem opV_pick(c x y:Operand):opV P s H (.pick c x y)=(boolV (evO s c)).map fun b=>if b then evO s x else evO s y:=by
 simp only[opV,boolV]
 cases evO s c with
 |c x=>cases x with
  |f y=>cases y<;>rfl
  |_=>rfl
 |_=>rfl
theorem opW_pick(c x y:Operand):opW P ⟨d, .pick c x y,t,p,e,g⟩ s H F=bindP (boolV (evO s c)) (pickK s H x y F):=by
 simp only[opW,isVal,if_true,opV_pick,bindP_map];rfl
theorem opW_bin(op:BinOp)(xt:TypeId)(x y:Operand)(yt:TypeId):opW P ⟨d, .binOp op xt x y yt,t,p,e,g⟩ s H F=bindP (binV P s H op xt x y) (atH F H):=propext Iff.rfl
theorem opW_un(op:UnOp)(xt:TypeId)(x:Operand):opW P ⟨d, .unOp op xt x,t,p,e,g⟩ s H F=bindP (unV op (evO s x)) (atH F H):=propext Iff.rfl
theorem opW_conv(st dt:TypeId)(x:Operand):opW P ⟨d, .convert st dt x,t,p,e,g⟩ s H F=bindP (convV P H st dt (evO s x)) (atH F H):=propext Iff.rfl
theorem opW_fieldAddr(st:TypeId)(x:Operand)(f:Nat):opW P ⟨d, .fieldAddr st x f,t,p,e,g⟩ s H F=bindP (fieldV P H st (evO s x) f) (atH F H):=propext Iff.rfl
theorem opW_field(st:TypeId)(x:Operand)(f:Nat):opW P ⟨d, .field st x f,t,p,e,g⟩ s H F=bindP (fieldA P st (evO s x) f) (atH F H):=propext Iff.rfl
theorem opW_indexAddr(st:TypeId)(x i:Operand):opW P ⟨d, .indexAddr st x i,t,p,e,g⟩ s H F=bindP (elemV P H st (evO s x) (evO s i)) (atH F H):=propext Iff.rfl
theorem opW_index(st:TypeId)(x i:Operand):opW P ⟨d, .index st x i,t,p,e,g⟩ s H F=bindP (indexV P st (evO s x) (evO s i)) (atH F H):=propext Iff.rfl
theorem opW_load(st:TypeId)(x:Operand):opW P ⟨d, .load st x,t,p,e,g⟩ s H F=bindP (loadV P H st (evO s x)) (atH F H):=propext Iff.rfl
theorem opW_nilCheck(x:Operand):opW P ⟨d, .nilCheck x,t,p,e,g⟩ s H F=bindP (nilV H (evO s x)) (atH F H):=propext Iff.rfl
def sliceO(P:Program)(s:List AV)(H:Heap)(st:TypeId)(x:Operand)(lo hi mx:Option Operand):Option AV:=match bound s lo,bound s hi,bound s mx with
    |some l,some h,some m=>sliceV P H st (evO s x) l h m
    |_,_,_=>none
theorem opW_slice(st:TypeId)(x:Operand)(lo hi mx:Option Operand):opW P ⟨d, .slice st x lo hi mx,t,p,e,g⟩ s H F=bindP (sliceO P s H st x lo hi mx) (atH F H):=propext Iff.rfl
theorem opW_len(x:Operand)(xt:TypeId):opW P ⟨d, .call ⟨.builtin .len,#[x],#[xt]⟩,t,p,e,g⟩ s H F=bindP (lenO P H xt (evO s x)) (atH F H):=propext Iff.rfl
theorem opW_min(x y:Operand)(ts:Array TypeId):opW P ⟨d, .call ⟨.builtin .min,#[x,y],ts⟩,t,p,e,g⟩ s H F=bindP (minV false (evO s x) (evO s y)) (atH F H):=propext Iff.rfl
theorem opW_max(x y:Operand)(ts:Array TypeId):opW P ⟨d, .call ⟨.builtin .max,#[x,y],ts⟩,t,p,e,g⟩ s H F=bindP (minV true (evO s x) (evO s y)) (atH F H):=propext Iff.rfl
def extractO(i:Nat):AV→Option AV
 | .tup vs=>vs[i]?
 |_=>none
theorem opW_extract(x:Operand)(i:Nat):opW P ⟨d, .extract x i,t,p,e,g⟩ s H F=bindP (extractO i (evO s x)) (atH F H):=propext Iff.rfl
theorem opW_makeFunc(f:FuncId)(fi ca:Array Operand):opW P ⟨d, .makeFunc (.func f) fi ca,t,p,e,g⟩ s H F=bindP (if fi.size=0 then(ca.toList.mapM (capOf s)).map fun l=> .c (.fn f l)else none) (atH F H):=propext Iff.rfl
theorem opW_call(f:Operand)(xs:Array Operand)(ts:Array TypeId):opW P ⟨d, .call ⟨.value f,xs,ts⟩,t,p,e,g⟩ s H F=OpS P ⟨d, .call ⟨.value f,xs,ts⟩,t,p,e,g⟩ ⟨s,H⟩ F:=by simp[opW,isVal,opM]
theorem opW_append(x y:Operand)(u:TypeId):opW P ⟨d, .call ⟨.builtin .append,#[x,y],#[u,u]⟩,t,p,e,g⟩ s H F=appendM P H u (evO s x) (evO s y) F:=by simp[opW,isVal,opM]
theorem opW_box(bt:TypeId)(x:Operand):opW P ⟨d, .box bt x,t,p,e,g⟩ s H F=boxM H (evO s x) F:=propext Iff.rfl
theorem opW_alloc(bt:TypeId):opW P ⟨d, .alloc bt,t,p,e,g⟩ s H F=allocM P H bt F:=propext Iff.rfl
theorem opW_store(bt:TypeId)(x y:Operand):opW P ⟨d, .store bt x y,t,p,e,g⟩ s H F=storeM P H bt (evO s x) (evO s y) F:=propext Iff.rfl
theorem opW_buildSlice(bt:TypeId)(n:Nat)(ps:List (Nat×Operand)):opW P ⟨d, .buildSlice bt n ps.toArray,t,p,e,g⟩ s H F=buildM P s H bt n ps F:=propext Iff.rfl
theorem opW_makeSlice(bt:TypeId)(x y:Operand):opW P ⟨d, .makeSlice bt x y,t,p,e,g⟩ s H F=makeM P H bt (evO s x) (evO s y) F:=propext Iff.rfl
theorem evO_tmp(n:Nat):evO s (.tmp n)=s.getD n .void:=rfl
theorem evO_int(k:IntKind)(n:Int):evO s (.const (.int k n))= .c (.f (.int k n)):=rfl
theorem evO_bool(b:Bool):evO s (.const (.bool b))= .c (.f (.bool b)):=rfl
theorem evO_nil:evO s (.const (.slice none 0 0))= .c (.f .nil):=rfl
theorem evO_fn(f:FuncId):evO s (.func f)= .c (.fn f []):=rfl
theorem putS_some(n:Nat)(v:AV):putS s (some n) v=s.set n v:=rfl
theorem putS_none(v:AV):putS s none v=s:=rfl
def binA(P:Program)(H:Heap)(op:BinOp)(t:TypeId)(x y:AV):Option AV:=
 match x,y with
 | .c (.f (.int k a)), .c (.f (.int k' b))=>(binI op k a k' b).map fun r=> .c (.f r)
 | .c (.f (.str a)), .c (.f (.str b))=>match op with
   | .add=>if a.size+b.size≤9223372036854775807 then some (.c (.f (.str (a++b))))else none
   | .eql=>some (.c (.f (.bool (a.toList==b.toList))))
   | .neq=>some (.c (.f (.bool (!(a.toList==b.toList)))))
   |_=>none
 | .c (.f (.bool a)), .c (.f (.bool b))=>match tinf P t with
   |some ti=>match ti.k,op with
    | .bool, .eql=>some (.c (.f (.bool (a==b))))
    | .bool, .neq=>some (.c (.f (.bool (!(a==b)))))
    |_,_=>none
   |none=>none
 | .agg cs, .agg ds=>aggV P op t cs ds
 |vx,vy=>match tinf P t,isNilV H vx,isNilV H vy with
  |some ti,some nx,some ny=>match ti.k,op with
   | .slice _, .eql=>if ny=true then some (.c (.f (.bool nx)))else if nx=true then some (.c (.f (.bool ny)))else none
   | .slice _, .neq=>if ny=true then some (.c (.f (.bool (!nx))))else if nx=true then some (.c (.f (.bool (!ny))))else none
   |_,_=>none
  |_,_,_=>none
theorem binV_eq(op:BinOp)(xt:TypeId)(x y:Operand):binV P s H op xt x y=binA P H op xt (evO s x) (evO s y):=rfl
theorem binA_int(op:BinOp)(xt:TypeId)(k k':IntKind)(a b:Int):binA P H op xt (.c (.f (.int k a))) (.c (.f (.int k' b)))=(binI op k a k' b).map fun r=> .c (.f r):=rfl
end
end Go.Lg
