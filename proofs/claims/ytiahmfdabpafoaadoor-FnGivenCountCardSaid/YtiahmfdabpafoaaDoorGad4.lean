/- GpMK, GpTA, GpTG, GpTH, GpEK, GpXS, cut to what is needed. -/
import Derived.Test.YtiahmfdabpafoaaDoorGad0
import Derived.Test.YtiahmfdabpafoaaDoorGac3
import Derived.Test.YtiahmfdabpafoaaDoorGac4
import Derived.Test.YtiahmfdabpafoaaDoorGad3
import Derived.Test.YtiahmfdabpafoaaDoorGac2
import Derived.Test.YtiahmfdabpafoaaDoorGab6
import Derived.Test.YtiahmfdabpafoaaDoorGab3
import Derived.Test.YtiahmfdabpafoaaDoorGac1
import Derived.Test.YtiahmfdabpafoaaDoorGab9
import Derived.Test.YtiahmfdabpafoaaDoorGac0
import Derived.Test.YtiahmfdabpafoaaDoorGac8
import Derived.Test.YtiahmfdabpafoaaDoorGac9
import Derived.Shelf.Strconv.Itoa0
import Derived.Shelf.Strconv.Itoa1
import Derived.Shelf.LaysM
import Derived.Shelf.Strconv.Itoa2
import Derived.Shelf.Strconv.Itoa3
open Nat renaming reduceAdd→zA,reduceMul→zM,reduceSub→zS,reduceEqDiff→zE,reduceLeDiff→zL
set_option linter.unusedSimpArgs false
set_option linter.unusedVariables false
set_option maxRecDepth 100000
namespace Go.Lg
open Go.Proofs
theorem sum_le_mul:∀(l:List Nat) (b:Nat),(∀x∈l,x≤b)→l.sum≤b*l.length
 |[],b,_=>by simp
 |x::l,b,h=>by
  have h1:=sum_le_mul l b fun y hy=>h y (by simp[hy])
  have h2:=h x (by simp)
  simp only[List.sum_cons,List.length_cons,Nat.mul_add,Nat.mul_one]
  omega
theorem MsN.sum{ms:List Nat}{n:Nat}(hn:n=2∨n=3∨n=4)(h:MsN ms n):ms.sum≤480:=by
 have h1:=sum_le_mul ms 30 fun x hx=>by have:=(h.val x hx).1;have:=pow_n hn;omega
 have h2:ms.length≤16:=by rw[h.len];rcases hn with rfl|rfl|rfl<;>omega
 omega
end Go.Lg

namespace Go.Lg
open Go.Proofs
def onlyL(ms:List Nat):List Nat:=ms.map onlyV
def endM(p:Puz)(ms:List Nat):Option Nat:=
 if(∃m∈ms,m=0)then some 0 else if(∀m∈ms,onlyV m≠0)then some (if solvedV p (nats (onlyL ms))=true then 1 else 0)else none
end Go.Lg

namespace Go.Lg
open Go.Proofs
attribute [-go_sem] appendM lwF_cons
def openK(ms:List Nat):Nat:=((List.range ms.length).find? fun k=>decide (onlyV (mAt ms k)=0)).getD 0
def mkF(p:Puz):Nat→List Nat→List Brn→List Brn
 |0,_,out=>out
 |f+1,ms,out=>if 200<out.length then out else match endM p ms with
  |some _=>out
  |none=>if nextM p ms≠0 then mkF p f (narM p (nextM p ms) ms) (out++[⟨nextM p ms,0⟩])else(mvals (mAt ms (openK ms)) 4).foldl (fun o v=>mkF p f (ms.set (openK ms) (2^v.toNat)) o) (out++[⟨0,openK ms⟩])
abbrev brnH (g:Nat) (b:Brn):Heap:=[some ⟨g,2,cB b⟩]
def mkQ(H:Heap)(id:Nat)(R:List Brn):KV:=fun v H'=>∃g',v= .c (.own id g' 0 R.length none)∧look H' id g'=some ⟨g',2,cl eB R⟩∧Frm H H' [id]
structure MkI(H HI:Heap)(id g gb:Nat)(p:Puz)(out:List Brn):Prop where
 cells:look HI id g=some ⟨g,2,cl eB out⟩
 box:look HI H.length gb=some ⟨gb,1,cP p⟩
 lt:id<H.length
 ln:H.length+1≤HI.length
 frm:∀i,i<H.length→i≠id→HI[i]? =H[i]?
theorem MkI.done{H HI:Heap}{id g gb:Nat}{p:Puz}{out:List Brn}(h:MkI H HI id g gb p out):lessQ HI (mkQ H id out) (.c (.own id g 0 out.length none)):=by
 have hl:=h.lt
 have hn:=h.ln
 refine⟨HI.take H.length,fun i b hb=> ?_,g,rfl, ?_,by simp;omega,fun i hi=> ?_⟩
 · by_cases hi:i<H.length
   · rwa [List.getElem?_take_of_lt hi]at hb
   · rw[List.getElem?_take_eq_none (by omega)]at hb;cases hb
 · have hc:=h.cells
   unfold look at hc⊢
   rw[List.getElem?_take_of_lt hl]
   exact hc
 · by_cases h2:i<H.length
   · rw[List.getElem?_take_of_lt h2,h.frm i h2 (by simpa using hi)]
   · rw[List.getElem?_take_eq_none (by omega),List.getElem?_eq_none (by omega)]
theorem MkI.app{H HI H':Heap}{id g gb:Nat}{p:Puz}{out:List Brn}(h:MkI H HI id g gb p out):MkI H (HI++H') id g gb p out:=
 ⟨look_appL h.cells,look_appL h.box,h.lt,by have:=h.ln;simp;omega,fun i h1 h2=>by rw[List.getElem?_append_left (by have:=h.ln;omega)];exact h.frm i h1 h2⟩
theorem MkI.put{H HI:Heap}{id g gb:Nat}{p:Puz}{out R:List Brn}(h:MkI H HI id g gb p out)(g':Nat):MkI H (HI.set id (some ⟨g',2,cl eB R⟩)) id g' gb p R:=by
 have hl:=h.lt
 have hn:=h.ln
 refine⟨?_, ?_,hl,by simp;omega,fun i h1 h2=>by rw[List.getElem?_set_ne (Ne.symm h2)];exact h.frm i h1 h2⟩
 · unfold look
   rw[List.getElem?_set_self (by omega)]
   simp
 · have hb:=h.box
   unfold look at hb⊢
   rw[List.getElem?_set_ne (by omega)]
   exact hb
theorem MkI.step{H HI H':Heap}{id g g' gb:Nat}{p:Puz}{out R:List Brn}(h:MkI H HI id g gb p out)(hf:Frm HI H' [id])(hc:look H' id g'=some ⟨g',2,cl eB R⟩):MkI H H' id g' gb p R:=by
 have hl:=h.lt
 have hn:=h.ln
 refine⟨hc, ?_,hl,by rw[hf.1];exact hn,fun i h1 h2=>by rw[hf.2 i (by simpa using h2)];exact h.frm i h1 h2⟩
 have hb:=h.box
 unfold look at hb⊢
 rw[hf.2 _ (by simp;omega)]
 exact hb
end Go.Lg

namespace Go.Lg
open Go.Proofs
attribute [-go_sem] appendM lwF_cons
theorem frz_ints{S:Nat→Bool}{H:Heap}{id g:Nat}{lim:Option Nat}{xs:List Int}(hS:S id=true)(hl:look H id g=some ⟨g,1,cl (eI .i64) xs⟩):frzS S H 6 (.own id g 0 xs.length lim)=some (fints xs):=by
 have hcl:(cl (eI .i64) xs).length=xs.length*1:=cl_length xs
 have e:((cl (eI .i64) xs).drop 0).take (xs.length*1)=cl (eI .i64) xs:=by rw[List.drop_zero,List.take_of_length_le (by omega)]
 show(if S id then match look H id g with
  |some b=>(((b.cs.drop 0).take (xs.length*b.sz)).mapM (frzS S H 5)).map (FV.sl xs.length)
  |none=>none else none)=_
 rw[if_pos hS,hl]
 show(((((cl (eI .i64) xs).drop 0).take (xs.length*1)).mapM (frzS S H 5)).map (FV.sl xs.length))=_
 rw[e]
 have:∀l:List Int,(cl (eI .i64) l).mapM (frzS S H 5)=some (fl (eI .i64) l):=by
  intro l
  induction l with
  |nil=>rfl
  |cons x l ih=>
   show(CV.f (.int .i64 x)::cl (eI .i64) l).mapM (frzS S H 5)=_
   rw[List.mapM_cons,ih]
   rfl
 rw[this]
 rfl
structure MkJ(H HI:Heap)(id pid g pg gb:Nat)(p:Puz)(out:List Brn):Prop where
 cells:look HI id g=some ⟨g,2,cl eB out⟩
 cell:look HI pid pg=some ⟨pg,1,[.own id g 0 out.length none]⟩
 box:look HI H.length gb=some ⟨gb,1,cP p⟩
 lt:id<H.length
 lt2:pid<H.length
 ne:id≠pid
 ln:H.length+1≤HI.length
 frm:∀i,i<H.length→i≠id→i≠pid→HI[i]? =H[i]?
def mkQ2(H:Heap)(id pid pg:Nat)(R:List Brn):KV:=fun v H'=>v= .tup []∧∃g',look H' id g'=some ⟨g',2,cl eB R⟩∧look H' pid pg=some ⟨pg,1,[.own id g' 0 R.length none]⟩∧Frm H H' [id,pid]
theorem MkJ.done{H HI:Heap}{id pid g pg gb:Nat}{p:Puz}{out:List Brn}(h:MkJ H HI id pid g pg gb p out):lessQ HI (mkQ2 H id pid pg out) (.tup []):=by
 have hl:=h.lt
 have hl2:=h.lt2
 have hn:=h.ln
 refine⟨HI.take H.length,fun i b hb=> ?_,rfl,g, ?_, ?_,by simp;omega,fun i hi=> ?_⟩
 · by_cases hi:i<H.length
   · rwa [List.getElem?_take_of_lt hi]at hb
   · rw[List.getElem?_take_eq_none (by omega)]at hb;cases hb
 · have hc:=h.cells
   unfold look at hc⊢
   rw[List.getElem?_take_of_lt hl]
   exact hc
 · have hc:=h.cell
   unfold look at hc⊢
   rw[List.getElem?_take_of_lt hl2]
   exact hc
 · simp only[List.mem_cons,List.not_mem_nil,or_false,not_or]at hi
   by_cases h2:i<H.length
   · rw[List.getElem?_take_of_lt h2,h.frm i h2 hi.1 hi.2]
   · rw[List.getElem?_take_eq_none (by omega),List.getElem?_eq_none (by omega)]
theorem MkJ.app{H HI H':Heap}{id pid g pg gb:Nat}{p:Puz}{out:List Brn}(h:MkJ H HI id pid g pg gb p out):MkJ H (HI++H') id pid g pg gb p out:=
 ⟨look_appL h.cells,look_appL h.cell,look_appL h.box,h.lt,h.lt2,h.ne,by have:=h.ln;simp;omega,fun i h1 h2 h3=>by rw[List.getElem?_append_left (by have:=h.ln;omega)];exact h.frm i h1 h2 h3⟩
theorem MkJ.step{H HI H':Heap}{id pid g g' pg gb:Nat}{p:Puz}{out R:List Brn}(h:MkJ H HI id pid g pg gb p out)(hf:∀i,i<HI.length→i≠id→i≠pid→i≤H.length→H'[i]? =HI[i]?)(hln:HI.length≤H'.length)(hc:look H' id g'=some ⟨g',2,cl eB R⟩)(hc2:look H' pid pg=some ⟨pg,1,[.own id g' 0 R.length none]⟩):MkJ H H' id pid g' pg gb p R:=by
 have hl:=h.lt
 have hl2:=h.lt2
 have hn:=h.ln
 refine⟨hc,hc2, ?_,hl,hl2,h.ne,by omega,fun i h1 h2 h3=>by rw[hf i (by omega) h2 h3 (by omega)];exact h.frm i h1 h2 h3⟩
 have hb:=h.box
 unfold look at hb⊢
 rw[hf _ (by omega) (by omega) (by omega) (Nat.le_refl _)]
 exact hb
theorem MkJ.push{H HI:Heap}{id pid g pg gb:Nat}{p:Puz}{out:List Brn}(h:MkJ H HI id pid g pg gb p out)(b:Brn)(g1 g':Nat):
 look ((HI++brnH g1 b).set id (some ⟨g',2,cl eB (out++[b])⟩)) pid pg=some ⟨pg,1,[.own id g 0 out.length none]⟩∧
 MkJ H (((HI++brnH g1 b).set id (some ⟨g',2,cl eB (out++[b])⟩)).set pid (some ⟨pg,1,[.own id g' 0 (out.length+1) none]⟩)) id pid g' pg gb p (out++[b]):=by
 have hl:=h.lt
 have hl2:=h.lt2
 have hn:=h.ln
 have hne:=h.ne
 have h1:=(h.app (H':=brnH g1 b)).cell
 have hlen:(HI++brnH g1 b).length=HI.length+1:=by simp
 refine⟨?_,(h.app (H':=brnH g1 b)).step (fun i h2 h3 h4 _=> ?_) (by simp) ?_ ?_⟩
 · unfold look at h1⊢
   rw[List.getElem?_set_ne hne]
   exact h1
 · rw[List.getElem?_set_ne (Ne.symm h4),List.getElem?_set_ne (Ne.symm h3)]
 · unfold look
   rw[List.getElem?_set_ne (Ne.symm hne),List.getElem?_set_self (by omega)]
   simp
 · unfold look
   rw[List.getElem?_set_self (by simp;omega)]
   simp
end Go.Lg

namespace Go.Lg
open Go.Proofs
theorem RunCall.iceIn{P:Program}{f:FuncId}{args args':List AV}{H H':Heap}{Q:KV}(S:Nat→Bool)(hh:IceH S H H')(hl:args'.length=args.length)(ha:∀j (h:j<args.length),∃y,args'[j]? =some y∧Ice1 S H args[j] y)
 (h:RunCall P f args' H' Q):RunCall P f args H Q:=by
 intro w X vs hH hvs
 have hvs':VAs w (X.iceS S H) H' args' vs:=by
  refine⟨by rw[hl];exact hvs.1,fun i hi=> ?_⟩
  obtain⟨u,h1,h2⟩:=hvs.2 i (by omega)
  obtain⟨y,h3,h4⟩:=ha i (by omega)
  have:args'[i]=y:=by simpa[List.getElem?_eq_getElem hi]using h3
  rw[this]
  exact⟨u,h1,ice1_sound hH hh h4 h2⟩
 exact(h w _ vs (iceS_rel hH hh) hvs').mono fun _ w' ⟨v,u,X',H',h1,h2,h3,h4,h5⟩=>⟨v,u,X',H',h1,h2,h3,(iceS_ev hh).trans h4,h5⟩
theorem ice1_three{S:Nat→Bool}{H:Heap}{a b c a' b' c':AV}(h1:Ice1 S H a a')(h2:Ice1 S H b b')(h3:Ice1 S H c c'):∀j (h:j<[a,b,c].length),∃y,[a',b',c'][j]? =some y∧Ice1 S H [a,b,c][j] y:=fun j hj=>by
 match j,hj with
 |0,_=>exact⟨_,rfl,h1⟩
 |1,_=>exact⟨_,rfl,h2⟩
 |2,_=>exact⟨_,rfl,h3⟩
def CntO(number:Nat)(pn gn pf gf:Nat)(H:Heap)(ls:List (List Int))(S:List Nat):Prop:=
 look H pn gn=some ⟨gn,1,[.f (.int .i64 ((number -ls.length:Nat):Int))]⟩∧∃c,look H pf gf=some ⟨gf,1,[c]⟩∧
  ((ls.length≤number∧c= .f .nil∧S=[])∨(number<ls.length∧∃id g,c= .own id g 0 (ls.getD number []).length none∧S=[id]∧look H id g=some ⟨g,1,cl (eI .i64) (ls.getD number [])⟩))
theorem CntO.same{number pn gn pf gf:Nat}{H H':Heap}{ls:List (List Int)}{S:List Nat}(h:CntO number pn gn pf gf H ls S)(hs:∀k,k∈[pn,pf]∨k∈S→H'[k]? =H[k]?):CntO number pn gn pf gf H' ls S:=by
 have k:∀i g b,(i∈[pn,pf]∨i∈S)→look H i g=b→look H' i g=b:=fun i g b hi he=>by unfold look at*;rw[hs i hi];exact he
 obtain⟨h1,c,h2,h3⟩:=h
 refine⟨k _ _ _ (.inl (by simp)) h1,c,k _ _ _ (.inl (by simp)) h2, ?_⟩
 rcases h3 with h|⟨h4,id,g,h5,h6,h7⟩
 · exact .inl h
 · exact .inr ⟨h4,id,g,h5,h6,k _ _ _ (.inr (by rw[h6];simp)) h7⟩
theorem count_tell(number:Nat)(hnm:number<2^40)(n:Nat)(hn:n=2∨n=3∨n=4)(pn gn pf gf:Nat)(hpf:pn≠pf)(gid gg:Nat)(hgF:gid∉[pn,pf])(H:Heap)(xs:List Int)(ls:List (List Int))(S:List Nat)(hxl:xs.length=n*n)(hg:look H gid gg=some ⟨gg,1,cl (eI .i64) xs⟩)(hgS:gid∉S)(hls:ls.length<number+1)
 (hO:CntO number pn gn pf gf H ls S) (hS:∀k∈S,k<H.length):
 RunCall Tryd.prog 62 [.c (.own gid gg 0 (n*n) none), .c (.ptr pn gn 0), .c (.ptr pf gf 0)] H (fun v H'=>v=bool (decide (ls.length+1<number+1))∧∃S',CntO number pn gn pf gf H' (ls++[xs]) S'∧(∀k∈S',k∈S∨H.length≤k)∧(∀k∈S',k<H'.length)∧H.length≤H'.length∧∀k,k<H.length→k∉[pn,pf]→k∉S→H'[k]? =H[k]?):=by
 have hsq:4≤n*n∧n*n≤16:=by rcases hn with rfl|rfl|rfl<;>omega
 obtain⟨kn,c,kf,h3⟩:=hO
 have ltn:=(List.getElem?_eq_some_iff.1 (look_some kn).1).1
 have ltf:=(List.getElem?_eq_some_iff.1 (look_some kf).1).1
 obtain⟨rfl,rfl⟩:c= .f .nil∧S=[]:=by
  rcases h3 with h|h
  · exact h.2
  · omega
 refine RunCall.cw (c:=_) Tryd.func62 rfl (n:=11) Tryd.ntmps62 (rs:=[.tmp 4]) rfl ?_
 simp only[List.length_cons,List.length_nil,zA,zS,List.replicate,List.cons_append,List.nil_append]
 simp(maxSteps:=999999)(disch:=omega)only[go_sem,zA,zM,zS,zE,zL,kn]
 ((first|(with_reducible first|refine condK_dec ?_ ?_|refine condK_ndec ?_ ?_|refine condK_nb ?_ ?_)|refine condK_b ?_ ?_)<;>intro c1)
 · have hown:OwnI H (.own gid gg 0 (n*n) none) xs [gid]:=by
    have:=OwnI.o (H:=H) gid gg none xs [] (by rw[List.append_nil];exact hg)
    rwa [hxl]at this
   simp(maxSteps:=999999)(disch:=omega)only[go_sem,zA,zM,zS,zE,zL,kn,kf]
   refine OpS.mkDQ (Clone_q0 xs (by omega) (fun h=>by rw[h]at hxl;simp at hxl;omega)) (⟨_,Tryd.func63,rfl,rfl⟩:Enters Tryd.prog 63) rfl rfl (snap_one hown.snap) ?_
   intro g2
   have kf2:look (H++[some ⟨g2,1,cl (eI .i64) xs⟩]) pf gf=some ⟨gf,1,[.f .nil]⟩:=look_appL kf
   simp(maxSteps:=999999)(disch:=omega)only[go_sem,zA,zM,zS,zE,zL,kf2]
   have hnl:number=ls.length:=by omega
   have hgd:(ls++[xs]).getD number []=xs:=by rw[hnl];simp
   refine⟨_,HLe.refl _,by rw[decide_eq_false (by omega)],[H.length],⟨?_, .own H.length g2 0 xs.length none, ?_, .inr ⟨by simp;omega,H.length,g2,by rw[hgd],rfl, ?_⟩⟩,fun k hk=> .inr (by simp at hk;omega),fun k hk=>by simp at hk;simp;omega,by simp,fun k h1 h2 _=> ?_⟩
   · rw[look_set_ne' (Ne.symm hpf),look_appL kn,show number -(ls++[xs]).length=number -ls.length by simp;omega]
   · rw[look_set_eq' (by simp;omega)]
   · rw[look_set_ne' (by omega),hgd,look_last]
   · simp only[List.mem_cons,List.not_mem_nil,or_false,not_or]at h2
     rw[List.getElem?_set_ne (Ne.symm h2.2),List.getElem?_append_left h1]
 · simp(maxSteps:=999999)(disch:=omega)only[go_sem,zA,zM,zS,zE,zL,kn,kf]
   refine⟨_,HLe.refl _,by rw[decide_eq_true (by omega)],[],⟨?_, .f .nil, ?_, .inl ⟨by simp;omega,rfl,rfl⟩⟩,fun k hk=>by simp at hk,fun k hk=>by simp at hk,by simp,fun k h1 h2 _=> ?_⟩
   · rw[look_set_eq' ltn,show((number -(ls++[xs]).length:Nat):Int)=((number -ls.length:Nat):Int) -1 by simp;omega]
   · rw[look_set_ne' hpf,kf]
   · simp only[List.mem_cons,List.not_mem_nil,or_false,not_or]at h2
     rw[List.getElem?_set_ne (Ne.symm h2.1)]
def sqN(n number:Nat):List Int:=((sols (zeroP n) n (n*n) (List.replicate (n*n) 0)).take (number+1)).getD number []
def sqQ(n number:Nat):KV:=fun v H=>if number<manyS n then(sqN n number).length=n*n∧∃id g,v= .c (.own id g 0 (sqN n number).length none)∧look H id g=some ⟨g,1,cl (eI .i64) (sqN n number)⟩else v= .c (.f .nil)
theorem iSquareNumber_run{n:Nat}(hn:n=2∨n=3∨n=4)(number:Nat)(hm:number≤600):RunCall Tryd.prog 30 [int n,int number] [] (sqQ n number):=by
 have hn4:2≤n∧n≤4:=by omega
 have hsq:4≤n*n∧n*n≤16:=by rcases hn with rfl|rfl|rfl<;>omega
 have hsi:(n:Int)*n=((n*n:Nat):Int):=by push_cast;rfl
 have hp:PuzN (zeroP n) n:=by
  have:=(PuzN.of (zeroP_valid hn)).1
  have e:(zeroP n).size.toNat=n:=by simp[zeroP]
  rwa [e]at this
 refine RunCall.cw (c:=_) Tryd.func30 rfl (n:=26) Tryd.ntmps30 (rs:=[.tmp 4]) rfl ?_
 simp only[List.length_cons,List.length_nil,zA,zS,List.replicate,List.cons_append,List.nil_append]
 simp(maxSteps:=999999)(disch:=omega)only[go_sem,zA,zM,zS,zE,zL]
 intro g0
 first|refine OpS.rd (sizeOk_run _) (⟨_,Tryd.func50,rfl,rfl⟩:Enters Tryd.prog 50) rfl rfl rfl rfl ?_|refine Loud.rd (sizeOk_run _) (⟨_,Tryd.func50,rfl,rfl⟩:Enters Tryd.prog 50) rfl rfl rfl rfl ?_
 simp(maxSteps:=999999)(disch:=omega)only[go_sem,zA,zM,zS,zE,zL]
 ((with_reducible first|refine guardK_dec ?_ ?_|refine guardK_ndec ?_ ?_|refine guardK_nb ?_ ?_|refine guardK_split ?_ ?_|refine guardQ_dec ?_ ?_|refine guardL_dec ?_ ?_|refine guardQ_ndec ?_ ?_|refine guardL_ndec ?_ ?_|refine guardQ_nb ?_ ?_|refine guardL_nb ?_ ?_|refine guardQ_split ?_ ?_|refine guardL_split ?_ ?_)<;>intro h1<;>simp(maxSteps:=999999)(disch:=omega)only[go_sem,zA,zM,zS,zE,zL,h1])
 rotate_left
 · exfalso;omega
 ((first|(with_reducible first|refine condK_dec ?_ ?_|refine condK_ndec ?_ ?_|refine condK_nb ?_ ?_)|refine condK_b ?_ ?_)<;>intro h2)
 · exfalso;omega
 simp(maxSteps:=999999)(disch:=omega)only[go_sem,zA,zM,zS,zE,zL]
 intro g1
 simp only[hsi]
 intro g2 g3
 simp(maxSteps:=999999)(disch:=omega)only[go_sem,zA,zM,zS,zE,zL,List.mapM_cons,List.mapM_nil,capOf,Option.bind_eq_bind,Option.pure_def,Option.bind_some]
 refine⟨rfl, ?_⟩
 have hz:(zeroP n).given=List.replicate (n*n) 0:=rfl
 have hrun:=solutionsT_run hp (zeroP_valid hn) (number+1) (by omega) (keepH [0,1] [some ⟨g0,1,[.f (.int .i64 (number:Int))]⟩,some ⟨g1,1,[.f .nil]⟩,some ⟨g2,1,cl (eI .i64) (List.replicate (n*n) 0)⟩,some ⟨g3,3,[.f (.int .i64 (n:Int)), .own 2 g2 0 (n*n) none, .f .nil]⟩]) (List.replicate (n*n) 0) (grd_zeros (n:=n)) (fun k _=>by rw[hz,nth_zeros];exact Int.le_refl _)
  62 (⟨_,Tryd.func62,rfl,rfl⟩:Enters Tryd.prog 62) 0 g0 1 g1 [0,1] (CntO number 0 g0 1 g1) [] (by simp[keepH]) (fun h=>h.same) (fun h=>⟨by rw[h.1];rfl,by obtain⟨_,c,k,_⟩:=h;rw[k];rfl⟩)
  (fun gid gg hg=>count_tell number (by omega) n hn 0 g0 1 g1 (by omega) gid gg hg) ⟨by simp[keepH,look], .f .nil,by simp[keepH,look], .inl ⟨by simp,rfl,rfl⟩⟩ (by simp)
 rw[if_pos (fits_zeros hn)]at hrun
 have hLl:=zero_len hn
 have hLf:=sols_full (zeroP n) (n*n) (List.replicate (n*n) 0) (Nat.le_refl _) grd_zeros (fun k hk=>by omega)
 have hsq':sqN n number=((sols (zeroP n) n (n*n) (List.replicate (n*n) 0)).take (number+1)).getD number []:=rfl
 generalize hL:sols (zeroP n) n (n*n) (List.replicate (n*n) 0)=L at hrun hLl hLf hsq'
 have hrl:(List.replicate (n*n) (0:Int)).length=n*n:=List.length_replicate
 refine OpS.run (RunCall.iceIn (args:=[.agg [.f (.int .i64 (n:Int)), .own 2 g2 0 (n*n) none, .f .nil], .c (.own 2 g2 0 (n*n) none), .c (.fn 62 [(0,g0),(1,g1)])]) (args':=[aP (zeroP n),ints (List.replicate (n*n) 0), .c (.fn 62 [(0,g0),(1,g1)])]) (fun i=>decide (i=2)) (iceH_same fun id b hb=> ?_) rfl (ice1_three (ice1_agg3 iceC_s (iceC_f ?_) (iceC_f rfl)) (.c _ (.f (fints (List.replicate (n*n) 0))) (iceC_f ?_)) (.s _)) hrun) (⟨_,Tryd.func61,rfl,rfl⟩:Enters Tryd.prog 61) rfl rfl ?_
 · obtain⟨h1,h2⟩:=keepH_some hb
   refine⟨?_,h2⟩
   simp only[List.mem_cons,List.not_mem_nil,or_false]at h1
   simp only[decide_eq_false_iff_not]
   omega
 · have:=frz_ints (S:=fun i=>decide (i=2)) (H:=[some ⟨g0,1,[.f (.int .i64 (number:Int))]⟩,some ⟨g1,1,[.f .nil]⟩,some ⟨g2,1,cl (eI .i64) (List.replicate (n*n) 0)⟩,some ⟨g3,3,[.f (.int .i64 (n:Int)), .own 2 g2 0 (n*n) none, .f .nil]⟩]) (id:=2) (g:=g2) (lim:=none) (xs:=List.replicate (n*n) 0) rfl (by simp[look])
   rw[hrl]at this
   exact this
 · have:=frz_ints (S:=fun i=>decide (i=2)) (H:=[some ⟨g0,1,[.f (.int .i64 (number:Int))]⟩,some ⟨g1,1,[.f .nil]⟩,some ⟨g2,1,cl (eI .i64) (List.replicate (n*n) 0)⟩,some ⟨g3,3,[.f (.int .i64 (n:Int)), .own 2 g2 0 (n*n) none, .f .nil]⟩]) (id:=2) (g:=g2) (lim:=none) (xs:=List.replicate (n*n) 0) rfl (by simp[look])
   rw[hrl]at this
   exact this
 rintro _ H2 ⟨rfl,S',_,c,k1,k2⟩
 have ht:(L.take (number+1)).length=min (number+1) (manyS n):=by rw[List.length_take,hLl]
 rcases k2 with⟨h3,rfl,rfl⟩|⟨h3,id,g,rfl,rfl,h4⟩
 · simp(maxSteps:=999999)(disch:=omega)only[go_sem,zA,zM,zS,zE,zL,k1]
   refine⟨H2,HLe.refl _, ?_⟩
   unfold sqQ
   rw[if_neg (by omega)]
 · simp(maxSteps:=999999)(disch:=omega)only[go_sem,zA,zM,zS,zE,zL,k1]
   have hlt:number<(L.take (number+1)).length:=by omega
   have hm:(L.take (number+1)).getD number []∈L:=by
    rw[List.getD_eq_getElem?_getD,List.getElem?_eq_getElem hlt,Option.getD_some]
    exact List.mem_of_mem_take (List.getElem_mem _)
   have hl:=(hLf _ hm).1.len
   refine⟨H2,HLe.refl _, ?_⟩
   unfold sqQ
   rw[if_pos (by omega),hsq']
   exact⟨hl,id,g,rfl,h4⟩
theorem iSquareNumber_no{n:Nat}(hn:n=2∨n=3∨n=4):Reads Tryd.prog 30 [int n,int (manyS n:Nat)] (ints []):=by
 have hm:manyS n≤576:=by unfold manyS;split<;>(try split)<;>omega
 refine RunCall.nz ((iSquareNumber_run hn (manyS n) (by omega)).weaker fun v H h=> ?_)
 unfold sqQ at h
 rw[if_neg (by omega)]at h
 subst h
 exact⟨H,HLe.refl _,rfl⟩
theorem iSquareNumber_rd{n:Nat}(hn:n=2∨n=3∨n=4)(number:Nat)(hm:number<manyS n):Reads Tryd.prog 30 [int n,int number] (ints (sqN n number)):=by
 have hm6:manyS n≤576:=by unfold manyS;split<;>(try split)<;>omega
 refine Reads.ice (iSquareNumber_run hn number (by omega)) fun v H h=> ?_
 unfold sqQ at h
 rw[if_pos hm]at h
 obtain⟨_,id,g,rfl,h1⟩:=h
 have:=(OwnI.o (H:=H) id g none (sqN n number) [] (by rw[List.append_nil];exact h1)).frzC
 simp only[frzA,frz1,this,Option.map_some]
theorem sqN_len{n:Nat}(hn:n=2∨n=3∨n=4)(number:Nat)(hm:number<manyS n):(sqN n number).length=n*n:=by
 have hLl:=zero_len hn
 have hLf:=sols_full (zeroP n) (n*n) (List.replicate (n*n) 0) (Nat.le_refl _) grd_zeros (fun k hk=>by omega)
 unfold sqN
 generalize sols (zeroP n) n (n*n) (List.replicate (n*n) 0)=L at hLl hLf
 have hlt:number<(L.take (number+1)).length:=by rw[List.length_take];omega
 refine(hLf _ ?_).1.len
 rw[List.getD_eq_getElem?_getD,List.getElem?_eq_getElem hlt,Option.getD_some]
 exact List.mem_of_mem_take (List.getElem_mem _)
end Go.Lg

namespace Go.Lg
open Go.Proofs Go.Shelf
def itoaLays_ren:Go.Shelf.Ren:=⟨fun|171=>47|243=>71|246=>95|283=>116|284=>117|285=>118|286=>119|129=>132|317=>131|318=>133|319=>134|320=>135|337=>141|338=>142|n=>n,fun|3=>3|9=>9|2=>2|4=>4|171=>119|0=>0|53=>109|37=>37|5=>5|173=>122|212=>137|51=>128|20=>20|213=>138|46=>108|232=>151|233=>152|n=>n,fun|17=>3|18=>6|19=>7|n=>n⟩
theorem itoaLays:Go.Proofs.LaysM.n171 Tryd.prog itoaLays_ren:={
 mixed:=by kernel_rfl
 f129:=Tryd.func132.trans (congrArg some (by kernel_rfl))
 f171:=Tryd.func47.trans (congrArg some (by kernel_rfl))
 f243:=Tryd.func71.trans (congrArg some (by kernel_rfl))
 f246:=Tryd.func95.trans (congrArg some (by kernel_rfl))
 f283:=Tryd.func116.trans (congrArg some (by kernel_rfl))
 f284:=Tryd.func117.trans (congrArg some (by kernel_rfl))
 f285:=Tryd.func118.trans (congrArg some (by kernel_rfl))
 f286:=Tryd.func119.trans (congrArg some (by kernel_rfl))
 f317:=Tryd.func131.trans (congrArg some (by kernel_rfl))
 f318:=Tryd.func133.trans (congrArg some (by kernel_rfl))
 f319:=Tryd.func134.trans (congrArg some (by kernel_rfl))
 f320:=Tryd.func135.trans (congrArg some (by kernel_rfl))
 f337:=Tryd.func141.trans (congrArg some (by kernel_rfl))
 f338:=Tryd.func142.trans (congrArg some (by kernel_rfl))
 t0:=Tryd.underlying0
 a0:=Tryd.isAgg0
 z0:=Tryd.sizeOf0
 v0:=Tryd.zeroValue0
 t2:=Tryd.underlying2
 a2:=Tryd.isAgg2
 z2:=Tryd.sizeOf2
 v2:=Tryd.zeroValue2
 t3:=Tryd.underlying3
 a3:=Tryd.isAgg3
 z3:=Tryd.sizeOf3
 v3:=Tryd.zeroValue3
 t4:=Tryd.underlying4
 a4:=Tryd.isAgg4
 z4:=Tryd.sizeOf4
 v4:=Tryd.zeroValue4
 t5:=Tryd.underlying5
 a5:=Tryd.isAgg5
 z5:=Tryd.sizeOf5
 v5:=Tryd.zeroValue5
 t9:=Tryd.underlying9
 a9:=Tryd.isAgg9
 z9:=Tryd.sizeOf9
 v9:=Tryd.zeroValue9
 t20:=Tryd.underlying20
 a20:=Tryd.isAgg20
 z20:=Tryd.sizeOf20
 v20:=Tryd.zeroValue20
 t37:=Tryd.underlying37
 a37:=Tryd.isAgg37
 z37:=Tryd.sizeOf37
 v37:=Tryd.zeroValue37
 t46:=Tryd.underlying108
 a46:=Tryd.isAgg108
 z46:=Tryd.sizeOf108
 v46:=Tryd.zeroValue108
 t51:=Tryd.underlying128
 a51:=Tryd.isAgg128
 z51:=Tryd.sizeOf128
 v51:=Tryd.zeroValue128
 t53:=Tryd.underlying109
 a53:=Tryd.isAgg109
 z53:=Tryd.sizeOf109
 v53:=Tryd.zeroValue109
 t171:=Tryd.underlying119
 a171:=Tryd.isAgg119
 z171:=Tryd.sizeOf119
 v171:=Tryd.zeroValue119
 t173:=Tryd.underlying122
 a173:=Tryd.isAgg122
 z173:=Tryd.sizeOf122
 v173:=Tryd.zeroValue122
 t212:=Tryd.underlying137
 a212:=Tryd.isAgg137
 z212:=Tryd.sizeOf137
 v212:=Tryd.zeroValue137
 t213:=Tryd.underlying138
 a213:=Tryd.isAgg138
 z213:=Tryd.sizeOf138
 t232:=Tryd.underlying151
 a232:=Tryd.isAgg151
 z232:=Tryd.sizeOf151
 v232:=Tryd.zeroValue151
 t233:=Tryd.underlying152
 a233:=Tryd.isAgg152
 z233:=Tryd.sizeOf152
 v233:=Tryd.zeroValue152
 g17:=by kernel_rfl
 g18:=by kernel_rfl
 g19:=by kernel_rfl
 i0:=by kernel_rfl
 i2:=by kernel_rfl
 i3:=by kernel_rfl
 i4:=by kernel_rfl
 i5:=by kernel_rfl
 i9:=by kernel_rfl
 i20:=by kernel_rfl
 i37:=by kernel_rfl
 i46:=by kernel_rfl
 i51:=by kernel_rfl
 i53:=by kernel_rfl
 i171:=by kernel_rfl
 i173:=by kernel_rfl
 i212:=by kernel_rfl
 i232:=by kernel_rfl
 i233:=by kernel_rfl
 m17:=by kernel_rfl
 m18:=by kernel_rfl
 m19:=by kernel_rfl}
theorem itoa_calls(n:Int)(h0: -9223372036854775808≤n)(h1:n≤9223372036854775807)(w:World)(htab:Go.Lib.TabIs Tryd.prog w "internal/strconv.uint64pow10" .u64 Go.Lib.pow10Tab):
 Calls Tryd.prog 47 #[.int .i64 n] w fun e w'=>e= .returned (.string ⟨(Go.Lib.itoa n).toArray⟩)∧∃k os,w'=Go.Sort.grow (w.drewN k) os:=Any.strconv_Itoa itoaLays n h0 h1 w htab
theorem itoa_glob:Program.globalNamed Tryd.prog "internal/strconv.uint64pow10" =some 3:=by kernel_rfl
theorem itoa_tab{w:World}{I:Nat→Prop}(h:TabR w I):Go.Lib.TabIs Tryd.prog w "internal/strconv.uint64pow10" .u64 Go.Lib.pow10Tab:=by
 obtain⟨_,_,cc,t,o,h1,h2⟩:=h.1 3 _ rfl
 unfold Go.Lib.TabIs World.var?
 rw[itoa_glob]
 simp only[Option.bind_some,h1]
 have e:cc=(Go.Lib.pow10Tab.map fun z=>Value.int .u64 z).toArray:=by
  apply Array.ext'
  rw[h2]
  rfl
 rw[e]
theorem grow_grow(w:World)(k:Nat)(os:Array Obj):Grow w (Go.Sort.grow (w.drewN k) os):=by
 refine⟨fun b hb=> ?_, ?_,rfl,rfl,rfl⟩
 · show(w.heap++os)[b]? =w.heap[b]?
   rw[Array.getElem?_append_left hb]
 · show w.heap.size≤(w.heap++os).size
   simp
theorem Itoa_run(i:Int)(h0: -9223372036854775808≤i)(h1:i≤9223372036854775807):Reads Tryd.prog 47 [int i] (txt (Go.Lib.itoa i)):=by
 intro w X vs hH hvs
 obtain⟨hs,hv⟩:=hvs
 obtain⟨u,hu1,hu2⟩:=hv 0 (by simp)
 have e:vs= #[.int .i64 i]:=by
  have hu:u= .int .i64 i:=va_int hu2
  subst hu
  apply Array.ext'
  have hl:vs.toList.length=1:=by simpa using hs
  obtain⟨x,hx⟩:=List.length_eq_one_iff.1 hl
  have:vs.toList[0]? =some (.int .i64 i):=by rw[Array.getElem?_toList];exact hu1
  rw[hx]at this⊢
  simpa using this
 subst e
 refine(itoa_calls i h0 h1 w (itoa_tab hH.tab)).mono fun e w' ⟨he,k,os,hw⟩=> ?_
 subst hw
 have hg:=grow_grow w k os
 exact⟨txt (Go.Lib.itoa i),_,X,[],he, .c _ _ (VF.str _),hg.rel hH,hg.ev hH,rfl⟩
end Go.Lg
