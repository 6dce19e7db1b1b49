/- GpTH, GpEK, cut to what is needed. -/
import Derived.Test.YtiahmfdabpafoaaGreatDoorKad6
import Derived.Test.YtiahmfdabpafoaaGreatDoorKac4
import Derived.Test.YtiahmfdabpafoaaGreatDoorKac5
import Derived.Test.YtiahmfdabpafoaaGreatDoorKab8
open List renaming getElem?_append_left → Jb, getElem?_eq_getElem → Jh, getElem?_set_ne → Jj, getElem?_eq_none → Ju, getElem?_take_of_lt → JG, mem_cons → JV, getElem?_set_self → J0, not_mem_nil → Q9
open Nat renaming reduceAdd→zA,reduceMul→zM,reduceSub→zS,reduceEqDiff→zE,reduceLeDiff→zL
set_option linter.unusedSimpArgs false
set_option linter.unusedVariables false
set_option maxRecDepth 100000
namespace Go.Lg
open Go.Proofs
attribute [-go_sem] Qg JP
structure MkJ(H HI:Ji)(id pid g pg gb:Nat)(p:Zk)(out:List BC):Prop where
 cells:look HI id g=some ⟨g,2,cl eB out⟩
 cell:look HI pid pg=some ⟨pg,1,[.own id g 0 out.length none]⟩
 box:look HI H.length gb=some ⟨gb,1,cP p⟩
 lt:id<H.length
 lt2:pid<H.length
 ne:id≠pid
 ln:H.length+1≤HI.length
 frm:∀i,i<H.length→i≠id→i≠pid→HI[i]? =H[i]?
def mkQ2(H:Ji)(id pid pg:Nat)(R:List BC):KV:=fun v H'=>v= .tup []∧∃g',look H' id g'=some ⟨g',2,cl eB R⟩∧look H' pid pg=some ⟨pg,1,[.own id g' 0 R.length none]⟩∧UH H H' [id,pid]
theorem MkJ.done{H HI:Ji}{id pid g pg gb:Nat}{p:Zk}{out:List BC}(h:MkJ H HI id pid g pg gb p out):Wa HI (mkQ2 H id pid pg out) (.tup []):=by
 have hl:=h.lt
 have hl2:=h.lt2
 have hn:=h.ln
 refine⟨HI.take H.length,fun i b hb=> ?_,rfl,g, ?_, ?_,by simp;omega,fun i hi=> ?_⟩
 · by_cases hi:i<H.length
   · rwa [JG hi]at hb
   · rw[List.getElem?_take_eq_none (by omega)]at hb;cases hb
 · have hc:=h.cells
   unfold look at hc⊢
   rw[JG hl]
   exact hc
 · have hc:=h.cell
   unfold look at hc⊢
   rw[JG hl2]
   exact hc
 · simp only[JV,Q9,or_false,not_or]at hi
   by_cases h2:i<H.length
   · rw[JG h2,h.frm i h2 hi.1 hi.2]
   · rw[List.getElem?_take_eq_none (by omega),Ju (by omega)]
theorem MkJ.app{H HI H':Ji}{id pid g pg gb:Nat}{p:Zk}{out:List BC}(h:MkJ H HI id pid g pg gb p out):MkJ H (HI++H') id pid g pg gb p out:=
 ⟨JR h.cells,JR h.cell,JR h.box,h.lt,h.lt2,h.ne,by have:=h.ln;simp;omega,fun i h1 h2 h3=>by rw[Jb (by have:=h.ln;omega)];exact h.frm i h1 h2 h3⟩
theorem MkJ.step{H HI H':Ji}{id pid g g' pg gb:Nat}{p:Zk}{out R:List BC}(h:MkJ H HI id pid g pg gb p out)(hf:∀i,i<HI.length→i≠id→i≠pid→i≤H.length→H'[i]? =HI[i]?)(hln:HI.length≤H'.length)(hc:look H' id g'=some ⟨g',2,cl eB R⟩)(hc2:look H' pid pg=some ⟨pg,1,[.own id g' 0 R.length none]⟩):MkJ H H' id pid g' pg gb p R:=by
 have hl:=h.lt
 have hl2:=h.lt2
 have hn:=h.ln
 refine⟨hc,hc2, ?_,hl,hl2,h.ne,by omega,fun i h1 h2 h3=>by rw[hf i (by omega) h2 h3 (by omega)];exact h.frm i h1 h2 h3⟩
 have hb:=h.box
 unfold look at hb⊢
 rw[hf _ (by omega) (by omega) (by omega) (Nat.le_refl _)]
 exact hb
theorem MkJ.push{H HI:Ji}{id pid g pg gb:Nat}{p:Zk}{out:List BC}(h:MkJ H HI id pid g pg gb p out)(b:BC)(g1 g':Nat):
 look ((HI++Jfp g1 b).set id (some ⟨g',2,cl eB (out++[b])⟩)) pid pg=some ⟨pg,1,[.own id g 0 out.length none]⟩∧
 MkJ H (((HI++Jfp g1 b).set id (some ⟨g',2,cl eB (out++[b])⟩)).set pid (some ⟨pg,1,[.own id g' 0 (out.length+1) none]⟩)) id pid g' pg gb p (out++[b]):=by
 have hl:=h.lt
 have hl2:=h.lt2
 have hn:=h.ln
 have hne:=h.ne
 have h1:=(h.app (H':=Jfp g1 b)).cell
 have hlen:(HI++Jfp g1 b).length=HI.length+1:=by simp
 refine⟨?_,(h.app (H':=Jfp g1 b)).step (fun i h2 h3 h4 _=> ?_) (by simp) ?_ ?_⟩
 · unfold look at h1⊢
   rw[Jj hne]
   exact h1
 · rw[Jj (Ne.symm h4),Jj (Ne.symm h3)]
 · unfold look
   rw[Jj (Ne.symm hne),J0 (by omega)]
   simp
 · unfold look
   rw[J0 (by simp;omega)]
   simp
end Go.Lg

namespace Go.Lg
open Go.Proofs
theorem Jq.iceIn{P:Program}{f:FuncId}{args args':List AV}{H H':Ji}{Q:KV}(S:Nat→Bool)(hh:B7 S H H')(hl:args'.length=args.length)(ha:∀j (h:j<args.length),∃y,args'[j]? =some y∧Jao S H args[j] y)
 (h:Jq P f args' H' Q):Jq P f args H Q:=by
 intro w X vs hH hvs
 have hvs':VAs w (X.iceS S H) H' args' vs:=by
  refine⟨by rw[hl];exact hvs.1,fun i hi=> ?_⟩
  obtain⟨u,h1,h2⟩:=hvs.2 i (by omega)
  obtain⟨y,h3,h4⟩:=ha i (by omega)
  have:args'[i]=y:=by simpa[Jh hi]using h3
  rw[this]
  exact⟨u,h1,X7 hH hh h4 h2⟩
 exact(h w _ vs (R9 hH hh) hvs').mono fun _ w' ⟨v,u,X',H',h1,h2,h3,h4,h5⟩=>⟨v,u,X',H',h1,h2,h3,(YJ hh).trans h4,h5⟩
def Jih(number:Nat)(pn gn pf gf:Nat)(H:Ji)(ls:List (List Int))(S:List Nat):Prop:=
 look H pn gn=some ⟨gn,1,[.f (.int .i64 ((number -ls.length:Nat):Int))]⟩∧∃c,look H pf gf=some ⟨gf,1,[c]⟩∧
  ((ls.length≤number∧c= .f .nil∧S=[])∨(number<ls.length∧∃id g,c= .own id g 0 (ls.getD number []).length none∧S=[id]∧look H id g=some ⟨g,1,cl (eI .i64) (ls.getD number [])⟩))
theorem Jih.same{number pn gn pf gf:Nat}{H H':Ji}{ls:List (List Int)}{S:List Nat}(h:Jih number pn gn pf gf H ls S)(hs:∀k,k∈[pn,pf]∨k∈S→H'[k]? =H[k]?):Jih number pn gn pf gf H' ls S:=by
 have k:∀i g b,(i∈[pn,pf]∨i∈S)→look H i g=b→look H' i g=b:=fun i g b hi he=>by unfold look at*;rw[hs i hi];exact he
 obtain⟨h1,c,h2,h3⟩:=h
 refine⟨k _ _ _ (.inl (by simp)) h1,c,k _ _ _ (.inl (by simp)) h2, ?_⟩
 rcases h3 with h|⟨h4,id,g,h5,h6,h7⟩
 · exact .inl h
 · exact .inr ⟨h4,id,g,h5,h6,k _ _ _ (.inr (by rw[h6];simp)) h7⟩
end Go.Lg
