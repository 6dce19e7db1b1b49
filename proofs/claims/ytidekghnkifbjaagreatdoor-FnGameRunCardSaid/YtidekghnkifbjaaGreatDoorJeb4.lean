/- GpT, GpOE, GpM, GpN, GpX, cut to what is needed. -/
import Derived.Test.YtidekghnkifbjaaGreatDoorJeb3
import Derived.Test.YtidekghnkifbjaaGreatDoorJeb2
import Derived.Test.YtidekghnkifbjaaGreatDoorJea9
open List renaming getElem?_append_left → Ja, cons_append → Jb, nil_append → Jc, replicate → Jd, length_cons → Je, length_nil → Jf, getElem?_set_ne → Jg, getElem?_eq_some_iff → Jh, length_append → Jk, append_assoc → Jt, append_nil → Ju, getElem?_eq_none → Jx, drop_zero → JR, getElem?_set_self → JX, mem_append → J2, mapM_cons → J4, nodup_append → Qo, map_cons → Qr, mapM_nil → Qw, length_replicate → QG, map_nil → ZV
open Nat renaming reduceAdd→zA,reduceMul→zM,reduceSub→zS,reduceEqDiff→zE,reduceLeDiff→zL
set_option linter.unusedSimpArgs false
set_option linter.unusedVariables false
set_option maxRecDepth 100000
namespace Go.Lg
open Go.Proofs
def Jh7(r:Z0):KV:=fun v H=>∃c S,v= .agg [.f (.int .i64 r.kind),c, .f (.int .i64 r.val)]∧Qy H c r.cells S
theorem JW.rule{P:Program}{f:FuncId}{args:List AV}{r:Z0}(h:Jn P f args [] (Jh7 r)):JW P f args (aR r):=
 JW.ice h fun v H' ⟨c,S,h1,h2⟩=>by
  subst h1
  have e1:∀n:Int,Lg.frzC H' (.f (.int .i64 n))=some (.f (.int .i64 n)):=fun _=>rfl
  simp only[Vu,J4,Qw,Xw,e1,h2.frzC,Option.map_some,Option.pure_def,Option.bind_eq_bind,Option.bind_some]
  try rfl
theorem Jav(r:Z0)(hx:r.cells.length≤2^40):Jn Tryz.prog 150 [aR r] [] (Jh7 r):=by
 obtain⟨k,cells,v⟩:=r
 simp only at hx
 rcases Nat.eq_zero_or_pos cells.length with h0|h0
 · have:cells=[]:=List.eq_nil_of_length_eq_zero h0
   subst this
   refine Jn.cw (c:=_) Tryz.func150 rfl (n:=11) Tryz.ntmps150 (rs:=[.cell 2 101]) rfl ?_
   simp only[Je,Jf,zA,zS,Jd,Jb,Jc]
   simp(maxSteps:=999999)(disch:=omega)only[go_sem,zA,zM,zS,zE,zL]
   intro g g1 g2 g3
   show Uz [some ⟨g,1,cR ⟨k,[],v⟩⟩,some ⟨g1,3,[.f (.int .i64 k), .own 3 g3 0 0 none, .f (.int .i64 v)]⟩,some ⟨g2,3,[.f (.int .i64 k), .own 3 g3 0 0 none, .f (.int .i64 v)]⟩,some ⟨g3,1,[]⟩] (Jh7 ⟨k,[],v⟩) (.agg [.f (.int .i64 k), .own 3 g3 0 0 none, .f (.int .i64 v)])
   exact⟨_,J0.refl _,_,_,rfl, .o 3 g3 none [] [] (J8 (b:=⟨g3,1,[]⟩) rfl)⟩
 · refine Jn.cw (c:=_) Tryz.func150 rfl (n:=11) Tryz.ntmps150 (rs:=[.cell 2 101]) rfl ?_
   simp only[Je,Jf,zA,zS,Jd,Jb,Jc]
   simp(maxSteps:=999999)(disch:=omega)only[go_sem,zA,zM,zS,zE,zL]
   intro g g1 g2 g3 g4
   rw[Nat.zero_add]
   exact⟨_,J0.refl _,_,_,rfl, .o 3 g4 none cells [] (by rw[Ju];exact J8 (b:=⟨g4,1,cl (eI .i64) cells⟩) rfl)⟩
theorem Rs(r:Z0)(hx:r.cells.length≤2^40):JW Tryz.prog 150 [aR r] (aR r):=JW.rule (Jav r hx)
theorem BE(rs:List Z0)(hx:Jgf rs):Jn Tryz.prog 127 [Bl eR rs] [] (G6 eR 3 rs):=by
 obtain⟨hn,hc⟩:=hx
 refine Jn.cw (c:=_) Tryz.func127 rfl (n:=21) Tryz.ntmps127 (rs:=[.tmp 2]) rfl ?_
 simp only[Je,Jf,zA,zS,Jd,Jb,Jc]
 simp(maxSteps:=999999)(disch:=omega)only[go_sem,zA,zM,zS,zE,zL]
 intro g
 refine Qp (fun(i g:Nat)=>rs.length -i) (fun i g=>i≤rs.length) (fun i g=>[.k, .a, .a, .p (.c (.own 0 g 0 i none)), .p (int i), .a, .a, .a, .a, .a, .a, .a, .a, .a, .a, .a, .a, .a, .a, .a, .a]) (fun i g=>[some ⟨g,3,cl eR (rs.take i)⟩]) 0 g
  (Nat.zero_le _) (by simp(maxSteps:=999999)(disch:=omega)only[go_sem,zA,zM,zS,zE,zL];rfl) (J0.refl _) ?_
 intro i g hi
 simp(maxSteps:=999999)(disch:=omega)only[go_sem,zA,zM,zS,zE,zL]
 ((first|(with_reducible first|refine Jl ?_ ?_|refine Jj ?_ ?_|refine Jp ?_ ?_)|refine Jr ?_ ?_)<;>intro h)
 · have h:i<rs.length:=by omega
   simp(maxSteps:=999999)(disch:=omega)only[go_sem,zA,zM,zS,zE,zL]
   first|refine JZ.mk (Rs (JA rs i) (hc _ (ZP h))) (⟨_,Tryz.func150,rfl,rfl⟩:Ji Tryz.prog 150) rfl rfl rfl rfl rfl ?_|refine JK.mk (Rs (JA rs i) (hc _ (ZP h))) (⟨_,Tryz.func150,rfl,rfl⟩:Ji Tryz.prog 150) rfl rfl rfl rfl rfl ?_
   simp(maxSteps:=999999)(disch:=omega)only[go_sem,zA,zM,zS,zE,zL]
   intro g1 g2
   refine⟨i+1,g2,⟨h,by omega⟩,⟨⟨rfl,rfl⟩,by push_cast;omega⟩,Z4 ?_ (Qu _)⟩
   rw[Qg h,Q6]
   rfl
 · have hi':i=rs.length:=by omega
   simp(maxSteps:=999999)(disch:=omega)only[go_sem,zA,zM,zS,zE,zL]
   subst hi'
   rw[List.take_length]
   exact ZO (J0.refl _)
theorem Vh(rs:List Z0)(hx:Jgf rs):JW Tryz.prog 127 [Bl eR rs] (Bl eR rs):=JW.own (BE rs hx)
theorem Y7(p:Q4)(hx:Rf p):JW Tryz.prog 98 [aP p] (aP p):=by
 obtain⟨n,gs,rs⟩:=p
 obtain⟨hg,hr⟩:=hx
 simp only at hg hr
 refine JW.iced ?_
 rcases Nat.eq_zero_or_pos gs.length with h0|h0
 · refine Jn.cw (c:=_) Tryz.func98 rfl (n:=15) Tryz.ntmps98 (rs:=[.cell 2 26]) rfl ?_
   simp only[Je,Jf,zA,zS,Jd,Jb,Jc]
   simp(maxSteps:=999999)(disch:=omega)only[go_sem,zA,zM,zS,zE,zL]
   intro g1 g2 g3 g4
   first|refine JZ.mk (Vh rs hr) (⟨_,Tryz.func127,rfl,rfl⟩:Ji Tryz.prog 127) rfl rfl rfl rfl rfl ?_|refine JK.mk (Vh rs hr) (⟨_,Tryz.func127,rfl,rfl⟩:Ji Tryz.prog 127) rfl rfl rfl rfl rfl ?_
   simp(maxSteps:=999999)(disch:=omega)only[go_sem,zA,zM,zS,zE,zL]
   have:gs=[]:=List.eq_nil_of_length_eq_zero h0
   subst this
   exact Vc (by simp only[go_sem,J4,Qw,Vu,Xw,frzC,frz,Fu,Option.pure_def,Option.bind_eq_bind,Option.bind_some]<;>rfl)
 · refine Jn.cw (c:=_) Tryz.func98 rfl (n:=15) Tryz.ntmps98 (rs:=[.cell 2 26]) rfl ?_
   simp only[Je,Jf,zA,zS,Jd,Jb,Jc]
   simp(maxSteps:=999999)(disch:=omega)only[go_sem,zA,zM,zS,zE,zL]
   intro g1 g2 g3 g4 g5
   rw[Nat.zero_add]
   first|refine JZ.mk (Vh rs hr) (⟨_,Tryz.func127,rfl,rfl⟩:Ji Tryz.prog 127) rfl rfl rfl rfl rfl ?_|refine JK.mk (Vh rs hr) (⟨_,Tryz.func127,rfl,rfl⟩:Ji Tryz.prog 127) rfl rfl rfl rfl rfl ?_
   simp(maxSteps:=999999)(disch:=omega)only[go_sem,zA,zM,zS,zE,zL]
   exact Vc (by simp only[go_sem,J4,Qw,Vu,Xw,frzC,frz,Fu,Option.pure_def,Option.bind_eq_bind,Option.bind_some]<;>rfl)
end Go.Lg

namespace Go.Lg
attribute [-go_sem] J9
theorem Xi{P:Program}{ops:Array Oper}{o:Oper}{s:List AV}{K:AV→Prop}{fo:Operand}{xs:Array Operand}{ts:Array TypeId}{f:FuncId}{args:List AV}{v:AV}
 (hc:JW P f args v) (he:Ji P f) (ho:o.op= .call ⟨.value fo,xs,ts⟩) (ha:Qc ⟨s,[]⟩ fo xs=some (f,args)) (hz:∀x∈Call.operands ⟨.value fo,xs,ts⟩,Q2 (QY s x)=true) (hf:args.all Q2=true)
 (hv:Gw v=true∧Kl v=true∧WO 0 v=v∧Vu [] v=some v) (hk:K v):XF P ops o s K:=by
 unfold XF
 rw[ho]
 refine⟨v,fun H=>Vw.ops (by rw[ho];exact hz) hv.1 fun s' hs'=> ?_,hk⟩
 refine JZ.mk hc he ho ?_ hf hv.2.1 hv.2.2.1 hv.2.2.2
 rw[Wa (s:=s) (H:=[]) ts fun x hx=>hs' x (by rw[ho];exact hx)]
 exact ha
inductive Ub(H:Jm):CV→List Int→List Nat→Prop where
 |m:Ub H .emp [] []
 |o (id g:Nat) (xs:List Int) (h:look H id g=some ⟨g,1,cl (eI .i64) xs⟩):Ub H (.own id g 0 xs.length none) xs [id]
theorem Ub.frzC{H:Jm}{c:CV}{xs:List Int}{S:List Nat}(h:Ub H c xs S):Lg.frzC H c=some (.f (J5 xs)):=by
 cases h with
 |m=>rfl
 |o id g xs h=>exact(Qy.o id g none xs [] (by rw[Ju];exact h)).frzC
theorem Ub.same{H H':Jm}{c:CV}{xs:List Int}{S:List Nat}(h:Ub H c xs S)(hs:∀i∈S,H'[i]? =H[i]?):Ub H' c xs S:=by
 cases h with
 |m=>exact .m
 |o id g xs h=>exact .o id g xs (by unfold look at*;rw[hs id (by simp)];exact h)
theorem Ub.shift{H0 H:Jm}{c:CV}{xs:List Int}{S:List Nat}(h:Ub H c xs S):Ub (H0++Q7 H0.length H) (Uf H0.length c) xs (S.map (· +H0.length)):=by
 cases h with
 |m=>exact .m
 |o id g xs h=>
  refine .o (id+H0.length) g xs ?_
  rw[Up h]
  simp only[ZJ,VZ]
theorem Ub.lt{H:Jm}{c:CV}{xs:List Int}{S:List Nat}(h:Ub H c xs S):∀i∈S,i<H.length:=by
 cases h with
 |m=>simp
 |o id g xs h=>intro i hi;have:i=id:=by simpa using hi
               subst this;exact(Jh.1 (JG h).1).1
theorem Ub.nd{H:Jm}{c:CV}{xs:List Int}{S:List Nat}(h:Ub H c xs S):S.Nodup:=by cases h<;>simp
theorem Ub.inv{H:Jm}{c:CV}{xs:List Int}{S:List Nat}(h:Ub H c xs S)(hn:xs≠[]):∃id g,c= .own id g 0 xs.length none∧S=[id]∧look H id g=some ⟨g,1,cl (eI .i64) xs⟩:=by
 cases h with
 |m=>exact absurd rfl hn
 |o id g xs h=>exact⟨id,g,rfl,rfl,h⟩
theorem Ub.inv0{H:Jm}{c:CV}{xs:List Int}{S:List Nat}(h:Ub H c xs S)(hn:xs=[]):c= .emp∨∃id g,c= .own id g 0 0 none∧look H id g=some ⟨g,1,[]⟩:=by
 cases h with
 |m=>exact .inl rfl
 |o id g xs h=>subst hn;exact .inr ⟨id,g,rfl,h⟩
theorem Gf{P:Program}{H:Jm}{t:TypeId}{ei:TI}{K:KV}(ht:QW P t=some ei)(hz:ei.zero.length=ei.size∧ei.size=1∧ei.bytes=8){xs:List Int}(hx:xs.length≤2^40)
 (hk:∀c H' S,Ub (H++H') c xs S→(∀k∈S,H.length≤k∧k<H.length+H'.length)→K (.c c) (H++H')):J9 P H t (.c .emp) (.c (.f (.sl xs.length (fl (eI .i64) xs)))) K:=by
 obtain⟨hz1,hz2,hz3⟩:=hz
 unfold J9
 simp only[ht,hz1,hz2,if_true,elems,UD,WJ]
 split
 · rename_i h0
   have:xs=[]:=List.eq_nil_of_length_eq_zero h0
   subst this
   have:=hk .emp [] [] .m (by simp)
   rwa [Ju]at this
 · refine⟨⟨by omega,by rw[hz3];omega⟩,fun g=> ?_⟩
   exact hk _ [some ⟨g,1,cl (eI .i64) xs⟩] [H.length] (.o H.length g xs (J8 (b:=⟨g,1,cl (eI .i64) xs⟩) (by simp))) (by simp)
theorem JhA{P:Program}{H:Jm}{t:TypeId}{ei:TI}{K:KV}(ht:QW P t=some ei)(hz:ei.zero.length=ei.size∧ei.size=1∧ei.bytes=8){c:CV}{xs:List Int}{S:List Nat}(h:Ub H c xs S)(hx:xs.length≤2^40)
 {n g:Nat} {lim:Option Nat} {v:Int} (hl:look H n g=some ⟨g,1,[.f (.int .i64 v)]⟩)
 (hk:∀c' H' S',Ub H' c' (xs++[v]) S'→(∀k,k<H.length→k∉S→H'[k]? =H[k]?)→(∀k∈S',k∈S∨H.length≤k)→H.length≤H'.length→K (.c c') H'):
 J9 P H t (.c c) (.c (.own n g 0 1 lim)) K:=by
 obtain⟨hz1,hz2,hz3⟩:=hz
 unfold J9
 cases h with
 |m=>
  simp only[ht,hz1,hz2,if_true,elems,hl,JR,Nat.one_mul,WJ,hz3,Y4,Rh]
  refine⟨⟨by omega,by omega⟩,fun g'=> ?_⟩
  refine hk _ _ [H.length] (Ub.o H.length g' [v] (J8 (b:=⟨g',1,cl (eI .i64) [v]⟩) (by simp;rfl))) (fun k hk _=>Ja hk) (by simp) (by simp)
 |o id g2 xs hl2=>
  have hlt:id<H.length:=(Jh.1 (JG hl2).1).1
  simp only[ht,hz1,hz2,if_true,elems,hl,hl2,JR,Nat.one_mul,WJ,hz3,Y4,Qa,Nat.mul_one]
  refine⟨⟨trivial,by omega,trivial,by omega,by omega⟩,fun g'=> ?_⟩
  have:=Ub.o (H:=H.set id (some ⟨g',1,cl (eI .i64) xs++[.f (.int .i64 v)]⟩)) id g' (xs++[v]) (J8 (b:=⟨g',1,cl (eI .i64) (xs++[v])⟩) (by rw[JX hlt,Q6];rfl))
  rw[Jk]at this
  exact hk _ _ [id] this (fun k _ hk=>by rw[Jg (by simp at hk;omega)]) (fun k hk=> .inl hk) (by simp)
end Go.Lg

namespace Go.Lg
open Go.Proofs
def wM(rs:List Z0):Nat:=(rs.map fun r=>2+r.cells.length).sum
def RO.setV(o:RO)(k:Int):RO:={o with r:={o.r with val:=k}}
def wMP(p:Q4):Nat:=p.given.length+wM p.rules
def wMG(q:QZ):Nat:=wMP q.task+q.put.length+q.moves.length
end Go.Lg

namespace Go.Lg
open Go.Proofs
def Yq(a b:List Int):List Int:=(List.range a.length).map fun i:Nat=>max (JA a i) (JA b i)
def KO(a b:List Int):Bool:=decide (∀i:Nat,i<a.length→¬(0<JA a i∧0<JA b i∧JA a i≠JA b i))
theorem Uo(a b:List Int):(Yq a b).length=a.length:=by simp[Yq]
theorem Xg{a b:List Int}{i:Nat}(h:i<a.length):JA (Yq a b) i=max (JA a i) (JA b i):=by
 rw[Qt (by rw[Uo];omega)];simp[Yq]
def bothQ(a b:List Int):KV:=fun r H=>(KO a b=true→∃g,r= .tup [.c (.own 0 g 0 a.length none),bool true]∧H=[some ⟨g,1,cl (eI .i64) (Yq a b)⟩])∧(KO a b=false→r= .tup [.c (.f (.sl 0 [])),bool false]∧H=[])
theorem JaC(a b:List Int)(hx:a.length≤2^40)(hb:a.length=b.length):Jn Tryz.prog 37 [QO a,QO b] [] (bothQ a b):=by
 refine Jn.nz ?_
 refine Jn.cw (c:=_) Tryz.func37 rfl (n:=47) Tryz.ntmps37 (rs:=[.tmp 4, .tmp 5]) rfl ?_
 simp only[Je,Jf,zA,zS,Jd,Jb,Jc]
 simp(maxSteps:=999999)(disch:=omega)only[go_sem,zA,zM,zS,zE,zL]
 intro g
 refine Qp (fun(i:Nat) (ys:List Int)=>a.length -i) (fun i ys=>i≤a.length∧ys.length=a.length∧(∀j:Nat,j<i→JA ys j=max (JA a j) (JA b j))∧∀j:Nat,j<i→¬(0<JA a j∧0<JA b j∧JA a j≠JA b j)) (fun i _=>[.a, .k, .a, .a, .a, .a, .k, .a, .a, .a, .a, .a, .k, .k, .p (int i), .a, .a, .a, .a, .a, .a, .a, .a, .a, .a, .a, .a, .a, .a, .a, .a, .a, .a, .a, .a, .a, .a, .a, .a, .a, .a, .a, .a, .a, .a, .a, .a]) (fun _ ys=>[some ⟨g,1,cl (eI .i64) ys⟩]) 0 (Jd a.length 0)
  ⟨Nat.zero_le _,QG,fun j hj=>absurd hj (Nat.not_lt_zero _),fun j hj=>absurd hj (Nat.not_lt_zero _)⟩ (by simp(maxSteps:=999999)(disch:=omega)only[go_sem,zA,zM,zS,zE,zL];rfl) (J0.refl _) ?_
 rintro i ys ⟨hi,hl,hall,hok⟩
 simp(maxSteps:=999999)(disch:=omega)only[go_sem,zA,zM,zS,zE,zL]
 ((first|(with_reducible first|refine Jl ?_ ?_|refine Jj ?_ ?_|refine Jp ?_ ?_)|refine Jr ?_ ?_)<;>intro h)
 · have h:i<a.length:=by omega
   have no:0<JA a i∧0<JA b i∧JA a i≠JA b i→KO a b=false:=fun h2=>by
    simp only[KO,decide_eq_false_iff_not];exact fun h3=>h3 i h h2
   have nx:∀v,v=max (JA a i) (JA b i)→∀j:Nat,j<i+1→JA (ys.set i v) j=max (JA a j) (JA b j):=fun v hv j hj=>by
    rw[Bt _ _ _ _ (by omega) (by omega)]
    split
    · rename_i he;rw[hv,he]
    · exact hall j (by omega)
   simp(maxSteps:=999999)(disch:=omega)only[go_sem,zA,zM,zS,zE,zL]
   repeat' (first|((with_reducible first|refine JJ ?_ ?_|refine JF ?_ ?_|refine JU ?_ ?_|refine Jw ?_ ?_|refine JH ?_ ?_|refine JI ?_ ?_|refine JD ?_ ?_|refine JE ?_ ?_|refine JS ?_ ?_|refine JT ?_ ?_|refine Jy ?_ ?_|refine Jz ?_ ?_)<;>intro hg<;>simp(maxSteps:=999999)(disch:=omega)only[go_sem,zA,zM,zS,zE,zL,hg])|(((first|(with_reducible first|refine Jl ?_ ?_|refine Jj ?_ ?_|refine Jp ?_ ?_)|refine Jr ?_ ?_)<;>intro hg)<;>simp(maxSteps:=999999)(disch:=omega)only[go_sem,zA,zM,zS,zE,zL]))
   all_goals first
    |exact⟨i+1,ys.set i (max (JA a i) (JA b i)),⟨⟨h,by simp[hl],nx _ rfl,Vq hok fun h2=>by omega⟩,by omega⟩,by omega,J0.refl _⟩
    |(exact⟨[],Qu _,fun h2=>(by rw[no ⟨by omega,by omega,by omega⟩]at h2;cases h2),fun _=>⟨rfl,rfl⟩⟩)
 · simp(maxSteps:=999999)(disch:=omega)only[go_sem,zA,zM,zS,zE,zL]
   have hb1:KO a b=true:=by simp only[KO,decide_eq_true_eq];exact fun j hj=>hok j (by omega)
   have:ys=Yq a b:=YN (by rw[hl,Uo]) fun j hj=>by rw[hall j (by omega),Xg (by omega)]
   subst this
   exact⟨_,J0.refl _,fun _=>⟨g,rfl,rfl⟩,fun h2=>(by rw[hb1]at h2;cases h2)⟩
theorem JdU{q:QZ}(h:Wq q):KO q.task.given q.put=true:=by
 simp only[KO,decide_eq_true_eq]
 rintro i hi ⟨h1,h2,h3⟩
 by_cases hi2:i<q.put.length
 · have:=(h.2.2 i (QB.2 ⟨by omega,by omega,h2⟩)).2
   omega
 · have:JA q.put i=0:=by simp[JA,List.getD,Jx (Nat.le_of_not_lt hi2)]
   omega
theorem Zs{q:QZ}(h:Qd q=true):JB q.task=true∧Qe q.put q.task.size=true∧q.moves.length≤40∧Wq q∧q.put.length=q.task.given.length∧q.put.length≤16:=by
 simp only[Qd,Bool.and_eq_true,decide_eq_true_eq]at h
 obtain⟨h1,h2,h3,h4⟩:=h
 have a1:=QC h2
 have a2:=QC (UQ h1)
 exact⟨h1,h2,h3,h4,by have:=a1.2.2.1;have:=a2.2.2.1;omega,a1.2.2.2.1⟩
def JN(q:QZ):List Int:=if Qd q then Yq q.task.given q.put else[]
theorem WQ{q:QZ}(h:Qd q=true):(JN q).length=q.task.given.length:=by simp[JN,h,Uo]
theorem Wf(q:QZ)(hx:smG q):Jn Tryz.prog 9 [aG q] [] (WS (JN q)):=by
 refine Jn.nz ?_
 refine Jn.cw (c:=_) Tryz.func9 rfl (n:=18) Tryz.ntmps9 (rs:=[.tmp 2]) rfl ?_
 simp only[Je,Jf,zA,zS,Jd,Jb,Jc]
 simp(maxSteps:=999999)(disch:=omega)only[go_sem,zA,zM,zS,zE,zL]
 intro g
 first|refine JZ.rd (QU q hx) (⟨_,Tryz.func34,rfl,rfl⟩:Ji Tryz.prog 34) rfl rfl rfl rfl ?_|refine JK.rd (QU q hx) (⟨_,Tryz.func34,rfl,rfl⟩:Ji Tryz.prog 34) rfl rfl rfl rfl ?_
 simp(maxSteps:=999999)(disch:=omega)only[go_sem,zA,zM,zS,zE,zL]
 ((first|(with_reducible first|refine Jl ?_ ?_|refine Jj ?_ ?_|refine Jp ?_ ?_)|refine Jr ?_ ?_)<;>intro h)
 · obtain⟨h1,h2,h3,h4,h5,h6⟩:=Zs h
   have hl:=WQ h
   have hg:JN q=Yq q.task.given q.put:=by simp[JN,h]
   simp(maxSteps:=999999)(disch:=omega)only[go_sem,zA,zM,zS,zE,zL]
   refine JZ.mkQ (JaC q.task.given q.put hx.1.1 h5.symm) (⟨_,Tryz.func37,rfl,rfl⟩:Ji Tryz.prog 37) rfl rfl rfl ?_
   rintro _ _ ⟨hy,hn⟩
   obtain⟨g2,rfl,rfl⟩:=hy (JdU h4)
   refine⟨rfl, ?_⟩
   simp(maxSteps:=999999)(disch:=omega)only[go_sem,zA,zM,zS,zE,zL]
   rw[←hl,←hg]
   exact⟨_,BJ _ _ _ (J0.refl _),_,_,rfl,Qy.o 1 g2 none _ [] (by rw[Ju];simp only[go_sem]),RI (Wl K1)⟩
 · simp(maxSteps:=999999)(disch:=omega)only[go_sem,zA,zM,zS,zE,zL]
   have hg:JN q=[]:=by simp[JN,h]
   rw[hg]
   exact⟨[],Qu _,_,_,rfl,Jim,K1⟩
theorem XW(q:QZ)(hx:smG q):Jn Tryz.prog 11 [aG q] [] (WS (JN q)):=by
 refine Jn.nz ?_
 refine Jn.cw (c:=_) Tryz.func11 rfl (n:=34) Tryz.ntmps11 (rs:=[.tmp 2]) rfl ?_
 simp only[Je,Jf,zA,zS,Jd,Jb,Jc]
 simp(maxSteps:=999999)(disch:=omega)only[go_sem,zA,zM,zS,zE,zL]
 intro g
 first|refine JZ.rd (QN q hx) (⟨_,Tryz.func12,rfl,rfl⟩:Ji Tryz.prog 12) rfl rfl rfl rfl ?_|refine JK.rd (QN q hx) (⟨_,Tryz.func12,rfl,rfl⟩:Ji Tryz.prog 12) rfl rfl rfl rfl ?_
 simp(maxSteps:=999999)(disch:=omega)only[go_sem,zA,zM,zS,zE,zL]
 ((first|(with_reducible first|refine Jl ?_ ?_|refine Jj ?_ ?_|refine Jp ?_ ?_)|refine Jr ?_ ?_)<;>intro h)
 · obtain⟨h1,h2,h3,h4,h5,h6⟩:=Zs h
   have hl:=WQ h
   have hg:JN q=Yq q.task.given q.put:=by simp[JN,h]
   have hb1:=QC h2
   have hb2:=QC (UQ h1)
   have hsq:=GQ ⟨hb1.1,hb1.2.1⟩
   have hpos:q.put.length≠0:=by omega
   simp(maxSteps:=999999)(disch:=omega)only[go_sem,zA,zM,zS,zE,zL]
   intro g2 g3
   have hgv:∀j:Nat,j<q.put.length→JA q.put j+JA q.task.given j=max (JA q.task.given j) (JA q.put j)∧0≤JA q.put j∧JA q.put j≤4∧0≤JA q.task.given j∧JA q.task.given j≤4:=fun j hj=>by
    have:=hb1.2.2.2.2 j hj
    have:=hb2.2.2.2.2 j (by omega)
    by_cases hp:0<JA q.put j
    · have:=(h4.2.2 j (QB.2 ⟨by omega,by omega,hp⟩)).2
      omega
    · omega
   refine Qp (fun(i:Nat) (ys:List Int)=>q.put.length -i) (fun i ys=>i≤q.put.length∧ys.length=q.put.length∧(∀j:Nat,j<i→JA ys j=max (JA q.task.given j) (JA q.put j))∧∀j:Nat,i≤j→JA ys j=JA q.put j) (fun i _=>[.a, .k, .a, .k, .p (int i), .a, .a, .a, .a, .a, .a, .a, .a, .a, .a, .a, .a, .a, .a, .a, .a, .a, .a, .a, .a, .a, .a, .a, .a, .a, .a, .a, .a, .a]) (fun _ ys=>[some ⟨g,1,cG q⟩,some ⟨g3,1,cl (eI .i64) ys⟩]) 0 q.put
    ⟨Nat.zero_le _,rfl,fun j hj=>absurd hj (Nat.not_lt_zero _),fun j hj=>rfl⟩ (by simp(maxSteps:=999999)(disch:=omega)only[go_sem,zA,zM,zS,zE,zL];rfl) (J0.refl _) ?_
   rintro i ys ⟨hi,hl2,hall,hkeep⟩
   simp(maxSteps:=999999)(disch:=omega)only[go_sem,zA,zM,zS,zE,zL]
   ((first|(with_reducible first|refine Jl ?_ ?_|refine Jj ?_ ?_|refine Jp ?_ ?_)|refine Jr ?_ ?_)<;>intro hi2)
   · have hi2:i<q.put.length:=by omega
     have hki:=hkeep i (Nat.le_refl _)
     have hgi:=hgv i hi2
     simp(maxSteps:=999999)(disch:=omega)only[go_sem,zA,zM,zS,zE,zL]
     refine Ui [0,1,2,3,4,5,6,7,8,9,10,11,12] [] none [13,14] [] Zd (by kernel_rfl) ?_
     simp(maxSteps:=999999)(disch:=omega)only[go_sem,Nat.reduceBEq,Bool.true_or,zA,zM,zS,zE,zL]
     refine⟨i+1,ys.set i (JA ys i+JA q.task.given i),⟨⟨hi2,by simp[hl2],fun j hj=> ?_,fun j hj=> ?_⟩,by omega⟩,by omega,J0.refl _⟩
     · rw[Bt _ _ _ _ (by omega) (by omega)]
       split
       · rename_i he
         rw[he,hki];exact hgi.1
       · exact hall j (by omega)
     · rw[Bt _ _ _ _ (by omega) (by omega),if_neg (by omega)]
       exact hkeep j (by omega)
   · simp(maxSteps:=999999)(disch:=omega)only[go_sem,zA,zM,zS,zE,zL]
     have:ys=JN q:=YN (by rw[hl2,hl];exact h5) fun j hj=>by rw[hall j (by omega),hg,Xg (by omega)]
     subst this
     rw[h5,←hl,Nat.zero_add]
     exact⟨[none,some ⟨g3,1,cl (eI .i64) (JN q)⟩],BJ _ _ _ (J0.refl _),_,_,rfl,Qy.o 1 g3 none _ [] (by rw[Ju];exact J8 (H:=[none,some ⟨g3,1,cl (eI .i64) (JN q)⟩]) (id:=1) (b:=⟨g3,1,cl (eI .i64) (JN q)⟩) rfl),RI (Wl K1)⟩
 · simp(maxSteps:=999999)(disch:=omega)only[go_sem,zA,zM,zS,zE,zL]
   have hg:JN q=[]:=by simp[JN,h]
   rw[hg]
   intro g2
   exact⟨[none,some ⟨g2,1,[]⟩],BJ _ _ _ (J0.refl _),_,_,rfl,Qy.o 1 g2 none [] [] (by simp only[go_sem];rfl),RI (Wl (xs:=[]) K1)⟩
end Go.Lg

namespace Go.Lg
open Go.Proofs
theorem Jbz(P:Program)(s:List AV)(H:Jm)(t u:Nat)(ty:TypeId):YD P s H [.cell t ty, .tmp u]=(V3 P H ty (s.getD t .void)).map fun v=> .tup [v,s.getD u .void]:=by
 simp only[YD,YE,Fb]
 cases V3 P H ty (s.getD t .void)<;>rfl
attribute [go_sem] Jbz
inductive WL(H:Jm):CV→List Int→List Nat→Prop where
 |n:WL H (.f .nil) [] []
 |o (id g:Nat) (xs:List Int) (h:look H id g=some ⟨g,1,cl (eI .i64) xs⟩):WL H (.own id g 0 xs.length none) xs [id]
theorem WL.toI{H:Jm}{c:CV}{xs:List Int}{S:List Nat}(h:WL H c xs S):Qy H (nzC c) xs S:=by
 cases h with
 |n=>exact .e
 |o id g xs h=>exact .o id g none xs [] (by rw[Ju];exact h)
theorem WL.same{H H':Jm}{c:CV}{xs:List Int}{S:List Nat}(h:WL H c xs S)(hs:∀i∈S,H'[i]? =H[i]?):WL H' c xs S:=by
 cases h with
 |n=>exact .n
 |o id g xs h=>exact .o id g xs (by unfold look at*;rw[hs id (by simp)];exact h)
theorem WL.shift{H0 H:Jm}{c:CV}{xs:List Int}{S:List Nat}(h:WL H c xs S):WL (H0++Q7 H0.length H) (Uf H0.length c) xs (S.map (· +H0.length)):=by
 cases h with
 |n=>exact .n
 |o id g xs h=>
  refine .o (id+H0.length) g xs ?_
  rw[Up h]
  simp only[ZJ,VZ]
theorem WL.lt{H:Jm}{c:CV}{xs:List Int}{S:List Nat}(h:WL H c xs S):∀i∈S,i<H.length:=fun i hi=>h.toI.lt i hi
theorem WL.nd{H:Jm}{c:CV}{xs:List Int}{S:List Nat}(h:WL H c xs S):S.Nodup:=h.toI.nd
def Ja0(xs:List Int):KV:=fun r H=>∃c S,r= .c c∧WL H c xs S
structure RD(H:Jm)(cs:List CV)(q:QZ)(S:List Nat):Prop where
 ex:∃c1 c2 c3 c4 S1 S2 S3 S4,cs=[.f (.int .i64 q.task.size),c1,c2,c3,c4]∧S=S1++(S2++(S3++S4))∧Qy H c1 q.task.given S1∧U8 H c2 q.task.rules S2∧Qy H c3 q.put S3∧WL H c4 q.moves S4
 nd:S.Nodup
def Jly(q:QZ):KV:=fun v H=>∃cs S,v= .agg cs∧RD H cs q S
theorem RD.shift{H0 H:Jm}{cs:List CV}{q:QZ}{S:List Nat}(h:RD H cs q S):RD (H0++Q7 H0.length H) (cs.map (Uf H0.length)) q (S.map (· +H0.length)):=by
 obtain⟨c1,c2,c3,c4,S1,S2,S3,S4,rfl,rfl,h1,h2,h3,h4⟩:=h.ex
 exact⟨⟨_,_,_,_,_,_,_,_,rfl,by simp,h1.shift,h2.shift,h3.shift,h4.shift⟩,Kv h.nd⟩
theorem RD.lt{H:Jm}{cs:List CV}{q:QZ}{S:List Nat}(h:RD H cs q S):∀i∈S,i<H.length:=by
 obtain⟨c1,c2,c3,c4,S1,S2,S3,S4,rfl,rfl,h1,h2,h3,h4⟩:=h.ex
 intro i hi
 simp only[J2]at hi
 rcases hi with hi|hi|hi|hi
 · exact h1.lt i hi
 · exact h2.lt i hi
 · exact h3.lt i hi
 · exact h4.lt i hi
theorem RD.same{H H':Jm}{cs:List CV}{q:QZ}{S:List Nat}(h:RD H cs q S)(hs:∀i∈S,H'[i]? =H[i]?):RD H' cs q S:=by
 obtain⟨c1,c2,c3,c4,S1,S2,S3,S4,rfl,rfl,h1,h2,h3,h4⟩:=h.ex
 refine⟨⟨_,_,_,_,_,_,_,_,rfl,rfl,h1.same fun i hi=>hs i ?_,h2.same fun i hi=>hs i ?_,h3.same fun i hi=>hs i ?_,h4.same fun i hi=>hs i ?_⟩,h.nd⟩<;>simp[hi]
section
variable{P:Program}{o:Oper}{st:St}{K:KV}{fo:Operand}{xs:Array Operand}{ts:Array TypeId}{f:FuncId}{args args':List AV}{zs:List Int}{ops:Array Oper}{s:List AV}{H:Jm}
theorem JZ.mkA(hc:Jn P f args [] (Ja0 zs))(he:Ji P f)(ho:o.op= .call ⟨.value fo,xs,ts⟩)(ha:Qc st fo xs=some (f,args))(hf:args.all Q2=true)
 (hk:∀c H' S,WL (st.h++H') c zs S→(∀i∈S,st.h.length≤i∧i<st.h.length+H'.length)→K (.c c) (st.h++H')):JZ P o st K:=
 JZ.mkQ hc he ho ha hf fun r H' ⟨c,S,h1,h2⟩=>by
  subst h1
  exact⟨rfl,hk _ _ _ h2.shift (by rw[QQ];exact Ug h2.lt)⟩
theorem JZ.mkGA{q:QZ}(hc:Jn P f args [] (Jly q))(he:Ji P f)(ho:o.op= .call ⟨.value fo,xs,ts⟩)(ha:Qc st fo xs=some (f,args))(hf:args.all Q2=true)
 (hk:∀cs H' S,RD (st.h++H') cs q S→(∀i∈S,st.h.length≤i∧i<st.h.length+H'.length)→K (.agg cs) (st.h++H')):JZ P o st K:=
 JZ.mkQ hc he ho ha hf fun r H' ⟨c,S,h1,h2⟩=>by
  subst h1
  exact⟨rfl,hk _ _ _ h2.shift (by rw[QQ];exact Ug h2.lt)⟩
end
theorem Qy.inv{H:Jm}{c:CV}{xs:List Int}{S:List Nat}(h:Qy H c xs S)(hn:xs≠[]):∃id g lim ys,c= .own id g 0 xs.length lim∧S=[id]∧look H id g=some ⟨g,1,cl (eI .i64) (xs++ys)⟩:=by
 cases h with
 |e=>exact absurd rfl hn
 |o id g lim xs ys h=>exact⟨id,g,lim,ys,rfl,rfl,h⟩
theorem Ng{S1 S2 S3 S4:List Nat}(h:(S1++(S2++(S3++S4))).Nodup):(∀a∈S1,a∉S3∧a∉S4)∧(∀a∈S2,a∉S3∧a∉S4)∧(∀a∈S3,a∉S4)∧(S1++S2).Nodup:=by
 have h':=h
 rw[←Jt,Qo]at h
 obtain⟨h12,h34,hd⟩:=h
 rw[Qo]at h34
 refine⟨fun a ha=>⟨fun hb=> ?_,fun hb=> ?_⟩,fun a ha=>⟨fun hb=> ?_,fun hb=> ?_⟩,fun a ha hb=>h34.2.2 a ha a hb rfl,h12⟩
 · exact hd a (by simp[ha]) a (by simp[hb]) rfl
 · exact hd a (by simp[ha]) a (by simp[hb]) rfl
 · exact hd a (by simp[ha]) a (by simp[hb]) rfl
 · exact hd a (by simp[ha]) a (by simp[hb]) rfl
theorem Jet{S1 S2 S3 S4 S5:List Nat}{N:Nat}(h:(S1++(S2++(S3++S4))).Nodup)(h5:S5.Nodup)(hs:∀k∈S5,k∈S4∨N≤k)(k1:∀k∈S1,k<N)(k2:∀k∈S2,k<N)(k3:∀k∈S3,k<N):(S1++(S2++(S3++S5))).Nodup:=by
 have e:∀T:List Nat,S1++(S2++(S3++T))=(S1++S2++S3)++T:=fun T=>by simp
 rw[e]at h⊢
 rw[Qo]at h⊢
 refine⟨h.1,h5,fun a ha b hb he=> ?_⟩
 subst he
 rcases hs a hb with h4|h4
 · exact h.2.2 a ha a h4 rfl
 · have:a<N:=by
    rcases J2.1 ha with ha|ha
    · rcases J2.1 ha with ha|ha
      · exact k1 a ha
      · exact k2 a ha
    · exact k3 a ha
   omega
theorem JhB{P:Program}{H:Jm}{t:TypeId}{ei:TI}{K:KV}(ht:QW P t=some ei)(hz:ei.zero.length=ei.size∧ei.size=1∧ei.bytes=8){c:CV}{xs:List Int}{S:List Nat}(h:WL H c xs S)(hx:xs.length≤2^40)
 {n g:Nat} {lim:Option Nat} {v:Int} (hl:look H n g=some ⟨g,1,[.f (.int .i64 v)]⟩)
 (hk:∀c' H' S',WL H' c' (xs++[v]) S'→(∀k,k<H.length→k∉S→H'[k]? =H[k]?)→(∀k∈S',k∈S∨H.length≤k)→H.length≤H'.length→K (.c c') H'):
 J9 P H t (.c c) (.c (.own n g 0 1 lim)) K:=by
 obtain⟨hz1,hz2,hz3⟩:=hz
 unfold J9
 cases h with
 |n=>
  simp only[ht,hz1,hz2,if_true,elems,hl,JR,Nat.one_mul,WJ,hz3,Y4,Rh]
  refine⟨⟨by omega,by omega⟩,fun g'=> ?_⟩
  refine hk _ _ [H.length] (WL.o H.length g' [v] (J8 (b:=⟨g',1,cl (eI .i64) [v]⟩) (by simp;rfl))) (fun k hk _=>Ja hk) (by simp) (by simp)
 |o id g2 xs hl2=>
  have hlt:id<H.length:=(Jh.1 (JG hl2).1).1
  simp only[ht,hz1,hz2,if_true,elems,hl,hl2,JR,Nat.one_mul,WJ,hz3,Y4,Qa,Nat.mul_one]
  refine⟨⟨trivial,by omega,trivial,by omega,by omega⟩,fun g'=> ?_⟩
  have:=WL.o (H:=H.set id (some ⟨g',1,cl (eI .i64) xs++[.f (.int .i64 v)]⟩)) id g' (xs++[v]) (J8 (b:=⟨g',1,cl (eI .i64) (xs++[v])⟩) (by rw[JX hlt,Q6];rfl))
  rw[Jk]at this
  exact hk _ _ [id] this (fun k _ hk=>by rw[Jg (by simp at hk;omega)]) (fun k hk=> .inl hk) (by simp)
theorem Qy.nzc{H:Jm}{c:CV}{xs:List Int}{S:List Nat}(h:Qy H c xs S):nzC c=c:=by cases h<;>rfl
theorem U8.nzc{H:Jm}{c:CV}{xs:List Z0}{S:List Nat}(h:U8 H c xs S):nzC c=c:=by cases h<;>rfl
theorem JbZ{H:Jm}{q q':QZ}{b b':Bool}{c1 c2 c3 c4:CV}{S1 S2 S3 S4:List Nat}(hq:q'=q)(hb:b'=b)(k1:Qy H c1 q.task.given S1)(k2:U8 H c2 q.task.rules S2)(k3:Qy H c3 q.put S3)(k4:WL H c4 q.moves S4)
 (kn:(S1++(S2++(S3++S4))).Nodup):Uz H (nzQ (WE (YU b') q')) (.tup [.agg [.f (.int .i64 q.task.size),c1,c2,c3,c4], .c (.f (.bool b))]):=by
 subst hq hb
 refine⟨H,J0.refl _,[.f (.int .i64 q'.task.size),c1,c2,c3,nzC c4],_, ?_,⟨⟨_,_,_,_,_,_,_,_,rfl,rfl,k1,k2,k3,k4.toI⟩,kn⟩⟩
 simp only[nzA,nz1,YU,Qr,ZV,k1.nzc,k2.nzc,k3.nzc]
 rfl
theorem Jdw{H:Jm}{q':QZ}{b b':Bool}(hq:q'=⟨⟨0,[],[]⟩,[],[]⟩)(hb:b'=b):Uz H (nzQ (WE (YU b') q')) (.tup [.agg [.f (.int .i64 0), .f .nil, .f .nil, .f .nil, .f .nil], .c (.f (.bool b))]):=by
 subst hq hb
 exact⟨H,J0.refl _,_,[],rfl,⟨⟨_,_,_,_,[],[],[],[],rfl,rfl, .e, .e, .e, .e⟩,by simp⟩⟩
theorem JhI(xs:List Int)(hx:xs.length≤2^40)(h0:xs≠[]):Jn Tryz.prog 89 [QO xs] [] (Ja0 xs):=by
 have hp:0<xs.length:=List.length_pos_iff.2 h0
 refine Jn.cw (c:=_) Tryz.func89 rfl (n:=8) Tryz.ntmps89 (rs:=[.tmp 2]) rfl ?_
 simp only[Je,Jf,zA,zS,Jd,Jb,Jc]
 simp(maxSteps:=999999)(disch:=omega)only[go_sem,zA,zM,zS,zE,zL,Jcc UE rfl hp]
 intro g g'
 rw[Nat.zero_add]
 exact⟨_,J0.refl _,_,_,rfl, .o 0 g' xs (J8 (b:=⟨g',1,cl (eI .i64) xs⟩) rfl)⟩
theorem Jj0:Jn Tryz.prog 89 [QO []] [] (Ja0 []):=by
 refine Jn.of_bodyN (c:=_) rfl rfl (n:=8) rfl (rs:=[.tmp 2]) rfl ?_
 refine QH.seq (QH.region (JZ.val (v:= .c (.f .nil)) rfl ?_))
 refine QH.seq (QH.seq (QH.region (JZ.val (v:=QO []) rfl (JZ.nilOpen rfl (Wk UE rfl Kh) rfl rfl fun b=> ?_))))
 refine QH.cond (b:=b) rfl (fun hb=> ?_) (fun hb=> ?_)
 · refine QH.seq (QH.region (JZ.val (v:= .c (.f .nil)) rfl ?_))
   refine QH.ret ?_
   exact⟨.inr rfl,_,_,rfl,J0.refl _,_,_,rfl, .n⟩
 · refine QH.skip ?_
   refine(Ua _ _ _ (F8 Tryz.prog [.tmp 2] (Ja0 [])) ?_).mono fun e st ⟨h1,v,h2,H',h3,h4⟩=>⟨h1,v,H',h2,h3,h4⟩
   simp only[Je,Jf,zA,zS,Jd,Jb,Jc]
   simp(maxSteps:=999999)(disch:=omega)only[go_sem,zA,zM,zS,zE,zL]
   intro g
   show Uz [some ⟨g,1,[]⟩] (Ja0 []) (.c (.own 0 g 0 0 none))
   exact⟨_,J0.refl _,_,_,rfl, .o 0 g [] (J8 (b:=⟨g,1,[]⟩) rfl)⟩
theorem Jfc(xs:List Int)(hx:xs.length≤2^40):Jn Tryz.prog 89 [QO xs] [] (Ja0 xs):=by
 by_cases h:xs=[]
 · subst h;exact Jj0
 · exact JhI xs hx h
theorem Ry(q:QZ)(hx:smG q):Jn Tryz.prog 44 [aG q] [] (Jly q):=by
 refine Jn.cw (c:=_) Tryz.func44 rfl (n:=13) Tryz.ntmps44 (rs:=[.cell 2 28]) rfl ?_
 simp only[Je,Jf,zA,zS,Jd,Jb,Jc]
 simp(maxSteps:=999999)(disch:=omega)only[go_sem,zA,zM,zS,zE,zL]
 intro g1 g2
 refine Ui [0,1,3,4,6,7,2,5] [] none [8,9,10] [] Zd (by kernel_rfl) ?_
 simp(maxSteps:=999999)(disch:=omega)only[go_sem,Nat.reduceBEq,Bool.true_or,zA,zM,zS,zE,zL]
 refine JK.mkP (KL q.task hx.1) (⟨_,Tryz.func78,rfl,rfl⟩:Ji Tryz.prog 78) rfl rfl rfl ?_
 rintro _ H1 _ ⟨⟨c1,c2,S1,S2,rfl,rfl,k1,k2⟩,kn⟩ hS
 simp(maxSteps:=999999)(disch:=omega)only[go_sem,zA,zM,zS,zE,zL]
 refine JK.mkI (Yw q.put hx.2.1) (⟨_,Tryz.func89,rfl,rfl⟩:Ji Tryz.prog 89) rfl rfl rfl ?_
 intro c3 H3 S3 h3 hS3
 simp(maxSteps:=999999)(disch:=omega)only[go_sem,zA,zM,zS,zE,zL]
 refine JZ.mkA (Jfc q.moves hx.2.2) (⟨_,Tryz.func89,rfl,rfl⟩:Ji Tryz.prog 89) rfl rfl rfl ?_
 intro c4 H4 S4 h4 hS4
 simp(maxSteps:=999999)(disch:=omega)only[go_sem,zA,zM,zS,zE,zL]
 simp only[Jk,Je,Jf]at hS hS3 hS4
 refine⟨_,J0.refl _,_,S1++(S2++(S3++S4)),rfl,⟨⟨_,_,_,_,S1,S2,S3,S4,rfl,rfl,k1.same fun k hk=> ?_,k2.same fun k hk=> ?_,h3.same fun k hk=> ?_,h4.same fun k hk=> ?_⟩,JiA (n1:=H1.length+2) (n2:=H1.length+H3.length+2) kn h3.nd h4.nd (fun k hk=> ?_) (fun k hk=> ?_) (fun k hk=> ?_) (by omega)⟩⟩
 · have:=hS k (by simp[hk])
   simp only[Jb,Jc]
   rw[QI (by omega),QI (by omega),Ja (by simp;omega),Ja (by omega)]
 · have:=hS k (by simp[hk])
   simp only[Jb,Jc]
   rw[QI (by omega),QI (by omega),Ja (by simp;omega),Ja (by omega)]
 · have:=hS3 k hk
   simp only[Jb,Jc]
   rw[QI (by omega),QI (by omega),Ja (by simp;omega)]
 · have:=hS4 k hk
   simp only[Jb,Jc]
   rw[QI (by omega),QI (by omega)]
 · have:=hS k hk;omega
 · have:=hS3 k hk;omega
 · have:=hS4 k hk;omega
end Go.Lg
