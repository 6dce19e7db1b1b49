/- GpOE, GpM, GpN, GpX, GpY, cut to what is needed. -/
import Derived.Test.YtidekghnkifbjaaGreatDoorJab3
import Derived.Test.YtidekghnkifbjaaGreatDoorJab2
import Derived.Test.YtidekghnkifbjaaGreatDoorJaa9
open List renaming cons_append → Ja, getElem?_append_left → Jb, nil_append → Jc, replicate → Jd, length_cons → Je, length_nil → Jf, getElem?_eq_some_iff → Jg, getElem?_set_ne → Ji, length_append → Jk, length_set → Jo, append_assoc → Jt, append_nil → Ju, getElem?_eq_none → Jz, drop_zero → JQ, length_singleton → JV, mem_append → JZ, getElem?_set_self → J2, nodup_append → Qm, map_cons → Qq, length_replicate → QN, map_nil → ZZ
open Nat renaming reduceAdd→zA,reduceMul→zM,reduceSub→zS,reduceEqDiff→zE,reduceLeDiff→zL
set_option linter.unusedSimpArgs false
set_option linter.unusedVariables false
set_option maxRecDepth 100000
namespace Go.Lg
attribute [-go_sem] J9
theorem Rk{P:Program}{ops:Array Oper}{o:Oper}{s:List AV}{K:AV→Prop}{fo:Operand}{xs:Array Operand}{ts:Array TypeId}{f:FuncId}{args:List AV}{v:AV}
 (hc:JW P f args v) (he:Jh P f) (ho:o.op= .call ⟨.value fo,xs,ts⟩) (ha:Qa ⟨s,[]⟩ fo xs=some (f,args)) (hz:∀x∈Call.operands ⟨.value fo,xs,ts⟩,Q0 (QU s x)=true) (hf:args.all Q0=true)
 (hv:F3 v=true∧YV v=true∧WE 0 v=v∧VZ [] v=some v) (hk:K v):Xk P ops o s K:=by
 unfold Xk
 rw[ho]
 refine⟨v,fun H=>Vl.ops (by rw[ho];exact hz) hv.1 fun s' hs'=> ?_,hk⟩
 refine JY.mk hc he ho ?_ hf hv.2.1 hv.2.2.1 hv.2.2.2
 rw[V3 (s:=s) (H:=[]) ts fun x hx=>hs' x (by rw[ho];exact hx)]
 exact ha
inductive Z2(H:Jm):CV→List Int→List Nat→Prop where
 |m:Z2 H .emp [] []
 |o (id g:Nat) (xs:List Int) (h:look H id g=some ⟨g,1,cl (eI .i64) xs⟩):Z2 H (.own id g 0 xs.length none) xs [id]
theorem Z2.frzC{H:Jm}{c:CV}{xs:List Int}{S:List Nat}(h:Z2 H c xs S):Lg.frzC H c=some (.f (Qf xs)):=by
 cases h with
 |m=>rfl
 |o id g xs h=>exact(Qw.o id g none xs [] (by rw[Ju];exact h)).frzC
theorem Z2.same{H H':Jm}{c:CV}{xs:List Int}{S:List Nat}(h:Z2 H c xs S)(hs:∀i∈S,H'[i]? =H[i]?):Z2 H' c xs S:=by
 cases h with
 |m=>exact .m
 |o id g xs h=>exact .o id g xs (by unfold look at*;rw[hs id (by simp)];exact h)
theorem Z2.shift{H0 H:Jm}{c:CV}{xs:List Int}{S:List Nat}(h:Z2 H c xs S):Z2 (H0++Q2 H0.length H) (Uc H0.length c) xs (S.map (· +H0.length)):=by
 cases h with
 |m=>exact .m
 |o id g xs h=>
  refine .o (id+H0.length) g xs ?_
  rw[Ux h]
  simp only[ZG,Ws]
theorem Z2.lt{H:Jm}{c:CV}{xs:List Int}{S:List Nat}(h:Z2 H c xs S):∀i∈S,i<H.length:=by
 cases h with
 |m=>simp
 |o id g xs h=>intro i hi;have:i=id:=by simpa using hi
               subst this;exact(Jg.1 (JJ h).1).1
theorem Z2.nd{H:Jm}{c:CV}{xs:List Int}{S:List Nat}(h:Z2 H c xs S):S.Nodup:=by cases h<;>simp
theorem Z2.inv{H:Jm}{c:CV}{xs:List Int}{S:List Nat}(h:Z2 H c xs S)(hn:xs≠[]):∃id g,c= .own id g 0 xs.length none∧S=[id]∧look H id g=some ⟨g,1,cl (eI .i64) xs⟩:=by
 cases h with
 |m=>exact absurd rfl hn
 |o id g xs h=>exact⟨id,g,rfl,rfl,h⟩
theorem Z2.inv0{H:Jm}{c:CV}{xs:List Int}{S:List Nat}(h:Z2 H c xs S)(hn:xs=[]):c= .emp∨∃id g,c= .own id g 0 0 none∧look H id g=some ⟨g,1,[]⟩:=by
 cases h with
 |m=>exact .inl rfl
 |o id g xs h=>subst hn;exact .inr ⟨id,g,rfl,h⟩
theorem FK{P:Program}{H:Jm}{t:TypeId}{ei:TI}{K:KV}(ht:QR P t=some ei)(hz:ei.zero.length=ei.size∧ei.size=1∧ei.bytes=8){xs:List Int}(hx:xs.length≤2^40)
 (hk:∀c H' S,Z2 (H++H') c xs S→(∀k∈S,H.length≤k∧k<H.length+H'.length)→K (.c c) (H++H')):J9 P H t (.c .emp) (.c (.f (.sl xs.length (fl (eI .i64) xs)))) K:=by
 obtain⟨hz1,hz2,hz3⟩:=hz
 unfold J9
 simp only[ht,hz1,hz2,if_true,elems,Uu,WB]
 split
 · rename_i h0
   have:xs=[]:=List.eq_nil_of_length_eq_zero h0
   subst this
   have:=hk .emp [] [] .m (by simp)
   rwa [Ju]at this
 · refine⟨⟨by omega,by rw[hz3];omega⟩,fun g=> ?_⟩
   exact hk _ [some ⟨g,1,cl (eI .i64) xs⟩] [H.length] (.o H.length g xs (J6 (b:=⟨g,1,cl (eI .i64) xs⟩) (by simp))) (by simp)
theorem Jg5{P:Program}{H:Jm}{t:TypeId}{ei:TI}{K:KV}(ht:QR P t=some ei)(hz:ei.zero.length=ei.size∧ei.size=1∧ei.bytes=8){c:CV}{xs:List Int}{S:List Nat}(h:Z2 H c xs S)(hx:xs.length≤2^40)
 {n g:Nat} {lim:Option Nat} {v:Int} (hl:look H n g=some ⟨g,1,[.f (.int .i64 v)]⟩)
 (hk:∀c' H' S',Z2 H' c' (xs++[v]) S'→(∀k,k<H.length→k∉S→H'[k]? =H[k]?)→(∀k∈S',k∈S∨H.length≤k)→H.length≤H'.length→K (.c c') H'):
 J9 P H t (.c c) (.c (.own n g 0 1 lim)) K:=by
 obtain⟨hz1,hz2,hz3⟩:=hz
 unfold J9
 cases h with
 |m=>
  simp only[ht,hz1,hz2,if_true,elems,hl,JQ,Nat.one_mul,WB,hz3,YD,KR]
  refine⟨⟨by omega,by omega⟩,fun g'=> ?_⟩
  refine hk _ _ [H.length] (Z2.o H.length g' [v] (J6 (b:=⟨g',1,cl (eI .i64) [v]⟩) (by simp;rfl))) (fun k hk _=>Jb hk) (by simp) (by simp)
 |o id g2 xs hl2=>
  have hlt:id<H.length:=(Jg.1 (JJ hl2).1).1
  simp only[ht,hz1,hz2,if_true,elems,hl,hl2,JQ,Nat.one_mul,WB,hz3,YD,J7,Nat.mul_one]
  refine⟨⟨trivial,by omega,trivial,by omega,by omega⟩,fun g'=> ?_⟩
  have:=Z2.o (H:=H.set id (some ⟨g',1,cl (eI .i64) xs++[.f (.int .i64 v)]⟩)) id g' (xs++[v]) (J6 (b:=⟨g',1,cl (eI .i64) (xs++[v])⟩) (by rw[J2 hlt,QZ];rfl))
  rw[Jk]at this
  exact hk _ _ [id] this (fun k _ hk=>by rw[Ji (by simp at hk;omega)]) (fun k hk=> .inl hk) (by simp)
end Go.Lg

namespace Go.Lg
open Go.Proofs
def RO.setV(o:RO)(k:Int):RO:={o with r:={o.r with val:=k}}
end Go.Lg

namespace Go.Lg
open Go.Proofs
def X7(a b:List Int):List Int:=(List.range a.length).map fun i:Nat=>max (JA a i) (JA b i)
def Ks(a b:List Int):Bool:=decide (∀i:Nat,i<a.length→¬(0<JA a i∧0<JA b i∧JA a i≠JA b i))
theorem Uz(a b:List Int):(X7 a b).length=a.length:=by simp[X7]
theorem X6{a b:List Int}{i:Nat}(h:i<a.length):JA (X7 a b) i=max (JA a i) (JA b i):=by
 rw[Qs (by rw[Uz];omega)];simp[X7]
def bothQ(a b:List Int):KV:=fun r H=>(Ks a b=true→∃g,r= .tup [.c (.own 0 g 0 a.length none),bool true]∧H=[some ⟨g,1,cl (eI .i64) (X7 a b)⟩])∧(Ks a b=false→r= .tup [.c (.f (.sl 0 [])),bool false]∧H=[])
theorem N6(a b:List Int)(hx:a.length≤2^40)(hb:a.length=b.length):Jn Tryz.prog 37 [QG a,QG b] [] (bothQ a b):=by
 refine Jn.nz ?_
 refine Jn.cw (c:=_) Tryz.func37 rfl (n:=47) Tryz.ntmps37 (rs:=[.tmp 4, .tmp 5]) rfl ?_
 simp only[Je,Jf,zA,zS,Jd,Ja,Jc]
 simp(maxSteps:=999999)(disch:=omega)only[go_sem,zA,zM,zS,zE,zL]
 intro g
 refine Qv (fun(i:Nat) (ys:List Int)=>a.length -i) (fun i ys=>i≤a.length∧ys.length=a.length∧(∀j:Nat,j<i→JA ys j=max (JA a j) (JA b j))∧∀j:Nat,j<i→¬(0<JA a j∧0<JA b j∧JA a j≠JA b j)) (fun i _=>[.a, .k, .a, .a, .a, .a, .k, .a, .a, .a, .a, .a, .k, .k, .p (int i), .a, .a, .a, .a, .a, .a, .a, .a, .a, .a, .a, .a, .a, .a, .a, .a, .a, .a, .a, .a, .a, .a, .a, .a, .a, .a, .a, .a, .a, .a, .a, .a]) (fun _ ys=>[some ⟨g,1,cl (eI .i64) ys⟩]) 0 (Jd a.length 0)
  ⟨Nat.zero_le _,QN,fun j hj=>absurd hj (Nat.not_lt_zero _),fun j hj=>absurd hj (Nat.not_lt_zero _)⟩ (by simp(maxSteps:=999999)(disch:=omega)only[go_sem,zA,zM,zS,zE,zL];rfl) (J0.refl _) ?_
 rintro i ys ⟨hi,hl,hall,hok⟩
 simp(maxSteps:=999999)(disch:=omega)only[go_sem,zA,zM,zS,zE,zL]
 ((first|(with_reducible first|refine Jl ?_ ?_|refine Jj ?_ ?_|refine Jp ?_ ?_)|refine Jr ?_ ?_)<;>intro h)
 · have h:i<a.length:=by omega
   have no:0<JA a i∧0<JA b i∧JA a i≠JA b i→Ks a b=false:=fun h2=>by
    simp only[Ks,decide_eq_false_iff_not];exact fun h3=>h3 i h h2
   have nx:∀v,v=max (JA a i) (JA b i)→∀j:Nat,j<i+1→JA (ys.set i v) j=max (JA a j) (JA b j):=fun v hv j hj=>by
    rw[R7 _ _ _ _ (by omega) (by omega)]
    split
    · rename_i he;rw[hv,he]
    · exact hall j (by omega)
   simp(maxSteps:=999999)(disch:=omega)only[go_sem,zA,zM,zS,zE,zL]
   repeat' (first|((with_reducible first|refine JH ?_ ?_|refine JD ?_ ?_|refine JP ?_ ?_|refine Jv ?_ ?_|refine JF ?_ ?_|refine JG ?_ ?_|refine JB ?_ ?_|refine JC ?_ ?_|refine JN ?_ ?_|refine JO ?_ ?_|refine Jw ?_ ?_|refine Jx ?_ ?_)<;>intro hg<;>simp(maxSteps:=999999)(disch:=omega)only[go_sem,zA,zM,zS,zE,zL,hg])|(((first|(with_reducible first|refine Jl ?_ ?_|refine Jj ?_ ?_|refine Jp ?_ ?_)|refine Jr ?_ ?_)<;>intro hg)<;>simp(maxSteps:=999999)(disch:=omega)only[go_sem,zA,zM,zS,zE,zL]))
   all_goals first
    |exact⟨i+1,ys.set i (max (JA a i) (JA b i)),⟨⟨h,by simp[hl],nx _ rfl,Vh hok fun h2=>by omega⟩,by omega⟩,by omega,J0.refl _⟩
    |(exact⟨[],Qt _,fun h2=>(by rw[no ⟨by omega,by omega,by omega⟩]at h2;cases h2),fun _=>⟨rfl,rfl⟩⟩)
 · simp(maxSteps:=999999)(disch:=omega)only[go_sem,zA,zM,zS,zE,zL]
   have hb1:Ks a b=true:=by simp only[Ks,decide_eq_true_eq];exact fun j hj=>hok j (by omega)
   have:ys=X7 a b:=KN (by rw[hl,Uz]) fun j hj=>by rw[hall j (by omega),X6 (by omega)]
   subst this
   exact⟨_,J0.refl _,fun _=>⟨g,rfl,rfl⟩,fun h2=>(by rw[hb1]at h2;cases h2)⟩
theorem Jdo{q:ZF}(h:Wk q):Ks q.task.given q.put=true:=by
 simp only[Ks,decide_eq_true_eq]
 rintro i hi ⟨h1,h2,h3⟩
 by_cases hi2:i<q.put.length
 · have:=(h.2.2 i (Qz.2 ⟨by omega,by omega,h2⟩)).2
   omega
 · have:JA q.put i=0:=by simp[JA,List.getD,Jz (Nat.le_of_not_lt hi2)]
   omega
theorem Zw{q:ZF}(h:Qo q=true):Jy q.task=true∧J8 q.put q.task.size=true∧q.moves.length≤40∧Wk q∧q.put.length=q.task.given.length∧q.put.length≤16:=by
 simp only[Qo,Bool.and_eq_true,decide_eq_true_eq]at h
 obtain⟨h1,h2,h3,h4⟩:=h
 have a1:=QA h2
 have a2:=QA (UG h1)
 exact⟨h1,h2,h3,h4,by have:=a1.2.2.1;have:=a2.2.2.1;omega,a1.2.2.2.1⟩
def JK(q:ZF):List Int:=if Qo q then X7 q.task.given q.put else[]
theorem WF{q:ZF}(h:Qo q=true):(JK q).length=q.task.given.length:=by simp[JK,h,Uz]
theorem Vm(q:ZF)(hx:smG q):Jn Tryz.prog 9 [aG q] [] (Wa (JK q)):=by
 refine Jn.nz ?_
 refine Jn.cw (c:=_) Tryz.func9 rfl (n:=18) Tryz.ntmps9 (rs:=[.tmp 2]) rfl ?_
 simp only[Je,Jf,zA,zS,Jd,Ja,Jc]
 simp(maxSteps:=999999)(disch:=omega)only[go_sem,zA,zM,zS,zE,zL]
 intro g
 first|refine JY.rd (ZH q hx) (⟨_,Tryz.func34,rfl,rfl⟩:Jh Tryz.prog 34) rfl rfl rfl rfl ?_|refine JM.rd (ZH q hx) (⟨_,Tryz.func34,rfl,rfl⟩:Jh Tryz.prog 34) rfl rfl rfl rfl ?_
 simp(maxSteps:=999999)(disch:=omega)only[go_sem,zA,zM,zS,zE,zL]
 ((first|(with_reducible first|refine Jl ?_ ?_|refine Jj ?_ ?_|refine Jp ?_ ?_)|refine Jr ?_ ?_)<;>intro h)
 · obtain⟨h1,h2,h3,h4,h5,h6⟩:=Zw h
   have hl:=WF h
   have hg:JK q=X7 q.task.given q.put:=by simp[JK,h]
   simp(maxSteps:=999999)(disch:=omega)only[go_sem,zA,zM,zS,zE,zL]
   refine JY.mkQ (N6 q.task.given q.put hx.1.1 h5.symm) (⟨_,Tryz.func37,rfl,rfl⟩:Jh Tryz.prog 37) rfl rfl rfl ?_
   rintro _ _ ⟨hy,hn⟩
   obtain⟨g2,rfl,rfl⟩:=hy (Jdo h4)
   refine⟨rfl, ?_⟩
   simp(maxSteps:=999999)(disch:=omega)only[go_sem,zA,zM,zS,zE,zL]
   rw[←hl,←hg]
   exact⟨_,Bk _ _ _ (J0.refl _),_,_,rfl,Qw.o 1 g2 none _ [] (by rw[Ju];simp only[go_sem]),Rl (Wf KE)⟩
 · simp(maxSteps:=999999)(disch:=omega)only[go_sem,zA,zM,zS,zE,zL]
   have hg:JK q=[]:=by simp[JK,h]
   rw[hg]
   exact⟨[],Qt _,_,_,rfl,JhU,KE⟩
theorem Vs(q:ZF)(hx:smG q):Jn Tryz.prog 11 [aG q] [] (Wa (JK q)):=by
 refine Jn.nz ?_
 refine Jn.cw (c:=_) Tryz.func11 rfl (n:=34) Tryz.ntmps11 (rs:=[.tmp 2]) rfl ?_
 simp only[Je,Jf,zA,zS,Jd,Ja,Jc]
 simp(maxSteps:=999999)(disch:=omega)only[go_sem,zA,zM,zS,zE,zL]
 intro g
 first|refine JY.rd (Zt q hx) (⟨_,Tryz.func12,rfl,rfl⟩:Jh Tryz.prog 12) rfl rfl rfl rfl ?_|refine JM.rd (Zt q hx) (⟨_,Tryz.func12,rfl,rfl⟩:Jh Tryz.prog 12) rfl rfl rfl rfl ?_
 simp(maxSteps:=999999)(disch:=omega)only[go_sem,zA,zM,zS,zE,zL]
 ((first|(with_reducible first|refine Jl ?_ ?_|refine Jj ?_ ?_|refine Jp ?_ ?_)|refine Jr ?_ ?_)<;>intro h)
 · obtain⟨h1,h2,h3,h4,h5,h6⟩:=Zw h
   have hl:=WF h
   have hg:JK q=X7 q.task.given q.put:=by simp[JK,h]
   have hb1:=QA h2
   have hb2:=QA (UG h1)
   have hsq:=Gr ⟨hb1.1,hb1.2.1⟩
   have hpos:q.put.length≠0:=by omega
   simp(maxSteps:=999999)(disch:=omega)only[go_sem,zA,zM,zS,zE,zL]
   intro g2 g3
   have hgv:∀j:Nat,j<q.put.length→JA q.put j+JA q.task.given j=max (JA q.task.given j) (JA q.put j)∧0≤JA q.put j∧JA q.put j≤4∧0≤JA q.task.given j∧JA q.task.given j≤4:=fun j hj=>by
    have:=hb1.2.2.2.2 j hj
    have:=hb2.2.2.2.2 j (by omega)
    by_cases hp:0<JA q.put j
    · have:=(h4.2.2 j (Qz.2 ⟨by omega,by omega,hp⟩)).2
      omega
    · omega
   refine Qv (fun(i:Nat) (ys:List Int)=>q.put.length -i) (fun i ys=>i≤q.put.length∧ys.length=q.put.length∧(∀j:Nat,j<i→JA ys j=max (JA q.task.given j) (JA q.put j))∧∀j:Nat,i≤j→JA ys j=JA q.put j) (fun i _=>[.a, .k, .a, .k, .p (int i), .a, .a, .a, .a, .a, .a, .a, .a, .a, .a, .a, .a, .a, .a, .a, .a, .a, .a, .a, .a, .a, .a, .a, .a, .a, .a, .a, .a, .a]) (fun _ ys=>[some ⟨g,1,cG q⟩,some ⟨g3,1,cl (eI .i64) ys⟩]) 0 q.put
    ⟨Nat.zero_le _,rfl,fun j hj=>absurd hj (Nat.not_lt_zero _),fun j hj=>rfl⟩ (by simp(maxSteps:=999999)(disch:=omega)only[go_sem,zA,zM,zS,zE,zL];rfl) (J0.refl _) ?_
   rintro i ys ⟨hi,hl2,hall,hkeep⟩
   simp(maxSteps:=999999)(disch:=omega)only[go_sem,zA,zM,zS,zE,zL]
   ((first|(with_reducible first|refine Jl ?_ ?_|refine Jj ?_ ?_|refine Jp ?_ ?_)|refine Jr ?_ ?_)<;>intro hi2)
   · have hi2:i<q.put.length:=by omega
     have hki:=hkeep i (Nat.le_refl _)
     have hgi:=hgv i hi2
     simp(maxSteps:=999999)(disch:=omega)only[go_sem,zA,zM,zS,zE,zL]
     refine Z9 [0,1,2,3,4,5,6,7,8,9,10,11,12] [] none [13,14] [] Zd (by kernel_rfl) ?_
     simp(maxSteps:=999999)(disch:=omega)only[go_sem,Nat.reduceBEq,Bool.true_or,zA,zM,zS,zE,zL]
     refine⟨i+1,ys.set i (JA ys i+JA q.task.given i),⟨⟨hi2,by simp[hl2],fun j hj=> ?_,fun j hj=> ?_⟩,by omega⟩,by omega,J0.refl _⟩
     · rw[R7 _ _ _ _ (by omega) (by omega)]
       split
       · rename_i he
         rw[he,hki];exact hgi.1
       · exact hall j (by omega)
     · rw[R7 _ _ _ _ (by omega) (by omega),if_neg (by omega)]
       exact hkeep j (by omega)
   · simp(maxSteps:=999999)(disch:=omega)only[go_sem,zA,zM,zS,zE,zL]
     have:ys=JK q:=KN (by rw[hl2,hl];exact h5) fun j hj=>by rw[hall j (by omega),hg,X6 (by omega)]
     subst this
     rw[h5,←hl,Nat.zero_add]
     exact⟨[none,some ⟨g3,1,cl (eI .i64) (JK q)⟩],Bk _ _ _ (J0.refl _),_,_,rfl,Qw.o 1 g3 none _ [] (by rw[Ju];exact J6 (H:=[none,some ⟨g3,1,cl (eI .i64) (JK q)⟩]) (id:=1) (b:=⟨g3,1,cl (eI .i64) (JK q)⟩) rfl),Rl (Wf KE)⟩
 · simp(maxSteps:=999999)(disch:=omega)only[go_sem,zA,zM,zS,zE,zL]
   have hg:JK q=[]:=by simp[JK,h]
   rw[hg]
   intro g2
   exact⟨[none,some ⟨g2,1,[]⟩],Bk _ _ _ (J0.refl _),_,_,rfl,Qw.o 1 g2 none [] [] (by simp only[go_sem];rfl),Rl (Wf (xs:=[]) KE)⟩
end Go.Lg

namespace Go.Lg
open Go.Proofs
theorem Ja2(P:Program)(s:List AV)(H:Jm)(t u:Nat)(ty:TypeId):Yh P s H [.cell t ty, .tmp u]=(VW P H ty (s.getD t .void)).map fun v=> .tup [v,s.getD u .void]:=by
 simp only[Yh,Yi,BL]
 cases VW P H ty (s.getD t .void)<;>rfl
attribute [go_sem] Ja2
inductive WC(H:Jm):CV→List Int→List Nat→Prop where
 |n:WC H (.f .nil) [] []
 |o (id g:Nat) (xs:List Int) (h:look H id g=some ⟨g,1,cl (eI .i64) xs⟩):WC H (.own id g 0 xs.length none) xs [id]
theorem WC.toI{H:Jm}{c:CV}{xs:List Int}{S:List Nat}(h:WC H c xs S):Qw H (nzC c) xs S:=by
 cases h with
 |n=>exact .e
 |o id g xs h=>exact .o id g none xs [] (by rw[Ju];exact h)
theorem WC.same{H H':Jm}{c:CV}{xs:List Int}{S:List Nat}(h:WC H c xs S)(hs:∀i∈S,H'[i]? =H[i]?):WC H' c xs S:=by
 cases h with
 |n=>exact .n
 |o id g xs h=>exact .o id g xs (by unfold look at*;rw[hs id (by simp)];exact h)
theorem WC.shift{H0 H:Jm}{c:CV}{xs:List Int}{S:List Nat}(h:WC H c xs S):WC (H0++Q2 H0.length H) (Uc H0.length c) xs (S.map (· +H0.length)):=by
 cases h with
 |n=>exact .n
 |o id g xs h=>
  refine .o (id+H0.length) g xs ?_
  rw[Ux h]
  simp only[ZG,Ws]
theorem WC.lt{H:Jm}{c:CV}{xs:List Int}{S:List Nat}(h:WC H c xs S):∀i∈S,i<H.length:=fun i hi=>h.toI.lt i hi
theorem WC.nd{H:Jm}{c:CV}{xs:List Int}{S:List Nat}(h:WC H c xs S):S.Nodup:=h.toI.nd
def Jat(xs:List Int):KV:=fun r H=>∃c S,r= .c c∧WC H c xs S
structure Re(H:Jm)(cs:List CV)(q:ZF)(S:List Nat):Prop where
 ex:∃c1 c2 c3 c4 S1 S2 S3 S4,cs=[.f (.int .i64 q.task.size),c1,c2,c3,c4]∧S=S1++(S2++(S3++S4))∧Qw H c1 q.task.given S1∧UW H c2 q.task.rules S2∧Qw H c3 q.put S3∧WC H c4 q.moves S4
 nd:S.Nodup
def Jk0(q:ZF):KV:=fun v H=>∃cs S,v= .agg cs∧Re H cs q S
theorem Re.shift{H0 H:Jm}{cs:List CV}{q:ZF}{S:List Nat}(h:Re H cs q S):Re (H0++Q2 H0.length H) (cs.map (Uc H0.length)) q (S.map (· +H0.length)):=by
 obtain⟨c1,c2,c3,c4,S1,S2,S3,S4,rfl,rfl,h1,h2,h3,h4⟩:=h.ex
 exact⟨⟨_,_,_,_,_,_,_,_,rfl,by simp,h1.shift,h2.shift,h3.shift,h4.shift⟩,Y6 h.nd⟩
theorem Re.lt{H:Jm}{cs:List CV}{q:ZF}{S:List Nat}(h:Re H cs q S):∀i∈S,i<H.length:=by
 obtain⟨c1,c2,c3,c4,S1,S2,S3,S4,rfl,rfl,h1,h2,h3,h4⟩:=h.ex
 intro i hi
 simp only[JZ]at hi
 rcases hi with hi|hi|hi|hi
 · exact h1.lt i hi
 · exact h2.lt i hi
 · exact h3.lt i hi
 · exact h4.lt i hi
theorem Re.same{H H':Jm}{cs:List CV}{q:ZF}{S:List Nat}(h:Re H cs q S)(hs:∀i∈S,H'[i]? =H[i]?):Re H' cs q S:=by
 obtain⟨c1,c2,c3,c4,S1,S2,S3,S4,rfl,rfl,h1,h2,h3,h4⟩:=h.ex
 refine⟨⟨_,_,_,_,_,_,_,_,rfl,rfl,h1.same fun i hi=>hs i ?_,h2.same fun i hi=>hs i ?_,h3.same fun i hi=>hs i ?_,h4.same fun i hi=>hs i ?_⟩,h.nd⟩<;>simp[hi]
section
variable{P:Program}{o:Oper}{st:St}{K:KV}{fo:Operand}{xs:Array Operand}{ts:Array TypeId}{f:FuncId}{args args':List AV}{zs:List Int}{ops:Array Oper}{s:List AV}{H:Jm}
theorem JY.mkA(hc:Jn P f args [] (Jat zs))(he:Jh P f)(ho:o.op= .call ⟨.value fo,xs,ts⟩)(ha:Qa st fo xs=some (f,args))(hf:args.all Q0=true)
 (hk:∀c H' S,WC (st.h++H') c zs S→(∀i∈S,st.h.length≤i∧i<st.h.length+H'.length)→K (.c c) (st.h++H')):JY P o st K:=
 JY.mkQ hc he ho ha hf fun r H' ⟨c,S,h1,h2⟩=>by
  subst h1
  exact⟨rfl,hk _ _ _ h2.shift (by rw[Q5];exact UF h2.lt)⟩
theorem JY.mkGA{q:ZF}(hc:Jn P f args [] (Jk0 q))(he:Jh P f)(ho:o.op= .call ⟨.value fo,xs,ts⟩)(ha:Qa st fo xs=some (f,args))(hf:args.all Q0=true)
 (hk:∀cs H' S,Re (st.h++H') cs q S→(∀i∈S,st.h.length≤i∧i<st.h.length+H'.length)→K (.agg cs) (st.h++H')):JY P o st K:=
 JY.mkQ hc he ho ha hf fun r H' ⟨c,S,h1,h2⟩=>by
  subst h1
  exact⟨rfl,hk _ _ _ h2.shift (by rw[Q5];exact UF h2.lt)⟩
end
theorem Qw.inv{H:Jm}{c:CV}{xs:List Int}{S:List Nat}(h:Qw H c xs S)(hn:xs≠[]):∃id g lim ys,c= .own id g 0 xs.length lim∧S=[id]∧look H id g=some ⟨g,1,cl (eI .i64) (xs++ys)⟩:=by
 cases h with
 |e=>exact absurd rfl hn
 |o id g lim xs ys h=>exact⟨id,g,lim,ys,rfl,rfl,h⟩
theorem GN{S1 S2 S3 S4:List Nat}(h:(S1++(S2++(S3++S4))).Nodup):(∀a∈S1,a∉S3∧a∉S4)∧(∀a∈S2,a∉S3∧a∉S4)∧(∀a∈S3,a∉S4)∧(S1++S2).Nodup:=by
 have h':=h
 rw[←Jt,Qm]at h
 obtain⟨h12,h34,hd⟩:=h
 rw[Qm]at h34
 refine⟨fun a ha=>⟨fun hb=> ?_,fun hb=> ?_⟩,fun a ha=>⟨fun hb=> ?_,fun hb=> ?_⟩,fun a ha hb=>h34.2.2 a ha a hb rfl,h12⟩
 · exact hd a (by simp[ha]) a (by simp[hb]) rfl
 · exact hd a (by simp[ha]) a (by simp[hb]) rfl
 · exact hd a (by simp[ha]) a (by simp[hb]) rfl
 · exact hd a (by simp[ha]) a (by simp[hb]) rfl
theorem JdX{S1 S2 S3 S4 S5:List Nat}{N:Nat}(h:(S1++(S2++(S3++S4))).Nodup)(h5:S5.Nodup)(hs:∀k∈S5,k∈S4∨N≤k)(k1:∀k∈S1,k<N)(k2:∀k∈S2,k<N)(k3:∀k∈S3,k<N):(S1++(S2++(S3++S5))).Nodup:=by
 have e:∀T:List Nat,S1++(S2++(S3++T))=(S1++S2++S3)++T:=fun T=>by simp
 rw[e]at h⊢
 rw[Qm]at h⊢
 refine⟨h.1,h5,fun a ha b hb he=> ?_⟩
 subst he
 rcases hs a hb with h4|h4
 · exact h.2.2 a ha a h4 rfl
 · have:a<N:=by
    rcases JZ.1 ha with ha|ha
    · rcases JZ.1 ha with ha|ha
      · exact k1 a ha
      · exact k2 a ha
    · exact k3 a ha
   omega
theorem Jg6{P:Program}{H:Jm}{t:TypeId}{ei:TI}{K:KV}(ht:QR P t=some ei)(hz:ei.zero.length=ei.size∧ei.size=1∧ei.bytes=8){c:CV}{xs:List Int}{S:List Nat}(h:WC H c xs S)(hx:xs.length≤2^40)
 {n g:Nat} {lim:Option Nat} {v:Int} (hl:look H n g=some ⟨g,1,[.f (.int .i64 v)]⟩)
 (hk:∀c' H' S',WC H' c' (xs++[v]) S'→(∀k,k<H.length→k∉S→H'[k]? =H[k]?)→(∀k∈S',k∈S∨H.length≤k)→H.length≤H'.length→K (.c c') H'):
 J9 P H t (.c c) (.c (.own n g 0 1 lim)) K:=by
 obtain⟨hz1,hz2,hz3⟩:=hz
 unfold J9
 cases h with
 |n=>
  simp only[ht,hz1,hz2,if_true,elems,hl,JQ,Nat.one_mul,WB,hz3,YD,KR]
  refine⟨⟨by omega,by omega⟩,fun g'=> ?_⟩
  refine hk _ _ [H.length] (WC.o H.length g' [v] (J6 (b:=⟨g',1,cl (eI .i64) [v]⟩) (by simp;rfl))) (fun k hk _=>Jb hk) (by simp) (by simp)
 |o id g2 xs hl2=>
  have hlt:id<H.length:=(Jg.1 (JJ hl2).1).1
  simp only[ht,hz1,hz2,if_true,elems,hl,hl2,JQ,Nat.one_mul,WB,hz3,YD,J7,Nat.mul_one]
  refine⟨⟨trivial,by omega,trivial,by omega,by omega⟩,fun g'=> ?_⟩
  have:=WC.o (H:=H.set id (some ⟨g',1,cl (eI .i64) xs++[.f (.int .i64 v)]⟩)) id g' (xs++[v]) (J6 (b:=⟨g',1,cl (eI .i64) (xs++[v])⟩) (by rw[J2 hlt,QZ];rfl))
  rw[Jk]at this
  exact hk _ _ [id] this (fun k _ hk=>by rw[Ji (by simp at hk;omega)]) (fun k hk=> .inl hk) (by simp)
theorem Qw.nzc{H:Jm}{c:CV}{xs:List Int}{S:List Nat}(h:Qw H c xs S):nzC c=c:=by cases h<;>rfl
theorem UW.nzc{H:Jm}{c:CV}{xs:List ZS}{S:List Nat}(h:UW H c xs S):nzC c=c:=by cases h<;>rfl
theorem Jbs{H:Jm}{q q':ZF}{b b':Bool}{c1 c2 c3 c4:CV}{S1 S2 S3 S4:List Nat}(hq:q'=q)(hb:b'=b)(k1:Qw H c1 q.task.given S1)(k2:UW H c2 q.task.rules S2)(k3:Qw H c3 q.put S3)(k4:WC H c4 q.moves S4)
 (kn:(S1++(S2++(S3++S4))).Nodup):Uy H (nzQ (WL (Yx b') q')) (.tup [.agg [.f (.int .i64 q.task.size),c1,c2,c3,c4], .c (.f (.bool b))]):=by
 subst hq hb
 refine⟨H,J0.refl _,[.f (.int .i64 q'.task.size),c1,c2,c3,nzC c4],_, ?_,⟨⟨_,_,_,_,_,_,_,_,rfl,rfl,k1,k2,k3,k4.toI⟩,kn⟩⟩
 simp only[nzA,nz1,Yx,Qq,ZZ,k1.nzc,k2.nzc,k3.nzc]
 rfl
theorem JcY{H:Jm}{q':ZF}{b b':Bool}(hq:q'=⟨⟨0,[],[]⟩,[],[]⟩)(hb:b'=b):Uy H (nzQ (WL (Yx b') q')) (.tup [.agg [.f (.int .i64 0), .f .nil, .f .nil, .f .nil, .f .nil], .c (.f (.bool b))]):=by
 subst hq hb
 exact⟨H,J0.refl _,_,[],rfl,⟨⟨_,_,_,_,[],[],[],[],rfl,rfl, .e, .e, .e, .e⟩,by simp⟩⟩
theorem Jhg(xs:List Int)(hx:xs.length≤2^40)(h0:xs≠[]):Jn Tryz.prog 89 [QG xs] [] (Jat xs):=by
 have hp:0<xs.length:=List.length_pos_iff.2 h0
 refine Jn.cw (c:=_) Tryz.func89 rfl (n:=8) Tryz.ntmps89 (rs:=[.tmp 2]) rfl ?_
 simp only[Je,Jf,zA,zS,Jd,Ja,Jc]
 simp(maxSteps:=999999)(disch:=omega)only[go_sem,zA,zM,zS,zE,zL,JbG Uv rfl hp]
 intro g g'
 rw[Nat.zero_add]
 exact⟨_,J0.refl _,_,_,rfl, .o 0 g' xs (J6 (b:=⟨g',1,cl (eI .i64) xs⟩) rfl)⟩
theorem Jjv:Jn Tryz.prog 89 [QG []] [] (Jat []):=by
 refine Jn.of_bodyN (c:=_) rfl rfl (n:=8) rfl (rs:=[.tmp 2]) rfl ?_
 refine QE.seq (QE.region (JY.val (v:= .c (.f .nil)) rfl ?_))
 refine QE.seq (QE.seq (QE.region (JY.val (v:=QG []) rfl (JY.nilOpen rfl (We Uv rfl YQ) rfl rfl fun b=> ?_))))
 refine QE.cond (b:=b) rfl (fun hb=> ?_) (fun hb=> ?_)
 · refine QE.seq (QE.region (JY.val (v:= .c (.f .nil)) rfl ?_))
   refine QE.ret ?_
   exact⟨.inr rfl,_,_,rfl,J0.refl _,_,_,rfl, .n⟩
 · refine QE.skip ?_
   refine(Ua _ _ _ (FD Tryz.prog [.tmp 2] (Jat [])) ?_).mono fun e st ⟨h1,v,h2,H',h3,h4⟩=>⟨h1,v,H',h2,h3,h4⟩
   simp only[Je,Jf,zA,zS,Jd,Ja,Jc]
   simp(maxSteps:=999999)(disch:=omega)only[go_sem,zA,zM,zS,zE,zL]
   intro g
   show Uy [some ⟨g,1,[]⟩] (Jat []) (.c (.own 0 g 0 0 none))
   exact⟨_,J0.refl _,_,_,rfl, .o 0 g [] (J6 (b:=⟨g,1,[]⟩) rfl)⟩
theorem JeL(xs:List Int)(hx:xs.length≤2^40):Jn Tryz.prog 89 [QG xs] [] (Jat xs):=by
 by_cases h:xs=[]
 · subst h;exact Jjv
 · exact Jhg xs hx h
theorem K8(q:ZF)(hx:smG q):Jn Tryz.prog 44 [aG q] [] (Jk0 q):=by
 refine Jn.cw (c:=_) Tryz.func44 rfl (n:=13) Tryz.ntmps44 (rs:=[.cell 2 28]) rfl ?_
 simp only[Je,Jf,zA,zS,Jd,Ja,Jc]
 simp(maxSteps:=999999)(disch:=omega)only[go_sem,zA,zM,zS,zE,zL]
 intro g1 g2
 refine Z9 [0,1,3,4,6,7,2,5] [] none [8,9,10] [] Zd (by kernel_rfl) ?_
 simp(maxSteps:=999999)(disch:=omega)only[go_sem,Nat.reduceBEq,Bool.true_or,zA,zM,zS,zE,zL]
 refine JM.mkP (Kp q.task hx.1) (⟨_,Tryz.func78,rfl,rfl⟩:Jh Tryz.prog 78) rfl rfl rfl ?_
 rintro _ H1 _ ⟨⟨c1,c2,S1,S2,rfl,rfl,k1,k2⟩,kn⟩ hS
 simp(maxSteps:=999999)(disch:=omega)only[go_sem,zA,zM,zS,zE,zL]
 refine JM.mkI (Yb q.put hx.2.1) (⟨_,Tryz.func89,rfl,rfl⟩:Jh Tryz.prog 89) rfl rfl rfl ?_
 intro c3 H3 S3 h3 hS3
 simp(maxSteps:=999999)(disch:=omega)only[go_sem,zA,zM,zS,zE,zL]
 refine JY.mkA (JeL q.moves hx.2.2) (⟨_,Tryz.func89,rfl,rfl⟩:Jh Tryz.prog 89) rfl rfl rfl ?_
 intro c4 H4 S4 h4 hS4
 simp(maxSteps:=999999)(disch:=omega)only[go_sem,zA,zM,zS,zE,zL]
 simp only[Jk,Je,Jf]at hS hS3 hS4
 refine⟨_,J0.refl _,_,S1++(S2++(S3++S4)),rfl,⟨⟨_,_,_,_,S1,S2,S3,S4,rfl,rfl,k1.same fun k hk=> ?_,k2.same fun k hk=> ?_,h3.same fun k hk=> ?_,h4.same fun k hk=> ?_⟩,Jh8 (n1:=H1.length+2) (n2:=H1.length+H3.length+2) kn h3.nd h4.nd (fun k hk=> ?_) (fun k hk=> ?_) (fun k hk=> ?_) (by omega)⟩⟩
 · have:=hS k (by simp[hk])
   simp only[Ja,Jc]
   rw[QF (by omega),QF (by omega),Jb (by simp;omega),Jb (by omega)]
 · have:=hS k (by simp[hk])
   simp only[Ja,Jc]
   rw[QF (by omega),QF (by omega),Jb (by simp;omega),Jb (by omega)]
 · have:=hS3 k hk
   simp only[Ja,Jc]
   rw[QF (by omega),QF (by omega),Jb (by simp;omega)]
 · have:=hS4 k hk
   simp only[Ja,Jc]
   rw[QF (by omega),QF (by omega)]
 · have:=hS k hk;omega
 · have:=hS3 k hk;omega
 · have:=hS4 k hk;omega
end Go.Lg

namespace Go.Lg
open Go.Proofs
attribute [-go_sem] J9
def F9:ZF:=⟨⟨0,[],[]⟩,[],[]⟩
def U8(q:ZF)(cell value:Int):Prop:=0≤cell∧cell<q.put.length∧JA (JK q) cell≤0∧1≤value∧value≤q.task.size
instance(q:ZF)(cell value:Int):Decidable (U8 q cell value):=by unfold U8;infer_instance
def ZM(q:ZF)(cell value:Int):ZF:=if Qo q=true then(if U8 q cell value then⟨q.task,q.put.set cell.toNat value,q.moves++[cell]⟩else q)else F9
def Zg(q:ZF)(cell value:Int):Bool:=Qo q&&decide (U8 q cell value)
theorem Jds(q:ZF)(cell value:Int)(hx:smG q):Jn Tryz.prog 46 [aG q,int cell,int value] [] (WL (Yx (Zg q cell value)) (ZM q cell value)):=by
 refine Jn.nz ?_
 refine Jn.cw (c:=_) Tryz.func46 rfl (n:=56) Tryz.ntmps46 (rs:=[.cell 6 28, .tmp 7]) rfl ?_
 simp only[Je,Jf,zA,zS,Jd,Ja,Jc]
 simp(maxSteps:=999999)(disch:=omega)only[go_sem,zA,zM,zS,zE,zL]
 intro g1 g2
 first|refine JY.rd (ZH q hx) (⟨_,Tryz.func34,rfl,rfl⟩:Jh Tryz.prog 34) rfl rfl rfl rfl ?_|refine JM.rd (ZH q hx) (⟨_,Tryz.func34,rfl,rfl⟩:Jh Tryz.prog 34) rfl rfl rfl rfl ?_
 simp(maxSteps:=999999)(disch:=omega)only[go_sem,zA,zM,zS,zE,zL]
 ((first|(with_reducible first|refine Jl ?_ ?_|refine Jj ?_ ?_|refine Jp ?_ ?_)|refine Jr ?_ ?_)<;>intro h)
 · simp(maxSteps:=999999)(disch:=omega)only[go_sem,zA,zM,zS,zE,zL]
   obtain⟨h1,h2,h3,h4,h5,h6⟩:=Zw h
   have hl:=WF h
   refine JY.mkGA (K8 q hx) (⟨_,Tryz.func44,rfl,rfl⟩:Jh Tryz.prog 44) rfl rfl rfl ?_
   rintro _ H1 _ ⟨⟨c1,c2,c3,c4,S1,S2,S3,S4,rfl,rfl,k1,k2,k3,k4⟩,kn⟩ hS
   simp(maxSteps:=999999)(disch:=omega)only[go_sem,zA,zM,zS,zE,zL]
   intro g3
   simp(maxSteps:=999999)(disch:=omega)only[go_sem,zA,zM,zS,zE,zL,JI,QP]
   simp only[Je,Jf,Ja,Jc]at k1 k2 k3 k4 hS
   have mv:∀{X1 X2 Y1 Y2:Option Zv} {Z:Jm},∀k,2≤k∧k<2+H1.length→(X1::Y1::(H1++Z))[k]? =(X2::Y2::H1)[k]? :=fun k hk=>by
    rw[QF hk.1,QF hk.1,Jb (by omega)]
   have m1:∀k∈S1,2≤k∧k<2+H1.length:=fun k hk=>by have:=hS k (by simp[hk]);omega
   have m2:∀k∈S2,2≤k∧k<2+H1.length:=fun k hk=>by have:=hS k (by simp[hk]);omega
   have m3:∀k∈S3,2≤k∧k<2+H1.length:=fun k hk=>by have:=hS k (by simp[hk]);omega
   have m4:∀k∈S4,2≤k∧k<2+H1.length:=fun k hk=>by have:=hS k (by simp[hk]);omega
   have no:¬U8 q cell value→ZM q cell value=q∧Zg q cell value=false:=fun hn=>by simp[ZM,Zg,h,hn]
   have fin:∀{X1 Y1:Option Zv} {Z:Jm},¬U8 q cell value→Uy (X1::Y1::(H1++Z)) (nzQ (WL (Yx (Zg q cell value)) (ZM q cell value))) (.tup [.agg [.f (.int .i64 q.task.size),c1,c2,c3,c4], .c (.f (.bool false))]):=fun hn=>
    Jbs (no hn).1 (no hn).2 (k1.same fun k hk=>mv k (m1 k hk)) (k2.same fun k hk=>mv k (m2 k hk)) (k3.same fun k hk=>mv k (m3 k hk)) (k4.same fun k hk=>mv k (m4 k hk)) kn
   ((with_reducible first|refine JH ?_ ?_|refine JD ?_ ?_|refine JP ?_ ?_|refine Jv ?_ ?_|refine JF ?_ ?_|refine JG ?_ ?_|refine JB ?_ ?_|refine JC ?_ ?_|refine JN ?_ ?_|refine JO ?_ ?_|refine Jw ?_ ?_|refine Jx ?_ ?_)<;>intro a1<;>simp(maxSteps:=999999)(disch:=omega)only[go_sem,zA,zM,zS,zE,zL,a1])
   · simp(maxSteps:=999999)(disch:=omega)only[go_sem,zA,zM,zS,zE,zL,JI]
     exact(fin fun hn=>by unfold U8 at hn;omega)
   ((with_reducible first|refine JH ?_ ?_|refine JD ?_ ?_|refine JP ?_ ?_|refine Jv ?_ ?_|refine JF ?_ ?_|refine JG ?_ ?_|refine JB ?_ ?_|refine JC ?_ ?_|refine JN ?_ ?_|refine JO ?_ ?_|refine Jw ?_ ?_|refine Jx ?_ ?_)<;>intro a2<;>simp(maxSteps:=999999)(disch:=omega)only[go_sem,zA,zM,zS,zE,zL,a2])
   · simp(maxSteps:=999999)(disch:=omega)only[go_sem,zA,zM,zS,zE,zL,JI]
     exact(fin fun hn=>by unfold U8 at hn;omega)
   first|refine JY.mk (JW.ownI (Vm q hx)) (⟨_,Tryz.func9,rfl,rfl⟩:Jh Tryz.prog 9) rfl rfl rfl rfl rfl ?_|refine JM.mk (JW.ownI (Vm q hx)) (⟨_,Tryz.func9,rfl,rfl⟩:Jh Tryz.prog 9) rfl rfl rfl rfl rfl ?_
   simp(maxSteps:=999999)(disch:=omega)only[go_sem,zA,zM,zS,zE,zL]
   obtain⟨i,rfl⟩:∃i:Nat,cell=i:=⟨cell.toNat,by omega⟩
   ((with_reducible first|refine JH ?_ ?_|refine JD ?_ ?_|refine JP ?_ ?_|refine Jv ?_ ?_|refine JF ?_ ?_|refine JG ?_ ?_|refine JB ?_ ?_|refine JC ?_ ?_|refine JN ?_ ?_|refine JO ?_ ?_|refine Jw ?_ ?_|refine Jx ?_ ?_)<;>intro a3<;>simp(maxSteps:=999999)(disch:=omega)only[go_sem,zA,zM,zS,zE,zL,a3])
   · simp(maxSteps:=999999)(disch:=omega)only[go_sem,zA,zM,zS,zE,zL,JI]
     exact(fin fun hn=>by unfold U8 at hn;omega)
   ((with_reducible first|refine JH ?_ ?_|refine JD ?_ ?_|refine JP ?_ ?_|refine Jv ?_ ?_|refine JF ?_ ?_|refine JG ?_ ?_|refine JB ?_ ?_|refine JC ?_ ?_|refine JN ?_ ?_|refine JO ?_ ?_|refine Jw ?_ ?_|refine Jx ?_ ?_)<;>intro a4<;>simp(maxSteps:=999999)(disch:=omega)only[go_sem,zA,zM,zS,zE,zL,a4])
   · simp(maxSteps:=999999)(disch:=omega)only[go_sem,zA,zM,zS,zE,zL,JI]
     exact(fin fun hn=>by unfold U8 at hn;omega)
   ((first|(with_reducible first|refine Jl ?_ ?_|refine Jj ?_ ?_|refine Jp ?_ ?_)|refine Jr ?_ ?_)<;>intro a5)
   · simp(maxSteps:=999999)(disch:=omega)only[go_sem,zA,zM,zS,zE,zL,JI]
     exact(fin fun hn=>by unfold U8 at hn;omega)
   have ok:U8 q i value:=⟨by omega,by omega,by omega,by omega,by omega⟩
   have r1:ZM q i value=⟨q.task,q.put.set i value,q.moves++[(i:Int)]⟩:=by simp[ZM,h,ok]
   have r2:Zg q i value=true:=by simp[Zg,h,ok]
   have hne:q.put≠[]:=by intro h0;rw[h0]at a2;simp at a2
   obtain⟨HA,hHA⟩:∃HA:Jm,HA=some ⟨g1,1,cG q⟩::some ⟨g2,5,[.f (.int .i64 0), .f .nil, .f .nil, .f .nil, .f .nil]⟩::(H1++[some ⟨g3,5,[.f (.int .i64 q.task.size),c1,c2,c3,c4]⟩]):=⟨_,rfl⟩
   have e1:=k1.same (H':=HA) fun k hk=>by rw[hHA];exact mv k (m1 k hk)
   have e2:=k2.same (H':=HA) fun k hk=>by rw[hHA];exact mv k (m2 k hk)
   have e3:=k3.same (H':=HA) fun k hk=>by rw[hHA];exact mv k (m3 k hk)
   have e4:=k4.same (H':=HA) fun k hk=>by rw[hHA];exact mv k (m4 k hk)
   have b1:look HA 1 g2=some ⟨g2,5,[.f (.int .i64 0), .f .nil, .f .nil, .f .nil, .f .nil]⟩:=by rw[hHA];simp only[go_sem]
   have b2:look HA (H1.length+1+1) g3=some ⟨g3,5,[.f (.int .i64 q.task.size),c1,c2,c3,c4]⟩:=by rw[hHA];simp only[go_sem];exact JI
   have hlA:HA.length=H1.length+3:=by rw[hHA];simp
   rw[←hHA]
   clear hHA
   obtain⟨id3,g4,lim3,ys,rfl,rfl,l3⟩:=e3.inv hne
   have hi3:=m3 id3 (by simp)
   have hil:i<q.put.length:=by omega
   have hil2:i<(q.put++ys).length:=by simp;omega
   simp(maxSteps:=999999)(disch:=omega)only[go_sem,zA,zM,zS,zE,zL,b2,l3]
   rw[Int.toNat_natCast,List.set_append_left _ _ hil]
   have hlt3:id3<HA.length:=by omega
   obtain⟨n1,n2,n3,n12⟩:=GN kn
   obtain⟨HB,hHB⟩:∃HB:Jm,HB=HA.set id3 (some ⟨g4,1,cl (eI .i64) (q.put.set i value++ys)⟩):=⟨_,rfl⟩
   have hB:∀k,k≠id3→HB[k]? =HA[k]? :=fun k hk=>by rw[hHB,Ji (Ne.symm hk)]
   have hlB:HB.length=H1.length+3:=by rw[hHB,Jo,hlA]
   have f1:=e1.same (H':=HB) fun k hk=>hB k fun he=>(n1 k hk).1 (by simp[he])
   have f2:=e2.same (H':=HB) fun k hk=>hB k fun he=>(n2 k hk).1 (by simp[he])
   have f4:=e4.same (H':=HB) fun k hk=>hB k fun he=>n3 id3 (by simp) (he▸hk)
   have f3:Qw HB (.own id3 g4 0 q.put.length lim3) (q.put.set i value) [id3]:=by
    have:=Qw.o (H:=HB) id3 g4 lim3 (q.put.set i value) ys (by rw[hHB];exact J6 (b:=⟨g4,1,cl (eI .i64) (q.put.set i value++ys)⟩) (by rw[J2 hlt3]))
    rwa [Jo]at this
   have b3:look HB 1 g2=some ⟨g2,5,[.f (.int .i64 0), .f .nil, .f .nil, .f .nil, .f .nil]⟩:=by unfold look;rw[hB 1 (by omega)];exact b1
   have b4:look HB (H1.length+1+1) g3=some ⟨g3,5,[.f (.int .i64 q.task.size),c1,c2, .own id3 g4 0 q.put.length lim3,c4]⟩:=by unfold look;rw[hB _ (by omega)];exact b2
   rw[←hHB]
   clear hHB e1 e2 e3 e4 b1 b2 l3
   simp(maxSteps:=999999)(disch:=omega)only[go_sem,zA,zM,zS,zE,zL,b4]
   intro g5
   have hlt8:H1.length+1+1<HB.length:=by omega
   refine Jg6 (We Uv rfl YQ) ⟨rfl,rfl,rfl⟩ (f4.same fun k hk=>Jb (f4.lt k hk)) (by omega) JI ?_
   intro c5 HC S5 hA hC hS5 hlC
   rw[Jk,JV]at hlC hS5
   have hC':∀k,k<HB.length→k∉S4→HC[k]? =HB[k]? :=fun k hk hn=>by rw[hC k (by rw[Jk];omega) hn,Jb hk]
   have b5:look HC 1 g2=some ⟨g2,5,[.f (.int .i64 0), .f .nil, .f .nil, .f .nil, .f .nil]⟩:=by unfold look;rw[hC' 1 (by omega) fun hm=>by have:=m4 _ hm;omega];exact b3
   have b6:look HC (H1.length+1+1) g3=some ⟨g3,5,[.f (.int .i64 q.task.size),c1,c2, .own id3 g4 0 q.put.length lim3,c4]⟩:=by unfold look;rw[hC' _ hlt8 fun hm=>by have:=m4 _ hm;omega];exact b4
   simp(maxSteps:=999999)(disch:=omega)only[go_sem,zA,zM,zS,zE,zL,b6]
   rw[QW (by omega)]
   simp(maxSteps:=999999)(disch:=omega)only[go_sem,zA,zM,zS,zE,zL]
   rw[Zo (by omega),b5]
   simp(maxSteps:=999999)(disch:=omega)only[go_sem,zA,zM,zS,zE,zL]
   rw[QW (by rw[Jo];omega)]
   simp(maxSteps:=999999)(disch:=omega)only[go_sem,zA,zM,zS,zE,zL]
   have hD:∀{X Y:Option Zv},∀k,2≤k∧k<2+H1.length∨HB.length+1≤k→((HC.set (H1.length+1+1) X).set 1 Y)[k]? =HC[k]? :=fun k hk=>by
    rw[Ji (by omega),Ji (by omega)]
   have hD4:∀{X Y:Option Zv},∀k∈S5,((HC.set (H1.length+1+1) X).set 1 Y)[k]? =HC[k]? :=fun k hk=>hD k (by
    rcases hS5 k hk with h5|h5
    · exact .inl (m4 k h5)
    · exact .inr (by omega))
   have hD':∀{X Y:Option Zv},∀k,2≤k∧k<2+H1.length→k∉S4→((HC.set (H1.length+1+1) X).set 1 Y)[k]? =HB[k]? :=fun k hk hn=>by rw[hD k (.inl hk),hC' k (by omega) hn]
   refine Jbs (q:=⟨q.task,q.put.set i value,q.moves++[(i:Int)]⟩) r1 r2 (f1.same fun k hk=>hD' k (m1 k hk) (n1 k hk).2) (f2.same fun k hk=>hD' k (m2 k hk) (n2 k hk).2) (f3.same fun k hk=>hD' k (m3 k hk) (n3 k hk)) (hA.same hD4)
    (JdX (N:=HB.length+1) kn hA.nd hS5 (fun k hk=>by have:=m1 k hk;omega) (fun k hk=>by have:=m2 k hk;omega) (fun k hk=>by have:=m3 k hk;omega))
 · simp(maxSteps:=999999)(disch:=omega)only[go_sem,zA,zM,zS,zE,zL]
   refine JcY ?_ ?_
   · simp[ZM,h,F9]
   · simp[Zg,h]
end Go.Lg
