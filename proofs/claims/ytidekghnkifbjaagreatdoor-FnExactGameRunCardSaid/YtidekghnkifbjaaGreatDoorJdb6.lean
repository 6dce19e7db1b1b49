/- GpN, GpX, GpY, cut to what is needed. -/
import Derived.Test.YtidekghnkifbjaaGreatDoorJdb5
open List renaming length_cons → Ja, cons_append → Jb, getElem?_append_left → Jc, nil_append → Jd, length_nil → Je, replicate → Jf, getElem?_eq_some_iff → Jh, getElem?_set_ne → Ji, length_set → Jp, length_append → Jq, append_nil → Jt, getElem?_eq_none → Ju, getElem?_set_self → JE, mem_append → JI, length_singleton → JQ, append_assoc → JW, nodup_append → JZ, drop_zero → J1, map_cons → Qh, length_replicate → Q5, map_nil → ZJ
open Nat renaming reduceAdd→zA,reduceMul→zM,reduceSub→zS,reduceEqDiff→zE,reduceLeDiff→zL
set_option linter.unusedSimpArgs false
set_option linter.unusedVariables false
set_option maxRecDepth 100000
namespace Go.Lg
open Go.Proofs
def Kl(a b:List Int):List Int:=(List.range a.length).map fun i:Nat=>max (Jy a i) (Jy b i)
def Kk(a b:List Int):Bool:=decide (∀i:Nat,i<a.length→¬(0<Jy a i∧0<Jy b i∧Jy a i≠Jy b i))
theorem Vk(a b:List Int):(Kl a b).length=a.length:=by simp[Kl]
theorem Ky{a b:List Int}{i:Nat}(h:i<a.length):Jy (Kl a b) i=max (Jy a i) (Jy b i):=by
 rw[Qe (by rw[Vk];omega)];simp[Kl]
def bothQ(a b:List Int):KV:=fun r H=>(Kk a b=true→∃g,r= .tup [.c (.own 0 g 0 a.length none),bool true]∧H=[some ⟨g,1,cl (eI .i64) (Kl a b)⟩])∧(Kk a b=false→r= .tup [.c (.f (.sl 0 [])),bool false]∧H=[])
theorem N5(a b:List Int)(hx:a.length≤2^40)(hb:a.length=b.length):Jk Tryz.prog 37 [QF a,QF b] [] (bothQ a b):=by
 refine Jk.nz ?_
 refine Jk.cw (c:=_) Tryz.func37 rfl (n:=47) Tryz.ntmps37 (rs:=[.tmp 4, .tmp 5]) rfl ?_
 simp only[Ja,Je,zA,zS,Jf,Jb,Jd]
 simp(maxSteps:=999999)(disch:=omega)only[go_sem,zA,zM,zS,zE,zL]
 intro g
 refine Qx (fun(i:Nat) (ys:List Int)=>a.length -i) (fun i ys=>i≤a.length∧ys.length=a.length∧(∀j:Nat,j<i→Jy ys j=max (Jy a j) (Jy b j))∧∀j:Nat,j<i→¬(0<Jy a j∧0<Jy b j∧Jy a j≠Jy b j)) (fun i _=>[.a, .k, .a, .a, .a, .a, .k, .a, .a, .a, .a, .a, .k, .k, .p (int i), .a, .a, .a, .a, .a, .a, .a, .a, .a, .a, .a, .a, .a, .a, .a, .a, .a, .a, .a, .a, .a, .a, .a, .a, .a, .a, .a, .a, .a, .a, .a, .a]) (fun _ ys=>[some ⟨g,1,cl (eI .i64) ys⟩]) 0 (Jf a.length 0)
  ⟨Nat.zero_le _,Q5,fun j hj=>absurd hj (Nat.not_lt_zero _),fun j hj=>absurd hj (Nat.not_lt_zero _)⟩ (by simp(maxSteps:=999999)(disch:=omega)only[go_sem,zA,zM,zS,zE,zL];rfl) (J5.refl _) ?_
 rintro i ys ⟨hi,hl,hall,hok⟩
 simp(maxSteps:=999999)(disch:=omega)only[go_sem,zA,zM,zS,zE,zL]
 ((first|(with_reducible first|refine Jm ?_ ?_|refine Jj ?_ ?_|refine Jo ?_ ?_)|refine Jr ?_ ?_)<;>intro h)
 · have h:i<a.length:=by omega
   have no:0<Jy a i∧0<Jy b i∧Jy a i≠Jy b i→Kk a b=false:=fun h2=>by
    simp only[Kk,decide_eq_false_iff_not];exact fun h3=>h3 i h h2
   have nx:∀v,v=max (Jy a i) (Jy b i)→∀j:Nat,j<i+1→Jy (ys.set i v) j=max (Jy a j) (Jy b j):=fun v hv j hj=>by
    rw[VU _ _ _ _ (by omega) (by omega)]
    split
    · rename_i he;rw[hv,he]
    · exact hall j (by omega)
   simp(maxSteps:=999999)(disch:=omega)only[go_sem,zA,zM,zS,zE,zL]
   repeat' (first|((with_reducible first|refine JL ?_ ?_|refine JD ?_ ?_|refine JT ?_ ?_|refine Jv ?_ ?_|refine JJ ?_ ?_|refine JK ?_ ?_|refine JB ?_ ?_|refine JC ?_ ?_|refine JR ?_ ?_|refine JS ?_ ?_|refine Jw ?_ ?_|refine Jx ?_ ?_)<;>intro hg<;>simp(maxSteps:=999999)(disch:=omega)only[go_sem,zA,zM,zS,zE,zL,hg])|(((first|(with_reducible first|refine Jm ?_ ?_|refine Jj ?_ ?_|refine Jo ?_ ?_)|refine Jr ?_ ?_)<;>intro hg)<;>simp(maxSteps:=999999)(disch:=omega)only[go_sem,zA,zM,zS,zE,zL]))
   all_goals first
    |exact⟨i+1,ys.set i (max (Jy a i) (Jy b i)),⟨⟨h,by simp[hl],nx _ rfl,Vh hok fun h2=>by omega⟩,by omega⟩,by omega,J5.refl _⟩
    |(exact⟨[],J9 _,fun h2=>(by rw[no ⟨by omega,by omega,by omega⟩]at h2;cases h2),fun _=>⟨rfl,rfl⟩⟩)
 · simp(maxSteps:=999999)(disch:=omega)only[go_sem,zA,zM,zS,zE,zL]
   have hb1:Kk a b=true:=by simp only[Kk,decide_eq_true_eq];exact fun j hj=>hok j (by omega)
   have:ys=Kl a b:=V0 (by rw[hl,Vk]) fun j hj=>by rw[hall j (by omega),Ky (by omega)]
   subst this
   exact⟨_,J5.refl _,fun _=>⟨g,rfl,rfl⟩,fun h2=>(by rw[hb1]at h2;cases h2)⟩
theorem Jdi{q:QU}(h:Wg q):Kk q.task.given q.put=true:=by
 simp only[Kk,decide_eq_true_eq]
 rintro i hi ⟨h1,h2,h3⟩
 by_cases hi2:i<q.put.length
 · have:=(h.2.2 i (Qs.2 ⟨by omega,by omega,h2⟩)).2
   omega
 · have:Jy q.put i=0:=by simp[Jy,List.getD,Ju (Nat.le_of_not_lt hi2)]
   omega
theorem Zf{q:QU}(h:Qp q=true):JA q.task=true∧Qc q.put q.task.size=true∧q.moves.length≤40∧Wg q∧q.put.length=q.task.given.length∧q.put.length≤16:=by
 simp only[Qp,Bool.and_eq_true,decide_eq_true_eq]at h
 obtain⟨h1,h2,h3,h4⟩:=h
 have a1:=Qv h2
 have a2:=Qv (UA h1)
 exact⟨h1,h2,h3,h4,by have:=a1.2.2.1;have:=a2.2.2.1;omega,a1.2.2.2.1⟩
def JY(q:QU):List Int:=if Qp q then Kl q.task.given q.put else[]
theorem WC{q:QU}(h:Qp q=true):(JY q).length=q.task.given.length:=by simp[JY,h,Vk]
theorem WR(q:QU)(hx:smG q):Jk Tryz.prog 9 [aG q] [] (WD (JY q)):=by
 refine Jk.nz ?_
 refine Jk.cw (c:=_) Tryz.func9 rfl (n:=18) Tryz.ntmps9 (rs:=[.tmp 2]) rfl ?_
 simp only[Ja,Je,zA,zS,Jf,Jb,Jd]
 simp(maxSteps:=999999)(disch:=omega)only[go_sem,zA,zM,zS,zE,zL]
 intro g
 first|refine JU.rd (Zg q hx) (⟨_,Tryz.func34,rfl,rfl⟩:Jg Tryz.prog 34) rfl rfl rfl rfl ?_|refine JG.rd (Zg q hx) (⟨_,Tryz.func34,rfl,rfl⟩:Jg Tryz.prog 34) rfl rfl rfl rfl ?_
 simp(maxSteps:=999999)(disch:=omega)only[go_sem,zA,zM,zS,zE,zL]
 ((first|(with_reducible first|refine Jm ?_ ?_|refine Jj ?_ ?_|refine Jo ?_ ?_)|refine Jr ?_ ?_)<;>intro h)
 · obtain⟨h1,h2,h3,h4,h5,h6⟩:=Zf h
   have hl:=WC h
   have hg:JY q=Kl q.task.given q.put:=by simp[JY,h]
   simp(maxSteps:=999999)(disch:=omega)only[go_sem,zA,zM,zS,zE,zL]
   refine JU.mkQ (N5 q.task.given q.put hx.1.1 h5.symm) (⟨_,Tryz.func37,rfl,rfl⟩:Jg Tryz.prog 37) rfl rfl rfl ?_
   rintro _ _ ⟨hy,hn⟩
   obtain⟨g2,rfl,rfl⟩:=hy (Jdi h4)
   refine⟨rfl, ?_⟩
   simp(maxSteps:=999999)(disch:=omega)only[go_sem,zA,zM,zS,zE,zL]
   rw[←hl,←hg]
   exact⟨_,Xc _ _ _ (J5.refl _),_,_,rfl,Qr.o 1 g2 none _ [] (by rw[Jt];simp only[go_sem]),Rb (Wc Kt)⟩
 · simp(maxSteps:=999999)(disch:=omega)only[go_sem,zA,zM,zS,zE,zL]
   have hg:JY q=[]:=by simp[JY,h]
   rw[hg]
   exact⟨[],J9 _,_,_,rfl,JhS,Kt⟩
theorem KL(q:QU)(hx:smG q):Jk Tryz.prog 11 [aG q] [] (WD (JY q)):=by
 refine Jk.nz ?_
 refine Jk.cw (c:=_) Tryz.func11 rfl (n:=34) Tryz.ntmps11 (rs:=[.tmp 2]) rfl ?_
 simp only[Ja,Je,zA,zS,Jf,Jb,Jd]
 simp(maxSteps:=999999)(disch:=omega)only[go_sem,zA,zM,zS,zE,zL]
 intro g
 first|refine JU.rd (Q3 q hx) (⟨_,Tryz.func12,rfl,rfl⟩:Jg Tryz.prog 12) rfl rfl rfl rfl ?_|refine JG.rd (Q3 q hx) (⟨_,Tryz.func12,rfl,rfl⟩:Jg Tryz.prog 12) rfl rfl rfl rfl ?_
 simp(maxSteps:=999999)(disch:=omega)only[go_sem,zA,zM,zS,zE,zL]
 ((first|(with_reducible first|refine Jm ?_ ?_|refine Jj ?_ ?_|refine Jo ?_ ?_)|refine Jr ?_ ?_)<;>intro h)
 · obtain⟨h1,h2,h3,h4,h5,h6⟩:=Zf h
   have hl:=WC h
   have hg:JY q=Kl q.task.given q.put:=by simp[JY,h]
   have hb1:=Qv h2
   have hb2:=Qv (UA h1)
   have hsq:=Gg ⟨hb1.1,hb1.2.1⟩
   have hpos:q.put.length≠0:=by omega
   simp(maxSteps:=999999)(disch:=omega)only[go_sem,zA,zM,zS,zE,zL]
   intro g2 g3
   have hgv:∀j:Nat,j<q.put.length→Jy q.put j+Jy q.task.given j=max (Jy q.task.given j) (Jy q.put j)∧0≤Jy q.put j∧Jy q.put j≤4∧0≤Jy q.task.given j∧Jy q.task.given j≤4:=fun j hj=>by
    have:=hb1.2.2.2.2 j hj
    have:=hb2.2.2.2.2 j (by omega)
    by_cases hp:0<Jy q.put j
    · have:=(h4.2.2 j (Qs.2 ⟨by omega,by omega,hp⟩)).2
      omega
    · omega
   refine Qx (fun(i:Nat) (ys:List Int)=>q.put.length -i) (fun i ys=>i≤q.put.length∧ys.length=q.put.length∧(∀j:Nat,j<i→Jy ys j=max (Jy q.task.given j) (Jy q.put j))∧∀j:Nat,i≤j→Jy ys j=Jy q.put j) (fun i _=>[.a, .k, .a, .k, .p (int i), .a, .a, .a, .a, .a, .a, .a, .a, .a, .a, .a, .a, .a, .a, .a, .a, .a, .a, .a, .a, .a, .a, .a, .a, .a, .a, .a, .a, .a]) (fun _ ys=>[some ⟨g,1,cG q⟩,some ⟨g3,1,cl (eI .i64) ys⟩]) 0 q.put
    ⟨Nat.zero_le _,rfl,fun j hj=>absurd hj (Nat.not_lt_zero _),fun j hj=>rfl⟩ (by simp(maxSteps:=999999)(disch:=omega)only[go_sem,zA,zM,zS,zE,zL];rfl) (J5.refl _) ?_
   rintro i ys ⟨hi,hl2,hall,hkeep⟩
   simp(maxSteps:=999999)(disch:=omega)only[go_sem,zA,zM,zS,zE,zL]
   ((first|(with_reducible first|refine Jm ?_ ?_|refine Jj ?_ ?_|refine Jo ?_ ?_)|refine Jr ?_ ?_)<;>intro hi2)
   · have hi2:i<q.put.length:=by omega
     have hki:=hkeep i (Nat.le_refl _)
     have hgi:=hgv i hi2
     simp(maxSteps:=999999)(disch:=omega)only[go_sem,zA,zM,zS,zE,zL]
     refine Ug [0,1,2,3,4,5,6,7,8,9,10,11,12] [] none [13,14] [] ZE (by kernel_rfl) ?_
     simp(maxSteps:=999999)(disch:=omega)only[go_sem,Nat.reduceBEq,Bool.true_or,zA,zM,zS,zE,zL]
     refine⟨i+1,ys.set i (Jy ys i+Jy q.task.given i),⟨⟨hi2,by simp[hl2],fun j hj=> ?_,fun j hj=> ?_⟩,by omega⟩,by omega,J5.refl _⟩
     · rw[VU _ _ _ _ (by omega) (by omega)]
       split
       · rename_i he
         rw[he,hki];exact hgi.1
       · exact hall j (by omega)
     · rw[VU _ _ _ _ (by omega) (by omega),if_neg (by omega)]
       exact hkeep j (by omega)
   · simp(maxSteps:=999999)(disch:=omega)only[go_sem,zA,zM,zS,zE,zL]
     have:ys=JY q:=V0 (by rw[hl2,hl];exact h5) fun j hj=>by rw[hall j (by omega),hg,Ky (by omega)]
     subst this
     rw[h5,←hl,Nat.zero_add]
     exact⟨[none,some ⟨g3,1,cl (eI .i64) (JY q)⟩],Xc _ _ _ (J5.refl _),_,_,rfl,Qr.o 1 g3 none _ [] (by rw[Jt];exact Qj (H:=[none,some ⟨g3,1,cl (eI .i64) (JY q)⟩]) (id:=1) (b:=⟨g3,1,cl (eI .i64) (JY q)⟩) rfl),Rb (Wc Kt)⟩
 · simp(maxSteps:=999999)(disch:=omega)only[go_sem,zA,zM,zS,zE,zL]
   have hg:JY q=[]:=by simp[JY,h]
   rw[hg]
   intro g2
   exact⟨[none,some ⟨g2,1,[]⟩],Xc _ _ _ (J5.refl _),_,_,rfl,Qr.o 1 g2 none [] [] (by simp only[go_sem];rfl),Rb (Wc (xs:=[]) Kt)⟩
theorem Jae(q:QU):Rw q≤2*wG q:=by
 have:=wM_le q.task.rules
 unfold Rw wG FG wP
 omega
end Go.Lg

namespace Go.Lg
open Go.Proofs
theorem Ja6(P:Program)(s:List AV)(H:Jn)(t u:Nat)(ty:TypeId):Yg P s H [.cell t ty, .tmp u]=(VV P H ty (s.getD t .void)).map fun v=> .tup [v,s.getD u .void]:=by
 simp only[Yg,Yh,BD]
 cases VV P H ty (s.getD t .void)<;>rfl
attribute [go_sem] Ja6
inductive Wz(H:Jn):CV→List Int→List Nat→Prop where
 |n:Wz H (.f .nil) [] []
 |o (id g:Nat) (xs:List Int) (h:look H id g=some ⟨g,1,cl (eI .i64) xs⟩):Wz H (.own id g 0 xs.length none) xs [id]
theorem Wz.toI{H:Jn}{c:CV}{xs:List Int}{S:List Nat}(h:Wz H c xs S):Qr H (nzC c) xs S:=by
 cases h with
 |n=>exact .e
 |o id g xs h=>exact .o id g none xs [] (by rw[Jt];exact h)
theorem Wz.same{H H':Jn}{c:CV}{xs:List Int}{S:List Nat}(h:Wz H c xs S)(hs:∀i∈S,H'[i]? =H[i]?):Wz H' c xs S:=by
 cases h with
 |n=>exact .n
 |o id g xs h=>exact .o id g xs (by unfold look at*;rw[hs id (by simp)];exact h)
theorem Wz.shift{H0 H:Jn}{c:CV}{xs:List Int}{S:List Nat}(h:Wz H c xs S):Wz (H0++Q1 H0.length H) (ZT H0.length c) xs (S.map (· +H0.length)):=by
 cases h with
 |n=>exact .n
 |o id g xs h=>
  refine .o (id+H0.length) g xs ?_
  rw[UG h]
  simp only[ZF,W3]
theorem Wz.lt{H:Jn}{c:CV}{xs:List Int}{S:List Nat}(h:Wz H c xs S):∀i∈S,i<H.length:=fun i hi=>h.toI.lt i hi
theorem Wz.nd{H:Jn}{c:CV}{xs:List Int}{S:List Nat}(h:Wz H c xs S):S.Nodup:=h.toI.nd
def Jau(xs:List Int):KV:=fun r H=>∃c S,r= .c c∧Wz H c xs S
structure K4(H:Jn)(cs:List CV)(q:QU)(S:List Nat):Prop where
 ex:∃c1 c2 c3 c4 S1 S2 S3 S4,cs=[.f (.int .i64 q.task.size),c1,c2,c3,c4]∧S=S1++(S2++(S3++S4))∧Qr H c1 q.task.given S1∧Ur H c2 q.task.rules S2∧Qr H c3 q.put S3∧Wz H c4 q.moves S4
 nd:S.Nodup
def JkY(q:QU):KV:=fun v H=>∃cs S,v= .agg cs∧K4 H cs q S
theorem K4.shift{H0 H:Jn}{cs:List CV}{q:QU}{S:List Nat}(h:K4 H cs q S):K4 (H0++Q1 H0.length H) (cs.map (ZT H0.length)) q (S.map (· +H0.length)):=by
 obtain⟨c1,c2,c3,c4,S1,S2,S3,S4,rfl,rfl,h1,h2,h3,h4⟩:=h.ex
 exact⟨⟨_,_,_,_,_,_,_,_,rfl,by simp,h1.shift,h2.shift,h3.shift,h4.shift⟩,YY h.nd⟩
theorem K4.lt{H:Jn}{cs:List CV}{q:QU}{S:List Nat}(h:K4 H cs q S):∀i∈S,i<H.length:=by
 obtain⟨c1,c2,c3,c4,S1,S2,S3,S4,rfl,rfl,h1,h2,h3,h4⟩:=h.ex
 intro i hi
 simp only[JI]at hi
 rcases hi with hi|hi|hi|hi
 · exact h1.lt i hi
 · exact h2.lt i hi
 · exact h3.lt i hi
 · exact h4.lt i hi
theorem K4.same{H H':Jn}{cs:List CV}{q:QU}{S:List Nat}(h:K4 H cs q S)(hs:∀i∈S,H'[i]? =H[i]?):K4 H' cs q S:=by
 obtain⟨c1,c2,c3,c4,S1,S2,S3,S4,rfl,rfl,h1,h2,h3,h4⟩:=h.ex
 refine⟨⟨_,_,_,_,_,_,_,_,rfl,rfl,h1.same fun i hi=>hs i ?_,h2.same fun i hi=>hs i ?_,h3.same fun i hi=>hs i ?_,h4.same fun i hi=>hs i ?_⟩,h.nd⟩<;>simp[hi]
section
variable{P:Program}{o:Oper}{st:St}{K:KV}{fo:Operand}{xs:Array Operand}{ts:Array TypeId}{f:FuncId}{args args':List AV}{zs:List Int}{ops:Array Oper}{s:List AV}{H:Jn}
theorem JU.mkA(hc:Jk P f args [] (Jau zs))(he:Jg P f)(ho:o.op= .call ⟨.value fo,xs,ts⟩)(ha:Qb st fo xs=some (f,args))(hf:args.all Q2=true)
 (hk:∀c H' S,Wz (st.h++H') c zs S→(∀i∈S,st.h.length≤i∧i<st.h.length+H'.length)→K (.c c) (st.h++H')):JU P o st K:=
 JU.mkQ hc he ho ha hf fun r H' ⟨c,S,h1,h2⟩=>by
  subst h1
  exact⟨rfl,hk _ _ _ h2.shift (by rw[QI];exact ZX h2.lt)⟩
theorem JU.mkGA{q:QU}(hc:Jk P f args [] (JkY q))(he:Jg P f)(ho:o.op= .call ⟨.value fo,xs,ts⟩)(ha:Qb st fo xs=some (f,args))(hf:args.all Q2=true)
 (hk:∀cs H' S,K4 (st.h++H') cs q S→(∀i∈S,st.h.length≤i∧i<st.h.length+H'.length)→K (.agg cs) (st.h++H')):JU P o st K:=
 JU.mkQ hc he ho ha hf fun r H' ⟨c,S,h1,h2⟩=>by
  subst h1
  exact⟨rfl,hk _ _ _ h2.shift (by rw[QI];exact ZX h2.lt)⟩
end
theorem Qr.inv{H:Jn}{c:CV}{xs:List Int}{S:List Nat}(h:Qr H c xs S)(hn:xs≠[]):∃id g lim ys,c= .own id g 0 xs.length lim∧S=[id]∧look H id g=some ⟨g,1,cl (eI .i64) (xs++ys)⟩:=by
 cases h with
 |e=>exact absurd rfl hn
 |o id g lim xs ys h=>exact⟨id,g,lim,ys,rfl,rfl,h⟩
theorem GE{S1 S2 S3 S4:List Nat}(h:(S1++(S2++(S3++S4))).Nodup):(∀a∈S1,a∉S3∧a∉S4)∧(∀a∈S2,a∉S3∧a∉S4)∧(∀a∈S3,a∉S4)∧(S1++S2).Nodup:=by
 have h':=h
 rw[←JW,JZ]at h
 obtain⟨h12,h34,hd⟩:=h
 rw[JZ]at h34
 refine⟨fun a ha=>⟨fun hb=> ?_,fun hb=> ?_⟩,fun a ha=>⟨fun hb=> ?_,fun hb=> ?_⟩,fun a ha hb=>h34.2.2 a ha a hb rfl,h12⟩
 · exact hd a (by simp[ha]) a (by simp[hb]) rfl
 · exact hd a (by simp[ha]) a (by simp[hb]) rfl
 · exact hd a (by simp[ha]) a (by simp[hb]) rfl
 · exact hd a (by simp[ha]) a (by simp[hb]) rfl
theorem JdX{S1 S2 S3 S4 S5:List Nat}{N:Nat}(h:(S1++(S2++(S3++S4))).Nodup)(h5:S5.Nodup)(hs:∀k∈S5,k∈S4∨N≤k)(k1:∀k∈S1,k<N)(k2:∀k∈S2,k<N)(k3:∀k∈S3,k<N):(S1++(S2++(S3++S5))).Nodup:=by
 have e:∀T:List Nat,S1++(S2++(S3++T))=(S1++S2++S3)++T:=fun T=>by simp
 rw[e]at h⊢
 rw[JZ]at h⊢
 refine⟨h.1,h5,fun a ha b hb he=> ?_⟩
 subst he
 rcases hs a hb with h4|h4
 · exact h.2.2 a ha a h4 rfl
 · have:a<N:=by
    rcases JI.1 ha with ha|ha
    · rcases JI.1 ha with ha|ha
      · exact k1 a ha
      · exact k2 a ha
    · exact k3 a ha
   omega
theorem Jg1{P:Program}{H:Jn}{t:TypeId}{ei:TI}{K:KV}(ht:QT P t=some ei)(hz:ei.zero.length=ei.size∧ei.size=1∧ei.bytes=8){c:CV}{xs:List Int}{S:List Nat}(h:Wz H c xs S)(hx:xs.length≤2^40)
 {n g:Nat} {lim:Option Nat} {v:Int} (hl:look H n g=some ⟨g,1,[.f (.int .i64 v)]⟩)
 (hk:∀c' H' S',Wz H' c' (xs++[v]) S'→(∀k,k<H.length→k∉S→H'[k]? =H[k]?)→(∀k∈S',k∈S∨H.length≤k)→H.length≤H'.length→K (.c c') H'):
 Qf P H t (.c c) (.c (.own n g 0 1 lim)) K:=by
 obtain⟨hz1,hz2,hz3⟩:=hz
 unfold Qf
 cases h with
 |n=>
  simp only[ht,hz1,hz2,if_true,elems,hl,J1,Nat.one_mul,YM,hz3,KB,BK]
  refine⟨⟨by omega,by omega⟩,fun g'=> ?_⟩
  refine hk _ _ [H.length] (Wz.o H.length g' [v] (Qj (b:=⟨g',1,cl (eI .i64) [v]⟩) (by simp;rfl))) (fun k hk _=>Jc hk) (by simp) (by simp)
 |o id g2 xs hl2=>
  have hlt:id<H.length:=(Jh.1 (JH hl2).1).1
  simp only[ht,hz1,hz2,if_true,elems,hl,hl2,J1,Nat.one_mul,YM,hz3,KB,Qu,Nat.mul_one]
  refine⟨⟨trivial,by omega,trivial,by omega,by omega⟩,fun g'=> ?_⟩
  have:=Wz.o (H:=H.set id (some ⟨g',1,cl (eI .i64) xs++[.f (.int .i64 v)]⟩)) id g' (xs++[v]) (Qj (b:=⟨g',1,cl (eI .i64) (xs++[v])⟩) (by rw[JE hlt,Q7];rfl))
  rw[Jq]at this
  exact hk _ _ [id] this (fun k _ hk=>by rw[Ji (by simp at hk;omega)]) (fun k hk=> .inl hk) (by simp)
theorem Qr.nzc{H:Jn}{c:CV}{xs:List Int}{S:List Nat}(h:Qr H c xs S):nzC c=c:=by cases h<;>rfl
theorem Ur.nzc{H:Jn}{c:CV}{xs:List Zq}{S:List Nat}(h:Ur H c xs S):nzC c=c:=by cases h<;>rfl
theorem Jby{H:Jn}{q q':QU}{b b':Bool}{c1 c2 c3 c4:CV}{S1 S2 S3 S4:List Nat}(hq:q'=q)(hb:b'=b)(k1:Qr H c1 q.task.given S1)(k2:Ur H c2 q.task.rules S2)(k3:Qr H c3 q.put S3)(k4:Wz H c4 q.moves S4)
 (kn:(S1++(S2++(S3++S4))).Nodup):Uo H (nzQ (Wv (Yu b') q')) (.tup [.agg [.f (.int .i64 q.task.size),c1,c2,c3,c4], .c (.f (.bool b))]):=by
 subst hq hb
 refine⟨H,J5.refl _,[.f (.int .i64 q'.task.size),c1,c2,c3,nzC c4],_, ?_,⟨⟨_,_,_,_,_,_,_,_,rfl,rfl,k1,k2,k3,k4.toI⟩,kn⟩⟩
 simp only[nzA,nz1,Yu,Qh,ZJ,k1.nzc,k2.nzc,k3.nzc]
 rfl
theorem JcX{H:Jn}{q':QU}{b b':Bool}(hq:q'=⟨⟨0,[],[]⟩,[],[]⟩)(hb:b'=b):Uo H (nzQ (Wv (Yu b') q')) (.tup [.agg [.f (.int .i64 0), .f .nil, .f .nil, .f .nil, .f .nil], .c (.f (.bool b))]):=by
 subst hq hb
 exact⟨H,J5.refl _,_,[],rfl,⟨⟨_,_,_,_,[],[],[],[],rfl,rfl, .e, .e, .e, .e⟩,by simp⟩⟩
theorem Jg7(xs:List Int)(hx:xs.length≤2^40)(h0:xs≠[]):Jk Tryz.prog 89 [QF xs] [] (Jau xs):=by
 have hp:0<xs.length:=List.length_pos_iff.2 h0
 refine Jk.cw (c:=_) Tryz.func89 rfl (n:=8) Tryz.ntmps89 (rs:=[.tmp 2]) rfl ?_
 simp only[Ja,Je,zA,zS,Jf,Jb,Jd]
 simp(maxSteps:=999999)(disch:=omega)only[go_sem,zA,zM,zS,zE,zL,JbL WG rfl hp]
 intro g g'
 rw[Nat.zero_add]
 exact⟨_,J5.refl _,_,_,rfl, .o 0 g' xs (Qj (b:=⟨g',1,cl (eI .i64) xs⟩) rfl)⟩
theorem Jjs:Jk Tryz.prog 89 [QF []] [] (Jau []):=by
 refine Jk.of_bodyN (c:=_) rfl rfl (n:=8) rfl (rs:=[.tmp 2]) rfl ?_
 refine QN.seq (QN.region (JU.val (v:= .c (.f .nil)) rfl ?_))
 refine QN.seq (QN.seq (QN.region (JU.val (v:=QF []) rfl (JU.nilOpen rfl (Wa WG rfl ti3) rfl rfl fun b=> ?_))))
 refine QN.cond (b:=b) rfl (fun hb=> ?_) (fun hb=> ?_)
 · refine QN.seq (QN.region (JU.val (v:= .c (.f .nil)) rfl ?_))
   refine QN.ret ?_
   exact⟨.inr rfl,_,_,rfl,J5.refl _,_,_,rfl, .n⟩
 · refine QN.skip ?_
   refine(UR _ _ _ (Nl Tryz.prog [.tmp 2] (Jau [])) ?_).mono fun e st ⟨h1,v,h2,H',h3,h4⟩=>⟨h1,v,H',h2,h3,h4⟩
   simp only[Ja,Je,zA,zS,Jf,Jb,Jd]
   simp(maxSteps:=999999)(disch:=omega)only[go_sem,zA,zM,zS,zE,zL]
   intro g
   show Uo [some ⟨g,1,[]⟩] (Jau []) (.c (.own 0 g 0 0 none))
   exact⟨_,J5.refl _,_,_,rfl, .o 0 g [] (Qj (b:=⟨g,1,[]⟩) rfl)⟩
theorem JeH(xs:List Int)(hx:xs.length≤2^40):Jk Tryz.prog 89 [QF xs] [] (Jau xs):=by
 by_cases h:xs=[]
 · subst h;exact Jjs
 · exact Jg7 xs hx h
theorem KZ(q:QU)(hx:smG q):Jk Tryz.prog 44 [aG q] [] (JkY q):=by
 refine Jk.cw (c:=_) Tryz.func44 rfl (n:=13) Tryz.ntmps44 (rs:=[.cell 2 28]) rfl ?_
 simp only[Ja,Je,zA,zS,Jf,Jb,Jd]
 simp(maxSteps:=999999)(disch:=omega)only[go_sem,zA,zM,zS,zE,zL]
 intro g1 g2
 refine Ug [0,1,3,4,6,7,2,5] [] none [8,9,10] [] ZE (by kernel_rfl) ?_
 simp(maxSteps:=999999)(disch:=omega)only[go_sem,Nat.reduceBEq,Bool.true_or,zA,zM,zS,zE,zL]
 refine JG.mkP (Kh q.task hx.1) (⟨_,Tryz.func78,rfl,rfl⟩:Jg Tryz.prog 78) rfl rfl rfl ?_
 rintro _ H1 _ ⟨⟨c1,c2,S1,S2,rfl,rfl,k1,k2⟩,kn⟩ hS
 simp(maxSteps:=999999)(disch:=omega)only[go_sem,zA,zM,zS,zE,zL]
 refine JG.mkI (X7 q.put hx.2.1) (⟨_,Tryz.func89,rfl,rfl⟩:Jg Tryz.prog 89) rfl rfl rfl ?_
 intro c3 H3 S3 h3 hS3
 simp(maxSteps:=999999)(disch:=omega)only[go_sem,zA,zM,zS,zE,zL]
 refine JU.mkA (JeH q.moves hx.2.2) (⟨_,Tryz.func89,rfl,rfl⟩:Jg Tryz.prog 89) rfl rfl rfl ?_
 intro c4 H4 S4 h4 hS4
 simp(maxSteps:=999999)(disch:=omega)only[go_sem,zA,zM,zS,zE,zL]
 simp only[Jq,Ja,Je]at hS hS3 hS4
 refine⟨_,J5.refl _,_,S1++(S2++(S3++S4)),rfl,⟨⟨_,_,_,_,S1,S2,S3,S4,rfl,rfl,k1.same fun k hk=> ?_,k2.same fun k hk=> ?_,h3.same fun k hk=> ?_,h4.same fun k hk=> ?_⟩,Jh4 (n1:=H1.length+2) (n2:=H1.length+H3.length+2) kn h3.nd h4.nd (fun k hk=> ?_) (fun k hk=> ?_) (fun k hk=> ?_) (by omega)⟩⟩
 · have:=hS k (by simp[hk])
   simp only[Jb,Jd]
   rw[QC (by omega),QC (by omega),Jc (by simp;omega),Jc (by omega)]
 · have:=hS k (by simp[hk])
   simp only[Jb,Jd]
   rw[QC (by omega),QC (by omega),Jc (by simp;omega),Jc (by omega)]
 · have:=hS3 k hk
   simp only[Jb,Jd]
   rw[QC (by omega),QC (by omega),Jc (by simp;omega)]
 · have:=hS4 k hk
   simp only[Jb,Jd]
   rw[QC (by omega),QC (by omega)]
 · have:=hS k hk;omega
 · have:=hS3 k hk;omega
 · have:=hS4 k hk;omega
end Go.Lg

namespace Go.Lg
open Go.Proofs
attribute [-go_sem] Qf
def ZQ:QU:=⟨⟨0,[],[]⟩,[],[]⟩
def U6(q:QU)(cell value:Int):Prop:=0≤cell∧cell<q.put.length∧Jy (JY q) cell≤0∧1≤value∧value≤q.task.size
instance(q:QU)(cell value:Int):Decidable (U6 q cell value):=by unfold U6;infer_instance
def Zn(q:QU)(cell value:Int):QU:=if Qp q=true then(if U6 q cell value then⟨q.task,q.put.set cell.toNat value,q.moves++[cell]⟩else q)else ZQ
def Zc(q:QU)(cell value:Int):Bool:=Qp q&&decide (U6 q cell value)
theorem Jdm(q:QU)(cell value:Int)(hx:smG q):Jk Tryz.prog 46 [aG q,int cell,int value] [] (Wv (Yu (Zc q cell value)) (Zn q cell value)):=by
 refine Jk.nz ?_
 refine Jk.cw (c:=_) Tryz.func46 rfl (n:=56) Tryz.ntmps46 (rs:=[.cell 6 28, .tmp 7]) rfl ?_
 simp only[Ja,Je,zA,zS,Jf,Jb,Jd]
 simp(maxSteps:=999999)(disch:=omega)only[go_sem,zA,zM,zS,zE,zL]
 intro g1 g2
 first|refine JU.rd (Zg q hx) (⟨_,Tryz.func34,rfl,rfl⟩:Jg Tryz.prog 34) rfl rfl rfl rfl ?_|refine JG.rd (Zg q hx) (⟨_,Tryz.func34,rfl,rfl⟩:Jg Tryz.prog 34) rfl rfl rfl rfl ?_
 simp(maxSteps:=999999)(disch:=omega)only[go_sem,zA,zM,zS,zE,zL]
 ((first|(with_reducible first|refine Jm ?_ ?_|refine Jj ?_ ?_|refine Jo ?_ ?_)|refine Jr ?_ ?_)<;>intro h)
 · simp(maxSteps:=999999)(disch:=omega)only[go_sem,zA,zM,zS,zE,zL]
   obtain⟨h1,h2,h3,h4,h5,h6⟩:=Zf h
   have hl:=WC h
   refine JU.mkGA (KZ q hx) (⟨_,Tryz.func44,rfl,rfl⟩:Jg Tryz.prog 44) rfl rfl rfl ?_
   rintro _ H1 _ ⟨⟨c1,c2,c3,c4,S1,S2,S3,S4,rfl,rfl,k1,k2,k3,k4⟩,kn⟩ hS
   simp(maxSteps:=999999)(disch:=omega)only[go_sem,zA,zM,zS,zE,zL]
   intro g3
   simp(maxSteps:=999999)(disch:=omega)only[go_sem,zA,zM,zS,zE,zL,JF,Qy]
   simp only[Ja,Je,Jb,Jd]at k1 k2 k3 k4 hS
   have mv:∀{X1 X2 Y1 Y2:Option Zo} {Z:Jn},∀k,2≤k∧k<2+H1.length→(X1::Y1::(H1++Z))[k]? =(X2::Y2::H1)[k]? :=fun k hk=>by
    rw[QC hk.1,QC hk.1,Jc (by omega)]
   have m1:∀k∈S1,2≤k∧k<2+H1.length:=fun k hk=>by have:=hS k (by simp[hk]);omega
   have m2:∀k∈S2,2≤k∧k<2+H1.length:=fun k hk=>by have:=hS k (by simp[hk]);omega
   have m3:∀k∈S3,2≤k∧k<2+H1.length:=fun k hk=>by have:=hS k (by simp[hk]);omega
   have m4:∀k∈S4,2≤k∧k<2+H1.length:=fun k hk=>by have:=hS k (by simp[hk]);omega
   have no:¬U6 q cell value→Zn q cell value=q∧Zc q cell value=false:=fun hn=>by simp[Zn,Zc,h,hn]
   have fin:∀{X1 Y1:Option Zo} {Z:Jn},¬U6 q cell value→Uo (X1::Y1::(H1++Z)) (nzQ (Wv (Yu (Zc q cell value)) (Zn q cell value))) (.tup [.agg [.f (.int .i64 q.task.size),c1,c2,c3,c4], .c (.f (.bool false))]):=fun hn=>
    Jby (no hn).1 (no hn).2 (k1.same fun k hk=>mv k (m1 k hk)) (k2.same fun k hk=>mv k (m2 k hk)) (k3.same fun k hk=>mv k (m3 k hk)) (k4.same fun k hk=>mv k (m4 k hk)) kn
   ((with_reducible first|refine JL ?_ ?_|refine JD ?_ ?_|refine JT ?_ ?_|refine Jv ?_ ?_|refine JJ ?_ ?_|refine JK ?_ ?_|refine JB ?_ ?_|refine JC ?_ ?_|refine JR ?_ ?_|refine JS ?_ ?_|refine Jw ?_ ?_|refine Jx ?_ ?_)<;>intro a1<;>simp(maxSteps:=999999)(disch:=omega)only[go_sem,zA,zM,zS,zE,zL,a1])
   · simp(maxSteps:=999999)(disch:=omega)only[go_sem,zA,zM,zS,zE,zL,JF]
     exact(fin fun hn=>by unfold U6 at hn;omega)
   ((with_reducible first|refine JL ?_ ?_|refine JD ?_ ?_|refine JT ?_ ?_|refine Jv ?_ ?_|refine JJ ?_ ?_|refine JK ?_ ?_|refine JB ?_ ?_|refine JC ?_ ?_|refine JR ?_ ?_|refine JS ?_ ?_|refine Jw ?_ ?_|refine Jx ?_ ?_)<;>intro a2<;>simp(maxSteps:=999999)(disch:=omega)only[go_sem,zA,zM,zS,zE,zL,a2])
   · simp(maxSteps:=999999)(disch:=omega)only[go_sem,zA,zM,zS,zE,zL,JF]
     exact(fin fun hn=>by unfold U6 at hn;omega)
   first|refine JU.mk (JM.ownI (WR q hx)) (⟨_,Tryz.func9,rfl,rfl⟩:Jg Tryz.prog 9) rfl rfl rfl rfl rfl ?_|refine JG.mk (JM.ownI (WR q hx)) (⟨_,Tryz.func9,rfl,rfl⟩:Jg Tryz.prog 9) rfl rfl rfl rfl rfl ?_
   simp(maxSteps:=999999)(disch:=omega)only[go_sem,zA,zM,zS,zE,zL]
   obtain⟨i,rfl⟩:∃i:Nat,cell=i:=⟨cell.toNat,by omega⟩
   ((with_reducible first|refine JL ?_ ?_|refine JD ?_ ?_|refine JT ?_ ?_|refine Jv ?_ ?_|refine JJ ?_ ?_|refine JK ?_ ?_|refine JB ?_ ?_|refine JC ?_ ?_|refine JR ?_ ?_|refine JS ?_ ?_|refine Jw ?_ ?_|refine Jx ?_ ?_)<;>intro a3<;>simp(maxSteps:=999999)(disch:=omega)only[go_sem,zA,zM,zS,zE,zL,a3])
   · simp(maxSteps:=999999)(disch:=omega)only[go_sem,zA,zM,zS,zE,zL,JF]
     exact(fin fun hn=>by unfold U6 at hn;omega)
   ((with_reducible first|refine JL ?_ ?_|refine JD ?_ ?_|refine JT ?_ ?_|refine Jv ?_ ?_|refine JJ ?_ ?_|refine JK ?_ ?_|refine JB ?_ ?_|refine JC ?_ ?_|refine JR ?_ ?_|refine JS ?_ ?_|refine Jw ?_ ?_|refine Jx ?_ ?_)<;>intro a4<;>simp(maxSteps:=999999)(disch:=omega)only[go_sem,zA,zM,zS,zE,zL,a4])
   · simp(maxSteps:=999999)(disch:=omega)only[go_sem,zA,zM,zS,zE,zL,JF]
     exact(fin fun hn=>by unfold U6 at hn;omega)
   ((first|(with_reducible first|refine Jm ?_ ?_|refine Jj ?_ ?_|refine Jo ?_ ?_)|refine Jr ?_ ?_)<;>intro a5)
   · simp(maxSteps:=999999)(disch:=omega)only[go_sem,zA,zM,zS,zE,zL,JF]
     exact(fin fun hn=>by unfold U6 at hn;omega)
   have ok:U6 q i value:=⟨by omega,by omega,by omega,by omega,by omega⟩
   have r1:Zn q i value=⟨q.task,q.put.set i value,q.moves++[(i:Int)]⟩:=by simp[Zn,h,ok]
   have r2:Zc q i value=true:=by simp[Zc,h,ok]
   have hne:q.put≠[]:=by intro h0;rw[h0]at a2;simp at a2
   obtain⟨HA,hHA⟩:∃HA:Jn,HA=some ⟨g1,1,cG q⟩::some ⟨g2,5,[.f (.int .i64 0), .f .nil, .f .nil, .f .nil, .f .nil]⟩::(H1++[some ⟨g3,5,[.f (.int .i64 q.task.size),c1,c2,c3,c4]⟩]):=⟨_,rfl⟩
   have e1:=k1.same (H':=HA) fun k hk=>by rw[hHA];exact mv k (m1 k hk)
   have e2:=k2.same (H':=HA) fun k hk=>by rw[hHA];exact mv k (m2 k hk)
   have e3:=k3.same (H':=HA) fun k hk=>by rw[hHA];exact mv k (m3 k hk)
   have e4:=k4.same (H':=HA) fun k hk=>by rw[hHA];exact mv k (m4 k hk)
   have b1:look HA 1 g2=some ⟨g2,5,[.f (.int .i64 0), .f .nil, .f .nil, .f .nil, .f .nil]⟩:=by rw[hHA];simp only[go_sem]
   have b2:look HA (H1.length+1+1) g3=some ⟨g3,5,[.f (.int .i64 q.task.size),c1,c2,c3,c4]⟩:=by rw[hHA];simp only[go_sem];exact JF
   have hlA:HA.length=H1.length+3:=by rw[hHA];simp
   rw[←hHA]
   clear hHA
   obtain⟨id3,g4,lim3,ys,rfl,rfl,l3⟩:=e3.inv hne
   have hi3:=m3 id3 (by simp)
   have hil:i<q.put.length:=by omega
   have hil2:i<(q.put++ys).length:=by simp;omega
   simp(maxSteps:=999999)(disch:=omega)only[go_sem,zA,zM,zS,zE,zL,b2,l3]
   rw[Int.toNat_natCast,List.set_append_left _ _ hil]
   have hlt3:id3<HA.length:=by omega
   obtain⟨n1,n2,n3,n12⟩:=GE kn
   obtain⟨HB,hHB⟩:∃HB:Jn,HB=HA.set id3 (some ⟨g4,1,cl (eI .i64) (q.put.set i value++ys)⟩):=⟨_,rfl⟩
   have hB:∀k,k≠id3→HB[k]? =HA[k]? :=fun k hk=>by rw[hHB,Ji (Ne.symm hk)]
   have hlB:HB.length=H1.length+3:=by rw[hHB,Jp,hlA]
   have f1:=e1.same (H':=HB) fun k hk=>hB k fun he=>(n1 k hk).1 (by simp[he])
   have f2:=e2.same (H':=HB) fun k hk=>hB k fun he=>(n2 k hk).1 (by simp[he])
   have f4:=e4.same (H':=HB) fun k hk=>hB k fun he=>n3 id3 (by simp) (he▸hk)
   have f3:Qr HB (.own id3 g4 0 q.put.length lim3) (q.put.set i value) [id3]:=by
    have:=Qr.o (H:=HB) id3 g4 lim3 (q.put.set i value) ys (by rw[hHB];exact Qj (b:=⟨g4,1,cl (eI .i64) (q.put.set i value++ys)⟩) (by rw[JE hlt3]))
    rwa [Jp]at this
   have b3:look HB 1 g2=some ⟨g2,5,[.f (.int .i64 0), .f .nil, .f .nil, .f .nil, .f .nil]⟩:=by unfold look;rw[hB 1 (by omega)];exact b1
   have b4:look HB (H1.length+1+1) g3=some ⟨g3,5,[.f (.int .i64 q.task.size),c1,c2, .own id3 g4 0 q.put.length lim3,c4]⟩:=by unfold look;rw[hB _ (by omega)];exact b2
   rw[←hHB]
   clear hHB e1 e2 e3 e4 b1 b2 l3
   simp(maxSteps:=999999)(disch:=omega)only[go_sem,zA,zM,zS,zE,zL,b4]
   intro g5
   have hlt8:H1.length+1+1<HB.length:=by omega
   refine Jg1 (Wa WG rfl ti3) ⟨rfl,rfl,rfl⟩ (f4.same fun k hk=>Jc (f4.lt k hk)) (by omega) JF ?_
   intro c5 HC S5 hA hC hS5 hlC
   rw[Jq,JQ]at hlC hS5
   have hC':∀k,k<HB.length→k∉S4→HC[k]? =HB[k]? :=fun k hk hn=>by rw[hC k (by rw[Jq];omega) hn,Jc hk]
   have b5:look HC 1 g2=some ⟨g2,5,[.f (.int .i64 0), .f .nil, .f .nil, .f .nil, .f .nil]⟩:=by unfold look;rw[hC' 1 (by omega) fun hm=>by have:=m4 _ hm;omega];exact b3
   have b6:look HC (H1.length+1+1) g3=some ⟨g3,5,[.f (.int .i64 q.task.size),c1,c2, .own id3 g4 0 q.put.length lim3,c4]⟩:=by unfold look;rw[hC' _ hlt8 fun hm=>by have:=m4 _ hm;omega];exact b4
   simp(maxSteps:=999999)(disch:=omega)only[go_sem,zA,zM,zS,zE,zL,b6]
   rw[QP (by omega)]
   simp(maxSteps:=999999)(disch:=omega)only[go_sem,zA,zM,zS,zE,zL]
   rw[ZC (by omega),b5]
   simp(maxSteps:=999999)(disch:=omega)only[go_sem,zA,zM,zS,zE,zL]
   rw[QP (by rw[Jp];omega)]
   simp(maxSteps:=999999)(disch:=omega)only[go_sem,zA,zM,zS,zE,zL]
   have hD:∀{X Y:Option Zo},∀k,2≤k∧k<2+H1.length∨HB.length+1≤k→((HC.set (H1.length+1+1) X).set 1 Y)[k]? =HC[k]? :=fun k hk=>by
    rw[Ji (by omega),Ji (by omega)]
   have hD4:∀{X Y:Option Zo},∀k∈S5,((HC.set (H1.length+1+1) X).set 1 Y)[k]? =HC[k]? :=fun k hk=>hD k (by
    rcases hS5 k hk with h5|h5
    · exact .inl (m4 k h5)
    · exact .inr (by omega))
   have hD':∀{X Y:Option Zo},∀k,2≤k∧k<2+H1.length→k∉S4→((HC.set (H1.length+1+1) X).set 1 Y)[k]? =HB[k]? :=fun k hk hn=>by rw[hD k (.inl hk),hC' k (by omega) hn]
   refine Jby (q:=⟨q.task,q.put.set i value,q.moves++[(i:Int)]⟩) r1 r2 (f1.same fun k hk=>hD' k (m1 k hk) (n1 k hk).2) (f2.same fun k hk=>hD' k (m2 k hk) (n2 k hk).2) (f3.same fun k hk=>hD' k (m3 k hk) (n3 k hk)) (hA.same hD4)
    (JdX (N:=HB.length+1) kn hA.nd hS5 (fun k hk=>by have:=m1 k hk;omega) (fun k hk=>by have:=m2 k hk;omega) (fun k hk=>by have:=m3 k hk;omega))
 · simp(maxSteps:=999999)(disch:=omega)only[go_sem,zA,zM,zS,zE,zL]
   refine JcX ?_ ?_
   · simp[Zn,h,ZQ]
   · simp[Zc,h]
end Go.Lg
