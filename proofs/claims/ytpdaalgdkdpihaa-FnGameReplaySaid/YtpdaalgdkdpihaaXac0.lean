/- GpN, GpX, cut to what is needed. -/
import Derived.Test.YtpdaalgdkdpihaaXab7
import Derived.Test.YtpdaalgdkdpihaaXab2
import Derived.Test.YtpdaalgdkdpihaaXab8
import Derived.Test.YtpdaalgdkdpihaaXab9
open Nat renaming reduceAdd→zA,reduceMul→zM,reduceSub→zS,reduceEqDiff→zE,reduceLeDiff→zL
set_option linter.unusedSimpArgs false
set_option linter.unusedVariables false
set_option maxRecDepth 100000
namespace Go.Lg
open Go.Proofs
def bothG(a b:List Int):List Int:=(List.range a.length).map fun i:Nat=>max (nth a i) (nth b i)
def bothOk(a b:List Int):Bool:=decide (∀i:Nat,i<a.length→¬(0<nth a i∧0<nth b i∧nth a i≠nth b i))
theorem bothG_length(a b:List Int):(bothG a b).length=a.length:=by simp[bothG]
theorem bothG_nth{a b:List Int}{i:Nat}(h:i<a.length):nth (bothG a b) i=max (nth a i) (nth b i):=by
 rw[nth_eq (by rw[bothG_length];omega)];simp[bothG]
def bothQ(a b:List Int):KV:=fun r H=>(bothOk a b=true→∃g,r= .tup [.c (.own 0 g 0 a.length none),bool true]∧H=[some ⟨g,1,cl (eI .i64) (bothG a b)⟩])∧(bothOk a b=false→r= .tup [.c (.f (.sl 0 [])),bool false]∧H=[])
theorem bothGrids_own(a b:List Int)(hx:a.length≤2^40)(hb:a.length=b.length):RunCall Try.prog 51 [ints a,ints b] [] (bothQ a b):=by
 refine RunCall.nz ?_
 refine RunCall.cw (c:=_) Try.func51 rfl (n:=47) Try.ntmps51 (rs:=[.tmp 4, .tmp 5]) rfl ?_
 simp only[List.length_cons,List.length_nil,zA,zS,List.replicate,List.cons_append,List.nil_append]
 simp(maxSteps:=999999)(disch:=omega)only[go_sem,zA,zM,zS,zE,zL]
 intro g
 refine loop_rule2 (fun(i:Nat) (ys:List Int)=>a.length -i) (fun i ys=>i≤a.length∧ys.length=a.length∧(∀j:Nat,j<i→nth ys j=max (nth a j) (nth b j))∧∀j:Nat,j<i→¬(0<nth a j∧0<nth b j∧nth a j≠nth b j)) (fun i _=>[.a, .k, .a, .a, .a, .a, .k, .a, .a, .a, .a, .a, .k, .k, .p (int i), .a, .a, .a, .a, .a, .a, .a, .a, .a, .a, .a, .a, .a, .a, .a, .a, .a, .a, .a, .a, .a, .a, .a, .a, .a, .a, .a, .a, .a, .a, .a, .a]) (fun _ ys=>[some ⟨g,1,cl (eI .i64) ys⟩]) 0 (List.replicate a.length 0)
  ⟨Nat.zero_le _,List.length_replicate,fun j hj=>absurd hj (Nat.not_lt_zero _),fun j hj=>absurd hj (Nat.not_lt_zero _)⟩ (by simp(maxSteps:=999999)(disch:=omega)only[go_sem,zA,zM,zS,zE,zL];rfl) (HLe.refl _) ?_
 rintro i ys ⟨hi,hl,hall,hok⟩
 simp(maxSteps:=999999)(disch:=omega)only[go_sem,zA,zM,zS,zE,zL]
 ((first|(with_reducible first|refine condK_dec ?_ ?_|refine condK_ndec ?_ ?_|refine condK_nb ?_ ?_)|refine condK_b ?_ ?_)<;>intro h)
 · have h:i<a.length:=by omega
   have no:0<nth a i∧0<nth b i∧nth a i≠nth b i→bothOk a b=false:=fun h2=>by
    simp only[bothOk,decide_eq_false_iff_not];exact fun h3=>h3 i h h2
   have nx:∀v,v=max (nth a i) (nth b i)→∀j:Nat,j<i+1→nth (ys.set i v) j=max (nth a j) (nth b j):=fun v hv j hj=>by
    rw[nth_set _ _ _ _ (by omega) (by omega)]
    split
    · rename_i he;rw[hv,he]
    · exact hall j (by omega)
   simp(maxSteps:=999999)(disch:=omega)only[go_sem,zA,zM,zS,zE,zL]
   repeat' (first|((with_reducible first|refine guardK_dec ?_ ?_|refine guardK_ndec ?_ ?_|refine guardK_nb ?_ ?_|refine guardK_split ?_ ?_|refine guardQ_dec ?_ ?_|refine guardL_dec ?_ ?_|refine guardQ_ndec ?_ ?_|refine guardL_ndec ?_ ?_|refine guardQ_nb ?_ ?_|refine guardL_nb ?_ ?_|refine guardQ_split ?_ ?_|refine guardL_split ?_ ?_)<;>intro hg<;>simp(maxSteps:=999999)(disch:=omega)only[go_sem,zA,zM,zS,zE,zL,hg])|(((first|(with_reducible first|refine condK_dec ?_ ?_|refine condK_ndec ?_ ?_|refine condK_nb ?_ ?_)|refine condK_b ?_ ?_)<;>intro hg)<;>simp(maxSteps:=999999)(disch:=omega)only[go_sem,zA,zM,zS,zE,zL]))
   all_goals first
    |exact⟨i+1,ys.set i (max (nth a i) (nth b i)),⟨⟨h,by simp[hl],nx _ rfl,all_step hok fun h2=>by omega⟩,by omega⟩,by omega,HLe.refl _⟩
    |(exact⟨[],hle_nil _,fun h2=>(by rw[no ⟨by omega,by omega,by omega⟩]at h2;cases h2),fun _=>⟨rfl,rfl⟩⟩)
 · simp(maxSteps:=999999)(disch:=omega)only[go_sem,zA,zM,zS,zE,zL]
   have hb1:bothOk a b=true:=by simp only[bothOk,decide_eq_true_eq];exact fun j hj=>hok j (by omega)
   have:ys=bothG a b:=ext_nth (by rw[hl,bothG_length]) fun j hj=>by rw[hall j (by omega),bothG_nth (by omega)]
   subst this
   exact⟨_,HLe.refl _,fun _=>⟨g,rfl,rfl⟩,fun h2=>(by rw[hb1]at h2;cases h2)⟩
theorem bothOk_game{q:Gam}(h:gameOk q):bothOk q.task.given q.put=true:=by
 simp only[bothOk,decide_eq_true_eq]
 rintro i hi ⟨h1,h2,h3⟩
 by_cases hi2:i<q.put.length
 · have:=(h.2.2 i (mem_filledAt.2 ⟨by omega,by omega,h2⟩)).2
   omega
 · have:nth q.put i=0:=by simp[nth,List.getD,List.getElem?_eq_none (Nat.le_of_not_lt hi2)]
   omega
theorem gameValid_facts{q:Gam}(h:gameValid q=true):puzzleValid q.task=true∧gridValid q.put q.task.size=true∧q.moves.length≤40∧gameOk q∧q.put.length=q.task.given.length∧q.put.length≤16:=by
 simp only[gameValid,Bool.and_eq_true,decide_eq_true_eq]at h
 obtain⟨h1,h2,h3,h4⟩:=h
 have a1:=gridValid_bound h2
 have a2:=gridValid_bound (puzzleValid_grid h1)
 exact⟨h1,h2,h3,h4,by have:=a1.2.2.1;have:=a2.2.2.1;omega,a1.2.2.2.1⟩
def gameGrid(q:Gam):List Int:=if gameValid q then bothG q.task.given q.put else[]
theorem gameGrid_length{q:Gam}(h:gameValid q=true):(gameGrid q).length=q.task.given.length:=by simp[gameGrid,h,bothG_length]
theorem GameGrid_own(q:Gam)(hx:smG q):RunCall Try.prog 17 [aG q] [] (ownIQ (gameGrid q)):=by
 refine RunCall.nz ?_
 refine RunCall.cw (c:=_) Try.func17 rfl (n:=18) Try.ntmps17 (rs:=[.tmp 2]) rfl ?_
 simp only[List.length_cons,List.length_nil,zA,zS,List.replicate,List.cons_append,List.nil_append]
 simp(maxSteps:=999999)(disch:=omega)only[go_sem,zA,zM,zS,zE,zL]
 intro g
 first|refine OpS.rd (GameValid_run q hx) (⟨_,Try.func38,rfl,rfl⟩:Enters Try.prog 38) rfl rfl rfl rfl ?_|refine Loud.rd (GameValid_run q hx) (⟨_,Try.func38,rfl,rfl⟩:Enters Try.prog 38) rfl rfl rfl rfl ?_
 simp(maxSteps:=999999)(disch:=omega)only[go_sem,zA,zM,zS,zE,zL]
 ((first|(with_reducible first|refine condK_dec ?_ ?_|refine condK_ndec ?_ ?_|refine condK_nb ?_ ?_)|refine condK_b ?_ ?_)<;>intro h)
 · obtain⟨h1,h2,h3,h4,h5,h6⟩:=gameValid_facts h
   have hl:=gameGrid_length h
   have hg:gameGrid q=bothG q.task.given q.put:=by simp[gameGrid,h]
   simp(maxSteps:=999999)(disch:=omega)only[go_sem,zA,zM,zS,zE,zL]
   refine OpS.mkQ (bothGrids_own q.task.given q.put hx.1.1 h5.symm) (⟨_,Try.func51,rfl,rfl⟩:Enters Try.prog 51) rfl rfl rfl ?_
   rintro _ _ ⟨hy,hn⟩
   obtain⟨g2,rfl,rfl⟩:=hy (bothOk_game h4)
   refine⟨rfl, ?_⟩
   simp(maxSteps:=999999)(disch:=omega)only[go_sem,zA,zM,zS,zE,zL]
   rw[←hl,←hg]
   exact⟨_,hle_none _ _ _ (HLe.refl _),_,_,rfl,OwnI.o 1 g2 none _ [] (by rw[List.append_nil];simp only[go_sem]),scalH_none (scalH_ints scal_none)⟩
 · simp(maxSteps:=999999)(disch:=omega)only[go_sem,zA,zM,zS,zE,zL]
   have hg:gameGrid q=[]:=by simp[gameGrid,h]
   rw[hg]
   exact⟨[],hle_nil _,_,_,rfl,ownI_nil,scal_none⟩
theorem sGameGrid_own(q:Gam)(hx:smG q):RunCall Try.prog 15 [aG q] [] (ownIQ (gameGrid q)):=by
 refine RunCall.nz ?_
 refine RunCall.cw (c:=_) Try.func15 rfl (n:=34) Try.ntmps15 (rs:=[.tmp 2]) rfl ?_
 simp only[List.length_cons,List.length_nil,zA,zS,List.replicate,List.cons_append,List.nil_append]
 simp(maxSteps:=999999)(disch:=omega)only[go_sem,zA,zM,zS,zE,zL]
 intro g
 first|refine OpS.rd (sGameValid_run q hx) (⟨_,Try.func41,rfl,rfl⟩:Enters Try.prog 41) rfl rfl rfl rfl ?_|refine Loud.rd (sGameValid_run q hx) (⟨_,Try.func41,rfl,rfl⟩:Enters Try.prog 41) rfl rfl rfl rfl ?_
 simp(maxSteps:=999999)(disch:=omega)only[go_sem,zA,zM,zS,zE,zL]
 ((first|(with_reducible first|refine condK_dec ?_ ?_|refine condK_ndec ?_ ?_|refine condK_nb ?_ ?_)|refine condK_b ?_ ?_)<;>intro h)
 · obtain⟨h1,h2,h3,h4,h5,h6⟩:=gameValid_facts h
   have hl:=gameGrid_length h
   have hg:gameGrid q=bothG q.task.given q.put:=by simp[gameGrid,h]
   have hb1:=gridValid_bound h2
   have hb2:=gridValid_bound (puzzleValid_grid h1)
   have hsq:=sq_bound ⟨hb1.1,hb1.2.1⟩
   have hpos:q.put.length≠0:=by omega
   simp(maxSteps:=999999)(disch:=omega)only[go_sem,zA,zM,zS,zE,zL]
   intro g2 g3
   have hgv:∀j:Nat,j<q.put.length→nth q.put j+nth q.task.given j=max (nth q.task.given j) (nth q.put j)∧0≤nth q.put j∧nth q.put j≤4∧0≤nth q.task.given j∧nth q.task.given j≤4:=fun j hj=>by
    have:=hb1.2.2.2.2 j hj
    have:=hb2.2.2.2.2 j (by omega)
    by_cases hp:0<nth q.put j
    · have:=(h4.2.2 j (mem_filledAt.2 ⟨by omega,by omega,hp⟩)).2
      omega
    · omega
   refine loop_rule2 (fun(i:Nat) (ys:List Int)=>q.put.length -i) (fun i ys=>i≤q.put.length∧ys.length=q.put.length∧(∀j:Nat,j<i→nth ys j=max (nth q.task.given j) (nth q.put j))∧∀j:Nat,i≤j→nth ys j=nth q.put j) (fun i _=>[.a, .k, .a, .k, .p (int i), .a, .a, .a, .a, .a, .a, .a, .a, .a, .a, .a, .a, .a, .a, .a, .a, .a, .a, .a, .a, .a, .a, .a, .a, .a, .a, .a, .a, .a]) (fun _ ys=>[some ⟨g,1,cG q⟩,some ⟨g3,1,cl (eI .i64) ys⟩]) 0 q.put
    ⟨Nat.zero_le _,rfl,fun j hj=>absurd hj (Nat.not_lt_zero _),fun j hj=>rfl⟩ (by simp(maxSteps:=999999)(disch:=omega)only[go_sem,zA,zM,zS,zE,zL];rfl) (HLe.refl _) ?_
   rintro i ys ⟨hi,hl2,hall,hkeep⟩
   simp(maxSteps:=999999)(disch:=omega)only[go_sem,zA,zM,zS,zE,zL]
   ((first|(with_reducible first|refine condK_dec ?_ ?_|refine condK_ndec ?_ ?_|refine condK_nb ?_ ?_)|refine condK_b ?_ ?_)<;>intro hi2)
   · have hi2:i<q.put.length:=by omega
     have hki:=hkeep i (Nat.le_refl _)
     have hgi:=hgv i hi2
     simp(maxSteps:=999999)(disch:=omega)only[go_sem,zA,zM,zS,zE,zL]
     refine drawP_lF [0,1,2,3,4,5,6,7,8,9,10,11,12] [] none [13,14] [] foll (by kernel_rfl) ?_
     simp(maxSteps:=999999)(disch:=omega)only[go_sem,Nat.reduceBEq,Bool.true_or,zA,zM,zS,zE,zL]
     refine⟨i+1,ys.set i (nth ys i+nth q.task.given i),⟨⟨hi2,by simp[hl2],fun j hj=> ?_,fun j hj=> ?_⟩,by omega⟩,by omega,HLe.refl _⟩
     · rw[nth_set _ _ _ _ (by omega) (by omega)]
       split
       · rename_i he
         rw[he,hki];exact hgi.1
       · exact hall j (by omega)
     · rw[nth_set _ _ _ _ (by omega) (by omega),if_neg (by omega)]
       exact hkeep j (by omega)
   · simp(maxSteps:=999999)(disch:=omega)only[go_sem,zA,zM,zS,zE,zL]
     have:ys=gameGrid q:=ext_nth (by rw[hl2,hl];exact h5) fun j hj=>by rw[hall j (by omega),hg,bothG_nth (by omega)]
     subst this
     rw[h5,←hl,Nat.zero_add]
     exact⟨[none,some ⟨g3,1,cl (eI .i64) (gameGrid q)⟩],hle_none _ _ _ (HLe.refl _),_,_,rfl,OwnI.o 1 g3 none _ [] (by rw[List.append_nil];exact look_of (H:=[none,some ⟨g3,1,cl (eI .i64) (gameGrid q)⟩]) (id:=1) (b:=⟨g3,1,cl (eI .i64) (gameGrid q)⟩) rfl),scalH_none (scalH_ints scal_none)⟩
 · simp(maxSteps:=999999)(disch:=omega)only[go_sem,zA,zM,zS,zE,zL]
   have hg:gameGrid q=[]:=by simp[gameGrid,h]
   rw[hg]
   intro g2
   exact⟨[none,some ⟨g2,1,[]⟩],hle_none _ _ _ (HLe.refl _),_,_,rfl,OwnI.o 1 g2 none [] [] (by simp only[go_sem];rfl),scalH_none (scalH_ints (xs:=[]) scal_none)⟩
end Go.Lg

namespace Go.Lg
open Go.Proofs
theorem resV_cellTmp(P:Program)(s:List AV)(H:Heap)(t u:Nat)(ty:TypeId):resV P s H [.cell t ty, .tmp u]=(loadV P H ty (s.getD t .void)).map fun v=> .tup [v,s.getD u .void]:=by
 simp only[resV,resAll,resOne]
 cases loadV P H ty (s.getD t .void)<;>rfl
attribute [go_sem] resV_cellTmp
inductive OwnA(H:Heap):CV→List Int→List Nat→Prop where
 |n:OwnA H (.f .nil) [] []
 |o (id g:Nat) (xs:List Int) (h:look H id g=some ⟨g,1,cl (eI .i64) xs⟩):OwnA H (.own id g 0 xs.length none) xs [id]
theorem OwnA.toI{H:Heap}{c:CV}{xs:List Int}{S:List Nat}(h:OwnA H c xs S):OwnI H (nzC c) xs S:=by
 cases h with
 |n=>exact .e
 |o id g xs h=>exact .o id g none xs [] (by rw[List.append_nil];exact h)
theorem OwnA.same{H H':Heap}{c:CV}{xs:List Int}{S:List Nat}(h:OwnA H c xs S)(hs:∀i∈S,H'[i]? =H[i]?):OwnA H' c xs S:=by
 cases h with
 |n=>exact .n
 |o id g xs h=>exact .o id g xs (by unfold look at*;rw[hs id (by simp)];exact h)
theorem OwnA.shift{H0 H:Heap}{c:CV}{xs:List Int}{S:List Nat}(h:OwnA H c xs S):OwnA (H0++shiftH H0.length H) (shiftC H0.length c) xs (S.map (· +H0.length)):=by
 cases h with
 |n=>exact .n
 |o id g xs h=>
  refine .o (id+H0.length) g xs ?_
  rw[look_shiftH h]
  simp only[shiftB,shift_cl]
theorem OwnA.lt{H:Heap}{c:CV}{xs:List Int}{S:List Nat}(h:OwnA H c xs S):∀i∈S,i<H.length:=fun i hi=>h.toI.lt i hi
theorem OwnA.nd{H:Heap}{c:CV}{xs:List Int}{S:List Nat}(h:OwnA H c xs S):S.Nodup:=h.toI.nd
def ownAQ(xs:List Int):KV:=fun r H=>∃c S,r= .c c∧OwnA H c xs S
structure OwnGA(H:Heap)(cs:List CV)(q:Gam)(S:List Nat):Prop where
 ex:∃c1 c2 c3 c4 S1 S2 S3 S4,cs=[.f (.int .i64 q.task.size),c1,c2,c3,c4]∧S=S1++(S2++(S3++S4))∧OwnI H c1 q.task.given S1∧OwnR H c2 q.task.rules S2∧OwnI H c3 q.put S3∧OwnA H c4 q.moves S4
 nd:S.Nodup
def gamAQ(q:Gam):KV:=fun v H=>∃cs S,v= .agg cs∧OwnGA H cs q S
theorem OwnGA.shift{H0 H:Heap}{cs:List CV}{q:Gam}{S:List Nat}(h:OwnGA H cs q S):OwnGA (H0++shiftH H0.length H) (cs.map (shiftC H0.length)) q (S.map (· +H0.length)):=by
 obtain⟨c1,c2,c3,c4,S1,S2,S3,S4,rfl,rfl,h1,h2,h3,h4⟩:=h.ex
 exact⟨⟨_,_,_,_,_,_,_,_,rfl,by simp,h1.shift,h2.shift,h3.shift,h4.shift⟩,nodup_shift h.nd⟩
theorem OwnGA.lt{H:Heap}{cs:List CV}{q:Gam}{S:List Nat}(h:OwnGA H cs q S):∀i∈S,i<H.length:=by
 obtain⟨c1,c2,c3,c4,S1,S2,S3,S4,rfl,rfl,h1,h2,h3,h4⟩:=h.ex
 intro i hi
 simp only[List.mem_append]at hi
 rcases hi with hi|hi|hi|hi
 · exact h1.lt i hi
 · exact h2.lt i hi
 · exact h3.lt i hi
 · exact h4.lt i hi
theorem OwnGA.same{H H':Heap}{cs:List CV}{q:Gam}{S:List Nat}(h:OwnGA H cs q S)(hs:∀i∈S,H'[i]? =H[i]?):OwnGA H' cs q S:=by
 obtain⟨c1,c2,c3,c4,S1,S2,S3,S4,rfl,rfl,h1,h2,h3,h4⟩:=h.ex
 refine⟨⟨_,_,_,_,_,_,_,_,rfl,rfl,h1.same fun i hi=>hs i ?_,h2.same fun i hi=>hs i ?_,h3.same fun i hi=>hs i ?_,h4.same fun i hi=>hs i ?_⟩,h.nd⟩<;>simp[hi]
section
variable{P:Program}{o:Oper}{st:St}{K:KV}{fo:Operand}{xs:Array Operand}{ts:Array TypeId}{f:FuncId}{args args':List AV}{zs:List Int}{ops:Array Oper}{s:List AV}{H:Heap}
theorem OpS.mkA(hc:RunCall P f args [] (ownAQ zs))(he:Enters P f)(ho:o.op= .call ⟨.value fo,xs,ts⟩)(ha:callArgs st fo xs=some (f,args))(hf:args.all frozenA=true)
 (hk:∀c H' S,OwnA (st.h++H') c zs S→(∀i∈S,st.h.length≤i∧i<st.h.length+H'.length)→K (.c c) (st.h++H')):OpS P o st K:=
 OpS.mkQ hc he ho ha hf fun r H' ⟨c,S,h1,h2⟩=>by
  subst h1
  exact⟨rfl,hk _ _ _ h2.shift (by rw[shiftH_length];exact shift_ge h2.lt)⟩
theorem OpS.mkGA{q:Gam}(hc:RunCall P f args [] (gamAQ q))(he:Enters P f)(ho:o.op= .call ⟨.value fo,xs,ts⟩)(ha:callArgs st fo xs=some (f,args))(hf:args.all frozenA=true)
 (hk:∀cs H' S,OwnGA (st.h++H') cs q S→(∀i∈S,st.h.length≤i∧i<st.h.length+H'.length)→K (.agg cs) (st.h++H')):OpS P o st K:=
 OpS.mkQ hc he ho ha hf fun r H' ⟨c,S,h1,h2⟩=>by
  subst h1
  exact⟨rfl,hk _ _ _ h2.shift (by rw[shiftH_length];exact shift_ge h2.lt)⟩
end
theorem OwnI.inv{H:Heap}{c:CV}{xs:List Int}{S:List Nat}(h:OwnI H c xs S)(hn:xs≠[]):∃id g lim ys,c= .own id g 0 xs.length lim∧S=[id]∧look H id g=some ⟨g,1,cl (eI .i64) (xs++ys)⟩:=by
 cases h with
 |e=>exact absurd rfl hn
 |o id g lim xs ys h=>exact⟨id,g,lim,ys,rfl,rfl,h⟩
theorem nodup4_dis{S1 S2 S3 S4:List Nat}(h:(S1++(S2++(S3++S4))).Nodup):(∀a∈S1,a∉S3∧a∉S4)∧(∀a∈S2,a∉S3∧a∉S4)∧(∀a∈S3,a∉S4)∧(S1++S2).Nodup:=by
 have h':=h
 rw[←List.append_assoc,List.nodup_append]at h
 obtain⟨h12,h34,hd⟩:=h
 rw[List.nodup_append]at h34
 refine⟨fun a ha=>⟨fun hb=> ?_,fun hb=> ?_⟩,fun a ha=>⟨fun hb=> ?_,fun hb=> ?_⟩,fun a ha hb=>h34.2.2 a ha a hb rfl,h12⟩
 · exact hd a (by simp[ha]) a (by simp[hb]) rfl
 · exact hd a (by simp[ha]) a (by simp[hb]) rfl
 · exact hd a (by simp[ha]) a (by simp[hb]) rfl
 · exact hd a (by simp[ha]) a (by simp[hb]) rfl
theorem nodup4_new{S1 S2 S3 S4 S5:List Nat}{N:Nat}(h:(S1++(S2++(S3++S4))).Nodup)(h5:S5.Nodup)(hs:∀k∈S5,k∈S4∨N≤k)(k1:∀k∈S1,k<N)(k2:∀k∈S2,k<N)(k3:∀k∈S3,k<N):(S1++(S2++(S3++S5))).Nodup:=by
 have e:∀T:List Nat,S1++(S2++(S3++T))=(S1++S2++S3)++T:=fun T=>by simp
 rw[e]at h⊢
 rw[List.nodup_append]at h⊢
 refine⟨h.1,h5,fun a ha b hb he=> ?_⟩
 subst he
 rcases hs a hb with h4|h4
 · exact h.2.2 a ha a h4 rfl
 · have:a<N:=by
    rcases List.mem_append.1 ha with ha|ha
    · rcases List.mem_append.1 ha with ha|ha
      · exact k1 a ha
      · exact k2 a ha
    · exact k3 a ha
   omega
theorem appendM_A{P:Program}{H:Heap}{t:TypeId}{ei:TI}{K:KV}(ht:sliceOf P t=some ei)(hz:ei.zero.length=ei.size∧ei.size=1∧ei.bytes=8){c:CV}{xs:List Int}{S:List Nat}(h:OwnA H c xs S)(hx:xs.length≤2^40)
 {n g:Nat} {lim:Option Nat} {v:Int} (hl:look H n g=some ⟨g,1,[.f (.int .i64 v)]⟩)
 (hk:∀c' H' S',OwnA H' c' (xs++[v]) S'→(∀k,k<H.length→k∉S→H'[k]? =H[k]?)→(∀k∈S',k∈S∨H.length≤k)→H.length≤H'.length→K (.c c') H'):
 appendM P H t (.c c) (.c (.own n g 0 1 lim)) K:=by
 obtain⟨hz1,hz2,hz3⟩:=hz
 unfold appendM
 cases h with
 |n=>
  simp only[ht,hz1,hz2,if_true,elems,hl,List.drop_zero,Nat.one_mul,appM,hz3,okP,newM]
  refine⟨⟨by omega,by omega⟩,fun g'=> ?_⟩
  refine hk _ _ [H.length] (OwnA.o H.length g' [v] (look_of (b:=⟨g',1,cl (eI .i64) [v]⟩) (by simp;rfl))) (fun k hk _=>List.getElem?_append_left hk) (by simp) (by simp)
 |o id g2 xs hl2=>
  have hlt:id<H.length:=(List.getElem?_eq_some_iff.1 (look_some hl2).1).1
  simp only[ht,hz1,hz2,if_true,elems,hl,hl2,List.drop_zero,Nat.one_mul,appM,hz3,okP,cl_length,Nat.mul_one]
  refine⟨⟨trivial,by omega,trivial,by omega,by omega⟩,fun g'=> ?_⟩
  have:=OwnA.o (H:=H.set id (some ⟨g',1,cl (eI .i64) xs++[.f (.int .i64 v)]⟩)) id g' (xs++[v]) (look_of (b:=⟨g',1,cl (eI .i64) (xs++[v])⟩) (by rw[List.getElem?_set_self hlt,cl_append];rfl))
  rw[List.length_append]at this
  exact hk _ _ [id] this (fun k _ hk=>by rw[List.getElem?_set_ne (by simp at hk;omega)]) (fun k hk=> .inl hk) (by simp)
theorem OwnI.nzc{H:Heap}{c:CV}{xs:List Int}{S:List Nat}(h:OwnI H c xs S):nzC c=c:=by cases h<;>rfl
theorem OwnR.nzc{H:Heap}{c:CV}{xs:List Rul}{S:List Nat}(h:OwnR H c xs S):nzC c=c:=by cases h<;>rfl
theorem gam_fin{H:Heap}{q q':Gam}{b b':Bool}{c1 c2 c3 c4:CV}{S1 S2 S3 S4:List Nat}(hq:q'=q)(hb:b'=b)(k1:OwnI H c1 q.task.given S1)(k2:OwnR H c2 q.task.rules S2)(k3:OwnI H c3 q.put S3)(k4:OwnA H c4 q.moves S4)
 (kn:(S1++(S2++(S3++S4))).Nodup):lessQ H (nzQ (gamWQ (withB b') q')) (.tup [.agg [.f (.int .i64 q.task.size),c1,c2,c3,c4], .c (.f (.bool b))]):=by
 subst hq hb
 refine⟨H,HLe.refl _,[.f (.int .i64 q'.task.size),c1,c2,c3,nzC c4],_, ?_,⟨⟨_,_,_,_,_,_,_,_,rfl,rfl,k1,k2,k3,k4.toI⟩,kn⟩⟩
 simp only[nzA,nz1,withB,List.map_cons,List.map_nil,k1.nzc,k2.nzc,k3.nzc]
 rfl
theorem gam_fin0{H:Heap}{q':Gam}{b b':Bool}(hq:q'=⟨⟨0,[],[]⟩,[],[]⟩)(hb:b'=b):lessQ H (nzQ (gamWQ (withB b') q')) (.tup [.agg [.f (.int .i64 0), .f .nil, .f .nil, .f .nil, .f .nil], .c (.f (.bool b))]):=by
 subst hq hb
 exact⟨H,HLe.refl _,_,[],rfl,⟨⟨_,_,_,_,[],[],[],[],rfl,rfl, .e, .e, .e, .e⟩,by simp⟩⟩
theorem Clone_neA(xs:List Int)(hx:xs.length≤2^40)(h0:xs≠[]):RunCall Try.prog 78 [ints xs] [] (ownAQ xs):=by
 have hp:0<xs.length:=List.length_pos_iff.2 h0
 refine RunCall.cw (c:=_) Try.func78 rfl (n:=8) Try.ntmps78 (rs:=[.tmp 2]) rfl ?_
 simp only[List.length_cons,List.length_nil,zA,zS,List.replicate,List.cons_append,List.nil_append]
 simp(maxSteps:=999999)(disch:=omega)only[go_sem,zA,zM,zS,zE,zL,binA_ne ti22 rfl hp]
 intro g g'
 rw[Nat.zero_add]
 exact⟨_,HLe.refl _,_,_,rfl, .o 0 g' xs (look_of (b:=⟨g',1,cl (eI .i64) xs⟩) rfl)⟩
theorem Clone_eA:RunCall Try.prog 78 [ints []] [] (ownAQ []):=by
 refine RunCall.of_bodyN (c:=_) rfl rfl (n:=8) rfl (rs:=[.tmp 2]) rfl ?_
 refine RunC.seq (RunC.region (OpS.val (v:= .c (.f .nil)) rfl ?_))
 refine RunC.seq (RunC.seq (RunC.region (OpS.val (v:=ints []) rfl (OpS.nilOpen rfl (sliceOf_of ti22 rfl ti3) rfl rfl fun b=> ?_))))
 refine RunC.cond (b:=b) rfl (fun hb=> ?_) (fun hb=> ?_)
 · refine RunC.seq (RunC.region (OpS.val (v:= .c (.f .nil)) rfl ?_))
   refine RunC.ret ?_
   exact⟨.inr rfl,_,_,rfl,HLe.refl _,_,_,rfl, .n⟩
 · refine RunC.skip ?_
   refine(cw_sound _ _ _ (doneK Try.prog [.tmp 2] (ownAQ [])) ?_).mono fun e st ⟨h1,v,h2,H',h3,h4⟩=>⟨h1,v,H',h2,h3,h4⟩
   simp only[List.length_cons,List.length_nil,zA,zS,List.replicate,List.cons_append,List.nil_append]
   simp(maxSteps:=999999)(disch:=omega)only[go_sem,zA,zM,zS,zE,zL]
   intro g
   show lessQ [some ⟨g,1,[]⟩] (ownAQ []) (.c (.own 0 g 0 0 none))
   exact⟨_,HLe.refl _,_,_,rfl, .o 0 g [] (look_of (b:=⟨g,1,[]⟩) rfl)⟩
theorem Clone_ownA(xs:List Int)(hx:xs.length≤2^40):RunCall Try.prog 78 [ints xs] [] (ownAQ xs):=by
 by_cases h:xs=[]
 · subst h;exact Clone_eA
 · exact Clone_neA xs hx h
theorem copyGame_ownA(q:Gam)(hx:smG q):RunCall Try.prog 61 [aG q] [] (gamAQ q):=by
 refine RunCall.cw (c:=_) Try.func61 rfl (n:=13) Try.ntmps61 (rs:=[.cell 2 34]) rfl ?_
 simp only[List.length_cons,List.length_nil,zA,zS,List.replicate,List.cons_append,List.nil_append]
 simp(maxSteps:=999999)(disch:=omega)only[go_sem,zA,zM,zS,zE,zL]
 intro g1 g2
 refine drawP_lF [0,1,3,4,6,7,2,5] [] none [8,9,10] [] foll (by kernel_rfl) ?_
 simp(maxSteps:=999999)(disch:=omega)only[go_sem,Nat.reduceBEq,Bool.true_or,zA,zM,zS,zE,zL]
 refine Loud.mkP (copyPuzzle_puz q.task hx.1) (⟨_,Try.func56,rfl,rfl⟩:Enters Try.prog 56) rfl rfl rfl ?_
 rintro _ H1 _ ⟨⟨c1,c2,S1,S2,rfl,rfl,k1,k2⟩,kn⟩ hS
 simp(maxSteps:=999999)(disch:=omega)only[go_sem,zA,zM,zS,zE,zL]
 refine Loud.mkI (Clone_own q.put hx.2.1) (⟨_,Try.func78,rfl,rfl⟩:Enters Try.prog 78) rfl rfl rfl ?_
 intro c3 H3 S3 h3 hS3
 simp(maxSteps:=999999)(disch:=omega)only[go_sem,zA,zM,zS,zE,zL]
 refine OpS.mkA (Clone_ownA q.moves hx.2.2) (⟨_,Try.func78,rfl,rfl⟩:Enters Try.prog 78) rfl rfl rfl ?_
 intro c4 H4 S4 h4 hS4
 simp(maxSteps:=999999)(disch:=omega)only[go_sem,zA,zM,zS,zE,zL]
 simp only[List.length_append,List.length_cons,List.length_nil]at hS hS3 hS4
 refine⟨_,HLe.refl _,_,S1++(S2++(S3++S4)),rfl,⟨⟨_,_,_,_,S1,S2,S3,S4,rfl,rfl,k1.same fun k hk=> ?_,k2.same fun k hk=> ?_,h3.same fun k hk=> ?_,h4.same fun k hk=> ?_⟩,nodup4 (n1:=H1.length+2) (n2:=H1.length+H3.length+2) kn h3.nd h4.nd (fun k hk=> ?_) (fun k hk=> ?_) (fun k hk=> ?_) (by omega)⟩⟩
 · have:=hS k (by simp[hk])
   simp only[List.cons_append,List.nil_append]
   rw[cons2 (by omega),cons2 (by omega),List.getElem?_append_left (by simp;omega),List.getElem?_append_left (by omega)]
 · have:=hS k (by simp[hk])
   simp only[List.cons_append,List.nil_append]
   rw[cons2 (by omega),cons2 (by omega),List.getElem?_append_left (by simp;omega),List.getElem?_append_left (by omega)]
 · have:=hS3 k hk
   simp only[List.cons_append,List.nil_append]
   rw[cons2 (by omega),cons2 (by omega),List.getElem?_append_left (by simp;omega)]
 · have:=hS4 k hk
   simp only[List.cons_append,List.nil_append]
   rw[cons2 (by omega),cons2 (by omega)]
 · have:=hS k hk;omega
 · have:=hS3 k hk;omega
 · have:=hS4 k hk;omega
end Go.Lg
