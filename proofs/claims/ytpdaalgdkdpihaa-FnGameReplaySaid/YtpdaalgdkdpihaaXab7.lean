/- GpK, cut to what is needed. -/
import Derived.Test.YtpdaalgdkdpihaaXab6
import Derived.Test.YtpdaalgdkdpihaaXab4
open Nat renaming reduceAdd→zA,reduceMul→zM,reduceSub→zS,reduceEqDiff→zE,reduceLeDiff→zL
set_option linter.unusedSimpArgs false
set_option linter.unusedVariables false
set_option maxRecDepth 100000
namespace Go.Lg
open Go.Proofs
theorem len_le_of_sub:∀(a b:List Int),a.Nodup→(∀x∈a,x∈b)→a.length≤b.length
 |[],b,_,_=>by simp
 |x::a,b,hn,hs=>by
  obtain⟨h1,h2⟩:=List.nodup_cons.1 hn
  have hx:x∈b:=hs x (by simp)
  have:=len_le_of_sub a (b.erase x) h2 fun y hy=>by
   have hne:y≠x:=fun h=>h1 (h▸hy)
   exact(List.mem_erase_of_ne hne).2 (hs y (by simp[hy]))
  have hl:=List.length_erase_of_mem hx
  have hp:=List.length_pos_of_mem hx
  simp only[List.length_cons]
  omega
theorem sub_full(a b:List Int)(hn:a.Nodup)(hs:∀x∈a,x∈b)(hl:b.length≤a.length):b.Nodup∧∀x∈b,x∈a:=by
 have key:∀x∈b,x∈a:=by
  intro x hx
  refine Classical.byContradiction fun hxa=> ?_
  have:=len_le_of_sub a (b.erase x) hn fun y hy=>by
   have hne:y≠x:=fun h=>hxa (h▸hy)
   exact(List.mem_erase_of_ne hne).2 (hs y hy)
  have hl2:=List.length_erase_of_mem hx
  have hp:=List.length_pos_of_mem hx
  omega
 refine⟨?_,key⟩
 have gen:∀(b a:List Int),a.Nodup→(∀x∈a,x∈b)→b.length≤a.length→(∀x∈b,x∈a)→b.Nodup:=by
  intro b
  induction b with
  |nil=>intros;exact List.nodup_nil
  |cons y b ih=>
   intro a hn hs hl hk
   have hy:y∈a:=hk y (by simp)
   have hyb:y∉b:=fun hyb=>by
    have:=len_le_of_sub a b hn fun x hx=>by
     rcases List.mem_cons.1 (hs x hx)with rfl|h
     · exact hyb
     · exact h
    simp only[List.length_cons]at hl
    omega
   refine List.nodup_cons.2 ⟨hyb,ih (a.erase y) (hn.erase y) (fun x hx=> ?_) ?_ fun x hx=> ?_⟩
   · have hx':=(hn.mem_erase_iff).1 hx
     rcases List.mem_cons.1 (hs x hx'.2)with h|h
     · exact absurd h hx'.1
     · exact h
   · have:=List.length_erase_of_mem hy
     simp only[List.length_cons]at hl
     omega
   · exact(hn.mem_erase_iff).2 ⟨fun h=>hyb (h▸hx),hk x (by simp[hx])⟩
 exact gen b a hn hs hl key
def filledAt(xs:List Int):List Int:=((List.range xs.length).filter fun i:Nat=>decide (0<nth xs i)).map fun i:Nat=>(i:Int)
theorem filledAt_nodup(xs:List Int):(filledAt xs).Nodup:=by
 unfold filledAt
 refine List.pairwise_map.2 (List.Pairwise.imp ?_ (List.nodup_range.filter _))
 intro a b h h2
 exact h (by omega)
theorem mem_filledAt{xs:List Int}{c:Int}:c∈filledAt xs↔0≤c∧c<xs.length∧0<nth xs c:=by
 simp only[filledAt,List.mem_map,List.mem_filter,List.mem_range,decide_eq_true_eq]
 constructor
 · rintro⟨i,⟨h1,h2⟩,rfl⟩;exact⟨by omega,by omega,h2⟩
 · rintro⟨h1,h2,h3⟩;exact⟨c.toNat,⟨by omega,by rw[show((c.toNat:Nat):Int)=c by omega];exact h3⟩,by omega⟩
theorem filledAt_length(xs:List Int):(filledAt xs).length=xs.countP fun v=>decide (0<v):=by
 have h:∀n,n≤xs.length→((List.range n).filter fun i:Nat=>decide (0<nth xs i)).length=(xs.take n).countP fun v=>decide (0<v):=by
  intro n
  induction n with
  |zero=>intro _;rfl
  |succ n ih=>
   intro hn
   rw[List.range_succ,List.filter_append,List.length_append,ih (by omega),countP_take (by omega)]
   simp only[List.filter_cons,List.filter_nil,decide_eq_true_eq]
   split<;>simp
 simp only[filledAt,List.length_map]
 rw[h xs.length (Nat.le_refl _),List.take_length]
def gameOk(g:Gam):Prop:=g.moves.Nodup∧(∀c∈g.moves,c∈filledAt g.put)∧∀c∈filledAt g.put,c∈g.moves∧nth g.task.given c≤0
instance(g:Gam):Decidable (gameOk g):=by unfold gameOk;infer_instance
def gameValid(g:Gam):Bool:=puzzleValid g.task&&(gridValid g.put g.task.size&&(decide (g.moves.length≤40)&&decide (gameOk g)))
theorem puzzleValid_grid{p:Puz}(h:puzzleValid p=true):gridValid p.given p.size=true:=by
 simp only[puzzleValid,Bool.and_eq_true]at h;exact h.1
theorem gameOk_num{g:Gam}:gameOk g↔g.moves.length=g.put.countP (fun v=>decide (0<v))∧∀c∈filledAt g.put,c∈g.moves∧nth g.task.given c≤0:=by
 rw[←filledAt_length]
 constructor
 · rintro⟨h1,h2,h3⟩
   refine⟨Nat.le_antisymm (len_le_of_sub _ _ h1 h2) (len_le_of_sub _ _ (filledAt_nodup _) fun c hc=>(h3 c hc).1),h3⟩
 · rintro⟨h1,h2⟩
   obtain⟨h3,h4⟩:=sub_full (filledAt g.put) g.moves (filledAt_nodup _) (fun c hc=>(h2 c hc).1) (by omega)
   exact⟨h3,h4,h2⟩
theorem GameValid_run(q:Gam)(hx:smG q):Reads Try.prog 38 [aG q] (bool (gameValid q)):=by
 obtain⟨hx1,hx2,hx3⟩:=hx
 refine RunCall.cw (c:=_) Try.func38 rfl (n:=63) Try.ntmps38 (rs:=[.tmp 2]) rfl ?_
 simp only[List.length_cons,List.length_nil,zA,zS,List.replicate,List.cons_append,List.nil_append]
 simp(maxSteps:=999999)(disch:=omega)only[go_sem,zA,zM,zS,zE,zL]
 intro g
 refine drawP_q foll (by kernel_rfl) ?_
 simp(maxSteps:=999999)(disch:=omega)only[go_sem,Nat.reduceBEq,Bool.true_or,zA,zM,zS,zE,zL]
 refine quietW.rd (PuzzleValid_run q.task hx1) (⟨_,Try.func55,rfl,rfl⟩:Enters Try.prog 55) rfl rfl rfl rfl ?_
 simp(maxSteps:=999999)(disch:=omega)only[go_sem,zA,zM,zS,zE,zL]
 ((with_reducible first|refine guardK_dec ?_ ?_|refine guardK_ndec ?_ ?_|refine guardK_nb ?_ ?_|refine guardK_split ?_ ?_|refine guardQ_dec ?_ ?_|refine guardL_dec ?_ ?_|refine guardQ_ndec ?_ ?_|refine guardL_ndec ?_ ?_|refine guardQ_nb ?_ ?_|refine guardL_nb ?_ ?_|refine guardQ_split ?_ ?_|refine guardL_split ?_ ?_)<;>intro hv<;>simp(maxSteps:=999999)(disch:=omega)only[go_sem,zA,zM,zS,zE,zL,hv])
 rotate_left
 · simp[gameValid,hv]
 refine quietW.rd (GridValid_run q.put q.task.size (by omega)) (⟨_,Try.func69,rfl,rfl⟩:Enters Try.prog 69) rfl rfl rfl rfl ?_
 simp(maxSteps:=999999)(disch:=omega)only[go_sem,zA,zM,zS,zE,zL]
 ((with_reducible first|refine guardK_dec ?_ ?_|refine guardK_ndec ?_ ?_|refine guardK_nb ?_ ?_|refine guardK_split ?_ ?_|refine guardQ_dec ?_ ?_|refine guardL_dec ?_ ?_|refine guardQ_ndec ?_ ?_|refine guardL_ndec ?_ ?_|refine guardQ_nb ?_ ?_|refine guardL_nb ?_ ?_|refine guardQ_split ?_ ?_|refine guardL_split ?_ ?_)<;>intro hv2<;>simp(maxSteps:=999999)(disch:=omega)only[go_sem,zA,zM,zS,zE,zL,hv2])
 rotate_left
 · simp[gameValid,hv2]
 ((with_reducible first|refine guardK_dec ?_ ?_|refine guardK_ndec ?_ ?_|refine guardK_nb ?_ ?_|refine guardK_split ?_ ?_|refine guardQ_dec ?_ ?_|refine guardL_dec ?_ ?_|refine guardQ_ndec ?_ ?_|refine guardL_ndec ?_ ?_|refine guardQ_nb ?_ ?_|refine guardL_nb ?_ ?_|refine guardQ_split ?_ ?_|refine guardL_split ?_ ?_)<;>intro h40<;>simp(maxSteps:=999999)(disch:=omega)only[go_sem,zA,zM,zS,zE,zL,h40])
 · symm;simp only[gameValid,hv,hv2,Bool.true_and,Bool.and_eq_false_iff,decide_eq_false_iff_not];exact .inl (by omega)
 refine quietW.rd (GridFilled_run q.put q.task.size hx2) (⟨_,Try.func43,rfl,rfl⟩:Enters Try.prog 43) rfl rfl rfl rfl ?_
 simp(maxSteps:=999999)(disch:=omega)only[go_sem,zA,zM,zS,zE,zL]
 have hgf:gridFilled q.put q.task.size=(q.put.countP (fun v=>decide (0<v)):Nat):=by simp[gridFilled,hv2]
 have hval:gameValid q=decide (gameOk q):=by simp only[gameValid,hv,hv2,Bool.true_and];rw[decide_eq_true (show q.moves.length≤40 by omega),Bool.true_and]
 rw[hval,hgf]
 ((first|(with_reducible first|refine condK_dec ?_ ?_|refine condK_ndec ?_ ?_|refine condK_nb ?_ ?_)|refine condK_b ?_ ?_)<;>intro hnum)
 rotate_left
 · simp(maxSteps:=999999)(disch:=omega)only[go_sem,zA,zM,zS,zE,zL]
   symm;rw[decide_eq_false_iff_not,gameOk_num];rintro⟨h1,_⟩;omega
 simp(maxSteps:=999999)(disch:=omega)only[go_sem,zA,zM,zS,zE,zL]
 have hlen:q.put.length=q.task.given.length:=by
  have h1:=(gridValid_bound hv2).2.2.1
  have h2:=(gridValid_bound (puzzleValid_grid hv)).2.2.1
  omega
 refine loop_rule (fun i:Nat=>q.put.length -i) (fun i=>i≤q.put.length∧∀j:Nat,j<i→0<nth q.put j→(j:Int)∈q.moves∧nth q.task.given j≤0) (fun i=>[.a, .k, .a, .a, .a, .a, .a, .a, .a, .a, .a, .a, .a, .a, .a, .a, .a, .a, .a, .a, .a, .a, .a, .a, .a, .a, .a, .a, .a, .a, .a, .a, .a, .a, .a, .a, .a, .k, .k, .p (int i), .a, .a, .a, .a, .a, .a, .a, .a, .a, .a, .a, .a, .a, .a, .a, .a, .a, .a, .a, .a, .a, .a, .a]) (fun _=>[some ⟨g,1,cG q⟩]) 0
  ⟨Nat.zero_le _,fun j hj=>absurd hj (Nat.not_lt_zero _)⟩ (by simp(maxSteps:=999999)(disch:=omega)only[go_sem,zA,zM,zS,zE,zL];rfl) (HLe.refl _) ?_
 rintro i ⟨hi,hall⟩
 simp(maxSteps:=999999)(disch:=omega)only[go_sem,zA,zM,zS,zE,zL]
 ((first|(with_reducible first|refine condK_dec ?_ ?_|refine condK_ndec ?_ ?_|refine condK_nb ?_ ?_)|refine condK_b ?_ ?_)<;>intro h)
 · have h:i<q.put.length:=by omega
   have no:(0<nth q.put i∧¬((i:Int)∈q.moves∧nth q.task.given i≤0))→false=decide (gameOk q):=fun h1=>by
    symm;rw[decide_eq_false_iff_not]
    rintro⟨_,_,h2⟩
    exact h1.2 (h2 i (mem_filledAt.2 ⟨by omega,by omega,h1.1⟩))
   simp(maxSteps:=999999)(disch:=omega)only[go_sem,zA,zM,zS,zE,zL]
   ((with_reducible first|refine guardK_dec ?_ ?_|refine guardK_ndec ?_ ?_|refine guardK_nb ?_ ?_|refine guardK_split ?_ ?_|refine guardQ_dec ?_ ?_|refine guardL_dec ?_ ?_|refine guardQ_ndec ?_ ?_|refine guardL_ndec ?_ ?_|refine guardQ_nb ?_ ?_|refine guardL_nb ?_ ?_|refine guardQ_split ?_ ?_|refine guardL_split ?_ ?_)<;>intro h1<;>simp(maxSteps:=999999)(disch:=omega)only[go_sem,zA,zM,zS,zE,zL,h1])
   rotate_left
   · exact⟨i+1,⟨⟨h,all_step hall fun h2=>absurd h2 h1⟩,by omega⟩,by omega,HLe.refl _⟩
   ((with_reducible first|refine guardK_dec ?_ ?_|refine guardK_ndec ?_ ?_|refine guardK_nb ?_ ?_|refine guardK_split ?_ ?_|refine guardQ_dec ?_ ?_|refine guardL_dec ?_ ?_|refine guardQ_ndec ?_ ?_|refine guardL_ndec ?_ ?_|refine guardQ_nb ?_ ?_|refine guardL_nb ?_ ?_|refine guardQ_split ?_ ?_|refine guardL_split ?_ ?_)<;>intro h2<;>simp(maxSteps:=999999)(disch:=omega)only[go_sem,zA,zM,zS,zE,zL,h2])
   · exact no ⟨h1,fun h3=>by omega⟩
   first|refine OpS.rd (Contains_run q.moves i hx3) (⟨_,Try.func70,rfl,rfl⟩:Enters Try.prog 70) rfl rfl rfl rfl ?_|refine Loud.rd (Contains_run q.moves i hx3) (⟨_,Try.func70,rfl,rfl⟩:Enters Try.prog 70) rfl rfl rfl rfl ?_
   simp(maxSteps:=999999)(disch:=omega)only[go_sem,zA,zM,zS,zE,zL]
   ((first|(with_reducible first|refine condK_dec ?_ ?_|refine condK_ndec ?_ ?_|refine condK_nb ?_ ?_)|refine condK_b ?_ ?_)<;>intro h3)
   · simp(maxSteps:=999999)(disch:=omega)only[go_sem,zA,zM,zS,zE,zL]
     exact⟨i+1,⟨⟨h,all_step hall fun _=>⟨h3,by omega⟩⟩,by omega⟩,by omega,HLe.refl _⟩
   · simp(maxSteps:=999999)(disch:=omega)only[go_sem,zA,zM,zS,zE,zL]
     exact no ⟨h1,fun h4=>h3 h4.1⟩
 · simp(maxSteps:=999999)(disch:=omega)only[go_sem,zA,zM,zS,zE,zL]
   symm;rw[decide_eq_true_eq,gameOk_num]
   refine⟨by omega,fun c hc=> ?_⟩
   obtain⟨h1,h2,h3⟩:=mem_filledAt.1 hc
   have:=hall c.toNat (by omega)
   rw[show((c.toNat:Nat):Int)=c by omega]at this
   exact this h3
def eBo(b:Bool):List FV:=[.bool b]
instance:HSz eBo 1:=⟨fun _=>rfl⟩
theorem eBo_0(b:Bool)(d:FV):(eBo b).getD 0 d= .bool b:=rfl
theorem zerosBo(n:Nat):zerosL (n*1) [.f (.bool false)]=cl eBo (List.replicate n false):=by
 simp only[zerosL,Nat.mul_one,List.length_singleton,Nat.mod_one]
 induction n with
 |zero=>rfl
 |succ n ih=>rw[List.range_succ,List.map_append,ih,List.replicate_succ',cl_append];rfl
theorem setBo{xs:List Bool}{e:Int}{v:Bool}(h:0≤e∧e<(xs.length:Int)):setRange (cl eBo xs) (0+e.toNat*1) [.f (.bool v)]=cl eBo (xs.set e.toNat v):=
 setRange_cl (E:=eBo) (by omega)
attribute [go_sem] eBo_0 zerosBo setBo
theorem sGameValid_run(q:Gam)(hx:smG q):Reads Try.prog 41 [aG q] (bool (gameValid q)):=by
 obtain⟨hx1,hx2,hx3⟩:=hx
 refine RunCall.cw (c:=_) Try.func41 rfl (n:=94) Try.ntmps41 (rs:=[.tmp 2]) rfl ?_
 simp only[List.length_cons,List.length_nil,zA,zS,List.replicate,List.cons_append,List.nil_append]
 simp(maxSteps:=999999)(disch:=omega)only[go_sem,zA,zM,zS,zE,zL]
 intro g
 first|refine OpS.rd (sPuzzleValid_run q.task hx1) (⟨_,Try.func36,rfl,rfl⟩:Enters Try.prog 36) rfl rfl rfl rfl ?_|refine Loud.rd (sPuzzleValid_run q.task hx1) (⟨_,Try.func36,rfl,rfl⟩:Enters Try.prog 36) rfl rfl rfl rfl ?_
 simp(maxSteps:=999999)(disch:=omega)only[go_sem,zA,zM,zS,zE,zL]
 ((with_reducible first|refine guardK_dec ?_ ?_|refine guardK_ndec ?_ ?_|refine guardK_nb ?_ ?_|refine guardK_split ?_ ?_|refine guardQ_dec ?_ ?_|refine guardL_dec ?_ ?_|refine guardQ_ndec ?_ ?_|refine guardL_ndec ?_ ?_|refine guardQ_nb ?_ ?_|refine guardL_nb ?_ ?_|refine guardQ_split ?_ ?_|refine guardL_split ?_ ?_)<;>intro hv<;>simp(maxSteps:=999999)(disch:=omega)only[go_sem,zA,zM,zS,zE,zL,hv])
 rotate_left
 · simp[gameValid,hv]
 first|refine OpS.rd (sGridValid_run q.put q.task.size (by omega)) (⟨_,Try.func68,rfl,rfl⟩:Enters Try.prog 68) rfl rfl rfl rfl ?_|refine Loud.rd (sGridValid_run q.put q.task.size (by omega)) (⟨_,Try.func68,rfl,rfl⟩:Enters Try.prog 68) rfl rfl rfl rfl ?_
 simp(maxSteps:=999999)(disch:=omega)only[go_sem,zA,zM,zS,zE,zL]
 ((with_reducible first|refine guardK_dec ?_ ?_|refine guardK_ndec ?_ ?_|refine guardK_nb ?_ ?_|refine guardK_split ?_ ?_|refine guardQ_dec ?_ ?_|refine guardL_dec ?_ ?_|refine guardQ_ndec ?_ ?_|refine guardL_ndec ?_ ?_|refine guardQ_nb ?_ ?_|refine guardL_nb ?_ ?_|refine guardQ_split ?_ ?_|refine guardL_split ?_ ?_)<;>intro hv2<;>simp(maxSteps:=999999)(disch:=omega)only[go_sem,zA,zM,zS,zE,zL,hv2])
 rotate_left
 · simp[gameValid,hv2]
 ((first|(with_reducible first|refine condK_dec ?_ ?_|refine condK_ndec ?_ ?_|refine condK_nb ?_ ?_)|refine condK_b ?_ ?_)<;>intro h40)
 · simp(maxSteps:=999999)(disch:=omega)only[go_sem,zA,zM,zS,zE,zL]
   symm;simp only[gameValid,hv,hv2,Bool.true_and,Bool.and_eq_false_iff,decide_eq_false_iff_not];exact .inl (by omega)
 have hval:gameValid q=decide (gameOk q):=by simp only[gameValid,hv,hv2,Bool.true_and];rw[decide_eq_true (show q.moves.length≤40 by omega),Bool.true_and]
 rw[hval]
 simp(maxSteps:=999999)(disch:=omega)only[go_sem,zA,zM,zS,zE,zL]
 intro g2
 have hlen:q.put.length=q.task.given.length:=by
  have h1:=(gridValid_bound hv2).2.2.1
  have h2:=(gridValid_bound (puzzleValid_grid hv)).2.2.1
  omega
 have hneg:∀j:Nat,j<q.put.length→0≤nth q.put j:=fun j hj=>((gridValid_bound hv2).2.2.2.2 j hj).1
 refine loop_rule2 (fun(i:Nat) (ys:List Bool)=>q.moves.length -i) (fun i ys=>i≤q.moves.length∧ys.length=q.put.length∧(q.moves.take i).Nodup∧(∀c∈q.moves.take i,c∈filledAt q.put)∧∀j:Nat,j<ys.length→(nth ys j=true↔(j:Int)∈q.moves.take i)) (fun i _=>[.a, .k, .a, .k, .p (int i), .a, .a, .a, .a, .a, .a, .a, .a, .a, .a, .a, .a, .a, .a, .a, .a, .a, .a, .a, .a, .a, .a, .a, .a, .a, .a, .a, .a, .a, .a, .a, .a, .a, .a, .a, .a, .a, .a, .a, .a, .a, .a, .a, .a, .a, .a, .a, .a, .a, .a, .a, .a, .a, .a, .a, .a, .a, .a, .a, .a, .a, .a, .a, .a, .a, .a, .a, .a, .a, .a, .a, .a, .a, .a, .a, .a, .a, .a, .a, .a, .a, .a, .a, .a, .a, .a, .a, .a, .a]) (fun _ ys=>[some ⟨g,1,cG q⟩,some ⟨g2,1,cl eBo ys⟩]) 0 (List.replicate q.put.length false)
  ⟨Nat.zero_le _,List.length_replicate,by simp,by simp,fun j hj=>by rw[nth_eq (by omega)];simp⟩ (by simp(maxSteps:=999999)(disch:=omega)only[go_sem,zA,zM,zS,zE,zL];rfl) (HLe.refl _) ?_
 rintro i ys ⟨hi,hl,hnd,hin,hys⟩
 simp(maxSteps:=999999)(disch:=omega)only[go_sem,zA,zM,zS,zE,zL]
 ((first|(with_reducible first|refine condK_dec ?_ ?_|refine condK_ndec ?_ ?_|refine condK_nb ?_ ?_)|refine condK_b ?_ ?_)<;>intro h)
 · have h:i<q.moves.length:=by omega
   have htk:=take_succ_nth h
   simp(maxSteps:=999999)(disch:=omega)only[go_sem,zA,zM,zS,zE,zL]
   have no:¬(nth q.moves i∈filledAt q.put∧nth q.moves i∉q.moves.take i)→false=decide (gameOk q):=fun h1=>by
    symm;rw[decide_eq_false_iff_not]
    rintro⟨h2,h3,_⟩
    refine h1 ⟨h3 _ (nth_mem h),fun h4=> ?_⟩
    have h5:=List.Nodup.sublist (List.take_sublist (i+1) q.moves) h2
    rw[htk,List.nodup_append]at h5
    exact h5.2.2 _ h4 _ (by simp) rfl
   first|refine OpS.rd (l1In_run _ _ _) (⟨_,Try.func63,rfl,rfl⟩:Enters Try.prog 63) rfl rfl rfl rfl ?_|refine Loud.rd (l1In_run _ _ _) (⟨_,Try.func63,rfl,rfl⟩:Enters Try.prog 63) rfl rfl rfl rfl ?_
   simp(maxSteps:=999999)(disch:=omega)only[go_sem,zA,zM,zS,zE,zL]
   ((with_reducible first|refine guardK_dec ?_ ?_|refine guardK_ndec ?_ ?_|refine guardK_nb ?_ ?_|refine guardK_split ?_ ?_|refine guardQ_dec ?_ ?_|refine guardL_dec ?_ ?_|refine guardQ_ndec ?_ ?_|refine guardL_ndec ?_ ?_|refine guardQ_nb ?_ ?_|refine guardL_nb ?_ ?_|refine guardQ_split ?_ ?_|refine guardL_split ?_ ?_)<;>intro h1<;>simp(maxSteps:=999999)(disch:=omega)only[go_sem,zA,zM,zS,zE,zL,h1])
   rotate_left
   · exact no fun h2=>by have:=mem_filledAt.1 h2.1;omega
   have hy:=hys (nth q.moves i).toNat (by omega)
   rw[show(((nth q.moves i).toNat:Nat):Int)=nth q.moves i by omega]at hy
   ((with_reducible first|refine guardK_dec ?_ ?_|refine guardK_ndec ?_ ?_|refine guardK_nb ?_ ?_|refine guardK_split ?_ ?_|refine guardQ_dec ?_ ?_|refine guardL_dec ?_ ?_|refine guardQ_ndec ?_ ?_|refine guardL_ndec ?_ ?_|refine guardQ_nb ?_ ?_|refine guardL_nb ?_ ?_|refine guardQ_split ?_ ?_|refine guardL_split ?_ ?_)<;>intro h2<;>simp(maxSteps:=999999)(disch:=omega)only[go_sem,zA,zM,zS,zE,zL,h2])
   · exact no fun h3=>h3.2 (hy.1 h2)
   have hm:nth q.moves i∉q.moves.take i:=fun hm=>by rw[hy.2 hm]at h2;cases h2
   have hg:=hneg (nth q.moves i).toNat (by omega)
   rw[show(((nth q.moves i).toNat:Nat):Int)=nth q.moves i by omega]at hg
   ((first|(with_reducible first|refine condK_dec ?_ ?_|refine condK_ndec ?_ ?_|refine condK_nb ?_ ?_)|refine condK_b ?_ ?_)<;>intro h3)
   · simp(maxSteps:=999999)(disch:=omega)only[go_sem,zA,zM,zS,zE,zL]
     exact no fun h4=>by have:=mem_filledAt.1 h4.1;omega
   have hf:nth q.moves i∈filledAt q.put:=mem_filledAt.2 ⟨by omega,by omega,by omega⟩
   simp(maxSteps:=999999)(disch:=omega)only[go_sem,zA,zM,zS,zE,zL]
   refine⟨i+1,ys.set (nth q.moves i).toNat true,⟨⟨h,by simp[hl], ?_, ?_,fun j hj=> ?_⟩,by omega⟩,by omega,HLe.refl _⟩
   · rw[htk,List.nodup_append]
     refine⟨hnd,by simp,fun a ha b hb he=>hm ?_⟩
     have:b=nth q.moves i:=by simpa using hb
     rw[←this,←he];exact ha
   · rw[htk];intro c hc
     rcases List.mem_append.1 hc with hc|hc
     · exact hin c hc
     · have:c=nth q.moves i:=by simpa using hc
       subst this;exact hf
   · simp only[List.length_set]at hj
     rw[nth_set _ _ _ _ (by omega) (by omega),htk,List.mem_append]
     split
     · rename_i he
       simp;right;omega
     · rename_i he
       rw[hys j hj]
       constructor
       · exact .inl
       · rintro(h5|h5)
         · exact h5
         · simp at h5;omega
 · have hmi:q.moves.take i=q.moves:=List.take_of_length_le (by omega)
   rw[hmi]at hnd hin hys
   simp(maxSteps:=999999)(disch:=omega)only[go_sem,zA,zM,zS,zE,zL]
   refine loop_rule (fun i:Nat=>q.put.length -i) (fun i=>i≤q.put.length∧∀j:Nat,j<i→0<nth q.put j→(j:Int)∈q.moves∧nth q.task.given j≤0) (fun i=>[.a, .k, .a, .k, .a, .a, .p (int i), .a, .a, .a, .a, .a, .a, .a, .a, .a, .a, .a, .a, .a, .a, .a, .a, .a, .a, .a, .a, .a, .a, .a, .a, .a, .a, .a, .a, .a, .a, .a, .a, .a, .a, .a, .a, .a, .a, .a, .a, .a, .a, .a, .a, .a, .a, .a, .a, .a, .a, .a, .a, .a, .a, .a, .a, .a, .a, .a, .a, .a, .a, .a, .a, .a, .a, .a, .a, .a, .a, .a, .a, .a, .a, .a, .a, .a, .a, .a, .a, .a, .a, .a, .a, .a, .a, .a]) (fun _=>[some ⟨g,1,cG q⟩,some ⟨g2,1,cl eBo ys⟩]) 0
    ⟨Nat.zero_le _,fun j hj=>absurd hj (Nat.not_lt_zero _)⟩ (by simp(maxSteps:=999999)(disch:=omega)only[go_sem,zA,zM,zS,zE,zL];rfl) (HLe.refl _) ?_
   rintro k ⟨hk,hall⟩
   simp(maxSteps:=999999)(disch:=omega)only[go_sem,zA,zM,zS,zE,zL]
   ((first|(with_reducible first|refine condK_dec ?_ ?_|refine condK_ndec ?_ ?_|refine condK_nb ?_ ?_)|refine condK_b ?_ ?_)<;>intro h4)
   · have h4:k<q.put.length:=by omega
     have no:(0<nth q.put k∧¬((k:Int)∈q.moves∧nth q.task.given k≤0))→false=decide (gameOk q):=fun h1=>by
      symm;rw[decide_eq_false_iff_not]
      rintro⟨_,_,h2⟩
      exact h1.2 (h2 k (mem_filledAt.2 ⟨by omega,by omega,h1.1⟩))
     have hy:=hys k (by omega)
     simp(maxSteps:=999999)(disch:=omega)only[go_sem,zA,zM,zS,zE,zL]
     ((with_reducible first|refine guardK_dec ?_ ?_|refine guardK_ndec ?_ ?_|refine guardK_nb ?_ ?_|refine guardK_split ?_ ?_|refine guardQ_dec ?_ ?_|refine guardL_dec ?_ ?_|refine guardQ_ndec ?_ ?_|refine guardL_ndec ?_ ?_|refine guardQ_nb ?_ ?_|refine guardL_nb ?_ ?_|refine guardQ_split ?_ ?_|refine guardL_split ?_ ?_)<;>intro h1<;>simp(maxSteps:=999999)(disch:=omega)only[go_sem,zA,zM,zS,zE,zL,h1])
     rotate_left
     · exact⟨k+1,⟨⟨h4,all_step hall fun h2=>absurd h2 h1⟩,by omega⟩,by omega,HLe.refl _⟩
     ((with_reducible first|refine guardK_dec ?_ ?_|refine guardK_ndec ?_ ?_|refine guardK_nb ?_ ?_|refine guardK_split ?_ ?_|refine guardQ_dec ?_ ?_|refine guardL_dec ?_ ?_|refine guardQ_ndec ?_ ?_|refine guardL_ndec ?_ ?_|refine guardQ_nb ?_ ?_|refine guardL_nb ?_ ?_|refine guardQ_split ?_ ?_|refine guardL_split ?_ ?_)<;>intro h2<;>simp(maxSteps:=999999)(disch:=omega)only[go_sem,zA,zM,zS,zE,zL,h2])
     rotate_left
     · exact no ⟨h1,fun h3=>by rw[hy.2 h3.1]at h2;cases h2⟩
     ((first|(with_reducible first|refine condK_dec ?_ ?_|refine condK_ndec ?_ ?_|refine condK_nb ?_ ?_)|refine condK_b ?_ ?_)<;>intro h3)
     · simp(maxSteps:=999999)(disch:=omega)only[go_sem,zA,zM,zS,zE,zL]
       exact no ⟨h1,fun h5=>by omega⟩
     · simp(maxSteps:=999999)(disch:=omega)only[go_sem,zA,zM,zS,zE,zL]
       exact⟨k+1,⟨⟨h4,all_step hall fun _=>⟨hy.1 h2,by omega⟩⟩,by omega⟩,by omega,HLe.refl _⟩
   · simp(maxSteps:=999999)(disch:=omega)only[go_sem,zA,zM,zS,zE,zL]
     symm;rw[decide_eq_true_eq]
     refine⟨hnd,hin,fun c hc=> ?_⟩
     obtain⟨h1,h2,h3⟩:=mem_filledAt.1 hc
     have:=hall c.toNat (by omega)
     rw[show((c.toNat:Nat):Int)=c by omega]at this
     exact this h3
end Go.Lg
