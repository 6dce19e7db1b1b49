/- GpI2, GpDF, GpDG, GpDH, GpDJ, GpGB, GpGC, GpGD, GpGE, GpFA, cut to what is needed. -/
import Derived.Test.YtiahmfdabpafoaaDoorIab6
import Derived.Test.YtiahmfdabpafoaaDoorIab8
import Derived.Test.YtiahmfdabpafoaaDoorIab2
import Derived.Test.YtiahmfdabpafoaaDoorIab4
open Nat renaming reduceAdd→zA,reduceMul→zM,reduceSub→zS,reduceEqDiff→zE,reduceLeDiff→zL
set_option linter.unusedSimpArgs false
set_option linter.unusedVariables false
set_option maxRecDepth 100000
namespace Go.Lg
open Go.Proofs
def puzzleValid(p:Puz):Bool:=gridValid p.given p.size&&(decide (p.rules.length≤20)&&p.rules.all fun r=>ruleValid r p.size)
theorem PuzzleValid_run(p:Puz)(hx:smP p):Reads Tryd.prog 40 [aP p] (bool (puzzleValid p)):=by
 obtain⟨hx1,hx2,hx3⟩:=hx
 refine RunCall.cw (c:=_) Tryd.func40 rfl (n:=30) Tryd.ntmps40 (rs:=[.tmp 2]) rfl ?_
 simp only[List.length_cons,List.length_nil,zA,zS,List.replicate,List.cons_append,List.nil_append]
 simp(maxSteps:=999999)(disch:=omega)only[go_sem,zA,zM,zS,zE,zL]
 intro g
 first|refine OpS.rd (GridValid_run p.given p.size (by omega)) (⟨_,Tryd.func69,rfl,rfl⟩:Enters Tryd.prog 69) rfl rfl rfl rfl ?_|refine Loud.rd (GridValid_run p.given p.size (by omega)) (⟨_,Tryd.func69,rfl,rfl⟩:Enters Tryd.prog 69) rfl rfl rfl rfl ?_
 simp(maxSteps:=999999)(disch:=omega)only[go_sem,zA,zM,zS,zE,zL]
 ((with_reducible first|refine guardK_dec ?_ ?_|refine guardK_ndec ?_ ?_|refine guardK_nb ?_ ?_|refine guardK_split ?_ ?_|refine guardQ_dec ?_ ?_|refine guardL_dec ?_ ?_|refine guardQ_ndec ?_ ?_|refine guardL_ndec ?_ ?_|refine guardQ_nb ?_ ?_|refine guardL_nb ?_ ?_|refine guardQ_split ?_ ?_|refine guardL_split ?_ ?_)<;>intro hv<;>simp(maxSteps:=999999)(disch:=omega)only[go_sem,zA,zM,zS,zE,zL,hv])
 rotate_left
 · simp[puzzleValid,hv]
 ((first|(with_reducible first|refine condK_dec ?_ ?_|refine condK_ndec ?_ ?_|refine condK_nb ?_ ?_)|refine condK_b ?_ ?_)<;>intro h20)
 · simp(maxSteps:=999999)(disch:=omega)only[go_sem,zA,zM,zS,zE,zL]
   symm;simp only[puzzleValid,hv,Bool.true_and,Bool.and_eq_false_iff,decide_eq_false_iff_not];exact .inl (by omega)
 simp(maxSteps:=999999)(disch:=omega)only[go_sem,zA,zM,zS,zE,zL]
 refine loop_rule (fun i:Nat=>p.rules.length -i) (fun i=>i≤p.rules.length∧∀j:Nat,j<i→ruleValid (nth p.rules j) p.size=true) (fun i=>[.a, .k, .a, .a, .a, .a, .a, .a, .a, .a, .a, .a, .a, .a, .a, .a, .a, .a, .k, .k, .p (int i), .a, .a, .a, .a, .a, .a, .a, .a, .a]) (fun _=>[some ⟨g,1,cP p⟩]) 0
  ⟨Nat.zero_le _,fun j hj=>absurd hj (Nat.not_lt_zero _)⟩ (by simp(maxSteps:=999999)(disch:=omega)only[go_sem,zA,zM,zS,zE,zL];rfl) (HLe.refl _) ?_
 rintro i ⟨hi,hall⟩
 simp(maxSteps:=999999)(disch:=omega)only[go_sem,zA,zM,zS,zE,zL]
 ((first|(with_reducible first|refine condK_dec ?_ ?_|refine condK_ndec ?_ ?_|refine condK_nb ?_ ?_)|refine condK_b ?_ ?_)<;>intro h)
 · have h:i<p.rules.length:=by omega
   simp(maxSteps:=999999)(disch:=omega)only[go_sem,zA,zM,zS,zE,zL]
   intro g2
   first|refine OpS.rd (RuleValid_run (nth p.rules i) p.size (hx3 _ (nth_mem h))) (⟨_,Tryd.func21,rfl,rfl⟩:Enters Tryd.prog 21) rfl rfl rfl rfl ?_|refine Loud.rd (RuleValid_run (nth p.rules i) p.size (hx3 _ (nth_mem h))) (⟨_,Tryd.func21,rfl,rfl⟩:Enters Tryd.prog 21) rfl rfl rfl rfl ?_
   simp(maxSteps:=999999)(disch:=omega)only[go_sem,zA,zM,zS,zE,zL]
   ((first|(with_reducible first|refine condK_dec ?_ ?_|refine condK_ndec ?_ ?_|refine condK_nb ?_ ?_)|refine condK_b ?_ ?_)<;>intro h2)
   · simp(maxSteps:=999999)(disch:=omega)only[go_sem,zA,zM,zS,zE,zL]
     exact⟨i+1,⟨⟨h,all_step hall h2⟩,by omega⟩,by omega,hle_self _ _ _ (hle_nil _)⟩
   · simp(maxSteps:=999999)(disch:=omega)only[go_sem,zA,zM,zS,zE,zL]
     symm;simp only[puzzleValid,Bool.and_eq_false_iff];exact .inr (.inr (all_no h h2))
 · simp(maxSteps:=999999)(disch:=omega)only[go_sem,zA,zM,zS,zE,zL]
   symm;simp only[puzzleValid,Bool.and_eq_true,decide_eq_true_eq]
   exact⟨hv,by omega,all_nth.2 fun j hj=>hall j (by omega)⟩
theorem sPuzzleValid_run(p:Puz)(hx:smP p):Reads Tryd.prog 28 [aP p] (bool (puzzleValid p)):=by
 obtain⟨hx1,hx2,hx3⟩:=hx
 refine RunCall.cw (c:=_) Tryd.func28 rfl (n:=31) Tryd.ntmps28 (rs:=[.tmp 2]) rfl ?_
 simp only[List.length_cons,List.length_nil,zA,zS,List.replicate,List.cons_append,List.nil_append]
 simp(maxSteps:=999999)(disch:=omega)only[go_sem,zA,zM,zS,zE,zL]
 intro g
 refine loop_rule (fun i:Nat=>p.rules.length -i) (fun i=>i≤p.rules.length∧∀j:Nat,j<i→ruleValid (nth p.rules j) p.size=true) (fun i=>[.a, .k, .a, .p (int i), .a, .a, .a, .a, .a, .a, .a, .a, .a, .a, .a, .a, .a, .a, .a, .a, .a, .a, .a, .a, .a, .a, .a, .a, .a, .a, .a]) (fun _=>[some ⟨g,1,cP p⟩]) 0
  ⟨Nat.zero_le _,fun j hj=>absurd hj (Nat.not_lt_zero _)⟩ (by simp(maxSteps:=999999)(disch:=omega)only[go_sem,zA,zM,zS,zE,zL];rfl) (HLe.refl _) ?_
 rintro i ⟨hi,hall⟩
 simp(maxSteps:=999999)(disch:=omega)only[go_sem,zA,zM,zS,zE,zL]
 ((first|(with_reducible first|refine condK_dec ?_ ?_|refine condK_ndec ?_ ?_|refine condK_nb ?_ ?_)|refine condK_b ?_ ?_)<;>intro h)
 · have h:i<p.rules.length:=by omega
   simp(maxSteps:=999999)(disch:=omega)only[go_sem,zA,zM,zS,zE,zL]
   refine drawP_q foll (by kernel_rfl) ?_
   simp(maxSteps:=999999)(disch:=omega)only[go_sem,Nat.reduceBEq,Bool.true_or,zA,zM,zS,zE,zL]
   refine quietW.rd (sRuleValid_run (nth p.rules i) p.size (hx3 _ (nth_mem h))) (⟨_,Tryd.func48,rfl,rfl⟩:Enters Tryd.prog 48) rfl rfl rfl rfl ?_
   simp(maxSteps:=999999)(disch:=omega)only[go_sem,zA,zM,zS,zE,zL]
   ((first|(with_reducible first|refine condK_dec ?_ ?_|refine condK_ndec ?_ ?_|refine condK_nb ?_ ?_)|refine condK_b ?_ ?_)<;>intro h2)
   · simp(maxSteps:=999999)(disch:=omega)only[go_sem,zA,zM,zS,zE,zL]
     exact⟨i+1,⟨⟨h,all_step hall h2⟩,by omega⟩,by omega,HLe.refl _⟩
   · simp(maxSteps:=999999)(disch:=omega)only[go_sem,zA,zM,zS,zE,zL]
     symm;simp only[puzzleValid,Bool.and_eq_false_iff];exact .inr (.inr (all_no h h2))
 · simp(maxSteps:=999999)(disch:=omega)only[go_sem,zA,zM,zS,zE,zL]
   have ha:(p.rules.all fun r=>ruleValid r p.size)=true:=all_nth.2 fun j hj=>hall j (by omega)
   first|refine OpS.rd (sGridValid_run p.given p.size (by omega)) (⟨_,Tryd.func59,rfl,rfl⟩:Enters Tryd.prog 59) rfl rfl rfl rfl ?_|refine Loud.rd (sGridValid_run p.given p.size (by omega)) (⟨_,Tryd.func59,rfl,rfl⟩:Enters Tryd.prog 59) rfl rfl rfl rfl ?_
   simp(maxSteps:=999999)(disch:=omega)only[go_sem,zA,zM,zS,zE,zL]
   ((with_reducible first|refine guardK_dec ?_ ?_|refine guardK_ndec ?_ ?_|refine guardK_nb ?_ ?_|refine guardK_split ?_ ?_|refine guardQ_dec ?_ ?_|refine guardL_dec ?_ ?_|refine guardQ_ndec ?_ ?_|refine guardL_ndec ?_ ?_|refine guardQ_nb ?_ ?_|refine guardL_nb ?_ ?_|refine guardQ_split ?_ ?_|refine guardL_split ?_ ?_)<;>intro hv<;>simp(maxSteps:=999999)(disch:=omega)only[go_sem,zA,zM,zS,zE,zL,hv])
   · simp only[puzzleValid,hv,ha,Bool.true_and,Bool.and_true,decide_eq_decide];omega
   · simp[puzzleValid,hv]
end Go.Lg

namespace Go.Lg
open Go.Proofs
structure PuzN(p:Puz)(n:Nat):Prop where
 hn:n=2∨n=3∨n=4
 size:p.size=n
 len:p.given.length=n*n
 rl:p.rules.length≤40
 rv:∀r∈p.rules,ruleValid r n=true
theorem PuzN.of{p:Puz}(h:puzzleValid p=true):PuzN p p.size.toNat∧((p.size.toNat:Nat):Int)=p.size:=by
 simp only[puzzleValid,Bool.and_eq_true,decide_eq_true_eq,List.all_eq_true]at h
 obtain⟨h1,h2,h3⟩:=h
 have hb:=gridValid_bound h1
 have hs:((p.size.toNat:Nat):Int)=p.size:=by omega
 have hn:p.size.toNat=2∨p.size.toNat=3∨p.size.toNat=4:=by omega
 refine⟨⟨hn,hs.symm, ?_,by omega,fun r hr=>by rw[hs];exact h3 r hr⟩,hs⟩
 have:=hb.2.2.1
 rw[←hs]at this
 exact_mod_cast this
structure GrdN(xs:List Int)(n:Nat):Prop where
 len:xs.length=n*n
 val:∀k:Nat,k<xs.length→0≤nth xs k∧nth xs k≤n
theorem GrdN.of{xs:List Int}{n:Nat}(hn:n=2∨n=3∨n=4)(h:gridValid xs n=true):GrdN xs n:=by
 have hb:=gridValid_bound h
 exact⟨by have:=hb.2.2.1;rcases hn with rfl|rfl|rfl<;>omega,hb.2.2.2.2⟩
end Go.Lg

namespace Go.Lg
open Go.Proofs
structure OutL(H:Heap)(pid pg:Nat)(ls:List (List Int))(S:List Nat):Prop where
 ex:∃oid og cs,look H pid pg=some ⟨pg,1,[.own oid og 0 ls.length none]⟩∧look H oid og=some ⟨og,1,cs⟩∧oid∈S∧cs.length=ls.length∧∀i (h:i<ls.length),∃id g,cs[i]? =some (.own id g 0 ls[i].length none)∧look H id g=some ⟨g,1,cl (eI .i64) ls[i]⟩∧id∈S∧id≠oid
 pn:pid∉S
theorem OutL.same{H H':Heap}{pid pg:Nat}{ls:List (List Int)}{S:List Nat}(h:OutL H pid pg ls S)(hs:∀i,i=pid∨i∈S→H'[i]? =H[i]?):OutL H' pid pg ls S:=by
 obtain⟨⟨oid,og,cs,h1,h2,h3,h4,h5⟩,hn⟩:=h
 refine⟨⟨oid,og,cs,by unfold look at*;rw[hs pid (.inl rfl)];exact h1,by unfold look at*;rw[hs oid (.inr h3)];exact h2,h3,h4,fun i hi=> ?_⟩,hn⟩
 obtain⟨id,g,k1,k2,k3,k4⟩:=h5 i hi
 exact⟨id,g,k1,by unfold look at*;rw[hs id (.inr k3)];exact k2,k3,k4⟩
end Go.Lg

namespace Go.Lg
open Go.Proofs
attribute [-go_sem] appendM lwF_cons
def vals(n v:Nat):List Nat:=((List.range n).map (· +1)).drop (v -1)
end Go.Lg

namespace Go.Lg
open Go.Proofs
theorem mapM_of{α β:Type}{f:α→Option β}:∀(l:List α) (r:List β),l.length=r.length→(∀i (h:i<l.length) (h':i<r.length),f l[i]=some r[i])→l.mapM f=some r
 |[],[],_,_=>rfl
 |[],_::_,h,_=>by simp at h
 |_::_,[],h,_=>by simp at h
 |a::l,b::r,hl,h=>by
  have h0:=h 0 (by simp) (by simp)
  have ih:=mapM_of l r (by simpa using hl) fun i h1 h2=>h (i+1) (by simpa using h1) (by simpa using h2)
  simp only[List.getElem_cons_zero]at h0
  simp only[List.mapM_cons,h0,ih,Option.pure_def,Option.bind_eq_bind,Option.bind_some]
theorem OutL.frz{H:Heap}{pid pg:Nat}{ls:List (List Int)}{S:List Nat}(h:OutL H pid pg ls S):∃oid og,look H pid pg=some ⟨pg,1,[.own oid og 0 ls.length none]⟩∧frzC H (.own oid og 0 ls.length none)=some (.f (fsl eL ls)):=by
 obtain⟨⟨oid,og,cs,h1,h2,h3,h4,h5⟩,_⟩:=h
 refine⟨oid,og,h1, ?_⟩
 have hm:cs.mapM (Lg.frz H 5)=some (ls.map fints):=by
  refine mapM_of _ _ (by simp[h4]) fun i hi hi'=> ?_
  have hil:i<ls.length:=by omega
  obtain⟨id,g,k1,k2,k3,k4⟩:=h5 i hil
  have e:cs[i]= .own id g 0 ls[i].length none:=by
   rw[List.getElem?_eq_getElem hi]at k1
   exact Option.some.inj k1
  rw[e,List.getElem_map]
  exact(OwnI.o (H:=H) id g none ls[i] [] (by rw[List.append_nil];exact k2)).frz 4
 have et:(cs.drop 0).take (ls.length*1)=cs:=by rw[List.drop_zero,List.take_of_length_le (by omega)]
 have ef:ls.map fints=fl eL ls:=by
  have:∀l:List (List Int),l.map fints=fl eL l:=fun l=>by
   induction l with
   |nil=>rfl
   |cons x l ih=>simp only[List.map_cons,ih,fl,List.flatMap_cons,eL,List.cons_append,List.nil_append]
  exact this ls
 simp only[frzC,Lg.frz,h2,et,hm,Option.map_some,ef]
end Go.Lg

namespace Go.Lg
open Go.Proofs
attribute [-go_sem] appendM lwF_cons
structure RlI(H HI:Heap)(id g:Nat)(B:Int)(m g8 g2:Nat)(ys:List Int):Prop where
 out:look HI H.length g8=some ⟨g8,3,[.f (.int .i64 0), .f .nil, .f (.int .i64 0)]⟩
 cells:look HI (H.length+1) g2=some ⟨g2,1,cl (eI .i64) ys⟩
 l1:1≤ys.length
 l4:ys.length≤4
 val:∀k:Nat,k<ys.length→0≤nth ys k∧nth ys k<(m:Int)*m
 rd:RdAt HI id g B
 lt:id<H.length
 ln:H.length+2≤HI.length
 frm:∀k,k<H.length→k≠id→HI[k]? =H[k]?
section
variable{H HI H2:Heap}{id g m g8 g2:Nat}{B B':Int}{ys:List Int}
theorem RlI.mono(h:RlI H HI id g B m g8 g2 ys)(hb:B≤B'):RlI H HI id g B' m g8 g2 ys:={h with rd:=h.rd.mono hb}
theorem RlI.pick(h:RlI H HI id g B m g8 g2 ys)(hr:RdAt H2 id g B')(hf:Frm HI H2 [id]):RlI H H2 id g B' m g8 g2 ys:=
 {out:=by rw[hf.look (by have:=h.lt;simp;omega)];exact h.out
  cells:=by rw[hf.look (by have:=h.lt;simp;omega)];exact h.cells
  l1:=h.l1,l4:=h.l4,val:=h.val,rd:=hr,lt:=h.lt,ln:=by rw[hf.1];exact h.ln
  frm:=fun k hk hn=>by rw[hf.2 k (by simpa using hn)];exact h.frm k hk hn}
theorem RlI.app{X:Heap}(h:RlI H HI id g B m g8 g2 ys):RlI H (HI++X) id g B m g8 g2 ys:=
 {out:=look_appL h.out,cells:=look_appL h.cells,l1:=h.l1,l4:=h.l4,val:=h.val,rd:=h.rd.app,lt:=h.lt
  ln:=by have:=h.ln;rw[List.length_append];omega
  frm:=fun k hk hn=>by rw[List.getElem?_append_left (by have:=h.ln;omega)];exact h.frm k hk hn}
theorem RlI.set(h:RlI H HI id g B m g8 g2 ys){g':Nat}{zs:List Int}(h1:1≤zs.length)(h4:zs.length≤4)(hv:∀k:Nat,k<zs.length→0≤nth zs k∧nth zs k<(m:Int)*m):RlI H (HI.set (H.length+1) (some ⟨g',1,cl (eI .i64) zs⟩)) id g B m g8 g' zs:=by
 have hl:=h.ln
 have ht:=h.lt
 exact{out:=by rw[look_set_ne' (by omega)];exact h.out
       cells:=look_set_eq' (by omega)
       l1:=h1,l4:=h4,val:=hv
       rd:=h.rd.same (by rw[List.getElem?_set_ne (by omega)])
       lt:=ht,ln:=by rw[List.length_set];exact hl
       frm:=fun k hk hn=>by rw[List.getElem?_set_ne (by omega)];exact h.frm k hk hn}
end
def CellO(H HE:Heap)(J:Nat)(c:CV)(xs:List Int):Prop:=c= .f (fints xs)∨∃(i g k:Nat) (ys:List Int),c= .own i g 0 k none∧look HE i g=some ⟨g,1,cl (eI .i64) ys⟩∧k≤ys.length∧xs=ys.take k∧H.length<i∧i≠J
theorem CellO.same{H HE HE':Heap}{J:Nat}{c:CV}{xs:List Int}(h:CellO H HE J c xs)(hs:∀i,H.length<i→i≠J→i<HE.length→HE'[i]? =HE[i]?):CellO H HE' J c xs:=by
 rcases h with h|⟨i,g,k,ys,h1,h2,h3,h4,h5,h6⟩
 · exact .inl h
 · exact .inr ⟨i,g,k,ys,h1,by unfold look at*;rw[hs i h5 h6 (List.getElem?_eq_some_iff.1 (look_some h2).1).1];exact h2,h3,h4,h5,h6⟩
theorem CellO.elems{H HE:Heap}{J:Nat}{c:CV}{xs:List Int}(h:CellO H HE J c xs):elems HE 1 (.c c)=some (xs.length,cl (eI .i64) xs):=by
 rcases h with rfl|⟨i,g,k,ys,rfl,h2,h3,rfl,h5,h6⟩
 · exact elems_f (E:=eI .i64) (ys:=xs)
 · have e:(cl (eI .i64) ys).take (k*1)=cl (eI .i64) (ys.take k):=by
    rw[Nat.mul_one]
    have:=List.take_append_drop k ys
    conv=>lhs;rw[←this,cl_append]
    rw[List.take_append_of_le_length (by rw[cl_length];simp;omega),List.take_of_length_le (by rw[cl_length];simp;omega)]
   simp only[Lg.elems,h2,if_true,List.drop_zero,e,List.length_take,Nat.min_eq_left h3]
theorem CellO.frz{H HE:Heap}{J:Nat}{c:CV}{xs:List Int}(h:CellO H HE J c xs):frzS (tailS H.length) HE 6 c=some (fints xs):=by
 rcases h with rfl|⟨i,g,k,ys,rfl,h2,h3,rfl,h5,h6⟩
 · show some (nzF (fints xs))=_
   rw[fints,nzF_sl,nzF_ints]
 · have:=frzS_view (S:=tailS H.length) (lim:=none) (n:=k) (off:=0) h2 (by simp[tailS];omega) (by omega) 5
   rw[List.drop_zero]at this
   exact this
structure RuO(H HE:Heap)(id g:Nat)(B:Int)(N g8 J g18:Nat)(xs:List Int):Prop where
 out:look HE H.length g8=some ⟨g8,3,[.f (.int .i64 0), .f .nil, .f (.int .i64 0)]⟩
 ex:∃a b c,look HE J g18=some ⟨g18,3,[.f (.int .i64 a),c, .f (.int .i64 b)]⟩∧CellO H HE J c xs
 l1:1≤xs.length
 l5:xs.length≤N
 rd:RdAt HE id g B
 lt:id<H.length
 ln:H.length<J∧J<HE.length
 frm:∀k,k<H.length→k≠id→HE[k]? =H[k]?
section
variable{H HE H2:Heap}{id g N g8 J g18:Nat}{B B':Int}{xs:List Int}
theorem RuO.mono(h:RuO H HE id g B N g8 J g18 xs)(hb:B≤B'):RuO H HE id g B' N g8 J g18 xs:={h with rd:=h.rd.mono hb}
theorem RuO.pick(h:RuO H HE id g B N g8 J g18 xs)(hr:RdAt H2 id g B')(hf:Frm HE H2 [id]):RuO H H2 id g B' N g8 J g18 xs:=by
 have hl:=h.lt
 have hn:=h.ln
 obtain⟨a,b,c,h1,h2⟩:=h.ex
 exact{out:=by rw[hf.look (by simp;omega)];exact h.out
       ex:=⟨a,b,c,by rw[hf.look (by simp;omega)];exact h1,h2.same fun i hi _ _=>hf.2 i (by simp;omega)⟩
       l1:=h.l1,l5:=h.l5,rd:=hr,lt:=hl,ln:=⟨hn.1,by rw[hf.1];exact hn.2⟩
       frm:=fun k hk hn=>by rw[hf.2 k (by simpa using hn)];exact h.frm k hk hn}
theorem RuO.app{X:Heap}(h:RuO H HE id g B N g8 J g18 xs):RuO H (HE++X) id g B N g8 J g18 xs:=by
 have hn:=h.ln
 obtain⟨a,b,c,h1,h2⟩:=h.ex
 exact{out:=look_appL h.out
       ex:=⟨a,b,c,look_appL h1,h2.same fun i _ _ hi=>List.getElem?_append_left hi⟩
       l1:=h.l1,l5:=h.l5,rd:=h.rd.app,lt:=h.lt,ln:=⟨hn.1,by rw[List.length_append];omega⟩
       frm:=fun k hk hn'=>by rw[List.getElem?_append_left (by omega)];exact h.frm k hk hn'}
theorem RuO.set(h:RuO H HE id g B N g8 J g18 xs){a b:Int}{c:CV}{zs:List Int}(hc:CellO H HE J c zs)(h1:1≤zs.length)(h5:zs.length≤N):RuO H (HE.set J (some ⟨g18,3,[.f (.int .i64 a),c, .f (.int .i64 b)]⟩)) id g B N g8 J g18 zs:=by
 have hn:=h.ln
 have hl:=h.lt
 exact{out:=by rw[look_set_ne' (by omega)];exact h.out
       ex:=⟨a,b,c,look_set_eq' hn.2,hc.same fun i _ hi _=>by rw[List.getElem?_set_ne (Ne.symm hi)]⟩
       l1:=h1,l5:=h5,rd:=h.rd.same (by rw[List.getElem?_set_ne (by omega)]),lt:=hl,ln:=⟨hn.1,by rw[List.length_set];exact hn.2⟩
       frm:=fun k hk hn'=>by rw[List.getElem?_set_ne (by omega)];exact h.frm k hk hn'}
theorem RuO.len(h:RuO H HE id g B N g8 J g18 xs):H.length+2≤HE.length:=by have:=h.ln;omega
end
end Go.Lg

namespace Go.Lg
open Go.Proofs
def ruleSm(rs:List Rul)(a b:Nat):Prop:=rs.length≤a∧∀r∈rs,r.cells.length≤b
end Go.Lg

namespace Go.Lg
open Go.Proofs
attribute [-go_sem] appendM lwF_cons
theorem resV_ct(P:Program)(s:List AV)(H:Heap)(t u:Nat)(ty:TypeId):resV P s H [.cell t ty, .tmp u]=(loadV P H ty (s.getD t .void)).map fun v=> .tup [v,s.getD u .void]:=by
 simp only[resV,resAll,resOne]
 cases loadV P H ty (s.getD t .void)<;>rfl
attribute [go_sem] resV_ct
def PzO(H:Heap)(n0:Nat)(z:Int)(gc rc:CV)(zs:List Int)(rs:List Rul):Prop:=∃gid gg,gc= .own gid gg 0 zs.length none∧look H gid gg=some ⟨gg,1,cl (eI .i64) zs⟩∧n0≤gid∧OwnL eR 3 H rc rs∧(∀i,idsC rc i→n0≤i∧i≠gid)
theorem PzO.snap{H:Heap}{n0:Nat}{z:Int}{gc rc:CV}{zs:List Int}{rs:List Rul}(h:PzO H n0 z gc rc zs rs):snapD H (.agg [.f (.int .i64 z),gc,rc])=some (aP ⟨z,zs,rs⟩):=by
 obtain⟨gid,gg,rfl,h1,_,h2,_⟩:=h
 have e1:∀x:Int,frzC H (.f (.int .i64 x))=some (.f (.int .i64 x)):=fun _=>rfl
 have e2:=(OwnI.o (H:=H) gid gg none zs [] (by rw[List.append_nil];exact h1)).frzC
 simp only[snapD,List.mapM_cons,List.mapM_nil,e1,e2,h2.frzC,Option.bind_eq_bind,Option.pure_def,Option.bind_some,Option.map_some]
theorem PzO.same{H H':Heap}{n0:Nat}{z:Int}{gc rc:CV}{zs:List Int}{rs:List Rul}(h:PzO H n0 z gc rc zs rs)(hs:∀i,n0≤i→(idsC gc i∨idsC rc i)→i<H.length→H'[i]? =H[i]?):PzO H' n0 z gc rc zs rs:=by
 obtain⟨gid,gg,rfl,h1,h2,h3,h4⟩:=h
 exact⟨gid,gg,rfl,by unfold look at*;rw[hs gid h2 (.inl rfl) (List.getElem?_eq_some_iff.1 (look_some h1).1).1];exact h1,h2,h3.same fun i hi hl=>hs i (h4 i hi).1 (.inr hi) hl,h4⟩
theorem PzO.n0{H:Heap}{n0 n1:Nat}{z:Int}{gc rc:CV}{zs:List Int}{rs:List Rul}(h:PzO H n0 z gc rc zs rs)(hn:n1≤n0):PzO H n1 z gc rc zs rs:=by
 obtain⟨gid,gg,rfl,h1,h2,h3,h4⟩:=h
 exact⟨gid,gg,rfl,h1,by omega,h3,fun i hi=>⟨by have:=(h4 i hi).1;omega,(h4 i hi).2⟩⟩
end Go.Lg

namespace Go.Lg
open Go.Proofs
attribute [-go_sem] appendM lwF_cons
structure PzI(H HI:Heap)(id g:Nat)(B:Int)(R n g4 cid cg J g7:Nat):Prop where
 out:look HI H.length g4=some ⟨g4,3,[.f (.int .i64 0), .f .nil, .f .nil]⟩
 grid:∃zs:List Int,look HI cid cg=some ⟨cg,1,cl (eI .i64) zs⟩∧n*n≤zs.length
 ex:∃z gc rc zs rs,look HI J g7=some ⟨g7,3,[.f (.int .i64 z),gc,rc]⟩∧PzO HI (H.length+1) z gc rc zs rs∧¬idsC gc J∧¬idsC rc J∧¬idsC gc cid∧¬idsC rc cid∧zs.length=n*n∧ruleSm rs R 5
 rd:RdAt HI id g B
 lt:id<H.length
 ln:H.length<cid∧cid<HI.length∧H.length<J∧J<HI.length∧cid≠J
 frm:∀k,k<H.length→k≠id→HI[k]? =H[k]?
section
variable{H HI H2:Heap}{id g R R' n g4 cid cg J g7:Nat}{B B':Int}
theorem PzI.mono(h:PzI H HI id g B R n g4 cid cg J g7)(hb:B≤B'):PzI H HI id g B' R n g4 cid cg J g7:={h with rd:=h.rd.mono hb}
theorem PzI.step(h:PzI H HI id g B R n g4 cid cg J g7)(hs:∀i,H.length≤i→i<HI.length→H2[i]? =HI[i]?)(hl:HI.length≤H2.length)(hr:RdAt H2 id g B')(hf:∀k,k<H.length→k≠id→H2[k]? =HI[k]?):PzI H H2 id g B' R n g4 cid cg J g7:=by
 have hn:=h.ln
 have hL:∀i g,H.length≤i→i<HI.length→look H2 i g=look HI i g:=fun i g h1 h2=>by unfold look;rw[hs i h1 h2]
 obtain⟨ys,g1,g2⟩:=h.grid
 obtain⟨z,gc,rc,zs,rs,h1,h2,h3⟩:=h.ex
 exact{out:=by rw[hL _ _ (Nat.le_refl _) (by omega)];exact h.out
       grid:=⟨ys,by rw[hL _ _ (by omega) (by omega)];exact g1,g2⟩
       ex:=⟨z,gc,rc,zs,rs,by rw[hL _ _ (by omega) (by omega)];exact h1,h2.same fun i hi _ hl=>hs i (by omega) hl,h3⟩
       rd:=hr,lt:=h.lt,ln:=by omega
       frm:=fun k hk hne=>by rw[hf k hk hne];exact h.frm k hk hne}
theorem PzI.pick(h:PzI H HI id g B R n g4 cid cg J g7)(hr:RdAt H2 id g B')(hf:Frm HI H2 [id]):PzI H H2 id g B' R n g4 cid cg J g7:=by
 have hl:=h.lt
 exact h.step (fun i hi _=>hf.2 i (by simp;omega)) (by rw[hf.1];exact Nat.le_refl _) hr fun k hk hne=>hf.2 k (by simpa using hne)
theorem PzI.app{X:Heap}(h:PzI H HI id g B R n g4 cid cg J g7):PzI H (HI++X) id g B R n g4 cid cg J g7:=by
 have hn:=h.ln
 exact h.step (fun i _ hi=>List.getElem?_append_left hi) (by simp) h.rd.app fun k hk _=>List.getElem?_append_left (by omega)
end
theorem PzI.put{H HI H6:Heap}{id g R n g4 cid cg J g7 R':Nat}{B B' z:Int}{gc rc:CV}{zs:List Int}{rs:List Rul}(h:PzI H HI id g B R n g4 cid cg J g7)
 (w2:PzO H6 HI.length z gc rc zs rs) (w7:zs.length=n*n)
 (hs:∀i,H.length≤i→i<HI.length→H6[i]? =HI[i]?) (hlow:∀k,k<H.length→k≠id→H6[k]? =HI[k]?) (hrd:RdAt H6 id g B') (hl:HI.length≤H6.length) (hsm:ruleSm rs R' 5):
 PzI H (H6.set J (some ⟨g7,3,[.f (.int .i64 z),gc,rc]⟩)) id g B' R' n g4 cid cg J g7:=by
 have hln:=h.ln
 have hlt:=h.lt
 have hS:∀i g,H.length≤i→i<HI.length→i≠J→look (H6.set J (some ⟨g7,3,[.f (.int .i64 z),gc,rc]⟩)) i g=look HI i g:=fun i g a b d=>by
  unfold look
  rw[List.getElem?_set_ne (Ne.symm d),hs i a b]
 obtain⟨gz,gz1,gz2⟩:=h.grid
 have hno:∀i,i<HI.length→¬idsC gc i∧¬idsC rc i:=fun i hi=>by
  obtain⟨gid,gg,rfl,p1,p2,p3,p4⟩:=w2
  exact⟨fun hh=>by simp only[idsC]at hh;omega,fun hh=>by have:=(p4 i hh).1;omega⟩
 exact{out:=by rw[hS _ _ (Nat.le_refl _) (by omega) (by omega)];exact h.out
       grid:=⟨gz,by rw[hS _ _ (by omega) (by omega) (by omega)];exact gz1,gz2⟩
       ex:=⟨z,gc,rc,zs,rs,look_set_eq' (by omega),(w2.same fun i hi _ _=>by rw[List.getElem?_set_ne (by omega)]).n0 (by omega),(hno _ (by omega)).1,(hno _ (by omega)).2,(hno _ (by omega)).1,(hno _ (by omega)).2,w7,hsm⟩
       rd:=hrd.same (by rw[List.getElem?_set_ne (by omega)])
       lt:=hlt
       ln:=by rw[List.length_set];omega
       frm:=fun k hk hne=>by rw[List.getElem?_set_ne (by omega),hlow k hk hne];exact h.frm k hk hne}
theorem PzI.giv{H HI:Heap}{id g R n g4 cid cg J g7 gid gg:Nat}{B z:Int}{rc:CV}{zs:List Int}{rs:List Rul}(h:PzI H HI id g B R n g4 cid cg J g7)
 (w1:look HI J g7=some ⟨g7,3,[.f (.int .i64 z), .own gid gg 0 zs.length none,rc]⟩) (w2:PzO HI (H.length+1) z (.own gid gg 0 zs.length none) rc zs rs) (w3:¬idsC (.own gid gg 0 zs.length none) J) (w4:¬idsC rc J) (w5:¬idsC (.own gid gg 0 zs.length none) cid) (w6:¬idsC rc cid) (w7:zs.length=n*n) (w8:ruleSm rs R 5) (k:Nat) (v:Int):
 PzI H (HI.set gid (some ⟨gg,1,cl (eI .i64) (zs.set k v)⟩)) id g B R n g4 cid cg J g7:=by
 have hln:=h.ln
 have hlt:=h.lt
 obtain⟨gid',gg',he,p1,p2,p3,p4⟩:=w2
 cases he
 have hgl:gid<HI.length:=(List.getElem?_eq_some_iff.1 (look_some p1).1).1
 simp only[idsC]at w3 w5
 have hS:∀i g,i≠gid→look (HI.set gid (some ⟨gg,1,cl (eI .i64) (zs.set k v)⟩)) i g=look HI i g:=fun i g d=>look_set_ne' (Ne.symm d)
 obtain⟨gz,gz1,gz2⟩:=h.grid
 exact{out:=by rw[hS _ _ (by omega)];exact h.out
       grid:=⟨gz,by rw[hS _ _ (by omega)];exact gz1,gz2⟩
       ex:=⟨z,_,rc,zs.set k v,rs,by rw[hS _ _ (by omega)];exact w1,⟨gid,gg,by rw[List.length_set],look_set_eq' hgl,p2,p3.same fun i hi _=>by rw[List.getElem?_set_ne (Ne.symm (p4 i hi).2)],p4⟩,fun hh=>by simp only[idsC]at hh;omega,w4,fun hh=>by simp only[idsC]at hh;omega,w6,by rw[List.length_set];exact w7,w8⟩
       rd:=h.rd.same (by rw[List.getElem?_set_ne (by omega)])
       lt:=hlt
       ln:=by rw[List.length_set];omega
       frm:=fun k hk hne=>by rw[List.getElem?_set_ne (by omega)];exact h.frm k hk hne}
structure PzF(H HI:Heap)(id g:Nat)(B:Int)(g4 J g7:Nat):Prop where
 out:look HI H.length g4=some ⟨g4,3,[.f (.int .i64 0), .f .nil, .f .nil]⟩
 ex:∃z gc rc zs rs,look HI J g7=some ⟨g7,3,[.f (.int .i64 z),gc,rc]⟩∧(∀H':Heap,(∀i,H.length<i→i<HI.length→H'[i]? =HI[i]?)→frzS (tailS H.length) H' 6 gc=some (fints zs)∧frzS (tailS H.length) H' 6 rc=some (fsl eR rs))∧zs.length≤16∧ruleSm rs 30 5
 rd:RdAt HI id g B
 lt:id<H.length
 ln:H.length<J∧J<HI.length
 frm:∀k,k<H.length→k≠id→HI[k]? =H[k]?
theorem frz_own{H H' HI:Heap}{gid gg:Nat}{zs:List Int}(p1:look HI gid gg=some ⟨gg,1,cl (eI .i64) zs⟩)(h0:H.length<gid)(hs:∀i,H.length<i→i<HI.length→H'[i]? =HI[i]?){off k:Nat}(hk:off+k≤zs.length):frzS (tailS H.length) H' 6 (.own gid gg off k none)=some (fints ((zs.drop off).take k)):=
 frzS_view (by unfold look at p1⊢;rw[hs gid h0 (List.getElem?_eq_some_iff.1 (look_some p1).1).1];exact p1) (by simp[tailS];omega) hk 5
theorem frz_ownL{H H' HI:Heap}{rc:CV}{rs:List Rul}(p3:OwnL eR 3 HI rc rs)(h0:∀i,idsC rc i→H.length<i)(hs:∀i,H.length<i→i<HI.length→H'[i]? =HI[i]?):frzS (tailS H.length) H' 6 rc=some (fsl eR rs):=
 (p3.same fun i hi hl=>hs i (h0 i hi) hl).frzS (fun i hi=>by have:=h0 i hi;simp[tailS];omega) 5
theorem PzI.fin{H HI:Heap}{id g R n g4 cid cg J g7:Nat}{B B':Int}(h:PzI H HI id g B R n g4 cid cg J g7)(hn:n*n≤16)(hR:R≤30)(hb:B≤B'):PzF H HI id g B' g4 J g7:=by
 obtain⟨z,gc,rc,zs,rs,w1,⟨gid,gg,rfl,p1,p2,p3,p4⟩,w3,w4,w5,w6,w7,w8,w9⟩:=h.ex
 have hln:=h.ln
 exact{out:=h.out
       ex:=⟨z,_,rc,zs,rs,w1,fun H' hs=>⟨by have:=frz_own p1 (by omega) hs (off:=0) (k:=zs.length) (by omega);rwa [List.drop_zero,List.take_length]at this,frz_ownL p3 (fun i hi=>by have:=(p4 i hi).1;omega) hs⟩,by omega,by omega,w9⟩
       rd:=h.rd.mono hb,lt:=h.lt,ln:=by omega,frm:=h.frm}
end Go.Lg

namespace Go.Lg
open Go.Proofs
theorem GrdN.set{xs:List Int}{n i v:Nat}(hg:GrdN xs n)(hi:i<xs.length)(hv:v≤n):GrdN (xs.set i (v:Int)) n:=⟨by rw[List.length_set];exact hg.len,fun k hk=>by
 rw[List.length_set]at hk
 rw[nth_setN _ _ _ _ hi]
 split
 · omega
 · exact hg.val k hk⟩
def LeB(o o':List Nat):Prop:=o.length=o'.length∧∀k b:Nat,(o.getD k 0).testBit b=true→(o'.getD k 0).testBit b=true
theorem LeB.refl(o:List Nat):LeB o o:=⟨rfl,fun _ _ h=>h⟩
theorem LeB.trans{a b c:List Nat}(h1:LeB a b)(h2:LeB b c):LeB a c:=⟨h1.1.trans h2.1,fun k x h=>h2.2 k x (h1.2 k x h)⟩
def Has(p:Puz)(xs:List Int):Prop:=∀k:Nat,0<nth p.given k→nth xs k=nth p.given k
theorem Has.clear{p:Puz}{xs:List Int}(h:Has p xs):Lg.clear p xs=true:=by
 simp only[Lg.clear,decide_eq_true_eq]
 exact fun k hk ⟨a,b,c⟩=>c (h k a)
theorem Has.set{p:Puz}{xs:List Int}(h:Has p xs){i:Nat}{v:Int}(hi:i<xs.length)(h0:¬0<nth xs i):Has p (xs.set i v):=fun k hk=>by
 rw[nth_setN _ _ _ _ hi]
 have:=h k hk
 split
 · rename_i hki
   subst hki
   omega
 · exact this
theorem nth_over{xs:List Int}{k:Nat}(h:xs.length≤k):nth xs (k:Int)=0:=by
 unfold nth
 rw[Int.toNat_natCast,List.getD_eq_getElem?_getD,List.getElem?_eq_none h]
 rfl
end Go.Lg
