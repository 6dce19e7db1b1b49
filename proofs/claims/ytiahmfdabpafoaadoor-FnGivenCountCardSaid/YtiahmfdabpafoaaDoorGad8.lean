/- GpVS, GpFF, GpIB, GpTJ, GpTN, GpJC, GpNA, GpNH, GpEL, cut to what is needed. -/
import Derived.Test.YtiahmfdabpafoaaDoorGad7
import Derived.Test.YtiahmfdabpafoaaDoorGac2
import Derived.Test.YtiahmfdabpafoaaDoorGab6
import Derived.Test.YtiahmfdabpafoaaDoorGad0
import Derived.Test.YtiahmfdabpafoaaDoorGac9
import Derived.Test.YtiahmfdabpafoaaDoorGad4
import Derived.Test.YtiahmfdabpafoaaDoorGab3
import Derived.Test.YtiahmfdabpafoaaDoorGac0
import Derived.Test.YtiahmfdabpafoaaDoorGad6
import Derived.Test.YtiahmfdabpafoaaDoorGab7
open Nat renaming reduceAdd→zA,reduceMul→zM,reduceSub→zS,reduceEqDiff→zE,reduceLeDiff→zL
set_option linter.unusedSimpArgs false
set_option linter.unusedVariables false
set_option maxRecDepth 100000
namespace Go.Lg
open Go.Proofs
def rulesT(rs:List Rul):List UInt8:=rs.flatMap fun r=>32::ruleT r
def puzzleT(p:Puz):List UInt8:=if puzzleValid p=true then gridText p.given p.size++rulesT p.rules else[]
theorem ruleT_len(r:Rul):(ruleT r).length≤400:=by
 unfold ruleT
 split
 · rename_i h
   obtain⟨_,h1,_,h2,h3⟩:=rule_txt h
   unfold ruleS valT
   have:=dec_len r.val.toNat
   split<;>simp only[List.length_cons,List.length_append,List.length_map,List.length_nil]<;>omega
 · simp
theorem rulesT_take{rs:List Rul}{k:Nat}(h:k<rs.length):rulesT (rs.take (k+1))=rulesT (rs.take k)++32::ruleT (nth rs k):=by
 unfold rulesT
 rw[take_succ_nth h,List.flatMap_append]
 simp
theorem rulesT_len:∀(rs:List Rul),(rulesT rs).length≤401*rs.length
 |[]=>by simp[rulesT]
 |r::rs=>by
  have h1:=ruleT_len r
  have h2:=rulesT_len rs
  unfold rulesT at h2⊢
  simp only[List.flatMap_cons,List.length_append,List.length_cons]
  omega
theorem puz_given{p:Puz}(h:puzzleValid p=true):p.given.length≤16:=by
 simp only[puzzleValid,Bool.and_eq_true]at h
 have:=gridValid_bound h.1
 omega
theorem puz_rules{p:Puz}(h:puzzleValid p=true):p.rules.length≤20:=by
 simp only[puzzleValid,Bool.and_eq_true,decide_eq_true_eq]at h
 exact h.2.1
theorem gridText_len(xs:List Int)(n:Int)(h:xs.length≤16):(gridText xs n).length≤18:=by
 unfold gridText
 split<;>simp<;>omega
set_option maxHeartbeats 1000000 in
theorem sPuzzleText_run(p:Puz)(hx:smP p):Reads Tryd.prog 27 [aP p] (txt (puzzleT p)):=by
 have hx3:=hx.2.2
 refine RunCall.cw (c:=_) Tryd.func27 rfl (n:=30) Tryd.ntmps27 (rs:=[.tmp 2]) rfl ?_
 simp only[List.length_cons,List.length_nil,zA,zS,List.replicate,List.cons_append,List.nil_append]
 simp(maxSteps:=999999)(disch:=omega)only[go_sem,zA,zM,zS,zE,zL]
 intro g
 first|refine OpS.rd (sPuzzleValid_run p hx) (⟨_,Tryd.func28,rfl,rfl⟩:Enters Tryd.prog 28) rfl rfl rfl rfl ?_|refine Loud.rd (sPuzzleValid_run p hx) (⟨_,Tryd.func28,rfl,rfl⟩:Enters Tryd.prog 28) rfl rfl rfl rfl ?_
 simp(maxSteps:=999999)(disch:=omega)only[go_sem,zA,zM,zS,zE,zL]
 cases hv:puzzleValid p with
 |false=>
  have e:puzzleT p=[]:=by unfold puzzleT;rw[hv];rfl
  rw[e]
  ((first|(with_reducible first|refine condK_dec ?_ ?_|refine condK_ndec ?_ ?_|refine condK_nb ?_ ?_)|refine condK_b ?_ ?_)<;>intro c0)
  · cases c0
  simp(maxSteps:=999999)(disch:=omega)only[go_sem,zA,zM,zS,zE,zL]
 |true=>
  have e:puzzleT p=gridText p.given p.size++rulesT p.rules:=by unfold puzzleT;rw[hv];rfl
  rw[e]
  have hg:=puz_given hv
  have hr:=puz_rules hv
  have hgl:=gridText_len p.given p.size hg
  ((first|(with_reducible first|refine condK_dec ?_ ?_|refine condK_ndec ?_ ?_|refine condK_nb ?_ ?_)|refine condK_b ?_ ?_)<;>intro c0)
  rotate_left
  · cases c0
  simp(maxSteps:=999999)(disch:=omega)only[go_sem,zA,zM,zS,zE,zL]
  first|refine OpS.rd (sGridText_run p.given p.size (by omega)) (⟨_,Tryd.func58,rfl,rfl⟩:Enters Tryd.prog 58) rfl rfl rfl rfl ?_|refine Loud.rd (sGridText_run p.given p.size (by omega)) (⟨_,Tryd.func58,rfl,rfl⟩:Enters Tryd.prog 58) rfl rfl rfl rfl ?_
  simp(maxSteps:=999999)(disch:=omega)only[go_sem,zA,zM,zS,zE,zL]
  refine loop_rule2 (fun(k:Nat) (out:List UInt8)=>p.rules.length -k) (fun k out=>k≤p.rules.length∧out=gridText p.given p.size++rulesT (p.rules.take k)) (fun k out=>[.a, .k, .a, .p (txt out), .p (int k), .a, .a, .a, .a, .a, .a, .a, .a, .a, .a, .a, .a, .a, .a, .a, .a, .a, .a, .a, .a, .a, .a, .a, .a, .a]) (fun _ _=>[some ⟨g,1,cP p⟩]) 0 (gridText p.given p.size)
   ⟨Nat.zero_le _,by simp[rulesT]⟩ (by simp(maxSteps:=999999)(disch:=omega)only[go_sem,zA,zM,zS,zE,zL];rfl) (HLe.refl _) ?_
  rintro k out ⟨hi,ho⟩
  have hlen:out.length≤10000:=by
   rw[ho,List.length_append]
   have:=rulesT_len (p.rules.take k)
   rw[List.length_take]at this
   omega
  simp(maxSteps:=999999)(disch:=omega)only[go_sem,zA,zM,zS,zE,zL]
  ((first|(with_reducible first|refine condK_dec ?_ ?_|refine condK_ndec ?_ ?_|refine condK_nb ?_ ?_)|refine condK_b ?_ ?_)<;>intro c1)
  · have hr4:=ruleT_len (nth p.rules k)
    simp(maxSteps:=999999)(disch:=omega)only[go_sem,zA,zM,zS,zE,zL]
    first|refine OpS.rd (sRuleText_run (nth p.rules k) (hx3 _ (nth_mem (by omega)))) (⟨_,Tryd.func20,rfl,rfl⟩:Enters Tryd.prog 20) rfl rfl rfl rfl ?_|refine Loud.rd (sRuleText_run (nth p.rules k) (hx3 _ (nth_mem (by omega)))) (⟨_,Tryd.func20,rfl,rfl⟩:Enters Tryd.prog 20) rfl rfl rfl rfl ?_
    simp(maxSteps:=999999)(disch:=omega)only[go_sem,zA,zM,zS,zE,zL]
    refine⟨k+1,_,⟨⟨by omega, ?_⟩,by omega⟩,⟨rfl,rfl⟩,hle_eq rfl (hle_nil _)⟩
    rw[rulesT_take (by omega),ho]
    simp
  have hke:k=p.rules.length:=by omega
  subst hke
  rw[List.take_length]at ho
  subst ho
  simp(maxSteps:=999999)(disch:=omega)only[go_sem,zA,zM,zS,zE,zL]
set_option maxHeartbeats 1000000 in
theorem PuzzleText_run(p:Puz)(hx:smP p):Reads Tryd.prog 26 [aP p] (txt (puzzleT p)):=by
 have hx3:=hx.2.2
 refine RunCall.cw (c:=_) Tryd.func26 rfl (n:=28) Tryd.ntmps26 (rs:=[.tmp 2]) rfl ?_
 simp only[List.length_cons,List.length_nil,zA,zS,List.replicate,List.cons_append,List.nil_append]
 simp(maxSteps:=999999)(disch:=omega)only[go_sem,zA,zM,zS,zE,zL]
 intro g
 first|refine OpS.rd (PuzzleValid_run p hx) (⟨_,Tryd.func40,rfl,rfl⟩:Enters Tryd.prog 40) rfl rfl rfl rfl ?_|refine Loud.rd (PuzzleValid_run p hx) (⟨_,Tryd.func40,rfl,rfl⟩:Enters Tryd.prog 40) rfl rfl rfl rfl ?_
 simp(maxSteps:=999999)(disch:=omega)only[go_sem,zA,zM,zS,zE,zL]
 cases hv:puzzleValid p with
 |false=>
  have e:puzzleT p=[]:=by unfold puzzleT;rw[hv];rfl
  rw[e]
  ((first|(with_reducible first|refine condK_dec ?_ ?_|refine condK_ndec ?_ ?_|refine condK_nb ?_ ?_)|refine condK_b ?_ ?_)<;>intro c0)
  · cases c0
  simp(maxSteps:=999999)(disch:=omega)only[go_sem,zA,zM,zS,zE,zL]
 |true=>
  have e:puzzleT p=gridText p.given p.size++rulesT p.rules:=by unfold puzzleT;rw[hv];rfl
  rw[e]
  have hg:=puz_given hv
  have hr:=puz_rules hv
  have hgl:=gridText_len p.given p.size hg
  ((first|(with_reducible first|refine condK_dec ?_ ?_|refine condK_ndec ?_ ?_|refine condK_nb ?_ ?_)|refine condK_b ?_ ?_)<;>intro c0)
  rotate_left
  · cases c0
  simp(maxSteps:=999999)(disch:=omega)only[go_sem,zA,zM,zS,zE,zL]
  first|refine OpS.rd (GridText_run p.given p.size (by omega)) (⟨_,Tryd.func57,rfl,rfl⟩:Enters Tryd.prog 57) rfl rfl rfl rfl ?_|refine Loud.rd (GridText_run p.given p.size (by omega)) (⟨_,Tryd.func57,rfl,rfl⟩:Enters Tryd.prog 57) rfl rfl rfl rfl ?_
  simp(maxSteps:=999999)(disch:=omega)only[go_sem,zA,zM,zS,zE,zL]
  refine loop_rule2 (fun(k:Nat) (out:List UInt8)=>p.rules.length -k) (fun k out=>k≤p.rules.length∧out=gridText p.given p.size++rulesT (p.rules.take k)) (fun k out=>[.a, .a, .a, .p (txt out), .a, .a, .a, .a, .a, .a, .a, .a, .a, .a, .a, .k, .k, .p (int k), .a, .a, .a, .a, .a, .a, .a, .a, .a, .a]) (fun _ _=>[some ⟨g,1,cP p⟩]) 0 (gridText p.given p.size)
   ⟨Nat.zero_le _,by simp[rulesT]⟩ (by simp(maxSteps:=999999)(disch:=omega)only[go_sem,zA,zM,zS,zE,zL];rfl) (HLe.refl _) ?_
  rintro k out ⟨hi,ho⟩
  have hlen:out.length≤10000:=by
   rw[ho,List.length_append]
   have:=rulesT_len (p.rules.take k)
   rw[List.length_take]at this
   omega
  simp(maxSteps:=999999)(disch:=omega)only[go_sem,zA,zM,zS,zE,zL]
  ((first|(with_reducible first|refine condK_dec ?_ ?_|refine condK_ndec ?_ ?_|refine condK_nb ?_ ?_)|refine condK_b ?_ ?_)<;>intro c1)
  · have hr4:=ruleT_len (nth p.rules k)
    simp(maxSteps:=999999)(disch:=omega)only[go_sem,zA,zM,zS,zE,zL]
    intro g2
    first|refine OpS.rd (RuleText_run (nth p.rules k) (hx3 _ (nth_mem (by omega)))) (⟨_,Tryd.func19,rfl,rfl⟩:Enters Tryd.prog 19) rfl rfl rfl rfl ?_|refine Loud.rd (RuleText_run (nth p.rules k) (hx3 _ (nth_mem (by omega)))) (⟨_,Tryd.func19,rfl,rfl⟩:Enters Tryd.prog 19) rfl rfl rfl rfl ?_
    simp(maxSteps:=999999)(disch:=omega)only[go_sem,zA,zM,zS,zE,zL]
    refine⟨k+1,_,⟨⟨by omega, ?_⟩,by omega⟩,⟨rfl,rfl⟩,hle_eq rfl (hle_nil _)⟩
    rw[rulesT_take (by omega),ho]
    simp
  have hke:k=p.rules.length:=by omega
  subst hke
  rw[List.take_length]at ho
  subst ho
  simp(maxSteps:=999999)(disch:=omega)only[go_sem,zA,zM,zS,zE,zL]
end Go.Lg

namespace Go.Lg
open Go.Proofs
def countV(p:Puz)(most:Int):Int:=if puzzleValid p=true∧1≤most∧most≤600 then(allS p most.toNat).length else-1
theorem CountSolutions_run(p:Puz)(most:Int)(hx:smP p):Reads Tryd.prog 29 [aP p,int most] (int (countV p most)):=by
 refine RunCall.cw (c:=_) Tryd.func29 rfl (n:=22) Tryd.ntmps29 (rs:=[.tmp 4]) rfl ?_
 simp only[List.length_cons,List.length_nil,zA,zS,List.replicate,List.cons_append,List.nil_append]
 simp(maxSteps:=999999)(disch:=omega)only[go_sem,zA,zM,zS,zE,zL]
 intro g
 first|refine OpS.rd (PuzzleValid_run p hx) (⟨_,Tryd.func40,rfl,rfl⟩:Enters Tryd.prog 40) rfl rfl rfl rfl ?_|refine Loud.rd (PuzzleValid_run p hx) (⟨_,Tryd.func40,rfl,rfl⟩:Enters Tryd.prog 40) rfl rfl rfl rfl ?_
 simp(maxSteps:=999999)(disch:=omega)only[go_sem,zA,zM,zS,zE,zL]
 ((with_reducible first|refine guardK_dec ?_ ?_|refine guardK_ndec ?_ ?_|refine guardK_nb ?_ ?_|refine guardK_split ?_ ?_|refine guardQ_dec ?_ ?_|refine guardL_dec ?_ ?_|refine guardQ_ndec ?_ ?_|refine guardL_ndec ?_ ?_|refine guardQ_nb ?_ ?_|refine guardL_nb ?_ ?_|refine guardQ_split ?_ ?_|refine guardL_split ?_ ?_)<;>intro h1<;>simp(maxSteps:=999999)(disch:=omega)only[go_sem,zA,zM,zS,zE,zL,h1])
 rotate_left
 · unfold countV
   rw[if_neg (fun h=>by rw[h.1]at h1;cases h1)]
 ((with_reducible first|refine guardK_dec ?_ ?_|refine guardK_ndec ?_ ?_|refine guardK_nb ?_ ?_|refine guardK_split ?_ ?_|refine guardQ_dec ?_ ?_|refine guardL_dec ?_ ?_|refine guardQ_ndec ?_ ?_|refine guardL_ndec ?_ ?_|refine guardQ_nb ?_ ?_|refine guardL_nb ?_ ?_|refine guardQ_split ?_ ?_|refine guardL_split ?_ ?_)<;>intro h2<;>simp(maxSteps:=999999)(disch:=omega)only[go_sem,zA,zM,zS,zE,zL,h2])
 · unfold countV
   rw[if_neg (by omega)]
 ((first|(with_reducible first|refine condK_dec ?_ ?_|refine condK_ndec ?_ ?_|refine condK_nb ?_ ?_)|refine condK_b ?_ ?_)<;>intro h3)
 · simp(maxSteps:=999999)(disch:=omega)only[go_sem,zA,zM,zS,zE,zL]
   unfold countV
   rw[if_neg (by omega)]
 obtain⟨k,rfl⟩:∃k:Nat,most=k:=⟨most.toNat,by omega⟩
 simp(maxSteps:=999999)(disch:=omega)only[go_sem,zA,zM,zS,zE,zL]
 first|refine OpS.mk (first_all h1 k (by omega)) (⟨_,Tryd.func60,rfl,rfl⟩:Enters Tryd.prog 60) rfl rfl rfl rfl rfl ?_|refine Loud.mk (first_all h1 k (by omega)) (⟨_,Tryd.func60,rfl,rfl⟩:Enters Tryd.prog 60) rfl rfl rfl rfl rfl ?_
 simp(maxSteps:=999999)(disch:=omega)only[go_sem,zA,zM,zS,zE,zL]
 unfold countV
 rw[if_pos ⟨h1,by omega,by omega⟩,Int.toNat_natCast]
end Go.Lg

namespace Go.Lg
open Go.Proofs
theorem count_600{p:Puz}(hv:puzzleValid p=true):countV p 600=((allL p).length:Int):=by
 unfold countV
 rw[if_pos ⟨hv,by omega,by omega⟩]
 show((allS p 600).length:Int)=_
 rw[allS_all]
end Go.Lg

namespace Go.Lg
open Go.Proofs
instance:HSzK cB 2:=⟨fun _=>rfl⟩
end Go.Lg

namespace Go.Lg
open Go.Proofs
attribute [-go_sem] appendM lwF_cons
inductive CutL(H HI:Heap):CV→List Brn→Prop where
 |n:CutL H HI (.f .nil) []
 |m:CutL H HI .emp []
 |o (i g k:Nat) (ys:List Brn) (h:look HI i g=some ⟨g,2,cl eB ys⟩) (hk:k≤ys.length) (hi:H.length<i):CutL H HI (.own i g 0 k none) (ys.take k)
theorem CutL.of{H HI:Heap}{c:CV}{L:List Brn}(h:OwnL eB 2 HI c L)(hi:∀k,idsC c k→H.length<k):CutL H HI c L:=by
 cases h with
 |n=>exact .n
 |m=>exact .m
 |o id g xs h=>have:=CutL.o (H:=H) id g L.length L h (Nat.le_refl _) (hi id rfl);rwa [List.take_length]at this
theorem CutL.same{H HI HJ:Heap}{c:CV}{L:List Brn}(h:CutL H HI c L)(hs:∀i,H.length<i→i<HI.length→HJ[i]? =HI[i]?):CutL H HJ c L:=by
 cases h with
 |n=>exact .n
 |m=>exact .m
 |o i g k ys h hk hi=>exact .o i g k ys (by unfold look at*;rw[hs i hi (List.getElem?_eq_some_iff.1 (look_some h).1).1];exact h) hk hi
theorem nzF_brns(L:List Brn):(fl eB L).map nzF=fl eB L:=by
 induction L with
 |nil=>rfl
 |cons x xs ih=>
  show[nzF _,nzF _]++(fl eB xs).map nzF=_
  rw[ih];rfl
theorem take_brn(ys:List Brn)(k:Nat):(cl eB ys).take (k*2)=cl eB (ys.take k):=by
 have h:=List.take_append_drop k ys
 by_cases hk:k≤ys.length
 · conv=>lhs;rw[←h,cl_append]
   have l1:(cl eB (ys.take k)).length=k*2:=by rw[cl_length (E:=eB) (n:=2),List.length_take,Nat.min_eq_left hk]
   rw[List.take_append_of_le_length (by omega),List.take_of_length_le (by omega)]
 · have l1:(cl eB ys).length=ys.length*2:=cl_length ys
   rw[List.take_of_length_le (by omega),List.take_of_length_le (by omega)]
theorem CutL.frz{H HI:Heap}{c:CV}{L:List Brn}(h:CutL H HI c L):frzS (tailS H.length) HI 6 c=some (fsl eB L):=by
 cases h with
 |n=>rfl
 |m=>rfl
 |o i g k ys h hk hi=>
  have hS:tailS H.length i=true:=by simp[tailS];omega
  simp only[Lg.frzS,hS,if_true,h,List.drop_zero,take_brn]
  rw[show cl eB (ys.take k)=(fl eB (ys.take k)).map CV.f from rfl,frzS_cells,nzF_brns]
  show some (FV.sl k _)=some (FV.sl (ys.take k).length _)
  rw[List.length_take,Nat.min_eq_left hk]
structure PfI(H HI:Heap)(id g:Nat)(B:Int)(g2 g8:Nat)(p:Puz):Prop where
 out:look HI H.length g2=some ⟨g2,3,[.f (.int .i64 0), .f .nil, .f .nil]⟩
 puz:look HI (H.length+1) g8=some ⟨g8,3,cP p⟩
 rd:RdAt HI id g B
 lt:id<H.length
 ln:H.length+2≤HI.length
 frm:∀k,k<H.length→k≠id→HI[k]? =H[k]?
section
variable{H HI H2:Heap}{id g g2 g8:Nat}{B B':Int}{p:Puz}
theorem PfI.mono(h:PfI H HI id g B g2 g8 p)(hb:B≤B'):PfI H HI id g B' g2 g8 p:={h with rd:=h.rd.mono hb}
theorem PfI.pick(h:PfI H HI id g B g2 g8 p)(hr:RdAt H2 id g B')(hf:Frm HI H2 [id]):PfI H H2 id g B' g2 g8 p:=by
 have hl:=h.lt
 exact{out:=by rw[hf.look (by simp;omega)];exact h.out
       puz:=by rw[hf.look (by simp;omega)];exact h.puz
       rd:=hr,lt:=hl,ln:=by rw[hf.1];exact h.ln
       frm:=fun k hk hn=>by rw[hf.2 k (by simpa using hn)];exact h.frm k hk hn}
theorem PfI.app{X:Heap}(h:PfI H HI id g B g2 g8 p):PfI H (HI++X) id g B g2 g8 p:=by
 have hn:=h.ln
 exact{out:=look_appL h.out,puz:=look_appL h.puz,rd:=h.rd.app,lt:=h.lt,ln:=by simp;omega
       frm:=fun k hk hne=>by rw[List.getElem?_append_left (by omega)];exact h.frm k hk hne}
theorem PfI.step(h:PfI H HI id g B g2 g8 p)(hs:∀i,i<H.length+2→H2[i]? =HI[i]?)(hl:HI.length≤H2.length):PfI H H2 id g B g2 g8 p:=by
 have hn:=h.ln
 have ht:=h.lt
 exact{out:=by have:=h.out;unfold look at*;rw[hs _ (by omega)];exact this
       puz:=by have:=h.puz;unfold look at*;rw[hs _ (by omega)];exact this
       rd:=h.rd.same (hs _ (by omega)),lt:=ht,ln:=by omega
       frm:=fun k hk hne=>by rw[hs _ (by omega)];exact h.frm k hk hne}
end
end Go.Lg

namespace Go.Lg
open Go.Proofs
attribute [-go_sem] appendM lwF_cons
structure OwnP0(H:Heap)(c r:CV)(p:Puz)(S1 S2:List Nat):Prop where
 g:OwnI H c p.given S1
 rr:(r= .f .nil∧p.rules=[]∧S2=[])∨OwnR H r p.rules S2
 nd:(S1++S2).Nodup
 l:limN r
theorem limN_shift{r:CV}{k:Nat}(h:limN r):limN (shiftC k r):=by
 cases r with
 |f v=>cases v<;>exact h
 |_=>exact h
section
variable{H H':Heap}{c r:CV}{p:Puz}{S1 S2:List Nat}
theorem OwnP0.same(h:OwnP0 H c r p S1 S2)(hs:∀i∈S1++S2,H'[i]? =H[i]?):OwnP0 H' c r p S1 S2:=
 ⟨h.g.same fun i hi=>hs i (by simp[hi]),h.rr.imp id fun k=>k.same fun i hi=>hs i (by simp[hi]),h.nd,h.l⟩
theorem OwnP0.lt(h:OwnP0 H c r p S1 S2):∀i∈S1++S2,i<H.length:=fun i hi=>by
 rcases List.mem_append.1 hi with hi|hi
 · exact h.g.lt i hi
 · rcases h.rr with⟨_,_,rfl⟩|k
   · simp at hi
   · exact k.lt i hi
theorem OwnP0.blk(h:OwnP0 H c r p S1 S2):(∀i∈S1++S2,∀b,H[i]? =some (some b)→∀x∈b.cs,scalC x=true)∧scalC c=true∧scalC r=true:=by
 refine⟨fun i hi=> ?_,h.g.scal1, ?_⟩
 · rcases List.mem_append.1 hi with hi|hi
   · exact h.g.blk i hi
   · rcases h.rr with⟨_,_,rfl⟩|k
     · simp at hi
     · exact k.blk i hi
 · rcases h.rr with⟨rfl,_,_⟩|k
   · rfl
   · exact k.scal1
theorem OwnP0.shift{H0:Heap}(h:OwnP0 H c r p S1 S2):OwnP0 (H0++shiftH H0.length H) (shiftC H0.length c) (shiftC H0.length r) p (S1.map (· +H0.length)) (S2.map (· +H0.length)):=by
 refine⟨h.g.shift, ?_, ?_,limN_shift h.l⟩
 · rcases h.rr with⟨rfl,h1,rfl⟩|k
   · exact .inl ⟨rfl,h1,rfl⟩
   · exact .inr k.shift
 · rw[←List.map_append]
   exact List.pairwise_map.2 (h.nd.imp fun h h'=>h (by omega))
theorem OwnP0.snap(h:OwnP0 H c r p S1 S2):[AV.agg [.f (.int .i64 p.size),c,r]].mapM (snapD H)=some [aP p]:=by
 have e1:∀x:Int,frzC H (.f (.int .i64 x))=some (.f (.int .i64 x)):=fun _=>rfl
 have e2:=h.g.frzC
 have e3:frzC H r=some (.f (fsl eR p.rules)):=by
  rcases h.rr with⟨rfl,h1,_⟩|k
  · rw[h1];exact(OwnL.n (E:=eR) (n:=3)).frzC
  · exact k.frzC
 simp only[snapD,List.mapM_cons,List.mapM_nil,e1,e2,e3,Option.bind_eq_bind,Option.pure_def,Option.bind_some,Option.map_some]
end
section
variable{P:Program}{o:Oper}{st:St}{K:KV}{fo:Operand}{xs:Array Operand}{ts:Array TypeId}{f:FuncId}{args args':List AV}{p:Puz}
end
end Go.Lg

namespace Go.Lg
open Go.Proofs
structure Lat(s:List Int)(n:Nat):Prop where
 hn:n=2∨n=3∨n=4
 full:Full n s
 nc:NC s n
theorem Lat.val{s:List Int}{n:Nat}(h:Lat s n){k:Nat}(hk:k<n*n):1≤(nth s k).toNat∧(nth s k).toNat≤n∧nth s k=((nth s k).toNat:Nat):=by
 have h1:=h.full.2 k hk
 have h2:=h.full.1.val k (by rw[h.full.1.len];exact hk)
 omega
theorem Lat.ne{s:List Int}{n:Nat}(h:Lat s n){a b:Nat}(ha:a<n*n)(hb:b<n*n)(hab:a≠b)(hl:a/n=b/n∨a%n=b%n):(nth s a).toNat≠(nth s b).toNat:=by
 have h1:=h.val ha
 have h2:=h.val hb
 rcases Nat.lt_or_ge a b with hlt|hge
 · have:=h.nc a b hlt hb hl (by omega)
   omega
 · have:=h.nc b a (by omega) ha (hl.imp Eq.symm Eq.symm) (by omega)
   omega
theorem ln_rel{n line i j:Nat}(hn:n=2∨n=3∨n=4)(hl:line<2*n)(hi:i<n)(hj:j<n):lnN n line i/n=lnN n line j/n∨lnN n line i%n=lnN n line j%n:=by
 unfold lnN
 rw[lineC_nth hi,lineC_nth hj]
 split
 · left;rcases hn with rfl|rfl|rfl<;>omega
 · right;rcases hn with rfl|rfl|rfl<;>omega
theorem Lat.line{s:List Int}{n:Nat}(h:Lat s n){line i j:Nat}(hl:line<2*n)(hi:i<n)(hj:j<n)(hij:i≠j):(nth s (lnN n line i)).toNat≠(nth s (lnN n line j)).toNat:=
 h.ne (lnN_lt h.hn hl hi).1 (lnN_lt h.hn hl hj).1 (fun e=>hij ((lnN_inj h.hn hl hi hj).1 e)) (ln_rel h.hn hl hi hj)
end Go.Lg

namespace Go.Lg
open Go.Proofs
attribute [-go_sem] appendM
theorem frz_own0{g:Nat}{xs:List Int}:frzA [some ⟨g,1,cl (eI .i64) xs⟩] (.c (.own 0 g 0 xs.length none))=some (ints xs):=by
 have h:=(OwnI.o (H:=[some ⟨g,1,cl (eI .i64) xs⟩]) 0 g none xs [] (by rw[List.append_nil];exact look_of (b:=⟨g,1,cl (eI .i64) xs⟩) rfl)).frzC
 simp only[frzA,frz1,h]
 rfl
theorem cl_zeros(n:Nat):cl (eI .i64) (List.replicate n 0)=List.replicate n (.f (.int .i64 0)):=by
 induction n with
 |zero=>rfl
 |succ n ih=>
  rw[List.replicate_succ,List.replicate_succ,←ih]
  rfl
theorem softW_makeI{P:Program}{ops:Array Oper}{o:Oper}{s:List AV}{K:AV→Prop}{t:TypeId}{l c:Operand}{ei:TI}{n:Nat}(ho:o.op= .makeSlice t l c)(hs:sliceOf P t=some ei)
 (hz:ei.zero=[.f (.int .i64 0)]∧ei.size=1∧ei.bytes=8) (hl:evO s l=int n) (hc:evO s c=int n) (hn:n≤2^40) (hk:K (ints (List.replicate n 0))):softW P ops o s K:=by
 obtain⟨hz1,hz2,hz3⟩:=hz
 unfold softW
 rw[ho]
 refine⟨ints (List.replicate n 0),fun H=>Soft.ops (fun x hx=> ?_) rfl (fun s' hs'=> ?_),hk⟩
 · rw[ho]at hx
   have:x=l∨x=c:=by simpa[Op.operands]using hx
   rcases this with rfl|rfl
   · rw[hl];rfl
   · rw[hc];rfl
 · refine opM_sound ?_
   have e1:evO s' l=int n:=by rw[hs' l (by rw[ho];simp[Op.operands])];exact hl
   have e2:evO s' c=int n:=by rw[hs' c (by rw[ho];simp[Op.operands])];exact hc
   unfold opM
   rw[ho]
   show makeM P [] t (evO s' l) (evO s' c) _
   unfold makeM
   rw[hs,e1,e2]
   refine⟨⟨by rw[hz1,hz2];rfl,⟨by omega,by omega⟩,by omega,by rw[hz3];omega⟩,fun g=> ?_⟩
   rw[hz1,hz2,zerosL_one,cnt_nat,Nat.mul_one,←cl_zeros]
   have:=frz_own0 (g:=g) (xs:=List.replicate n 0)
   rw[List.length_replicate]at this
   exact this
end Go.Lg

namespace Go.Lg
open Go.Proofs
theorem ice_two{S:Nat→Bool}{H:Heap}{a b a' b':AV}(h1:Ice1 S H a a')(h2:Ice1 S H b b'):∀j (h:j<[a,b].length),∃y,[a',b'][j]? =some y∧Ice1 S H [a,b][j] y:=fun j hj=>by
 match j,hj with
 |0,_=>exact⟨_,rfl,h1⟩
 |1,_=>exact⟨_,rfl,h2⟩
set_option maxHeartbeats 4000000 in
theorem law_FnGivenCount(code:List Int)(hl:code.length≤9223372036854775807)(hw:∀x∈code,(Lit.int .u8 x).wf=true):Reads Tryd.prog 7 [rsl (eI .u8) code] (bool true):=by
 refine RunCall.cw (c:=_) Tryd.func7 rfl (n:=45) Tryd.ntmps7 (rs:=[.tmp 2]) rfl ?_
 simp only[List.length_cons,List.length_nil,zA,zS,List.replicate,List.cons_append,List.nil_append]
 simp(maxSteps:=999999)(disch:=omega)only[go_sem,zA,zM,zS,zE,zL]
 ((first|(with_reducible first|refine condK_dec ?_ ?_|refine condK_ndec ?_ ?_|refine condK_nb ?_ ?_)|refine condK_b ?_ ?_)<;>intro h1)
 · simp(maxSteps:=999999)(disch:=omega)only[go_sem,zA,zM,zS,zE,zL]
 simp(maxSteps:=999999)(disch:=omega)only[go_sem,zA,zM,zS,zE,zL]
 refine OpS.mkF (DrawPuzzleText_run code (wf_u8' hw) (by omega)) (⟨_,Tryd.func25,rfl,rfl⟩:Enters Tryd.prog 25) rfl rfl rfl ?_
 rintro _ ⟨p,rfl,hp⟩
 refine⟨rfl,rfl, ?_⟩
 have hs:=hp.sm
 have hbb:decide (puzzleT p=puzzleT p)=true:=decide_eq_true rfl
 simp(maxSteps:=999999)(disch:=omega)only[go_sem,zA,zM,zS,zE,zL]
 intro g
 refine drawP_q foll (by kernel_rfl) ?_
 simp(maxSteps:=999999)(disch:=omega)only[go_sem,Nat.reduceBEq,Bool.true_or,zA,zM,zS,zE,zL]
 refine quietW.rd (PuzzleText_run p hs) (⟨_,Tryd.func26,rfl,rfl⟩:Enters Tryd.prog 26) rfl rfl rfl rfl ?_
 simp(maxSteps:=999999)(disch:=omega)only[go_sem,zA,zM,zS,zE,zL]
 refine quietW.rd (sPuzzleText_run p hs) (⟨_,Tryd.func27,rfl,rfl⟩:Enters Tryd.prog 27) rfl rfl rfl rfl ?_
 simp(maxSteps:=999999)(disch:=omega)only[go_sem,zA,zM,zS,zE,zL]
 first|refine OpS.rd (sPuzzleValid_run p hs) (⟨_,Tryd.func28,rfl,rfl⟩:Enters Tryd.prog 28) rfl rfl rfl rfl ?_|refine Loud.rd (sPuzzleValid_run p hs) (⟨_,Tryd.func28,rfl,rfl⟩:Enters Tryd.prog 28) rfl rfl rfl rfl ?_
 simp(maxSteps:=999999)(disch:=omega)only[go_sem,zA,zM,zS,zE,zL]
 cases hv:puzzleValid p with
 |false=>
  simp(maxSteps:=999999)(disch:=omega)only[go_sem,zA,zM,zS,zE,zL]
  first|refine OpS.rd (aliveF_run) (⟨_,Tryd.func22,rfl,rfl⟩:Enters Tryd.prog 22) rfl rfl rfl rfl ?_|refine Loud.rd (aliveF_run) (⟨_,Tryd.func22,rfl,rfl⟩:Enters Tryd.prog 22) rfl rfl rfl rfl ?_
  simp(maxSteps:=999999)(disch:=omega)only[go_sem,zA,zM,zS,zE,zL]
 |true=>
  simp(maxSteps:=999999)(disch:=omega)only[go_sem,zA,zM,zS,zE,zL]
  obtain⟨hp1,hsz⟩:=PuzN.of hv
  obtain⟨n,hn⟩:∃n,n=p.size.toNat:=⟨_,rfl⟩
  rw[←hn]at hp1 hsz
  have hgl:=hp1.len
  have hn3:=hp1.hn
  have hmy:manyS n≤576:=by unfold manyS;split<;>(try split)<;>omega
  simp(maxSteps:=999999)(disch:=omega)only[go_sem,zA,zM,zS,zE,zL,←hsz,hgl]
  have hps:smP (zeroP n):=⟨by show(List.replicate (n*n) (0:Int)).length≤_;rw[List.length_replicate];rcases hn3 with rfl|rfl|rfl<;>decide,by show smRs [];exact⟨by simp,fun r hr=>by cases hr⟩⟩
  refine drawP_lM [0,1,2,3,4,5] [5] none [6,7,8] [false] [0,1,0,4,12,28,63,127,255] foll (by kernel_rfl) ?_
  simp(maxSteps:=999999)(disch:=omega)only[go_sem,zA,zM,zS,zE,zL]
  refine softW_makeI (n:=p.given.length) rfl (sliceOf_of' ti22 rfl ti3) ⟨rfl,rfl,rfl⟩ rfl rfl (by rw[hgl];rcases hn3 with rfl|rfl|rfl<;>decide) ?_
  simp(maxSteps:=999999)(disch:=omega)only[go_sem,zA,zM,zS,zE,zL,hgl]
  have hcv:countV (zeroP n) 600=(manyS n:Int):=by rw[count_600 (zeroP_valid hn3),allL_zero hn3]
  have hcs:Reads Tryd.prog 29 [.agg [.f (.int .i64 (n:Int)), .f (fints (List.replicate (n*n) 0)), .f .nil],int 600] (int (countV (zeroP n) 600)):=
   RunCall.iceIn (args:=[.agg [.f (.int .i64 (n:Int)), .f (fints (List.replicate (n*n) 0)), .f .nil],int 600]) (args':=[aP (zeroP n),int 600]) (fun _=>false) (iceH_same fun id b hb=>by simp at hb) rfl (ice_two (ice1_agg3 iceC_s iceC_s (iceC_f rfl)) (.s _)) (CountSolutions_run (zeroP n) 600 hps)
  first|refine OpS.rd (hcs) (⟨_,Tryd.func29,rfl,rfl⟩:Enters Tryd.prog 29) rfl rfl rfl rfl ?_|refine Loud.rd (hcs) (⟨_,Tryd.func29,rfl,rfl⟩:Enters Tryd.prog 29) rfl rfl rfl rfl ?_
  simp(maxSteps:=999999)(disch:=omega)only[go_sem,zA,zM,zS,zE,zL]
  simp(maxSteps:=999999)(disch:=omega)only[go_sem,zA,zM,zS,zE,zL,hcv]
  have hpos:0<manyS n:=by unfold manyS;split<;>(try split)<;>omega
  have hnl:=sqN_len hn3 (manyS n -1) (by omega)
  have hrd:=iSquareNumber_rd hn3 (manyS n -1) (by omega)
  rw[show((manyS n -1:Nat):Int)=(manyS n:Int) -1 by omega]at hrd
  refine drawP_lM [0,1,2,3,4,5,6,7,8,9,10,11,12,13,14,15] [3,11] none [16,17,18] [false] [0,1,0,7,15,31,63,127,255,127,639,2047,4095,127,8319,24703,65535,131071,262143] foll (by kernel_rfl) ?_
  simp(maxSteps:=999999)(disch:=omega)only[go_sem,zA,zM,zS,zE,zL]
  refine softW_call (iSquareNumber_no hn3) (⟨_,Tryd.func30,rfl,rfl⟩:Enters Tryd.prog 30) rfl rfl (by
   intro x hm
   simp only[Call.operands,List.mem_toArray,Array.mem_append,List.mem_cons,List.not_mem_nil,or_false]at hm
   rcases hm with rfl|rfl|rfl<;>rfl) rfl ⟨rfl,rfl,rfl,rfl⟩ ?_
  have h00:decide (((0:Nat):Int)=0)=true:=rfl
  simp(maxSteps:=999999)(disch:=omega)only[go_sem,zA,zM,zS,zE,zL,h00]
  refine softW_call hrd (⟨_,Tryd.func30,rfl,rfl⟩:Enters Tryd.prog 30) rfl rfl (by
   intro x hm
   simp only[Call.operands,List.mem_toArray,Array.mem_append,List.mem_cons,List.not_mem_nil,or_false]at hm
   rcases hm with rfl|rfl|rfl<;>rfl) rfl ⟨rfl,rfl,rfl,rfl⟩ ?_
  simp(maxSteps:=999999)(disch:=omega)only[go_sem,zA,zM,zS,zE,zL,hnl,hgl]
end Go.Lg
