/- GpCF, GpCG, GpWE, GpN, GpX, GpY, GpZ, GpJC, GpKC, GpKD, cut to what is needed. -/
import Derived.Test.YtiahmfdabpafoaaDoorHac0
import Derived.Test.YtiahmfdabpafoaaDoorHac3
import Derived.Test.YtiahmfdabpafoaaDoorHac7
import Derived.Test.YtiahmfdabpafoaaDoorHac6
import Derived.Test.YtiahmfdabpafoaaDoorHac1
import Derived.Test.YtiahmfdabpafoaaDoorHab5
open Nat renaming reduceAdd→zA,reduceMul→zM,reduceSub→zS,reduceEqDiff→zE,reduceLeDiff→zL
set_option linter.unusedSimpArgs false
set_option linter.unusedVariables false
set_option maxRecDepth 100000
namespace Go.Lg
open Go.Proofs
theorem sameInts_run(xs ys:List Int)(hx:xs.length≤2^40):Reads Tryd.prog 23 [ints xs,ints ys] (bool (decide (xs=ys))):=by
 refine RunCall.cw (c:=_) Tryd.func23 rfl (n:=26) Tryd.ntmps23 (rs:=[.tmp 4]) rfl ?_
 simp only[List.length_cons,List.length_nil,zA,zS,List.replicate,List.cons_append,List.nil_append]
 simp(maxSteps:=999999)(disch:=omega)only[go_sem,zA,zM,zS,zE,zL]
 refine condK_split (fun h=> ?_) (fun h=> ?_)<;>simp(maxSteps:=999999)(disch:=omega)only[go_sem,zA,zM,zS,zE,zL]
 · simp at h
   symm;simp;intro h2;exact h (by rw[h2])
 have hl:xs.length=ys.length:=by simp at h;omega
 refine loop_rule (fun i:Nat=>xs.length -i) (fun i=>i≤xs.length∧∀j:Nat,j<i→nth xs j=nth ys j) (fun i=>[.k, .k, .a, .a, .a, .p (int i), .a, .a, .a, .a, .a, .a, .a, .a, .a, .a, .a, .a, .a, .a, .a, .a, .a, .a, .a, .a]) (fun i=>[]) 0
  ⟨Nat.zero_le _,fun j hj=>absurd hj (Nat.not_lt_zero _)⟩ (by simp(maxSteps:=999999)(disch:=omega)only[go_sem,zA,zM,zS,zE,zL];rfl) (hle_nil _) ?_
 rintro i ⟨hi,hall⟩
 simp(maxSteps:=999999)(disch:=omega)only[go_sem,zA,zM,zS,zE,zL]
 refine condK_split (fun h=> ?_) (fun h=> ?_)
 · have h:i<xs.length:=by simpa using h
   simp(maxSteps:=999999)(disch:=omega)only[go_sem,zA,zM,zS,zE,zL]
   refine drawP_q foll (by kernel_rfl) ?_
   simp(maxSteps:=999999)(disch:=omega)only[go_sem,Nat.reduceBEq,Bool.true_or,zA,zM,zS,zE,zL]
   refine condK_split (fun h=> ?_) (fun h=> ?_)<;>simp(maxSteps:=999999)(disch:=omega)only[go_sem,zA,zM,zS,zE,zL]
   · simp at h
     symm;simp;intro h2;exact h (by rw[h2])
   simp at h
   refine⟨i+1,⟨⟨by omega,fun j hj=> ?_⟩,by omega⟩,by omega,hle_nil _⟩
   rcases Nat.lt_succ_iff_lt_or_eq.1 hj with hj|rfl
   · exact hall j hj
   · exact h
 have h:¬i<xs.length:=by simpa using h
 simp(maxSteps:=999999)(disch:=omega)only[go_sem,zA,zM,zS,zE,zL]
 have:=ext_nth hl fun j hj=>hall j (by omega)
 simp[this]
end Go.Lg

namespace Go.Lg
open Go.Proofs
attribute [-go_sem] lwF_cons
theorem sub_len{α:Type}(l:List α)(a b:Int):(sub l a b).length≤l.length:=by simp[sub];omega
theorem softW_parts{P:Program}{ops:Array Oper}{o:Oper}{s:List AV}{K:AV→Prop}{t:TypeId}{n:Nat}{ps:Array (Nat×Operand)}{ei:TI}{rs:List (Nat×List CV)}{xs:List FV}(ho:o.op= .buildSlice t n ps)(hn:n≠0)(ht:sliceOf P t=some ei)
 (hp:partsV s ps.toList=some rs) (hq:seqOk ei.size 0 rs=true∧rs.length=n) (hc:icedL (catL rs)=some xs) (hz:ei.zero.length=ei.size∧n*ei.size≤16777216) (hk:K (.c (.f (.sl n xs)))):softW P ops o s K:=by
 unfold softW
 rw[ho]
 simp only
 rw[if_neg (fun h=>hn h.1)]
 unfold softBuild
 simp only[ht,hp,hc]
 rw[if_pos hq]
 exact⟨hz,hk⟩
theorem mask_rep:∀(n:Nat) (H:Heap),H.length≤n→∀(i:Nat) (b:Blk),(mask (List.replicate n true) H)[i]?≠some (some b)
 |0,H,h,i,b=>by
  have:H=[]:=List.eq_nil_of_length_eq_zero (by omega)
  subst this
  simp[mask]
 |n+1,[],h,i,b=>by simp[mask,List.replicate_succ]
 |n+1,x::H,h,i,b=>by
  rw[List.replicate_succ]
  cases i with
  |zero=>simp[mask]
  |succ i=>
   simp only[mask,List.getElem?_cons_succ]
   exact mask_rep n H (by simpa using h) i b
theorem okM_rep(H H':Heap):okM (List.replicate H.length true) H H':=fun i b h=>absurd h (mask_rep _ H (Nat.le_refl _) i b)
def l20TextQ(k:Nat):KV:=fun v _=>∃t:List UInt8,v=txt t∧t.length≤k
theorem l20Text_run(H:Heap)(id g:Nat)(B n:Int)(s:List UInt8)(hr:RdAt H id g B)(hB:B≤2^38)(hn9:n≤100)(hs:s.length≤1000):RunCall Tryd.prog 55 [.c (.ptr id g 0),txt s,int n] H (l20TextQ (2*s.length+1)):=by
 have hlt:=hr.lt
 refine RunCall.cw (c:=_) Tryd.func55 rfl (n:=61) Tryd.ntmps55 (rs:=[.tmp 6]) rfl ?_
 simp only[List.length_cons,List.length_nil,zA,zS,List.replicate,List.cons_append,List.nil_append]
 simp(maxSteps:=999999)(disch:=omega)only[go_sem,zA,zM,zS,zE,zL]
 refine OpS.run (odd_run H id g B n hr (by omega) (by omega)) (⟨_,Tryd.func53,rfl,rfl⟩:Enters Tryd.prog 53) rfl rfl ?_
 rintro _ H1 ⟨⟨b,rfl,hb⟩,r1,f1⟩
 simp(maxSteps:=999999)(disch:=omega)only[go_sem,zA,zM,zS,zE,zL]
 ((first|(with_reducible first|refine condK_dec ?_ ?_|refine condK_ndec ?_ ?_|refine condK_nb ?_ ?_)|refine condK_b ?_ ?_)<;>intro h1)
 · simp(maxSteps:=999999)(disch:=omega)only[go_sem,zA,zM,zS,zE,zL]
   refine OpS.run (pick_run _ id g _ _ r1 (by omega)) (⟨_,Tryd.func54,rfl,rfl⟩:Enters Tryd.prog 54) rfl rfl ?_
   rintro _ H2 ⟨⟨at_,rfl,a0,a1⟩,r2,f2⟩
   have a1:=a1 (by omega)
   obtain⟨i,rfl⟩:∃i:Nat,at_=i:=⟨at_.toNat,by omega⟩
   have hi:i≤s.length:=by omega
   simp(maxSteps:=999999)(disch:=omega)only[go_sem,zA,zM,zS,zE,zL]
   have q1:=sub_len s 0 i
   have q2:=sub_len s i s.length
   have q3:=sub_len s (min (s.length:Int) ((i:Int)+1)) s.length
   refine drawP_lM [0,1,2,3,4,5,6,7,8,9,10,11,12,13,14,15,16,17,18,19,20,21,22,23,24,25,26,27,28,29,30,31,32,33,34,35,36,37,38,39,40] [38] none [41,42,43] (List.replicate H2.length true) [0,1,0,0,12,0,0,96,224,0,0,1536,4064,0,0,24576,0,0,131072,0,524288,1966080,4128768,8380416,0,16777216,0,0,201326592,469762048,0,0,2147483648,0,8589934592,32212254720,67645734912,137371844608,274877906943,0,549755813888,2199023255551,4398046511103,8796093022207] foll (by kernel_rfl) ?_
   iterate 38 (rw[lwF_cons];simp(maxSteps:=999999)(disch:=omega)only[go_sem,zA,zM,zS,zE,zL])
   rw[lwF_cons]
   simp only[List.getElem?_toArray,List.getElem?_cons_succ,List.getElem?_cons_zero,lwO_some,reduceCtorEq,if_false,lwOne_op,isVal,Bool.false_eq_true,List.contains_cons,List.contains_nil,BEq.rfl,Bool.true_or,Bool.or_true,if_true]
   refine softW_parts (n:=7) rfl (by decide) (sliceOf_of' ti57 rfl ti9) rfl ⟨rfl,rfl⟩ rfl ⟨rfl,by decide⟩ ?_
   change lwS _ _ _ _ _ _ _ _ _ _ _ (rsl eS [[],s++[32],sub s 0 i,sub s 0 i++[46]++sub s i s.length,sub s 0 i++sub s (min (s.length:Int) ((i:Int)+1)) s.length,32::s,sub s 0 i++[120]++sub s (min (s.length:Int) ((i:Int)+1)) s.length])
   have hall:∀t∈[[],s++[32],sub s 0 i,sub s 0 i++[46]++sub s i s.length,sub s 0 i++sub s (min (s.length:Int) ((i:Int)+1)) s.length,32::s,sub s 0 i++[120]++sub s (min (s.length:Int) ((i:Int)+1)) s.length],t.length≤2*s.length+1:=by
    intro t ht
    simp only[List.mem_cons,List.not_mem_nil,or_false]at ht
    rcases ht with rfl|rfl|rfl|rfl|rfl|rfl|rfl<;>(try simp)<;>omega
   generalize hL:[[],s++[32],sub s 0 i,sub s 0 i++[46]++sub s i s.length,sub s 0 i++sub s (min (s.length:Int) ((i:Int)+1)) s.length,32::s,sub s 0 i++[120]++sub s (min (s.length:Int) ((i:Int)+1)) s.length]=L at hall⊢
   have hl7:L.length=7:=by rw[←hL];rfl
   clear hL
   rw[lwS_ap,lwF_cons]
   simp(maxSteps:=999999)(disch:=omega)only[go_sem,zA,zM,zS,zE,zL]
   rw[lwF_cons]
   simp(maxSteps:=999999)(disch:=omega)only[go_sem,zA,zM,zS,zE,zL]
   refine Loud.run (pick_run _ id g _ _ r2 (by omega)) (⟨_,Tryd.func54,rfl,rfl⟩:Enters Tryd.prog 54) rfl rfl ?_
   rintro _ H3 ⟨⟨y,rfl,y0,y1⟩,r3,f3⟩
   have y1:=y1 (by omega)
   obtain⟨yn,rfl⟩:∃yn:Nat,y=yn:=⟨y.toNat,by omega⟩
   have hyl:yn<L.length:=by omega
   refine⟨okM_rep _ _, ?_⟩
   simp(maxSteps:=999999)(disch:=omega)only[go_sem,zA,zM,zS,zE,zL]
   refine⟨[],hle_nil _,nth L yn,rfl,hall _ ?_⟩
   rw[nth_eq (by omega)]
   exact List.getElem_mem _
 · simp(maxSteps:=999999)(disch:=omega)only[go_sem,zA,zM,zS,zE,zL]
   exact⟨[],hle_nil _,s,rfl,by omega⟩
end Go.Lg

namespace Go.Lg
open Go.Proofs
def drawL:List (List UInt8):=[[115,97,98,61,48,51],[115,97,98],[108,97,98,61,49],[108,98,97],[108,97,98],[97,97,98,61,52],[100],[122,97,98]]
theorem drawL_len{t:List UInt8}(h:t∈drawL):t.length≤6:=by
 have:(drawL.all fun t=>decide (t.length≤6))=true:=rfl
 exact of_decide_eq_true (List.all_eq_true.1 this t h)
theorem DrawRuleText_run(code:List Int)(hb:∀x∈code,0≤x∧x≤255)(hl:code.length≤2^40):RunCall Tryd.prog 18 [rsl (eI .u8) code] [] (fun v _=>∃r:Rul,v=aR r∧r.cells.length≤5):=by
 refine RunCall.cw (c:=_) Tryd.func18 rfl (n:=10) Tryd.ntmps18 (rs:=[.cell 2 24]) rfl ?_
 simp only[List.length_cons,List.length_nil,zA,zS,List.replicate,List.cons_append,List.nil_append]
 simp(maxSteps:=999999)(disch:=omega)only[go_sem,zA,zM,zS,zE,zL]
 intro g0
 refine OpS.mkRd (l20Open_run code hb hl) (⟨_,Tryd.func44,rfl,rfl⟩:Enters Tryd.prog 44) rfl rfl rfl ?_
 intro g H1 r1 hl1
 simp(maxSteps:=999999)(disch:=omega)only[go_sem,zA,zM,zS,zE,zL]
 refine OpS.run (l20Solved_run (.inr (.inr rfl)) _ 1 g 0 r1 (by omega)) (⟨_,Tryd.func46,rfl,rfl⟩:Enters Tryd.prog 46) rfl rfl ?_
 rintro _ H2 ⟨cid,cg,rfl,⟨ys,y1,y2⟩,r2,_,c1,c2,c3⟩
 have hl0:0<([some ⟨g0,3,[.f (.int .i64 0), .f .nil, .f (.int .i64 0)]⟩]++H1:Heap).length:=by simp
 simp(maxSteps:=999999)(disch:=omega)only[go_sem,zA,zM,zS,zE,zL]
 refine OpS.run (l20Rule_run (.inr (.inr rfl)) H2 1 g _ 4 r2 (by omega) (by omega) cid cg ys y1 y2 (by simp at c1;omega)) (⟨_,Tryd.func45,rfl,rfl⟩:Enters Tryd.prog 45) rfl rfl ?_
 rintro _ H3 ⟨⟨r,rfl,hrl⟩,r3,f3⟩
 have l0:look H3 0 g0=some ⟨g0,3,[.f (.int .i64 0), .f .nil, .f (.int .i64 0)]⟩:=by
  rw[f3.look (by simp)]
  unfold look
  rw[c3 0 hl0 (by omega)]
  simp
 have hS:∀b,look (H3.set 0 (some ⟨g0,3,b⟩)) 0 g0=some ⟨g0,3,b⟩:=fun b=>look_set_eq' (List.getElem?_eq_some_iff.1 (look_some l0).1).1
 simp(maxSteps:=999999)(disch:=omega)only[go_sem,zA,zM,zS,zE,zL,l0,hS]
 exact⟨_,HLe.refl _,r,rfl,hrl⟩
theorem DrawReadRule_run(code:List Int)(hb:∀x∈code,0≤x∧x≤255)(hl:code.length≤2^40):RunCall Tryd.prog 24 [rsl (eI .u8) code] [] (fun v _=>∃t:List UInt8,v=txt t∧t.length≤1000):=by
 refine RunCall.cw (c:=_) Tryd.func24 rfl (n:=22) Tryd.ntmps24 (rs:=[.tmp 2]) rfl ?_
 simp only[List.length_cons,List.length_nil,zA,zS,List.replicate,List.cons_append,List.nil_append]
 simp(maxSteps:=999999)(disch:=omega)only[go_sem,zA,zM,zS,zE,zL]
 refine OpS.run (l20Open_run code hb hl) (⟨_,Tryd.func44,rfl,rfl⟩:Enters Tryd.prog 44) rfl rfl ?_
 rintro _ H1 ⟨g,rfl,r1,hl1⟩
 simp(maxSteps:=999999)(disch:=omega)only[go_sem,zA,zM,zS,zE,zL]
 refine OpS.run (l20Solved_run (.inr (.inr rfl)) H1 0 g 0 r1 (by omega)) (⟨_,Tryd.func46,rfl,rfl⟩:Enters Tryd.prog 46) rfl rfl ?_
 rintro _ H2 ⟨cid,cg,rfl,⟨ys,y1,y2⟩,r2,_,c1,c2,c3⟩
 simp(maxSteps:=999999)(disch:=omega)only[go_sem,zA,zM,zS,zE,zL]
 refine OpS.run (l20Rule_run (.inr (.inr rfl)) H2 0 g _ 0 r2 (by omega) (by omega) cid cg ys y1 y2 (by omega)) (⟨_,Tryd.func45,rfl,rfl⟩:Enters Tryd.prog 45) rfl rfl ?_
 rintro _ H3 ⟨⟨r,rfl,hrl⟩,r3,f3⟩
 have hrt:=ruleT_len r
 simp(maxSteps:=999999)(disch:=omega)only[go_sem,zA,zM,zS,zE,zL]
 first|refine OpS.rd (sRuleText_run r (by omega)) (⟨_,Tryd.func20,rfl,rfl⟩:Enters Tryd.prog 20) rfl rfl rfl rfl ?_|refine Loud.rd (sRuleText_run r (by omega)) (⟨_,Tryd.func20,rfl,rfl⟩:Enters Tryd.prog 20) rfl rfl rfl rfl ?_
 simp(maxSteps:=999999)(disch:=omega)only[go_sem,zA,zM,zS,zE,zL]
 refine OpS.run (odd_run H3 0 g _ 5 r3 (by omega) (by omega)) (⟨_,Tryd.func53,rfl,rfl⟩:Enters Tryd.prog 53) rfl rfl ?_
 rintro _ H4 ⟨⟨b,rfl,hb'⟩,r4,f4⟩
 simp(maxSteps:=999999)(disch:=omega)only[go_sem,zA,zM,zS,zE,zL]
 ((first|(with_reducible first|refine condK_dec ?_ ?_|refine condK_ndec ?_ ?_|refine condK_nb ?_ ?_)|refine condK_b ?_ ?_)<;>intro h1)
 · simp(maxSteps:=999999)(disch:=omega)only[go_sem,zA,zM,zS,zE,zL]
   intro g5
   refine OpS.run (pick_run _ 0 g _ 8 r4.app (by omega)) (⟨_,Tryd.func54,rfl,rfl⟩:Enters Tryd.prog 54) rfl rfl ?_
   rintro _ H5 ⟨⟨y,rfl,y0,y1⟩,r5,f5⟩
   have y1:=y1 (by omega)
   obtain⟨yn,rfl⟩:∃yn:Nat,y=yn:=⟨y.toNat,by omega⟩
   have hlt4:=r4.lt
   have k:look H5 H4.length g5=some ⟨g5,1,cl eS drawL⟩:=by
    rw[f5.look (fun h=>by have:=List.mem_singleton.1 h;omega)]
    exact look_of (b:=⟨g5,1,cl eS drawL⟩) (by simp;rfl)
   have hdl:drawL.length=8:=rfl
   simp(maxSteps:=999999)(disch:=omega)only[go_sem,zA,zM,zS,zE,zL,k,hdl]
   refine⟨[],hle_nil _,nth drawL yn,rfl, ?_⟩
   have hm:nth drawL (yn:Int)∈drawL:=by
    rw[nth_eq (by rw[hdl];omega)]
    exact List.getElem_mem _
   have:=drawL_len hm
   omega
 · simp(maxSteps:=999999)(disch:=omega)only[go_sem,zA,zM,zS,zE,zL]
   refine OpS.run (l20Text_run H4 0 g _ 3 _ r4 (by omega) (by omega) (by omega)) (⟨_,Tryd.func55,rfl,rfl⟩:Enters Tryd.prog 55) rfl rfl ?_
   rintro _ H5 ⟨t,rfl,ht⟩
   simp(maxSteps:=999999)(disch:=omega)only[go_sem,zA,zM,zS,zE,zL]
   exact⟨[],hle_nil _,t,rfl,by omega⟩
end Go.Lg

namespace Go.Lg
open Go.Proofs
def bothG(a b:List Int):List Int:=(List.range a.length).map fun i:Nat=>max (nth a i) (nth b i)
def gameGrid(q:Gam):List Int:=if gameValid q then bothG q.task.given q.put else[]
end Go.Lg

namespace Go.Lg
open Go.Proofs
theorem resV_cellTmp(P:Program)(s:List AV)(H:Heap)(t u:Nat)(ty:TypeId):resV P s H [.cell t ty, .tmp u]=(loadV P H ty (s.getD t .void)).map fun v=> .tup [v,s.getD u .void]:=by
 simp only[resV,resAll,resOne]
 cases loadV P H ty (s.getD t .void)<;>rfl
attribute [go_sem] resV_cellTmp
inductive OwnA(H:Heap):CV→List Int→List Nat→Prop where
 |n:OwnA H (.f .nil) [] []
 |o (id g:Nat) (xs:List Int) (h:look H id g=some ⟨g,1,cl (eI .i64) xs⟩):OwnA H (.own id g 0 xs.length none) xs [id]
theorem OwnA.toI{H:Heap}{c:CV}{xs:List Int}{S:List Nat}(h:OwnA H c xs S):OwnI H (nzC c) xs S:=by
 cases h with
 |n=>exact .e
 |o id g xs h=>exact .o id g none xs [] (by rw[List.append_nil];exact h)
theorem OwnA.same{H H':Heap}{c:CV}{xs:List Int}{S:List Nat}(h:OwnA H c xs S)(hs:∀i∈S,H'[i]? =H[i]?):OwnA H' c xs S:=by
 cases h with
 |n=>exact .n
 |o id g xs h=>exact .o id g xs (by unfold look at*;rw[hs id (by simp)];exact h)
theorem OwnA.shift{H0 H:Heap}{c:CV}{xs:List Int}{S:List Nat}(h:OwnA H c xs S):OwnA (H0++shiftH H0.length H) (shiftC H0.length c) xs (S.map (· +H0.length)):=by
 cases h with
 |n=>exact .n
 |o id g xs h=>
  refine .o (id+H0.length) g xs ?_
  rw[look_shiftH h]
  simp only[shiftB,shift_cl]
theorem OwnA.lt{H:Heap}{c:CV}{xs:List Int}{S:List Nat}(h:OwnA H c xs S):∀i∈S,i<H.length:=fun i hi=>h.toI.lt i hi
theorem OwnA.nd{H:Heap}{c:CV}{xs:List Int}{S:List Nat}(h:OwnA H c xs S):S.Nodup:=h.toI.nd
structure OwnGA(H:Heap)(cs:List CV)(q:Gam)(S:List Nat):Prop where
 ex:∃c1 c2 c3 c4 S1 S2 S3 S4,cs=[.f (.int .i64 q.task.size),c1,c2,c3,c4]∧S=S1++(S2++(S3++S4))∧OwnI H c1 q.task.given S1∧OwnR H c2 q.task.rules S2∧OwnI H c3 q.put S3∧OwnA H c4 q.moves S4
 nd:S.Nodup
theorem OwnGA.shift{H0 H:Heap}{cs:List CV}{q:Gam}{S:List Nat}(h:OwnGA H cs q S):OwnGA (H0++shiftH H0.length H) (cs.map (shiftC H0.length)) q (S.map (· +H0.length)):=by
 obtain⟨c1,c2,c3,c4,S1,S2,S3,S4,rfl,rfl,h1,h2,h3,h4⟩:=h.ex
 exact⟨⟨_,_,_,_,_,_,_,_,rfl,by simp,h1.shift,h2.shift,h3.shift,h4.shift⟩,nodup_shift h.nd⟩
theorem OwnGA.lt{H:Heap}{cs:List CV}{q:Gam}{S:List Nat}(h:OwnGA H cs q S):∀i∈S,i<H.length:=by
 obtain⟨c1,c2,c3,c4,S1,S2,S3,S4,rfl,rfl,h1,h2,h3,h4⟩:=h.ex
 intro i hi
 simp only[List.mem_append]at hi
 rcases hi with hi|hi|hi|hi
 · exact h1.lt i hi
 · exact h2.lt i hi
 · exact h3.lt i hi
 · exact h4.lt i hi
theorem OwnGA.same{H H':Heap}{cs:List CV}{q:Gam}{S:List Nat}(h:OwnGA H cs q S)(hs:∀i∈S,H'[i]? =H[i]?):OwnGA H' cs q S:=by
 obtain⟨c1,c2,c3,c4,S1,S2,S3,S4,rfl,rfl,h1,h2,h3,h4⟩:=h.ex
 refine⟨⟨_,_,_,_,_,_,_,_,rfl,rfl,h1.same fun i hi=>hs i ?_,h2.same fun i hi=>hs i ?_,h3.same fun i hi=>hs i ?_,h4.same fun i hi=>hs i ?_⟩,h.nd⟩<;>simp[hi]
section
variable{P:Program}{o:Oper}{st:St}{K:KV}{fo:Operand}{xs:Array Operand}{ts:Array TypeId}{f:FuncId}{args args':List AV}{zs:List Int}{ops:Array Oper}{s:List AV}{H:Heap}
end
theorem OwnI.inv{H:Heap}{c:CV}{xs:List Int}{S:List Nat}(h:OwnI H c xs S)(hn:xs≠[]):∃id g lim ys,c= .own id g 0 xs.length lim∧S=[id]∧look H id g=some ⟨g,1,cl (eI .i64) (xs++ys)⟩:=by
 cases h with
 |e=>exact absurd rfl hn
 |o id g lim xs ys h=>exact⟨id,g,lim,ys,rfl,rfl,h⟩
end Go.Lg

namespace Go.Lg
open Go.Proofs
attribute [-go_sem] appendM
def putOk(q:Gam)(cell value:Int):Prop:=0≤cell∧cell<q.put.length∧nth (gameGrid q) cell≤0∧1≤value∧value≤q.task.size
instance(q:Gam)(cell value:Int):Decidable (putOk q cell value):=by unfold putOk;infer_instance
end Go.Lg

namespace Go.Lg
open Go.Proofs
attribute [-go_sem] appendM
theorem OwnA.inv{H:Heap}{c:CV}{xs:List Int}{S:List Nat}(h:OwnA H c xs S)(hn:xs≠[]):∃id g,c= .own id g 0 xs.length none∧S=[id]∧look H id g=some ⟨g,1,cl (eI .i64) xs⟩:=by
 cases h with
 |n=>exact absurd rfl hn
 |o id g xs h=>exact⟨id,g,rfl,rfl,h⟩
end Go.Lg

namespace Go.Lg
open Go.Proofs
attribute [-go_sem] appendM lwF_cons
structure OwnP0(H:Heap)(c r:CV)(p:Puz)(S1 S2:List Nat):Prop where
 g:OwnI H c p.given S1
 rr:(r= .f .nil∧p.rules=[]∧S2=[])∨OwnR H r p.rules S2
 nd:(S1++S2).Nodup
 l:limN r
theorem limN_shift{r:CV}{k:Nat}(h:limN r):limN (shiftC k r):=by
 cases r with
 |f v=>cases v<;>exact h
 |_=>exact h
section
variable{H H':Heap}{c r:CV}{p:Puz}{S1 S2:List Nat}
theorem OwnP0.same(h:OwnP0 H c r p S1 S2)(hs:∀i∈S1++S2,H'[i]? =H[i]?):OwnP0 H' c r p S1 S2:=
 ⟨h.g.same fun i hi=>hs i (by simp[hi]),h.rr.imp id fun k=>k.same fun i hi=>hs i (by simp[hi]),h.nd,h.l⟩
theorem OwnP0.lt(h:OwnP0 H c r p S1 S2):∀i∈S1++S2,i<H.length:=fun i hi=>by
 rcases List.mem_append.1 hi with hi|hi
 · exact h.g.lt i hi
 · rcases h.rr with⟨_,_,rfl⟩|k
   · simp at hi
   · exact k.lt i hi
theorem OwnP0.blk(h:OwnP0 H c r p S1 S2):(∀i∈S1++S2,∀b,H[i]? =some (some b)→∀x∈b.cs,scalC x=true)∧scalC c=true∧scalC r=true:=by
 refine⟨fun i hi=> ?_,h.g.scal1, ?_⟩
 · rcases List.mem_append.1 hi with hi|hi
   · exact h.g.blk i hi
   · rcases h.rr with⟨_,_,rfl⟩|k
     · simp at hi
     · exact k.blk i hi
 · rcases h.rr with⟨rfl,_,_⟩|k
   · rfl
   · exact k.scal1
theorem OwnP0.shift{H0:Heap}(h:OwnP0 H c r p S1 S2):OwnP0 (H0++shiftH H0.length H) (shiftC H0.length c) (shiftC H0.length r) p (S1.map (· +H0.length)) (S2.map (· +H0.length)):=by
 refine⟨h.g.shift, ?_, ?_,limN_shift h.l⟩
 · rcases h.rr with⟨rfl,h1,rfl⟩|k
   · exact .inl ⟨rfl,h1,rfl⟩
   · exact .inr k.shift
 · rw[←List.map_append]
   exact List.pairwise_map.2 (h.nd.imp fun h h'=>h (by omega))
theorem OwnP0.snap(h:OwnP0 H c r p S1 S2):[AV.agg [.f (.int .i64 p.size),c,r]].mapM (snapD H)=some [aP p]:=by
 have e1:∀x:Int,frzC H (.f (.int .i64 x))=some (.f (.int .i64 x)):=fun _=>rfl
 have e2:=h.g.frzC
 have e3:frzC H r=some (.f (fsl eR p.rules)):=by
  rcases h.rr with⟨rfl,h1,_⟩|k
  · rw[h1];exact(OwnL.n (E:=eR) (n:=3)).frzC
  · exact k.frzC
 simp only[snapD,List.mapM_cons,List.mapM_nil,e1,e2,e3,Option.bind_eq_bind,Option.pure_def,Option.bind_some,Option.map_some]
end
section
variable{P:Program}{o:Oper}{st:St}{K:KV}{fo:Operand}{xs:Array Operand}{ts:Array TypeId}{f:FuncId}{args args':List AV}{p:Puz}
end
end Go.Lg

namespace Go.Lg
open Go.Proofs
def eP2(q:Int×Int):List FV:=[.int .i64 q.1, .int .i64 q.2]
instance:HSz eP2 2:=⟨fun _=>rfl⟩
end Go.Lg

namespace Go.Lg
open Go.Proofs
theorem snapD_aR{H:Heap}{r:Rul}:snapD H (aR r)=some (aR r):=rfl
end Go.Lg
