/- GpGD, cut to what is needed. -/
import Derived.Test.YtiahmfdabpafoaaDoorGad2
import Derived.Test.YtiahmfdabpafoaaDoorGab4
open Nat renaming reduceAdd→zA,reduceMul→zM,reduceSub→zS,reduceEqDiff→zE,reduceLeDiff→zL
set_option linter.unusedSimpArgs false
set_option linter.unusedVariables false
set_option maxRecDepth 100000
namespace Go.Lg
open Go.Proofs
theorem sGridFilled_run(xs:List Int)(n:Int)(hx:xs.length≤2^40):Reads Tryd.prog 99 [ints xs,int n] (int (gridFilled xs n)):=by
 refine RunCall.cw (c:=_) Tryd.func99 rfl (n:=25) Tryd.ntmps99 (rs:=[.tmp 4]) rfl ?_
 simp only[List.length_cons,List.length_nil,zA,zS,List.replicate,List.cons_append,List.nil_append]
 simp(maxSteps:=999999)(disch:=omega)only[go_sem,zA,zM,zS,zE,zL]
 first|refine OpS.rd (sGridValid_run xs n hx) (⟨_,Tryd.func59,rfl,rfl⟩:Enters Tryd.prog 59) rfl rfl rfl rfl ?_|refine Loud.rd (sGridValid_run xs n hx) (⟨_,Tryd.func59,rfl,rfl⟩:Enters Tryd.prog 59) rfl rfl rfl rfl ?_
 simp(maxSteps:=999999)(disch:=omega)only[go_sem,zA,zM,zS,zE,zL]
 ((first|(with_reducible first|refine condK_dec ?_ ?_|refine condK_ndec ?_ ?_|refine condK_nb ?_ ?_)|refine condK_b ?_ ?_)<;>intro hv)
 rotate_left
 · simp(maxSteps:=999999)(disch:=omega)only[go_sem,zA,zM,zS,zE,zL]
   unfold gridFilled
   rw[if_neg (by rw[hv];simp)]
 have hg:gridFilled xs n=(xs.countP fun v=>decide (0<v):Nat):=by unfold gridFilled;rw[if_pos hv]
 rw[hg]
 simp(maxSteps:=999999)(disch:=omega)only[go_sem,zA,zM,zS,zE,zL]
 refine loop_rule (fun k:Nat=>xs.length -k) (fun k=>k≤xs.length) (fun k=>[.k, .a, .a, .a, .a, .p (int ((xs.take k).countP fun v=>decide (0<v):Nat)), .p (int k), .a, .a, .a, .a, .a, .a, .a, .a, .a, .a, .a, .a, .a, .a, .a, .a, .a, .a]) (fun _=>[]) 0 (Nat.zero_le _) (by simp(maxSteps:=999999)(disch:=omega)only[go_sem,zA,zM,zS,zE,zL];exact⟨by simp,rfl⟩) (hle_nil _) ?_
 intro k hk
 have hc:=countP_le xs (fun v=>decide (0<v)) k
 simp(maxSteps:=999999)(disch:=omega)only[go_sem,zA,zM,zS,zE,zL]
 ((first|(with_reducible first|refine condK_dec ?_ ?_|refine condK_ndec ?_ ?_|refine condK_nb ?_ ?_)|refine condK_b ?_ ?_)<;>intro c1)
 · have c1:k<xs.length:=by omega
   have hs:=countP_take (f:=fun v=>decide (0<v)) c1
   simp(maxSteps:=999999)(disch:=omega)only[go_sem,zA,zM,zS,zE,zL]
   ((first|(with_reducible first|refine condK_dec ?_ ?_|refine condK_ndec ?_ ?_|refine condK_nb ?_ ?_)|refine condK_b ?_ ?_)<;>intro c2)
   · rw[decide_eq_true c2,if_pos rfl]at hs
     simp(maxSteps:=999999)(disch:=omega)only[go_sem,zA,zM,zS,zE,zL]
     refine⟨k+1,⟨by omega,by omega⟩,⟨by rw[hs];push_cast;omega,by push_cast;omega⟩,hle_nil _⟩
   · rw[decide_eq_false c2,if_neg (by simp)]at hs
     simp(maxSteps:=999999)(disch:=omega)only[go_sem,zA,zM,zS,zE,zL]
     refine⟨k+1,⟨by omega,by omega⟩,⟨by rw[hs];rfl,by push_cast;omega⟩,hle_nil _⟩
 · have hke:k=xs.length:=by omega
   simp(maxSteps:=999999)(disch:=omega)only[go_sem,zA,zM,zS,zE,zL]
   rw[hke,List.take_length]
def solvedV(p:Puz)(xs:List Int):Bool:=(puzzleValid p&&(gridValid xs p.size&&fitsL p xs p.size.toNat))&&decide (gridFilled xs p.size=xs.length)
theorem sPuzzleSolved_run(p:Puz)(xs:List Int)(hx:smP p)(hl:xs.length≤2^40):Reads Tryd.prog 77 [aP p,ints xs] (bool (solvedV p xs)):=by
 refine RunCall.cw (c:=_) Tryd.func77 rfl (n:=17) Tryd.ntmps77 (rs:=[.tmp 4]) rfl ?_
 simp only[List.length_cons,List.length_nil,zA,zS,List.replicate,List.cons_append,List.nil_append]
 simp(maxSteps:=999999)(disch:=omega)only[go_sem,zA,zM,zS,zE,zL]
 intro g
 first|refine OpS.rd (sPuzzleFits_run p xs hx hl) (⟨_,Tryd.func98,rfl,rfl⟩:Enters Tryd.prog 98) rfl rfl rfl rfl ?_|refine Loud.rd (sPuzzleFits_run p xs hx hl) (⟨_,Tryd.func98,rfl,rfl⟩:Enters Tryd.prog 98) rfl rfl rfl rfl ?_
 simp(maxSteps:=999999)(disch:=omega)only[go_sem,zA,zM,zS,zE,zL]
 unfold solvedV
 cases puzzleValid p&&(gridValid xs p.size&&fitsL p xs p.size.toNat)with
 |false=>
  simp(maxSteps:=999999)(disch:=omega)only[go_sem,zA,zM,zS,zE,zL]
  rw[Bool.false_and]
 |true=>
  simp(maxSteps:=999999)(disch:=omega)only[go_sem,zA,zM,zS,zE,zL]
  first|refine OpS.rd (sGridFilled_run xs p.size hl) (⟨_,Tryd.func99,rfl,rfl⟩:Enters Tryd.prog 99) rfl rfl rfl rfl ?_|refine Loud.rd (sGridFilled_run xs p.size hl) (⟨_,Tryd.func99,rfl,rfl⟩:Enters Tryd.prog 99) rfl rfl rfl rfl ?_
  simp(maxSteps:=999999)(disch:=omega)only[go_sem,zA,zM,zS,zE,zL]
attribute [-go_sem] appendM lwF_cons
theorem look_off(H L:Heap)(n g:Nat):look (H++L) (H.length+n) g=look L n g:=by
 unfold look
 rw[List.getElem?_append_right (by omega),Nat.add_sub_cancel_left]
theorem look_off0(H L:Heap)(g:Nat):look (H++L) H.length g=look L 0 g:=look_off H L 0 g
theorem set_off(H L:Heap)(n:Nat)(x:Option Blk):(H++L).set (H.length+n) x=H++L.set n x:=by
 rw[List.set_append_right _ _ (by omega),Nat.add_sub_cancel_left]
theorem set_off0(H L:Heap)(x:Option Blk):(H++L).set H.length x=H++L.set 0 x:=set_off H L 0 x
theorem appendM_own{α:Type}{E:α→List FV}{n:Nat}[HSz E n]{P:Program}{H:Heap}{t:TypeId}{ei:TI}{K:KV}(ht:sliceOf P t=some ei)(hz:ei.zero.length=ei.size∧ei.size=n∧0<n∧ei.bytes≤64){id g k:Nat}{xs ys:List α}(hxk:xs.length=k)(hl:look H id g=some ⟨g,n,cl E xs⟩)(hx:xs.length≤2^40∧ys.length≤2^40)
 {src:AV} (hel:elems H n src=some (ys.length,cl E ys)) (hk:∀g',K (.c (.own id g' 0 (k+ys.length) none)) (H.set id (some ⟨g',n,cl E (xs++ys)⟩))):appendM P H t (.c (.own id g 0 k none)) src K:=by
 subst hxk
 obtain⟨hz1,rfl,hz3,hz4⟩:=hz
 have hcl:(cl E xs).length=xs.length*ei.size:=cl_length xs
 have hel2:elems H ei.size (.c (.own id g 0 xs.length none))=some (xs.length,cl E xs):=by
  simp only[elems,hl,List.drop_zero,if_true,List.take_of_length_le (Nat.le_of_eq hcl)]
 have hb:(xs.length+ys.length)*ei.bytes≤140737488355328:=by
  have:(xs.length+ys.length)*ei.bytes≤(xs.length+ys.length)*64:=Nat.mul_le_mul_left _ hz4
  omega
 unfold appendM
 simp only[ht,hz1,if_true,hel,hel2]
 simp only[appM,hl,hcl,if_true,okP]
 split
 · rename_i h0
   have:ys=[]:=List.eq_nil_of_length_eq_zero h0
   subst this
   have h1:=hk g
   rw[List.append_nil]at h1
   have h2:H.set id (some ⟨g,ei.size,cl E xs⟩)=H:=by
    obtain⟨q1,_⟩:=look_some hl
    have hlt:=(List.getElem?_eq_some_iff.1 q1).1
    refine List.ext_getElem? fun i=> ?_
    by_cases hi:i=id
    · subst hi;rw[List.getElem?_set_self hlt,q1]
    · rw[List.getElem?_set_ne (Ne.symm hi)]
   rw[h2]at h1
   exact h1
 refine⟨⟨trivial,hz3,trivial,by omega,hb⟩,fun g'=> ?_⟩
 have:=hk g'
 rw[cl_append]at this
 exact this
theorem appendM_new{α:Type}{E:α→List FV}{n:Nat}[HSz E n]{P:Program}{H:Heap}{t:TypeId}{ei:TI}{K:KV}(ht:sliceOf P t=some ei)(hz:ei.zero.length=ei.size∧ei.size=n∧0<n∧ei.bytes≤64){ys:List α}(hx:0<ys.length∧ys.length≤2^40)
 {src:AV} (hel:elems H n src=some (ys.length,cl E ys)) (hk:∀g',K (.c (.own H.length g' 0 ys.length none)) (H++[some ⟨g',n,cl E ys⟩])):appendM P H t (.c .emp) src K:=by
 obtain⟨hz1,rfl,hz3,hz4⟩:=hz
 have hb:ys.length*ei.bytes≤140737488355328:=by
  have:ys.length*ei.bytes≤ys.length*64:=Nat.mul_le_mul_left _ hz4
  omega
 unfold appendM
 simp only[ht,hz1,if_true,hel]
 simp only[elems,appM,okP,newM]
 rw[if_neg (by omega)]
 exact⟨⟨by omega,hb⟩,hk⟩
theorem elems_own{α:Type}{E:α→List FV}{n:Nat}[HSz E n]{H:Heap}{id g:Nat}{lim:Option Nat}{xs:List α}(hl:look H id g=some ⟨g,n,cl E xs⟩):elems H n (.c (.own id g 0 xs.length lim))=some (xs.length,cl E xs):=by
 have hcl:(cl E xs).length=xs.length*n:=cl_length xs
 simp only[elems,hl,List.drop_zero,if_true,List.take_of_length_le (Nat.le_of_eq hcl)]
theorem resV_ct(P:Program)(s:List AV)(H:Heap)(t u:Nat)(ty:TypeId):resV P s H [.cell t ty, .tmp u]=(loadV P H ty (s.getD t .void)).map fun v=> .tup [v,s.getD u .void]:=by
 simp only[resV,resAll,resOne]
 cases loadV P H ty (s.getD t .void)<;>rfl
attribute [go_sem] resV_ct
theorem okM_tail(H L M:Heap):okM [] (H++L) (H++(L++M)):=by
 rw[←List.append_assoc,okM_app]
 trivial
def woP(p:Puz)(k:Nat):Puz:=⟨p.size,p.given.set k 0,p.rules⟩
theorem woP_sm{p:Puz}{k:Nat}(h:smP p):smP (woP p k):=⟨by show(p.given.set k 0).length≤_;rw[List.length_set];exact h.1,h.2⟩
theorem l10Without_gen(H:Heap)(z:Int)(gid gg k:Nat)(zs:List Int)(rc:CV)(hg:look H gid gg=some ⟨gg,1,cl (eI .i64) zs⟩)(hk:k<zs.length)(hz:zs.length≤2^40):
 RunCall Tryd.prog 103 [.agg [.f (.int .i64 z), .own gid gg 0 zs.length none,rc],int k] H (fun v H'=>∃id g,v= .agg [.f (.int .i64 z), .own id g 0 zs.length none,rc]∧look H' id g=some ⟨g,1,cl (eI .i64) (zs.set k 0)⟩∧H.length≤id∧H.length≤H'.length∧∀i,i<H.length→H'[i]? =H[i]?):=by
 have hlt:gid<H.length:=(List.getElem?_eq_some_iff.1 (look_some hg).1).1
 have hgX:∀L,look (H++L) gid gg=some ⟨gg,1,cl (eI .i64) zs⟩:=fun L=>look_appL hg
 refine RunCall.cw (c:=_) Tryd.func103 rfl (n:=19) Tryd.ntmps103 (rs:=[.cell 4 32]) rfl ?_
 simp only[List.length_cons,List.length_nil,zA,zS,List.replicate,List.cons_append,List.nil_append]
 simp(maxSteps:=999999)(disch:=omega)only[go_sem,zA,zM,zS,zE,zL,look_off,look_off0,set_off,set_off0,List.append_assoc,List.cons_append,List.nil_append,List.length_append,hgX]
 intro g1 g2 g3
 refine appendM_own (E:=eI .i64) (xs:=[]) (ys:=zs) (sliceOf_of' ti22 rfl ti3) ⟨rfl,rfl,by decide,by decide⟩ rfl (by rw[look_off];exact look_of (b:=⟨g3,1,cl (eI .i64) []⟩) rfl) ⟨by simp,hz⟩ (elems_own (hgX _)) ?_
 intro g4
 rw[List.length_nil,Nat.zero_add,List.nil_append]
 simp(maxSteps:=999999)(disch:=omega)only[go_sem,zA,zM,zS,zE,zL,look_off,look_off0,set_off,set_off0,List.append_assoc,List.cons_append,List.nil_append,List.length_append,hgX]
 rw[Int.toNat_natCast]
 exact⟨_,HLe.refl _,H.length+2,g4,rfl,by rw[look_off];exact look_of (b:=⟨g4,1,cl (eI .i64) (zs.set k 0)⟩) rfl,by omega,by simp,fun i hi=>List.getElem?_append_left hi⟩
theorem l10Without_run(p:Puz)(k:Nat)(hk:k<p.given.length)(hx:smP p):Reads Tryd.prog 103 [aP p,int k] (aP (woP p k)):=by
 have h0:=hx.1
 refine Reads.iced ?_
 refine RunCall.cw (c:=_) Tryd.func103 rfl (n:=19) Tryd.ntmps103 (rs:=[.cell 4 32]) rfl ?_
 simp only[List.length_cons,List.length_nil,zA,zS,List.replicate,List.cons_append,List.nil_append]
 simp(maxSteps:=999999)(disch:=omega)only[go_sem,zA,zM,zS,zE,zL]
 intro g1 g2 g3
 refine appendM_own (E:=eI .i64) (xs:=[]) (ys:=p.given) (sliceOf_of' ti22 rfl ti3) ⟨rfl,rfl,by decide,by decide⟩ rfl (look_of (b:=⟨g3,1,cl (eI .i64) []⟩) rfl) ⟨by simp,h0⟩ elems_f ?_
 intro g4
 rw[List.length_nil,Nat.zero_add,List.nil_append]
 simp(maxSteps:=999999)(disch:=omega)only[go_sem,zA,zM,zS,zE,zL]
 rw[Int.toNat_natCast]
 have hown:OwnI [some ⟨g1,1,cP p⟩,some ⟨g2,3,[.f (.int .i64 p.size), .own 2 g4 0 p.given.length none, .f (fsl eR p.rules)]⟩,some ⟨g4,1,cl (eI .i64) (p.given.set k 0)⟩] (.own 2 g4 0 p.given.length none) (p.given.set k 0) [2]:=by
  have:=OwnI.o (H:=[some ⟨g1,1,cP p⟩,some ⟨g2,3,[.f (.int .i64 p.size), .own 2 g4 0 p.given.length none, .f (fsl eR p.rules)]⟩,some ⟨g4,1,cl (eI .i64) (p.given.set k 0)⟩]) 2 g4 none (p.given.set k 0) [] (by rw[List.append_nil];exact look_of (b:=⟨g4,1,cl (eI .i64) (p.given.set k 0)⟩) rfl)
  rwa [List.length_set]at this
 have e1:∀H (x:Int),frzC H (.f (.int .i64 x))=some (.f (.int .i64 x)):=fun _ _=>rfl
 have e2:∀H (x:List Rul),frzC H (.f (fsl eR x))=some (.f (fsl eR x)):=fun _ _=>rfl
 refine lessQ_ice ?_
 show(([_,_,_]:List CV).mapM (frzC _)).map AV.agg=_
 simp only[List.mapM_cons,List.mapM_nil,e1,e2,hown.frzC,Option.bind_eq_bind,Option.pure_def,Option.bind_some,Option.map_some]
 rfl
def oneV(p:Puz):Bool:=decide ((allS p 2).length=1)
def redV(p:Puz)(k:Nat):Bool:=puzzleValid p&&(decide (k<p.given.length)&&(decide (0<nth p.given k)&&(oneV p&&oneV (woP p k))))
theorem sIsRedundant_run(p:Puz)(k:Nat)(hk:k≤2^40)(hx:smP p):Reads Tryd.prog 102 [aP p,int k] (bool (redV p k)):=by
 have h0:=hx.1
 unfold redV
 refine RunCall.cw (c:=_) Tryd.func102 rfl (n:=33) Tryd.ntmps102 (rs:=[.tmp 4]) rfl ?_
 simp only[List.length_cons,List.length_nil,zA,zS,List.replicate,List.cons_append,List.nil_append]
 simp(maxSteps:=999999)(disch:=omega)only[go_sem,zA,zM,zS,zE,zL]
 intro g1
 first|refine OpS.rd (sPuzzleValid_run p hx) (⟨_,Tryd.func28,rfl,rfl⟩:Enters Tryd.prog 28) rfl rfl rfl rfl ?_|refine Loud.rd (sPuzzleValid_run p hx) (⟨_,Tryd.func28,rfl,rfl⟩:Enters Tryd.prog 28) rfl rfl rfl rfl ?_
 simp(maxSteps:=999999)(disch:=omega)only[go_sem,zA,zM,zS,zE,zL]
 cases hv:puzzleValid p with
 |false=>
  simp(maxSteps:=999999)(disch:=omega)only[go_sem,zA,zM,zS,zE,zL]
  rw[Bool.false_and]
 |true=>
  rw[Bool.true_and]
  simp(maxSteps:=999999)(disch:=omega)only[go_sem,zA,zM,zS,zE,zL]
  first|refine OpS.rd (l1In_run _ _ _) (⟨_,Tryd.func72,rfl,rfl⟩:Enters Tryd.prog 72) rfl rfl rfl rfl ?_|refine Loud.rd (l1In_run _ _ _) (⟨_,Tryd.func72,rfl,rfl⟩:Enters Tryd.prog 72) rfl rfl rfl rfl ?_
  simp(maxSteps:=999999)(disch:=omega)only[go_sem,zA,zM,zS,zE,zL]
  by_cases h1:k<p.given.length
  · rw[decide_eq_true h1,Bool.true_and,decide_eq_true (show(0:Int)≤k∧(k:Int)≤p.given.length -1 by omega)]
    simp(maxSteps:=999999)(disch:=omega)only[go_sem,zA,zM,zS,zE,zL]
    by_cases h2:0<nth p.given k
    · rw[decide_eq_true h2,Bool.true_and]
      simp(maxSteps:=999999)(disch:=omega)only[go_sem,zA,zM,zS,zE,zL]
      first|refine OpS.rd (l10One_run p hx) (⟨_,Tryd.func101,rfl,rfl⟩:Enters Tryd.prog 101) rfl rfl rfl rfl ?_|refine Loud.rd (l10One_run p hx) (⟨_,Tryd.func101,rfl,rfl⟩:Enters Tryd.prog 101) rfl rfl rfl rfl ?_
      simp(maxSteps:=999999)(disch:=omega)only[go_sem,zA,zM,zS,zE,zL]
      have e:decide ((allS p 2).length=1)=oneV p:=rfl
      rw[e]
      cases oneV p with
      |false=>
       simp(maxSteps:=999999)(disch:=omega)only[go_sem,zA,zM,zS,zE,zL]
       rw[Bool.false_and]
      |true=>
       rw[Bool.true_and]
       simp(maxSteps:=999999)(disch:=omega)only[go_sem,zA,zM,zS,zE,zL]
       first|refine OpS.mk (l10Without_run p k h1 hx) (⟨_,Tryd.func103,rfl,rfl⟩:Enters Tryd.prog 103) rfl rfl rfl rfl rfl ?_|refine Loud.mk (l10Without_run p k h1 hx) (⟨_,Tryd.func103,rfl,rfl⟩:Enters Tryd.prog 103) rfl rfl rfl rfl rfl ?_
       simp(maxSteps:=999999)(disch:=omega)only[go_sem,zA,zM,zS,zE,zL]
       first|refine OpS.rd (l10One_run (woP p k) (woP_sm hx)) (⟨_,Tryd.func101,rfl,rfl⟩:Enters Tryd.prog 101) rfl rfl rfl rfl ?_|refine Loud.rd (l10One_run (woP p k) (woP_sm hx)) (⟨_,Tryd.func101,rfl,rfl⟩:Enters Tryd.prog 101) rfl rfl rfl rfl ?_
       simp(maxSteps:=999999)(disch:=omega)only[go_sem,zA,zM,zS,zE,zL]
       rfl
    · rw[decide_eq_false h2,Bool.false_and]
      simp(maxSteps:=999999)(disch:=omega)only[go_sem,zA,zM,zS,zE,zL]
  · rw[decide_eq_false h1,Bool.false_and,decide_eq_false (show¬((0:Int)≤k∧(k:Int)≤p.given.length -1) by omega)]
    simp(maxSteps:=999999)(disch:=omega)only[go_sem,zA,zM,zS,zE,zL]
theorem l1OwnRule_rd(r:Rul)(hx:r.cells.length≤2^40):Reads Tryd.prog 137 [aR r] (aR r):=by
 obtain⟨k,cells,v⟩:=r
 simp only at hx
 refine Reads.iced ?_
 have e1:∀H (x:Int),frzC H (.f (.int .i64 x))=some (.f (.int .i64 x)):=fun _ _=>rfl
 refine RunCall.cw (c:=_) Tryd.func137 rfl (n:=11) Tryd.ntmps137 (rs:=[.cell 2 24]) rfl ?_
 simp only[List.length_cons,List.length_nil,zA,zS,List.replicate,List.cons_append,List.nil_append]
 simp(maxSteps:=999999)(disch:=omega)only[go_sem,zA,zM,zS,zE,zL]
 intro g1 g2 g3 g4
 refine appendM_own (E:=eI .i64) (xs:=[]) (ys:=cells) (sliceOf_of' ti22 rfl ti3) ⟨rfl,rfl,by decide,by decide⟩ rfl (look_of (b:=⟨g4,1,cl (eI .i64) []⟩) rfl) ⟨by simp,hx⟩ elems_f ?_
 intro g5
 rw[List.length_nil,Nat.zero_add,List.nil_append]
 simp(maxSteps:=999999)(disch:=omega)only[go_sem,zA,zM,zS,zE,zL]
 have hown:∀H,look H 3 g5=some ⟨g5,1,cl (eI .i64) cells⟩→frzC H (.own 3 g5 0 cells.length none)=some (.f (fints cells)):=fun H h=>(OwnI.o (H:=H) 3 g5 none cells [] (by rw[List.append_nil];exact h)).frzC
 refine lessQ_ice ?_
 show(([_,_,_]:List CV).mapM (frzC _)).map AV.agg=_
 have hown:=hown [some ⟨g1,1,cR ⟨k,cells,v⟩⟩,some ⟨g2,3,[.f (.int .i64 k), .own 3 g5 0 cells.length none, .f (.int .i64 v)]⟩,some ⟨g3,3,[.f (.int .i64 k), .own 3 g5 0 cells.length none, .f (.int .i64 v)]⟩,some ⟨g5,1,cl (eI .i64) cells⟩] (look_of (b:=⟨g5,1,cl (eI .i64) cells⟩) rfl)
 simp only[List.mapM_cons,List.mapM_nil,e1,hown,Option.bind_eq_bind,Option.pure_def,Option.bind_some,Option.map_some]
theorem iceA_agg3{S:Nat→Bool}{H:Heap}{a b c a' b' c':CV}(h1:IceC S H a a')(h2:IceC S H b b')(h3:IceC S H c c'):IceA S H (.agg [a,b,c]) (.agg [a',b',c']):= .o _ _ (ice1_agg3 h1 h2 h3)
theorem take_app(H L:Heap):(H++L).take H.length=H:=by simp
theorem l1OwnRuleList_gen(H:Heap)(rc:CV)(rs:List Rul)(h:OwnL eR 3 H rc rs)(hx:smRs rs):RunCall Tryd.prog 121 [.c rc] H (fun v H'=>v=rsl eR rs∧H'=H):=by
 obtain⟨hn,hc⟩:=hx
 refine RunCall.iceS (Q':=fun v H'=>∃g,v= .c (.own H.length g 0 rs.length none)∧H'=H++[some ⟨g,3,cl eR rs⟩]) ?_ ?_
 rotate_left
 · rintro v H' ⟨g,rfl,rfl⟩
   refine⟨tailS H.length,H,_,by have:=iceH_take (H++[some ⟨g,3,cl eR rs⟩]) H.length;rwa [take_app]at this, .o _ _ (.c _ _ (iceC_f ?_)),rfl,rfl⟩
   exact(OwnL.o (E:=eR) (n:=3) H.length g rs look_last).frzS (fun i hi=>by cases hi;simp[tailS]) 5
 cases h with
 |n=>
  refine RunCall.cw (c:=_) Tryd.func121 rfl (n:=21) Tryd.ntmps121 (rs:=[.tmp 2]) rfl ?_
  simp only[List.length_cons,List.length_nil,zA,zS,List.replicate,List.cons_append,List.nil_append]
  simp(maxSteps:=999999)(disch:=omega)only[go_sem,zA,zM,zS,zE,zL,look_off,look_off0,set_off,set_off0,List.append_assoc,List.cons_append,List.nil_append,List.length_append]
  intro g
  refine loop_rule (fun i:Nat=>0) (fun i=>i=0) (fun i=>[.k, .a, .a, .p (.c (.own H.length g 0 0 none)), .p (int 0), .a, .a, .a, .a, .a, .a, .a, .a, .a, .a, .a, .a, .a, .a, .a, .a]) (fun i=>H++[some ⟨g,3,[]⟩]) 0 rfl (by simp(maxSteps:=999999)(disch:=omega)only[go_sem,zA,zM,zS,zE,zL]) (HLe.refl _) ?_
  rintro i rfl
  simp(maxSteps:=999999)(disch:=omega)only[go_sem,zA,zM,zS,zE,zL,look_off,look_off0,set_off,set_off0,List.append_assoc,List.cons_append,List.nil_append,List.length_append,lt_no]
  exact⟨_,HLe.refl _,g,rfl,rfl⟩
 |m=>
  refine RunCall.cw (c:=_) Tryd.func121 rfl (n:=21) Tryd.ntmps121 (rs:=[.tmp 2]) rfl ?_
  simp only[List.length_cons,List.length_nil,zA,zS,List.replicate,List.cons_append,List.nil_append]
  simp(maxSteps:=999999)(disch:=omega)only[go_sem,zA,zM,zS,zE,zL,look_off,look_off0,set_off,set_off0,List.append_assoc,List.cons_append,List.nil_append,List.length_append]
  intro g
  refine loop_rule (fun i:Nat=>0) (fun i=>i=0) (fun i=>[.k, .a, .a, .p (.c (.own H.length g 0 0 none)), .p (int 0), .a, .a, .a, .a, .a, .a, .a, .a, .a, .a, .a, .a, .a, .a, .a, .a]) (fun i=>H++[some ⟨g,3,[]⟩]) 0 rfl (by simp(maxSteps:=999999)(disch:=omega)only[go_sem,zA,zM,zS,zE,zL]) (HLe.refl _) ?_
  rintro i rfl
  simp(maxSteps:=999999)(disch:=omega)only[go_sem,zA,zM,zS,zE,zL,look_off,look_off0,set_off,set_off0,List.append_assoc,List.cons_append,List.nil_append,List.length_append,lt_no]
  exact⟨_,HLe.refl _,g,rfl,rfl⟩
 |o id rg _ hl=>
  have hlX:∀L,look (H++L) id rg=some ⟨rg,3,cl eR rs⟩:=fun L=>look_appL hl
  have hrl:(cl eR rs).length=rs.length*3:=cl_length rs
  refine RunCall.cw (c:=_) Tryd.func121 rfl (n:=21) Tryd.ntmps121 (rs:=[.tmp 2]) rfl ?_
  simp only[List.length_cons,List.length_nil,zA,zS,List.replicate,List.cons_append,List.nil_append]
  simp(maxSteps:=999999)(disch:=omega)only[go_sem,zA,zM,zS,zE,zL,look_off,look_off0,set_off,set_off0,List.append_assoc,List.cons_append,List.nil_append,List.length_append,hlX]
  intro g
  refine loop_rule2 (fun(i g:Nat)=>rs.length -i) (fun i g=>i≤rs.length) (fun i g=>[.k, .a, .a, .p (.c (.own H.length g 0 i none)), .p (int i), .a, .a, .a, .a, .a, .a, .a, .a, .a, .a, .a, .a, .a, .a, .a, .a]) (fun i g=>H++[some ⟨g,3,cl eR (rs.take i)⟩]) 0 g
   (Nat.zero_le _) (by simp(maxSteps:=999999)(disch:=omega)only[go_sem,zA,zM,zS,zE,zL];rfl) (HLe.refl _) ?_
  intro i g hi
  simp(maxSteps:=999999)(disch:=omega)only[go_sem,zA,zM,zS,zE,zL,look_off,look_off0,set_off,set_off0,List.append_assoc,List.cons_append,List.nil_append,List.length_append,hlX]
  ((first|(with_reducible first|refine condK_dec ?_ ?_|refine condK_ndec ?_ ?_|refine condK_nb ?_ ?_)|refine condK_b ?_ ?_)<;>intro h)
  · have h:i<rs.length:=by omega
    have htl:(rs.take i).length=i:=by rw[List.length_take];omega
    simp(maxSteps:=999999)(disch:=omega)only[go_sem,zA,zM,zS,zE,zL,look_off,look_off0,set_off,set_off0,List.append_assoc,List.cons_append,List.nil_append,List.length_append,hlX]
    first|refine OpS.mk (l1OwnRule_rd (nth rs i) (hc _ (nth_mem h))) (⟨_,Tryd.func137,rfl,rfl⟩:Enters Tryd.prog 137) rfl rfl rfl rfl rfl ?_|refine Loud.mk (l1OwnRule_rd (nth rs i) (hc _ (nth_mem h))) (⟨_,Tryd.func137,rfl,rfl⟩:Enters Tryd.prog 137) rfl rfl rfl rfl rfl ?_
    simp(maxSteps:=999999)(disch:=omega)only[go_sem,zA,zM,zS,zE,zL]
    simp(maxSteps:=999999)(disch:=omega)only[go_sem,zA,zM,zS,zE,zL,look_off,look_off0,set_off,set_off0,List.append_assoc,List.cons_append,List.nil_append,List.length_append]
    intro g1
    refine appendM_own (E:=eR) (xs:=rs.take i) (ys:=[nth rs i]) (sliceOf_of' ti30 rfl ti24) ⟨rfl,rfl,by decide,by decide⟩ htl (by rw[look_off0];exact look_zero) ⟨by omega,by simp⟩ (elems_own (xs:=[nth rs i]) (by rw[look_off];exact look_of (b:=⟨g1,3,cl eR [nth rs i]⟩) rfl)) ?_
    intro g2
    simp(maxSteps:=999999)(disch:=omega)only[go_sem,zA,zM,zS,zE,zL,look_off,look_off0,set_off,set_off0,List.append_assoc,List.cons_append,List.nil_append,List.length_append]
    refine⟨i+1,g2,⟨by omega,by omega⟩,⟨⟨rfl,rfl⟩,by push_cast;omega⟩, ?_⟩
    rw[take_succ_nth h]
    have:=HLe.app (H++[some ⟨g2,3,cl eR (rs.take i++[nth rs i])⟩]) [some ⟨g1,3,cR (nth rs i)⟩]
    rwa [List.append_assoc]at this
  · have hi':i=rs.length:=by omega
    subst hi'
    simp(maxSteps:=999999)(disch:=omega)only[go_sem,zA,zM,zS,zE,zL]
    rw[List.take_length]
    exact⟨_,HLe.refl _,g,rfl,rfl⟩
theorem l1OwnPuzzle_gen(H:Heap)(z:Int)(gid gg:Nat)(zs:List Int)(rc:CV)(rs:List Rul)(hg:look H gid gg=some ⟨gg,1,cl (eI .i64) zs⟩)(hr:OwnL eR 3 H rc rs)(hz:zs.length≤2^40)(hx:smRs rs):
 RunCall Tryd.prog 100 [.agg [.f (.int .i64 z), .own gid gg 0 zs.length none,rc]] H (fun v H'=>v=aP ⟨z,zs,rs⟩∧H'=H):=by
 have hgX:∀L,look (H++L) gid gg=some ⟨gg,1,cl (eI .i64) zs⟩:=fun L=>look_appL hg
 refine RunCall.iceS (Q':=fun v H'=>∃c L,v= .agg [.f (.int .i64 z),c, .f (fsl eR rs)]∧frzS (tailS H.length) H' 6 c=some (fints zs)∧H'=H++L) ?_ ?_
 rotate_left
 · rintro v H' ⟨c,L,rfl,h1,rfl⟩
   exact⟨tailS H.length,H,_,by have:=iceH_take (H++L) H.length;rwa [take_app]at this,iceA_agg3 iceC_s (iceC_f h1) iceC_s,rfl,rfl⟩
 refine RunCall.cw (c:=_) Tryd.func100 rfl (n:=15) Tryd.ntmps100 (rs:=[.cell 2 32]) rfl ?_
 simp only[List.length_cons,List.length_nil,zA,zS,List.replicate,List.cons_append,List.nil_append]
 simp(maxSteps:=999999)(disch:=omega)only[go_sem,zA,zM,zS,zE,zL,look_off,look_off0,set_off,set_off0,List.append_assoc,List.cons_append,List.nil_append,List.length_append,hgX]
 intro g1 g2 g3 g4
 refine appendM_own (E:=eI .i64) (xs:=[]) (ys:=zs) (sliceOf_of' ti22 rfl ti3) ⟨rfl,rfl,by decide,by decide⟩ rfl (by rw[look_off];exact look_of (b:=⟨g4,1,cl (eI .i64) []⟩) rfl) ⟨by simp,hz⟩ (elems_own (hgX _)) ?_
 intro g5
 rw[List.length_nil,Nat.zero_add,List.nil_append]
 simp(maxSteps:=999999)(disch:=omega)only[go_sem,zA,zM,zS,zE,zL,look_off,look_off0,set_off,set_off0,List.append_assoc,List.cons_append,List.nil_append,List.length_append,hgX]
 refine OpS.run (l1OwnRuleList_gen _ rc rs hr.app hx) (⟨_,Tryd.func121,rfl,rfl⟩:Enters Tryd.prog 121) rfl rfl ?_
 rintro _ _ ⟨rfl,rfl⟩
 simp(maxSteps:=999999)(disch:=omega)only[go_sem,zA,zM,zS,zE,zL,look_off,look_off0,set_off,set_off0,List.append_assoc,List.cons_append,List.nil_append,List.length_append,hgX]
 refine⟨_,HLe.refl _,_,_,rfl, ?_,rfl⟩
 have:=frzS_view (S:=tailS H.length) (lim:=none) (n:=zs.length) (off:=0) (zs:=zs) (id:=H.length+3) (g:=g5) (H:=H++[some ⟨g1,1,[.f (.int .i64 z), .own gid gg 0 zs.length none,rc]⟩,some ⟨g2,3,[.f (.int .i64 z), .own (H.length+3) g5 0 zs.length none, .f (fsl eR rs)]⟩,some ⟨g3,3,[.f (.int .i64 z), .own (H.length+3) g5 0 zs.length none, .f (fsl eR rs)]⟩,some ⟨g5,1,cl (eI .i64) zs⟩]) (by rw[look_off];exact look_of (b:=⟨g5,1,cl (eI .i64) zs⟩) rfl) (by simp[tailS]) (by omega) 5
 rw[List.drop_zero,List.take_length]at this
 exact this
def PzO(H:Heap)(n0:Nat)(z:Int)(gc rc:CV)(zs:List Int)(rs:List Rul):Prop:=∃gid gg,gc= .own gid gg 0 zs.length none∧look H gid gg=some ⟨gg,1,cl (eI .i64) zs⟩∧n0≤gid∧OwnL eR 3 H rc rs∧(∀i,idsC rc i→n0≤i∧i≠gid)
theorem PzO.snap{H:Heap}{n0:Nat}{z:Int}{gc rc:CV}{zs:List Int}{rs:List Rul}(h:PzO H n0 z gc rc zs rs):snapD H (.agg [.f (.int .i64 z),gc,rc])=some (aP ⟨z,zs,rs⟩):=by
 obtain⟨gid,gg,rfl,h1,_,h2,_⟩:=h
 have e1:∀x:Int,frzC H (.f (.int .i64 x))=some (.f (.int .i64 x)):=fun _=>rfl
 have e2:=(OwnI.o (H:=H) gid gg none zs [] (by rw[List.append_nil];exact h1)).frzC
 simp only[snapD,List.mapM_cons,List.mapM_nil,e1,e2,h2.frzC,Option.bind_eq_bind,Option.pure_def,Option.bind_some,Option.map_some]
theorem PzO.same{H H':Heap}{n0:Nat}{z:Int}{gc rc:CV}{zs:List Int}{rs:List Rul}(h:PzO H n0 z gc rc zs rs)(hs:∀i,n0≤i→(idsC gc i∨idsC rc i)→i<H.length→H'[i]? =H[i]?):PzO H' n0 z gc rc zs rs:=by
 obtain⟨gid,gg,rfl,h1,h2,h3,h4⟩:=h
 exact⟨gid,gg,rfl,by unfold look at*;rw[hs gid h2 (.inl rfl) (List.getElem?_eq_some_iff.1 (look_some h1).1).1];exact h1,h2,h3.same fun i hi hl=>hs i (h4 i hi).1 (.inr hi) hl,h4⟩
def miniQ(H:Heap)(z:Int)(n:Nat)(rs:List Rul):KV:=fun v H'=>H.length≤H'.length∧(∀i,i<H.length→H'[i]? =H[i]?)∧((∃c1 c2 c3,v= .tup [.agg [c1,c2,c3],bool false])∨∃gc rc zs,v= .tup [.agg [.f (.int .i64 z),gc,rc],bool true]∧zs.length=n∧PzO H' H.length z gc rc zs rs)
theorem puz_facts'{p:Puz}(hv:puzzleValid p=true):GrdN p.given p.size.toNat∧4≤p.given.length∧p.given.length≤16:=by
 obtain⟨hp,hz⟩:=PuzN.of hv
 have hg:=GrdN.of hp.hn (xs:=p.given) (by rw[hz];exact puzzleValid_grid' hv)
 have hsq:4≤p.size.toNat*p.size.toNat∧p.size.toNat*p.size.toNat≤16:=by
  have:=hp.hn
  rcases this with h|h|h<;>rw[h]<;>omega
 have:=hg.len
 exact⟨hg,by omega,by omega⟩
structure MiI(H HI:Heap)(XI xg g2:Nat)(z:Int)(n:Nat)(rs:List Rul):Prop where
 ex:∃gc rc zs,look HI XI xg=some ⟨xg,3,[.f (.int .i64 z),gc,rc]⟩∧zs.length=n∧PzO HI (H.length+2) z gc rc zs rs∧¬idsC gc XI∧¬idsC rc XI
 out:look HI (H.length+1) g2=some ⟨g2,3,[.f (.int .i64 0), .f .nil, .f .nil]⟩
 lt:H.length+2≤XI∧XI<HI.length
 frm:∀i,i<H.length→HI[i]? =H[i]?
theorem PzO.n0{H:Heap}{n0 n1:Nat}{z:Int}{gc rc:CV}{zs:List Int}{rs:List Rul}(h:PzO H n0 z gc rc zs rs)(hn:n1≤n0):PzO H n1 z gc rc zs rs:=by
 obtain⟨gid,gg,rfl,h1,h2,h3,h4⟩:=h
 exact⟨gid,gg,rfl,h1,by omega,h3,fun i hi=>⟨by have:=(h4 i hi).1;omega,(h4 i hi).2⟩⟩
theorem sMakeMinimal_gen(H:Heap)(z:Int)(gid gg:Nat)(zs:List Int)(rc:CV)(rs:List Rul)(hg:look H gid gg=some ⟨gg,1,cl (eI .i64) zs⟩)(hr:OwnL eR 3 H rc rs)(hz:zs.length≤2^30)(hx:smRs rs):
 RunCall Tryd.prog 78 [.agg [.f (.int .i64 z), .own gid gg 0 zs.length none,rc]] H (miniQ H z zs.length rs):=by
 have hgX:∀L,look (H++L) gid gg=some ⟨gg,1,cl (eI .i64) zs⟩:=fun L=>look_appL hg
 have hsm:smP ⟨z,zs,rs⟩:=⟨by show zs.length≤_;omega,hx⟩
 refine RunCall.cw (c:=_) Tryd.func78 rfl (n:=42) Tryd.ntmps78 (rs:=[.cell 2 32, .tmp 3]) rfl ?_
 simp only[List.length_cons,List.length_nil,zA,zS,List.replicate,List.cons_append,List.nil_append]
 simp(maxSteps:=999999)(disch:=omega)only[go_sem,zA,zM,zS,zE,zL,look_off,look_off0,set_off,set_off0,List.append_assoc,List.cons_append,List.nil_append,List.length_append,hgX]
 intro g1 g2
 refine OpS.run (l1OwnPuzzle_gen _ z gid gg zs rc rs (hgX _) hr.app (by omega) hx) (⟨_,Tryd.func100,rfl,rfl⟩:Enters Tryd.prog 100) rfl rfl ?_
 rintro _ _ ⟨rfl,rfl⟩
 simp(maxSteps:=999999)(disch:=omega)only[go_sem,zA,zM,zS,zE,zL,look_off,look_off0,set_off,set_off0,List.append_assoc,List.cons_append,List.nil_append,List.length_append,hgX]
 first|refine OpS.rd (sPuzzleValid_run ⟨z,zs,rs⟩ hsm) (⟨_,Tryd.func28,rfl,rfl⟩:Enters Tryd.prog 28) rfl rfl rfl rfl ?_|refine Loud.rd (sPuzzleValid_run ⟨z,zs,rs⟩ hsm) (⟨_,Tryd.func28,rfl,rfl⟩:Enters Tryd.prog 28) rfl rfl rfl rfl ?_
 simp(maxSteps:=999999)(disch:=omega)only[go_sem,zA,zM,zS,zE,zL]
 ((with_reducible first|refine guardK_dec ?_ ?_|refine guardK_ndec ?_ ?_|refine guardK_nb ?_ ?_|refine guardK_split ?_ ?_|refine guardQ_dec ?_ ?_|refine guardL_dec ?_ ?_|refine guardQ_ndec ?_ ?_|refine guardL_ndec ?_ ?_|refine guardQ_nb ?_ ?_|refine guardL_nb ?_ ?_|refine guardQ_split ?_ ?_|refine guardL_split ?_ ?_)<;>intro h1<;>simp(maxSteps:=999999)(disch:=omega)only[go_sem,zA,zM,zS,zE,zL,h1])
 rotate_left
 · simp(maxSteps:=999999)(disch:=omega)only[go_sem,zA,zM,zS,zE,zL,look_off,look_off0,set_off,set_off0,List.append_assoc,List.cons_append,List.nil_append,List.length_append]
   exact⟨_,HLe.refl _,by simp,fun i hi=>List.getElem?_append_left hi, .inl ⟨_,_,_,rfl⟩⟩
 simp(maxSteps:=999999)(disch:=omega)only[go_sem,zA,zM,zS,zE,zL,look_off,look_off0,set_off,set_off0,List.append_assoc,List.cons_append,List.nil_append,List.length_append,hgX]
 first|refine OpS.rd (l10One_run ⟨z,zs,rs⟩ hsm) (⟨_,Tryd.func101,rfl,rfl⟩:Enters Tryd.prog 101) rfl rfl rfl rfl ?_|refine Loud.rd (l10One_run ⟨z,zs,rs⟩ hsm) (⟨_,Tryd.func101,rfl,rfl⟩:Enters Tryd.prog 101) rfl rfl rfl rfl ?_
 simp(maxSteps:=999999)(disch:=omega)only[go_sem,zA,zM,zS,zE,zL]
 ((first|(with_reducible first|refine condK_dec ?_ ?_|refine condK_ndec ?_ ?_|refine condK_nb ?_ ?_)|refine condK_b ?_ ?_)<;>intro h2)
 rotate_left
 · simp(maxSteps:=999999)(disch:=omega)only[go_sem,zA,zM,zS,zE,zL,look_off,look_off0,set_off,set_off0,List.append_assoc,List.cons_append,List.nil_append,List.length_append]
   exact⟨_,HLe.refl _,by simp,fun i hi=>List.getElem?_append_left hi, .inl ⟨_,_,_,rfl⟩⟩
 have hz4:4≤zs.length:=by
  exact(puz_facts' h1).2.1
 simp(maxSteps:=999999)(disch:=omega)only[go_sem,zA,zM,zS,zE,zL,look_off,look_off0,set_off,set_off0,List.append_assoc,List.cons_append,List.nil_append,List.length_append]
 refine drawP_lM [0,1,2,3,4,6,7,8,11,5,9,10] [2,6] (some 11) [12] [] [0,1,0,0,8,28,0,0,128,508,1023,0,4095] foll (by kernel_rfl) ?_
 iterate 9 (rw[lwF_cons];simp(maxSteps:=999999)(disch:=omega)only[go_sem,zA,zM,zS,zE,zL,look_off,look_off0,set_off,set_off0,List.append_assoc,List.cons_append,List.nil_append,List.length_append])
 rw[lwF_cons]
 simp(maxSteps:=999999)(disch:=omega)only[go_sem,zA,zM,zS,zE,zL,look_off,look_off0,set_off,set_off0,List.append_assoc,List.cons_append,List.nil_append,List.length_append]
 refine appendM_new (E:=eI .i64) (ys:=zs) (sliceOf_of' ti22 rfl ti3) ⟨rfl,rfl,by decide,by decide⟩ ⟨by omega,by omega⟩ elems_f ?_
 intro g3
 simp(maxSteps:=999999)(disch:=omega)only[go_sem,zA,zM,zS,zE,zL,look_off,look_off0,set_off,set_off0,List.append_assoc,List.cons_append,List.nil_append,List.length_append]
 refine⟨okM_tail _ [_,_] [_], ?_⟩
 rcases Nat.eq_zero_or_pos rs.length with h0|h0
 · have:rs=[]:=List.eq_nil_of_length_eq_zero h0
   subst this
   rw[lwF_cons]
   simp(maxSteps:=999999)(disch:=omega)only[go_sem,zA,zM,zS,zE,zL,look_off,look_off0,set_off,set_off0,List.append_assoc,List.cons_append,List.nil_append,List.length_append]
   have hapE:∀(H:Heap) (K:KV),K (.c .emp) H→appendM Tryd.prog H 30 (.c .emp) (.c (.f (fsl eR []))) K:=fun H K hk=>by
    unfold appendM
    rw[sliceOf_of' ti30 rfl ti24]
    exact hk
   refine hapE _ _ ?_
   simp(maxSteps:=999999)(disch:=omega)only[go_sem,zA,zM,zS,zE,zL,look_off,look_off0,set_off,set_off0,List.append_assoc,List.cons_append,List.nil_append,List.length_append]
   rw[lwF_cons]
   simp(maxSteps:=999999)(disch:=omega)only[go_sem,zA,zM,zS,zE,zL,look_off,look_off0,set_off,set_off0,List.append_assoc,List.cons_append,List.nil_append,List.length_append]
   intro g5
   obtain⟨HI,hHI⟩:∃HI:Heap,HI=H++[some ⟨g1,1,[.f (.int .i64 z), .f (fints zs), .f (fsl eR [])]⟩,some ⟨g2,3,[.f (.int .i64 0), .f .nil, .f .nil]⟩,some ⟨g3,1,cl (eI .i64) zs⟩,some ⟨g5,3,[.f (.int .i64 z), .own (H.length+2) g3 0 zs.length none, .emp]⟩]:=⟨_,rfl⟩
   have hm0:MiI H HI (H.length+3) g5 g2 z zs.length []:=
    {ex:=⟨.own (H.length+2) g3 0 zs.length none, .emp,zs,by rw[hHI,look_off];exact look_of (b:=⟨g5,3,[.f (.int .i64 z), .own (H.length+2) g3 0 zs.length none, .emp]⟩) rfl,rfl,⟨H.length+2,g3,rfl,by rw[hHI,look_off];exact look_of (b:=⟨g3,1,cl (eI .i64) zs⟩) rfl,Nat.le_refl _,by rw[hHI];exact .m,fun i h=>h.elim⟩,fun h=>by simp only[idsC]at h;omega,fun h=>h⟩
     out:=by rw[hHI,look_off];exact look_of (b:=⟨g2,3,[.f (.int .i64 0), .f .nil, .f .nil]⟩) rfl
     lt:=by rw[hHI];simp
     frm:=fun i hi=>by rw[hHI,List.getElem?_append_left hi]}
   rw[←hHI]
   clear hHI
   refine loop_rule2 (fun(k:Nat) (HI:Heap)=>zs.length -k) (fun k HI=>k≤zs.length∧MiI H HI (H.length+3) g5 g2 z zs.length []) (fun k HI=>[.a, .a, .k, .a, .k, .p (int k), .a, .a, .a, .a, .a, .a, .a, .a, .a, .a, .a, .a, .a, .a, .a, .a, .a, .a, .a, .a, .a, .a, .a, .a, .a, .a, .a, .a, .a, .a, .a, .a, .a, .a, .a, .a]) (fun _ HI=>HI) 0 HI ⟨Nat.zero_le _,hm0⟩ (by simp(maxSteps:=999999)(disch:=omega)only[go_sem,zA,zM,zS,zE,zL];rfl) (HLe.refl _) ?_
   rintro k HI ⟨hk,hm⟩
   obtain⟨gc,rc,zs',hx1,hx2,hx3,hx4,hx5⟩:=hm.ex
   have hsn:=hx3.snap
   have hout:=hm.out
   have hlt:=hm.lt
   obtain⟨gid',gg',rfl,hg1,hg2,hr1,hr2⟩:=hx3
   simp(maxSteps:=999999)(disch:=omega)only[go_sem,zA,zM,zS,zE,zL,hx1,hg1]
   ((first|(with_reducible first|refine condK_dec ?_ ?_|refine condK_ndec ?_ ?_|refine condK_nb ?_ ?_)|refine condK_b ?_ ?_)<;>intro c1)
   · have c1:k<zs'.length:=by omega
     have hsm':smP ⟨z,zs',[]⟩:=⟨by show zs'.length≤_;omega,hx⟩
     simp(maxSteps:=999999)(disch:=omega)only[go_sem,zA,zM,zS,zE,zL,hx1]
     refine OpS.rdD (sIsRedundant_run ⟨z,zs',[]⟩ k (by omega) hsm') (⟨_,Tryd.func102,rfl,rfl⟩:Enters Tryd.prog 102) rfl rfl (snap_two hsn snapD_int) rfl ?_
     simp(maxSteps:=999999)(disch:=omega)only[go_sem,zA,zM,zS,zE,zL]
     ((first|(with_reducible first|refine condK_dec ?_ ?_|refine condK_ndec ?_ ?_|refine condK_nb ?_ ?_)|refine condK_b ?_ ?_)<;>intro c2)
     · simp(maxSteps:=999999)(disch:=omega)only[go_sem,zA,zM,zS,zE,zL,hx1]
       refine OpS.run (l10Without_gen HI z gid' gg' k zs' rc hg1 c1 (by omega)) (⟨_,Tryd.func103,rfl,rfl⟩:Enters Tryd.prog 103) rfl rfl ?_
       rintro _ H5 ⟨id6,g6,rfl,w1,w2,w3,w4⟩
       have hid6:id6<H5.length:=(List.getElem?_eq_some_iff.1 (look_some w1).1).1
       have hx6:look H5 (H.length+3) g5=some ⟨g5,3,[.f (.int .i64 z), .own gid' gg' 0 zs'.length none,rc]⟩:=by unfold look at hx1⊢;rw[w4 _ hlt.2];exact hx1
       simp(maxSteps:=999999)(disch:=omega)only[go_sem,zA,zM,zS,zE,zL,hx6]
       have hset:∀i:Nat,i≠(H.length+3)→∀b,(H5.set (H.length+3) b)[i]? =H5[i]? :=fun i hi b=>by rw[List.getElem?_set_ne (Ne.symm hi)]
       refine⟨k+1,_,⟨⟨by omega, ?_⟩,by omega⟩,by push_cast;omega,HLe.refl _⟩
       exact{ex:=⟨.own id6 g6 0 zs'.length none,rc,zs'.set k 0,look_set_eq' (by omega),by rw[List.length_set];exact hx2,⟨id6,g6,by rw[List.length_set],by unfold look at w1⊢;rw[hset _ (by omega)];exact w1,by omega,hr1.same (fun i hi hl=>by
              rw[hset i (fun h=>hx5 (by rw[←h];exact hi)),w4 i hl]),fun i hi=>⟨(hr2 i hi).1,fun h=>by
              have:=hr1.lt i hi
              omega⟩⟩,fun h=>by simp only[idsC]at h;omega,hx5⟩
             out:=by unfold look at hout⊢;rw[hset _ (by omega),w4 _ (by omega)];exact hout
             lt:=by rw[List.length_set];omega
             frm:=fun i hi=>by rw[hset i (by omega),w4 i (by omega)];exact hm.frm i hi}
     · simp(maxSteps:=999999)(disch:=omega)only[go_sem,zA,zM,zS,zE,zL]
       exact⟨k+1,HI,⟨⟨by omega,hm⟩,by omega⟩,by push_cast;omega,HLe.refl _⟩
   · simp(maxSteps:=999999)(disch:=omega)only[go_sem,zA,zM,zS,zE,zL,hx1,hout]
     have hS:∀b,look (HI.set (H.length+1) (some ⟨g2,3,b⟩)) (H.length+1) g2=some ⟨g2,3,b⟩:=fun b=>look_set_eq' (by omega)
     simp(maxSteps:=999999)(disch:=omega)only[go_sem,zA,zM,zS,zE,zL,hS]
     refine⟨_,HLe.refl _,by rw[List.length_set];omega,fun i hi=>by rw[List.getElem?_set_ne (by omega)];exact hm.frm i hi, .inr ⟨_,_,zs',rfl,hx2, ?_⟩⟩
     refine(PzO.same (H:=HI) ⟨gid',gg',rfl,hg1,hg2,hr1,hr2⟩ fun i hi _ _=> ?_).n0 (by omega)
     rw[List.getElem?_set_ne (by omega)]
 · rw[lwF_cons]
   simp(maxSteps:=999999)(disch:=omega)only[go_sem,zA,zM,zS,zE,zL,look_off,look_off0,set_off,set_off0,List.append_assoc,List.cons_append,List.nil_append,List.length_append]
   refine appendM_new (E:=eR) (ys:=rs) (sliceOf_of' ti30 rfl ti24) ⟨rfl,rfl,by decide,by decide⟩ ⟨by omega,hx.1⟩ elems_f ?_
   intro g4
   simp(maxSteps:=999999)(disch:=omega)only[go_sem,zA,zM,zS,zE,zL,look_off,look_off0,set_off,set_off0,List.append_assoc,List.cons_append,List.nil_append,List.length_append]
   refine⟨okM_tail _ [_,_,_] [_], ?_⟩
   rw[lwF_cons]
   simp(maxSteps:=999999)(disch:=omega)only[go_sem,zA,zM,zS,zE,zL,look_off,look_off0,set_off,set_off0,List.append_assoc,List.cons_append,List.nil_append,List.length_append]
   intro g5
   obtain⟨HI,hHI⟩:∃HI:Heap,HI=H++[some ⟨g1,1,[.f (.int .i64 z), .f (fints zs), .f (fsl eR rs)]⟩,some ⟨g2,3,[.f (.int .i64 0), .f .nil, .f .nil]⟩,some ⟨g3,1,cl (eI .i64) zs⟩,some ⟨g4,3,cl eR rs⟩,some ⟨g5,3,[.f (.int .i64 z), .own (H.length+2) g3 0 zs.length none, .own (H.length+3) g4 0 rs.length none]⟩]:=⟨_,rfl⟩
   have hm0:MiI H HI (H.length+4) g5 g2 z zs.length rs:=
    {ex:=⟨.own (H.length+2) g3 0 zs.length none, .own (H.length+3) g4 0 rs.length none,zs,by rw[hHI,look_off];exact look_of (b:=⟨g5,3,[.f (.int .i64 z), .own (H.length+2) g3 0 zs.length none, .own (H.length+3) g4 0 rs.length none]⟩) rfl,rfl,⟨H.length+2,g3,rfl,by rw[hHI,look_off];exact look_of (b:=⟨g3,1,cl (eI .i64) zs⟩) rfl,Nat.le_refl _,by rw[hHI];exact OwnL.o (H.length+3) g4 rs (by rw[look_off];exact look_of (b:=⟨g4,3,cl eR rs⟩) rfl),fun i h=>by simp only[idsC]at h;omega⟩,fun h=>by simp only[idsC]at h;omega,fun h=>by simp only[idsC]at h;omega⟩
     out:=by rw[hHI,look_off];exact look_of (b:=⟨g2,3,[.f (.int .i64 0), .f .nil, .f .nil]⟩) rfl
     lt:=by rw[hHI];simp
     frm:=fun i hi=>by rw[hHI,List.getElem?_append_left hi]}
   rw[←hHI]
   clear hHI
   refine loop_rule2 (fun(k:Nat) (HI:Heap)=>zs.length -k) (fun k HI=>k≤zs.length∧MiI H HI (H.length+4) g5 g2 z zs.length rs) (fun k HI=>[.a, .a, .k, .a, .k, .p (int k), .a, .a, .a, .a, .a, .a, .a, .a, .a, .a, .a, .a, .a, .a, .a, .a, .a, .a, .a, .a, .a, .a, .a, .a, .a, .a, .a, .a, .a, .a, .a, .a, .a, .a, .a, .a]) (fun _ HI=>HI) 0 HI ⟨Nat.zero_le _,hm0⟩ (by simp(maxSteps:=999999)(disch:=omega)only[go_sem,zA,zM,zS,zE,zL];rfl) (HLe.refl _) ?_
   rintro k HI ⟨hk,hm⟩
   obtain⟨gc,rc,zs',hx1,hx2,hx3,hx4,hx5⟩:=hm.ex
   have hsn:=hx3.snap
   have hout:=hm.out
   have hlt:=hm.lt
   obtain⟨gid',gg',rfl,hg1,hg2,hr1,hr2⟩:=hx3
   simp(maxSteps:=999999)(disch:=omega)only[go_sem,zA,zM,zS,zE,zL,hx1,hg1]
   ((first|(with_reducible first|refine condK_dec ?_ ?_|refine condK_ndec ?_ ?_|refine condK_nb ?_ ?_)|refine condK_b ?_ ?_)<;>intro c1)
   · have c1:k<zs'.length:=by omega
     have hsm':smP ⟨z,zs',rs⟩:=⟨by show zs'.length≤_;omega,hx⟩
     simp(maxSteps:=999999)(disch:=omega)only[go_sem,zA,zM,zS,zE,zL,hx1]
     refine OpS.rdD (sIsRedundant_run ⟨z,zs',rs⟩ k (by omega) hsm') (⟨_,Tryd.func102,rfl,rfl⟩:Enters Tryd.prog 102) rfl rfl (snap_two hsn snapD_int) rfl ?_
     simp(maxSteps:=999999)(disch:=omega)only[go_sem,zA,zM,zS,zE,zL]
     ((first|(with_reducible first|refine condK_dec ?_ ?_|refine condK_ndec ?_ ?_|refine condK_nb ?_ ?_)|refine condK_b ?_ ?_)<;>intro c2)
     · simp(maxSteps:=999999)(disch:=omega)only[go_sem,zA,zM,zS,zE,zL,hx1]
       refine OpS.run (l10Without_gen HI z gid' gg' k zs' rc hg1 c1 (by omega)) (⟨_,Tryd.func103,rfl,rfl⟩:Enters Tryd.prog 103) rfl rfl ?_
       rintro _ H5 ⟨id6,g6,rfl,w1,w2,w3,w4⟩
       have hid6:id6<H5.length:=(List.getElem?_eq_some_iff.1 (look_some w1).1).1
       have hx6:look H5 (H.length+4) g5=some ⟨g5,3,[.f (.int .i64 z), .own gid' gg' 0 zs'.length none,rc]⟩:=by unfold look at hx1⊢;rw[w4 _ hlt.2];exact hx1
       simp(maxSteps:=999999)(disch:=omega)only[go_sem,zA,zM,zS,zE,zL,hx6]
       have hset:∀i:Nat,i≠(H.length+4)→∀b,(H5.set (H.length+4) b)[i]? =H5[i]? :=fun i hi b=>by rw[List.getElem?_set_ne (Ne.symm hi)]
       refine⟨k+1,_,⟨⟨by omega, ?_⟩,by omega⟩,by push_cast;omega,HLe.refl _⟩
       exact{ex:=⟨.own id6 g6 0 zs'.length none,rc,zs'.set k 0,look_set_eq' (by omega),by rw[List.length_set];exact hx2,⟨id6,g6,by rw[List.length_set],by unfold look at w1⊢;rw[hset _ (by omega)];exact w1,by omega,hr1.same (fun i hi hl=>by
              rw[hset i (fun h=>hx5 (by rw[←h];exact hi)),w4 i hl]),fun i hi=>⟨(hr2 i hi).1,fun h=>by
              have:=hr1.lt i hi
              omega⟩⟩,fun h=>by simp only[idsC]at h;omega,hx5⟩
             out:=by unfold look at hout⊢;rw[hset _ (by omega),w4 _ (by omega)];exact hout
             lt:=by rw[List.length_set];omega
             frm:=fun i hi=>by rw[hset i (by omega),w4 i (by omega)];exact hm.frm i hi}
     · simp(maxSteps:=999999)(disch:=omega)only[go_sem,zA,zM,zS,zE,zL]
       exact⟨k+1,HI,⟨⟨by omega,hm⟩,by omega⟩,by push_cast;omega,HLe.refl _⟩
   · simp(maxSteps:=999999)(disch:=omega)only[go_sem,zA,zM,zS,zE,zL,hx1,hout]
     have hS:∀b,look (HI.set (H.length+1) (some ⟨g2,3,b⟩)) (H.length+1) g2=some ⟨g2,3,b⟩:=fun b=>look_set_eq' (by omega)
     simp(maxSteps:=999999)(disch:=omega)only[go_sem,zA,zM,zS,zE,zL,hS]
     refine⟨_,HLe.refl _,by rw[List.length_set];omega,fun i hi=>by rw[List.getElem?_set_ne (by omega)];exact hm.frm i hi, .inr ⟨_,_,zs',rfl,hx2, ?_⟩⟩
     refine(PzO.same (H:=HI) ⟨gid',gg',rfl,hg1,hg2,hr1,hr2⟩ fun i hi _ _=> ?_).n0 (by omega)
     rw[List.getElem?_set_ne (by omega)]
end Go.Lg
