/- GpGC, cut to what is needed. -/
import Derived.Test.YtiahmfdabpafoaaDoorGad1
import Derived.Test.YtiahmfdabpafoaaDoorGac7
open Nat renaming reduceAdd→zA,reduceMul→zM,reduceSub→zS,reduceEqDiff→zE,reduceLeDiff→zL
set_option linter.unusedSimpArgs false
set_option linter.unusedVariables false
set_option maxRecDepth 100000
namespace Go.Lg
open Go.Proofs
def boxL:List Int:=(List.range 16).map fun(k:Nat)=>(k:Int)/8*2+(k:Int)%4/2
theorem boxL_len:boxL.length=16:=by simp[boxL]
theorem boxL_nth{k:Nat}(h:k<16):nth boxL k=(k:Int)/8*2+(k:Int)%4/2:=by
 rw[nth_eq (by rw[boxL_len];omega)]
 simp[boxL]
theorem allS_len'(p:Puz)(most:Nat):(allS p most).length≤most:=by
 unfold allS
 split
 · rw[List.length_take];omega
 · simp
theorem BoxRegions_run:Reads Tryd.prog 76 [] (ints boxL):=by
 refine Reads.own ?_
 refine RunCall.cw (c:=_) Tryd.func76 rfl (n:=19) Tryd.ntmps76 (rs:=[.tmp 0]) rfl ?_
 simp only[List.length_cons,List.length_nil,zA,zS,List.replicate,List.cons_append,List.nil_append]
 simp(maxSteps:=999999)(disch:=omega)only[go_sem,zA,zM,zS,zE,zL]
 intro g
 refine loop_rule2 (fun(k g:Nat)=>16 -k) (fun k g=>k≤16) (fun k g=>[.a, .p (.c (.own 0 g 0 k none)), .p (int k), .a, .a, .a, .a, .a, .a, .a, .a, .a, .a, .a, .a, .a, .a, .a, .a]) (fun k g=>[some ⟨g,1,cl (eI .i64) (boxL.take k)⟩]) 0 g (Nat.zero_le _) (by simp(maxSteps:=999999)(disch:=omega)only[go_sem,zA,zM,zS,zE,zL];rfl) (HLe.refl _) ?_
 intro k g hk
 have hbl:=boxL_len
 simp(maxSteps:=999999)(disch:=omega)only[go_sem,zA,zM,zS,zE,zL]
 ((first|(with_reducible first|refine condK_dec ?_ ?_|refine condK_ndec ?_ ?_|refine condK_nb ?_ ?_)|refine condK_b ?_ ?_)<;>intro c1)
 · have c1:k<16:=by omega
   have e1:(k:Int).tdiv 8=(k:Int)/8:=tdiv_nn (by omega)
   have e2:(k:Int).tmod 4=(k:Int)%4:=tmod_nn (by omega)
   have e3:((k:Int)%4).tdiv 2=(k:Int)%4/2:=tdiv_nn (by omega)
   simp(maxSteps:=999999)(disch:=omega)only[go_sem,zA,zM,zS,zE,zL,e1,e2,e3]
   intro g1 g2
   refine⟨k+1,g2,⟨by omega,by omega⟩,⟨⟨rfl,rfl⟩,by push_cast;omega⟩,hle_eq ?_ (hle_nil _)⟩
   rw[take_succ_nth (by omega),boxL_nth c1]
 · have hke:k=16:=by omega
   subst hke
   simp(maxSteps:=999999)(disch:=omega)only[go_sem,zA,zM,zS,zE,zL]
   rw[List.take_of_length_le (by omega)]
   exact lessQ_own (E:=eI .i64) (n:=1) (xs:=boxL) (HLe.refl _)
def regsOk(rs:List Int)(n:Int):Bool:=decide ((∀k:Nat,k<rs.length→0≤nth rs k∧nth rs k≤n -1)∧2≤n∧n≤4∧(rs.length:Int)=n*n)
theorem sRegionsValid_run(rs:List Int)(n:Int)(hl:rs.length≤2^40)(hn: -2^20≤n∧n≤2^20):Reads Tryd.prog 96 [ints rs,int n] (bool (regsOk rs n)):=by
 refine RunCall.cw (c:=_) Tryd.func96 rfl (n:=30) Tryd.ntmps96 (rs:=[.tmp 4]) rfl ?_
 simp only[List.length_cons,List.length_nil,zA,zS,List.replicate,List.cons_append,List.nil_append]
 simp(maxSteps:=999999)(disch:=omega)only[go_sem,zA,zM,zS,zE,zL]
 refine loop_rule (fun k:Nat=>rs.length -k) (fun k=>k≤rs.length∧∀j:Nat,j<k→0≤nth rs j∧nth rs j≤n -1) (fun k=>[.k, .k, .a, .a, .a, .p (int k), .a, .a, .a, .a, .a, .a, .a, .a, .a, .a, .a, .a, .a, .a, .a, .a, .a, .a, .a, .a, .a, .a, .a, .a]) (fun _=>[]) 0 ⟨Nat.zero_le _,fun j hj=>absurd hj (Nat.not_lt_zero _)⟩ (by simp(maxSteps:=999999)(disch:=omega)only[go_sem,zA,zM,zS,zE,zL];rfl) (hle_nil _) ?_
 rintro k ⟨hk,hall⟩
 simp(maxSteps:=999999)(disch:=omega)only[go_sem,zA,zM,zS,zE,zL]
 ((first|(with_reducible first|refine condK_dec ?_ ?_|refine condK_ndec ?_ ?_|refine condK_nb ?_ ?_)|refine condK_b ?_ ?_)<;>intro c1)
 · have c1:k<rs.length:=by omega
   simp(maxSteps:=999999)(disch:=omega)only[go_sem,zA,zM,zS,zE,zL]
   first|refine OpS.rd (l1In_run _ _ _) (⟨_,Tryd.func72,rfl,rfl⟩:Enters Tryd.prog 72) rfl rfl rfl rfl ?_|refine Loud.rd (l1In_run _ _ _) (⟨_,Tryd.func72,rfl,rfl⟩:Enters Tryd.prog 72) rfl rfl rfl rfl ?_
   simp(maxSteps:=999999)(disch:=omega)only[go_sem,zA,zM,zS,zE,zL]
   ((first|(with_reducible first|refine condK_dec ?_ ?_|refine condK_ndec ?_ ?_|refine condK_nb ?_ ?_)|refine condK_b ?_ ?_)<;>intro c2)
   · simp(maxSteps:=999999)(disch:=omega)only[go_sem,zA,zM,zS,zE,zL]
     refine⟨k+1,⟨⟨by omega,fun j hj=> ?_⟩,by omega⟩,by push_cast;omega,hle_nil _⟩
     by_cases hjk:j=k
     · rw[hjk];omega
     · exact hall j (by omega)
   · simp(maxSteps:=999999)(disch:=omega)only[go_sem,zA,zM,zS,zE,zL]
     unfold regsOk
     rw[eq_comm,decide_eq_false_iff_not]
     exact fun h=>c2 (h.1 k c1)
 · have hke:k=rs.length:=by omega
   subst hke
   simp(maxSteps:=999999)(disch:=omega)only[go_sem,zA,zM,zS,zE,zL]
   first|refine OpS.rd (l1In_run _ _ _) (⟨_,Tryd.func72,rfl,rfl⟩:Enters Tryd.prog 72) rfl rfl rfl rfl ?_|refine Loud.rd (l1In_run _ _ _) (⟨_,Tryd.func72,rfl,rfl⟩:Enters Tryd.prog 72) rfl rfl rfl rfl ?_
   simp(maxSteps:=999999)(disch:=omega)only[go_sem,zA,zM,zS,zE,zL]
   by_cases h2:2≤n∧n≤4
   · have hnn:4≤n*n∧n*n≤16:=by
      obtain rfl|rfl|rfl:n=2∨n=3∨n=4:=by omega
      all_goals omega
     rw[decide_eq_true h2]
     simp(maxSteps:=999999)(disch:=omega)only[go_sem,zA,zM,zS,zE,zL]
     unfold regsOk
     rw[decide_eq_decide]
     exact⟨fun h=>⟨hall,h2.1,h2.2,h⟩,fun h=>h.2.2.2⟩
   · rw[decide_eq_false h2]
     simp(maxSteps:=999999)(disch:=omega)only[go_sem,zA,zM,zS,zE,zL]
     unfold regsOk
     rw[eq_comm,decide_eq_false_iff_not]
     exact fun h=>h2 ⟨h.2.1,h.2.2.1⟩
def regC(rs:List Int)(a:Int)(k:Nat):List Int:=((List.range rs.length).take k).flatMap fun(i:Nat)=>if nth rs i=a then[(i:Int)]else[]
theorem regC_succ{rs:List Int}{a:Int}{k:Nat}(h:k<rs.length):regC rs a (k+1)=regC rs a k++if nth rs k=a then[(k:Int)]else[]:=by
 unfold regC
 rw[List.take_succ_eq_append_getElem (by simpa using h),List.flatMap_append]
 simp
theorem regC_len(rs:List Int)(a:Int)(k:Nat):(regC rs a k).length≤k:=by
 unfold regC
 rw[List.length_flatMap]
 have:∀(l:List Nat),(l.map fun(i:Nat)=>(if nth rs i=a then[(i:Int)]else[]).length).sum≤l.length:=by
  intro l
  induction l with
  |nil=>simp
  |cons v l ih=>
   simp only[List.map_cons,List.sum_cons,List.length_cons]
   have:(if nth rs (v:Int)=a then[(v:Int)]else[]).length≤1:=by split<;>simp
   omega
 refine Nat.le_trans (this _) ?_
 rw[List.length_take,List.length_range]
 omega
def regV(rs:List Int)(n a:Int):List Int:=if regsOk rs n=true then regC rs a rs.length else[]
theorem sRegionCells_run(rs:List Int)(n a:Int)(hl:rs.length≤2^30)(hn: -2^20≤n∧n≤2^20):Reads Tryd.prog 97 [ints rs,int n,int a] (ints (regV rs n a)):=by
 refine Reads.own ?_
 refine RunCall.cw (c:=_) Tryd.func97 rfl (n:=32) Tryd.ntmps97 (rs:=[.tmp 6]) rfl ?_
 simp only[List.length_cons,List.length_nil,zA,zS,List.replicate,List.cons_append,List.nil_append]
 simp(maxSteps:=999999)(disch:=omega)only[go_sem,zA,zM,zS,zE,zL]
 intro g
 cases hv:regsOk rs n with
 |false=>
  have e:regV rs n a=[]:=by unfold regV;rw[if_neg (by rw[hv];simp)]
  rw[e]
  refine loop_rule2 (fun(k g:Nat)=>rs.length -k) (fun k g=>k=0) (fun k g=>[.k, .k, .k, .a, .a, .a, .a, .p (.c (.own 0 g 0 0 none)), .p (int k), .a, .a, .a, .a, .a, .a, .a, .a, .a, .a, .a, .a, .a, .a, .a, .a, .a, .a, .a, .a, .a, .a, .a]) (fun k g=>[some ⟨g,1,[]⟩]) 0 g rfl (by simp(maxSteps:=999999)(disch:=omega)only[go_sem,zA,zM,zS,zE,zL];rfl) (HLe.refl _) ?_
  intro k g hk
  subst hk
  simp(maxSteps:=999999)(disch:=omega)only[go_sem,zA,zM,zS,zE,zL]
  ((with_reducible first|refine guardK_dec ?_ ?_|refine guardK_ndec ?_ ?_|refine guardK_nb ?_ ?_|refine guardK_split ?_ ?_|refine guardQ_dec ?_ ?_|refine guardL_dec ?_ ?_|refine guardQ_ndec ?_ ?_|refine guardL_ndec ?_ ?_|refine guardQ_nb ?_ ?_|refine guardL_nb ?_ ?_|refine guardQ_split ?_ ?_|refine guardL_split ?_ ?_)<;>intro c1<;>simp(maxSteps:=999999)(disch:=omega)only[go_sem,zA,zM,zS,zE,zL,c1])
  · first|refine OpS.rd (sRegionsValid_run rs n (by omega) hn) (⟨_,Tryd.func96,rfl,rfl⟩:Enters Tryd.prog 96) rfl rfl rfl rfl ?_|refine Loud.rd (sRegionsValid_run rs n (by omega) hn) (⟨_,Tryd.func96,rfl,rfl⟩:Enters Tryd.prog 96) rfl rfl rfl rfl ?_
    simp(maxSteps:=999999)(disch:=omega)only[go_sem,zA,zM,zS,zE,zL]
    rw[hv]
    simp(maxSteps:=999999)(disch:=omega)only[go_sem,zA,zM,zS,zE,zL]
    exact lessQ_own (E:=eI .i64) (n:=1) (xs:=[]) (HLe.refl _)
  · exact lessQ_own (E:=eI .i64) (n:=1) (xs:=[]) (HLe.refl _)
 |true=>
  have e:regV rs n a=regC rs a rs.length:=by unfold regV;rw[if_pos hv]
  rw[e]
  refine loop_rule2 (fun(k g:Nat)=>rs.length -k) (fun k g=>k≤rs.length) (fun k g=>[.k, .k, .k, .a, .a, .a, .a, .p (.c (.own 0 g 0 (regC rs a k).length none)), .p (int k), .a, .a, .a, .a, .a, .a, .a, .a, .a, .a, .a, .a, .a, .a, .a, .a, .a, .a, .a, .a, .a, .a, .a]) (fun k g=>[some ⟨g,1,cl (eI .i64) (regC rs a k)⟩]) 0 g (Nat.zero_le _) (by simp(maxSteps:=999999)(disch:=omega)only[go_sem,zA,zM,zS,zE,zL];simp[regC]) (HLe.refl _) ?_
  intro k g hk
  have hcl:=regC_len rs a k
  simp(maxSteps:=999999)(disch:=omega)only[go_sem,zA,zM,zS,zE,zL]
  ((with_reducible first|refine guardK_dec ?_ ?_|refine guardK_ndec ?_ ?_|refine guardK_nb ?_ ?_|refine guardK_split ?_ ?_|refine guardQ_dec ?_ ?_|refine guardL_dec ?_ ?_|refine guardQ_ndec ?_ ?_|refine guardL_ndec ?_ ?_|refine guardQ_nb ?_ ?_|refine guardL_nb ?_ ?_|refine guardQ_split ?_ ?_|refine guardL_split ?_ ?_)<;>intro c1<;>simp(maxSteps:=999999)(disch:=omega)only[go_sem,zA,zM,zS,zE,zL,c1])
  · have c1:k<rs.length:=by omega
    have hs:=regC_succ (a:=a) c1
    first|refine OpS.rd (sRegionsValid_run rs n (by omega) hn) (⟨_,Tryd.func96,rfl,rfl⟩:Enters Tryd.prog 96) rfl rfl rfl rfl ?_|refine Loud.rd (sRegionsValid_run rs n (by omega) hn) (⟨_,Tryd.func96,rfl,rfl⟩:Enters Tryd.prog 96) rfl rfl rfl rfl ?_
    simp(maxSteps:=999999)(disch:=omega)only[go_sem,zA,zM,zS,zE,zL]
    rw[hv]
    simp(maxSteps:=999999)(disch:=omega)only[go_sem,zA,zM,zS,zE,zL]
    ((first|(with_reducible first|refine condK_dec ?_ ?_|refine condK_ndec ?_ ?_|refine condK_nb ?_ ?_)|refine condK_b ?_ ?_)<;>intro c2)
    · simp(maxSteps:=999999)(disch:=omega)only[go_sem,zA,zM,zS,zE,zL]
      intro g1 g2
      rw[if_pos c2]at hs
      refine⟨k+1,g2,⟨by omega,by omega⟩,⟨by rw[hs,List.length_append];exact⟨rfl,rfl⟩,by push_cast;omega⟩,hle_eq (by rw[hs]) (hle_nil _)⟩
    · simp(maxSteps:=999999)(disch:=omega)only[go_sem,zA,zM,zS,zE,zL]
      rw[if_neg c2,List.append_nil]at hs
      refine⟨k+1,g,⟨by omega,by omega⟩,⟨by rw[hs];exact⟨rfl,rfl⟩,by push_cast;omega⟩,by rw[hs];exact HLe.refl _⟩
  · have hke:k=rs.length:=by omega
    subst hke
    exact lessQ_own (E:=eI .i64) (n:=1) (HLe.refl _)
def regR(rs:List Int)(n:Int)(k:Nat):List Rul:=(List.range k).flatMap fun(i:Nat)=>if 2≤(regV rs n i).length then[⟨1,regV rs n i,0⟩]else[]
theorem regR_succ(rs:List Int)(n:Int)(k:Nat):regR rs n (k+1)=regR rs n k++if 2≤(regV rs n k).length then[⟨1,regV rs n k,0⟩]else[]:=by
 unfold regR
 rw[List.range_succ,List.flatMap_append]
 simp
theorem regR_len(rs:List Int)(n:Int):∀k:Nat,(regR rs n k).length≤k
 |0=>by simp[regR]
 |k+1=>by
  rw[regR_succ,List.length_append]
  have:=regR_len rs n k
  split<;>simp<;>omega
def ruleSm(rs:List Rul)(a b:Nat):Prop:=rs.length≤a∧∀r∈rs,r.cells.length≤b
theorem sRegionRules_run(rs:List Int)(n:Int)(hl:rs.length≤2^30)(hn: -2^20≤n∧n≤2^20):RunCall Tryd.prog 75 [ints rs,int n] [] (fun v _=>∃(qs:List Rul) (b:Bool),v= .tup [rsl eR qs,bool b]∧ruleSm qs 4 4):=by
 refine RunCall.freeze (Q':=fun v H'=>∃(qs:List Rul) (b:Bool) (id g:Nat),v= .tup [.c (.own id g 0 qs.length none),bool b]∧look H' id g=some ⟨g,3,cl eR qs⟩∧ruleSm qs 4 4) ?_ ?_
 rotate_left
 · rintro v H' ⟨qs,b,id,g,rfl,h1,h2⟩
   have e1:=frzA_own (lim:=none) h1
   simp only[frzA,frz1,Option.map_eq_some_iff]at e1
   obtain⟨y,e1,e2⟩:=e1
   cases e2
   have e3:∀x,frzC H' (.f (.bool x))=some (.f (.bool x)):=fun x=>rfl
   refine⟨.tup [rsl eR qs,bool b], ?_,qs,b,rfl,h2⟩
   simp only[frzA,List.mapM_cons,List.mapM_nil,frz1,e1,e3,Option.pure_def,Option.bind_eq_bind,Option.bind_some,Option.map_some]
 refine RunCall.cw (c:=_) Tryd.func75 rfl (n:=37) Tryd.ntmps75 (rs:=[.tmp 4, .tmp 5]) rfl ?_
 simp only[List.length_cons,List.length_nil,zA,zS,List.replicate,List.cons_append,List.nil_append]
 simp(maxSteps:=999999)(disch:=omega)only[go_sem,zA,zM,zS,zE,zL]
 intro g
 first|refine OpS.rd (sRegionsValid_run rs n (by omega) hn) (⟨_,Tryd.func96,rfl,rfl⟩:Enters Tryd.prog 96) rfl rfl rfl rfl ?_|refine Loud.rd (sRegionsValid_run rs n (by omega) hn) (⟨_,Tryd.func96,rfl,rfl⟩:Enters Tryd.prog 96) rfl rfl rfl rfl ?_
 simp(maxSteps:=999999)(disch:=omega)only[go_sem,zA,zM,zS,zE,zL]
 ((first|(with_reducible first|refine condK_dec ?_ ?_|refine condK_ndec ?_ ?_|refine condK_nb ?_ ?_)|refine condK_b ?_ ?_)<;>intro c0)
 rotate_left
 · simp(maxSteps:=999999)(disch:=omega)only[go_sem,zA,zM,zS,zE,zL]
   exact⟨_,HLe.refl _,[],false,0,g,rfl,look_of (b:=⟨g,3,cl eR []⟩) rfl,by simp,by simp⟩
 have hv:=c0
 simp only[regsOk,decide_eq_true_eq]at hv
 obtain⟨_,hn2,hn4,_⟩:=hv
 simp(maxSteps:=999999)(disch:=omega)only[go_sem,zA,zM,zS,zE,zL]
 refine loop_rule2 (fun(k g:Nat)=>n.toNat -k) (fun k g=>k≤n.toNat∧∀r∈regR rs n k,r.cells.length≤4) (fun k g=>[.k, .k, .a, .a, .a, .a, .p (.c (.own 0 g 0 (regR rs n k).length none)), .p (int k), .a, .a, .a, .a, .a, .a, .a, .a, .a, .a, .a, .a, .a, .a, .a, .a, .a, .a, .a, .a, .a, .a, .a, .a, .a, .a, .a, .a, .a]) (fun k g=>[some ⟨g,3,cl eR (regR rs n k)⟩]) 0 g ⟨Nat.zero_le _,by simp[regR]⟩ (by simp(maxSteps:=999999)(disch:=omega)only[go_sem,zA,zM,zS,zE,zL];exact⟨by simp[regR],rfl⟩) (HLe.refl _) ?_
 rintro k g ⟨hk,hall⟩
 have hrl:=regR_len rs n k
 have hcl:(regV rs n k).length≤rs.length:=by
  rw[regV,if_pos c0]
  exact regC_len _ _ _
 have hs:=regR_succ rs n k
 simp(maxSteps:=999999)(disch:=omega)only[go_sem,zA,zM,zS,zE,zL]
 ((first|(with_reducible first|refine condK_dec ?_ ?_|refine condK_ndec ?_ ?_|refine condK_nb ?_ ?_)|refine condK_b ?_ ?_)<;>intro c1)
 · have c1:k<n.toNat:=by omega
   simp(maxSteps:=999999)(disch:=omega)only[go_sem,zA,zM,zS,zE,zL]
   first|refine OpS.mk (sRegionCells_run rs n k hl hn) (⟨_,Tryd.func97,rfl,rfl⟩:Enters Tryd.prog 97) rfl rfl rfl rfl rfl ?_|refine Loud.mk (sRegionCells_run rs n k hl hn) (⟨_,Tryd.func97,rfl,rfl⟩:Enters Tryd.prog 97) rfl rfl rfl rfl rfl ?_
   simp(maxSteps:=999999)(disch:=omega)only[go_sem,zA,zM,zS,zE,zL]
   ((first|(with_reducible first|refine condK_dec ?_ ?_|refine condK_ndec ?_ ?_|refine condK_nb ?_ ?_)|refine condK_b ?_ ?_)<;>intro c2)
   · simp(maxSteps:=999999)(disch:=omega)only[go_sem,zA,zM,zS,zE,zL]
     intro g2
     exact⟨_,HLe.refl _,[],false,1,g2,rfl,look_of (b:=⟨g2,3,cl eR []⟩) rfl,by simp,by simp⟩
   · simp(maxSteps:=999999)(disch:=omega)only[go_sem,zA,zM,zS,zE,zL]
     ((first|(with_reducible first|refine condK_dec ?_ ?_|refine condK_ndec ?_ ?_|refine condK_nb ?_ ?_)|refine condK_b ?_ ?_)<;>intro c3)
     · simp(maxSteps:=999999)(disch:=omega)only[go_sem,zA,zM,zS,zE,zL]
       intro g1 g2
       rw[if_pos (by omega)]at hs
       refine⟨k+1,g2,⟨⟨by omega,fun r hr=> ?_⟩,by omega⟩,⟨by rw[hs,List.length_append];exact⟨rfl,rfl⟩,by push_cast;omega⟩,hle_eq (by rw[hs,cl_append];rfl) (hle_nil _)⟩
       rw[hs]at hr
       rcases List.mem_append.1 hr with h|h
       · exact hall r h
       · simp at h;subst h;simp only;omega
     · simp(maxSteps:=999999)(disch:=omega)only[go_sem,zA,zM,zS,zE,zL]
       rw[if_neg (by omega),List.append_nil]at hs
       exact⟨k+1,g,⟨⟨by omega,by rw[hs];exact hall⟩,by omega⟩,⟨by rw[hs];exact⟨rfl,rfl⟩,by push_cast;omega⟩,by rw[hs];exact HLe.refl _⟩
 · simp(maxSteps:=999999)(disch:=omega)only[go_sem,zA,zM,zS,zE,zL]
   exact⟨_,HLe.refl _,regR rs n k,true,0,g,rfl,look_of (b:=⟨g,3,cl eR (regR rs n k)⟩) rfl,by omega,hall⟩
theorem l10One_run(p:Puz)(hx:smP p):Reads Tryd.prog 101 [aP p] (bool (decide ((allS p 2).length=1))):=by
 have hle:=allS_len' p 2
 refine RunCall.cw (c:=_) Tryd.func101 rfl (n:=7) Tryd.ntmps101 (rs:=[.tmp 2]) rfl ?_
 simp only[List.length_cons,List.length_nil,zA,zS,List.replicate,List.cons_append,List.nil_append]
 simp(maxSteps:=999999)(disch:=omega)only[go_sem,zA,zM,zS,zE,zL]
 intro g
 first|refine OpS.mk (l5All_run p 2 (by omega) hx) (⟨_,Tryd.func122,rfl,rfl⟩:Enters Tryd.prog 122) rfl rfl rfl rfl rfl ?_|refine Loud.mk (l5All_run p 2 (by omega) hx) (⟨_,Tryd.func122,rfl,rfl⟩:Enters Tryd.prog 122) rfl rfl rfl rfl rfl ?_
 simp(maxSteps:=999999)(disch:=omega)only[go_sem,zA,zM,zS,zE,zL]
 rw[decide_eq_decide]
 omega
end Go.Lg
