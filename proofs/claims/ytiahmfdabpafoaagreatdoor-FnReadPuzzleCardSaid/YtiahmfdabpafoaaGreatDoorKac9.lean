/- GpGC, cut to what is needed. -/
import Derived.Test.YtiahmfdabpafoaaGreatDoorKac2
import Derived.Test.YtiahmfdabpafoaaGreatDoorKac7
open List renaming cons_append → Jc, nil_append → Jd, length_append → Je, length_cons → Jf, replicate → Jg, length_nil → Jl, take_of_length_le → Jn, append_nil → Jv, mapM_cons → Jz, length_take → JA, mem_append → JF, mapM_nil → Qa, map_cons → Qf, sum_cons → UV
open Nat renaming reduceAdd→zA,reduceMul→zM,reduceSub→zS,reduceEqDiff→zE,reduceLeDiff→zL
set_option linter.unusedSimpArgs false
set_option linter.unusedVariables false
set_option maxRecDepth 100000
namespace Go.Lg
open Go.Proofs
def Jal:List Int:=(List.range 16).map fun(k:Nat)=>(k:Int)/8*2+(k:Int)%4/2
theorem Bq:Jal.length=16:=by simp[Jal]
theorem Jfr{k:Nat}(h:k<16):JM Jal k=(k:Int)/8*2+(k:Int)%4/2:=by
 rw[Qu (by rw[Bq];omega)]
 simp[Jal]
theorem JdF(p:Zk)(most:Nat):(B1 p most).length≤most:=by
 unfold B1
 split
 · rw[JA];omega
 · simp
theorem Xe:Qd Tryz.prog 38 [] (ZY Jal):=by
 refine Qd.own ?_
 refine Jq.cw (c:=_) Tryz.func38 rfl (n:=19) Tryz.ntmps38 (rs:=[.tmp 0]) rfl ?_
 simp only[Jf,Jl,zA,zS,Jg,Jc,Jd]
 simp(maxSteps:=999999)(disch:=omega)only[go_sem,zA,zM,zS,zE,zL]
 intro g
 refine Qj (fun(k g:Nat)=>16 -k) (fun k g=>k≤16) (fun k g=>[.a, .p (.c (.own 0 g 0 k none)), .p (int k), .a, .a, .a, .a, .a, .a, .a, .a, .a, .a, .a, .a, .a, .a, .a, .a]) (fun k g=>[some ⟨g,1,cl (eI .i64) (Jal.take k)⟩]) 0 g (Nat.zero_le _) (by simp(maxSteps:=999999)(disch:=omega)only[go_sem,zA,zM,zS,zE,zL];rfl) (Qc.refl _) ?_
 intro k g hk
 have hbl:=Bq
 simp(maxSteps:=999999)(disch:=omega)only[go_sem,zA,zM,zS,zE,zL]
 ((first|(with_reducible first|refine Jo ?_ ?_|refine Jk ?_ ?_|refine Jp ?_ ?_)|refine Jr ?_ ?_)<;>intro c1)
 · have c1:k<16:=by omega
   have e1:(k:Int).tdiv 8=(k:Int)/8:=Yk (by omega)
   have e2:(k:Int).tmod 4=(k:Int)%4:=Un (by omega)
   have e3:((k:Int)%4).tdiv 2=(k:Int)%4/2:=Yk (by omega)
   simp(maxSteps:=999999)(disch:=omega)only[go_sem,zA,zM,zS,zE,zL,e1,e2,e3]
   intro g1 g2
   refine⟨k+1,g2,⟨by omega,by omega⟩,⟨⟨rfl,rfl⟩,by push_cast;omega⟩,Zd ?_ (J8 _)⟩
   rw[JX (by omega),Jfr c1]
 · have hke:k=16:=by omega
   subst hke
   simp(maxSteps:=999999)(disch:=omega)only[go_sem,zA,zM,zS,zE,zL]
   rw[Jn (by omega)]
   exact Vm (E:=eI .i64) (n:=1) (xs:=Jal) (Qc.refl _)
def XT(rs:List Int)(n:Int):Bool:=decide ((∀k:Nat,k<rs.length→0≤JM rs k∧JM rs k≤n -1)∧2≤n∧n≤4∧(rs.length:Int)=n*n)
theorem Zb(rs:List Int)(n:Int)(hl:rs.length≤2^40)(hn: -2^20≤n∧n≤2^20):Qd Tryz.prog 53 [ZY rs,int n] (bool (XT rs n)):=by
 refine Jq.cw (c:=_) Tryz.func53 rfl (n:=30) Tryz.ntmps53 (rs:=[.tmp 4]) rfl ?_
 simp only[Jf,Jl,zA,zS,Jg,Jc,Jd]
 simp(maxSteps:=999999)(disch:=omega)only[go_sem,zA,zM,zS,zE,zL]
 refine Qw (fun k:Nat=>rs.length -k) (fun k=>k≤rs.length∧∀j:Nat,j<k→0≤JM rs j∧JM rs j≤n -1) (fun k=>[.k, .k, .a, .a, .a, .p (int k), .a, .a, .a, .a, .a, .a, .a, .a, .a, .a, .a, .a, .a, .a, .a, .a, .a, .a, .a, .a, .a, .a, .a, .a]) (fun _=>[]) 0 ⟨Nat.zero_le _,fun j hj=>absurd hj (Nat.not_lt_zero _)⟩ (by simp(maxSteps:=999999)(disch:=omega)only[go_sem,zA,zM,zS,zE,zL];rfl) (J8 _) ?_
 rintro k ⟨hk,hall⟩
 simp(maxSteps:=999999)(disch:=omega)only[go_sem,zA,zM,zS,zE,zL]
 ((first|(with_reducible first|refine Jo ?_ ?_|refine Jk ?_ ?_|refine Jp ?_ ?_)|refine Jr ?_ ?_)<;>intro c1)
 · have c1:k<rs.length:=by omega
   simp(maxSteps:=999999)(disch:=omega)only[go_sem,zA,zM,zS,zE,zL]
   first|refine Qh.rd (QF _ _ _) (⟨_,Tryz.func45,rfl,rfl⟩:Jm Tryz.prog 45) rfl rfl rfl rfl ?_|refine Qe.rd (QF _ _ _) (⟨_,Tryz.func45,rfl,rfl⟩:Jm Tryz.prog 45) rfl rfl rfl rfl ?_
   simp(maxSteps:=999999)(disch:=omega)only[go_sem,zA,zM,zS,zE,zL]
   ((first|(with_reducible first|refine Jo ?_ ?_|refine Jk ?_ ?_|refine Jp ?_ ?_)|refine Jr ?_ ?_)<;>intro c2)
   · simp(maxSteps:=999999)(disch:=omega)only[go_sem,zA,zM,zS,zE,zL]
     refine⟨k+1,⟨⟨by omega,fun j hj=> ?_⟩,by omega⟩,by push_cast;omega,J8 _⟩
     by_cases hjk:j=k
     · rw[hjk];omega
     · exact hall j (by omega)
   · simp(maxSteps:=999999)(disch:=omega)only[go_sem,zA,zM,zS,zE,zL]
     unfold XT
     rw[eq_comm,decide_eq_false_iff_not]
     exact fun h=>c2 (h.1 k c1)
 · have hke:k=rs.length:=by omega
   subst hke
   simp(maxSteps:=999999)(disch:=omega)only[go_sem,zA,zM,zS,zE,zL]
   first|refine Qh.rd (QF _ _ _) (⟨_,Tryz.func45,rfl,rfl⟩:Jm Tryz.prog 45) rfl rfl rfl rfl ?_|refine Qe.rd (QF _ _ _) (⟨_,Tryz.func45,rfl,rfl⟩:Jm Tryz.prog 45) rfl rfl rfl rfl ?_
   simp(maxSteps:=999999)(disch:=omega)only[go_sem,zA,zM,zS,zE,zL]
   by_cases h2:2≤n∧n≤4
   · have hnn:4≤n*n∧n*n≤16:=by
      obtain rfl|rfl|rfl:n=2∨n=3∨n=4:=by omega
      all_goals omega
     rw[decide_eq_true h2]
     simp(maxSteps:=999999)(disch:=omega)only[go_sem,zA,zM,zS,zE,zL]
     unfold XT
     rw[decide_eq_decide]
     exact⟨fun h=>⟨hall,h2.1,h2.2,h⟩,fun h=>h.2.2.2⟩
   · rw[decide_eq_false h2]
     simp(maxSteps:=999999)(disch:=omega)only[go_sem,zA,zM,zS,zE,zL]
     unfold XT
     rw[eq_comm,decide_eq_false_iff_not]
     exact fun h=>h2 ⟨h.2.1,h.2.2.1⟩
def BL(rs:List Int)(a:Int)(k:Nat):List Int:=((List.range rs.length).take k).flatMap fun(i:Nat)=>if JM rs i=a then[(i:Int)]else[]
theorem Jcx{rs:List Int}{a:Int}{k:Nat}(h:k<rs.length):BL rs a (k+1)=BL rs a k++if JM rs k=a then[(k:Int)]else[]:=by
 unfold BL
 rw[List.take_succ_eq_append_getElem (by simpa using h),List.flatMap_append]
 simp
theorem No(rs:List Int)(a:Int)(k:Nat):(BL rs a k).length≤k:=by
 unfold BL
 rw[List.length_flatMap]
 have:∀(l:List Nat),(l.map fun(i:Nat)=>(if JM rs i=a then[(i:Int)]else[]).length).sum≤l.length:=by
  intro l
  induction l with
  |nil=>simp
  |cons v l ih=>
   simp only[Qf,UV,Jf]
   have:(if JM rs (v:Int)=a then[(v:Int)]else[]).length≤1:=by split<;>simp
   omega
 refine Nat.le_trans (this _) ?_
 rw[JA,List.length_range]
 omega
def RM(rs:List Int)(n a:Int):List Int:=if XT rs n=true then BL rs a rs.length else[]
theorem V5(rs:List Int)(n a:Int)(hl:rs.length≤2^30)(hn: -2^20≤n∧n≤2^20):Qd Tryz.prog 54 [ZY rs,int n,int a] (ZY (RM rs n a)):=by
 refine Qd.own ?_
 refine Jq.cw (c:=_) Tryz.func54 rfl (n:=32) Tryz.ntmps54 (rs:=[.tmp 6]) rfl ?_
 simp only[Jf,Jl,zA,zS,Jg,Jc,Jd]
 simp(maxSteps:=999999)(disch:=omega)only[go_sem,zA,zM,zS,zE,zL]
 intro g
 cases hv:XT rs n with
 |false=>
  have e:RM rs n a=[]:=by unfold RM;rw[if_neg (by rw[hv];simp)]
  rw[e]
  refine Qj (fun(k g:Nat)=>rs.length -k) (fun k g=>k=0) (fun k g=>[.k, .k, .k, .a, .a, .a, .a, .p (.c (.own 0 g 0 0 none)), .p (int k), .a, .a, .a, .a, .a, .a, .a, .a, .a, .a, .a, .a, .a, .a, .a, .a, .a, .a, .a, .a, .a, .a, .a]) (fun k g=>[some ⟨g,1,[]⟩]) 0 g rfl (by simp(maxSteps:=999999)(disch:=omega)only[go_sem,zA,zM,zS,zE,zL];rfl) (Qc.refl _) ?_
  intro k g hk
  subst hk
  simp(maxSteps:=999999)(disch:=omega)only[go_sem,zA,zM,zS,zE,zL]
  ((with_reducible first|refine JU ?_ ?_|refine JJ ?_ ?_|refine J6 ?_ ?_|refine Jx ?_ ?_|refine JS ?_ ?_|refine JT ?_ ?_|refine JH ?_ ?_|refine JI ?_ ?_|refine J4 ?_ ?_|refine J5 ?_ ?_|refine JC ?_ ?_|refine JD ?_ ?_)<;>intro c1<;>simp(maxSteps:=999999)(disch:=omega)only[go_sem,zA,zM,zS,zE,zL,c1])
  · first|refine Qh.rd (Zb rs n (by omega) hn) (⟨_,Tryz.func53,rfl,rfl⟩:Jm Tryz.prog 53) rfl rfl rfl rfl ?_|refine Qe.rd (Zb rs n (by omega) hn) (⟨_,Tryz.func53,rfl,rfl⟩:Jm Tryz.prog 53) rfl rfl rfl rfl ?_
    simp(maxSteps:=999999)(disch:=omega)only[go_sem,zA,zM,zS,zE,zL]
    rw[hv]
    simp(maxSteps:=999999)(disch:=omega)only[go_sem,zA,zM,zS,zE,zL]
    exact Vm (E:=eI .i64) (n:=1) (xs:=[]) (Qc.refl _)
  · exact Vm (E:=eI .i64) (n:=1) (xs:=[]) (Qc.refl _)
 |true=>
  have e:RM rs n a=BL rs a rs.length:=by unfold RM;rw[if_pos hv]
  rw[e]
  refine Qj (fun(k g:Nat)=>rs.length -k) (fun k g=>k≤rs.length) (fun k g=>[.k, .k, .k, .a, .a, .a, .a, .p (.c (.own 0 g 0 (BL rs a k).length none)), .p (int k), .a, .a, .a, .a, .a, .a, .a, .a, .a, .a, .a, .a, .a, .a, .a, .a, .a, .a, .a, .a, .a, .a, .a]) (fun k g=>[some ⟨g,1,cl (eI .i64) (BL rs a k)⟩]) 0 g (Nat.zero_le _) (by simp(maxSteps:=999999)(disch:=omega)only[go_sem,zA,zM,zS,zE,zL];simp[BL]) (Qc.refl _) ?_
  intro k g hk
  have hcl:=No rs a k
  simp(maxSteps:=999999)(disch:=omega)only[go_sem,zA,zM,zS,zE,zL]
  ((with_reducible first|refine JU ?_ ?_|refine JJ ?_ ?_|refine J6 ?_ ?_|refine Jx ?_ ?_|refine JS ?_ ?_|refine JT ?_ ?_|refine JH ?_ ?_|refine JI ?_ ?_|refine J4 ?_ ?_|refine J5 ?_ ?_|refine JC ?_ ?_|refine JD ?_ ?_)<;>intro c1<;>simp(maxSteps:=999999)(disch:=omega)only[go_sem,zA,zM,zS,zE,zL,c1])
  · have c1:k<rs.length:=by omega
    have hs:=Jcx (a:=a) c1
    first|refine Qh.rd (Zb rs n (by omega) hn) (⟨_,Tryz.func53,rfl,rfl⟩:Jm Tryz.prog 53) rfl rfl rfl rfl ?_|refine Qe.rd (Zb rs n (by omega) hn) (⟨_,Tryz.func53,rfl,rfl⟩:Jm Tryz.prog 53) rfl rfl rfl rfl ?_
    simp(maxSteps:=999999)(disch:=omega)only[go_sem,zA,zM,zS,zE,zL]
    rw[hv]
    simp(maxSteps:=999999)(disch:=omega)only[go_sem,zA,zM,zS,zE,zL]
    ((first|(with_reducible first|refine Jo ?_ ?_|refine Jk ?_ ?_|refine Jp ?_ ?_)|refine Jr ?_ ?_)<;>intro c2)
    · simp(maxSteps:=999999)(disch:=omega)only[go_sem,zA,zM,zS,zE,zL]
      intro g1 g2
      rw[if_pos c2]at hs
      refine⟨k+1,g2,⟨by omega,by omega⟩,⟨by rw[hs,Je];exact⟨rfl,rfl⟩,by push_cast;omega⟩,Zd (by rw[hs]) (J8 _)⟩
    · simp(maxSteps:=999999)(disch:=omega)only[go_sem,zA,zM,zS,zE,zL]
      rw[if_neg c2,Jv]at hs
      refine⟨k+1,g,⟨by omega,by omega⟩,⟨by rw[hs];exact⟨rfl,rfl⟩,by push_cast;omega⟩,by rw[hs];exact Qc.refl _⟩
  · have hke:k=rs.length:=by omega
    subst hke
    exact Vm (E:=eI .i64) (n:=1) (Qc.refl _)
def Rb(rs:List Int)(n:Int)(k:Nat):List Q2:=(List.range k).flatMap fun(i:Nat)=>if 2≤(RM rs n i).length then[⟨1,RM rs n i,0⟩]else[]
theorem Fi(rs:List Int)(n:Int)(k:Nat):Rb rs n (k+1)=Rb rs n k++if 2≤(RM rs n k).length then[⟨1,RM rs n k,0⟩]else[]:=by
 unfold Rb
 rw[List.range_succ,List.flatMap_append]
 simp
theorem Nn(rs:List Int)(n:Int):∀k:Nat,(Rb rs n k).length≤k
 |0=>by simp[Rb]
 |k+1=>by
  rw[Fi,Je]
  have:=Nn rs n k
  split<;>simp<;>omega
def U6(rs:List Q2)(a b:Nat):Prop:=rs.length≤a∧∀r∈rs,r.cells.length≤b
theorem Y6(rs:List Int)(n:Int)(hl:rs.length≤2^30)(hn: -2^20≤n∧n≤2^20):Jq Tryz.prog 37 [ZY rs,int n] [] (fun v _=>∃(qs:List Q2) (b:Bool),v= .tup [Rj eR qs,bool b]∧U6 qs 4 4):=by
 refine Jq.freeze (Q':=fun v H'=>∃(qs:List Q2) (b:Bool) (id g:Nat),v= .tup [.c (.own id g 0 qs.length none),bool b]∧look H' id g=some ⟨g,3,cl eR qs⟩∧U6 qs 4 4) ?_ ?_
 rotate_left
 · rintro v H' ⟨qs,b,id,g,rfl,h1,h2⟩
   have e1:=N4 (lim:=none) h1
   simp only[U7,Wf,Option.map_eq_some_iff]at e1
   obtain⟨y,e1,e2⟩:=e1
   cases e2
   have e3:∀x,frzC H' (.f (.bool x))=some (.f (.bool x)):=fun x=>rfl
   refine⟨.tup [Rj eR qs,bool b], ?_,qs,b,rfl,h2⟩
   simp only[U7,Jz,Qa,Wf,e1,e3,Option.pure_def,Option.bind_eq_bind,Option.bind_some,Option.map_some]
 refine Jq.cw (c:=_) Tryz.func37 rfl (n:=37) Tryz.ntmps37 (rs:=[.tmp 4, .tmp 5]) rfl ?_
 simp only[Jf,Jl,zA,zS,Jg,Jc,Jd]
 simp(maxSteps:=999999)(disch:=omega)only[go_sem,zA,zM,zS,zE,zL]
 intro g
 first|refine Qh.rd (Zb rs n (by omega) hn) (⟨_,Tryz.func53,rfl,rfl⟩:Jm Tryz.prog 53) rfl rfl rfl rfl ?_|refine Qe.rd (Zb rs n (by omega) hn) (⟨_,Tryz.func53,rfl,rfl⟩:Jm Tryz.prog 53) rfl rfl rfl rfl ?_
 simp(maxSteps:=999999)(disch:=omega)only[go_sem,zA,zM,zS,zE,zL]
 ((first|(with_reducible first|refine Jo ?_ ?_|refine Jk ?_ ?_|refine Jp ?_ ?_)|refine Jr ?_ ?_)<;>intro c0)
 rotate_left
 · simp(maxSteps:=999999)(disch:=omega)only[go_sem,zA,zM,zS,zE,zL]
   exact⟨_,Qc.refl _,[],false,0,g,rfl,Qq (b:=⟨g,3,cl eR []⟩) rfl,by simp,by simp⟩
 have hv:=c0
 simp only[XT,decide_eq_true_eq]at hv
 obtain⟨_,hn2,hn4,_⟩:=hv
 simp(maxSteps:=999999)(disch:=omega)only[go_sem,zA,zM,zS,zE,zL]
 refine Qj (fun(k g:Nat)=>n.toNat -k) (fun k g=>k≤n.toNat∧∀r∈Rb rs n k,r.cells.length≤4) (fun k g=>[.k, .k, .a, .a, .a, .a, .p (.c (.own 0 g 0 (Rb rs n k).length none)), .p (int k), .a, .a, .a, .a, .a, .a, .a, .a, .a, .a, .a, .a, .a, .a, .a, .a, .a, .a, .a, .a, .a, .a, .a, .a, .a, .a, .a, .a, .a]) (fun k g=>[some ⟨g,3,cl eR (Rb rs n k)⟩]) 0 g ⟨Nat.zero_le _,by simp[Rb]⟩ (by simp(maxSteps:=999999)(disch:=omega)only[go_sem,zA,zM,zS,zE,zL];exact⟨by simp[Rb],rfl⟩) (Qc.refl _) ?_
 rintro k g ⟨hk,hall⟩
 have hrl:=Nn rs n k
 have hcl:(RM rs n k).length≤rs.length:=by
  rw[RM,if_pos c0]
  exact No _ _ _
 have hs:=Fi rs n k
 simp(maxSteps:=999999)(disch:=omega)only[go_sem,zA,zM,zS,zE,zL]
 ((first|(with_reducible first|refine Jo ?_ ?_|refine Jk ?_ ?_|refine Jp ?_ ?_)|refine Jr ?_ ?_)<;>intro c1)
 · have c1:k<n.toNat:=by omega
   simp(maxSteps:=999999)(disch:=omega)only[go_sem,zA,zM,zS,zE,zL]
   first|refine Qh.mk (V5 rs n k hl hn) (⟨_,Tryz.func54,rfl,rfl⟩:Jm Tryz.prog 54) rfl rfl rfl rfl rfl ?_|refine Qe.mk (V5 rs n k hl hn) (⟨_,Tryz.func54,rfl,rfl⟩:Jm Tryz.prog 54) rfl rfl rfl rfl rfl ?_
   simp(maxSteps:=999999)(disch:=omega)only[go_sem,zA,zM,zS,zE,zL]
   ((first|(with_reducible first|refine Jo ?_ ?_|refine Jk ?_ ?_|refine Jp ?_ ?_)|refine Jr ?_ ?_)<;>intro c2)
   · simp(maxSteps:=999999)(disch:=omega)only[go_sem,zA,zM,zS,zE,zL]
     intro g2
     exact⟨_,Qc.refl _,[],false,1,g2,rfl,Qq (b:=⟨g2,3,cl eR []⟩) rfl,by simp,by simp⟩
   · simp(maxSteps:=999999)(disch:=omega)only[go_sem,zA,zM,zS,zE,zL]
     ((first|(with_reducible first|refine Jo ?_ ?_|refine Jk ?_ ?_|refine Jp ?_ ?_)|refine Jr ?_ ?_)<;>intro c3)
     · simp(maxSteps:=999999)(disch:=omega)only[go_sem,zA,zM,zS,zE,zL]
       intro g1 g2
       rw[if_pos (by omega)]at hs
       refine⟨k+1,g2,⟨⟨by omega,fun r hr=> ?_⟩,by omega⟩,⟨by rw[hs,Je];exact⟨rfl,rfl⟩,by push_cast;omega⟩,Zd (by rw[hs,QP];rfl) (J8 _)⟩
       rw[hs]at hr
       rcases JF.1 hr with h|h
       · exact hall r h
       · simp at h;subst h;simp only;omega
     · simp(maxSteps:=999999)(disch:=omega)only[go_sem,zA,zM,zS,zE,zL]
       rw[if_neg (by omega),Jv]at hs
       exact⟨k+1,g,⟨⟨by omega,by rw[hs];exact hall⟩,by omega⟩,⟨by rw[hs];exact⟨rfl,rfl⟩,by push_cast;omega⟩,by rw[hs];exact Qc.refl _⟩
 · simp(maxSteps:=999999)(disch:=omega)only[go_sem,zA,zM,zS,zE,zL]
   exact⟨_,Qc.refl _,Rb rs n k,true,0,g,rfl,Qq (b:=⟨g,3,cl eR (Rb rs n k)⟩) rfl,by omega,hall⟩
theorem UO(p:Zk)(hx:BD p):Qd Tryz.prog 58 [aP p] (bool (decide ((B1 p 2).length=1))):=by
 have hle:=JdF p 2
 refine Jq.cw (c:=_) Tryz.func58 rfl (n:=7) Tryz.ntmps58 (rs:=[.tmp 2]) rfl ?_
 simp only[Jf,Jl,zA,zS,Jg,Jc,Jd]
 simp(maxSteps:=999999)(disch:=omega)only[go_sem,zA,zM,zS,zE,zL]
 intro g
 first|refine Qh.mk (FF p 2 (by omega) hx) (⟨_,Tryz.func73,rfl,rfl⟩:Jm Tryz.prog 73) rfl rfl rfl rfl rfl ?_|refine Qe.mk (FF p 2 (by omega) hx) (⟨_,Tryz.func73,rfl,rfl⟩:Jm Tryz.prog 73) rfl rfl rfl rfl rfl ?_
 simp(maxSteps:=999999)(disch:=omega)only[go_sem,zA,zM,zS,zE,zL]
 rw[decide_eq_decide]
 omega
end Go.Lg
