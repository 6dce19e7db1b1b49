/- GpK, LgZ, cut to what is needed. -/
import Derived.Test.YtidekghnkifbjaaGreatDoorJeb1
import Derived.Test.YtidekghnkifbjaaGreatDoorJeb0
open List renaming cons_append → Jb, nil_append → Jc, replicate → Jd, length_cons → Je, length_nil → Jf, getElem?_set_ne → Jg, length_append → Jk, length_set → Jo, getElem?_eq_getElem → Jq, take_of_length_le → Js, length_singleton → JL, drop_zero → JR, mem_append → J2, mapM_cons → J4, mem_map → Qj, mem_cons → Qn, nodup_append → Qo, length_map → Qs, map_append → QE, length_replicate → QG, nodup_cons → VK
open Nat renaming reduceAdd→zA,reduceMul→zM,reduceSub→zS,reduceEqDiff→zE,reduceLeDiff→zL
set_option linter.unusedSimpArgs false
set_option linter.unusedVariables false
set_option maxRecDepth 100000
namespace Go.Lg
open Go.Proofs
theorem Vd:∀(a b:List Int),a.Nodup→(∀x∈a,x∈b)→a.length≤b.length
 |[],b,_,_=>by simp
 |x::a,b,hn,hs=>by
  obtain⟨h1,h2⟩:=VK.1 hn
  have hx:x∈b:=hs x (by simp)
  have:=Vd a (b.erase x) h2 fun y hy=>by
   have hne:y≠x:=fun h=>h1 (h▸hy)
   exact(List.mem_erase_of_ne hne).2 (hs y (by simp[hy]))
  have hl:=List.length_erase_of_mem hx
  have hp:=List.length_pos_of_mem hx
  simp only[Je]
  omega
theorem Jh0(a b:List Int)(hn:a.Nodup)(hs:∀x∈a,x∈b)(hl:b.length≤a.length):b.Nodup∧∀x∈b,x∈a:=by
 have key:∀x∈b,x∈a:=by
  intro x hx
  refine Classical.byContradiction fun hxa=> ?_
  have:=Vd a (b.erase x) hn fun y hy=>by
   have hne:y≠x:=fun h=>hxa (h▸hy)
   exact(List.mem_erase_of_ne hne).2 (hs y hy)
  have hl2:=List.length_erase_of_mem hx
  have hp:=List.length_pos_of_mem hx
  omega
 refine⟨?_,key⟩
 have gen:∀(b a:List Int),a.Nodup→(∀x∈a,x∈b)→b.length≤a.length→(∀x∈b,x∈a)→b.Nodup:=by
  intro b
  induction b with
  |nil=>intros;exact List.nodup_nil
  |cons y b ih=>
   intro a hn hs hl hk
   have hy:y∈a:=hk y (by simp)
   have hyb:y∉b:=fun hyb=>by
    have:=Vd a b hn fun x hx=>by
     rcases Qn.1 (hs x hx)with rfl|h
     · exact hyb
     · exact h
    simp only[Je]at hl
    omega
   refine VK.2 ⟨hyb,ih (a.erase y) (hn.erase y) (fun x hx=> ?_) ?_ fun x hx=> ?_⟩
   · have hx':=(hn.mem_erase_iff).1 hx
     rcases Qn.1 (hs x hx'.2)with h|h
     · exact absurd h hx'.1
     · exact h
   · have:=List.length_erase_of_mem hy
     simp only[Je]at hl
     omega
   · exact(hn.mem_erase_iff).2 ⟨fun h=>hyb (h▸hx),hk x (by simp[hx])⟩
 exact gen b a hn hs hl key
def ZF(xs:List Int):List Int:=((List.range xs.length).filter fun i:Nat=>decide (0<JA xs i)).map fun i:Nat=>(i:Int)
theorem KH(xs:List Int):(ZF xs).Nodup:=by
 unfold ZF
 refine List.pairwise_map.2 (List.Pairwise.imp ?_ (List.nodup_range.filter _))
 intro a b h h2
 exact h (by omega)
theorem QB{xs:List Int}{c:Int}:c∈ZF xs↔0≤c∧c<xs.length∧0<JA xs c:=by
 simp only[ZF,Qj,List.mem_filter,List.mem_range,decide_eq_true_eq]
 constructor
 · rintro⟨i,⟨h1,h2⟩,rfl⟩;exact⟨by omega,by omega,h2⟩
 · rintro⟨h1,h2,h3⟩;exact⟨c.toNat,⟨by omega,by rw[show((c.toNat:Nat):Int)=c by omega];exact h3⟩,by omega⟩
theorem Y9(xs:List Int):(ZF xs).length=xs.countP fun v=>decide (0<v):=by
 have h:∀n,n≤xs.length→((List.range n).filter fun i:Nat=>decide (0<JA xs i)).length=(xs.take n).countP fun v=>decide (0<v):=by
  intro n
  induction n with
  |zero=>intro _;rfl
  |succ n ih=>
   intro hn
   rw[List.range_succ,List.filter_append,Jk,ih (by omega),KK (by omega)]
   simp only[List.filter_cons,List.filter_nil,decide_eq_true_eq]
   split<;>simp
 simp only[ZF,Qs]
 rw[h xs.length (Nat.le_refl _),List.take_length]
def Wq(g:QZ):Prop:=g.moves.Nodup∧(∀c∈g.moves,c∈ZF g.put)∧∀c∈ZF g.put,c∈g.moves∧JA g.task.given c≤0
instance(g:QZ):Decidable (Wq g):=by unfold Wq;infer_instance
def Qd(g:QZ):Bool:=JB g.task&&(Qe g.put g.task.size&&(decide (g.moves.length≤40)&&decide (Wq g)))
theorem UQ{p:Q4}(h:JB p=true):Qe p.given p.size=true:=by
 simp only[JB,Bool.and_eq_true]at h;exact h.1
theorem NI{g:QZ}:Wq g↔g.moves.length=g.put.countP (fun v=>decide (0<v))∧∀c∈ZF g.put,c∈g.moves∧JA g.task.given c≤0:=by
 rw[←Y9]
 constructor
 · rintro⟨h1,h2,h3⟩
   refine⟨Nat.le_antisymm (Vd _ _ h1 h2) (Vd _ _ (KH _) fun c hc=>(h3 c hc).1),h3⟩
 · rintro⟨h1,h2⟩
   obtain⟨h3,h4⟩:=Jh0 (ZF g.put) g.moves (KH _) (fun c hc=>(h2 c hc).1) (by omega)
   exact⟨h3,h4,h2⟩
theorem QU(q:QZ)(hx:smG q):JW Tryz.prog 34 [aG q] (bool (Qd q)):=by
 obtain⟨hx1,hx2,hx3⟩:=hx
 refine Jn.cw (c:=_) Tryz.func34 rfl (n:=63) Tryz.ntmps34 (rs:=[.tmp 2]) rfl ?_
 simp only[Je,Jf,zA,zS,Jd,Jb,Jc]
 simp(maxSteps:=999999)(disch:=omega)only[go_sem,zA,zM,zS,zE,zL]
 intro g
 refine Zj Zd (by kernel_rfl) ?_
 simp(maxSteps:=999999)(disch:=omega)only[go_sem,Nat.reduceBEq,Bool.true_or,zA,zM,zS,zE,zL]
 refine Q0.rd (Qx q.task hx1) (⟨_,Tryz.func41,rfl,rfl⟩:Ji Tryz.prog 41) rfl rfl rfl rfl ?_
 simp(maxSteps:=999999)(disch:=omega)only[go_sem,zA,zM,zS,zE,zL]
 ((with_reducible first|refine JJ ?_ ?_|refine JF ?_ ?_|refine JU ?_ ?_|refine Jw ?_ ?_|refine JH ?_ ?_|refine JI ?_ ?_|refine JD ?_ ?_|refine JE ?_ ?_|refine JS ?_ ?_|refine JT ?_ ?_|refine Jy ?_ ?_|refine Jz ?_ ?_)<;>intro hv<;>simp(maxSteps:=999999)(disch:=omega)only[go_sem,zA,zM,zS,zE,zL,hv])
 rotate_left
 · simp[Qd,hv]
 refine Q0.rd (ZG q.put q.task.size (by omega)) (⟨_,Tryz.func54,rfl,rfl⟩:Ji Tryz.prog 54) rfl rfl rfl rfl ?_
 simp(maxSteps:=999999)(disch:=omega)only[go_sem,zA,zM,zS,zE,zL]
 ((with_reducible first|refine JJ ?_ ?_|refine JF ?_ ?_|refine JU ?_ ?_|refine Jw ?_ ?_|refine JH ?_ ?_|refine JI ?_ ?_|refine JD ?_ ?_|refine JE ?_ ?_|refine JS ?_ ?_|refine JT ?_ ?_|refine Jy ?_ ?_|refine Jz ?_ ?_)<;>intro hv2<;>simp(maxSteps:=999999)(disch:=omega)only[go_sem,zA,zM,zS,zE,zL,hv2])
 rotate_left
 · simp[Qd,hv2]
 ((with_reducible first|refine JJ ?_ ?_|refine JF ?_ ?_|refine JU ?_ ?_|refine Jw ?_ ?_|refine JH ?_ ?_|refine JI ?_ ?_|refine JD ?_ ?_|refine JE ?_ ?_|refine JS ?_ ?_|refine JT ?_ ?_|refine Jy ?_ ?_|refine Jz ?_ ?_)<;>intro h40<;>simp(maxSteps:=999999)(disch:=omega)only[go_sem,zA,zM,zS,zE,zL,h40])
 · symm;simp only[Qd,hv,hv2,Bool.true_and,Bool.and_eq_false_iff,decide_eq_false_iff_not];exact .inl (by omega)
 refine Q0.rd (Wd q.put q.task.size hx2) (⟨_,Tryz.func43,rfl,rfl⟩:Ji Tryz.prog 43) rfl rfl rfl rfl ?_
 simp(maxSteps:=999999)(disch:=omega)only[go_sem,zA,zM,zS,zE,zL]
 have hgf:ZT q.put q.task.size=(q.put.countP (fun v=>decide (0<v)):Nat):=by simp[ZT,hv2]
 have hval:Qd q=decide (Wq q):=by simp only[Qd,hv,hv2,Bool.true_and];rw[decide_eq_true (show q.moves.length≤40 by omega),Bool.true_and]
 rw[hval,hgf]
 ((first|(with_reducible first|refine Jl ?_ ?_|refine Jj ?_ ?_|refine Jp ?_ ?_)|refine Jr ?_ ?_)<;>intro hnum)
 rotate_left
 · simp(maxSteps:=999999)(disch:=omega)only[go_sem,zA,zM,zS,zE,zL]
   symm;rw[decide_eq_false_iff_not,NI];rintro⟨h1,_⟩;omega
 simp(maxSteps:=999999)(disch:=omega)only[go_sem,zA,zM,zS,zE,zL]
 have hlen:q.put.length=q.task.given.length:=by
  have h1:=(QC hv2).2.2.1
  have h2:=(QC (UQ hv)).2.2.1
  omega
 refine JY (fun i:Nat=>q.put.length -i) (fun i=>i≤q.put.length∧∀j:Nat,j<i→0<JA q.put j→(j:Int)∈q.moves∧JA q.task.given j≤0) (fun i=>[.a, .k, .a, .a, .a, .a, .a, .a, .a, .a, .a, .a, .a, .a, .a, .a, .a, .a, .a, .a, .a, .a, .a, .a, .a, .a, .a, .a, .a, .a, .a, .a, .a, .a, .a, .a, .a, .k, .k, .p (int i), .a, .a, .a, .a, .a, .a, .a, .a, .a, .a, .a, .a, .a, .a, .a, .a, .a, .a, .a, .a, .a, .a, .a]) (fun _=>[some ⟨g,1,cG q⟩]) 0
  ⟨Nat.zero_le _,fun j hj=>absurd hj (Nat.not_lt_zero _)⟩ (by simp(maxSteps:=999999)(disch:=omega)only[go_sem,zA,zM,zS,zE,zL];rfl) (J0.refl _) ?_
 rintro i ⟨hi,hall⟩
 simp(maxSteps:=999999)(disch:=omega)only[go_sem,zA,zM,zS,zE,zL]
 ((first|(with_reducible first|refine Jl ?_ ?_|refine Jj ?_ ?_|refine Jp ?_ ?_)|refine Jr ?_ ?_)<;>intro h)
 · have h:i<q.put.length:=by omega
   have no:(0<JA q.put i∧¬((i:Int)∈q.moves∧JA q.task.given i≤0))→false=decide (Wq q):=fun h1=>by
    symm;rw[decide_eq_false_iff_not]
    rintro⟨_,_,h2⟩
    exact h1.2 (h2 i (QB.2 ⟨by omega,by omega,h1.1⟩))
   simp(maxSteps:=999999)(disch:=omega)only[go_sem,zA,zM,zS,zE,zL]
   ((with_reducible first|refine JJ ?_ ?_|refine JF ?_ ?_|refine JU ?_ ?_|refine Jw ?_ ?_|refine JH ?_ ?_|refine JI ?_ ?_|refine JD ?_ ?_|refine JE ?_ ?_|refine JS ?_ ?_|refine JT ?_ ?_|refine Jy ?_ ?_|refine Jz ?_ ?_)<;>intro h1<;>simp(maxSteps:=999999)(disch:=omega)only[go_sem,zA,zM,zS,zE,zL,h1])
   rotate_left
   · exact⟨i+1,⟨⟨h,Vq hall fun h2=>absurd h2 h1⟩,by omega⟩,by omega,J0.refl _⟩
   ((with_reducible first|refine JJ ?_ ?_|refine JF ?_ ?_|refine JU ?_ ?_|refine Jw ?_ ?_|refine JH ?_ ?_|refine JI ?_ ?_|refine JD ?_ ?_|refine JE ?_ ?_|refine JS ?_ ?_|refine JT ?_ ?_|refine Jy ?_ ?_|refine Jz ?_ ?_)<;>intro h2<;>simp(maxSteps:=999999)(disch:=omega)only[go_sem,zA,zM,zS,zE,zL,h2])
   · exact no ⟨h1,fun h3=>by omega⟩
   first|refine JZ.rd (U5 q.moves i hx3) (⟨_,Tryz.func82,rfl,rfl⟩:Ji Tryz.prog 82) rfl rfl rfl rfl ?_|refine JK.rd (U5 q.moves i hx3) (⟨_,Tryz.func82,rfl,rfl⟩:Ji Tryz.prog 82) rfl rfl rfl rfl ?_
   simp(maxSteps:=999999)(disch:=omega)only[go_sem,zA,zM,zS,zE,zL]
   ((first|(with_reducible first|refine Jl ?_ ?_|refine Jj ?_ ?_|refine Jp ?_ ?_)|refine Jr ?_ ?_)<;>intro h3)
   · simp(maxSteps:=999999)(disch:=omega)only[go_sem,zA,zM,zS,zE,zL]
     exact⟨i+1,⟨⟨h,Vq hall fun _=>⟨h3,by omega⟩⟩,by omega⟩,by omega,J0.refl _⟩
   · simp(maxSteps:=999999)(disch:=omega)only[go_sem,zA,zM,zS,zE,zL]
     exact no ⟨h1,fun h4=>h3 h4.1⟩
 · simp(maxSteps:=999999)(disch:=omega)only[go_sem,zA,zM,zS,zE,zL]
   symm;rw[decide_eq_true_eq,NI]
   refine⟨by omega,fun c hc=> ?_⟩
   obtain⟨h1,h2,h3⟩:=QB.1 hc
   have:=hall c.toNat (by omega)
   rw[show((c.toNat:Nat):Int)=c by omega]at this
   exact this h3
def eBo(b:Bool):List FV:=[.bool b]
instance:HSz eBo 1:=⟨fun _=>rfl⟩
theorem eBo_0(b:Bool)(d:FV):(eBo b).getD 0 d= .bool b:=rfl
theorem Jj5(n:Nat):QX (n*1) [.f (.bool false)]=cl eBo (Jd n false):=by
 simp only[QX,Nat.mul_one,JL,Nat.mod_one]
 induction n with
 |zero=>rfl
 |succ n ih=>rw[List.range_succ,QE,ih,List.replicate_succ',Q6];rfl
theorem setBo{xs:List Bool}{e:Int}{v:Bool}(h:0≤e∧e<(xs.length:Int)):Qk (cl eBo xs) (0+e.toNat*1) [.f (.bool v)]=cl eBo (xs.set e.toNat v):=
 Vj (E:=eBo) (by omega)
attribute [go_sem] eBo_0 Jj5 setBo
theorem QN(q:QZ)(hx:smG q):JW Tryz.prog 12 [aG q] (bool (Qd q)):=by
 obtain⟨hx1,hx2,hx3⟩:=hx
 refine Jn.cw (c:=_) Tryz.func12 rfl (n:=94) Tryz.ntmps12 (rs:=[.tmp 2]) rfl ?_
 simp only[Je,Jf,zA,zS,Jd,Jb,Jc]
 simp(maxSteps:=999999)(disch:=omega)only[go_sem,zA,zM,zS,zE,zL]
 intro g
 first|refine JZ.rd (Qh q.task hx1) (⟨_,Tryz.func38,rfl,rfl⟩:Ji Tryz.prog 38) rfl rfl rfl rfl ?_|refine JK.rd (Qh q.task hx1) (⟨_,Tryz.func38,rfl,rfl⟩:Ji Tryz.prog 38) rfl rfl rfl rfl ?_
 simp(maxSteps:=999999)(disch:=omega)only[go_sem,zA,zM,zS,zE,zL]
 ((with_reducible first|refine JJ ?_ ?_|refine JF ?_ ?_|refine JU ?_ ?_|refine Jw ?_ ?_|refine JH ?_ ?_|refine JI ?_ ?_|refine JD ?_ ?_|refine JE ?_ ?_|refine JS ?_ ?_|refine JT ?_ ?_|refine Jy ?_ ?_|refine Jz ?_ ?_)<;>intro hv<;>simp(maxSteps:=999999)(disch:=omega)only[go_sem,zA,zM,zS,zE,zL,hv])
 rotate_left
 · simp[Qd,hv]
 first|refine JZ.rd (ZE q.put q.task.size (by omega)) (⟨_,Tryz.func39,rfl,rfl⟩:Ji Tryz.prog 39) rfl rfl rfl rfl ?_|refine JK.rd (ZE q.put q.task.size (by omega)) (⟨_,Tryz.func39,rfl,rfl⟩:Ji Tryz.prog 39) rfl rfl rfl rfl ?_
 simp(maxSteps:=999999)(disch:=omega)only[go_sem,zA,zM,zS,zE,zL]
 ((with_reducible first|refine JJ ?_ ?_|refine JF ?_ ?_|refine JU ?_ ?_|refine Jw ?_ ?_|refine JH ?_ ?_|refine JI ?_ ?_|refine JD ?_ ?_|refine JE ?_ ?_|refine JS ?_ ?_|refine JT ?_ ?_|refine Jy ?_ ?_|refine Jz ?_ ?_)<;>intro hv2<;>simp(maxSteps:=999999)(disch:=omega)only[go_sem,zA,zM,zS,zE,zL,hv2])
 rotate_left
 · simp[Qd,hv2]
 ((first|(with_reducible first|refine Jl ?_ ?_|refine Jj ?_ ?_|refine Jp ?_ ?_)|refine Jr ?_ ?_)<;>intro h40)
 · simp(maxSteps:=999999)(disch:=omega)only[go_sem,zA,zM,zS,zE,zL]
   symm;simp only[Qd,hv,hv2,Bool.true_and,Bool.and_eq_false_iff,decide_eq_false_iff_not];exact .inl (by omega)
 have hval:Qd q=decide (Wq q):=by simp only[Qd,hv,hv2,Bool.true_and];rw[decide_eq_true (show q.moves.length≤40 by omega),Bool.true_and]
 rw[hval]
 simp(maxSteps:=999999)(disch:=omega)only[go_sem,zA,zM,zS,zE,zL]
 intro g2
 have hlen:q.put.length=q.task.given.length:=by
  have h1:=(QC hv2).2.2.1
  have h2:=(QC (UQ hv)).2.2.1
  omega
 have hneg:∀j:Nat,j<q.put.length→0≤JA q.put j:=fun j hj=>((QC hv2).2.2.2.2 j hj).1
 refine Qp (fun(i:Nat) (ys:List Bool)=>q.moves.length -i) (fun i ys=>i≤q.moves.length∧ys.length=q.put.length∧(q.moves.take i).Nodup∧(∀c∈q.moves.take i,c∈ZF q.put)∧∀j:Nat,j<ys.length→(JA ys j=true↔(j:Int)∈q.moves.take i)) (fun i _=>[.a, .k, .a, .k, .p (int i), .a, .a, .a, .a, .a, .a, .a, .a, .a, .a, .a, .a, .a, .a, .a, .a, .a, .a, .a, .a, .a, .a, .a, .a, .a, .a, .a, .a, .a, .a, .a, .a, .a, .a, .a, .a, .a, .a, .a, .a, .a, .a, .a, .a, .a, .a, .a, .a, .a, .a, .a, .a, .a, .a, .a, .a, .a, .a, .a, .a, .a, .a, .a, .a, .a, .a, .a, .a, .a, .a, .a, .a, .a, .a, .a, .a, .a, .a, .a, .a, .a, .a, .a, .a, .a, .a, .a, .a, .a]) (fun _ ys=>[some ⟨g,1,cG q⟩,some ⟨g2,1,cl eBo ys⟩]) 0 (Jd q.put.length false)
  ⟨Nat.zero_le _,QG,by simp,by simp,fun j hj=>by rw[Qt (by omega)];simp⟩ (by simp(maxSteps:=999999)(disch:=omega)only[go_sem,zA,zM,zS,zE,zL];rfl) (J0.refl _) ?_
 rintro i ys ⟨hi,hl,hnd,hin,hys⟩
 simp(maxSteps:=999999)(disch:=omega)only[go_sem,zA,zM,zS,zE,zL]
 ((first|(with_reducible first|refine Jl ?_ ?_|refine Jj ?_ ?_|refine Jp ?_ ?_)|refine Jr ?_ ?_)<;>intro h)
 · have h:i<q.moves.length:=by omega
   have htk:=Qg h
   simp(maxSteps:=999999)(disch:=omega)only[go_sem,zA,zM,zS,zE,zL]
   have no:¬(JA q.moves i∈ZF q.put∧JA q.moves i∉q.moves.take i)→false=decide (Wq q):=fun h1=>by
    symm;rw[decide_eq_false_iff_not]
    rintro⟨h2,h3,_⟩
    refine h1 ⟨h3 _ (ZP h),fun h4=> ?_⟩
    have h5:=List.Nodup.sublist (List.take_sublist (i+1) q.moves) h2
    rw[htk,Qo]at h5
    exact h5.2.2 _ h4 _ (by simp) rfl
   first|refine JZ.rd (Qz _ _ _) (⟨_,Tryz.func40,rfl,rfl⟩:Ji Tryz.prog 40) rfl rfl rfl rfl ?_|refine JK.rd (Qz _ _ _) (⟨_,Tryz.func40,rfl,rfl⟩:Ji Tryz.prog 40) rfl rfl rfl rfl ?_
   simp(maxSteps:=999999)(disch:=omega)only[go_sem,zA,zM,zS,zE,zL]
   ((with_reducible first|refine JJ ?_ ?_|refine JF ?_ ?_|refine JU ?_ ?_|refine Jw ?_ ?_|refine JH ?_ ?_|refine JI ?_ ?_|refine JD ?_ ?_|refine JE ?_ ?_|refine JS ?_ ?_|refine JT ?_ ?_|refine Jy ?_ ?_|refine Jz ?_ ?_)<;>intro h1<;>simp(maxSteps:=999999)(disch:=omega)only[go_sem,zA,zM,zS,zE,zL,h1])
   rotate_left
   · exact no fun h2=>by have:=QB.1 h2.1;omega
   have hy:=hys (JA q.moves i).toNat (by omega)
   rw[show(((JA q.moves i).toNat:Nat):Int)=JA q.moves i by omega]at hy
   ((with_reducible first|refine JJ ?_ ?_|refine JF ?_ ?_|refine JU ?_ ?_|refine Jw ?_ ?_|refine JH ?_ ?_|refine JI ?_ ?_|refine JD ?_ ?_|refine JE ?_ ?_|refine JS ?_ ?_|refine JT ?_ ?_|refine Jy ?_ ?_|refine Jz ?_ ?_)<;>intro h2<;>simp(maxSteps:=999999)(disch:=omega)only[go_sem,zA,zM,zS,zE,zL,h2])
   · exact no fun h3=>h3.2 (hy.1 h2)
   have hm:JA q.moves i∉q.moves.take i:=fun hm=>by rw[hy.2 hm]at h2;cases h2
   have hg:=hneg (JA q.moves i).toNat (by omega)
   rw[show(((JA q.moves i).toNat:Nat):Int)=JA q.moves i by omega]at hg
   ((first|(with_reducible first|refine Jl ?_ ?_|refine Jj ?_ ?_|refine Jp ?_ ?_)|refine Jr ?_ ?_)<;>intro h3)
   · simp(maxSteps:=999999)(disch:=omega)only[go_sem,zA,zM,zS,zE,zL]
     exact no fun h4=>by have:=QB.1 h4.1;omega
   have hf:JA q.moves i∈ZF q.put:=QB.2 ⟨by omega,by omega,by omega⟩
   simp(maxSteps:=999999)(disch:=omega)only[go_sem,zA,zM,zS,zE,zL]
   refine⟨i+1,ys.set (JA q.moves i).toNat true,⟨⟨h,by simp[hl], ?_, ?_,fun j hj=> ?_⟩,by omega⟩,by omega,J0.refl _⟩
   · rw[htk,Qo]
     refine⟨hnd,by simp,fun a ha b hb he=>hm ?_⟩
     have:b=JA q.moves i:=by simpa using hb
     rw[←this,←he];exact ha
   · rw[htk];intro c hc
     rcases J2.1 hc with hc|hc
     · exact hin c hc
     · have:c=JA q.moves i:=by simpa using hc
       subst this;exact hf
   · simp only[Jo]at hj
     rw[Bt _ _ _ _ (by omega) (by omega),htk,J2]
     split
     · rename_i he
       simp;right;omega
     · rename_i he
       rw[hys j hj]
       constructor
       · exact .inl
       · rintro(h5|h5)
         · exact h5
         · simp at h5;omega
 · have hmi:q.moves.take i=q.moves:=Js (by omega)
   rw[hmi]at hnd hin hys
   simp(maxSteps:=999999)(disch:=omega)only[go_sem,zA,zM,zS,zE,zL]
   refine JY (fun i:Nat=>q.put.length -i) (fun i=>i≤q.put.length∧∀j:Nat,j<i→0<JA q.put j→(j:Int)∈q.moves∧JA q.task.given j≤0) (fun i=>[.a, .k, .a, .k, .a, .a, .p (int i), .a, .a, .a, .a, .a, .a, .a, .a, .a, .a, .a, .a, .a, .a, .a, .a, .a, .a, .a, .a, .a, .a, .a, .a, .a, .a, .a, .a, .a, .a, .a, .a, .a, .a, .a, .a, .a, .a, .a, .a, .a, .a, .a, .a, .a, .a, .a, .a, .a, .a, .a, .a, .a, .a, .a, .a, .a, .a, .a, .a, .a, .a, .a, .a, .a, .a, .a, .a, .a, .a, .a, .a, .a, .a, .a, .a, .a, .a, .a, .a, .a, .a, .a, .a, .a, .a, .a]) (fun _=>[some ⟨g,1,cG q⟩,some ⟨g2,1,cl eBo ys⟩]) 0
    ⟨Nat.zero_le _,fun j hj=>absurd hj (Nat.not_lt_zero _)⟩ (by simp(maxSteps:=999999)(disch:=omega)only[go_sem,zA,zM,zS,zE,zL];rfl) (J0.refl _) ?_
   rintro k ⟨hk,hall⟩
   simp(maxSteps:=999999)(disch:=omega)only[go_sem,zA,zM,zS,zE,zL]
   ((first|(with_reducible first|refine Jl ?_ ?_|refine Jj ?_ ?_|refine Jp ?_ ?_)|refine Jr ?_ ?_)<;>intro h4)
   · have h4:k<q.put.length:=by omega
     have no:(0<JA q.put k∧¬((k:Int)∈q.moves∧JA q.task.given k≤0))→false=decide (Wq q):=fun h1=>by
      symm;rw[decide_eq_false_iff_not]
      rintro⟨_,_,h2⟩
      exact h1.2 (h2 k (QB.2 ⟨by omega,by omega,h1.1⟩))
     have hy:=hys k (by omega)
     simp(maxSteps:=999999)(disch:=omega)only[go_sem,zA,zM,zS,zE,zL]
     ((with_reducible first|refine JJ ?_ ?_|refine JF ?_ ?_|refine JU ?_ ?_|refine Jw ?_ ?_|refine JH ?_ ?_|refine JI ?_ ?_|refine JD ?_ ?_|refine JE ?_ ?_|refine JS ?_ ?_|refine JT ?_ ?_|refine Jy ?_ ?_|refine Jz ?_ ?_)<;>intro h1<;>simp(maxSteps:=999999)(disch:=omega)only[go_sem,zA,zM,zS,zE,zL,h1])
     rotate_left
     · exact⟨k+1,⟨⟨h4,Vq hall fun h2=>absurd h2 h1⟩,by omega⟩,by omega,J0.refl _⟩
     ((with_reducible first|refine JJ ?_ ?_|refine JF ?_ ?_|refine JU ?_ ?_|refine Jw ?_ ?_|refine JH ?_ ?_|refine JI ?_ ?_|refine JD ?_ ?_|refine JE ?_ ?_|refine JS ?_ ?_|refine JT ?_ ?_|refine Jy ?_ ?_|refine Jz ?_ ?_)<;>intro h2<;>simp(maxSteps:=999999)(disch:=omega)only[go_sem,zA,zM,zS,zE,zL,h2])
     rotate_left
     · exact no ⟨h1,fun h3=>by rw[hy.2 h3.1]at h2;cases h2⟩
     ((first|(with_reducible first|refine Jl ?_ ?_|refine Jj ?_ ?_|refine Jp ?_ ?_)|refine Jr ?_ ?_)<;>intro h3)
     · simp(maxSteps:=999999)(disch:=omega)only[go_sem,zA,zM,zS,zE,zL]
       exact no ⟨h1,fun h5=>by omega⟩
     · simp(maxSteps:=999999)(disch:=omega)only[go_sem,zA,zM,zS,zE,zL]
       exact⟨k+1,⟨⟨h4,Vq hall fun _=>⟨hy.1 h2,by omega⟩⟩,by omega⟩,by omega,J0.refl _⟩
   · simp(maxSteps:=999999)(disch:=omega)only[go_sem,zA,zM,zS,zE,zL]
     symm;rw[decide_eq_true_eq]
     refine⟨hnd,hin,fun c hc=> ?_⟩
     obtain⟨h1,h2,h3⟩:=QB.1 hc
     have:=hall c.toNat (by omega)
     rw[show((c.toNat:Nat):Int)=c by omega]at this
     exact this h3
end Go.Lg

namespace Go.Lg
class HSzK {α:Type} (E:α→List CV) (n:outParam Nat):Prop where
 sz:∀x,(E x).length=n
def kl{α:Type}(E:α→List CV)(xs:List α):List CV:=xs.flatMap E
section
variable{α:Type}{E:α→List CV}{n:Nat}
theorem Fj[h:HSzK E n](xs:List α):(kl E xs).length=xs.length*n:=by
 induction xs with
 |nil=>simp[kl]
 |cons x xs ih=>simp only[kl,List.flatMap_cons,Jk,h.sz,Je]at ih⊢;rw[ih,Nat.add_mul];omega
theorem JgO(xs ys:List α):kl E (xs++ys)=kl E xs++kl E ys:=by simp[kl]
end
inductive Qy(H:Jm):CV→List Int→List Nat→Prop where
 |e:Qy H (.f (.sl 0 [])) [] []
 |o (id g:Nat) (lim:Option Nat) (xs ys:List Int) (h:look H id g=some ⟨g,1,cl (eI .i64) (xs++ys)⟩):Qy H (.own id g 0 xs.length lim) xs [id]
def Vi(H H':Jm)(S:List Nat):Prop:=H'.length=H.length∧∀id,id∉S→H'[id]? =H[id]?
theorem Vi.refl(H:Jm)(S:List Nat):Vi H H S:=⟨rfl,fun _ _=>rfl⟩
theorem Vi.trans{H H' H'':Jm}{S:List Nat}(h:Vi H H' S)(k:Vi H' H'' S):Vi H H'' S:=⟨k.1.trans h.1,fun id hi=>(k.2 id hi).trans (h.2 id hi)⟩
theorem Vi.mono{H H':Jm}{S T:List Nat}(h:Vi H H' S)(hs:∀i∈S,i∈T):Vi H H' T:=⟨h.1,fun id hi=>h.2 id fun hm=>hi (hs id hm)⟩
theorem Vi.look{H H':Jm}{S:List Nat}(h:Vi H H' S){id g:Nat}(hi:id∉S):look H' id g=look H id g:=by
 unfold Lg.look;rw[h.2 id hi]
theorem Vi.set(H:Jm)(id:Nat)(b:Option Zv):Vi H (H.set id b) [id]:=⟨by simp,fun i hi=>by rw[Jg (by simp at hi;exact fun h=>hi h.symm)]⟩
theorem Qy.frm{H H':Jm}{c:CV}{xs:List Int}{S T:List Nat}(h:Qy H c xs S)(hf:Vi H H' T)(hd:∀i∈S,i∉T):Qy H' c xs S:=by
 cases h with
 |e=>exact .e
 |o id g lim xs ys h=>exact .o id g lim xs ys (by rw[hf.look (hd id (by simp))];exact h)
theorem Qy.frz{H:Jm}{c:CV}{xs:List Int}{S:List Nat}(h:Qy H c xs S)(n:Nat):frz H (n+1) c=some (J5 xs):=by
 cases h with
 |e=>cases n<;>rfl
 |o id g lim xs ys h=>
  simp only[Lg.frz,h,JR]
  rw[Q6,List.take_append_of_le_length (by rw[Qa];exact Nat.le_refl _),Js (by rw[Qa];exact Nat.le_refl _),Fu]
  rfl
structure RO where
 r:Z0
 c:CV
 i:List Nat
 deriving Inhabited
def kR(o:RO):List CV:=[.f (.int .i64 o.r.kind),o.c, .f (.int .i64 o.r.val)]
instance:HSzK kR 3:=⟨fun _=>rfl⟩
def kRo(o:Option RO):List CV:=match o with|none=>[.f (.int .i64 0), .f .nil, .f (.int .i64 0)]|some o=>kR o
instance:HSzK kRo 3:=⟨fun o=>by cases o<;>rfl⟩
inductive U8(H:Jm):CV→List Z0→List Nat→Prop where
 |e:U8 H (.f (.sl 0 [])) [] []
 |o (id g:Nat) (lim:Option Nat) (l:List RO) (ys:List CV) (h:look H id g=some ⟨g,3,kl kR l++ys⟩) (hi:∀o∈l,Qy H o.c o.r.cells o.i) (hd:(id::l.flatMap (·.i)).Nodup) (hy:∀c∈ys,Vk c=true):
    U8 H (.own id g 0 l.length lim) (l.map (·.r)) (id::l.flatMap (·.i))
theorem U8.frm{H H':Jm}{c:CV}{rs:List Z0}{S T:List Nat}(h:U8 H c rs S)(hf:Vi H H' T)(hd:∀i∈S,i∉T):U8 H' c rs S:=by
 cases h with
 |e=>exact .e
 |o id g lim l ys h hi hn hy=>
  refine .o id g lim l ys (by rw[hf.look (hd id (by simp))];exact h) (fun o ho=>(hi o ho).frm hf fun i hm=>hd i ?_) hn hy
  exact List.mem_cons_of_mem _ (List.mem_flatMap.2 ⟨o,ho,hm⟩)
theorem FS{H:Jm}{n:Nat}:∀(l:List RO),(∀o∈l,Qy H o.c o.r.cells o.i)→(kl kR l).mapM (frz H (n+1))=some (fl eR (l.map (·.r)))
 |[],_=>rfl
 |o::l,h=>by
  have h1:=(h o (by simp)).frz n
  have h2:=FS (n:=n) l fun x hx=>h x (by simp[hx])
  simp only[kl,List.flatMap_cons,kR,Jb,Jc]at h2⊢
  simp only[J4,h1,h2,Option.pure_def,Option.bind_eq_bind,Option.bind_some]
  rfl
theorem U8.frz{H:Jm}{c:CV}{rs:List Z0}{S:List Nat}(h:U8 H c rs S)(n:Nat):frz H (n+2) c=some (Uu eR rs):=by
 cases h with
 |e=>rfl
 |o id g lim l ys h hi hn hy=>
  simp only[Lg.frz,h,JR]
  rw[List.take_append_of_le_length (by rw[Fj];exact Nat.le_refl _),Js (by rw[Fj];exact Nat.le_refl _),FS l hi]
  simp
def Zx(H:Jm):AV→Option AV
 | .c x=>(frzC H x).map .c
 | .agg cs=>(cs.mapM (frzC H)).map .agg
 | .void=>some .void
 |_=>none
theorem NN{w:World}{X:Cx}{H:Jm}(R:ZL w X H){x y:CV}{v:Value}(h:frzC H x=some y)(hv:VC w X H x v):VC w (X.still w) [] y v:=by
 have hw:∀b,(X.ice H).I b→(X.still w).I b:=fun b hb=>by
  rcases hb with hb|⟨id,blk,h1,h2⟩
  · exact R.imm b hb
  · obtain⟨_,_,cc,t,h3,_⟩:=R.blk id blk h1
    rw[←h2]
    exact(Array.getElem?_eq_some_iff.1 h3).1
 have h2:=RX R h hv
 cases y with
 |f y=>exact VF.wide hw h2
 |fp cs off=>obtain⟨b,o,k1,k2,k3⟩:=h2;exact⟨b,o,k1,hw b k2,k3.mono (fun b hb=>⟨hw b hb,rfl⟩) k2⟩
 |nilp=>exact h2
 |nilf=>exact h2
 |emp=>exact h2
 |ptr id g off=>obtain⟨k1,k2,k3⟩:=h2;exact⟨k1,k2,fun hl=>by simp[look]at hl⟩
 |own id g off n lim=>obtain⟨k1,k2,k3⟩:=h2;exact⟨k1,k2,fun b hb=>by simp[look]at hb⟩
 |fn f caps=>exact h2
theorem FK{w:World}{X:Cx}{H:Jm}(R:ZL w X H){x y:AV}{v:Value}(h:Zx H x=some y)(hv:VA w X H x v):VA w (X.still w) [] y v:=by
 unfold Zx at h
 split at h
 · rename_i x
   cases hs:frzC H x with
   |none=>simp[hs]at h
   |some z=>simp[hs]at h;subst h;exact .c _ _ (NN R hs (Uy hv))
 · rename_i cs
   cases hs:cs.mapM (frzC H)with
   |none=>simp[hs]at h
   |some z=>
    simp[hs]at h;subst h
    obtain⟨h1,h2⟩:=Uh hs
    cases hv with
    |agg cs vs hsz hc=>
     refine .agg _ _ (by omega) fun j hj=> ?_
     obtain⟨y,h3,h4⟩:=h2 j (by omega)
     obtain⟨u,h5,h6⟩:=hc j (by omega)
     have:z[j]=y:=by simpa[Jq hj]using h3
     rw[this]
     exact⟨u,h5,NN R h4 h6⟩
 · cases h;cases hv;exact .void
 · cases h
end Go.Lg
