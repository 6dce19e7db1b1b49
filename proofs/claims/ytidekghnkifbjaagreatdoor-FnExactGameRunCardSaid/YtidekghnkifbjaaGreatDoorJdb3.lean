/- GpK, GpA, cut to what is needed. -/
import Derived.Test.YtidekghnkifbjaaGreatDoorJdb2
import Derived.Test.YtidekghnkifbjaaGreatDoorJdb1
import Derived.Test.YtidekghnkifbjaaGreatDoorJda9
open List renaming length_cons → Ja, cons_append → Jb, nil_append → Jd, length_nil → Je, replicate → Jf, length_set → Jp, length_append → Jq, take_of_length_le → Js, mem_append → JI, length_singleton → JQ, nodup_append → JZ, mem_map → Qg, length_map → Qi, mem_cons → Qn, map_append → Qo, length_replicate → Q5, nodup_cons → Zx
open Nat renaming reduceAdd→zA,reduceMul→zM,reduceSub→zS,reduceEqDiff→zE,reduceLeDiff→zL
set_option linter.unusedSimpArgs false
set_option linter.unusedVariables false
set_option maxRecDepth 100000
namespace Go.Lg
open Go.Proofs
theorem UV:∀(a b:List Int),a.Nodup→(∀x∈a,x∈b)→a.length≤b.length
 |[],b,_,_=>by simp
 |x::a,b,hn,hs=>by
  obtain⟨h1,h2⟩:=Zx.1 hn
  have hx:x∈b:=hs x (by simp)
  have:=UV a (b.erase x) h2 fun y hy=>by
   have hne:y≠x:=fun h=>h1 (h▸hy)
   exact(List.mem_erase_of_ne hne).2 (hs y (by simp[hy]))
  have hl:=List.length_erase_of_mem hx
  have hp:=List.length_pos_of_mem hx
  simp only[Ja]
  omega
theorem Jho(a b:List Int)(hn:a.Nodup)(hs:∀x∈a,x∈b)(hl:b.length≤a.length):b.Nodup∧∀x∈b,x∈a:=by
 have key:∀x∈b,x∈a:=by
  intro x hx
  refine Classical.byContradiction fun hxa=> ?_
  have:=UV a (b.erase x) hn fun y hy=>by
   have hne:y≠x:=fun h=>hxa (h▸hy)
   exact(List.mem_erase_of_ne hne).2 (hs y hy)
  have hl2:=List.length_erase_of_mem hx
  have hp:=List.length_pos_of_mem hx
  omega
 refine⟨?_,key⟩
 have gen:∀(b a:List Int),a.Nodup→(∀x∈a,x∈b)→b.length≤a.length→(∀x∈b,x∈a)→b.Nodup:=by
  intro b
  induction b with
  |nil=>intros;exact List.nodup_nil
  |cons y b ih=>
   intro a hn hs hl hk
   have hy:y∈a:=hk y (by simp)
   have hyb:y∉b:=fun hyb=>by
    have:=UV a b hn fun x hx=>by
     rcases Qn.1 (hs x hx)with rfl|h
     · exact hyb
     · exact h
    simp only[Ja]at hl
    omega
   refine Zx.2 ⟨hyb,ih (a.erase y) (hn.erase y) (fun x hx=> ?_) ?_ fun x hx=> ?_⟩
   · have hx':=(hn.mem_erase_iff).1 hx
     rcases Qn.1 (hs x hx'.2)with h|h
     · exact absurd h hx'.1
     · exact h
   · have:=List.length_erase_of_mem hy
     simp only[Ja]at hl
     omega
   · exact(hn.mem_erase_iff).2 ⟨fun h=>hyb (h▸hx),hk x (by simp[hx])⟩
 exact gen b a hn hs hl key
def ZR(xs:List Int):List Int:=((List.range xs.length).filter fun i:Nat=>decide (0<Jy xs i)).map fun i:Nat=>(i:Int)
theorem Kd(xs:List Int):(ZR xs).Nodup:=by
 unfold ZR
 refine List.pairwise_map.2 (List.Pairwise.imp ?_ (List.nodup_range.filter _))
 intro a b h h2
 exact h (by omega)
theorem Qs{xs:List Int}{c:Int}:c∈ZR xs↔0≤c∧c<xs.length∧0<Jy xs c:=by
 simp only[ZR,Qg,List.mem_filter,List.mem_range,decide_eq_true_eq]
 constructor
 · rintro⟨i,⟨h1,h2⟩,rfl⟩;exact⟨by omega,by omega,h2⟩
 · rintro⟨h1,h2,h3⟩;exact⟨c.toNat,⟨by omega,by rw[show((c.toNat:Nat):Int)=c by omega];exact h3⟩,by omega⟩
theorem YC(xs:List Int):(ZR xs).length=xs.countP fun v=>decide (0<v):=by
 have h:∀n,n≤xs.length→((List.range n).filter fun i:Nat=>decide (0<Jy xs i)).length=(xs.take n).countP fun v=>decide (0<v):=by
  intro n
  induction n with
  |zero=>intro _;rfl
  |succ n ih=>
   intro hn
   rw[List.range_succ,List.filter_append,Jq,ih (by omega),Kg (by omega)]
   simp only[List.filter_cons,List.filter_nil,decide_eq_true_eq]
   split<;>simp
 simp only[ZR,Qi]
 rw[h xs.length (Nat.le_refl _),List.take_length]
def Wg(g:QU):Prop:=g.moves.Nodup∧(∀c∈g.moves,c∈ZR g.put)∧∀c∈ZR g.put,c∈g.moves∧Jy g.task.given c≤0
instance(g:QU):Decidable (Wg g):=by unfold Wg;infer_instance
def Qp(g:QU):Bool:=JA g.task&&(Qc g.put g.task.size&&(decide (g.moves.length≤40)&&decide (Wg g)))
theorem UA{p:QR}(h:JA p=true):Qc p.given p.size=true:=by
 simp only[JA,Bool.and_eq_true]at h;exact h.1
theorem Nb{g:QU}:Wg g↔g.moves.length=g.put.countP (fun v=>decide (0<v))∧∀c∈ZR g.put,c∈g.moves∧Jy g.task.given c≤0:=by
 rw[←YC]
 constructor
 · rintro⟨h1,h2,h3⟩
   refine⟨Nat.le_antisymm (UV _ _ h1 h2) (UV _ _ (Kd _) fun c hc=>(h3 c hc).1),h3⟩
 · rintro⟨h1,h2⟩
   obtain⟨h3,h4⟩:=Jho (ZR g.put) g.moves (Kd _) (fun c hc=>(h2 c hc).1) (by omega)
   exact⟨h3,h4,h2⟩
theorem Zg(q:QU)(hx:smG q):JM Tryz.prog 34 [aG q] (bool (Qp q)):=by
 obtain⟨hx1,hx2,hx3⟩:=hx
 refine Jk.cw (c:=_) Tryz.func34 rfl (n:=63) Tryz.ntmps34 (rs:=[.tmp 2]) rfl ?_
 simp only[Ja,Je,zA,zS,Jf,Jb,Jd]
 simp(maxSteps:=999999)(disch:=omega)only[go_sem,zA,zM,zS,zE,zL]
 intro g
 refine Zi ZE (by kernel_rfl) ?_
 simp(maxSteps:=999999)(disch:=omega)only[go_sem,Nat.reduceBEq,Bool.true_or,zA,zM,zS,zE,zL]
 refine QM.rd (Qq q.task hx1) (⟨_,Tryz.func41,rfl,rfl⟩:Jg Tryz.prog 41) rfl rfl rfl rfl ?_
 simp(maxSteps:=999999)(disch:=omega)only[go_sem,zA,zM,zS,zE,zL]
 ((with_reducible first|refine JL ?_ ?_|refine JD ?_ ?_|refine JT ?_ ?_|refine Jv ?_ ?_|refine JJ ?_ ?_|refine JK ?_ ?_|refine JB ?_ ?_|refine JC ?_ ?_|refine JR ?_ ?_|refine JS ?_ ?_|refine Jw ?_ ?_|refine Jx ?_ ?_)<;>intro hv<;>simp(maxSteps:=999999)(disch:=omega)only[go_sem,zA,zM,zS,zE,zL,hv])
 rotate_left
 · simp[Qp,hv]
 refine QM.rd (Zv q.put q.task.size (by omega)) (⟨_,Tryz.func54,rfl,rfl⟩:Jg Tryz.prog 54) rfl rfl rfl rfl ?_
 simp(maxSteps:=999999)(disch:=omega)only[go_sem,zA,zM,zS,zE,zL]
 ((with_reducible first|refine JL ?_ ?_|refine JD ?_ ?_|refine JT ?_ ?_|refine Jv ?_ ?_|refine JJ ?_ ?_|refine JK ?_ ?_|refine JB ?_ ?_|refine JC ?_ ?_|refine JR ?_ ?_|refine JS ?_ ?_|refine Jw ?_ ?_|refine Jx ?_ ?_)<;>intro hv2<;>simp(maxSteps:=999999)(disch:=omega)only[go_sem,zA,zM,zS,zE,zL,hv2])
 rotate_left
 · simp[Qp,hv2]
 ((with_reducible first|refine JL ?_ ?_|refine JD ?_ ?_|refine JT ?_ ?_|refine Jv ?_ ?_|refine JJ ?_ ?_|refine JK ?_ ?_|refine JB ?_ ?_|refine JC ?_ ?_|refine JR ?_ ?_|refine JS ?_ ?_|refine Jw ?_ ?_|refine Jx ?_ ?_)<;>intro h40<;>simp(maxSteps:=999999)(disch:=omega)only[go_sem,zA,zM,zS,zE,zL,h40])
 · symm;simp only[Qp,hv,hv2,Bool.true_and,Bool.and_eq_false_iff,decide_eq_false_iff_not];exact .inl (by omega)
 refine QM.rd (Xj q.put q.task.size hx2) (⟨_,Tryz.func43,rfl,rfl⟩:Jg Tryz.prog 43) rfl rfl rfl rfl ?_
 simp(maxSteps:=999999)(disch:=omega)only[go_sem,zA,zM,zS,zE,zL]
 have hgf:ZU q.put q.task.size=(q.put.countP (fun v=>decide (0<v)):Nat):=by simp[ZU,hv2]
 have hval:Qp q=decide (Wg q):=by simp only[Qp,hv,hv2,Bool.true_and];rw[decide_eq_true (show q.moves.length≤40 by omega),Bool.true_and]
 rw[hval,hgf]
 ((first|(with_reducible first|refine Jm ?_ ?_|refine Jj ?_ ?_|refine Jo ?_ ?_)|refine Jr ?_ ?_)<;>intro hnum)
 rotate_left
 · simp(maxSteps:=999999)(disch:=omega)only[go_sem,zA,zM,zS,zE,zL]
   symm;rw[decide_eq_false_iff_not,Nb];rintro⟨h1,_⟩;omega
 simp(maxSteps:=999999)(disch:=omega)only[go_sem,zA,zM,zS,zE,zL]
 have hlen:q.put.length=q.task.given.length:=by
  have h1:=(Qv hv2).2.2.1
  have h2:=(Qv (UA hv)).2.2.1
  omega
 refine JO (fun i:Nat=>q.put.length -i) (fun i=>i≤q.put.length∧∀j:Nat,j<i→0<Jy q.put j→(j:Int)∈q.moves∧Jy q.task.given j≤0) (fun i=>[.a, .k, .a, .a, .a, .a, .a, .a, .a, .a, .a, .a, .a, .a, .a, .a, .a, .a, .a, .a, .a, .a, .a, .a, .a, .a, .a, .a, .a, .a, .a, .a, .a, .a, .a, .a, .a, .k, .k, .p (int i), .a, .a, .a, .a, .a, .a, .a, .a, .a, .a, .a, .a, .a, .a, .a, .a, .a, .a, .a, .a, .a, .a, .a]) (fun _=>[some ⟨g,1,cG q⟩]) 0
  ⟨Nat.zero_le _,fun j hj=>absurd hj (Nat.not_lt_zero _)⟩ (by simp(maxSteps:=999999)(disch:=omega)only[go_sem,zA,zM,zS,zE,zL];rfl) (J5.refl _) ?_
 rintro i ⟨hi,hall⟩
 simp(maxSteps:=999999)(disch:=omega)only[go_sem,zA,zM,zS,zE,zL]
 ((first|(with_reducible first|refine Jm ?_ ?_|refine Jj ?_ ?_|refine Jo ?_ ?_)|refine Jr ?_ ?_)<;>intro h)
 · have h:i<q.put.length:=by omega
   have no:(0<Jy q.put i∧¬((i:Int)∈q.moves∧Jy q.task.given i≤0))→false=decide (Wg q):=fun h1=>by
    symm;rw[decide_eq_false_iff_not]
    rintro⟨_,_,h2⟩
    exact h1.2 (h2 i (Qs.2 ⟨by omega,by omega,h1.1⟩))
   simp(maxSteps:=999999)(disch:=omega)only[go_sem,zA,zM,zS,zE,zL]
   ((with_reducible first|refine JL ?_ ?_|refine JD ?_ ?_|refine JT ?_ ?_|refine Jv ?_ ?_|refine JJ ?_ ?_|refine JK ?_ ?_|refine JB ?_ ?_|refine JC ?_ ?_|refine JR ?_ ?_|refine JS ?_ ?_|refine Jw ?_ ?_|refine Jx ?_ ?_)<;>intro h1<;>simp(maxSteps:=999999)(disch:=omega)only[go_sem,zA,zM,zS,zE,zL,h1])
   rotate_left
   · exact⟨i+1,⟨⟨h,Vh hall fun h2=>absurd h2 h1⟩,by omega⟩,by omega,J5.refl _⟩
   ((with_reducible first|refine JL ?_ ?_|refine JD ?_ ?_|refine JT ?_ ?_|refine Jv ?_ ?_|refine JJ ?_ ?_|refine JK ?_ ?_|refine JB ?_ ?_|refine JC ?_ ?_|refine JR ?_ ?_|refine JS ?_ ?_|refine Jw ?_ ?_|refine Jx ?_ ?_)<;>intro h2<;>simp(maxSteps:=999999)(disch:=omega)only[go_sem,zA,zM,zS,zE,zL,h2])
   · exact no ⟨h1,fun h3=>by omega⟩
   first|refine JU.rd (UN q.moves i hx3) (⟨_,Tryz.func82,rfl,rfl⟩:Jg Tryz.prog 82) rfl rfl rfl rfl ?_|refine JG.rd (UN q.moves i hx3) (⟨_,Tryz.func82,rfl,rfl⟩:Jg Tryz.prog 82) rfl rfl rfl rfl ?_
   simp(maxSteps:=999999)(disch:=omega)only[go_sem,zA,zM,zS,zE,zL]
   ((first|(with_reducible first|refine Jm ?_ ?_|refine Jj ?_ ?_|refine Jo ?_ ?_)|refine Jr ?_ ?_)<;>intro h3)
   · simp(maxSteps:=999999)(disch:=omega)only[go_sem,zA,zM,zS,zE,zL]
     exact⟨i+1,⟨⟨h,Vh hall fun _=>⟨h3,by omega⟩⟩,by omega⟩,by omega,J5.refl _⟩
   · simp(maxSteps:=999999)(disch:=omega)only[go_sem,zA,zM,zS,zE,zL]
     exact no ⟨h1,fun h4=>h3 h4.1⟩
 · simp(maxSteps:=999999)(disch:=omega)only[go_sem,zA,zM,zS,zE,zL]
   symm;rw[decide_eq_true_eq,Nb]
   refine⟨by omega,fun c hc=> ?_⟩
   obtain⟨h1,h2,h3⟩:=Qs.1 hc
   have:=hall c.toNat (by omega)
   rw[show((c.toNat:Nat):Int)=c by omega]at this
   exact this h3
def eBo(b:Bool):List FV:=[.bool b]
instance:HSz eBo 1:=⟨fun _=>rfl⟩
theorem eBo_0(b:Bool)(d:FV):(eBo b).getD 0 d= .bool b:=rfl
theorem Jjx(n:Nat):QL (n*1) [.f (.bool false)]=cl eBo (Jf n false):=by
 simp only[QL,Nat.mul_one,JQ,Nat.mod_one]
 induction n with
 |zero=>rfl
 |succ n ih=>rw[List.range_succ,Qo,ih,List.replicate_succ',Q7];rfl
theorem setBo{xs:List Bool}{e:Int}{v:Bool}(h:0≤e∧e<(xs.length:Int)):J6 (cl eBo xs) (0+e.toNat*1) [.f (.bool v)]=cl eBo (xs.set e.toNat v):=
 VE (E:=eBo) (by omega)
attribute [go_sem] eBo_0 Jjx setBo
theorem Q3(q:QU)(hx:smG q):JM Tryz.prog 12 [aG q] (bool (Qp q)):=by
 obtain⟨hx1,hx2,hx3⟩:=hx
 refine Jk.cw (c:=_) Tryz.func12 rfl (n:=94) Tryz.ntmps12 (rs:=[.tmp 2]) rfl ?_
 simp only[Ja,Je,zA,zS,Jf,Jb,Jd]
 simp(maxSteps:=999999)(disch:=omega)only[go_sem,zA,zM,zS,zE,zL]
 intro g
 first|refine JU.rd (Qt q.task hx1) (⟨_,Tryz.func38,rfl,rfl⟩:Jg Tryz.prog 38) rfl rfl rfl rfl ?_|refine JG.rd (Qt q.task hx1) (⟨_,Tryz.func38,rfl,rfl⟩:Jg Tryz.prog 38) rfl rfl rfl rfl ?_
 simp(maxSteps:=999999)(disch:=omega)only[go_sem,zA,zM,zS,zE,zL]
 ((with_reducible first|refine JL ?_ ?_|refine JD ?_ ?_|refine JT ?_ ?_|refine Jv ?_ ?_|refine JJ ?_ ?_|refine JK ?_ ?_|refine JB ?_ ?_|refine JC ?_ ?_|refine JR ?_ ?_|refine JS ?_ ?_|refine Jw ?_ ?_|refine Jx ?_ ?_)<;>intro hv<;>simp(maxSteps:=999999)(disch:=omega)only[go_sem,zA,zM,zS,zE,zL,hv])
 rotate_left
 · simp[Qp,hv]
 first|refine JU.rd (Zu q.put q.task.size (by omega)) (⟨_,Tryz.func39,rfl,rfl⟩:Jg Tryz.prog 39) rfl rfl rfl rfl ?_|refine JG.rd (Zu q.put q.task.size (by omega)) (⟨_,Tryz.func39,rfl,rfl⟩:Jg Tryz.prog 39) rfl rfl rfl rfl ?_
 simp(maxSteps:=999999)(disch:=omega)only[go_sem,zA,zM,zS,zE,zL]
 ((with_reducible first|refine JL ?_ ?_|refine JD ?_ ?_|refine JT ?_ ?_|refine Jv ?_ ?_|refine JJ ?_ ?_|refine JK ?_ ?_|refine JB ?_ ?_|refine JC ?_ ?_|refine JR ?_ ?_|refine JS ?_ ?_|refine Jw ?_ ?_|refine Jx ?_ ?_)<;>intro hv2<;>simp(maxSteps:=999999)(disch:=omega)only[go_sem,zA,zM,zS,zE,zL,hv2])
 rotate_left
 · simp[Qp,hv2]
 ((first|(with_reducible first|refine Jm ?_ ?_|refine Jj ?_ ?_|refine Jo ?_ ?_)|refine Jr ?_ ?_)<;>intro h40)
 · simp(maxSteps:=999999)(disch:=omega)only[go_sem,zA,zM,zS,zE,zL]
   symm;simp only[Qp,hv,hv2,Bool.true_and,Bool.and_eq_false_iff,decide_eq_false_iff_not];exact .inl (by omega)
 have hval:Qp q=decide (Wg q):=by simp only[Qp,hv,hv2,Bool.true_and];rw[decide_eq_true (show q.moves.length≤40 by omega),Bool.true_and]
 rw[hval]
 simp(maxSteps:=999999)(disch:=omega)only[go_sem,zA,zM,zS,zE,zL]
 intro g2
 have hlen:q.put.length=q.task.given.length:=by
  have h1:=(Qv hv2).2.2.1
  have h2:=(Qv (UA hv)).2.2.1
  omega
 have hneg:∀j:Nat,j<q.put.length→0≤Jy q.put j:=fun j hj=>((Qv hv2).2.2.2.2 j hj).1
 refine Qx (fun(i:Nat) (ys:List Bool)=>q.moves.length -i) (fun i ys=>i≤q.moves.length∧ys.length=q.put.length∧(q.moves.take i).Nodup∧(∀c∈q.moves.take i,c∈ZR q.put)∧∀j:Nat,j<ys.length→(Jy ys j=true↔(j:Int)∈q.moves.take i)) (fun i _=>[.a, .k, .a, .k, .p (int i), .a, .a, .a, .a, .a, .a, .a, .a, .a, .a, .a, .a, .a, .a, .a, .a, .a, .a, .a, .a, .a, .a, .a, .a, .a, .a, .a, .a, .a, .a, .a, .a, .a, .a, .a, .a, .a, .a, .a, .a, .a, .a, .a, .a, .a, .a, .a, .a, .a, .a, .a, .a, .a, .a, .a, .a, .a, .a, .a, .a, .a, .a, .a, .a, .a, .a, .a, .a, .a, .a, .a, .a, .a, .a, .a, .a, .a, .a, .a, .a, .a, .a, .a, .a, .a, .a, .a, .a, .a]) (fun _ ys=>[some ⟨g,1,cG q⟩,some ⟨g2,1,cl eBo ys⟩]) 0 (Jf q.put.length false)
  ⟨Nat.zero_le _,Q5,by simp,by simp,fun j hj=>by rw[Qe (by omega)];simp⟩ (by simp(maxSteps:=999999)(disch:=omega)only[go_sem,zA,zM,zS,zE,zL];rfl) (J5.refl _) ?_
 rintro i ys ⟨hi,hl,hnd,hin,hys⟩
 simp(maxSteps:=999999)(disch:=omega)only[go_sem,zA,zM,zS,zE,zL]
 ((first|(with_reducible first|refine Jm ?_ ?_|refine Jj ?_ ?_|refine Jo ?_ ?_)|refine Jr ?_ ?_)<;>intro h)
 · have h:i<q.moves.length:=by omega
   have htk:=Qa h
   simp(maxSteps:=999999)(disch:=omega)only[go_sem,zA,zM,zS,zE,zL]
   have no:¬(Jy q.moves i∈ZR q.put∧Jy q.moves i∉q.moves.take i)→false=decide (Wg q):=fun h1=>by
    symm;rw[decide_eq_false_iff_not]
    rintro⟨h2,h3,_⟩
    refine h1 ⟨h3 _ (Q8 h),fun h4=> ?_⟩
    have h5:=List.Nodup.sublist (List.take_sublist (i+1) q.moves) h2
    rw[htk,JZ]at h5
    exact h5.2.2 _ h4 _ (by simp) rfl
   first|refine JU.rd (QE _ _ _) (⟨_,Tryz.func40,rfl,rfl⟩:Jg Tryz.prog 40) rfl rfl rfl rfl ?_|refine JG.rd (QE _ _ _) (⟨_,Tryz.func40,rfl,rfl⟩:Jg Tryz.prog 40) rfl rfl rfl rfl ?_
   simp(maxSteps:=999999)(disch:=omega)only[go_sem,zA,zM,zS,zE,zL]
   ((with_reducible first|refine JL ?_ ?_|refine JD ?_ ?_|refine JT ?_ ?_|refine Jv ?_ ?_|refine JJ ?_ ?_|refine JK ?_ ?_|refine JB ?_ ?_|refine JC ?_ ?_|refine JR ?_ ?_|refine JS ?_ ?_|refine Jw ?_ ?_|refine Jx ?_ ?_)<;>intro h1<;>simp(maxSteps:=999999)(disch:=omega)only[go_sem,zA,zM,zS,zE,zL,h1])
   rotate_left
   · exact no fun h2=>by have:=Qs.1 h2.1;omega
   have hy:=hys (Jy q.moves i).toNat (by omega)
   rw[show(((Jy q.moves i).toNat:Nat):Int)=Jy q.moves i by omega]at hy
   ((with_reducible first|refine JL ?_ ?_|refine JD ?_ ?_|refine JT ?_ ?_|refine Jv ?_ ?_|refine JJ ?_ ?_|refine JK ?_ ?_|refine JB ?_ ?_|refine JC ?_ ?_|refine JR ?_ ?_|refine JS ?_ ?_|refine Jw ?_ ?_|refine Jx ?_ ?_)<;>intro h2<;>simp(maxSteps:=999999)(disch:=omega)only[go_sem,zA,zM,zS,zE,zL,h2])
   · exact no fun h3=>h3.2 (hy.1 h2)
   have hm:Jy q.moves i∉q.moves.take i:=fun hm=>by rw[hy.2 hm]at h2;cases h2
   have hg:=hneg (Jy q.moves i).toNat (by omega)
   rw[show(((Jy q.moves i).toNat:Nat):Int)=Jy q.moves i by omega]at hg
   ((first|(with_reducible first|refine Jm ?_ ?_|refine Jj ?_ ?_|refine Jo ?_ ?_)|refine Jr ?_ ?_)<;>intro h3)
   · simp(maxSteps:=999999)(disch:=omega)only[go_sem,zA,zM,zS,zE,zL]
     exact no fun h4=>by have:=Qs.1 h4.1;omega
   have hf:Jy q.moves i∈ZR q.put:=Qs.2 ⟨by omega,by omega,by omega⟩
   simp(maxSteps:=999999)(disch:=omega)only[go_sem,zA,zM,zS,zE,zL]
   refine⟨i+1,ys.set (Jy q.moves i).toNat true,⟨⟨h,by simp[hl], ?_, ?_,fun j hj=> ?_⟩,by omega⟩,by omega,J5.refl _⟩
   · rw[htk,JZ]
     refine⟨hnd,by simp,fun a ha b hb he=>hm ?_⟩
     have:b=Jy q.moves i:=by simpa using hb
     rw[←this,←he];exact ha
   · rw[htk];intro c hc
     rcases JI.1 hc with hc|hc
     · exact hin c hc
     · have:c=Jy q.moves i:=by simpa using hc
       subst this;exact hf
   · simp only[Jp]at hj
     rw[VU _ _ _ _ (by omega) (by omega),htk,JI]
     split
     · rename_i he
       simp;right;omega
     · rename_i he
       rw[hys j hj]
       constructor
       · exact .inl
       · rintro(h5|h5)
         · exact h5
         · simp at h5;omega
 · have hmi:q.moves.take i=q.moves:=Js (by omega)
   rw[hmi]at hnd hin hys
   simp(maxSteps:=999999)(disch:=omega)only[go_sem,zA,zM,zS,zE,zL]
   refine JO (fun i:Nat=>q.put.length -i) (fun i=>i≤q.put.length∧∀j:Nat,j<i→0<Jy q.put j→(j:Int)∈q.moves∧Jy q.task.given j≤0) (fun i=>[.a, .k, .a, .k, .a, .a, .p (int i), .a, .a, .a, .a, .a, .a, .a, .a, .a, .a, .a, .a, .a, .a, .a, .a, .a, .a, .a, .a, .a, .a, .a, .a, .a, .a, .a, .a, .a, .a, .a, .a, .a, .a, .a, .a, .a, .a, .a, .a, .a, .a, .a, .a, .a, .a, .a, .a, .a, .a, .a, .a, .a, .a, .a, .a, .a, .a, .a, .a, .a, .a, .a, .a, .a, .a, .a, .a, .a, .a, .a, .a, .a, .a, .a, .a, .a, .a, .a, .a, .a, .a, .a, .a, .a, .a, .a]) (fun _=>[some ⟨g,1,cG q⟩,some ⟨g2,1,cl eBo ys⟩]) 0
    ⟨Nat.zero_le _,fun j hj=>absurd hj (Nat.not_lt_zero _)⟩ (by simp(maxSteps:=999999)(disch:=omega)only[go_sem,zA,zM,zS,zE,zL];rfl) (J5.refl _) ?_
   rintro k ⟨hk,hall⟩
   simp(maxSteps:=999999)(disch:=omega)only[go_sem,zA,zM,zS,zE,zL]
   ((first|(with_reducible first|refine Jm ?_ ?_|refine Jj ?_ ?_|refine Jo ?_ ?_)|refine Jr ?_ ?_)<;>intro h4)
   · have h4:k<q.put.length:=by omega
     have no:(0<Jy q.put k∧¬((k:Int)∈q.moves∧Jy q.task.given k≤0))→false=decide (Wg q):=fun h1=>by
      symm;rw[decide_eq_false_iff_not]
      rintro⟨_,_,h2⟩
      exact h1.2 (h2 k (Qs.2 ⟨by omega,by omega,h1.1⟩))
     have hy:=hys k (by omega)
     simp(maxSteps:=999999)(disch:=omega)only[go_sem,zA,zM,zS,zE,zL]
     ((with_reducible first|refine JL ?_ ?_|refine JD ?_ ?_|refine JT ?_ ?_|refine Jv ?_ ?_|refine JJ ?_ ?_|refine JK ?_ ?_|refine JB ?_ ?_|refine JC ?_ ?_|refine JR ?_ ?_|refine JS ?_ ?_|refine Jw ?_ ?_|refine Jx ?_ ?_)<;>intro h1<;>simp(maxSteps:=999999)(disch:=omega)only[go_sem,zA,zM,zS,zE,zL,h1])
     rotate_left
     · exact⟨k+1,⟨⟨h4,Vh hall fun h2=>absurd h2 h1⟩,by omega⟩,by omega,J5.refl _⟩
     ((with_reducible first|refine JL ?_ ?_|refine JD ?_ ?_|refine JT ?_ ?_|refine Jv ?_ ?_|refine JJ ?_ ?_|refine JK ?_ ?_|refine JB ?_ ?_|refine JC ?_ ?_|refine JR ?_ ?_|refine JS ?_ ?_|refine Jw ?_ ?_|refine Jx ?_ ?_)<;>intro h2<;>simp(maxSteps:=999999)(disch:=omega)only[go_sem,zA,zM,zS,zE,zL,h2])
     rotate_left
     · exact no ⟨h1,fun h3=>by rw[hy.2 h3.1]at h2;cases h2⟩
     ((first|(with_reducible first|refine Jm ?_ ?_|refine Jj ?_ ?_|refine Jo ?_ ?_)|refine Jr ?_ ?_)<;>intro h3)
     · simp(maxSteps:=999999)(disch:=omega)only[go_sem,zA,zM,zS,zE,zL]
       exact no ⟨h1,fun h5=>by omega⟩
     · simp(maxSteps:=999999)(disch:=omega)only[go_sem,zA,zM,zS,zE,zL]
       exact⟨k+1,⟨⟨h4,Vh hall fun _=>⟨hy.1 h2,by omega⟩⟩,by omega⟩,by omega,J5.refl _⟩
   · simp(maxSteps:=999999)(disch:=omega)only[go_sem,zA,zM,zS,zE,zL]
     symm;rw[decide_eq_true_eq]
     refine⟨hnd,hin,fun c hc=> ?_⟩
     obtain⟨h1,h2,h3⟩:=Qs.1 hc
     have:=hall c.toNat (by omega)
     rw[show((c.toNat:Nat):Int)=c by omega]at this
     exact this h3
end Go.Lg

namespace Go.Lg
open Go.Proofs
theorem JcH(k:Int):JM Tryz.prog 64 [QF [],int k] (int k):=by
 refine Jk.cw (c:=_) Tryz.func64 rfl (n:=19) Tryz.ntmps64 (rs:=[.tmp 4]) rfl ?_
 simp only[Ja,Je,zA,zS,Jf,Jb,Jd]
 simp(maxSteps:=999999)(disch:=omega)only[go_sem,zA,zM,zS,zE,zL]
 refine JO (fun _:Unit=>0) (fun _=>True) (fun _=>[.k, .p (int k), .a, .a, .a, .p (int 0), .a, .a, .a, .a, .a, .a, .a, .a, .a, .a, .a, .a, .a]) (fun _=>[]) () trivial (by simp(maxSteps:=999999)(disch:=omega)only[go_sem,zA,zM,zS,zE,zL]) (J9 _) ?_
 intro _ _
 simp(maxSteps:=999999)(disch:=omega)only[go_sem,zA,zM,zS,zE,zL]
 simp only[show decide ((0:Int)<((0:Nat):Int))=false from rfl]
 simp(maxSteps:=999999)(disch:=omega)only[go_sem,zA,zM,zS,zE,zL]
theorem Up(n:Nat)(k:Int)(hk:0≤k∧k≤2^50)(hx:n≤2^40):JM Tryz.prog 67 [QF (UQ k n),int k] (int (k+n)):=by
 refine Jk.cw (c:=_) Tryz.func67 rfl (n:=21) Tryz.ntmps67 (rs:=[.tmp 4]) rfl ?_
 simp only[Ja,Je,zA,zS,Jf,Jb,Jd]
 simp(maxSteps:=999999)(disch:=omega)only[go_sem,zA,zM,zS,zE,zL]
 have hm:=Zh k n
 refine JO (fun(i:Nat)=>n -i) (fun i=>i≤n) (fun i=>[.k, .p (int (k+i)), .a, .a, .a, .p (int i), .a, .a, .a, .a, .a, .a, .a, .a, .a, .a, .a, .a, .a, .a, .a]) (fun _=>[]) 0
  (Nat.zero_le _) (by simp(maxSteps:=999999)(disch:=omega)only[go_sem,zA,zM,zS,zE,zL];simp) (J9 _) ?_
 intro i hi
 simp(maxSteps:=999999)(disch:=omega)only[go_sem,zA,zM,zS,zE,zL,Zh]
 refine QS (fun h=> ?_) (fun h=> ?_)
 · have h:i<n:=by simpa using h
   simp(maxSteps:=999999)(disch:=omega)only[go_sem,zA,zM,zS,zE,zL,Zh,JaB h]
   exact⟨i+1,⟨h,by omega⟩,⟨by push_cast;omega,by push_cast;omega⟩,J9 _⟩
 have h:i=n:=by have:¬i<n:=by simpa using h
                omega
 subst h
 simp(maxSteps:=999999)(disch:=omega)only[go_sem,zA,zM,zS,zE,zL]
end Go.Lg
