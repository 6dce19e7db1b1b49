/- GpVR, GpVS, cut to what is needed. -/
import Derived.Test.YtiahmfdabpafoaaGreatDoorKab3
import Derived.Test.YtiahmfdabpafoaaGreatDoorKad2
import Derived.Test.YtiahmfdabpafoaaGreatDoorKab4
import Derived.Test.YtiahmfdabpafoaaGreatDoorKac5
open List renaming cons_append → Jc, nil_append → Jd, length_append → Je, length_cons → Jf, replicate → Jg, length_nil → Jl, take_of_length_le → Jn, append_nil → Jv, length_take → JA, length_map → JL, map_append → J1
open Nat renaming reduceAdd→zA,reduceMul→zM,reduceSub→zS,reduceEqDiff→zE,reduceLeDiff→zL
set_option linter.unusedSimpArgs false
set_option linter.unusedVariables false
set_option maxRecDepth 100000
namespace Go.Lg
open Go.Proofs
def Uz(k:Int):UInt8:=([100,115,112,108,97]:List UInt8).getD (k -1).toNat 0
def chA(c:Int):UInt8:=u8 (97+c)
def Rp(r:Q2):List UInt8:=if r.kind=2∨r.kind=3∨r.kind=5 then 61::Go.Lib.decDigits r.val.toNat else[]
def Zl(r:Q2):List UInt8:=Uz r.kind::(r.cells.map chA++Rp r)
def Ze(r:Q2):List UInt8:=if JQ r 4=true then Zl r else[]
theorem Us{r:Q2}(h:JQ r 4=true):(1≤r.kind∧r.kind≤5)∧r.cells.length≤4∧(∀k:Nat,k<r.cells.length→0≤JM r.cells k∧JM r.cells k<16)∧0≤r.val∧r.val≤256:=by
 simp only[JQ,decide_eq_true_eq]at h
 obtain⟨_,h2,h3⟩:=h
 refine⟨?_, ?_,fun k hk=> ?_, ?_⟩
 · unfold Zz at h3;omega
 · unfold Zz at h3;omega
 · have:=(h2 k hk).1;omega
 · unfold Zz at h3;omega
def Yb(m:Nat):List UInt8:=if m<10 then[]else Go.Lib.decDigits (m/10)
theorem Jca(m:Nat):Yb m++[u8 (48+((m%10:Nat):Int))]=Go.Lib.decDigits m:=by
 unfold Yb
 conv=>rhs;rw[Go.Lib.decDigits]
 by_cases h:m<10
 · rw[if_pos h,dif_pos h,Nat.mod_eq_of_lt h]
   unfold u8
   rw[Jd,show(48+((m:Nat):Int)).toNat=48+m by omega]
 · rw[if_neg h,dif_neg h]
   unfold u8
   rw[show(48+((m%10:Nat):Int)).toNat=48+m%10 by omega]
theorem GC:∀(m:Nat),(Go.Lib.decDigits m).length≤m+1:=by
 intro m
 induction m using Nat.strongRecOn with
 |ind m ih=>
  rw[Go.Lib.decDigits]
  by_cases h:m<10
  · rw[dif_pos h];simp
  · rw[dif_neg h]
    have:=ih (m/10) (by omega)
    simp only[Je,Jf,Jl]
    omega
theorem Je3{v:Int}(h:0≤v):Go.Lib.itoa v=Go.Lib.decDigits v.toNat:=by
 unfold Go.Lib.itoa
 rw[if_neg (by omega)]
theorem BH{xs:List Int}{f:Int→UInt8}{i:Nat}(h:i<xs.length):(xs.take (i+1)).map f=(xs.take i).map f++[f (JM xs i)]:=by
 rw[JX h,J1]
 rfl
theorem BR(n:Nat)(hn:n≤1000):Qd Tryz.prog 44 [int n] (Um (Go.Lib.decDigits n)):=by
 have hm0:n%10<10:=Nat.mod_lt _ (by omega)
 refine Jq.cw (c:=_) Tryz.func44 rfl (n:=23) Tryz.ntmps44 (rs:=[.tmp 2]) rfl ?_
 simp only[Jf,Jl,zA,zS,Jg,Jc,Jd]
 simp(maxSteps:=999999)(disch:=omega)only[go_sem,zA,zM,zS,zE,zL,JdU]
 intro g
 refine Qj (fun(m:Nat) (out:List UInt8)=>m) (fun m out=>m≤1000∧out.length+m≤2000∧Yb m++out=Go.Lib.decDigits n) (fun m out=>[.p (int m), .a, .a, .p (Um out), .a, .a, .a, .a, .a, .a, .a, .a, .a, .a, .a, .a, .a, .a, .a, .a, .a, .a, .a]) (fun _ _=>[]) n [u8 (48+((n%10:Nat):Int))]
  ⟨hn,by simp;omega,Jca n⟩ (by simp(maxSteps:=999999)(disch:=omega)only[go_sem,zA,zM,zS,zE,zL];first|rfl|trace_state) (J8 _) ?_
 rintro m out ⟨h1,h2,h3⟩
 simp(maxSteps:=999999)(disch:=omega)only[go_sem,zA,zM,zS,zE,zL]
 ((first|(with_reducible first|refine Jo ?_ ?_|refine Jk ?_ ?_|refine Jp ?_ ?_)|refine Jr ?_ ?_)<;>intro c1)
 · have c1:9<m:=by omega
   have hm:m/10%10<10:=Nat.mod_lt _ (by omega)
   have hd:m/10<m:=Nat.div_lt_self (by omega) (by omega)
   simp(maxSteps:=999999)(disch:=omega)only[go_sem,zA,zM,zS,zE,zL,JdU,Jhr]
   intro g
   refine⟨m/10,u8 (48+((m/10%10:Nat):Int))::out,⟨⟨by omega,by simp only[Jf];omega, ?_⟩,hd⟩,⟨rfl,rfl⟩,J8 _⟩
   rw[←h3]
   have e:Yb m=Go.Lib.decDigits (m/10):=by unfold Yb;rw[if_neg (by omega)]
   rw[e,←Jca (m/10)]
   simp
 · have c1:m<10:=by omega
   have e:Yb m=[]:=by unfold Yb;rw[if_pos c1]
   rw[e,Jd]at h3
   subst h3
   simp(maxSteps:=999999)(disch:=omega)only[go_sem,zA,zM,zS,zE,zL]
set_option maxHeartbeats 1000000 in
theorem Z7(r:Q2)(hx:r.cells.length≤2^40):Qd Tryz.prog 20 [aR r] (Um (Ze r)):=by
 refine Jq.cw (c:=_) Tryz.func20 rfl (n:=54) Tryz.ntmps20 (rs:=[.tmp 2]) rfl ?_
 simp only[Jf,Jl,zA,zS,Jg,Jc,Jd]
 simp(maxSteps:=999999)(disch:=omega)only[go_sem,zA,zM,zS,zE,zL]
 intro g
 first|refine Qh.rd (Zp r 4 hx) (⟨_,Tryz.func21,rfl,rfl⟩:Jm Tryz.prog 21) rfl rfl rfl rfl ?_|refine Qe.rd (Zp r 4 hx) (⟨_,Tryz.func21,rfl,rfl⟩:Jm Tryz.prog 21) rfl rfl rfl rfl ?_
 simp(maxSteps:=999999)(disch:=omega)only[go_sem,zA,zM,zS,zE,zL]
 cases hv:JQ r 4 with
 |false=>
  have e:Ze r=[]:=by unfold Ze;rw[hv];rfl
  rw[e]
  ((first|(with_reducible first|refine Jo ?_ ?_|refine Jk ?_ ?_|refine Jp ?_ ?_)|refine Jr ?_ ?_)<;>intro c0)
  · cases c0
  simp(maxSteps:=999999)(disch:=omega)only[go_sem,zA,zM,zS,zE,zL]
 |true=>
  have e:Ze r=Zl r:=by unfold Ze;rw[hv];rfl
  rw[e]
  obtain⟨hk,hl4,hc,hval⟩:=Us hv
  ((first|(with_reducible first|refine Jo ?_ ?_|refine Jk ?_ ?_|refine Jp ?_ ?_)|refine Jr ?_ ?_)<;>intro c0)
  rotate_left
  · cases c0
  have hcut:GD [100,115,112,108,97] (r.kind -1).toNat r.kind.toNat=some (Um [Uz r.kind]):=by
   rcases(by omega:r.kind=1∨r.kind=2∨r.kind=3∨r.kind=4∨r.kind=5)with e|e|e|e|e<;>rw[e]<;>rfl
  simp(maxSteps:=999999)(disch:=omega)only[go_sem,zA,zM,zS,zE,zL,hcut]
  refine Qj (fun(k:Nat) (out:List UInt8)=>r.cells.length -k) (fun k out=>k≤r.cells.length∧out=Uz r.kind::(r.cells.take k).map chA) (fun k out=>[.a, .k, .a, .a, .p (Um out), .p (int k), .a, .a, .a, .a, .a, .a, .a, .a, .a, .a, .a, .a, .a, .a, .a, .a, .a, .a, .a, .a, .a, .a, .a, .a, .a, .a, .a, .a, .a, .a, .a, .a, .a, .a, .a, .a, .a, .a, .a, .a, .a, .a, .a, .a, .a, .a, .a, .a]) (fun _ _=>[some ⟨g,1,cR r⟩]) 0 [Uz r.kind]
   ⟨Nat.zero_le _,rfl⟩ (by simp(maxSteps:=999999)(disch:=omega)only[go_sem,zA,zM,zS,zE,zL];rfl) (Qc.refl _) ?_
  rintro k _ ⟨hi,rfl⟩
  have hlen:(Uz r.kind::(r.cells.take k).map chA).length≤100:=by simp only[Jf,JL,JA];omega
  simp(maxSteps:=999999)(disch:=omega)only[go_sem,zA,zM,zS,zE,zL]
  ((first|(with_reducible first|refine Jo ?_ ?_|refine Jk ?_ ?_|refine Jp ?_ ?_)|refine Jr ?_ ?_)<;>intro c1)
  · have hv:=hc k (by omega)
    simp(maxSteps:=999999)(disch:=omega)only[go_sem,zA,zM,zS,zE,zL]
    intro g1
    refine⟨k+1,_,⟨⟨by omega, ?_⟩,by omega⟩,⟨rfl,rfl⟩,Zd rfl (J8 _)⟩
    rw[BH (by omega)]
    rfl
  have hke:k=r.cells.length:=by omega
  subst hke
  rw[List.take_length]at hlen⊢
  have hfin:∀b:Bool,decide (r.kind=2∨r.kind=3∨r.kind=5)=b→Zl r=Uz r.kind::(r.cells.map chA++bif b then 61::Go.Lib.decDigits r.val.toNat else[]):=fun b h=>by
   unfold Zl Rp
   cases b with
   |false=>rw[if_neg (of_decide_eq_false h)];rfl
   |true=>rw[if_pos (of_decide_eq_true h)];rfl
  have d12:decide ((1:Int)=2)=false:=rfl
  have d13:decide ((1:Int)=3)=false:=rfl
  have d15:decide ((1:Int)=5)=false:=rfl
  have d22:decide ((2:Int)=2)=true:=rfl
  have d32:decide ((3:Int)=2)=false:=rfl
  have d33:decide ((3:Int)=3)=true:=rfl
  have d42:decide ((4:Int)=2)=false:=rfl
  have d43:decide ((4:Int)=3)=false:=rfl
  have d45:decide ((4:Int)=5)=false:=rfl
  have d52:decide ((5:Int)=2)=false:=rfl
  have d53:decide ((5:Int)=3)=false:=rfl
  have d55:decide ((5:Int)=5)=true:=rfl
  have hdl:(Go.Lib.decDigits r.val.toNat).length≤300:=by have:=GC r.val.toNat;omega
  have hnum:Qd Tryz.prog 44 [int r.val] (Um (Go.Lib.decDigits r.val.toNat)):=by
   have h:=BR r.val.toNat (by omega)
   rwa [Int.toNat_of_nonneg hval.1]at h
  rcases(by omega:r.kind=1∨r.kind=2∨r.kind=3∨r.kind=4∨r.kind=5)with e|e|e|e|e
  · have hf:=hfin false (by rw[e];rfl)
    rw[e]at hf
    simp only[cond_false,Jv]at hf
    simp(maxSteps:=999999)(disch:=omega)only[go_sem,zA,zM,zS,zE,zL,e,d12,d13,d15,d22,d32,d33,d42,d43,d45,d52,d53,d55]
    first|done|rw[hf]|trace_state
  · have hf:=hfin true (by rw[e];rfl)
    rw[e]at hf
    simp only[cond_true]at hf
    simp(maxSteps:=999999)(disch:=omega)only[go_sem,zA,zM,zS,zE,zL,e,d12,d13,d15,d22,d32,d33,d42,d43,d45,d52,d53,d55]
    first|refine Qh.rd (hnum) (⟨_,Tryz.func44,rfl,rfl⟩:Jm Tryz.prog 44) rfl rfl rfl rfl ?_|refine Qe.rd (hnum) (⟨_,Tryz.func44,rfl,rfl⟩:Jm Tryz.prog 44) rfl rfl rfl rfl ?_
    simp(maxSteps:=999999)(disch:=omega)only[go_sem,zA,zM,zS,zE,zL]
    simp[hf]
  · have hf:=hfin true (by rw[e];rfl)
    rw[e]at hf
    simp only[cond_true]at hf
    simp(maxSteps:=999999)(disch:=omega)only[go_sem,zA,zM,zS,zE,zL,e,d12,d13,d15,d22,d32,d33,d42,d43,d45,d52,d53,d55]
    first|refine Qh.rd (hnum) (⟨_,Tryz.func44,rfl,rfl⟩:Jm Tryz.prog 44) rfl rfl rfl rfl ?_|refine Qe.rd (hnum) (⟨_,Tryz.func44,rfl,rfl⟩:Jm Tryz.prog 44) rfl rfl rfl rfl ?_
    simp(maxSteps:=999999)(disch:=omega)only[go_sem,zA,zM,zS,zE,zL]
    simp[hf]
  · have hf:=hfin false (by rw[e];rfl)
    rw[e]at hf
    simp only[cond_false,Jv]at hf
    simp(maxSteps:=999999)(disch:=omega)only[go_sem,zA,zM,zS,zE,zL,e,d12,d13,d15,d22,d32,d33,d42,d43,d45,d52,d53,d55]
    first|done|rw[hf]|trace_state
  · have hf:=hfin true (by rw[e];rfl)
    rw[e]at hf
    simp only[cond_true]at hf
    simp(maxSteps:=999999)(disch:=omega)only[go_sem,zA,zM,zS,zE,zL,e,d12,d13,d15,d22,d32,d33,d42,d43,d45,d52,d53,d55]
    first|refine Qh.rd (hnum) (⟨_,Tryz.func44,rfl,rfl⟩:Jm Tryz.prog 44) rfl rfl rfl rfl ?_|refine Qe.rd (hnum) (⟨_,Tryz.func44,rfl,rfl⟩:Jm Tryz.prog 44) rfl rfl rfl rfl ?_
    simp(maxSteps:=999999)(disch:=omega)only[go_sem,zA,zM,zS,zE,zL]
    simp[hf]
set_option maxHeartbeats 1000000 in
theorem WD(r:Q2)(hx:r.cells.length≤2^40):Qd Tryz.prog 18 [aR r] (Um (Ze r)):=by
 refine Jq.cw (c:=_) Tryz.func18 rfl (n:=50) Tryz.ntmps18 (rs:=[.tmp 2]) rfl ?_
 simp only[Jf,Jl,zA,zS,Jg,Jc,Jd]
 simp(maxSteps:=999999)(disch:=omega)only[go_sem,zA,zM,zS,zE,zL]
 intro g
 first|refine Qh.rd (UU r 4 hx) (⟨_,Tryz.func32,rfl,rfl⟩:Jm Tryz.prog 32) rfl rfl rfl rfl ?_|refine Qe.rd (UU r 4 hx) (⟨_,Tryz.func32,rfl,rfl⟩:Jm Tryz.prog 32) rfl rfl rfl rfl ?_
 simp(maxSteps:=999999)(disch:=omega)only[go_sem,zA,zM,zS,zE,zL]
 cases hv:JQ r 4 with
 |false=>
  have e:Ze r=[]:=by unfold Ze;rw[hv];rfl
  rw[e]
  ((first|(with_reducible first|refine Jo ?_ ?_|refine Jk ?_ ?_|refine Jp ?_ ?_)|refine Jr ?_ ?_)<;>intro c0)
  · cases c0
  simp(maxSteps:=999999)(disch:=omega)only[go_sem,zA,zM,zS,zE,zL]
 |true=>
  have e:Ze r=Zl r:=by unfold Ze;rw[hv];rfl
  rw[e]
  obtain⟨hk,hl4,hc,hval⟩:=Us hv
  ((first|(with_reducible first|refine Jo ?_ ?_|refine Jk ?_ ?_|refine Jp ?_ ?_)|refine Jr ?_ ?_)<;>intro c0)
  rotate_left
  · cases c0
  simp(maxSteps:=999999)(disch:=omega)only[go_sem,zA,zM,zS,zE,zL]
  intro g1
  have hch:Ue [100,115,112,108,97] (r.kind -1)=((Uz r.kind).toNat:Int):=rfl
  rw[hch]
  refine Qj (fun(i g2:Nat)=>r.cells.length -i) (fun i g2=>i≤r.cells.length) (fun i g2=>[.a, .k, .a, .p (.c (.own 1 g2 0 (i+1) none)), .a, .a, .a, .a, .a, .a, .a, .a, .a, .a, .a, .k, .k, .p (int i), .a, .a, .a, .a, .a, .a, .a, .a, .a, .a, .a, .a, .a, .a, .a, .a, .a, .a, .a, .a, .a, .a, .a, .a, .a, .a, .a, .a, .a, .a, .a, .a]) (fun i g2=>[some ⟨g,1,cR r⟩,some ⟨g2,1,cl (eI .u8) (((Uz r.kind).toNat:Int)::(r.cells.take i).map fun c=>97+c)⟩]) 0 g1
   (Nat.zero_le _) (by simp(maxSteps:=999999)(disch:=omega)only[go_sem,zA,zM,zS,zE,zL];rfl) (Qc.refl _) ?_
  intro i g2 hi
  simp(maxSteps:=999999)(disch:=omega)only[go_sem,zA,zM,zS,zE,zL]
  ((first|(with_reducible first|refine Jo ?_ ?_|refine Jk ?_ ?_|refine Jp ?_ ?_)|refine Jr ?_ ?_)<;>intro c1)
  · have hv:=hc i (by omega)
    simp(maxSteps:=999999)(disch:=omega)only[go_sem,zA,zM,zS,zE,zL]
    intro g3 g4
    exact⟨i+1,g4,⟨by omega,by omega⟩,⟨⟨rfl,rfl⟩,rfl⟩,Zd rfl (Zd (by rw[JX (by omega),J1];simp) (J8 _))⟩
  have hke:i=r.cells.length:=by omega
  subst hke
  rw[List.take_length]
  have hfin:∀b:Bool,decide (r.kind=2∨r.kind=3∨r.kind=5)=b→Zl r=Uz r.kind::(r.cells.map chA++bif b then 61::Go.Lib.decDigits r.val.toNat else[]):=fun b h=>by
   unfold Zl Rp
   cases b with
   |false=>rw[if_neg (of_decide_eq_false h)];rfl
   |true=>rw[if_pos (of_decide_eq_true h)];rfl
  have d12:decide ((1:Int)=2)=false:=rfl
  have d13:decide ((1:Int)=3)=false:=rfl
  have d15:decide ((1:Int)=5)=false:=rfl
  have d22:decide ((2:Int)=2)=true:=rfl
  have d32:decide ((3:Int)=2)=false:=rfl
  have d33:decide ((3:Int)=3)=true:=rfl
  have d42:decide ((4:Int)=2)=false:=rfl
  have d43:decide ((4:Int)=3)=false:=rfl
  have d45:decide ((4:Int)=5)=false:=rfl
  have d52:decide ((5:Int)=2)=false:=rfl
  have d53:decide ((5:Int)=3)=false:=rfl
  have d55:decide ((5:Int)=5)=true:=rfl
  have hm:List.map u8 (List.take r.cells.length (List.map (fun c=>97+c) r.cells))=r.cells.map chA:=by
   rw[Jn (by simp),List.map_map]
   rfl
  have hk8:∀k:Int,u8 ((Uz k).toNat:Int)=Uz k:=fun k=>by unfold u8;simp
  have hdl:(Go.Lib.decDigits r.val.toNat).length≤300:=by have:=GC r.val.toNat;omega
  have hnum:Qd Tryz.prog 43 [int r.val] (Um (Go.Lib.decDigits r.val.toNat)):=by
   rw[←Je3 hval.1]
   exact JfW r.val (by omega) (by omega)
  rcases(by omega:r.kind=1∨r.kind=2∨r.kind=3∨r.kind=4∨r.kind=5)with e|e|e|e|e
  · have hf:=hfin false (by rw[e];rfl)
    rw[e]at hf
    simp only[cond_false,Jv]at hf
    simp(maxSteps:=999999)(disch:=omega)only[go_sem,zA,zM,zS,zE,zL,e,d12,d13,d15,d22,d32,d33,d42,d43,d45,d52,d53,d55,hm,hk8]
    first|done|rw[hf]|trace_state
  · have hf:=hfin true (by rw[e];rfl)
    rw[e]at hf
    simp only[cond_true]at hf
    simp(maxSteps:=999999)(disch:=omega)only[go_sem,zA,zM,zS,zE,zL,e,d12,d13,d15,d22,d32,d33,d42,d43,d45,d52,d53,d55,hm,hk8]
    refine Q7 Zr (by kernel_rfl) ?_
    simp(maxSteps:=999999)(disch:=omega)only[go_sem,Nat.reduceBEq,Bool.true_or,zA,zM,zS,zE,zL]
    refine QI.rd (hnum) (⟨_,Tryz.func43,rfl,rfl⟩:Jm Tryz.prog 43) rfl rfl rfl rfl ?_
    simp(maxSteps:=999999)(disch:=omega)only[go_sem,zA,zM,zS,zE,zL]
    rw[hm,hk8]
    simp[hf]
  · have hf:=hfin true (by rw[e];rfl)
    rw[e]at hf
    simp only[cond_true]at hf
    simp(maxSteps:=999999)(disch:=omega)only[go_sem,zA,zM,zS,zE,zL,e,d12,d13,d15,d22,d32,d33,d42,d43,d45,d52,d53,d55,hm,hk8]
    refine Q7 Zr (by kernel_rfl) ?_
    simp(maxSteps:=999999)(disch:=omega)only[go_sem,Nat.reduceBEq,Bool.true_or,zA,zM,zS,zE,zL]
    refine QI.rd (hnum) (⟨_,Tryz.func43,rfl,rfl⟩:Jm Tryz.prog 43) rfl rfl rfl rfl ?_
    simp(maxSteps:=999999)(disch:=omega)only[go_sem,zA,zM,zS,zE,zL]
    rw[hm,hk8]
    simp[hf]
  · have hf:=hfin false (by rw[e];rfl)
    rw[e]at hf
    simp only[cond_false,Jv]at hf
    simp(maxSteps:=999999)(disch:=omega)only[go_sem,zA,zM,zS,zE,zL,e,d12,d13,d15,d22,d32,d33,d42,d43,d45,d52,d53,d55,hm,hk8]
    first|done|rw[hf]|trace_state
  · have hf:=hfin true (by rw[e];rfl)
    rw[e]at hf
    simp only[cond_true]at hf
    simp(maxSteps:=999999)(disch:=omega)only[go_sem,zA,zM,zS,zE,zL,e,d12,d13,d15,d22,d32,d33,d42,d43,d45,d52,d53,d55,hm,hk8]
    refine Q7 Zr (by kernel_rfl) ?_
    simp(maxSteps:=999999)(disch:=omega)only[go_sem,Nat.reduceBEq,Bool.true_or,zA,zM,zS,zE,zL]
    refine QI.rd (hnum) (⟨_,Tryz.func43,rfl,rfl⟩:Jm Tryz.prog 43) rfl rfl rfl rfl ?_
    simp(maxSteps:=999999)(disch:=omega)only[go_sem,zA,zM,zS,zE,zL]
    rw[hm,hk8]
    simp[hf]
end Go.Lg

namespace Go.Lg
open Go.Proofs
def ZE(rs:List Q2):List UInt8:=rs.flatMap fun r=>32::Ze r
def Qy(p:Zk):List UInt8:=if JE p=true then Qk p.given p.size++ZE p.rules else[]
theorem Y8(r:Q2):(Ze r).length≤400:=by
 unfold Ze
 split
 · rename_i h
   obtain⟨_,h1,_,h2,h3⟩:=Us h
   unfold Zl Rp
   have:=GC r.val.toNat
   split<;>simp only[Jf,Je,JL,Jl]<;>omega
 · simp
theorem KM{rs:List Q2}{k:Nat}(h:k<rs.length):ZE (rs.take (k+1))=ZE (rs.take k)++32::Ze (JM rs k):=by
 unfold ZE
 rw[JX h,List.flatMap_append]
 simp
theorem XS:∀(rs:List Q2),(ZE rs).length≤401*rs.length
 |[]=>by simp[ZE]
 |r::rs=>by
  have h1:=Y8 r
  have h2:=XS rs
  unfold ZE at h2⊢
  simp only[List.flatMap_cons,Je,Jf]
  omega
theorem Xn{p:Zk}(h:JE p=true):p.given.length≤16:=by
 simp only[JE,Bool.and_eq_true]at h
 have:=Qz h.1
 omega
theorem Fk{p:Zk}(h:JE p=true):p.rules.length≤20:=by
 simp only[JE,Bool.and_eq_true,decide_eq_true_eq]at h
 exact h.2.1
theorem Wu(xs:List Int)(n:Int)(h:xs.length≤16):(Qk xs n).length≤18:=by
 unfold Qk
 split<;>simp<;>omega
set_option maxHeartbeats 1000000 in
theorem Zx(p:Zk)(hx:BD p):Qd Tryz.prog 7 [aP p] (Um (Qy p)):=by
 have hx3:=hx.2.2
 refine Jq.cw (c:=_) Tryz.func7 rfl (n:=30) Tryz.ntmps7 (rs:=[.tmp 2]) rfl ?_
 simp only[Jf,Jl,zA,zS,Jg,Jc,Jd]
 simp(maxSteps:=999999)(disch:=omega)only[go_sem,zA,zM,zS,zE,zL]
 intro g
 first|refine Qh.rd (QO p hx) (⟨_,Tryz.func8,rfl,rfl⟩:Jm Tryz.prog 8) rfl rfl rfl rfl ?_|refine Qe.rd (QO p hx) (⟨_,Tryz.func8,rfl,rfl⟩:Jm Tryz.prog 8) rfl rfl rfl rfl ?_
 simp(maxSteps:=999999)(disch:=omega)only[go_sem,zA,zM,zS,zE,zL]
 cases hv:JE p with
 |false=>
  have e:Qy p=[]:=by unfold Qy;rw[hv];rfl
  rw[e]
  ((first|(with_reducible first|refine Jo ?_ ?_|refine Jk ?_ ?_|refine Jp ?_ ?_)|refine Jr ?_ ?_)<;>intro c0)
  · cases c0
  simp(maxSteps:=999999)(disch:=omega)only[go_sem,zA,zM,zS,zE,zL]
 |true=>
  have e:Qy p=Qk p.given p.size++ZE p.rules:=by unfold Qy;rw[hv];rfl
  rw[e]
  have hg:=Xn hv
  have hr:=Fk hv
  have hgl:=Wu p.given p.size hg
  ((first|(with_reducible first|refine Jo ?_ ?_|refine Jk ?_ ?_|refine Jp ?_ ?_)|refine Jr ?_ ?_)<;>intro c0)
  rotate_left
  · cases c0
  simp(maxSteps:=999999)(disch:=omega)only[go_sem,zA,zM,zS,zE,zL]
  first|refine Qh.rd (VX p.given p.size (by omega)) (⟨_,Tryz.func19,rfl,rfl⟩:Jm Tryz.prog 19) rfl rfl rfl rfl ?_|refine Qe.rd (VX p.given p.size (by omega)) (⟨_,Tryz.func19,rfl,rfl⟩:Jm Tryz.prog 19) rfl rfl rfl rfl ?_
  simp(maxSteps:=999999)(disch:=omega)only[go_sem,zA,zM,zS,zE,zL]
  refine Qj (fun(k:Nat) (out:List UInt8)=>p.rules.length -k) (fun k out=>k≤p.rules.length∧out=Qk p.given p.size++ZE (p.rules.take k)) (fun k out=>[.a, .k, .a, .p (Um out), .p (int k), .a, .a, .a, .a, .a, .a, .a, .a, .a, .a, .a, .a, .a, .a, .a, .a, .a, .a, .a, .a, .a, .a, .a, .a, .a]) (fun _ _=>[some ⟨g,1,cP p⟩]) 0 (Qk p.given p.size)
   ⟨Nat.zero_le _,by simp[ZE]⟩ (by simp(maxSteps:=999999)(disch:=omega)only[go_sem,zA,zM,zS,zE,zL];rfl) (Qc.refl _) ?_
  rintro k out ⟨hi,ho⟩
  have hlen:out.length≤10000:=by
   rw[ho,Je]
   have:=XS (p.rules.take k)
   rw[JA]at this
   omega
  simp(maxSteps:=999999)(disch:=omega)only[go_sem,zA,zM,zS,zE,zL]
  ((first|(with_reducible first|refine Jo ?_ ?_|refine Jk ?_ ?_|refine Jp ?_ ?_)|refine Jr ?_ ?_)<;>intro c1)
  · have hr4:=Y8 (JM p.rules k)
    simp(maxSteps:=999999)(disch:=omega)only[go_sem,zA,zM,zS,zE,zL]
    first|refine Qh.rd (Z7 (JM p.rules k) (hx3 _ (Z4 (by omega)))) (⟨_,Tryz.func20,rfl,rfl⟩:Jm Tryz.prog 20) rfl rfl rfl rfl ?_|refine Qe.rd (Z7 (JM p.rules k) (hx3 _ (Z4 (by omega)))) (⟨_,Tryz.func20,rfl,rfl⟩:Jm Tryz.prog 20) rfl rfl rfl rfl ?_
    simp(maxSteps:=999999)(disch:=omega)only[go_sem,zA,zM,zS,zE,zL]
    refine⟨k+1,_,⟨⟨by omega, ?_⟩,by omega⟩,⟨rfl,rfl⟩,Zd rfl (J8 _)⟩
    rw[KM (by omega),ho]
    simp
  have hke:k=p.rules.length:=by omega
  subst hke
  rw[List.take_length]at ho
  subst ho
  simp(maxSteps:=999999)(disch:=omega)only[go_sem,zA,zM,zS,zE,zL]
set_option maxHeartbeats 1000000 in
theorem UG(p:Zk)(hx:BD p):Qd Tryz.prog 6 [aP p] (Um (Qy p)):=by
 have hx3:=hx.2.2
 refine Jq.cw (c:=_) Tryz.func6 rfl (n:=28) Tryz.ntmps6 (rs:=[.tmp 2]) rfl ?_
 simp only[Jf,Jl,zA,zS,Jg,Jc,Jd]
 simp(maxSteps:=999999)(disch:=omega)only[go_sem,zA,zM,zS,zE,zL]
 intro g
 first|refine Qh.rd (ZV p hx) (⟨_,Tryz.func14,rfl,rfl⟩:Jm Tryz.prog 14) rfl rfl rfl rfl ?_|refine Qe.rd (ZV p hx) (⟨_,Tryz.func14,rfl,rfl⟩:Jm Tryz.prog 14) rfl rfl rfl rfl ?_
 simp(maxSteps:=999999)(disch:=omega)only[go_sem,zA,zM,zS,zE,zL]
 cases hv:JE p with
 |false=>
  have e:Qy p=[]:=by unfold Qy;rw[hv];rfl
  rw[e]
  ((first|(with_reducible first|refine Jo ?_ ?_|refine Jk ?_ ?_|refine Jp ?_ ?_)|refine Jr ?_ ?_)<;>intro c0)
  · cases c0
  simp(maxSteps:=999999)(disch:=omega)only[go_sem,zA,zM,zS,zE,zL]
 |true=>
  have e:Qy p=Qk p.given p.size++ZE p.rules:=by unfold Qy;rw[hv];rfl
  rw[e]
  have hg:=Xn hv
  have hr:=Fk hv
  have hgl:=Wu p.given p.size hg
  ((first|(with_reducible first|refine Jo ?_ ?_|refine Jk ?_ ?_|refine Jp ?_ ?_)|refine Jr ?_ ?_)<;>intro c0)
  rotate_left
  · cases c0
  simp(maxSteps:=999999)(disch:=omega)only[go_sem,zA,zM,zS,zE,zL]
  first|refine Qh.rd (Vg p.given p.size (by omega)) (⟨_,Tryz.func17,rfl,rfl⟩:Jm Tryz.prog 17) rfl rfl rfl rfl ?_|refine Qe.rd (Vg p.given p.size (by omega)) (⟨_,Tryz.func17,rfl,rfl⟩:Jm Tryz.prog 17) rfl rfl rfl rfl ?_
  simp(maxSteps:=999999)(disch:=omega)only[go_sem,zA,zM,zS,zE,zL]
  refine Qj (fun(k:Nat) (out:List UInt8)=>p.rules.length -k) (fun k out=>k≤p.rules.length∧out=Qk p.given p.size++ZE (p.rules.take k)) (fun k out=>[.a, .a, .a, .p (Um out), .a, .a, .a, .a, .a, .a, .a, .a, .a, .a, .a, .k, .k, .p (int k), .a, .a, .a, .a, .a, .a, .a, .a, .a, .a]) (fun _ _=>[some ⟨g,1,cP p⟩]) 0 (Qk p.given p.size)
   ⟨Nat.zero_le _,by simp[ZE]⟩ (by simp(maxSteps:=999999)(disch:=omega)only[go_sem,zA,zM,zS,zE,zL];rfl) (Qc.refl _) ?_
  rintro k out ⟨hi,ho⟩
  have hlen:out.length≤10000:=by
   rw[ho,Je]
   have:=XS (p.rules.take k)
   rw[JA]at this
   omega
  simp(maxSteps:=999999)(disch:=omega)only[go_sem,zA,zM,zS,zE,zL]
  ((first|(with_reducible first|refine Jo ?_ ?_|refine Jk ?_ ?_|refine Jp ?_ ?_)|refine Jr ?_ ?_)<;>intro c1)
  · have hr4:=Y8 (JM p.rules k)
    simp(maxSteps:=999999)(disch:=omega)only[go_sem,zA,zM,zS,zE,zL]
    intro g2
    first|refine Qh.rd (WD (JM p.rules k) (hx3 _ (Z4 (by omega)))) (⟨_,Tryz.func18,rfl,rfl⟩:Jm Tryz.prog 18) rfl rfl rfl rfl ?_|refine Qe.rd (WD (JM p.rules k) (hx3 _ (Z4 (by omega)))) (⟨_,Tryz.func18,rfl,rfl⟩:Jm Tryz.prog 18) rfl rfl rfl rfl ?_
    simp(maxSteps:=999999)(disch:=omega)only[go_sem,zA,zM,zS,zE,zL]
    refine⟨k+1,_,⟨⟨by omega, ?_⟩,by omega⟩,⟨rfl,rfl⟩,Zd rfl (J8 _)⟩
    rw[KM (by omega),ho]
    simp
  have hke:k=p.rules.length:=by omega
  subst hke
  rw[List.take_length]at ho
  subst ho
  simp(maxSteps:=999999)(disch:=omega)only[go_sem,zA,zM,zS,zE,zL]
end Go.Lg
