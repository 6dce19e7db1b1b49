/- GpVR, GpVS, GpWA, cut to what is needed. -/
import Derived.Test.YtiahmfdabpafoaaDoorHab3
import Derived.Test.YtiahmfdabpafoaaDoorHac3
import Derived.Test.YtiahmfdabpafoaaDoorHab4
import Derived.Test.YtiahmfdabpafoaaDoorHac1
import Derived.Test.YtiahmfdabpafoaaDoorHab2
import Derived.Lib.IndexMore
import Derived.Lib.Atoi
import Derived.Lib.Bytealg
open Nat renaming reduceAdd→zA,reduceMul→zM,reduceSub→zS,reduceEqDiff→zE,reduceLeDiff→zL
set_option linter.unusedSimpArgs false
set_option linter.unusedVariables false
set_option maxRecDepth 100000
namespace Go.Lg
open Go.Proofs
def kindC(k:Int):UInt8:=([100,115,112,108,97]:List UInt8).getD (k -1).toNat 0
def chA(c:Int):UInt8:=u8 (97+c)
def valT(r:Rul):List UInt8:=if r.kind=2∨r.kind=3∨r.kind=5 then 61::Go.Lib.decDigits r.val.toNat else[]
def ruleS(r:Rul):List UInt8:=kindC r.kind::(r.cells.map chA++valT r)
def ruleT(r:Rul):List UInt8:=if ruleValid r 4=true then ruleS r else[]
theorem rule_txt{r:Rul}(h:ruleValid r 4=true):(1≤r.kind∧r.kind≤5)∧r.cells.length≤4∧(∀k:Nat,k<r.cells.length→0≤nth r.cells k∧nth r.cells k<16)∧0≤r.val∧r.val≤256:=by
 simp only[ruleValid,decide_eq_true_eq]at h
 obtain⟨_,h2,h3⟩:=h
 refine⟨?_, ?_,fun k hk=> ?_, ?_⟩
 · unfold ruleShape at h3;omega
 · unfold ruleShape at h3;omega
 · have:=(h2 k hk).1;omega
 · unfold ruleShape at h3;omega
def decPre(m:Nat):List UInt8:=if m<10 then[]else Go.Lib.decDigits (m/10)
theorem dec_pre(m:Nat):decPre m++[u8 (48+((m%10:Nat):Int))]=Go.Lib.decDigits m:=by
 unfold decPre
 conv=>rhs;rw[Go.Lib.decDigits]
 by_cases h:m<10
 · rw[if_pos h,dif_pos h,Nat.mod_eq_of_lt h]
   unfold u8
   rw[List.nil_append,show(48+((m:Nat):Int)).toNat=48+m by omega]
 · rw[if_neg h,dif_neg h]
   unfold u8
   rw[show(48+((m%10:Nat):Int)).toNat=48+m%10 by omega]
theorem dec_len:∀(m:Nat),(Go.Lib.decDigits m).length≤m+1:=by
 intro m
 induction m using Nat.strongRecOn with
 |ind m ih=>
  rw[Go.Lib.decDigits]
  by_cases h:m<10
  · rw[dif_pos h];simp
  · rw[dif_neg h]
    have:=ih (m/10) (by omega)
    simp only[List.length_append,List.length_cons,List.length_nil]
    omega
theorem itoa_nat{v:Int}(h:0≤v):Go.Lib.itoa v=Go.Lib.decDigits v.toNat:=by
 unfold Go.Lib.itoa
 rw[if_neg (by omega)]
theorem take_map_succ{xs:List Int}{f:Int→UInt8}{i:Nat}(h:i<xs.length):(xs.take (i+1)).map f=(xs.take i).map f++[f (nth xs i)]:=by
 rw[take_succ_nth h,List.map_append]
 rfl
theorem l22Number_run(n:Nat)(hn:n≤1000):Reads Tryd.prog 49 [int n] (txt (Go.Lib.decDigits n)):=by
 have hm0:n%10<10:=Nat.mod_lt _ (by omega)
 refine RunCall.cw (c:=_) Tryd.func49 rfl (n:=23) Tryd.ntmps49 (rs:=[.tmp 2]) rfl ?_
 simp only[List.length_cons,List.length_nil,zA,zS,List.replicate,List.cons_append,List.nil_append]
 simp(maxSteps:=999999)(disch:=omega)only[go_sem,zA,zM,zS,zE,zL,tmod10]
 intro g
 refine loop_rule2 (fun(m:Nat) (out:List UInt8)=>m) (fun m out=>m≤1000∧out.length+m≤2000∧decPre m++out=Go.Lib.decDigits n) (fun m out=>[.p (int m), .a, .a, .p (txt out), .a, .a, .a, .a, .a, .a, .a, .a, .a, .a, .a, .a, .a, .a, .a, .a, .a, .a, .a]) (fun _ _=>[]) n [u8 (48+((n%10:Nat):Int))]
  ⟨hn,by simp;omega,dec_pre n⟩ (by simp(maxSteps:=999999)(disch:=omega)only[go_sem,zA,zM,zS,zE,zL];first|rfl|trace_state) (hle_nil _) ?_
 rintro m out ⟨h1,h2,h3⟩
 simp(maxSteps:=999999)(disch:=omega)only[go_sem,zA,zM,zS,zE,zL]
 ((first|(with_reducible first|refine condK_dec ?_ ?_|refine condK_ndec ?_ ?_|refine condK_nb ?_ ?_)|refine condK_b ?_ ?_)<;>intro c1)
 · have c1:9<m:=by omega
   have hm:m/10%10<10:=Nat.mod_lt _ (by omega)
   have hd:m/10<m:=Nat.div_lt_self (by omega) (by omega)
   simp(maxSteps:=999999)(disch:=omega)only[go_sem,zA,zM,zS,zE,zL,tmod10,tdiv10]
   intro g
   refine⟨m/10,u8 (48+((m/10%10:Nat):Int))::out,⟨⟨by omega,by simp only[List.length_cons];omega, ?_⟩,hd⟩,⟨rfl,rfl⟩,hle_nil _⟩
   rw[←h3]
   have e:decPre m=Go.Lib.decDigits (m/10):=by unfold decPre;rw[if_neg (by omega)]
   rw[e,←dec_pre (m/10)]
   simp
 · have c1:m<10:=by omega
   have e:decPre m=[]:=by unfold decPre;rw[if_pos c1]
   rw[e,List.nil_append]at h3
   subst h3
   simp(maxSteps:=999999)(disch:=omega)only[go_sem,zA,zM,zS,zE,zL]
set_option maxHeartbeats 1000000 in
theorem sRuleText_run(r:Rul)(hx:r.cells.length≤2^40):Reads Tryd.prog 20 [aR r] (txt (ruleT r)):=by
 refine RunCall.cw (c:=_) Tryd.func20 rfl (n:=54) Tryd.ntmps20 (rs:=[.tmp 2]) rfl ?_
 simp only[List.length_cons,List.length_nil,zA,zS,List.replicate,List.cons_append,List.nil_append]
 simp(maxSteps:=999999)(disch:=omega)only[go_sem,zA,zM,zS,zE,zL]
 intro g
 first|refine OpS.rd (sRuleValid_run r 4 hx) (⟨_,Tryd.func48,rfl,rfl⟩:Enters Tryd.prog 48) rfl rfl rfl rfl ?_|refine Loud.rd (sRuleValid_run r 4 hx) (⟨_,Tryd.func48,rfl,rfl⟩:Enters Tryd.prog 48) rfl rfl rfl rfl ?_
 simp(maxSteps:=999999)(disch:=omega)only[go_sem,zA,zM,zS,zE,zL]
 cases hv:ruleValid r 4 with
 |false=>
  have e:ruleT r=[]:=by unfold ruleT;rw[hv];rfl
  rw[e]
  ((first|(with_reducible first|refine condK_dec ?_ ?_|refine condK_ndec ?_ ?_|refine condK_nb ?_ ?_)|refine condK_b ?_ ?_)<;>intro c0)
  · cases c0
  simp(maxSteps:=999999)(disch:=omega)only[go_sem,zA,zM,zS,zE,zL]
 |true=>
  have e:ruleT r=ruleS r:=by unfold ruleT;rw[hv];rfl
  rw[e]
  obtain⟨hk,hl4,hc,hval⟩:=rule_txt hv
  ((first|(with_reducible first|refine condK_dec ?_ ?_|refine condK_ndec ?_ ?_|refine condK_nb ?_ ?_)|refine condK_b ?_ ?_)<;>intro c0)
  rotate_left
  · cases c0
  have hcut:cutT [100,115,112,108,97] (r.kind -1).toNat r.kind.toNat=some (txt [kindC r.kind]):=by
   rcases(by omega:r.kind=1∨r.kind=2∨r.kind=3∨r.kind=4∨r.kind=5)with e|e|e|e|e<;>rw[e]<;>rfl
  simp(maxSteps:=999999)(disch:=omega)only[go_sem,zA,zM,zS,zE,zL,hcut]
  refine loop_rule2 (fun(k:Nat) (out:List UInt8)=>r.cells.length -k) (fun k out=>k≤r.cells.length∧out=kindC r.kind::(r.cells.take k).map chA) (fun k out=>[.a, .k, .a, .a, .p (txt out), .p (int k), .a, .a, .a, .a, .a, .a, .a, .a, .a, .a, .a, .a, .a, .a, .a, .a, .a, .a, .a, .a, .a, .a, .a, .a, .a, .a, .a, .a, .a, .a, .a, .a, .a, .a, .a, .a, .a, .a, .a, .a, .a, .a, .a, .a, .a, .a, .a, .a]) (fun _ _=>[some ⟨g,1,cR r⟩]) 0 [kindC r.kind]
   ⟨Nat.zero_le _,rfl⟩ (by simp(maxSteps:=999999)(disch:=omega)only[go_sem,zA,zM,zS,zE,zL];rfl) (HLe.refl _) ?_
  rintro k _ ⟨hi,rfl⟩
  have hlen:(kindC r.kind::(r.cells.take k).map chA).length≤100:=by simp only[List.length_cons,List.length_map,List.length_take];omega
  simp(maxSteps:=999999)(disch:=omega)only[go_sem,zA,zM,zS,zE,zL]
  ((first|(with_reducible first|refine condK_dec ?_ ?_|refine condK_ndec ?_ ?_|refine condK_nb ?_ ?_)|refine condK_b ?_ ?_)<;>intro c1)
  · have hv:=hc k (by omega)
    simp(maxSteps:=999999)(disch:=omega)only[go_sem,zA,zM,zS,zE,zL]
    intro g1
    refine⟨k+1,_,⟨⟨by omega, ?_⟩,by omega⟩,⟨rfl,rfl⟩,hle_eq rfl (hle_nil _)⟩
    rw[take_map_succ (by omega)]
    rfl
  have hke:k=r.cells.length:=by omega
  subst hke
  rw[List.take_length]at hlen⊢
  have hfin:∀b:Bool,decide (r.kind=2∨r.kind=3∨r.kind=5)=b→ruleS r=kindC r.kind::(r.cells.map chA++bif b then 61::Go.Lib.decDigits r.val.toNat else[]):=fun b h=>by
   unfold ruleS valT
   cases b with
   |false=>rw[if_neg (of_decide_eq_false h)];rfl
   |true=>rw[if_pos (of_decide_eq_true h)];rfl
  have d12:decide ((1:Int)=2)=false:=rfl
  have d13:decide ((1:Int)=3)=false:=rfl
  have d15:decide ((1:Int)=5)=false:=rfl
  have d22:decide ((2:Int)=2)=true:=rfl
  have d32:decide ((3:Int)=2)=false:=rfl
  have d33:decide ((3:Int)=3)=true:=rfl
  have d42:decide ((4:Int)=2)=false:=rfl
  have d43:decide ((4:Int)=3)=false:=rfl
  have d45:decide ((4:Int)=5)=false:=rfl
  have d52:decide ((5:Int)=2)=false:=rfl
  have d53:decide ((5:Int)=3)=false:=rfl
  have d55:decide ((5:Int)=5)=true:=rfl
  have hdl:(Go.Lib.decDigits r.val.toNat).length≤300:=by have:=dec_len r.val.toNat;omega
  have hnum:Reads Tryd.prog 49 [int r.val] (txt (Go.Lib.decDigits r.val.toNat)):=by
   have h:=l22Number_run r.val.toNat (by omega)
   rwa [Int.toNat_of_nonneg hval.1]at h
  rcases(by omega:r.kind=1∨r.kind=2∨r.kind=3∨r.kind=4∨r.kind=5)with e|e|e|e|e
  · have hf:=hfin false (by rw[e];rfl)
    rw[e]at hf
    simp only[cond_false,List.append_nil]at hf
    simp(maxSteps:=999999)(disch:=omega)only[go_sem,zA,zM,zS,zE,zL,e,d12,d13,d15,d22,d32,d33,d42,d43,d45,d52,d53,d55]
    first|done|rw[hf]|trace_state
  · have hf:=hfin true (by rw[e];rfl)
    rw[e]at hf
    simp only[cond_true]at hf
    simp(maxSteps:=999999)(disch:=omega)only[go_sem,zA,zM,zS,zE,zL,e,d12,d13,d15,d22,d32,d33,d42,d43,d45,d52,d53,d55]
    first|refine OpS.rd (hnum) (⟨_,Tryd.func49,rfl,rfl⟩:Enters Tryd.prog 49) rfl rfl rfl rfl ?_|refine Loud.rd (hnum) (⟨_,Tryd.func49,rfl,rfl⟩:Enters Tryd.prog 49) rfl rfl rfl rfl ?_
    simp(maxSteps:=999999)(disch:=omega)only[go_sem,zA,zM,zS,zE,zL]
    simp[hf]
  · have hf:=hfin true (by rw[e];rfl)
    rw[e]at hf
    simp only[cond_true]at hf
    simp(maxSteps:=999999)(disch:=omega)only[go_sem,zA,zM,zS,zE,zL,e,d12,d13,d15,d22,d32,d33,d42,d43,d45,d52,d53,d55]
    first|refine OpS.rd (hnum) (⟨_,Tryd.func49,rfl,rfl⟩:Enters Tryd.prog 49) rfl rfl rfl rfl ?_|refine Loud.rd (hnum) (⟨_,Tryd.func49,rfl,rfl⟩:Enters Tryd.prog 49) rfl rfl rfl rfl ?_
    simp(maxSteps:=999999)(disch:=omega)only[go_sem,zA,zM,zS,zE,zL]
    simp[hf]
  · have hf:=hfin false (by rw[e];rfl)
    rw[e]at hf
    simp only[cond_false,List.append_nil]at hf
    simp(maxSteps:=999999)(disch:=omega)only[go_sem,zA,zM,zS,zE,zL,e,d12,d13,d15,d22,d32,d33,d42,d43,d45,d52,d53,d55]
    first|done|rw[hf]|trace_state
  · have hf:=hfin true (by rw[e];rfl)
    rw[e]at hf
    simp only[cond_true]at hf
    simp(maxSteps:=999999)(disch:=omega)only[go_sem,zA,zM,zS,zE,zL,e,d12,d13,d15,d22,d32,d33,d42,d43,d45,d52,d53,d55]
    first|refine OpS.rd (hnum) (⟨_,Tryd.func49,rfl,rfl⟩:Enters Tryd.prog 49) rfl rfl rfl rfl ?_|refine Loud.rd (hnum) (⟨_,Tryd.func49,rfl,rfl⟩:Enters Tryd.prog 49) rfl rfl rfl rfl ?_
    simp(maxSteps:=999999)(disch:=omega)only[go_sem,zA,zM,zS,zE,zL]
    simp[hf]
set_option maxHeartbeats 1000000 in
theorem RuleText_run(r:Rul)(hx:r.cells.length≤2^40):Reads Tryd.prog 19 [aR r] (txt (ruleT r)):=by
 refine RunCall.cw (c:=_) Tryd.func19 rfl (n:=50) Tryd.ntmps19 (rs:=[.tmp 2]) rfl ?_
 simp only[List.length_cons,List.length_nil,zA,zS,List.replicate,List.cons_append,List.nil_append]
 simp(maxSteps:=999999)(disch:=omega)only[go_sem,zA,zM,zS,zE,zL]
 intro g
 first|refine OpS.rd (RuleValid_run r 4 hx) (⟨_,Tryd.func21,rfl,rfl⟩:Enters Tryd.prog 21) rfl rfl rfl rfl ?_|refine Loud.rd (RuleValid_run r 4 hx) (⟨_,Tryd.func21,rfl,rfl⟩:Enters Tryd.prog 21) rfl rfl rfl rfl ?_
 simp(maxSteps:=999999)(disch:=omega)only[go_sem,zA,zM,zS,zE,zL]
 cases hv:ruleValid r 4 with
 |false=>
  have e:ruleT r=[]:=by unfold ruleT;rw[hv];rfl
  rw[e]
  ((first|(with_reducible first|refine condK_dec ?_ ?_|refine condK_ndec ?_ ?_|refine condK_nb ?_ ?_)|refine condK_b ?_ ?_)<;>intro c0)
  · cases c0
  simp(maxSteps:=999999)(disch:=omega)only[go_sem,zA,zM,zS,zE,zL]
 |true=>
  have e:ruleT r=ruleS r:=by unfold ruleT;rw[hv];rfl
  rw[e]
  obtain⟨hk,hl4,hc,hval⟩:=rule_txt hv
  ((first|(with_reducible first|refine condK_dec ?_ ?_|refine condK_ndec ?_ ?_|refine condK_nb ?_ ?_)|refine condK_b ?_ ?_)<;>intro c0)
  rotate_left
  · cases c0
  simp(maxSteps:=999999)(disch:=omega)only[go_sem,zA,zM,zS,zE,zL]
  intro g1
  have hch:chr [100,115,112,108,97] (r.kind -1)=((kindC r.kind).toNat:Int):=rfl
  rw[hch]
  refine loop_rule2 (fun(i g2:Nat)=>r.cells.length -i) (fun i g2=>i≤r.cells.length) (fun i g2=>[.a, .k, .a, .p (.c (.own 1 g2 0 (i+1) none)), .a, .a, .a, .a, .a, .a, .a, .a, .a, .a, .a, .k, .k, .p (int i), .a, .a, .a, .a, .a, .a, .a, .a, .a, .a, .a, .a, .a, .a, .a, .a, .a, .a, .a, .a, .a, .a, .a, .a, .a, .a, .a, .a, .a, .a, .a, .a]) (fun i g2=>[some ⟨g,1,cR r⟩,some ⟨g2,1,cl (eI .u8) (((kindC r.kind).toNat:Int)::(r.cells.take i).map fun c=>97+c)⟩]) 0 g1
   (Nat.zero_le _) (by simp(maxSteps:=999999)(disch:=omega)only[go_sem,zA,zM,zS,zE,zL];rfl) (HLe.refl _) ?_
  intro i g2 hi
  simp(maxSteps:=999999)(disch:=omega)only[go_sem,zA,zM,zS,zE,zL]
  ((first|(with_reducible first|refine condK_dec ?_ ?_|refine condK_ndec ?_ ?_|refine condK_nb ?_ ?_)|refine condK_b ?_ ?_)<;>intro c1)
  · have hv:=hc i (by omega)
    simp(maxSteps:=999999)(disch:=omega)only[go_sem,zA,zM,zS,zE,zL]
    intro g3 g4
    exact⟨i+1,g4,⟨by omega,by omega⟩,⟨⟨rfl,rfl⟩,rfl⟩,hle_eq rfl (hle_eq (by rw[take_succ_nth (by omega),List.map_append];simp) (hle_nil _))⟩
  have hke:i=r.cells.length:=by omega
  subst hke
  rw[List.take_length]
  have hfin:∀b:Bool,decide (r.kind=2∨r.kind=3∨r.kind=5)=b→ruleS r=kindC r.kind::(r.cells.map chA++bif b then 61::Go.Lib.decDigits r.val.toNat else[]):=fun b h=>by
   unfold ruleS valT
   cases b with
   |false=>rw[if_neg (of_decide_eq_false h)];rfl
   |true=>rw[if_pos (of_decide_eq_true h)];rfl
  have d12:decide ((1:Int)=2)=false:=rfl
  have d13:decide ((1:Int)=3)=false:=rfl
  have d15:decide ((1:Int)=5)=false:=rfl
  have d22:decide ((2:Int)=2)=true:=rfl
  have d32:decide ((3:Int)=2)=false:=rfl
  have d33:decide ((3:Int)=3)=true:=rfl
  have d42:decide ((4:Int)=2)=false:=rfl
  have d43:decide ((4:Int)=3)=false:=rfl
  have d45:decide ((4:Int)=5)=false:=rfl
  have d52:decide ((5:Int)=2)=false:=rfl
  have d53:decide ((5:Int)=3)=false:=rfl
  have d55:decide ((5:Int)=5)=true:=rfl
  have hm:List.map u8 (List.take r.cells.length (List.map (fun c=>97+c) r.cells))=r.cells.map chA:=by
   rw[List.take_of_length_le (by simp),List.map_map]
   rfl
  have hk8:∀k:Int,u8 ((kindC k).toNat:Int)=kindC k:=fun k=>by unfold u8;simp
  have hdl:(Go.Lib.decDigits r.val.toNat).length≤300:=by have:=dec_len r.val.toNat;omega
  have hnum:Reads Tryd.prog 47 [int r.val] (txt (Go.Lib.decDigits r.val.toNat)):=by
   rw[←itoa_nat hval.1]
   exact Itoa_run r.val (by omega) (by omega)
  rcases(by omega:r.kind=1∨r.kind=2∨r.kind=3∨r.kind=4∨r.kind=5)with e|e|e|e|e
  · have hf:=hfin false (by rw[e];rfl)
    rw[e]at hf
    simp only[cond_false,List.append_nil]at hf
    simp(maxSteps:=999999)(disch:=omega)only[go_sem,zA,zM,zS,zE,zL,e,d12,d13,d15,d22,d32,d33,d42,d43,d45,d52,d53,d55,hm,hk8]
    first|done|rw[hf]|trace_state
  · have hf:=hfin true (by rw[e];rfl)
    rw[e]at hf
    simp only[cond_true]at hf
    simp(maxSteps:=999999)(disch:=omega)only[go_sem,zA,zM,zS,zE,zL,e,d12,d13,d15,d22,d32,d33,d42,d43,d45,d52,d53,d55,hm,hk8]
    refine drawP_q foll (by kernel_rfl) ?_
    simp(maxSteps:=999999)(disch:=omega)only[go_sem,Nat.reduceBEq,Bool.true_or,zA,zM,zS,zE,zL]
    refine quietW.rd (hnum) (⟨_,Tryd.func47,rfl,rfl⟩:Enters Tryd.prog 47) rfl rfl rfl rfl ?_
    simp(maxSteps:=999999)(disch:=omega)only[go_sem,zA,zM,zS,zE,zL]
    rw[hm,hk8]
    simp[hf]
  · have hf:=hfin true (by rw[e];rfl)
    rw[e]at hf
    simp only[cond_true]at hf
    simp(maxSteps:=999999)(disch:=omega)only[go_sem,zA,zM,zS,zE,zL,e,d12,d13,d15,d22,d32,d33,d42,d43,d45,d52,d53,d55,hm,hk8]
    refine drawP_q foll (by kernel_rfl) ?_
    simp(maxSteps:=999999)(disch:=omega)only[go_sem,Nat.reduceBEq,Bool.true_or,zA,zM,zS,zE,zL]
    refine quietW.rd (hnum) (⟨_,Tryd.func47,rfl,rfl⟩:Enters Tryd.prog 47) rfl rfl rfl rfl ?_
    simp(maxSteps:=999999)(disch:=omega)only[go_sem,zA,zM,zS,zE,zL]
    rw[hm,hk8]
    simp[hf]
  · have hf:=hfin false (by rw[e];rfl)
    rw[e]at hf
    simp only[cond_false,List.append_nil]at hf
    simp(maxSteps:=999999)(disch:=omega)only[go_sem,zA,zM,zS,zE,zL,e,d12,d13,d15,d22,d32,d33,d42,d43,d45,d52,d53,d55,hm,hk8]
    first|done|rw[hf]|trace_state
  · have hf:=hfin true (by rw[e];rfl)
    rw[e]at hf
    simp only[cond_true]at hf
    simp(maxSteps:=999999)(disch:=omega)only[go_sem,zA,zM,zS,zE,zL,e,d12,d13,d15,d22,d32,d33,d42,d43,d45,d52,d53,d55,hm,hk8]
    refine drawP_q foll (by kernel_rfl) ?_
    simp(maxSteps:=999999)(disch:=omega)only[go_sem,Nat.reduceBEq,Bool.true_or,zA,zM,zS,zE,zL]
    refine quietW.rd (hnum) (⟨_,Tryd.func47,rfl,rfl⟩:Enters Tryd.prog 47) rfl rfl rfl rfl ?_
    simp(maxSteps:=999999)(disch:=omega)only[go_sem,zA,zM,zS,zE,zL]
    rw[hm,hk8]
    simp[hf]
end Go.Lg

namespace Go.Lg
open Go.Proofs
theorem ruleT_len(r:Rul):(ruleT r).length≤400:=by
 unfold ruleT
 split
 · rename_i h
   obtain⟨_,h1,_,h2,h3⟩:=rule_txt h
   unfold ruleS valT
   have:=dec_len r.val.toNat
   split<;>simp only[List.length_cons,List.length_append,List.length_map,List.length_nil]<;>omega
 · simp
end Go.Lg

namespace Go.Lg
open Go.Proofs
theorem ib_no{c:UInt8}:∀{l:List UInt8},(∀b∈l,b≠c)→Go.Lib.indexByte l c= -1
 |[],_=>rfl
 |b::l,h=>by
  have hb:(b==c)=false:=by simpa using h b (by simp)
  have ih:=ib_no (l:=l) fun x hx=>h x (by simp[hx])
  simp[Go.Lib.indexByte,hb,ih]
theorem ib_hit{c:UInt8}{r:List UInt8}:∀{l:List UInt8},(∀b∈l,b≠c)→Go.Lib.indexByte (l++c::r) c=l.length
 |[],_=>by simp[Go.Lib.indexByte]
 |b::l,h=>by
  have hb:(b==c)=false:=by simpa using h b (by simp)
  have ih:=ib_hit (l:=l) (r:=r) fun x hx=>h x (by simp[hx])
  have hn:((l.length:Int)== -1)=false:=by rw[beq_eq_false_iff_ne];omega
  simp[Go.Lib.indexByte,hb,ih,hn]
theorem cut_no{c:UInt8}{l:List UInt8}(h:∀b∈l,b≠c):Go.Lib.cut l [c]=(l,[],false):=by
 unfold Go.Lib.cut
 rw[Go.Lib.index_one,ib_no h,if_neg (by omega)]
theorem cut_hit{c:UInt8}{l r:List UInt8}(h:∀b∈l,b≠c):Go.Lib.cut (l++c::r) [c]=(l,r,true):=by
 unfold Go.Lib.cut
 rw[Go.Lib.index_one,ib_hit h,if_pos (by omega),Int.toNat_natCast,List.take_left' rfl,List.drop_append]
 simp
def dec3(m:Nat):List UInt8:=if m<10 then[UInt8.ofNat (48+m)]else if m<100 then[UInt8.ofNat (48+m/10),UInt8.ofNat (48+m%10)]else[UInt8.ofNat (48+m/100),UInt8.ofNat (48+m/10%10),UInt8.ofNat (48+m%10)]
theorem dec3_eq{m:Nat}(h:m<1000):Go.Lib.decDigits m=dec3 m:=by
 unfold dec3
 rw[Go.Lib.decDigits]
 by_cases h1:m<10
 · rw[dif_pos h1,if_pos h1]
 rw[dif_neg h1,if_neg h1,Go.Lib.decDigits]
 by_cases h2:m<100
 · rw[dif_pos (by omega),if_pos h2];rfl
 rw[dif_neg (by omega),if_neg h2,Go.Lib.decDigits,dif_pos (by omega),Nat.div_div_eq_div_mul];rfl
def stepS(st:List Int×Int)(b:UInt8):List Int×Int:=if 97≤b.toNat∧b.toNat≤112 then(st.1++[(b.toNat:Int) -97],st.2)else if 48≤b.toNat∧b.toNat≤57 then(st.1,10*st.2+((b.toNat:Int) -48))else st
def numOk(m:Nat):Bool:=decide ((dec3 m).length≤3)&&decide (Go.Lib.atoi (dec3 m)=some (m:Int))&&decide ((dec3 m).foldl stepS ([],0)=([],(m:Int)))&&(dec3 m).all fun b=>decide (48≤b.toNat∧b.toNat≤57)
theorem num_all:(List.range 257).all numOk=true:=by kernel_rfl
theorem num_ok{m:Nat}(h:m≤256):(Go.Lib.decDigits m).length≤3∧Go.Lib.atoi (Go.Lib.decDigits m)=some (m:Int)∧(Go.Lib.decDigits m).foldl stepS ([],0)=([],(m:Int))∧∀b∈Go.Lib.decDigits m,48≤b.toNat∧b.toNat≤57:=by
 have:=List.all_eq_true.1 num_all m (List.mem_range.2 (by omega))
 simp only[numOk,Bool.and_eq_true,decide_eq_true_eq,List.all_eq_true]at this
 obtain⟨⟨⟨h1,h2⟩,h3⟩,h4⟩:=this
 rw[dec3_eq (by omega)]
 exact⟨h1,h2,h3,h4⟩
theorem step_dig:∀(l:List UInt8),(∀b∈l,48≤b.toNat∧b.toNat≤57)→∀(cs:List Int) (v:Int),l.foldl stepS (cs,v)=(cs,(l.foldl stepS ([],v)).2)
 |[],_,cs,v=>rfl
 |b::l,h,cs,v=>by
  have hb:=h b (by simp)
  have e:∀cs:List Int,stepS (cs,v) b=(cs,10*v+((b.toNat:Int) -48)):=fun cs=>by
   unfold stepS
   rw[if_neg (by omega),if_pos hb]
  rw[List.foldl_cons,List.foldl_cons,e,e]
  exact step_dig l (fun x hx=>h x (by simp[hx])) cs _
theorem chA_nat{c:Int}(h:0≤c∧c<16):(chA c).toNat=97+c.toNat:=by
 unfold chA u8
 rw[UInt8.toNat_ofNat']
 omega
theorem step_cells:∀(cs:List Int),(∀c∈cs,0≤c∧c<16)→∀(ys:List Int),(cs.map chA).foldl stepS (ys,0)=(ys++cs,0)
 |[],_,ys=>by simp
 |c::cs,h,ys=>by
  have hc:=h c (by simp)
  have e:stepS (ys,0) (chA c)=(ys++[c],0):=by
   unfold stepS
   rw[chA_nat hc,if_pos (by omega)]
   have:(((97+c.toNat:Nat):Int)) -97=c:=by omega
   rw[this]
  rw[List.map_cons,List.foldl_cons,e,step_cells cs (fun x hx=>h x (by simp[hx]))]
  simp
theorem cells_mem{r:Rul}(h:ruleValid r 4=true):∀c∈r.cells,0≤c∧c<16:=fun c hc=>by
 obtain⟨_,_,h3,_⟩:=rule_txt h
 obtain⟨k,hk,rfl⟩:=List.mem_iff_getElem.1 hc
 have:=h3 k hk
 rw[nth_eq (by omega)]at this
 simpa using this
theorem kindC_nat{k:Int}(h:1≤k∧k≤5):97≤(kindC k).toNat∧(kindC k).toNat≤115∧Go.Lib.indexByte [100,115,112,108,97] (kindC k)+1=k:=by
 rcases(by omega:k=1∨k=2∨k=3∨k=4∨k=5)with rfl|rfl|rfl|rfl|rfl<;>decide
theorem body_bytes{r:Rul}(h:ruleValid r 4=true):∀b∈kindC r.kind::r.cells.map chA,97≤b.toNat∧b.toNat≤115:=fun b hb=>by
 obtain⟨h1,_⟩:=rule_txt h
 rcases List.mem_cons.1 hb with rfl|hb
 · have:=kindC_nat h1;omega
 · obtain⟨c,hc,rfl⟩:=List.mem_map.1 hb
   have:=cells_mem h c hc
   rw[chA_nat this];omega
theorem valT_bytes{r:Rul}(h:ruleValid r 4=true):∀b∈valT r,48≤b.toNat∧b.toNat≤61:=fun b hb=>by
 obtain⟨_,_,_,h2,h3⟩:=rule_txt h
 unfold valT at hb
 split at hb
 · rcases List.mem_cons.1 hb with rfl|hb
   · decide
   · have:=(num_ok (m:=r.val.toNat) (by omega)).2.2.2 b hb;omega
 · cases hb
theorem ruleS_bytes{r:Rul}(h:ruleValid r 4=true):∀b∈ruleS r,b≠32:=fun b hb he=>by
 subst he
 unfold ruleS at hb
 rw[←List.cons_append]at hb
 rcases List.mem_append.1 hb with hb|hb
 · have:=body_bytes h _ hb;revert this;decide
 · have:=valT_bytes h _ hb;revert this;decide
theorem cut_rule{r:Rul}(h:ruleValid r 4=true):Go.Lib.cut (ruleS r) [61]=(kindC r.kind::r.cells.map chA,if r.kind=2∨r.kind=3∨r.kind=5 then Go.Lib.decDigits r.val.toNat else[],decide (r.kind=2∨r.kind=3∨r.kind=5)):=by
 have hb:∀b∈kindC r.kind::r.cells.map chA,b≠61:=fun b hm he=>by
  have:=body_bytes h b hm
  subst he
  revert this;decide
 unfold ruleS valT
 rw[←List.cons_append]
 split
 · rename_i hk
   rw[cut_hit hb,decide_eq_true hk]
 · rename_i hk
   rw[List.append_nil,cut_no hb,decide_eq_false hk]
def rdR(s:List UInt8):Rul:=⟨Go.Lib.indexByte [100,115,112,108,97] ((Go.Lib.cut s [61]).1.getD 0 0)+1,(Go.Lib.cut s [61]).1.tail.map fun b=>(b.toNat:Int) -97,(Go.Lib.atoi (Go.Lib.cut s [61]).2.1).getD 0⟩
def accL(s:List UInt8):Prop:=2≤(Go.Lib.cut s [61]).1.length∧(Go.Lib.cut s [61]).1.length≤5∧(Go.Lib.cut s [61]).2.1.length≤3
instance(s:List UInt8):Decidable (accL s):=by unfold accL;infer_instance
def sdR(s:List UInt8):Rul:=⟨if s=[]then 0 else Go.Lib.indexByte [100,115,112,108,97] (s.getD 0 0)+1,(((s.take 12).drop 1).foldl stepS ([],0)).1,(((s.take 12).drop 1).foldl stepS ([],0)).2⟩
theorem val_zero{r:Rul}(h:ruleValid r 4=true)(hk:¬(r.kind=2∨r.kind=3∨r.kind=5)):r.val=0:=by
 simp only[ruleValid,decide_eq_true_eq]at h
 have:=h.2.2
 unfold ruleShape at this
 omega
theorem rule_cells{r:Rul}(h:ruleValid r 4=true):1≤r.cells.length∧r.cells.length≤4:=by
 simp only[ruleValid,decide_eq_true_eq]at h
 have:=h.2.2
 unfold ruleShape at this
 omega
theorem cells_back{cs:List Int}(h:∀c∈cs,0≤c∧c<16):(cs.map chA).map (fun b=>(b.toNat:Int) -97)=cs:=by
 rw[List.map_map]
 conv=>rhs;rw[←List.map_id cs]
 refine List.map_congr_left fun c hc=> ?_
 show(((chA c).toNat:Nat):Int) -97=c
 have:=h c hc
 rw[chA_nat this]
 omega
theorem rd_rule{r:Rul}(h:ruleValid r 4=true):accL (ruleS r)∧rdR (ruleS r)=r:=by
 obtain⟨h1,_,_,h2,h3⟩:=rule_txt h
 have hc:=rule_cells h
 have hn:=num_ok (m:=r.val.toNat) (by omega)
 unfold accL rdR
 rw[cut_rule h]
 refine⟨⟨by simp;omega,by simp;omega, ?_⟩, ?_⟩
 · show(if _ then _ else _:List UInt8).length≤3
   split
   · exact hn.1
   · simp
 · show Rul.mk (Go.Lib.indexByte _ (kindC r.kind)+1) ((r.cells.map chA).map _) _=r
   rw[(kindC_nat h1).2.2,cells_back (cells_mem h)]
   have:(Go.Lib.atoi (if r.kind=2∨r.kind=3∨r.kind=5 then Go.Lib.decDigits r.val.toNat else[])).getD 0=r.val:=by
    split
    · rw[hn.2.1]
      show((r.val.toNat:Nat):Int)=r.val
      omega
    · rename_i hk
      rw[val_zero h hk]
      rfl
   show Rul.mk r.kind r.cells ((Go.Lib.atoi (if r.kind=2∨r.kind=3∨r.kind=5 then Go.Lib.decDigits r.val.toNat else[])).getD 0)=r
   rw[this]
theorem ruleS_len{r:Rul}(h:ruleValid r 4=true):2≤(ruleS r).length∧(ruleS r).length≤9:=by
 obtain⟨h1,_,_,h2,h3⟩:=rule_txt h
 have hc:=rule_cells h
 have hn:=num_ok (m:=r.val.toNat) (by omega)
 unfold ruleS valT
 split<;>simp<;>omega
theorem sd_rule{r:Rul}(h:ruleValid r 4=true):sdR (ruleS r)=r:=by
 obtain⟨h1,_,_,h2,h3⟩:=rule_txt h
 have hl:=ruleS_len h
 have hn:=num_ok (m:=r.val.toNat) (by omega)
 have hf:((ruleS r).take 12).drop 1=r.cells.map chA++valT r:=by
  rw[List.take_of_length_le (by omega)]
  rfl
 have hv:(valT r).foldl stepS (r.cells,0)=(r.cells,r.val):=by
  unfold valT
  split
  · rw[List.foldl_cons]
    show(Go.Lib.decDigits r.val.toNat).foldl stepS (r.cells,0)=_
    rw[step_dig _ hn.2.2.2,hn.2.2.1]
    show(r.cells,((r.val.toNat:Nat):Int))=_
    rw[Int.toNat_of_nonneg h2]
  · rename_i hk
    rw[val_zero h hk]
    rfl
 unfold sdR
 rw[hf,List.foldl_append,step_cells _ (cells_mem h),List.nil_append,hv,if_neg (by intro h0;rw[h0]at hl;simp at hl)]
 show Rul.mk (Go.Lib.indexByte _ (kindC r.kind)+1) _ _=r
 rw[(kindC_nat h1).2.2]
def accR(s:List UInt8):Prop:=accL s∧ruleT (rdR s)=s
instance(s:List UInt8):Decidable (accR s):=by unfold accR;infer_instance
def zeroR:Rul:=⟨0,[],0⟩
def readR(s:List UInt8):Rul:=if accR s then rdR s else zeroR
def readRB(s:List UInt8):Bool:=decide (accR s)
theorem ruleT_ne{r:Rul}{s:List UInt8}(h:ruleT r=s)(hs:s≠[]):ruleValid r 4=true∧ruleS r=s:=by
 unfold ruleT at h
 split at h
 · rename_i hv
   exact⟨hv,h⟩
 · exact absurd h.symm hs
theorem accL_ne{s:List UInt8}(h:accL s):s≠[]:=fun h0=>by
 subst h0
 revert h
 decide
theorem acc_iff(s:List UInt8):accR s↔∃r,ruleValid r 4=true∧ruleS r=s:=by
 constructor
 · rintro⟨h1,h2⟩
   exact⟨_,ruleT_ne h2 (accL_ne h1)⟩
 · rintro⟨r,hv,rfl⟩
   obtain⟨h1,h2⟩:=rd_rule hv
   refine⟨h1, ?_⟩
   rw[h2]
   unfold ruleT
   rw[if_pos hv]
theorem read_rule{r:Rul}(h:ruleValid r 4=true):readR (ruleS r)=r∧readRB (ruleS r)=true:=by
 have:=(acc_iff (ruleS r)).2 ⟨r,h,rfl⟩
 unfold readR readRB
 rw[if_pos this,(rd_rule h).2]
 exact⟨rfl,decide_eq_true this⟩
theorem read_no{s:List UInt8}(h:¬accR s):readR s=zeroR∧readRB s=false:=by
 unfold readR readRB
 rw[if_neg h]
 exact⟨rfl,decide_eq_false h⟩
theorem sd_read(s:List UInt8):(ruleT (sdR s)=s∧s≠[])↔accR s:=by
 rw[acc_iff]
 constructor
 · rintro⟨h1,h2⟩
   exact⟨_,ruleT_ne h1 h2⟩
 · rintro⟨r,hv,rfl⟩
   rw[sd_rule hv]
   refine⟨by unfold ruleT;rw[if_pos hv],fun h0=> ?_⟩
   have:=ruleS_len hv
   rw[h0]at this
   simp at this
theorem sd_eq{s:List UInt8}(h:accR s):sdR s=readR s:=by
 obtain⟨r,hv,rfl⟩:=(acc_iff s).1 h
 rw[sd_rule hv,(read_rule hv).1]
theorem read_text{s:List UInt8}(h:readRB s=true):ruleValid (readR s) 4=true∧ruleS (readR s)=s∧ruleT (readR s)=s:=by
 obtain⟨r,hv,rfl⟩:=(acc_iff s).1 (of_decide_eq_true h)
 rw[(read_rule hv).1]
 exact⟨hv,rfl,by unfold ruleT;rw[if_pos hv]⟩
theorem read_more{s:List UInt8}:readRB (s++[32])=false:=decide_eq_false fun h=>by
 obtain⟨r,hv,he⟩:=(acc_iff _).1 h
 exact ruleS_bytes hv 32 (by rw[he];simp) rfl
end Go.Lg
