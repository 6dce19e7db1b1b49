/- GpVS, GpWA, GpCG, GpWB, cut to what is needed. -/
import Derived.Test.YtiahmfdabpafoaaDoorIac1
import Derived.Test.YtiahmfdabpafoaaDoorIab9
import Derived.Test.YtiahmfdabpafoaaDoorIab3
import Derived.Lib.IndexMore
import Derived.Lib.Atoi
import Derived.Lib.Bytealg
import Derived.Test.YtiahmfdabpafoaaDoorIab8
import Derived.Test.YtiahmfdabpafoaaDoorIac0
open Nat renaming reduceAdd→zA,reduceMul→zM,reduceSub→zS,reduceEqDiff→zE,reduceLeDiff→zL
set_option linter.unusedSimpArgs false
set_option linter.unusedVariables false
set_option maxRecDepth 100000
namespace Go.Lg
open Go.Proofs
def rulesT(rs:List Rul):List UInt8:=rs.flatMap fun r=>32::ruleT r
def puzzleT(p:Puz):List UInt8:=if puzzleValid p=true then gridText p.given p.size++rulesT p.rules else[]
theorem ruleT_len(r:Rul):(ruleT r).length≤400:=by
 unfold ruleT
 split
 · rename_i h
   obtain⟨_,h1,_,h2,h3⟩:=rule_txt h
   unfold ruleS valT
   have:=dec_len r.val.toNat
   split<;>simp only[List.length_cons,List.length_append,List.length_map,List.length_nil]<;>omega
 · simp
theorem rulesT_take{rs:List Rul}{k:Nat}(h:k<rs.length):rulesT (rs.take (k+1))=rulesT (rs.take k)++32::ruleT (nth rs k):=by
 unfold rulesT
 rw[take_succ_nth h,List.flatMap_append]
 simp
theorem rulesT_len:∀(rs:List Rul),(rulesT rs).length≤401*rs.length
 |[]=>by simp[rulesT]
 |r::rs=>by
  have h1:=ruleT_len r
  have h2:=rulesT_len rs
  unfold rulesT at h2⊢
  simp only[List.flatMap_cons,List.length_append,List.length_cons]
  omega
theorem puz_given{p:Puz}(h:puzzleValid p=true):p.given.length≤16:=by
 simp only[puzzleValid,Bool.and_eq_true]at h
 have:=gridValid_bound h.1
 omega
theorem puz_rules{p:Puz}(h:puzzleValid p=true):p.rules.length≤20:=by
 simp only[puzzleValid,Bool.and_eq_true,decide_eq_true_eq]at h
 exact h.2.1
theorem gridText_len(xs:List Int)(n:Int)(h:xs.length≤16):(gridText xs n).length≤18:=by
 unfold gridText
 split<;>simp<;>omega
set_option maxHeartbeats 1000000 in
theorem sPuzzleText_run(p:Puz)(hx:smP p):Reads Tryd.prog 27 [aP p] (txt (puzzleT p)):=by
 have hx3:=hx.2.2
 refine RunCall.cw (c:=_) Tryd.func27 rfl (n:=30) Tryd.ntmps27 (rs:=[.tmp 2]) rfl ?_
 simp only[List.length_cons,List.length_nil,zA,zS,List.replicate,List.cons_append,List.nil_append]
 simp(maxSteps:=999999)(disch:=omega)only[go_sem,zA,zM,zS,zE,zL]
 intro g
 first|refine OpS.rd (sPuzzleValid_run p hx) (⟨_,Tryd.func28,rfl,rfl⟩:Enters Tryd.prog 28) rfl rfl rfl rfl ?_|refine Loud.rd (sPuzzleValid_run p hx) (⟨_,Tryd.func28,rfl,rfl⟩:Enters Tryd.prog 28) rfl rfl rfl rfl ?_
 simp(maxSteps:=999999)(disch:=omega)only[go_sem,zA,zM,zS,zE,zL]
 cases hv:puzzleValid p with
 |false=>
  have e:puzzleT p=[]:=by unfold puzzleT;rw[hv];rfl
  rw[e]
  ((first|(with_reducible first|refine condK_dec ?_ ?_|refine condK_ndec ?_ ?_|refine condK_nb ?_ ?_)|refine condK_b ?_ ?_)<;>intro c0)
  · cases c0
  simp(maxSteps:=999999)(disch:=omega)only[go_sem,zA,zM,zS,zE,zL]
 |true=>
  have e:puzzleT p=gridText p.given p.size++rulesT p.rules:=by unfold puzzleT;rw[hv];rfl
  rw[e]
  have hg:=puz_given hv
  have hr:=puz_rules hv
  have hgl:=gridText_len p.given p.size hg
  ((first|(with_reducible first|refine condK_dec ?_ ?_|refine condK_ndec ?_ ?_|refine condK_nb ?_ ?_)|refine condK_b ?_ ?_)<;>intro c0)
  rotate_left
  · cases c0
  simp(maxSteps:=999999)(disch:=omega)only[go_sem,zA,zM,zS,zE,zL]
  first|refine OpS.rd (sGridText_run p.given p.size (by omega)) (⟨_,Tryd.func58,rfl,rfl⟩:Enters Tryd.prog 58) rfl rfl rfl rfl ?_|refine Loud.rd (sGridText_run p.given p.size (by omega)) (⟨_,Tryd.func58,rfl,rfl⟩:Enters Tryd.prog 58) rfl rfl rfl rfl ?_
  simp(maxSteps:=999999)(disch:=omega)only[go_sem,zA,zM,zS,zE,zL]
  refine loop_rule2 (fun(k:Nat) (out:List UInt8)=>p.rules.length -k) (fun k out=>k≤p.rules.length∧out=gridText p.given p.size++rulesT (p.rules.take k)) (fun k out=>[.a, .k, .a, .p (txt out), .p (int k), .a, .a, .a, .a, .a, .a, .a, .a, .a, .a, .a, .a, .a, .a, .a, .a, .a, .a, .a, .a, .a, .a, .a, .a, .a]) (fun _ _=>[some ⟨g,1,cP p⟩]) 0 (gridText p.given p.size)
   ⟨Nat.zero_le _,by simp[rulesT]⟩ (by simp(maxSteps:=999999)(disch:=omega)only[go_sem,zA,zM,zS,zE,zL];rfl) (HLe.refl _) ?_
  rintro k out ⟨hi,ho⟩
  have hlen:out.length≤10000:=by
   rw[ho,List.length_append]
   have:=rulesT_len (p.rules.take k)
   rw[List.length_take]at this
   omega
  simp(maxSteps:=999999)(disch:=omega)only[go_sem,zA,zM,zS,zE,zL]
  ((first|(with_reducible first|refine condK_dec ?_ ?_|refine condK_ndec ?_ ?_|refine condK_nb ?_ ?_)|refine condK_b ?_ ?_)<;>intro c1)
  · have hr4:=ruleT_len (nth p.rules k)
    simp(maxSteps:=999999)(disch:=omega)only[go_sem,zA,zM,zS,zE,zL]
    first|refine OpS.rd (sRuleText_run (nth p.rules k) (hx3 _ (nth_mem (by omega)))) (⟨_,Tryd.func20,rfl,rfl⟩:Enters Tryd.prog 20) rfl rfl rfl rfl ?_|refine Loud.rd (sRuleText_run (nth p.rules k) (hx3 _ (nth_mem (by omega)))) (⟨_,Tryd.func20,rfl,rfl⟩:Enters Tryd.prog 20) rfl rfl rfl rfl ?_
    simp(maxSteps:=999999)(disch:=omega)only[go_sem,zA,zM,zS,zE,zL]
    refine⟨k+1,_,⟨⟨by omega, ?_⟩,by omega⟩,⟨rfl,rfl⟩,hle_eq rfl (hle_nil _)⟩
    rw[rulesT_take (by omega),ho]
    simp
  have hke:k=p.rules.length:=by omega
  subst hke
  rw[List.take_length]at ho
  subst ho
  simp(maxSteps:=999999)(disch:=omega)only[go_sem,zA,zM,zS,zE,zL]
end Go.Lg

namespace Go.Lg
open Go.Proofs
theorem ib_no{c:UInt8}:∀{l:List UInt8},(∀b∈l,b≠c)→Go.Lib.indexByte l c= -1
 |[],_=>rfl
 |b::l,h=>by
  have hb:(b==c)=false:=by simpa using h b (by simp)
  have ih:=ib_no (l:=l) fun x hx=>h x (by simp[hx])
  simp[Go.Lib.indexByte,hb,ih]
theorem ib_hit{c:UInt8}{r:List UInt8}:∀{l:List UInt8},(∀b∈l,b≠c)→Go.Lib.indexByte (l++c::r) c=l.length
 |[],_=>by simp[Go.Lib.indexByte]
 |b::l,h=>by
  have hb:(b==c)=false:=by simpa using h b (by simp)
  have ih:=ib_hit (l:=l) (r:=r) fun x hx=>h x (by simp[hx])
  have hn:((l.length:Int)== -1)=false:=by rw[beq_eq_false_iff_ne];omega
  simp[Go.Lib.indexByte,hb,ih,hn]
theorem cut_no{c:UInt8}{l:List UInt8}(h:∀b∈l,b≠c):Go.Lib.cut l [c]=(l,[],false):=by
 unfold Go.Lib.cut
 rw[Go.Lib.index_one,ib_no h,if_neg (by omega)]
theorem cut_hit{c:UInt8}{l r:List UInt8}(h:∀b∈l,b≠c):Go.Lib.cut (l++c::r) [c]=(l,r,true):=by
 unfold Go.Lib.cut
 rw[Go.Lib.index_one,ib_hit h,if_pos (by omega),Int.toNat_natCast,List.take_left' rfl,List.drop_append]
 simp
def dec3(m:Nat):List UInt8:=if m<10 then[UInt8.ofNat (48+m)]else if m<100 then[UInt8.ofNat (48+m/10),UInt8.ofNat (48+m%10)]else[UInt8.ofNat (48+m/100),UInt8.ofNat (48+m/10%10),UInt8.ofNat (48+m%10)]
theorem dec3_eq{m:Nat}(h:m<1000):Go.Lib.decDigits m=dec3 m:=by
 unfold dec3
 rw[Go.Lib.decDigits]
 by_cases h1:m<10
 · rw[dif_pos h1,if_pos h1]
 rw[dif_neg h1,if_neg h1,Go.Lib.decDigits]
 by_cases h2:m<100
 · rw[dif_pos (by omega),if_pos h2];rfl
 rw[dif_neg (by omega),if_neg h2,Go.Lib.decDigits,dif_pos (by omega),Nat.div_div_eq_div_mul];rfl
def stepS(st:List Int×Int)(b:UInt8):List Int×Int:=if 97≤b.toNat∧b.toNat≤112 then(st.1++[(b.toNat:Int) -97],st.2)else if 48≤b.toNat∧b.toNat≤57 then(st.1,10*st.2+((b.toNat:Int) -48))else st
def numOk(m:Nat):Bool:=decide ((dec3 m).length≤3)&&decide (Go.Lib.atoi (dec3 m)=some (m:Int))&&decide ((dec3 m).foldl stepS ([],0)=([],(m:Int)))&&(dec3 m).all fun b=>decide (48≤b.toNat∧b.toNat≤57)
theorem num_all:(List.range 257).all numOk=true:=by kernel_rfl
theorem num_ok{m:Nat}(h:m≤256):(Go.Lib.decDigits m).length≤3∧Go.Lib.atoi (Go.Lib.decDigits m)=some (m:Int)∧(Go.Lib.decDigits m).foldl stepS ([],0)=([],(m:Int))∧∀b∈Go.Lib.decDigits m,48≤b.toNat∧b.toNat≤57:=by
 have:=List.all_eq_true.1 num_all m (List.mem_range.2 (by omega))
 simp only[numOk,Bool.and_eq_true,decide_eq_true_eq,List.all_eq_true]at this
 obtain⟨⟨⟨h1,h2⟩,h3⟩,h4⟩:=this
 rw[dec3_eq (by omega)]
 exact⟨h1,h2,h3,h4⟩
theorem step_dig:∀(l:List UInt8),(∀b∈l,48≤b.toNat∧b.toNat≤57)→∀(cs:List Int) (v:Int),l.foldl stepS (cs,v)=(cs,(l.foldl stepS ([],v)).2)
 |[],_,cs,v=>rfl
 |b::l,h,cs,v=>by
  have hb:=h b (by simp)
  have e:∀cs:List Int,stepS (cs,v) b=(cs,10*v+((b.toNat:Int) -48)):=fun cs=>by
   unfold stepS
   rw[if_neg (by omega),if_pos hb]
  rw[List.foldl_cons,List.foldl_cons,e,e]
  exact step_dig l (fun x hx=>h x (by simp[hx])) cs _
theorem chA_nat{c:Int}(h:0≤c∧c<16):(chA c).toNat=97+c.toNat:=by
 unfold chA u8
 rw[UInt8.toNat_ofNat']
 omega
theorem step_cells:∀(cs:List Int),(∀c∈cs,0≤c∧c<16)→∀(ys:List Int),(cs.map chA).foldl stepS (ys,0)=(ys++cs,0)
 |[],_,ys=>by simp
 |c::cs,h,ys=>by
  have hc:=h c (by simp)
  have e:stepS (ys,0) (chA c)=(ys++[c],0):=by
   unfold stepS
   rw[chA_nat hc,if_pos (by omega)]
   have:(((97+c.toNat:Nat):Int)) -97=c:=by omega
   rw[this]
  rw[List.map_cons,List.foldl_cons,e,step_cells cs (fun x hx=>h x (by simp[hx]))]
  simp
theorem cells_mem{r:Rul}(h:ruleValid r 4=true):∀c∈r.cells,0≤c∧c<16:=fun c hc=>by
 obtain⟨_,_,h3,_⟩:=rule_txt h
 obtain⟨k,hk,rfl⟩:=List.mem_iff_getElem.1 hc
 have:=h3 k hk
 rw[nth_eq (by omega)]at this
 simpa using this
theorem kindC_nat{k:Int}(h:1≤k∧k≤5):97≤(kindC k).toNat∧(kindC k).toNat≤115∧Go.Lib.indexByte [100,115,112,108,97] (kindC k)+1=k:=by
 rcases(by omega:k=1∨k=2∨k=3∨k=4∨k=5)with rfl|rfl|rfl|rfl|rfl<;>decide
theorem body_bytes{r:Rul}(h:ruleValid r 4=true):∀b∈kindC r.kind::r.cells.map chA,97≤b.toNat∧b.toNat≤115:=fun b hb=>by
 obtain⟨h1,_⟩:=rule_txt h
 rcases List.mem_cons.1 hb with rfl|hb
 · have:=kindC_nat h1;omega
 · obtain⟨c,hc,rfl⟩:=List.mem_map.1 hb
   have:=cells_mem h c hc
   rw[chA_nat this];omega
theorem cut_rule{r:Rul}(h:ruleValid r 4=true):Go.Lib.cut (ruleS r) [61]=(kindC r.kind::r.cells.map chA,if r.kind=2∨r.kind=3∨r.kind=5 then Go.Lib.decDigits r.val.toNat else[],decide (r.kind=2∨r.kind=3∨r.kind=5)):=by
 have hb:∀b∈kindC r.kind::r.cells.map chA,b≠61:=fun b hm he=>by
  have:=body_bytes h b hm
  subst he
  revert this;decide
 unfold ruleS valT
 rw[←List.cons_append]
 split
 · rename_i hk
   rw[cut_hit hb,decide_eq_true hk]
 · rename_i hk
   rw[List.append_nil,cut_no hb,decide_eq_false hk]
def rdR(s:List UInt8):Rul:=⟨Go.Lib.indexByte [100,115,112,108,97] ((Go.Lib.cut s [61]).1.getD 0 0)+1,(Go.Lib.cut s [61]).1.tail.map fun b=>(b.toNat:Int) -97,(Go.Lib.atoi (Go.Lib.cut s [61]).2.1).getD 0⟩
def accL(s:List UInt8):Prop:=2≤(Go.Lib.cut s [61]).1.length∧(Go.Lib.cut s [61]).1.length≤5∧(Go.Lib.cut s [61]).2.1.length≤3
instance(s:List UInt8):Decidable (accL s):=by unfold accL;infer_instance
def sdR(s:List UInt8):Rul:=⟨if s=[]then 0 else Go.Lib.indexByte [100,115,112,108,97] (s.getD 0 0)+1,(((s.take 12).drop 1).foldl stepS ([],0)).1,(((s.take 12).drop 1).foldl stepS ([],0)).2⟩
theorem val_zero{r:Rul}(h:ruleValid r 4=true)(hk:¬(r.kind=2∨r.kind=3∨r.kind=5)):r.val=0:=by
 simp only[ruleValid,decide_eq_true_eq]at h
 have:=h.2.2
 unfold ruleShape at this
 omega
theorem rule_cells{r:Rul}(h:ruleValid r 4=true):1≤r.cells.length∧r.cells.length≤4:=by
 simp only[ruleValid,decide_eq_true_eq]at h
 have:=h.2.2
 unfold ruleShape at this
 omega
theorem cells_back{cs:List Int}(h:∀c∈cs,0≤c∧c<16):(cs.map chA).map (fun b=>(b.toNat:Int) -97)=cs:=by
 rw[List.map_map]
 conv=>rhs;rw[←List.map_id cs]
 refine List.map_congr_left fun c hc=> ?_
 show(((chA c).toNat:Nat):Int) -97=c
 have:=h c hc
 rw[chA_nat this]
 omega
theorem rd_rule{r:Rul}(h:ruleValid r 4=true):accL (ruleS r)∧rdR (ruleS r)=r:=by
 obtain⟨h1,_,_,h2,h3⟩:=rule_txt h
 have hc:=rule_cells h
 have hn:=num_ok (m:=r.val.toNat) (by omega)
 unfold accL rdR
 rw[cut_rule h]
 refine⟨⟨by simp;omega,by simp;omega, ?_⟩, ?_⟩
 · show(if _ then _ else _:List UInt8).length≤3
   split
   · exact hn.1
   · simp
 · show Rul.mk (Go.Lib.indexByte _ (kindC r.kind)+1) ((r.cells.map chA).map _) _=r
   rw[(kindC_nat h1).2.2,cells_back (cells_mem h)]
   have:(Go.Lib.atoi (if r.kind=2∨r.kind=3∨r.kind=5 then Go.Lib.decDigits r.val.toNat else[])).getD 0=r.val:=by
    split
    · rw[hn.2.1]
      show((r.val.toNat:Nat):Int)=r.val
      omega
    · rename_i hk
      rw[val_zero h hk]
      rfl
   show Rul.mk r.kind r.cells ((Go.Lib.atoi (if r.kind=2∨r.kind=3∨r.kind=5 then Go.Lib.decDigits r.val.toNat else[])).getD 0)=r
   rw[this]
theorem ruleS_len{r:Rul}(h:ruleValid r 4=true):2≤(ruleS r).length∧(ruleS r).length≤9:=by
 obtain⟨h1,_,_,h2,h3⟩:=rule_txt h
 have hc:=rule_cells h
 have hn:=num_ok (m:=r.val.toNat) (by omega)
 unfold ruleS valT
 split<;>simp<;>omega
theorem sd_rule{r:Rul}(h:ruleValid r 4=true):sdR (ruleS r)=r:=by
 obtain⟨h1,_,_,h2,h3⟩:=rule_txt h
 have hl:=ruleS_len h
 have hn:=num_ok (m:=r.val.toNat) (by omega)
 have hf:((ruleS r).take 12).drop 1=r.cells.map chA++valT r:=by
  rw[List.take_of_length_le (by omega)]
  rfl
 have hv:(valT r).foldl stepS (r.cells,0)=(r.cells,r.val):=by
  unfold valT
  split
  · rw[List.foldl_cons]
    show(Go.Lib.decDigits r.val.toNat).foldl stepS (r.cells,0)=_
    rw[step_dig _ hn.2.2.2,hn.2.2.1]
    show(r.cells,((r.val.toNat:Nat):Int))=_
    rw[Int.toNat_of_nonneg h2]
  · rename_i hk
    rw[val_zero h hk]
    rfl
 unfold sdR
 rw[hf,List.foldl_append,step_cells _ (cells_mem h),List.nil_append,hv,if_neg (by intro h0;rw[h0]at hl;simp at hl)]
 show Rul.mk (Go.Lib.indexByte _ (kindC r.kind)+1) _ _=r
 rw[(kindC_nat h1).2.2]
def accR(s:List UInt8):Prop:=accL s∧ruleT (rdR s)=s
instance(s:List UInt8):Decidable (accR s):=by unfold accR;infer_instance
def zeroR:Rul:=⟨0,[],0⟩
def readR(s:List UInt8):Rul:=if accR s then rdR s else zeroR
def readRB(s:List UInt8):Bool:=decide (accR s)
theorem ruleT_ne{r:Rul}{s:List UInt8}(h:ruleT r=s)(hs:s≠[]):ruleValid r 4=true∧ruleS r=s:=by
 unfold ruleT at h
 split at h
 · rename_i hv
   exact⟨hv,h⟩
 · exact absurd h.symm hs
theorem accL_ne{s:List UInt8}(h:accL s):s≠[]:=fun h0=>by
 subst h0
 revert h
 decide
theorem acc_iff(s:List UInt8):accR s↔∃r,ruleValid r 4=true∧ruleS r=s:=by
 constructor
 · rintro⟨h1,h2⟩
   exact⟨_,ruleT_ne h2 (accL_ne h1)⟩
 · rintro⟨r,hv,rfl⟩
   obtain⟨h1,h2⟩:=rd_rule hv
   refine⟨h1, ?_⟩
   rw[h2]
   unfold ruleT
   rw[if_pos hv]
theorem read_rule{r:Rul}(h:ruleValid r 4=true):readR (ruleS r)=r∧readRB (ruleS r)=true:=by
 have:=(acc_iff (ruleS r)).2 ⟨r,h,rfl⟩
 unfold readR readRB
 rw[if_pos this,(rd_rule h).2]
 exact⟨rfl,decide_eq_true this⟩
theorem read_no{s:List UInt8}(h:¬accR s):readR s=zeroR∧readRB s=false:=by
 unfold readR readRB
 rw[if_neg h]
 exact⟨rfl,decide_eq_false h⟩
theorem sd_read(s:List UInt8):(ruleT (sdR s)=s∧s≠[])↔accR s:=by
 rw[acc_iff]
 constructor
 · rintro⟨h1,h2⟩
   exact⟨_,ruleT_ne h1 h2⟩
 · rintro⟨r,hv,rfl⟩
   rw[sd_rule hv]
   refine⟨by unfold ruleT;rw[if_pos hv],fun h0=> ?_⟩
   have:=ruleS_len hv
   rw[h0]at this
   simp at this
theorem sd_eq{s:List UInt8}(h:accR s):sdR s=readR s:=by
 obtain⟨r,hv,rfl⟩:=(acc_iff s).1 h
 rw[sd_rule hv,(read_rule hv).1]
theorem read_text{s:List UInt8}(h:readRB s=true):ruleValid (readR s) 4=true∧ruleS (readR s)=s∧ruleT (readR s)=s:=by
 obtain⟨r,hv,rfl⟩:=(acc_iff s).1 (of_decide_eq_true h)
 rw[(read_rule hv).1]
 exact⟨hv,rfl,by unfold ruleT;rw[if_pos hv]⟩
end Go.Lg

namespace Go.Lg
open Go.Proofs
attribute [-go_sem] lwF_cons
theorem rd_yes{t:List UInt8}(h:(rdGrid t).2.2=true):2≤t.length∧rdGrid t=(cellsIn t,chr t 0 -48,true)∧gridText (cellsIn t) (chr t 0 -48)=t:=by
 unfold rdGrid at h⊢
 split
 · rename_i h2
   exact⟨h2.1,rfl,h2.2⟩
 · rename_i h2
   rw[if_neg h2]at h
   cases h
end Go.Lg

namespace Go.Lg
open Go.Proofs
def splitL:List UInt8→List (List UInt8)
 |[]=>[[]]
 |b::l=>if b=32 then[]::splitL l else match splitL l with
  |w::ws=>(b::w)::ws
  |[]=>[[b]]
def joinL:List (List UInt8)→List UInt8
 |[]=>[]
 |w::ws=>w++ws.flatMap (32::·)
theorem split_ne:∀(s:List UInt8),splitL s≠[]
 |[]=>by simp[splitL]
 |b::l=>by
  unfold splitL
  split
  · simp
  · split<;>simp
theorem split_cons{b:UInt8}{l w:List UInt8}{ws:List (List UInt8)}(hb:b≠32)(h:splitL l=w::ws):splitL (b::l)=(b::w)::ws:=by
 rw[splitL,if_neg hb,h]
theorem split_sp(l:List UInt8):splitL (32::l)=[]::splitL l:=by rw[splitL,if_pos rfl]
theorem join_split:∀(s:List UInt8),joinL (splitL s)=s
 |[]=>rfl
 |b::l=>by
  have ih:=join_split l
  obtain⟨w,ws,h⟩:∃w ws,splitL l=w::ws:=by
   cases h:splitL l with
   |nil=>exact absurd h (split_ne l)
   |cons w ws=>exact⟨w,ws,rfl⟩
  rw[h]at ih
  by_cases hb:b=32
  · subst hb
    rw[split_sp,h]
    simp only[joinL,List.flatMap_cons,List.nil_append,List.cons_append]at ih⊢
    rw[ih]
  · rw[split_cons hb h]
    simp only[joinL,List.cons_append]at ih⊢
    rw[ih]
theorem split_word:∀{w:List UInt8},(∀b∈w,b≠32)→splitL w=[w]
 |[],_=>rfl
 |b::l,h=>split_cons (h b (by simp)) (split_word fun x hx=>h x (by simp[hx]))
theorem split_app{s:List UInt8}:∀{w:List UInt8},(∀b∈w,b≠32)→splitL (w++32::s)=w::splitL s
 |[],_=>split_sp s
 |b::l,h=>split_cons (h b (by simp)) (split_app fun x hx=>h x (by simp[hx]))
theorem flatMap_congr'{α β:Type}{f g:α→List β}:∀{l:List α},(∀x∈l,f x=g x)→l.flatMap f=l.flatMap g
 |[],_=>rfl
 |x::l,h=>by
  rw[List.flatMap_cons,List.flatMap_cons,h x (by simp),flatMap_congr' fun y hy=>h y (by simp[hy])]
def zeroP0:Puz:=⟨0,[],[]⟩
def wHd(s:List UInt8):List UInt8:=(splitL s).headD []
def wTl(s:List UInt8):List (List UInt8):=(splitL s).tail
theorem w_eq(s:List UInt8):splitL s=wHd s::wTl s:=by
 unfold wHd wTl
 cases h:splitL s with
 |nil=>exact absurd h (split_ne s)
 |cons w ws=>rfl
def rdP(s:List UInt8):Puz:=⟨(rdGrid (wHd s)).2.1,(rdGrid (wHd s)).1,(wTl s).map readR⟩
def accP(s:List UInt8):Prop:=(rdGrid (wHd s)).2.2=true∧(wTl s).length≤20∧((wTl s).all readRB=true)∧puzzleValid (rdP s)=true
instance(s:List UInt8):Decidable (accP s):=by unfold accP;infer_instance
def readP(s:List UInt8):Puz:=if accP s then rdP s else zeroP0
def readPB(s:List UInt8):Bool:=decide (accP s)
theorem valid_four{r:Rul}{n:Int}(hn:2≤n∧n≤4)(h:ruleValid r n=true):ruleValid r 4=true:=by
 simp only[ruleValid,decide_eq_true_eq]at h⊢
 obtain⟨_,h2,h3⟩:=h
 have h4:=sq_bound hn
 have h5:=cu_bound hn
 refine⟨by omega,fun j hj=>⟨?_,(h2 j hj).2⟩, ?_⟩
 · have:=(h2 j hj).1
   omega
 · unfold ruleShape at h3⊢
   omega
theorem puz_parts{p:Puz}(h:puzzleValid p=true):gridValid p.given p.size=true∧p.rules.length≤20∧∀r∈p.rules,ruleValid r 4=true:=by
 simp only[puzzleValid,Bool.and_eq_true,decide_eq_true_eq,List.all_eq_true]at h
 have hb:=gridValid_bound h.1
 exact⟨h.1,h.2.1,fun r hr=>valid_four ⟨hb.1,hb.2.1⟩ (h.2.2 r hr)⟩
theorem acc_text{s:List UInt8}(h:accP s):puzzleT (rdP s)=s:=by
 obtain⟨h1,h2,h3,h4⟩:=h
 obtain⟨k1,k2,k3⟩:=rd_yes h1
 have hj:=join_split s
 rw[w_eq s]at hj
 unfold puzzleT
 rw[if_pos h4]
 have e1:gridText (rdP s).given (rdP s).size=wHd s:=by
  unfold rdP
  rw[k2]
  exact k3
 have e2:rulesT (rdP s).rules=(wTl s).flatMap (32::·):=by
  show rulesT ((wTl s).map readR)=_
  unfold rulesT
  rw[List.flatMap_map]
  refine flatMap_congr' fun w hw=> ?_
  have:=(read_text (List.all_eq_true.1 h3 w hw)).2.2
  show 32::ruleT (readR w)=32::w
  rw[this]
 rw[e1,e2]
 exact hj
theorem readP_no{s:List UInt8}(h:¬accP s):readP s=zeroP0∧readPB s=false:=by
 unfold readP readPB
 rw[if_neg h]
 exact⟨rfl,decide_eq_false h⟩
theorem readP_yes{s:List UInt8}(h:readPB s=true):puzzleValid (readP s)=true∧puzzleT (readP s)=s:=by
 have h:=of_decide_eq_true h
 unfold readP
 rw[if_pos h]
 exact⟨h.2.2.2,acc_text h⟩
def splitK(s:List UInt8)(k:Nat):Prop:=k≤s.length∧(k<s.length→22<(splitL (s.take k)).length)
theorem split_snoc:∀(l:List UInt8) (b:UInt8),splitL (l++[b])=if b=32 then splitL l++[[]]else(splitL l).dropLast++[(splitL l).getLastD []++[b]]
 |[],b=>by
  by_cases h:b=32
  · subst h;rfl
  · simp[splitL,h]
 |c::l,b=>by
  have ih:=split_snoc l b
  obtain⟨w,ws,hw⟩:∃w ws,splitL l=w::ws:=⟨_,_,w_eq l⟩
  rw[List.cons_append]
  by_cases hc:c=32
  · subst hc
    rw[split_sp,split_sp,ih,hw]
    split<;>simp
  · by_cases hb:b=32
    · rw[if_pos hb]at ih⊢
      rw[hw,List.cons_append]at ih
      rw[split_cons hc ih,split_cons hc hw]
      rfl
    · rw[if_neg hb]at ih⊢
      cases ws with
      |nil=>
       rw[hw]at ih
       simp at ih
       rw[split_cons hc ih,split_cons hc hw]
       simp
      |cons v vs=>
       rw[hw]at ih
       simp at ih
       rw[split_cons hc ih,split_cons hc hw]
       simp
theorem ref_read{s:List UInt8}{k:Nat}(hk:splitK s k)(h1:(rdGrid (wHd (s.take k))).2.2=true)(h2:(wTl (s.take k)).all readRB=true)(h3:puzzleT (rdP (s.take k))=s):accP s∧rdP (s.take k)=readP s:=by
 obtain⟨k1,k2,k3⟩:=rd_yes h1
 have hl:2≤s.length:=by
  have hj:=congrArg List.length (join_split (s.take k))
  rw[w_eq (s.take k)]at hj
  simp only[joinL,List.length_append,List.length_take]at hj
  omega
 have hv:puzzleValid (rdP (s.take k))=true:=by
  cases hv:puzzleValid (rdP (s.take k))with
  |true=>rfl
  |false=>
   unfold puzzleT at h3
   rw[if_neg (by rw[hv];simp)]at h3
   rw[←h3]at hl
   simp at hl
 have h20:=(puz_parts hv).2.1
 have hks:s.take k=s:=by
  by_cases hlt:k<s.length
  · have:=hk.2 hlt
    rw[w_eq,List.length_cons]at this
    have e:(rdP (s.take k)).rules.length=(wTl (s.take k)).length:=by simp[rdP]
    omega
  · exact List.take_of_length_le (by omega)
 rw[hks]at h1 h2 h3 hv h20⊢
 have e:(rdP s).rules.length=(wTl s).length:=by simp[rdP]
 have ha:accP s:=⟨h1,by omega,h2,hv⟩
 refine⟨ha, ?_⟩
 unfold readP
 rw[if_pos ha]
theorem ref_read'{s:List UInt8}{k:Nat}(hk:splitK s k)(ha:accP s):s.take k=s:=by
 by_cases hlt:k<s.length
 · exfalso
   have h1:=hk.2 hlt
   have h2:=ha.2.1
   have hm:∀(l m:List UInt8),(splitL l).length≤(splitL (l++m)).length:=by
    intro l m
    induction m generalizing l with
    |nil=>simp
    |cons b m ih=>
     have h3:=ih (l++[b])
     rw[List.append_assoc,List.singleton_append]at h3
     refine Nat.le_trans ?_ h3
     rw[split_snoc]
     split
     · simp
     · have:=List.length_pos_iff.2 (split_ne l)
       simp;omega
   have h3:=hm (s.take k) (s.drop k)
   rw[List.take_append_drop]at h3
   rw[w_eq s,List.length_cons]at h3
   omega
 · exact List.take_of_length_le (by omega)
end Go.Lg
