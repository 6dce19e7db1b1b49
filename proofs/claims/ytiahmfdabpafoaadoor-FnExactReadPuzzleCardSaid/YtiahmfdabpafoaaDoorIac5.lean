/- GpWD, cut to what is needed. -/
import Derived.Test.YtiahmfdabpafoaaDoorIac3
import Derived.Test.YtiahmfdabpafoaaDoorIac4
open Nat renaming reduceAdd→zA,reduceMul→zM,reduceSub→zS,reduceEqDiff→zE,reduceLeDiff→zL
set_option linter.unusedSimpArgs false
set_option linter.unusedVariables false
set_option maxRecDepth 100000
namespace Go.Lg
open Go.Proofs
def lettersL:List UInt8:=[100,115,112,108,97]
def idxL(c:UInt8):Int:=Go.Lib.indexByte lettersL c
theorem idx_five(c:UInt8): -1≤idxL c∧idxL c<5:=ib_bound c lettersL
def kindK(c:UInt8)(j:Nat):Int:=if 0≤idxL c∧idxL c<j then idxL c+1 else 0
theorem kind_step(c:UInt8)(j:Nat)(hj:j<5):kindK c (j+1)=if chr lettersL j=(c.toNat:Int)then(j:Int)+1 else kindK c j:=by
 have key:∀n,n<256→∀j,j<5→kindK (UInt8.ofNat n) (j+1)=if chr lettersL (j:Nat)=((UInt8.ofNat n).toNat:Int)then(j:Int)+1 else kindK (UInt8.ofNat n) j:=by
  intro n hn j hj
  have h:((List.range 256).all fun n=>(List.range 5).all fun j=>decide (kindK (UInt8.ofNat n) (j+1)=if chr lettersL (j:Nat)=((UInt8.ofNat n).toNat:Int)then(j:Int)+1 else kindK (UInt8.ofNat n) j))=true:=by kernel_rfl
  exact of_decide_eq_true (List.all_eq_true.1 (List.all_eq_true.1 h n (List.mem_range.2 hn)) j (List.mem_range.2 hj))
 have e:UInt8.ofNat c.toNat=c:=by simp
 have:=key c.toNat c.toNat_lt j hj
 rwa [e]at this
theorem kind_end(c:UInt8):kindK c 5=idxL c+1:=by
 have:=idx_five c
 unfold kindK
 split<;>omega
theorem kind_bound(c:UInt8)(j:Nat):0≤kindK c j∧kindK c j≤5:=by
 have:=idx_five c
 unfold kindK
 split<;>omega
def stR(s:List UInt8)(k:Nat):List Int×Int:=((s.take k).drop 1).foldl stepS ([],0)
theorem stR_succ{s:List UInt8}{k:Nat}(h1:1≤k)(hk:k<s.length):stR s (k+1)=stepS (stR s k) (s.getD k 0):=by
 unfold stR
 rw[List.take_add_one,List.getElem?_eq_getElem hk,List.drop_append_of_le_length (by rw[List.length_take];omega),List.foldl_append,List.getD_eq_getElem?_getD,List.getElem?_eq_getElem hk]
 rfl
theorem stR_one(s:List UInt8):stR s 1=([],0):=by
 unfold stR
 cases s<;>simp
theorem stR_zero(s:List UInt8):stR s 0=([],0):=by simp[stR]
theorem step_bound{st:List Int×Int}{b:UInt8}{B:Int}(h:0≤st.2∧st.2≤B):0≤(stepS st b).2∧(stepS st b).2≤10*B+9∧(stepS st b).1.length≤st.1.length+1:=by
 unfold stepS
 split
 · simp;omega
 · split
   · simp;omega
   · simp;omega
theorem stR_bound(s:List UInt8):∀k:Nat,k≤12→k≤s.length→0≤(stR s k).2∧(stR s k).2≤10^k -1∧(stR s k).1.length≤k
 |0,_,_=>by rw[stR_zero];simp
 |1,_,_=>by rw[stR_one];simp
 |k+2,h1,h2=>by
  obtain⟨i1,i2,i3⟩:=stR_bound s (k+1) (by omega) (by omega)
  rw[stR_succ (by omega) (by omega)]
  have:=step_bound (b:=s.getD (k+1) 0) (B:=10^(k+1) -1) ⟨i1,i2⟩
  have hp:(10:Int)^(k+2)=10*10^(k+1):=by rw[Int.pow_succ,Int.mul_comm]
  omega
theorem pow_le{k:Nat}(h:k≤12):(10:Int)^k≤1000000000000:=by
 have h13:∀k:Nat,k<13→(10:Int)^k≤1000000000000:=by decide
 exact h13 k (by omega)
def rdH2(K v:Int)(g0 g1:Nat)(L:List Int)(g:Nat):Heap:=match L with
 |[]=>[some ⟨g0,3,[.f (.int .i64 0), .f .nil, .f (.int .i64 0)]⟩,some ⟨g1,3,[.f (.int .i64 K), .f .nil, .f (.int .i64 v)]⟩]
 |x::l=>[some ⟨g0,3,[.f (.int .i64 0), .f .nil, .f (.int .i64 0)]⟩,some ⟨g1,3,[.f (.int .i64 K), .own 3 g 0 (x::l).length none, .f (.int .i64 v)]⟩,none,some ⟨g,1,cl (eI .i64) (x::l)⟩]
theorem st_cell{L:List Int}{v:Int}{b:UInt8}(h:97≤(b.toNat:Int)∧(b.toNat:Int)≤112):stepS (L,v) b=(L++[(b.toNat:Int) -97],v):=by
 unfold stepS;rw[if_pos (by omega)]
theorem st_dig{L:List Int}{v:Int}{b:UInt8}(h:48≤(b.toNat:Int)∧(b.toNat:Int)≤57):stepS (L,v) b=(L,10*v+((b.toNat:Int) -48)):=by
 unfold stepS;rw[if_neg (by omega),if_pos (by omega)]
theorem st_no{L:List Int}{v:Int}{b:UInt8}(h:¬(97≤(b.toNat:Int)∧(b.toNat:Int)≤112))(h':¬(48≤(b.toNat:Int)∧(b.toNat:Int)≤57)):stepS (L,v) b=(L,v):=by
 unfold stepS;rw[if_neg (by omega),if_neg (by omega)]
def kindS(s:List UInt8)(k:Nat):Int:=if k=0 then 0 else idxL (s.getD 0 0)+1
set_option maxHeartbeats 2000000 in
theorem sReadRule_run(s:List UInt8)(hs:s.length≤2^40):RunCall Tryd.prog 8 [txt s] [] (readQ (readR s) (readRB s)):=by
 have hCb:∀e:Int,0≤chr s e∧chr s e≤255:=chr_bound s
 refine RunCall.nz ?_
 refine RunCall.cw (c:=_) Tryd.func8 rfl (n:=85) Tryd.ntmps8 (rs:=[.cell 2 24, .tmp 3]) rfl ?_
 simp only[List.length_cons,List.length_nil,zA,zS,List.replicate,List.cons_append,List.nil_append]
 simp(maxSteps:=999999)(disch:=omega)only[go_sem,zA,zM,zS,zE,zL]
 intro g0 g1
 refine loop_rule2 (fun(k g:Nat)=>s.length -k) (fun k g=>k≤s.length∧k≤12) (fun k g=>[.k, .a, .k, .a, .k, .p (int k), .a, .a, .a, .a, .a, .a, .a, .a, .a, .a, .a, .a, .a, .a, .a, .a, .a, .a, .a, .a, .a, .a, .a, .a, .a, .a, .a, .a, .a, .a, .a, .a, .a, .a, .a, .a, .a, .a, .a, .a, .a, .a, .a, .a, .a, .a, .a, .a, .a, .a, .a, .a, .a, .a, .a, .a, .a, .a, .a, .a, .a, .a, .a, .a, .a, .a, .a, .a, .a, .a, .a, .a, .a, .a, .a, .a, .a, .a, .a]) (fun k g=>rdH2 (kindS s k) (stR s k).2 g0 g1 (stR s k).1 g) 0 0
  ⟨Nat.zero_le _,Nat.zero_le _⟩ (by simp(maxSteps:=999999)(disch:=omega)only[go_sem,zA,zM,zS,zE,zL];rfl) (HLe.refl _) ?_
 rintro k g ⟨hk,hk12⟩
 obtain⟨hb1,hb2,hb3⟩:=stR_bound s k hk12 hk
 have hpw:=pow_le hk12
 have hkk:0≤kindS s k∧kindS s k≤5:=by
  have:=idx_five (s.getD 0 0)
  unfold kindS
  split<;>omega
 by_cases hx:k<s.length∧k<12
 · have d1:decide ((k:Int)<s.length)=true:=decide_eq_true (by omega)
   have d2:decide ((k:Int)<12)=true:=decide_eq_true (by omega)
   simp(maxSteps:=999999)(disch:=omega)only[go_sem,zA,zM,zS,zE,zL,d1,d2]
   have hck:=hCb k
   rcases k with _|k
   · simp only[stR_zero,rdH2]
     simp(maxSteps:=999999)(disch:=omega)only[go_sem,zA,zM,zS,zE,zL]
     ((first|(with_reducible first|refine condK_dec ?_ ?_|refine condK_ndec ?_ ?_|refine condK_nb ?_ ?_)|refine condK_b ?_ ?_)<;>intro c0)
     rotate_left
     · exfalso;omega
     simp(maxSteps:=999999)(disch:=omega)only[go_sem,zA,zM,zS,zE,zL]
     have e0:kindS s 0=kindK (s.getD 0 0) 0:=by unfold kindS kindK;rw[if_pos rfl,if_neg (by omega)]
     rw[e0]
     have hc0:chr s 0=((s.getD 0 0).toNat:Int):=rfl
     refine loop_rule2 (fun(j g:Nat)=>5 -j) (fun j g=>j≤5) (fun j g=>[.k, .a, .k, .a, .k, .k, .p (int j), .a, .a, .a, .a, .a, .a, .a, .a, .a, .a, .a, .a, .a, .a, .a, .a, .a, .a, .a, .a, .a, .a, .a, .a, .a, .a, .a, .a, .a, .a, .a, .a, .a, .a, .a, .a, .a, .a, .a, .a, .a, .a, .a, .a, .a, .a, .a, .a, .a, .a, .a, .a, .a, .a, .a, .a, .a, .a, .a, .a, .a, .a, .a, .a, .a, .a, .a, .a, .a, .a, .a, .a, .a, .a, .a, .a, .a, .a]) (fun j _=>[some ⟨g0,3,[.f (.int .i64 0), .f .nil, .f (.int .i64 0)]⟩,some ⟨g1,3,[.f (.int .i64 (kindK (s.getD 0 0) j)), .f .nil, .f (.int .i64 0)]⟩]) 0 0
      (Nat.zero_le _) (by simp(maxSteps:=999999)(disch:=omega)only[go_sem,zA,zM,zS,zE,zL];rfl) (HLe.refl _) ?_
     rintro j g' hj
     have hkb:=kind_bound (s.getD 0 0) j
     simp(maxSteps:=999999)(disch:=omega)only[go_sem,zA,zM,zS,zE,zL]
     ((first|(with_reducible first|refine condK_dec ?_ ?_|refine condK_ndec ?_ ?_|refine condK_nb ?_ ?_)|refine condK_b ?_ ?_)<;>intro c1)
     · have hks:=kind_step (s.getD 0 0) j (by omega)
       simp(maxSteps:=999999)(disch:=omega)only[go_sem,zA,zM,zS,zE,zL]
       refine drawP_q foll (by kernel_rfl) ?_
       simp(maxSteps:=999999)(disch:=omega)only[go_sem,Nat.reduceBEq,Bool.true_or,zA,zM,zS,zE,zL]
       ((first|(with_reducible first|refine condK_dec ?_ ?_|refine condK_ndec ?_ ?_|refine condK_nb ?_ ?_)|refine condK_b ?_ ?_)<;>intro c2)
       · rw[if_pos (show chr lettersL j=_ from c2.trans hc0)]at hks
         simp(maxSteps:=999999)(disch:=omega)only[go_sem,zA,zM,zS,zE,zL]
         exact⟨j+1,0,⟨by omega,by omega⟩,by push_cast;rfl,hle_self _ _ _ (hle_eq (by rw[hks]) (hle_nil _))⟩
       · rw[if_neg (show¬chr lettersL j=_ from fun h=>c2 (h.trans hc0.symm))]at hks
         simp(maxSteps:=999999)(disch:=omega)only[go_sem,zA,zM,zS,zE,zL]
         exact⟨j+1,0,⟨by omega,by omega⟩,by push_cast;rfl,hle_self _ _ _ (hle_eq (by rw[hks]) (hle_nil _))⟩
     have hj5:j=5:=by omega
     subst hj5
     simp(maxSteps:=999999)(disch:=omega)only[go_sem,zA,zM,zS,zE,zL]
     refine⟨1,0,⟨⟨by omega,by omega⟩,by omega⟩,by omega, ?_⟩
     rw[stR_one,show kindS s 1=kindK (s.getD 0 0) 5 by rw[kind_end];rfl]
     exact HLe.refl _
   · have d3:decide (((k+1:Nat):Int)=0)=false:=decide_eq_false (by omega)
     have hk2:kindS s (k+1+1)=kindS s (k+1):=by unfold kindS;rw[if_neg (by omega),if_neg (by omega)]
     have hs2:=stR_succ (s:=s) (k:=k+1) (by omega) hx.1
     have hcb:chr s ((k+1:Nat):Int)=((s.getD (k+1) 0).toNat:Int):=rfl
     generalize hK:kindS s (k+1)=K at hkk hk2⊢
     generalize hst:stR s (k+1)=st at hb1 hb2 hb3 hs2⊢
     obtain⟨L,v⟩:=st
     simp only at hb1 hb2 hb3⊢
     have hv:0≤v∧v≤1000000000000:=by omega
     generalize hb:s.getD (k+1) 0=b at hs2 hcb
     simp(maxSteps:=999999)(disch:=omega)only[go_sem,zA,zM,zS,zE,zL,d3]
     rcases L with _|⟨x,l⟩
     · simp only[rdH2]
       ((with_reducible first|refine guardK_dec ?_ ?_|refine guardK_ndec ?_ ?_|refine guardK_nb ?_ ?_|refine guardK_split ?_ ?_|refine guardQ_dec ?_ ?_|refine guardL_dec ?_ ?_|refine guardQ_ndec ?_ ?_|refine guardL_ndec ?_ ?_|refine guardQ_nb ?_ ?_|refine guardL_nb ?_ ?_|refine guardQ_split ?_ ?_|refine guardL_split ?_ ?_)<;>intro c5<;>simp(maxSteps:=999999)(disch:=omega)only[go_sem,zA,zM,zS,zE,zL,c5])
       · ((first|(with_reducible first|refine condK_dec ?_ ?_|refine condK_ndec ?_ ?_|refine condK_nb ?_ ?_)|refine condK_b ?_ ?_)<;>intro c6)
         · simp(maxSteps:=999999)(disch:=omega)only[go_sem,zA,zM,zS,zE,zL]
           refine drawP_lF [0,1,2,3,4,5,6,7] [] none [8,9,10] [] foll (by kernel_rfl) ?_
           simp(maxSteps:=999999)(disch:=omega)only[go_sem,Nat.reduceBEq,Bool.true_or,zA,zM,zS,zE,zL]
           intro g3 g4
           refine⟨k+1+1,g4,⟨⟨by omega,by omega⟩,by omega⟩,by push_cast;omega, ?_⟩
           rw[hs2,st_cell (by omega),hk2]
           exact hle_self _ _ _ (hle_self _ _ _ (hle_none _ _ _ (hle_eq (by rw[hcb];rfl) (hle_nil _))))
         · simp(maxSteps:=999999)(disch:=omega)only[go_sem,zA,zM,zS,zE,zL]
           ((with_reducible first|refine guardK_dec ?_ ?_|refine guardK_ndec ?_ ?_|refine guardK_nb ?_ ?_|refine guardK_split ?_ ?_|refine guardQ_dec ?_ ?_|refine guardL_dec ?_ ?_|refine guardQ_ndec ?_ ?_|refine guardL_ndec ?_ ?_|refine guardQ_nb ?_ ?_|refine guardL_nb ?_ ?_|refine guardQ_split ?_ ?_|refine guardL_split ?_ ?_)<;>intro c7<;>simp(maxSteps:=999999)(disch:=omega)only[go_sem,zA,zM,zS,zE,zL,c7])
           · ((first|(with_reducible first|refine condK_dec ?_ ?_|refine condK_ndec ?_ ?_|refine condK_nb ?_ ?_)|refine condK_b ?_ ?_)<;>intro c8)
             · simp(maxSteps:=999999)(disch:=omega)only[go_sem,zA,zM,zS,zE,zL]
               refine drawP_lF [0,1,2,3,4,5,6,7] [] none [8,9,10] [] foll (by kernel_rfl) ?_
               simp(maxSteps:=999999)(disch:=omega)only[go_sem,Nat.reduceBEq,Bool.true_or,zA,zM,zS,zE,zL]
               refine⟨k+1+1,g,⟨⟨by omega,by omega⟩,by omega⟩,by push_cast;omega, ?_⟩
               rw[hs2,st_dig (by omega),hk2,←hcb]
               exact HLe.refl _
             · simp(maxSteps:=999999)(disch:=omega)only[go_sem,zA,zM,zS,zE,zL]
               refine⟨k+1+1,g,⟨⟨by omega,by omega⟩,by omega⟩,by push_cast;omega, ?_⟩
               rw[hs2,st_no (by omega) (by omega),hk2]
               exact HLe.refl _
           · refine⟨k+1+1,g,⟨⟨by omega,by omega⟩,by omega⟩,by push_cast;omega, ?_⟩
             rw[hs2,st_no (by omega) (by omega),hk2]
             exact HLe.refl _
       · skip
         ((with_reducible first|refine guardK_dec ?_ ?_|refine guardK_ndec ?_ ?_|refine guardK_nb ?_ ?_|refine guardK_split ?_ ?_|refine guardQ_dec ?_ ?_|refine guardL_dec ?_ ?_|refine guardQ_ndec ?_ ?_|refine guardL_ndec ?_ ?_|refine guardQ_nb ?_ ?_|refine guardL_nb ?_ ?_|refine guardQ_split ?_ ?_|refine guardL_split ?_ ?_)<;>intro c7<;>simp(maxSteps:=999999)(disch:=omega)only[go_sem,zA,zM,zS,zE,zL,c7])
         · ((first|(with_reducible first|refine condK_dec ?_ ?_|refine condK_ndec ?_ ?_|refine condK_nb ?_ ?_)|refine condK_b ?_ ?_)<;>intro c8)
           · simp(maxSteps:=999999)(disch:=omega)only[go_sem,zA,zM,zS,zE,zL]
             refine drawP_lF [0,1,2,3,4,5,6,7] [] none [8,9,10] [] foll (by kernel_rfl) ?_
             simp(maxSteps:=999999)(disch:=omega)only[go_sem,Nat.reduceBEq,Bool.true_or,zA,zM,zS,zE,zL]
             refine⟨k+1+1,g,⟨⟨by omega,by omega⟩,by omega⟩,by push_cast;omega, ?_⟩
             rw[hs2,st_dig (by omega),hk2,←hcb]
             exact HLe.refl _
           · simp(maxSteps:=999999)(disch:=omega)only[go_sem,zA,zM,zS,zE,zL]
             refine⟨k+1+1,g,⟨⟨by omega,by omega⟩,by omega⟩,by push_cast;omega, ?_⟩
             rw[hs2,st_no (by omega) (by omega),hk2]
             exact HLe.refl _
         · refine⟨k+1+1,g,⟨⟨by omega,by omega⟩,by omega⟩,by push_cast;omega, ?_⟩
           rw[hs2,st_no (by omega) (by omega),hk2]
           exact HLe.refl _
     · simp only[rdH2]
       have hl12:l.length≤12:=by rw[List.length_cons]at hb3;omega
       ((with_reducible first|refine guardK_dec ?_ ?_|refine guardK_ndec ?_ ?_|refine guardK_nb ?_ ?_|refine guardK_split ?_ ?_|refine guardQ_dec ?_ ?_|refine guardL_dec ?_ ?_|refine guardQ_ndec ?_ ?_|refine guardL_ndec ?_ ?_|refine guardQ_nb ?_ ?_|refine guardL_nb ?_ ?_|refine guardQ_split ?_ ?_|refine guardL_split ?_ ?_)<;>intro c5<;>simp(maxSteps:=999999)(disch:=omega)only[go_sem,zA,zM,zS,zE,zL,c5])
       · ((first|(with_reducible first|refine condK_dec ?_ ?_|refine condK_ndec ?_ ?_|refine condK_nb ?_ ?_)|refine condK_b ?_ ?_)<;>intro c6)
         · simp(maxSteps:=999999)(disch:=omega)only[go_sem,zA,zM,zS,zE,zL]
           refine drawP_lF [0,1,2,3,4,5,6,7] [] none [8,9,10] [] foll (by kernel_rfl) ?_
           simp(maxSteps:=999999)(disch:=omega)only[go_sem,Nat.reduceBEq,Bool.true_or,zA,zM,zS,zE,zL]
           intro g3 g4
           refine⟨k+1+1,g4,⟨⟨by omega,by omega⟩,by omega⟩,by push_cast;omega, ?_⟩
           rw[hs2,st_cell (by omega),hk2]
           refine hle_self _ _ _ (hle_eq ?_ (hle_self _ _ _ (hle_eq ?_ (hle_nil _))))
           · simp
           · rw[hcb]
             rfl
         · simp(maxSteps:=999999)(disch:=omega)only[go_sem,zA,zM,zS,zE,zL]
           ((with_reducible first|refine guardK_dec ?_ ?_|refine guardK_ndec ?_ ?_|refine guardK_nb ?_ ?_|refine guardK_split ?_ ?_|refine guardQ_dec ?_ ?_|refine guardL_dec ?_ ?_|refine guardQ_ndec ?_ ?_|refine guardL_ndec ?_ ?_|refine guardQ_nb ?_ ?_|refine guardL_nb ?_ ?_|refine guardQ_split ?_ ?_|refine guardL_split ?_ ?_)<;>intro c7<;>simp(maxSteps:=999999)(disch:=omega)only[go_sem,zA,zM,zS,zE,zL,c7])
           · ((first|(with_reducible first|refine condK_dec ?_ ?_|refine condK_ndec ?_ ?_|refine condK_nb ?_ ?_)|refine condK_b ?_ ?_)<;>intro c8)
             · simp(maxSteps:=999999)(disch:=omega)only[go_sem,zA,zM,zS,zE,zL]
               refine drawP_lF [0,1,2,3,4,5,6,7] [] none [8,9,10] [] foll (by kernel_rfl) ?_
               simp(maxSteps:=999999)(disch:=omega)only[go_sem,Nat.reduceBEq,Bool.true_or,zA,zM,zS,zE,zL]
               refine⟨k+1+1,g,⟨⟨by omega,by omega⟩,by omega⟩,by push_cast;omega, ?_⟩
               rw[hs2,st_dig (by omega),hk2,←hcb]
               exact HLe.refl _
             · simp(maxSteps:=999999)(disch:=omega)only[go_sem,zA,zM,zS,zE,zL]
               refine⟨k+1+1,g,⟨⟨by omega,by omega⟩,by omega⟩,by push_cast;omega, ?_⟩
               rw[hs2,st_no (by omega) (by omega),hk2]
               exact HLe.refl _
           · refine⟨k+1+1,g,⟨⟨by omega,by omega⟩,by omega⟩,by push_cast;omega, ?_⟩
             rw[hs2,st_no (by omega) (by omega),hk2]
             exact HLe.refl _
       · skip
         ((with_reducible first|refine guardK_dec ?_ ?_|refine guardK_ndec ?_ ?_|refine guardK_nb ?_ ?_|refine guardK_split ?_ ?_|refine guardQ_dec ?_ ?_|refine guardL_dec ?_ ?_|refine guardQ_ndec ?_ ?_|refine guardL_ndec ?_ ?_|refine guardQ_nb ?_ ?_|refine guardL_nb ?_ ?_|refine guardQ_split ?_ ?_|refine guardL_split ?_ ?_)<;>intro c7<;>simp(maxSteps:=999999)(disch:=omega)only[go_sem,zA,zM,zS,zE,zL,c7])
         · ((first|(with_reducible first|refine condK_dec ?_ ?_|refine condK_ndec ?_ ?_|refine condK_nb ?_ ?_)|refine condK_b ?_ ?_)<;>intro c8)
           · simp(maxSteps:=999999)(disch:=omega)only[go_sem,zA,zM,zS,zE,zL]
             refine drawP_lF [0,1,2,3,4,5,6,7] [] none [8,9,10] [] foll (by kernel_rfl) ?_
             simp(maxSteps:=999999)(disch:=omega)only[go_sem,Nat.reduceBEq,Bool.true_or,zA,zM,zS,zE,zL]
             refine⟨k+1+1,g,⟨⟨by omega,by omega⟩,by omega⟩,by push_cast;omega, ?_⟩
             rw[hs2,st_dig (by omega),hk2,←hcb]
             exact HLe.refl _
           · simp(maxSteps:=999999)(disch:=omega)only[go_sem,zA,zM,zS,zE,zL]
             refine⟨k+1+1,g,⟨⟨by omega,by omega⟩,by omega⟩,by push_cast;omega, ?_⟩
             rw[hs2,st_no (by omega) (by omega),hk2]
             exact HLe.refl _
         · refine⟨k+1+1,g,⟨⟨by omega,by omega⟩,by omega⟩,by push_cast;omega, ?_⟩
           rw[hs2,st_no (by omega) (by omega),hk2]
           exact HLe.refl _
 have hsd:sdR s=⟨kindS s k,(stR s k).1,(stR s k).2⟩:=by
  have ht:s.take k=s.take 12:=by
   by_cases h12:k=12
   · rw[h12]
   · rw[List.take_of_length_le (by omega),List.take_of_length_le (by omega)]
  unfold sdR stR
  rw[ht]
  have:(if s=[]then 0 else Go.Lib.indexByte [100,115,112,108,97] (s.getD 0 0)+1)=kindS s k:=by
   unfold kindS
   by_cases h0:s=[]
   · subst h0
     rw[if_pos rfl,if_pos (by simp at hk;omega)]
   · have:0<s.length:=List.length_pos_iff.2 h0
     rw[if_neg h0,if_neg (by omega)]
     rfl
  rw[this]
 have hcl:(sdR s).cells.length≤2^40:=by rw[hsd];show(stR s k).1.length≤_;omega
 generalize hK:kindS s k=K at hkk hsd⊢
 generalize hst:stR s k=st at hb1 hb2 hb3 hsd⊢
 obtain⟨L,v⟩:=st
 simp only at hb1 hb2 hb3 hsd⊢
 rcases L with _|⟨x,l⟩
 · simp only[rdH2]
   have hrt:Reads Tryd.prog 20 [.agg [.f (.int .i64 K), .f .nil, .f (.int .i64 v)]] (txt (ruleT (sdR s))):=
    RunCall.iceIn (args:=[.agg [.f (.int .i64 K), .f .nil, .f (.int .i64 v)]]) (args':=[aR (sdR s)]) (fun _=>false) (iceH_same fun id b hb=>by simp at hb) rfl (fun j hj=>by
     match j,hj with
     |0,_=>rw[hsd];exact⟨_,rfl,ice1_agg3 iceC_s (iceC_f rfl) iceC_s⟩) (sRuleText_run (sdR s) hcl)
   simp(maxSteps:=999999)(disch:=omega)only[go_sem,zA,zM,zS,zE,zL]
   ((with_reducible first|refine guardK_dec ?_ ?_|refine guardK_ndec ?_ ?_|refine guardK_nb ?_ ?_|refine guardK_split ?_ ?_|refine guardQ_dec ?_ ?_|refine guardL_dec ?_ ?_|refine guardQ_ndec ?_ ?_|refine guardL_ndec ?_ ?_|refine guardQ_nb ?_ ?_|refine guardL_nb ?_ ?_|refine guardQ_split ?_ ?_|refine guardL_split ?_ ?_)<;>intro e1<;>simp(maxSteps:=999999)(disch:=omega)only[go_sem,zA,zM,zS,zE,zL,e1])
   · ((first|(with_reducible first|refine condK_dec ?_ ?_|refine condK_ndec ?_ ?_|refine condK_nb ?_ ?_)|refine condK_b ?_ ?_)<;>intro e2)
     · exfalso;omega
     simp(maxSteps:=999999)(disch:=omega)only[go_sem,zA,zM,zS,zE,zL]
     first|refine OpS.rd (hrt) (⟨_,Tryd.func20,rfl,rfl⟩:Enters Tryd.prog 20) rfl rfl rfl rfl ?_|refine Loud.rd (hrt) (⟨_,Tryd.func20,rfl,rfl⟩:Enters Tryd.prog 20) rfl rfl rfl rfl ?_
     simp(maxSteps:=999999)(disch:=omega)only[go_sem,zA,zM,zS,zE,zL]
     by_cases hacc:ruleT (sdR s)=s
     · have d:=decide_eq_true hacc
       by_cases hs0:s=[]
       · have d0:=decide_eq_true hs0
         obtain⟨q1,q2⟩:=read_no (s:=s) fun h=>accL_ne h.1 hs0
         rw[q1,q2]
         simp(maxSteps:=999999)(disch:=omega)only[go_sem,zA,zM,zS,zE,zL,d,d0]
         exact readQ_no _
       · have d0:=decide_eq_false hs0
         have ha:=(sd_read s).1 ⟨hacc,hs0⟩
         rw[←sd_eq ha,show readRB s=true from decide_eq_true ha]
         simp(maxSteps:=999999)(disch:=omega)only[go_sem,zA,zM,zS,zE,zL,d,d0]
         rw[hsd]
         first|exact⟨_,HLe.refl _,_,[],rfl, .e⟩|exact⟨_,HLe.refl _,_,[3],rfl,OwnI.o 3 g none (x::l) [] (by rw[List.append_nil];simp[look])⟩
     · have d:=decide_eq_false hacc
       obtain⟨q1,q2⟩:=read_no (s:=s) fun h=>hacc ((sd_read s).2 h).1
       rw[q1,q2]
       simp(maxSteps:=999999)(disch:=omega)only[go_sem,zA,zM,zS,zE,zL,d]
       exact readQ_no _
   · skip
     first|refine OpS.rd (hrt) (⟨_,Tryd.func20,rfl,rfl⟩:Enters Tryd.prog 20) rfl rfl rfl rfl ?_|refine Loud.rd (hrt) (⟨_,Tryd.func20,rfl,rfl⟩:Enters Tryd.prog 20) rfl rfl rfl rfl ?_
     simp(maxSteps:=999999)(disch:=omega)only[go_sem,zA,zM,zS,zE,zL]
     by_cases hacc:ruleT (sdR s)=s
     · have d:=decide_eq_true hacc
       by_cases hs0:s=[]
       · have d0:=decide_eq_true hs0
         obtain⟨q1,q2⟩:=read_no (s:=s) fun h=>accL_ne h.1 hs0
         rw[q1,q2]
         simp(maxSteps:=999999)(disch:=omega)only[go_sem,zA,zM,zS,zE,zL,d,d0]
         exact readQ_no _
       · have d0:=decide_eq_false hs0
         have ha:=(sd_read s).1 ⟨hacc,hs0⟩
         rw[←sd_eq ha,show readRB s=true from decide_eq_true ha]
         simp(maxSteps:=999999)(disch:=omega)only[go_sem,zA,zM,zS,zE,zL,d,d0]
         rw[hsd]
         first|exact⟨_,HLe.refl _,_,[],rfl, .e⟩|exact⟨_,HLe.refl _,_,[3],rfl,OwnI.o 3 g none (x::l) [] (by rw[List.append_nil];simp[look])⟩
     · have d:=decide_eq_false hacc
       obtain⟨q1,q2⟩:=read_no (s:=s) fun h=>hacc ((sd_read s).2 h).1
       rw[q1,q2]
       simp(maxSteps:=999999)(disch:=omega)only[go_sem,zA,zM,zS,zE,zL,d]
       exact readQ_no _
 · simp only[rdH2]
   have hown:OwnI [some ⟨g0,3,[.f (.int .i64 0), .f .nil, .f (.int .i64 0)]⟩,some ⟨g1,3,[.f (.int .i64 K), .own 3 g 0 (x::l).length none, .f (.int .i64 v)]⟩,none,some ⟨g,1,cl (eI .i64) (x::l)⟩] (.own 3 g 0 (x::l).length none) (x::l) [3]:=
    OwnI.o 3 g none (x::l) [] (by rw[List.append_nil];simp[look])
   have hfr:=hown.frzC
   have hsn:snapD [some ⟨g0,3,[.f (.int .i64 0), .f .nil, .f (.int .i64 0)]⟩,some ⟨g1,3,[.f (.int .i64 K), .own 3 g 0 (x::l).length none, .f (.int .i64 v)]⟩,none,some ⟨g,1,cl (eI .i64) (x::l)⟩] (.agg [.f (.int .i64 K), .own 3 g 0 (x::l).length none, .f (.int .i64 v)])=some (aR (sdR s)):=by
    simp only[snapD,List.mapM_cons,List.mapM_nil,hfr,show∀(H:Heap) n,frzC H (.f (.int .i64 n))=some (.f (.int .i64 n))from fun _ _=>rfl,Option.pure_def,Option.bind_eq_bind,Option.bind_some,Option.map_some,hsd]
   simp(maxSteps:=999999)(disch:=omega)only[go_sem,zA,zM,zS,zE,zL]
   ((with_reducible first|refine guardK_dec ?_ ?_|refine guardK_ndec ?_ ?_|refine guardK_nb ?_ ?_|refine guardK_split ?_ ?_|refine guardQ_dec ?_ ?_|refine guardL_dec ?_ ?_|refine guardQ_ndec ?_ ?_|refine guardL_ndec ?_ ?_|refine guardQ_nb ?_ ?_|refine guardL_nb ?_ ?_|refine guardQ_split ?_ ?_|refine guardL_split ?_ ?_)<;>intro e1<;>simp(maxSteps:=999999)(disch:=omega)only[go_sem,zA,zM,zS,zE,zL,e1])
   · ((first|(with_reducible first|refine condK_dec ?_ ?_|refine condK_ndec ?_ ?_|refine condK_nb ?_ ?_)|refine condK_b ?_ ?_)<;>intro e2)
     · exfalso;omega
     simp(maxSteps:=999999)(disch:=omega)only[go_sem,zA,zM,zS,zE,zL]
     refine OpS.rdD (sRuleText_run (sdR s) hcl) (⟨_,Tryd.func20,rfl,rfl⟩:Enters Tryd.prog 20) rfl rfl (snap_one hsn) rfl ?_
     by_cases hacc:ruleT (sdR s)=s
     · have d:=decide_eq_true hacc
       by_cases hs0:s=[]
       · have d0:=decide_eq_true hs0
         obtain⟨q1,q2⟩:=read_no (s:=s) fun h=>accL_ne h.1 hs0
         rw[q1,q2]
         simp(maxSteps:=999999)(disch:=omega)only[go_sem,zA,zM,zS,zE,zL,d,d0]
         exact readQ_no _
       · have d0:=decide_eq_false hs0
         have ha:=(sd_read s).1 ⟨hacc,hs0⟩
         rw[←sd_eq ha,show readRB s=true from decide_eq_true ha]
         simp(maxSteps:=999999)(disch:=omega)only[go_sem,zA,zM,zS,zE,zL,d,d0]
         rw[hsd]
         first|exact⟨_,HLe.refl _,_,[],rfl, .e⟩|exact⟨_,HLe.refl _,_,[3],rfl,OwnI.o 3 g none (x::l) [] (by rw[List.append_nil];simp[look])⟩
     · have d:=decide_eq_false hacc
       obtain⟨q1,q2⟩:=read_no (s:=s) fun h=>hacc ((sd_read s).2 h).1
       rw[q1,q2]
       simp(maxSteps:=999999)(disch:=omega)only[go_sem,zA,zM,zS,zE,zL,d]
       exact readQ_no _
   · skip
     refine OpS.rdD (sRuleText_run (sdR s) hcl) (⟨_,Tryd.func20,rfl,rfl⟩:Enters Tryd.prog 20) rfl rfl (snap_one hsn) rfl ?_
     by_cases hacc:ruleT (sdR s)=s
     · have d:=decide_eq_true hacc
       by_cases hs0:s=[]
       · have d0:=decide_eq_true hs0
         obtain⟨q1,q2⟩:=read_no (s:=s) fun h=>accL_ne h.1 hs0
         rw[q1,q2]
         simp(maxSteps:=999999)(disch:=omega)only[go_sem,zA,zM,zS,zE,zL,d,d0]
         exact readQ_no _
       · have d0:=decide_eq_false hs0
         have ha:=(sd_read s).1 ⟨hacc,hs0⟩
         rw[←sd_eq ha,show readRB s=true from decide_eq_true ha]
         simp(maxSteps:=999999)(disch:=omega)only[go_sem,zA,zM,zS,zE,zL,d,d0]
         rw[hsd]
         first|exact⟨_,HLe.refl _,_,[],rfl, .e⟩|exact⟨_,HLe.refl _,_,[3],rfl,OwnI.o 3 g none (x::l) [] (by rw[List.append_nil];simp[look])⟩
     · have d:=decide_eq_false hacc
       obtain⟨q1,q2⟩:=read_no (s:=s) fun h=>hacc ((sd_read s).2 h).1
       rw[q1,q2]
       simp(maxSteps:=999999)(disch:=omega)only[go_sem,zA,zM,zS,zE,zL,d]
       exact readQ_no _
end Go.Lg
