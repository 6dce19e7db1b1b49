/- GpCB, cut to what is needed. -/
import Derived.Test.YtiahmfdabpafoaaGreatDoorKab9
import Derived.Test.YtiahmfdabpafoaaGreatDoorKab3
open List renaming cons_append → Jc, nil_append → Jd, length_cons → Jf, replicate → Jg, length_nil → Jl, take_of_length_le → Jn
open Nat renaming reduceAdd→zA,reduceMul→zM,reduceSub→zS,reduceEqDiff→zE,reduceLeDiff→zL
set_option linter.unusedSimpArgs false
set_option linter.unusedVariables false
set_option maxRecDepth 100000
namespace Go.Lg
open Go.Proofs
theorem Wr(n line:Nat):(Z2 n line).length=n:=by simp[Z2]
theorem FE{n line k:Nat}(h:k<n):JM (Z2 n line) k=if line<n then((line*n+k:Nat):Int)else((k*n+line -n:Nat):Int):=by
 rw[Qu (by rw[Wr];omega)]
 simp[Z2]
theorem NN{n line k:Nat}(hn:n=2∨n=3∨n=4)(hl:line<2*n)(h:k<n):0≤JM (Z2 n line) k∧JM (Z2 n line) k<(n*n:Nat):=by
 rw[FE h]
 split<;>rcases hn with rfl|rfl|rfl<;>omega
theorem B6{n line:Nat}(hn:n=2∨n=3∨n=4)(hl:line<2*n):Jq Tryz.prog 100 [int n,int line] [] (Jgq (eI .i64) 1 (Z2 n line)):=by
 have hb:(line:Int)*n≤28∧0≤(line:Int)*n:=by rcases hn with rfl|rfl|rfl<;>omega
 have hn4:2≤n∧n≤4:=by omega
 have hlen:=Wr n line
 refine Jq.cw (c:=_) Tryz.func100 rfl (n:=46) Tryz.ntmps100 (rs:=[.tmp 4]) rfl ?_
 simp only[Jf,Jl,zA,zS,Jg,Jc,Jd]
 simp(maxSteps:=999999)(disch:=omega)only[go_sem,zA,zM,zS,zE,zL]
 intro g
 refine Qj (fun(k g:Nat)=>n -k) (fun k g=>k≤n) (fun k g=>[.k, .k, .a, .a, .a, .p (.c (.own 0 g 0 k none)), .p (int k), .a, .a, .a, .a, .a, .a, .a, .a, .a, .a, .a, .a, .a, .a, .a, .a, .a, .a, .a, .a, .a, .a, .a, .a, .a, .a, .a, .a, .a, .a, .a, .a, .a, .a, .a, .a, .a, .a, .a]) (fun k g=>[some ⟨g,1,cl (eI .i64) ((Z2 n line).take k)⟩]) 0 g
  (Nat.zero_le _) (by simp(maxSteps:=999999)(disch:=omega)only[go_sem,zA,zM,zS,zE,zL];rfl) (Qc.refl _) ?_
 intro k g hk
 simp(maxSteps:=999999)(disch:=omega)only[go_sem,zA,zM,zS,zE,zL]
 ((with_reducible first|refine JU ?_ ?_|refine JJ ?_ ?_|refine J6 ?_ ?_|refine Jx ?_ ?_|refine JS ?_ ?_|refine JT ?_ ?_|refine JH ?_ ?_|refine JI ?_ ?_|refine J4 ?_ ?_|refine J5 ?_ ?_|refine JC ?_ ?_|refine JD ?_ ?_)<;>intro h1<;>simp(maxSteps:=999999)(disch:=omega)only[go_sem,zA,zM,zS,zE,zL,h1])
 · first|refine Qh.rd (QF _ _ _) (⟨_,Tryz.func45,rfl,rfl⟩:Jm Tryz.prog 45) rfl rfl rfl rfl ?_|refine Qe.rd (QF _ _ _) (⟨_,Tryz.func45,rfl,rfl⟩:Jm Tryz.prog 45) rfl rfl rfl rfl ?_
   simp(maxSteps:=999999)(disch:=omega)only[go_sem,zA,zM,zS,zE,zL]
   ((with_reducible first|refine JU ?_ ?_|refine JJ ?_ ?_|refine J6 ?_ ?_|refine Jx ?_ ?_|refine JS ?_ ?_|refine JT ?_ ?_|refine JH ?_ ?_|refine JI ?_ ?_|refine J4 ?_ ?_|refine J5 ?_ ?_|refine JC ?_ ?_|refine JD ?_ ?_)<;>intro h2<;>simp(maxSteps:=999999)(disch:=omega)only[go_sem,zA,zM,zS,zE,zL,h2])
   rotate_left
   · exfalso;omega
   first|refine Qh.rd (QF _ _ _) (⟨_,Tryz.func45,rfl,rfl⟩:Jm Tryz.prog 45) rfl rfl rfl rfl ?_|refine Qe.rd (QF _ _ _) (⟨_,Tryz.func45,rfl,rfl⟩:Jm Tryz.prog 45) rfl rfl rfl rfl ?_
   simp(maxSteps:=999999)(disch:=omega)only[go_sem,zA,zM,zS,zE,zL]
   have h1:k<n:=by omega
   have hkb:(k:Int)*n≤16∧0≤(k:Int)*n:=by rcases hn with rfl|rfl|rfl<;>omega
   have hne:=FE (line:=line) h1
   ((first|(with_reducible first|refine Jo ?_ ?_|refine Jk ?_ ?_|refine Jp ?_ ?_)|refine Jr ?_ ?_)<;>intro h3)
   · simp(maxSteps:=999999)(disch:=omega)only[go_sem,zA,zM,zS,zE,zL]
     ((first|(with_reducible first|refine Jo ?_ ?_|refine Jk ?_ ?_|refine Jp ?_ ?_)|refine Jr ?_ ?_)<;>intro h4)
     · simp(maxSteps:=999999)(disch:=omega)only[go_sem,zA,zM,zS,zE,zL]
       intro g1 g2
       refine⟨k+1,g2,⟨by omega,by omega⟩,⟨⟨rfl,rfl⟩,by push_cast;omega⟩,Zd ?_ (J8 _)⟩
       rw[JX (by omega),hne,if_pos (by omega)]
       push_cast
       rfl
     · simp(maxSteps:=999999)(disch:=omega)only[go_sem,zA,zM,zS,zE,zL]
       intro g1 g2
       refine⟨k+1,g2,⟨by omega,by omega⟩,⟨⟨rfl,rfl⟩,by push_cast;omega⟩,Zd ?_ (J8 _)⟩
       rw[JX (by omega),hne,if_neg (by omega)]
       have:((k*n+line -n:Nat):Int)=(k:Int)*n+line -n:=by
        have:n≤k*n+line:=by omega
        omega
       rw[this]
   · exfalso;omega
 · have hi':k=n:=by omega
   subst hi'
   rw[Jn (by omega)]
   have:=Vm (E:=eI .i64) (n:=1) (g:=g) (xs:=Z2 k line) (Qc.refl [some ⟨g,1,cl (eI .i64) (Z2 k line)⟩])
   rw[hlen]at this
   exact this
theorem XM{n line:Nat}(hn:n=2∨n=3∨n=4)(hl:line<2*n):Qd Tryz.prog 100 [int n,int line] (ZY (Z2 n line)):=Qd.own (B6 hn hl)
theorem Xj{v:Int}(h:0≤v∧v≤4):ZJ .shl .i64 1 .i64 v=some (.int .i64 ((2^v.toNat:Nat):Int)):=by
 obtain⟨k,rfl⟩:∃k:Nat,v=k:=⟨v.toNat,by omega⟩
 have hk:k=0∨k=1∨k=2∨k=3∨k=4:=by omega
 rcases hk with rfl|rfl|rfl|rfl|rfl<;>rfl
theorem Fe{s:Nat}{v:Int}(h:0≤v∧v≤4):ZJ .shr .i64 (s:Int) .i64 v=some (.int .i64 ((s>>>v.toNat:Nat):Int)):=by
 obtain⟨k,rfl⟩:∃k:Nat,v=k:=⟨v.toNat,by omega⟩
 simp only[ZJ]
 rw[if_neg (by omega)]
 have hb:min (k:Int).toNat IntKind.i64.bits=k:=by
  rw[Int.toNat_natCast]
  have:IntKind.i64.bits=64:=rfl
  omega
 rw[hb,Int.toNat_natCast,Nat.shiftRight_eq_div_pow]
 have e:((s:Int)).fdiv (2^k)=((s/2^k:Nat):Int):=by
  rw[Int.fdiv_eq_ediv_of_nonneg _ (by have:(0:Int)<2^k:=Int.pow_pos (by omega);omega)]
  push_cast
  rfl
 rw[e]
theorem RN{a b:Nat}(ha:a<2^62)(hb:b<2^62):U3 .or .i64 (a:Int) (b:Int)=((a|||b:Nat):Int):=by
 have hz:a|||b<2^62:=Nat.or_lt_two_pow ha hb
 have e:(BitVec.ofInt 64 (a:Int)|||BitVec.ofInt 64 (b:Int)).toNat=a|||b:=by
  simp only[BitVec.toNat_or,BitVec.ofInt_natCast,BitVec.toNat_ofNat]
  rw[Nat.mod_eq_of_lt (by omega),Nat.mod_eq_of_lt (by omega)]
 unfold U3
 show IntKind.wrap .i64 ((BitVec.ofInt 64 (a:Int)|||BitVec.ofInt 64 (b:Int)).toNat:Int)=_
 rw[e]
 exact F8 (by omega)
theorem Jcf{s k:Nat}:decide ((((s>>>k:Nat):Int)).tmod 2=1)=s.testBit k:=by
 rw[Nat.testBit_eq_decide_div_mod_eq,Nat.shiftRight_eq_div_pow]
 generalize s/2^k=m
 rw[Un (by omega),decide_eq_decide]
 omega
theorem Jai(xs:List Int)(c:Int)(cs:List Int)(seen:Nat):U8 xs (c::cs) seen=if(decide (0<JM xs c)&&seen.testBit (JM xs c).toNat)=true then true else U8 xs cs (seen|||2^(JM xs c).toNat):=rfl
theorem KX{n:Nat}(hn:n=2∨n=3∨n=4)(xs:List Int)(hl:xs.length=n*n)(hv:∀k:Nat,k<xs.length→0≤JM xs k∧JM xs k≤4):Qd Tryz.prog 85 [ZY xs,int n] (bool (U2 xs n)):=by
 have hn4:2≤n∧n≤4:=by omega
 refine Jq.cw (c:=_) Tryz.func85 rfl (n:=45) Tryz.ntmps85 (rs:=[.tmp 4]) rfl ?_
 simp only[Jf,Jl,zA,zS,Jg,Jc,Jd]
 simp(maxSteps:=999999)(disch:=omega)only[go_sem,zA,zM,zS,zE,zL]
 refine Qw (fun i:Nat=>2*n -i) (fun i=>i≤2*n∧∀j,j<i→U8 xs (Z2 n j) 0=false) (fun i=>[.k, .k, .a, .a, .a, .p (int i), .a, .a, .a, .a, .a, .a, .a, .a, .a, .a, .a, .a, .a, .a, .a, .a, .a, .a, .a, .a, .a, .a, .a, .a, .a, .a, .a, .a, .a, .a, .a, .a, .a, .a, .a, .a, .a, .a, .a]) (fun _=>[]) 0 ⟨Nat.zero_le _,fun j hj=>absurd hj (Nat.not_lt_zero _)⟩ (by simp(maxSteps:=999999)(disch:=omega)only[go_sem,zA,zM,zS,zE,zL];rfl) (J8 _) ?_
 rintro i ⟨hi,hno⟩
 simp(maxSteps:=999999)(disch:=omega)only[go_sem,zA,zM,zS,zE,zL]
 ((first|(with_reducible first|refine Jo ?_ ?_|refine Jk ?_ ?_|refine Jp ?_ ?_)|refine Jr ?_ ?_)<;>intro h1)
 · have h1:i<2*n:=by omega
   simp(maxSteps:=999999)(disch:=omega)only[go_sem,zA,zM,zS,zE,zL]
   first|refine Qh.mk (XM hn h1) (⟨_,Tryz.func100,rfl,rfl⟩:Jm Tryz.prog 100) rfl rfl rfl rfl rfl ?_|refine Qe.mk (XM hn h1) (⟨_,Tryz.func100,rfl,rfl⟩:Jm Tryz.prog 100) rfl rfl rfl rfl rfl ?_
   simp(maxSteps:=999999)(disch:=omega)only[go_sem,zA,zM,zS,zE,zL]
   have hlen:=Wr n i
   refine Qj (fun(k seen:Nat)=>n -k) (fun k seen=>k≤n∧U8 xs (Z2 n i) 0=U8 xs ((Z2 n i).drop k) seen∧seen<32) (fun k seen=>[.k, .k, .a, .a, .a, .k, .k, .p (int seen), .p (int k), .a, .a, .a, .a, .a, .a, .a, .a, .a, .a, .a, .a, .a, .a, .a, .a, .a, .a, .a, .a, .a, .a, .a, .a, .a, .a, .a, .a, .a, .a, .a, .a, .a, .a, .a, .a]) (fun _ _=>[]) 0 0 ⟨Nat.zero_le _,rfl,by omega⟩ (by simp(maxSteps:=999999)(disch:=omega)only[go_sem,zA,zM,zS,zE,zL];rfl) (J8 _) ?_
   rintro k seen ⟨hk,hc,hs⟩
   simp(maxSteps:=999999)(disch:=omega)only[go_sem,zA,zM,zS,zE,zL]
   ((first|(with_reducible first|refine Jo ?_ ?_|refine Jk ?_ ?_|refine Jp ?_ ?_)|refine Jr ?_ ?_)<;>intro h2)
   · have h2:k<n:=by omega
     obtain⟨hb0,hb1⟩:=NN hn h1 h2
     obtain⟨c,hcc⟩:∃c:Nat,JM (Z2 n i) k=c:=⟨(JM (Z2 n i) k).toNat,by omega⟩
     have hcl:c<xs.length:=by omega
     have hvc:=hv c hcl
     have hd:(Z2 n i).drop k=(c:Int)::(Z2 n i).drop (k+1):=by
      rw[List.drop_eq_getElem_cons (by omega),←hcc,Qu (by omega)]
      simp
     rw[hd,Jai]at hc
     have hor:seen|||2^(JM xs c).toNat<32:=by
      refine Nat.or_lt_two_pow (n:=5) (by omega) ?_
      have:(JM xs c).toNat=0∨(JM xs c).toNat=1∨(JM xs c).toNat=2∨(JM xs c).toNat=3∨(JM xs c).toNat=4:=by omega
      rcases this with h|h|h|h|h<;>rw[h]<;>omega
     have hpw:2^(JM xs c).toNat<2^62:=Nat.pow_lt_pow_right (by omega) (by omega)
     simp(maxSteps:=999999)(disch:=omega)only[go_sem,zA,zM,zS,zE,zL,hcc]
     ((with_reducible first|refine JU ?_ ?_|refine JJ ?_ ?_|refine J6 ?_ ?_|refine Jx ?_ ?_|refine JS ?_ ?_|refine JT ?_ ?_|refine JH ?_ ?_|refine JI ?_ ?_|refine J4 ?_ ?_|refine J5 ?_ ?_|refine JC ?_ ?_|refine JD ?_ ?_)<;>intro h3<;>simp(maxSteps:=999999)(disch:=omega)only[go_sem,zA,zM,zS,zE,zL,h3])
     · simp(maxSteps:=999999)(disch:=omega)only[go_sem,zA,zM,zS,zE,zL,Fe hvc,Jcf]
       ((first|(with_reducible first|refine Jo ?_ ?_|refine Jk ?_ ?_|refine Jp ?_ ?_)|refine Jr ?_ ?_)<;>intro h4)
       · simp(maxSteps:=999999)(disch:=omega)only[go_sem,zA,zM,zS,zE,zL]
         have hcl:U8 xs (Z2 n i) 0=true:=by rw[hc,if_pos (by simp[h3,h4])]
         unfold U2
         rw[eq_comm,List.any_eq_true]
         exact⟨i,List.mem_range.2 h1,hcl⟩
       · simp(maxSteps:=999999)(disch:=omega)only[go_sem,zA,zM,zS,zE,zL,Xj hvc,RN (show seen<2^62 by omega) hpw]
         exact⟨k+1,_,⟨⟨by omega,by rw[hc,if_neg (by simp[h4])],hor⟩,by omega⟩,⟨rfl,by push_cast;omega⟩,J8 _⟩
     · simp(maxSteps:=999999)(disch:=omega)only[go_sem,zA,zM,zS,zE,zL,Xj hvc,RN (show seen<2^62 by omega) hpw]
       exact⟨k+1,_,⟨⟨by omega,by rw[hc,if_neg (by simp;omega)],hor⟩,by omega⟩,⟨rfl,by push_cast;omega⟩,J8 _⟩
   · have hkn:k=n:=by omega
     have hc':U8 xs (Z2 n i) 0=false:=by rw[hc,hkn,List.drop_of_length_le (by omega)];rfl
     simp(maxSteps:=999999)(disch:=omega)only[go_sem,zA,zM,zS,zE,zL]
     refine⟨i+1,⟨⟨by omega,fun j hj=> ?_⟩,by omega⟩,by push_cast;omega,J8 _⟩
     by_cases hji:j=i
     · rw[hji];exact hc'
     · exact hno j (by omega)
 · simp(maxSteps:=999999)(disch:=omega)only[go_sem,zA,zM,zS,zE,zL]
   unfold U2
   rw[eq_comm,List.any_eq_false]
   intro j hj
   rw[hno j (by have:=List.mem_range.1 hj;omega)]
   simp
end Go.Lg
