/- GpH, GpG, cut to what is needed. -/
import Derived.Test.YtidekghnkifbjaaGreatDoorJda9
import Derived.Test.YtidekghnkifbjaaGreatDoorJdb0
open List renaming length_cons → Ja, cons_append → Jb, nil_append → Jd, length_nil → Je, replicate → Jf, take_of_length_le → Js, map_cons → Qh, mem_cons → Qn, map_append → Qo, take_append_drop → QD, length_replicate → Q5, sum_cons → Zw, map_nil → ZJ, sum_append → US, sum_nil → Yt
open Nat renaming reduceAdd→zA,reduceMul→zM,reduceSub→zS,reduceEqDiff→zE,reduceLeDiff→zL
set_option linter.unusedSimpArgs false
set_option linter.unusedVariables false
set_option maxRecDepth 100000
namespace Go.Lg
open Go.Proofs
def K8(n:Nat)(left:Int):Int:=if left -n<0 then-1 else left -n
def wP(p:QR):Nat:=p.given.length+wRs p.rules
def wG(g:QU):Nat:=wP g.task+g.put.length+g.moves.length
theorem Wk(a b:Nat)(left:Int):(if K8 a left<0 then-1 else K8 b (K8 a left))=K8 (a+b) left:=by
 unfold K8
 split<;>split<;>(try split)<;>omega
theorem JeO{n:Nat}{left:Int}(h:left -n<0): -1=K8 n left:=by unfold K8;rw[if_pos h]
theorem JkS{n:Nat}{left:Int}(h:0≤left -n):K8 n left=left -n:=by unfold K8;rw[if_neg (by omega)]
theorem JdA{n:Nat}{left:Int}(h:¬K8 n left<0):(n:Int)≤left∧K8 n left=left -n:=by unfold K8 at*;split at h<;>simp_all<;>omega
theorem JaZ{n:Nat}{left:Int}(h:K8 n left<0):K8 n left= -1:=by unfold K8 at*;split at h<;>simp_all<;>omega
theorem JdB{n:Nat}{left:Int}(h0:0≤left):K8 n left≤left∧-1≤K8 n left:=by unfold K8;split<;>omega
theorem Va(xs:List Int)(left:Int)(hl:0≤left∧left≤1048576)(hx:xs.length≤9223372036854775807):JM Tryz.prog 57 [QF xs,int left] (int (K8 xs.length left)):=by
 refine Jk.cw (c:=_) Tryz.func57 rfl (n:=12) Tryz.ntmps57 (rs:=[.tmp 4]) rfl ?_
 simp only[Ja,Je,zA,zS,Jf,Jb,Jd]
 simp(maxSteps:=999999)(disch:=omega)only[go_sem,zA,zM,zS,zE,zL]
 ((first|(with_reducible first|refine Jm ?_ ?_|refine Jj ?_ ?_|refine Jo ?_ ?_)|refine Jr ?_ ?_)<;>intro h)
 · simp(maxSteps:=999999)(disch:=omega)only[go_sem,zA,zM,zS,zE,zL]
   simp[K8,h]
 · simp(maxSteps:=999999)(disch:=omega)only[go_sem,zA,zM,zS,zE,zL]
   simp[K8,h]
theorem Gc(r:Zq)(left:Int)(hl:0≤left∧left≤1048576)(hx:r.cells.length≤9223372036854775807):JM Tryz.prog 126 [aR r,int left] (int (K8 r.cells.length left)):=by
 refine Jk.cw (c:=_) Tryz.func126 rfl (n:=12) Tryz.ntmps126 (rs:=[.tmp 4]) rfl ?_
 simp only[Ja,Je,zA,zS,Jf,Jb,Jd]
 simp(maxSteps:=999999)(disch:=omega)only[go_sem,zA,zM,zS,zE,zL]
 intro g
 first|refine JU.rd (Va _ _ (by omega) (by omega)) (⟨_,Tryz.func57,rfl,rfl⟩:Jg Tryz.prog 57) rfl rfl rfl rfl ?_|refine JG.rd (Va _ _ (by omega) (by omega)) (⟨_,Tryz.func57,rfl,rfl⟩:Jg Tryz.prog 57) rfl rfl rfl rfl ?_
 simp(maxSteps:=999999)(disch:=omega)only[go_sem,zA,zM,zS,zE,zL]
 ((first|(with_reducible first|refine Jm ?_ ?_|refine Jj ?_ ?_|refine Jo ?_ ?_)|refine Jr ?_ ?_)<;>intro h)
 · simp(maxSteps:=999999)(disch:=omega)only[go_sem,zA,zM,zS,zE,zL]
   rw[JaZ h]
 · simp(maxSteps:=999999)(disch:=omega)only[go_sem,zA,zM,zS,zE,zL]
theorem Jhc(rs:List Zq){i:Nat}(h:i<rs.length):(rs.map fun r=>r.cells.length).take (i+1)=(rs.map fun r=>r.cells.length).take i++[(Jy rs i).cells.length]:=by
 rw[List.take_succ_eq_append_getElem (by simpa using h),Qe (by omega)];simp
theorem Q8{α:Type}[Inhabited α]{xs:List α}{i:Nat}(h:i<xs.length):Jy xs i∈xs:=by
 rw[Qe (by omega)];exact List.getElem_mem _
theorem Fa(rs:List Zq)(left:Int)(hl:0≤left∧left≤1048576)(hx:okRs rs):JM Tryz.prog 97 [Yf eR rs,int left] (int (K8 (wRs rs) left)):=by
 obtain⟨hx1,hx2⟩:=hx
 refine Jk.cw (c:=_) Tryz.func97 rfl (n:=27) Tryz.ntmps97 (rs:=[.tmp 4]) rfl ?_
 simp only[Ja,Je,zA,zS,Jf,Jb,Jd]
 simp(maxSteps:=999999)(disch:=omega)only[go_sem,zA,zM,zS,zE,zL]
 ((first|(with_reducible first|refine Jm ?_ ?_|refine Jj ?_ ?_|refine Jo ?_ ?_)|refine Jr ?_ ?_)<;>intro h)
 · simp(maxSteps:=999999)(disch:=omega)only[go_sem,zA,zM,zS,zE,zL]
   exact JeO (by unfold wRs;omega)
 · simp(maxSteps:=999999)(disch:=omega)only[go_sem,zA,zM,zS,zE,zL]
   have hs:∀i,i≤rs.length→((rs.map fun r=>r.cells.length).take i).sum≤(rs.map fun r=>r.cells.length).sum:=fun i hi=>by
    conv=>rhs;rw[←QD i (rs.map fun r=>r.cells.length),US]
    omega
   refine JO (fun i:Nat=>rs.length -i) (fun i=>i≤rs.length∧0≤left -rs.length -((rs.map fun r=>r.cells.length).take i).sum) (fun i=>[.k, .p (int (left -rs.length -((rs.map fun r=>r.cells.length).take i).sum)), .a, .a, .a, .p (int i), .a, .a, .a, .a, .a, .a, .a, .a, .a, .a, .a, .a, .a, .a, .a, .a, .a, .a, .a, .a, .a]) (fun _=>[]) 0
    ⟨Nat.zero_le _,by simp;omega⟩ (by simp(maxSteps:=999999)(disch:=omega)only[go_sem,zA,zM,zS,zE,zL];simp) (J9 _) ?_
   rintro i ⟨hi,hp⟩
   simp(maxSteps:=999999)(disch:=omega)only[go_sem,zA,zM,zS,zE,zL]
   ((first|(with_reducible first|refine Jm ?_ ?_|refine Jj ?_ ?_|refine Jo ?_ ?_)|refine Jr ?_ ?_)<;>intro h2)
   · have h2:i<rs.length:=by omega
     have hc:=hx2 _ (Q8 h2)
     have ht:=Jhc rs h2
     have hs2:=hs (i+1) h2
     rw[ht]at hs2
     simp only[US,Zw,Yt]at hs2
     simp(maxSteps:=999999)(disch:=omega)only[go_sem,zA,zM,zS,zE,zL]
     first|refine JU.rd (Gc _ _ (by omega) (by omega)) (⟨_,Tryz.func126,rfl,rfl⟩:Jg Tryz.prog 126) rfl rfl rfl rfl ?_|refine JG.rd (Gc _ _ (by omega) (by omega)) (⟨_,Tryz.func126,rfl,rfl⟩:Jg Tryz.prog 126) rfl rfl rfl rfl ?_
     simp(maxSteps:=999999)(disch:=omega)only[go_sem,zA,zM,zS,zE,zL]
     ((first|(with_reducible first|refine Jm ?_ ?_|refine Jj ?_ ?_|refine Jo ?_ ?_)|refine Jr ?_ ?_)<;>intro h3)
     · simp(maxSteps:=999999)(disch:=omega)only[go_sem,zA,zM,zS,zE,zL]
       refine JeO ?_
       unfold K8 at h3
       unfold wRs
       split at h3<;>omega
     · simp(maxSteps:=999999)(disch:=omega)only[go_sem,zA,zM,zS,zE,zL]
       simp only[K8]at*
       split at h3
       · simp at h3
       · rename_i h4
         simp only[h4]
         refine⟨i+1,⟨⟨h2, ?_⟩,by omega⟩,⟨?_,by omega⟩,J9 _⟩
         · rw[ht];simp;omega
         · rw[ht];simp;omega
   · have:i=rs.length:=by omega
     subst this
     simp(maxSteps:=999999)(disch:=omega)only[go_sem,zA,zM,zS,zE,zL]
     rw[Js (by simp)]at*
     rw[JkS (by unfold wRs;omega)]
     unfold wRs
     omega
theorem Rz(p:QR)(left:Int)(hl:0≤left∧left≤1048576)(hx:JlA p):JM Tryz.prog 56 [aP p,int left] (int (K8 (wP p) left)):=by
 obtain⟨hx1,hx2⟩:=hx
 refine Jk.cw (c:=_) Tryz.func56 rfl (n:=18) Tryz.ntmps56 (rs:=[.tmp 4]) rfl ?_
 simp only[Ja,Je,zA,zS,Jf,Jb,Jd]
 simp(maxSteps:=999999)(disch:=omega)only[go_sem,zA,zM,zS,zE,zL]
 intro g
 first|refine JU.rd (Va _ _ (by omega) (by omega)) (⟨_,Tryz.func57,rfl,rfl⟩:Jg Tryz.prog 57) rfl rfl rfl rfl ?_|refine JG.rd (Va _ _ (by omega) (by omega)) (⟨_,Tryz.func57,rfl,rfl⟩:Jg Tryz.prog 57) rfl rfl rfl rfl ?_
 simp(maxSteps:=999999)(disch:=omega)only[go_sem,zA,zM,zS,zE,zL]
 have hb:=JdB (n:=p.given.length) hl.1
 ((first|(with_reducible first|refine Jm ?_ ?_|refine Jj ?_ ?_|refine Jo ?_ ?_)|refine Jr ?_ ?_)<;>intro h)
 · simp(maxSteps:=999999)(disch:=omega)only[go_sem,zA,zM,zS,zE,zL]
   rw[wP,←Wk,if_pos h]
 · simp(maxSteps:=999999)(disch:=omega)only[go_sem,zA,zM,zS,zE,zL]
   first|refine JU.rd (Fa _ _ (by omega) hx2) (⟨_,Tryz.func97,rfl,rfl⟩:Jg Tryz.prog 97) rfl rfl rfl rfl ?_|refine JG.rd (Fa _ _ (by omega) hx2) (⟨_,Tryz.func97,rfl,rfl⟩:Jg Tryz.prog 97) rfl rfl rfl rfl ?_
   simp(maxSteps:=999999)(disch:=omega)only[go_sem,zA,zM,zS,zE,zL]
   ((first|(with_reducible first|refine Jm ?_ ?_|refine Jj ?_ ?_|refine Jo ?_ ?_)|refine Jr ?_ ?_)<;>intro h2)
   · simp(maxSteps:=999999)(disch:=omega)only[go_sem,zA,zM,zS,zE,zL]
     rw[wP,←Wk,if_neg h,JaZ h2]
   · simp(maxSteps:=999999)(disch:=omega)only[go_sem,zA,zM,zS,zE,zL]
     rw[wP,←Wk,if_neg h]
theorem Yc(p:QU)(left:Int)(hl:0≤left∧left≤1048576)(hx:okG p):JM Tryz.prog 17 [aG p,int left] (int (K8 (wG p) left)):=by
 obtain⟨hx1,hx2,hx3⟩:=hx
 refine Jk.cw (c:=_) Tryz.func17 rfl (n:=24) Tryz.ntmps17 (rs:=[.tmp 4]) rfl ?_
 simp only[Ja,Je,zA,zS,Jf,Jb,Jd]
 simp(maxSteps:=999999)(disch:=omega)only[go_sem,zA,zM,zS,zE,zL]
 intro g
 first|refine JU.rd (Rz p.task _ (by omega) hx1) (⟨_,Tryz.func56,rfl,rfl⟩:Jg Tryz.prog 56) rfl rfl rfl rfl ?_|refine JG.rd (Rz p.task _ (by omega) hx1) (⟨_,Tryz.func56,rfl,rfl⟩:Jg Tryz.prog 56) rfl rfl rfl rfl ?_
 simp(maxSteps:=999999)(disch:=omega)only[go_sem,zA,zM,zS,zE,zL]
 have hb:=JdB (n:=wP p.task) hl.1
 ((first|(with_reducible first|refine Jm ?_ ?_|refine Jj ?_ ?_|refine Jo ?_ ?_)|refine Jr ?_ ?_)<;>intro h)
 · simp(maxSteps:=999999)(disch:=omega)only[go_sem,zA,zM,zS,zE,zL]
   rw[wG,Nat.add_assoc,←Wk,if_pos h]
 · simp(maxSteps:=999999)(disch:=omega)only[go_sem,zA,zM,zS,zE,zL]
   first|refine JU.rd (Va _ _ (by omega) (by omega)) (⟨_,Tryz.func57,rfl,rfl⟩:Jg Tryz.prog 57) rfl rfl rfl rfl ?_|refine JG.rd (Va _ _ (by omega) (by omega)) (⟨_,Tryz.func57,rfl,rfl⟩:Jg Tryz.prog 57) rfl rfl rfl rfl ?_
   simp(maxSteps:=999999)(disch:=omega)only[go_sem,zA,zM,zS,zE,zL]
   have hb2:=JdB (n:=p.put.length) (left:=K8 (wP p.task) left) (by omega)
   ((first|(with_reducible first|refine Jm ?_ ?_|refine Jj ?_ ?_|refine Jo ?_ ?_)|refine Jr ?_ ?_)<;>intro h2)
   · simp(maxSteps:=999999)(disch:=omega)only[go_sem,zA,zM,zS,zE,zL]
     rw[wG,Nat.add_assoc,←Wk,if_neg h,←Wk,if_pos h2]
   · simp(maxSteps:=999999)(disch:=omega)only[go_sem,zA,zM,zS,zE,zL]
     first|refine JU.rd (Va _ _ (by omega) (by omega)) (⟨_,Tryz.func57,rfl,rfl⟩:Jg Tryz.prog 57) rfl rfl rfl rfl ?_|refine JG.rd (Va _ _ (by omega) (by omega)) (⟨_,Tryz.func57,rfl,rfl⟩:Jg Tryz.prog 57) rfl rfl rfl rfl ?_
     simp(maxSteps:=999999)(disch:=omega)only[go_sem,zA,zM,zS,zE,zL]
     ((first|(with_reducible first|refine Jm ?_ ?_|refine Jj ?_ ?_|refine Jo ?_ ?_)|refine Jr ?_ ?_)<;>intro h3)
     · simp(maxSteps:=999999)(disch:=omega)only[go_sem,zA,zM,zS,zE,zL]
       rw[wG,Nat.add_assoc,←Wk,if_neg h,←Wk,if_neg h2,JaZ h3]
     · simp(maxSteps:=999999)(disch:=omega)only[go_sem,zA,zM,zS,zE,zL]
       rw[wG,Nat.add_assoc,←Wk,if_neg h,←Wk,if_neg h2]
theorem F8(r:Zq)(hx:r.cells.length≤2^40):JM Tryz.prog 128 [aR r] (aR r):=by
 refine Jk.cw (c:=_) Tryz.func128 rfl (n:=15) Tryz.ntmps128 (rs:=[.cell 2 101]) rfl ?_
 simp only[Ja,Je,zA,zS,Jf,Jb,Jd]
 simp(maxSteps:=999999)(disch:=omega)only[go_sem,zA,zM,zS,zE,zL]
 intro g1 g2 g3
 first|refine JU.mk (U9 r.cells hx) (⟨_,Tryz.func60,rfl,rfl⟩:Jg Tryz.prog 60) rfl rfl rfl rfl rfl ?_|refine JG.mk (U9 r.cells hx) (⟨_,Tryz.func60,rfl,rfl⟩:Jg Tryz.prog 60) rfl rfl rfl rfl rfl ?_
 simp(maxSteps:=999999)(disch:=omega)only[go_sem,zA,zM,zS,zE,zL]
def eRo(r:Option Zq):List FV:=match r with|none=>[.int .i64 0, .nil, .int .i64 0]|some r=>eR r
instance:HSz eRo 3:=⟨fun r=>by cases r<;>rfl⟩
theorem Jl4(rs:List Zq):cl eRo (rs.map some)=cl eR rs:=by
 simp only[cl,fl,List.flatMap_map];rfl
theorem Jjw(n:Nat):QL (n*3) [.f (.int .i64 0), .f .nil, .f (.int .i64 0)]=cl eRo (Jf n none):=by
 induction n with
 |zero=>rfl
 |succ n ih=>
  have e:QL ((n+1)*3) [.f (.int .i64 0), .f .nil, .f (.int .i64 0)]=QL (n*3) [.f (.int .i64 0), .f .nil, .f (.int .i64 0)]++[.f (.int .i64 0), .f .nil, .f (.int .i64 0)]:=by
   simp only[QL,Nat.add_mul,List.range_add,Qo,Ja,Je]
   congr 1
   simp only[List.range_succ,List.range_zero,Jd,Qo,Qh,ZJ,Jb,List.map_map]
   simp[Nat.add_mod,Nat.mul_mod]
  rw[e,ih,List.replicate_succ',Q7];rfl
theorem setRo{xs:List (Option Zq)}{e:Int}{v:Zq}(h:0≤e∧e<(xs.length:Int)):J6 (cl eRo xs) (0+e.toNat*3) (cR v)=cl eRo (xs.set e.toNat (some v)):=
 RH (E:=eRo) (v:=some v) rfl h
theorem Jk6(n:Nat):QL (n*2) [.f (.int .i64 0), .f (.int .i64 0)]=cl eB (Jf n ⟨0,0⟩):=by
 induction n with
 |zero=>rfl
 |succ n ih=>
  have e:QL ((n+1)*2) [.f (.int .i64 0), .f (.int .i64 0)]=QL (n*2) [.f (.int .i64 0), .f (.int .i64 0)]++[.f (.int .i64 0), .f (.int .i64 0)]:=by
   simp only[QL,Nat.add_mul,List.range_add,Qo,Ja,Je]
   congr 1
   simp only[List.range_succ,List.range_zero,Jd,Qo,Qh,ZJ,Jb,List.map_map]
   simp[Nat.add_mod,Nat.mul_mod]
  rw[e,ih,List.replicate_succ',Q7];rfl
theorem setB{xs:List Brn}{e:Int}{v:Brn}(h:0≤e∧e<(xs.length:Int)):J6 (cl eB xs) (0+e.toNat*2) (cB v)=cl eB (xs.set e.toNat v):=
 RH (E:=eB) rfl h
attribute [go_sem] Jjw setRo Jk6 setB
theorem JbZ(rs:List Zq)(hn:rs.length≤2^40)(hx:∀r∈rs,r.cells.length≤2^40):Jk Tryz.prog 99 [Yf eR rs] [] (RX eR 3 rs):=by
 refine Jk.cw (c:=_) Tryz.func99 rfl (n:=23) Tryz.ntmps99 (rs:=[.tmp 2]) rfl ?_
 simp only[Ja,Je,zA,zS,Jf,Jb,Jd]
 simp(maxSteps:=999999)(disch:=omega)only[go_sem,zA,zM,zS,zE,zL]
 intro g
 refine Qx (fun(i:Nat) (ys:List (Option Zq))=>rs.length -i) (fun i ys=>i≤rs.length∧ys.length=rs.length∧∀j:Nat,j<i→Jy ys j=some (Jy rs j)) (fun i _=>[.k, .a, .a, .k, .p (int i), .a, .a, .a, .a, .a, .a, .a, .a, .a, .a, .a, .a, .a, .a, .a, .a, .a, .a]) (fun _ ys=>[some ⟨g,3,cl eRo ys⟩]) 0 (Jf rs.length none)
  ⟨Nat.zero_le _,Q5,fun j hj=>absurd hj (Nat.not_lt_zero _)⟩ (by simp(maxSteps:=999999)(disch:=omega)only[go_sem,zA,zM,zS,zE,zL];rfl) (J5.refl _) ?_
 rintro i ys ⟨hi,hl,hall⟩
 simp(maxSteps:=999999)(disch:=omega)only[go_sem,zA,zM,zS,zE,zL]
 ((first|(with_reducible first|refine Jm ?_ ?_|refine Jj ?_ ?_|refine Jo ?_ ?_)|refine Jr ?_ ?_)<;>intro h)
 · have h:i<rs.length:=by omega
   simp(maxSteps:=999999)(disch:=omega)only[go_sem,zA,zM,zS,zE,zL]
   first|refine JU.mk (F8 (Jy rs i) (hx _ (Q8 h))) (⟨_,Tryz.func128,rfl,rfl⟩:Jg Tryz.prog 128) rfl rfl rfl rfl rfl ?_|refine JG.mk (F8 (Jy rs i) (hx _ (Q8 h))) (⟨_,Tryz.func128,rfl,rfl⟩:Jg Tryz.prog 128) rfl rfl rfl rfl rfl ?_
   simp(maxSteps:=999999)(disch:=omega)only[go_sem,zA,zM,zS,zE,zL]
   refine⟨i+1,ys.set i (some (Jy rs i)),⟨⟨h,by simp[hl],fun j hj=> ?_⟩,by omega⟩,by simp,J5.refl _⟩
   rw[VU _ _ _ _ (by omega) (by omega)]
   split
   · simp_all
   · exact hall j (by omega)
 simp(maxSteps:=999999)(disch:=omega)only[go_sem,zA,zM,zS,zE,zL]
 have:ys=rs.map some:=V0 (by simp[hl]) fun j hj=>by
  rw[hall j (by omega),Qe (xs:=rs.map some) (by simp;omega),Qe (by omega)];simp
 subst this
 rw[Jl4]
 exact ZK (J5.refl _)
theorem B8(rs:List Zq)(hn:rs.length≤2^40)(hx:∀r∈rs,r.cells.length≤2^40):JM Tryz.prog 99 [Yf eR rs] (Yf eR rs):=JM.own (JbZ rs hn hx)
def JdH(rs:List Zq):Prop:=rs.length≤2^40∧∀r∈rs,r.cells.length≤2^40
def RC(p:QR):Prop:=p.given.length≤2^40∧JdH p.rules
def smG(g:QU):Prop:=RC g.task∧g.put.length≤2^40∧g.moves.length≤2^40
theorem JjI{rs:List Zq}{r:Zq}(h:r∈rs):r.cells.length≤(rs.map fun r=>r.cells.length).sum:=by
 induction rs with
 |nil=>cases h
 |cons a rs ih=>
  simp only[Qh,Zw]
  rcases Qn.1 h with rfl|h
  · omega
  · have:=ih h;omega
theorem JjJ{rs:List Zq}{n:Nat}(hn:n≤2^40)(h:wRs rs≤n):JdH rs:=by
 unfold wRs at h
 exact⟨by omega,fun r hr=>by have:=JjI hr;omega⟩
theorem Jlm{p:QR}{n:Nat}(hn:n≤2^40)(h:wP p≤n):RC p:=by
 unfold wP at h
 exact⟨by omega,JjJ hn (by omega)⟩
theorem Jhq{p:QU}{n:Nat}(hn:n≤2^40)(h:wG p≤n):smG p:=by
 unfold wG at h
 exact⟨Jlm hn (by omega),by omega,by omega⟩
theorem Ry(p:QR)(hx:RC p):JM Tryz.prog 59 [aP p] (aP p):=by
 refine Jk.cw (c:=_) Tryz.func59 rfl (n:=16) Tryz.ntmps59 (rs:=[.cell 2 26]) rfl ?_
 simp only[Ja,Je,zA,zS,Jf,Jb,Jd]
 simp(maxSteps:=999999)(disch:=omega)only[go_sem,zA,zM,zS,zE,zL]
 intro g1 g2 g3
 first|refine JU.mk (U9 p.given hx.1) (⟨_,Tryz.func60,rfl,rfl⟩:Jg Tryz.prog 60) rfl rfl rfl rfl rfl ?_|refine JG.mk (U9 p.given hx.1) (⟨_,Tryz.func60,rfl,rfl⟩:Jg Tryz.prog 60) rfl rfl rfl rfl rfl ?_
 simp(maxSteps:=999999)(disch:=omega)only[go_sem,zA,zM,zS,zE,zL]
 first|refine JU.mk (B8 p.rules hx.2.1 hx.2.2) (⟨_,Tryz.func99,rfl,rfl⟩:Jg Tryz.prog 99) rfl rfl rfl rfl rfl ?_|refine JG.mk (B8 p.rules hx.2.1 hx.2.2) (⟨_,Tryz.func99,rfl,rfl⟩:Jg Tryz.prog 99) rfl rfl rfl rfl rfl ?_
 simp(maxSteps:=999999)(disch:=omega)only[go_sem,zA,zM,zS,zE,zL]
theorem Us(p:QU)(hx:smG p):JM Tryz.prog 20 [aG p] (aG p):=by
 refine Jk.cw (c:=_) Tryz.func20 rfl (n:=17) Tryz.ntmps20 (rs:=[.cell 2 28]) rfl ?_
 simp only[Ja,Je,zA,zS,Jf,Jb,Jd]
 simp(maxSteps:=999999)(disch:=omega)only[go_sem,zA,zM,zS,zE,zL]
 intro g1 g2 g3
 first|refine JU.mk (Ry p.task hx.1) (⟨_,Tryz.func59,rfl,rfl⟩:Jg Tryz.prog 59) rfl rfl rfl rfl rfl ?_|refine JG.mk (Ry p.task hx.1) (⟨_,Tryz.func59,rfl,rfl⟩:Jg Tryz.prog 59) rfl rfl rfl rfl rfl ?_
 simp(maxSteps:=999999)(disch:=omega)only[go_sem,zA,zM,zS,zE,zL]
 first|refine JU.mk (U9 p.put hx.2.1) (⟨_,Tryz.func60,rfl,rfl⟩:Jg Tryz.prog 60) rfl rfl rfl rfl rfl ?_|refine JG.mk (U9 p.put hx.2.1) (⟨_,Tryz.func60,rfl,rfl⟩:Jg Tryz.prog 60) rfl rfl rfl rfl rfl ?_
 simp(maxSteps:=999999)(disch:=omega)only[go_sem,zA,zM,zS,zE,zL]
 first|refine JU.mk (U9 p.moves hx.2.2) (⟨_,Tryz.func60,rfl,rfl⟩:Jg Tryz.prog 60) rfl rfl rfl rfl rfl ?_|refine JG.mk (U9 p.moves hx.2.2) (⟨_,Tryz.func60,rfl,rfl⟩:Jg Tryz.prog 60) rfl rfl rfl rfl rfl ?_
 simp(maxSteps:=999999)(disch:=omega)only[go_sem,zA,zM,zS,zE,zL]
theorem Jee(r q:Zq)(hx:r.cells.length≤2^40):JM Tryz.prog 129 [aR r,aR q] (bool (decide (r=q))):=by
 obtain⟨r1,r2,r3⟩:=r
 obtain⟨q1,q2,q3⟩:=q
 refine Jk.cw (c:=_) Tryz.func129 rfl (n:=21) Tryz.ntmps129 (rs:=[.tmp 4]) rfl ?_
 simp only[Ja,Je,zA,zS,Jf,Jb,Jd]
 simp(maxSteps:=999999)(disch:=omega)only[go_sem,zA,zM,zS,zE,zL]
 intro g1 g2
 ((first|(with_reducible first|refine Jm ?_ ?_|refine Jj ?_ ?_|refine Jo ?_ ?_)|refine Jr ?_ ?_)<;>intro h)
 · simp(maxSteps:=999999)(disch:=omega)only[go_sem,zA,zM,zS,zE,zL]
   first|refine JU.rd (Vf _ _ hx) (⟨_,Tryz.func62,rfl,rfl⟩:Jg Tryz.prog 62) rfl rfl rfl rfl ?_|refine JG.rd (Vf _ _ hx) (⟨_,Tryz.func62,rfl,rfl⟩:Jg Tryz.prog 62) rfl rfl rfl rfl ?_
   simp(maxSteps:=999999)(disch:=omega)only[go_sem,zA,zM,zS,zE,zL]
   ((first|(with_reducible first|refine Jm ?_ ?_|refine Jj ?_ ?_|refine Jo ?_ ?_)|refine Jr ?_ ?_)<;>intro h2)
   · simp(maxSteps:=999999)(disch:=omega)only[go_sem,zA,zM,zS,zE,zL]
     ((first|(with_reducible first|refine Jm ?_ ?_|refine Jj ?_ ?_|refine Jo ?_ ?_)|refine Jr ?_ ?_)<;>intro h3)
     · simp(maxSteps:=999999)(disch:=omega)only[go_sem,zA,zM,zS,zE,zL]
       simp[h,h2,h3]
     · simp(maxSteps:=999999)(disch:=omega)only[go_sem,zA,zM,zS,zE,zL]
       simp[h3]
   · simp(maxSteps:=999999)(disch:=omega)only[go_sem,zA,zM,zS,zE,zL]
     simp[h2]
 · simp(maxSteps:=999999)(disch:=omega)only[go_sem,zA,zM,zS,zE,zL]
   simp[h]
theorem Fu(xs ys:List Zq)(hx:JdH xs):JM Tryz.prog 100 [Yf eR xs,Yf eR ys] (bool (decide (xs=ys))):=by
 have hx1:=hx.1
 refine Jk.cw (c:=_) Tryz.func100 rfl (n:=27) Tryz.ntmps100 (rs:=[.tmp 4]) rfl ?_
 simp only[Ja,Je,zA,zS,Jf,Jb,Jd]
 simp(maxSteps:=999999)(disch:=omega)only[go_sem,zA,zM,zS,zE,zL]
 ((first|(with_reducible first|refine Jm ?_ ?_|refine Jj ?_ ?_|refine Jo ?_ ?_)|refine Jr ?_ ?_)<;>intro h)
 · have hl:xs.length=ys.length:=by omega
   simp(maxSteps:=999999)(disch:=omega)only[go_sem,zA,zM,zS,zE,zL]
   refine JO (fun i:Nat=>xs.length -i) (fun i=>i≤xs.length∧∀j:Nat,j<i→Jy xs j=Jy ys j) (fun i=>[.k, .k, .a, .a, .a, .p (int i), .a, .a, .a, .a, .a, .a, .a, .a, .a, .a, .a, .a, .a, .a, .a, .a, .a, .a, .a, .a, .a]) (fun i=>[]) 0
    ⟨Nat.zero_le _,fun j hj=>absurd hj (Nat.not_lt_zero _)⟩ (by simp(maxSteps:=999999)(disch:=omega)only[go_sem,zA,zM,zS,zE,zL];rfl) (J9 _) ?_
   rintro i ⟨hi,hall⟩
   simp(maxSteps:=999999)(disch:=omega)only[go_sem,zA,zM,zS,zE,zL]
   ((first|(with_reducible first|refine Jm ?_ ?_|refine Jj ?_ ?_|refine Jo ?_ ?_)|refine Jr ?_ ?_)<;>intro h)
   · have h:i<xs.length:=by omega
     simp(maxSteps:=999999)(disch:=omega)only[go_sem,zA,zM,zS,zE,zL]
     refine Zi ZE (by kernel_rfl) ?_
     simp(maxSteps:=999999)(disch:=omega)only[go_sem,Nat.reduceBEq,Bool.true_or,zA,zM,zS,zE,zL]
     refine QM.rd (Jee (Jy xs i) (Jy ys i) (hx.2 _ (Q8 h))) (⟨_,Tryz.func129,rfl,rfl⟩:Jg Tryz.prog 129) rfl rfl rfl rfl ?_
     simp(maxSteps:=999999)(disch:=omega)only[go_sem,zA,zM,zS,zE,zL]
     ((first|(with_reducible first|refine Jm ?_ ?_|refine Jj ?_ ?_|refine Jo ?_ ?_)|refine Jr ?_ ?_)<;>intro h2)
     · simp(maxSteps:=999999)(disch:=omega)only[go_sem,zA,zM,zS,zE,zL]
       refine⟨i+1,⟨⟨by omega,fun j hj=> ?_⟩,by omega⟩,by omega,J9 _⟩
       rcases Nat.lt_succ_iff_lt_or_eq.1 hj with hj|rfl
       · exact hall j hj
       · exact h2
     · simp(maxSteps:=999999)(disch:=omega)only[go_sem,zA,zM,zS,zE,zL]
       symm;simp;intro h3;exact h2 (by rw[h3])
   simp(maxSteps:=999999)(disch:=omega)only[go_sem,zA,zM,zS,zE,zL]
   have:=V0 hl fun j hj=>hall j (by omega)
   simp[this]
 · simp(maxSteps:=999999)(disch:=omega)only[go_sem,zA,zM,zS,zE,zL]
   symm;simp;intro h3;exact h (by rw[h3])
theorem Bg(p q:QR)(hx:RC p):JM Tryz.prog 61 [aP p,aP q] (bool (decide (p=q))):=by
 obtain⟨p1,p2,p3⟩:=p
 obtain⟨q1,q2,q3⟩:=q
 refine Jk.cw (c:=_) Tryz.func61 rfl (n:=22) Tryz.ntmps61 (rs:=[.tmp 4]) rfl ?_
 simp only[Ja,Je,zA,zS,Jf,Jb,Jd]
 simp(maxSteps:=999999)(disch:=omega)only[go_sem,zA,zM,zS,zE,zL]
 intro g1 g2
 ((first|(with_reducible first|refine Jm ?_ ?_|refine Jj ?_ ?_|refine Jo ?_ ?_)|refine Jr ?_ ?_)<;>intro h)
 · simp(maxSteps:=999999)(disch:=omega)only[go_sem,zA,zM,zS,zE,zL]
   first|refine JU.rd (Vf _ _ hx.1) (⟨_,Tryz.func62,rfl,rfl⟩:Jg Tryz.prog 62) rfl rfl rfl rfl ?_|refine JG.rd (Vf _ _ hx.1) (⟨_,Tryz.func62,rfl,rfl⟩:Jg Tryz.prog 62) rfl rfl rfl rfl ?_
   simp(maxSteps:=999999)(disch:=omega)only[go_sem,zA,zM,zS,zE,zL]
   ((first|(with_reducible first|refine Jm ?_ ?_|refine Jj ?_ ?_|refine Jo ?_ ?_)|refine Jr ?_ ?_)<;>intro h2)
   · simp(maxSteps:=999999)(disch:=omega)only[go_sem,zA,zM,zS,zE,zL]
     first|refine JU.rd (Fu _ _ hx.2) (⟨_,Tryz.func100,rfl,rfl⟩:Jg Tryz.prog 100) rfl rfl rfl rfl ?_|refine JG.rd (Fu _ _ hx.2) (⟨_,Tryz.func100,rfl,rfl⟩:Jg Tryz.prog 100) rfl rfl rfl rfl ?_
     simp(maxSteps:=999999)(disch:=omega)only[go_sem,zA,zM,zS,zE,zL]
     ((first|(with_reducible first|refine Jm ?_ ?_|refine Jj ?_ ?_|refine Jo ?_ ?_)|refine Jr ?_ ?_)<;>intro h3)
     · simp(maxSteps:=999999)(disch:=omega)only[go_sem,zA,zM,zS,zE,zL]
       simp[h,h2,h3]
     · simp(maxSteps:=999999)(disch:=omega)only[go_sem,zA,zM,zS,zE,zL]
       simp[h3]
   · simp(maxSteps:=999999)(disch:=omega)only[go_sem,zA,zM,zS,zE,zL]
     simp[h2]
 · simp(maxSteps:=999999)(disch:=omega)only[go_sem,zA,zM,zS,zE,zL]
   simp[h]
theorem Uu(p q:QU)(hx:smG p):JM Tryz.prog 23 [aG p,aG q] (bool (decide (p=q))):=by
 obtain⟨p1,p2,p3⟩:=p
 obtain⟨q1,q2,q3⟩:=q
 refine Jk.cw (c:=_) Tryz.func23 rfl (n:=23) Tryz.ntmps23 (rs:=[.tmp 4]) rfl ?_
 simp only[Ja,Je,zA,zS,Jf,Jb,Jd]
 simp(maxSteps:=999999)(disch:=omega)only[go_sem,zA,zM,zS,zE,zL]
 intro g1 g2
 first|refine JU.rd (Bg p1 q1 hx.1) (⟨_,Tryz.func61,rfl,rfl⟩:Jg Tryz.prog 61) rfl rfl rfl rfl ?_|refine JG.rd (Bg p1 q1 hx.1) (⟨_,Tryz.func61,rfl,rfl⟩:Jg Tryz.prog 61) rfl rfl rfl rfl ?_
 simp(maxSteps:=999999)(disch:=omega)only[go_sem,zA,zM,zS,zE,zL]
 ((first|(with_reducible first|refine Jm ?_ ?_|refine Jj ?_ ?_|refine Jo ?_ ?_)|refine Jr ?_ ?_)<;>intro h)
 · simp(maxSteps:=999999)(disch:=omega)only[go_sem,zA,zM,zS,zE,zL]
   first|refine JU.rd (Vf _ _ hx.2.1) (⟨_,Tryz.func62,rfl,rfl⟩:Jg Tryz.prog 62) rfl rfl rfl rfl ?_|refine JG.rd (Vf _ _ hx.2.1) (⟨_,Tryz.func62,rfl,rfl⟩:Jg Tryz.prog 62) rfl rfl rfl rfl ?_
   simp(maxSteps:=999999)(disch:=omega)only[go_sem,zA,zM,zS,zE,zL]
   ((first|(with_reducible first|refine Jm ?_ ?_|refine Jj ?_ ?_|refine Jo ?_ ?_)|refine Jr ?_ ?_)<;>intro h2)
   · simp(maxSteps:=999999)(disch:=omega)only[go_sem,zA,zM,zS,zE,zL]
     first|refine JU.rd (Vf _ _ hx.2.2) (⟨_,Tryz.func62,rfl,rfl⟩:Jg Tryz.prog 62) rfl rfl rfl rfl ?_|refine JG.rd (Vf _ _ hx.2.2) (⟨_,Tryz.func62,rfl,rfl⟩:Jg Tryz.prog 62) rfl rfl rfl rfl ?_
     simp(maxSteps:=999999)(disch:=omega)only[go_sem,zA,zM,zS,zE,zL]
     ((first|(with_reducible first|refine Jm ?_ ?_|refine Jj ?_ ?_|refine Jo ?_ ?_)|refine Jr ?_ ?_)<;>intro h3)
     · simp(maxSteps:=999999)(disch:=omega)only[go_sem,zA,zM,zS,zE,zL]
       simp[h,h2,h3]
     · simp(maxSteps:=999999)(disch:=omega)only[go_sem,zA,zM,zS,zE,zL]
       simp[h3]
   · simp(maxSteps:=999999)(disch:=omega)only[go_sem,zA,zM,zS,zE,zL]
     simp[h2]
 · simp(maxSteps:=999999)(disch:=omega)only[go_sem,zA,zM,zS,zE,zL]
   simp[h]
end Go.Lg

namespace Go.Lg
open Go.Proofs
theorem Kg{α:Type}[Inhabited α]{xs:List α}{f:α→Bool}{i:Nat}(h:i<xs.length):(xs.take (i+1)).countP f=(xs.take i).countP f+if f (Jy xs i)then 1 else 0:=by
 rw[Qa h,List.countP_append];simp[List.countP_cons]
theorem JaO{α:Type}(xs:List α)(f:α→Bool)(i:Nat):(xs.take i).countP f≤xs.length:=by
 have:=List.countP_le_length (p:=f) (l:=xs.take i)
 simp at this;omega
def ZU(xs:List Int)(n:Int):Int:=if Qc xs n then(xs.countP fun v=>decide (0<v):Nat)else-1
theorem Xj(xs:List Int)(n:Int)(hx:xs.length≤2^40):JM Tryz.prog 43 [QF xs,int n] (int (ZU xs n)):=by
 refine Jk.cw (c:=_) Tryz.func43 rfl (n:=24) Tryz.ntmps43 (rs:=[.tmp 4]) rfl ?_
 simp only[Ja,Je,zA,zS,Jf,Jb,Jd]
 simp(maxSteps:=999999)(disch:=omega)only[go_sem,zA,zM,zS,zE,zL]
 first|refine JU.rd (Zv xs n (by omega)) (⟨_,Tryz.func54,rfl,rfl⟩:Jg Tryz.prog 54) rfl rfl rfl rfl ?_|refine JG.rd (Zv xs n (by omega)) (⟨_,Tryz.func54,rfl,rfl⟩:Jg Tryz.prog 54) rfl rfl rfl rfl ?_
 simp(maxSteps:=999999)(disch:=omega)only[go_sem,zA,zM,zS,zE,zL]
 ((first|(with_reducible first|refine Jm ?_ ?_|refine Jj ?_ ?_|refine Jo ?_ ?_)|refine Jr ?_ ?_)<;>intro hv)
 rotate_left
 · simp(maxSteps:=999999)(disch:=omega)only[go_sem,zA,zM,zS,zE,zL]
   simp[ZU,hv]
 simp(maxSteps:=999999)(disch:=omega)only[go_sem,zA,zM,zS,zE,zL]
 refine JO (fun i:Nat=>xs.length -i) (fun i=>i≤xs.length) (fun i=>[.a, .a, .a, .a, .a, .p (int ((xs.take i).countP fun v=>decide (0<v):Nat)), .a, .a, .a, .a, .a, .a, .k, .k, .p (int i), .a, .a, .a, .a, .a, .a, .a, .a, .a]) (fun _=>[]) 0
  (Nat.zero_le _) (by simp(maxSteps:=999999)(disch:=omega)only[go_sem,zA,zM,zS,zE,zL];simp) (J9 _) ?_
 intro i hi
 have hb:=JaO xs (fun v=>decide (0<v)) i
 simp(maxSteps:=999999)(disch:=omega)only[go_sem,zA,zM,zS,zE,zL]
 ((first|(with_reducible first|refine Jm ?_ ?_|refine Jj ?_ ?_|refine Jo ?_ ?_)|refine Jr ?_ ?_)<;>intro h)
 · have h:i<xs.length:=by omega
   have hc:=Kg (f:=fun v=>decide (0<v)) h
   simp(maxSteps:=999999)(disch:=omega)only[go_sem,zA,zM,zS,zE,zL]
   ((first|(with_reducible first|refine Jm ?_ ?_|refine Jj ?_ ?_|refine Jo ?_ ?_)|refine Jr ?_ ?_)<;>intro h2)
   · simp(maxSteps:=999999)(disch:=omega)only[go_sem,zA,zM,zS,zE,zL]
     refine⟨i+1,⟨h,by omega⟩,⟨?_,by omega⟩,J9 _⟩
     rw[hc];simp[h2]
   · simp(maxSteps:=999999)(disch:=omega)only[go_sem,zA,zM,zS,zE,zL]
     refine⟨i+1,⟨h,by omega⟩,⟨?_,by omega⟩,J9 _⟩
     rw[hc];simp[h2]
 · simp(maxSteps:=999999)(disch:=omega)only[go_sem,zA,zM,zS,zE,zL]
   rw[Js (by omega)]
   simp only[ZU,hv,if_true]
end Go.Lg
