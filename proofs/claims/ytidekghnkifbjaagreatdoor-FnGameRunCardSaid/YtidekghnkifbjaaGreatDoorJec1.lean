/- GpGB, GpGC, cut to what is needed. -/
import Derived.Test.YtidekghnkifbjaaGreatDoorJeb7
import Derived.Test.YtidekghnkifbjaaGreatDoorJec0
open List renaming getElem?_append_left → Ja, cons_append → Jb, nil_append → Jc, replicate → Jd, length_cons → Je, length_nil → Jf, getElem?_set_ne → Jg, getElem?_eq_some_iff → Jh, length_append → Jk, length_set → Jo, take_of_length_le → Js, append_nil → Ju, length_take → JP, drop_zero → JR, mem_append → J2, mapM_cons → J4, map_cons → Qr, mapM_nil → Qw, take_append_drop → Q8, sum_cons → Wz
open Nat renaming reduceAdd→zA,reduceMul→zM,reduceSub→zS,reduceEqDiff→zE,reduceLeDiff→zL
set_option linter.unusedSimpArgs false
set_option linter.unusedVariables false
set_option maxRecDepth 100000
namespace Go.Lg
open Go.Proofs
attribute [-go_sem] J9 Jv
structure RlI(H HI:Jm)(id g:Nat)(B:Int)(m g8 g2:Nat)(ys:List Int):Prop where
 out:look HI H.length g8=some ⟨g8,3,[.f (.int .i64 0), .f .nil, .f (.int .i64 0)]⟩
 cells:look HI (H.length+1) g2=some ⟨g2,1,cl (eI .i64) ys⟩
 l1:1≤ys.length
 l4:ys.length≤4
 val:∀k:Nat,k<ys.length→0≤JA ys k∧JA ys k<(m:Int)*m
 rd:Zm HI id g B
 lt:id<H.length
 ln:H.length+2≤HI.length
 frm:∀k,k<H.length→k≠id→HI[k]? =H[k]?
section
variable{H HI H2:Jm}{id g m g8 g2:Nat}{B B':Int}{ys:List Int}
theorem RlI.mono(h:RlI H HI id g B m g8 g2 ys)(hb:B≤B'):RlI H HI id g B' m g8 g2 ys:={h with rd:=h.rd.mono hb}
theorem RlI.pick(h:RlI H HI id g B m g8 g2 ys)(hr:Zm H2 id g B')(hf:Vi HI H2 [id]):RlI H H2 id g B' m g8 g2 ys:=
 {out:=by rw[hf.look (by have:=h.lt;simp;omega)];exact h.out
  cells:=by rw[hf.look (by have:=h.lt;simp;omega)];exact h.cells
  l1:=h.l1,l4:=h.l4,val:=h.val,rd:=hr,lt:=h.lt,ln:=by rw[hf.1];exact h.ln
  frm:=fun k hk hn=>by rw[hf.2 k (by simpa using hn)];exact h.frm k hk hn}
theorem RlI.app{X:Jm}(h:RlI H HI id g B m g8 g2 ys):RlI H (HI++X) id g B m g8 g2 ys:=
 {out:=JO h.out,cells:=JO h.cells,l1:=h.l1,l4:=h.l4,val:=h.val,rd:=h.rd.app,lt:=h.lt
  ln:=by have:=h.ln;rw[Jk];omega
  frm:=fun k hk hn=>by rw[Ja (by have:=h.ln;omega)];exact h.frm k hk hn}
theorem RlI.set(h:RlI H HI id g B m g8 g2 ys){g':Nat}{zs:List Int}(h1:1≤zs.length)(h4:zs.length≤4)(hv:∀k:Nat,k<zs.length→0≤JA zs k∧JA zs k<(m:Int)*m):RlI H (HI.set (H.length+1) (some ⟨g',1,cl (eI .i64) zs⟩)) id g B m g8 g' zs:=by
 have hl:=h.ln
 have ht:=h.lt
 exact{out:=by rw[J6 (by omega)];exact h.out
       cells:=JM (by omega)
       l1:=h1,l4:=h4,val:=hv
       rd:=h.rd.same (by rw[Jg (by omega)])
       lt:=ht,ln:=by rw[Jo];exact hl
       frm:=fun k hk hn=>by rw[Jg (by omega)];exact h.frm k hk hn}
end
def Kg(H HE:Jm)(J:Nat)(c:CV)(xs:List Int):Prop:=c= .f (J5 xs)∨∃(i g k:Nat) (ys:List Int),c= .own i g 0 k none∧look HE i g=some ⟨g,1,cl (eI .i64) ys⟩∧k≤ys.length∧xs=ys.take k∧H.length<i∧i≠J
theorem Kg.same{H HE HE':Jm}{J:Nat}{c:CV}{xs:List Int}(h:Kg H HE J c xs)(hs:∀i,H.length<i→i≠J→i<HE.length→HE'[i]? =HE[i]?):Kg H HE' J c xs:=by
 rcases h with h|⟨i,g,k,ys,h1,h2,h3,h4,h5,h6⟩
 · exact .inl h
 · exact .inr ⟨i,g,k,ys,h1,by unfold look at*;rw[hs i h5 h6 (Jh.1 (JG h2).1).1];exact h2,h3,h4,h5,h6⟩
theorem Kg.elems{H HE:Jm}{J:Nat}{c:CV}{xs:List Int}(h:Kg H HE J c xs):elems HE 1 (.c c)=some (xs.length,cl (eI .i64) xs):=by
 rcases h with rfl|⟨i,g,k,ys,rfl,h2,h3,rfl,h5,h6⟩
 · exact XR (E:=eI .i64) (ys:=xs)
 · have e:(cl (eI .i64) ys).take (k*1)=cl (eI .i64) (ys.take k):=by
    rw[Nat.mul_one]
    have:=Q8 k ys
    conv=>lhs;rw[←this,Q6]
    rw[List.take_append_of_le_length (by rw[Qa];simp;omega),Js (by rw[Qa];simp;omega)]
   simp only[Lg.elems,h2,if_true,JR,e,JP,Nat.min_eq_left h3]
theorem Kg.frz{H HE:Jm}{J:Nat}{c:CV}{xs:List Int}(h:Kg H HE J c xs):frzS (Z8 H.length) HE 6 c=some (J5 xs):=by
 rcases h with rfl|⟨i,g,k,ys,rfl,h2,h3,rfl,h5,h6⟩
 · show some (Fh (J5 xs))=_
   rw[J5,Nd,Bs]
 · have:=Rb (S:=Z8 H.length) (lim:=none) (n:=k) (off:=0) h2 (by simp[Z8];omega) (by omega) 5
   rw[JR]at this
   exact this
structure RuO(H HE:Jm)(id g:Nat)(B:Int)(N g8 J g18:Nat)(xs:List Int):Prop where
 out:look HE H.length g8=some ⟨g8,3,[.f (.int .i64 0), .f .nil, .f (.int .i64 0)]⟩
 ex:∃a b c,look HE J g18=some ⟨g18,3,[.f (.int .i64 a),c, .f (.int .i64 b)]⟩∧Kg H HE J c xs
 l1:1≤xs.length
 l5:xs.length≤N
 rd:Zm HE id g B
 lt:id<H.length
 ln:H.length<J∧J<HE.length
 frm:∀k,k<H.length→k≠id→HE[k]? =H[k]?
section
variable{H HE H2:Jm}{id g N g8 J g18:Nat}{B B':Int}{xs:List Int}
theorem RuO.mono(h:RuO H HE id g B N g8 J g18 xs)(hb:B≤B'):RuO H HE id g B' N g8 J g18 xs:={h with rd:=h.rd.mono hb}
theorem RuO.pick(h:RuO H HE id g B N g8 J g18 xs)(hr:Zm H2 id g B')(hf:Vi HE H2 [id]):RuO H H2 id g B' N g8 J g18 xs:=by
 have hl:=h.lt
 have hn:=h.ln
 obtain⟨a,b,c,h1,h2⟩:=h.ex
 exact{out:=by rw[hf.look (by simp;omega)];exact h.out
       ex:=⟨a,b,c,by rw[hf.look (by simp;omega)];exact h1,h2.same fun i hi _ _=>hf.2 i (by simp;omega)⟩
       l1:=h.l1,l5:=h.l5,rd:=hr,lt:=hl,ln:=⟨hn.1,by rw[hf.1];exact hn.2⟩
       frm:=fun k hk hn=>by rw[hf.2 k (by simpa using hn)];exact h.frm k hk hn}
theorem RuO.app{X:Jm}(h:RuO H HE id g B N g8 J g18 xs):RuO H (HE++X) id g B N g8 J g18 xs:=by
 have hn:=h.ln
 obtain⟨a,b,c,h1,h2⟩:=h.ex
 exact{out:=JO h.out
       ex:=⟨a,b,c,JO h1,h2.same fun i _ _ hi=>Ja hi⟩
       l1:=h.l1,l5:=h.l5,rd:=h.rd.app,lt:=h.lt,ln:=⟨hn.1,by rw[Jk];omega⟩
       frm:=fun k hk hn'=>by rw[Ja (by omega)];exact h.frm k hk hn'}
theorem RuO.set(h:RuO H HE id g B N g8 J g18 xs){a b:Int}{c:CV}{zs:List Int}(hc:Kg H HE J c zs)(h1:1≤zs.length)(h5:zs.length≤N):RuO H (HE.set J (some ⟨g18,3,[.f (.int .i64 a),c, .f (.int .i64 b)]⟩)) id g B N g8 J g18 zs:=by
 have hn:=h.ln
 have hl:=h.lt
 exact{out:=by rw[J6 (by omega)];exact h.out
       ex:=⟨a,b,c,JM hn.2,hc.same fun i _ hi _=>by rw[Jg (Ne.symm hi)]⟩
       l1:=h1,l5:=h5,rd:=h.rd.same (by rw[Jg (by omega)]),lt:=hl,ln:=⟨hn.1,by rw[Jo];exact hn.2⟩
       frm:=fun k hk hn'=>by rw[Jg (by omega)];exact h.frm k hk hn'}
theorem RuO.wid{N':Nat}(h:RuO H HE id g B N g8 J g18 xs)(hb:N≤N'):RuO H HE id g B N' g8 J g18 xs:={h with l5:=by have:=h.l5;omega}
theorem RuO.len(h:RuO H HE id g B N g8 J g18 xs):H.length+2≤HE.length:=by have:=h.ln;omega
end
theorem Xd{α:Type}[Inhabited α]{xs ys:List α}{i:Nat}(h:i<xs.length):JA (xs++ys) i=JA xs i:=by
 rw[Qt (by rw[Jk];omega),Qt (xs:=xs) (by omega)]
 simp only[Int.toNat_natCast]
 exact List.getElem_append_left h
theorem K5{α:Type}[Inhabited α]{xs:List α}{v:α}:JA (xs++[v]) xs.length=v:=by
 rw[Qt (by rw[Jk];simp;omega)]
 simp
end Go.Lg

namespace Go.Lg
open Go.Proofs
def JdT:List Int:=(List.range 16).map fun(k:Nat)=>(k:Int)/8*2+(k:Int)%4/2
theorem NZ:JdT.length=16:=by simp[JdT]
theorem Jjs{k:Nat}(h:k<16):JA JdT k=(k:Int)/8*2+(k:Int)%4/2:=by
 rw[Qt (by rw[NZ];omega)]
 simp[JdT]
theorem JhE(p:Q4)(most:Nat):(R4 p most).length≤most:=by
 unfold R4
 split
 · rw[JP];omega
 · simp
theorem KW:JW Tryz.prog 119 [] (QO JdT):=by
 refine JW.own ?_
 refine Jn.cw (c:=_) Tryz.func119 rfl (n:=19) Tryz.ntmps119 (rs:=[.tmp 0]) rfl ?_
 simp only[Je,Jf,zA,zS,Jd,Jb,Jc]
 simp(maxSteps:=999999)(disch:=omega)only[go_sem,zA,zM,zS,zE,zL]
 intro g
 refine Qp (fun(k g:Nat)=>16 -k) (fun k g=>k≤16) (fun k g=>[.a, .p (.c (.own 0 g 0 k none)), .p (int k), .a, .a, .a, .a, .a, .a, .a, .a, .a, .a, .a, .a, .a, .a, .a, .a]) (fun k g=>[some ⟨g,1,cl (eI .i64) (JdT.take k)⟩]) 0 g (Nat.zero_le _) (by simp(maxSteps:=999999)(disch:=omega)only[go_sem,zA,zM,zS,zE,zL];rfl) (J0.refl _) ?_
 intro k g hk
 have hbl:=NZ
 simp(maxSteps:=999999)(disch:=omega)only[go_sem,zA,zM,zS,zE,zL]
 ((first|(with_reducible first|refine Jl ?_ ?_|refine Jj ?_ ?_|refine Jp ?_ ?_)|refine Jr ?_ ?_)<;>intro c1)
 · have c1:k<16:=by omega
   have e1:(k:Int).tdiv 8=(k:Int)/8:=R7 (by omega)
   have e2:(k:Int).tmod 4=(k:Int)%4:=VW (by omega)
   have e3:((k:Int)%4).tdiv 2=(k:Int)%4/2:=R7 (by omega)
   simp(maxSteps:=999999)(disch:=omega)only[go_sem,zA,zM,zS,zE,zL,e1,e2,e3]
   intro g1 g2
   refine⟨k+1,g2,⟨by omega,by omega⟩,⟨⟨rfl,rfl⟩,by push_cast;omega⟩,Z4 ?_ (Qu _)⟩
   rw[Qg (by omega),Jjs c1]
 · have hke:k=16:=by omega
   subst hke
   simp(maxSteps:=999999)(disch:=omega)only[go_sem,zA,zM,zS,zE,zL]
   rw[Js (by omega)]
   exact ZO (E:=eI .i64) (n:=1) (xs:=JdT) (J0.refl _)
def RK(rs:List Int)(n:Int):Bool:=decide ((∀k:Nat,k<rs.length→0≤JA rs k∧JA rs k≤n -1)∧2≤n∧n≤4∧(rs.length:Int)=n*n)
theorem Ud(rs:List Int)(n:Int)(hl:rs.length≤2^40)(hn: -2^20≤n∧n≤2^20):JW Tryz.prog 142 [QO rs,int n] (bool (RK rs n)):=by
 refine Jn.cw (c:=_) Tryz.func142 rfl (n:=30) Tryz.ntmps142 (rs:=[.tmp 4]) rfl ?_
 simp only[Je,Jf,zA,zS,Jd,Jb,Jc]
 simp(maxSteps:=999999)(disch:=omega)only[go_sem,zA,zM,zS,zE,zL]
 refine JY (fun k:Nat=>rs.length -k) (fun k=>k≤rs.length∧∀j:Nat,j<k→0≤JA rs j∧JA rs j≤n -1) (fun k=>[.k, .k, .a, .a, .a, .p (int k), .a, .a, .a, .a, .a, .a, .a, .a, .a, .a, .a, .a, .a, .a, .a, .a, .a, .a, .a, .a, .a, .a, .a, .a]) (fun _=>[]) 0 ⟨Nat.zero_le _,fun j hj=>absurd hj (Nat.not_lt_zero _)⟩ (by simp(maxSteps:=999999)(disch:=omega)only[go_sem,zA,zM,zS,zE,zL];rfl) (Qu _) ?_
 rintro k ⟨hk,hall⟩
 simp(maxSteps:=999999)(disch:=omega)only[go_sem,zA,zM,zS,zE,zL]
 ((first|(with_reducible first|refine Jl ?_ ?_|refine Jj ?_ ?_|refine Jp ?_ ?_)|refine Jr ?_ ?_)<;>intro c1)
 · have c1:k<rs.length:=by omega
   simp(maxSteps:=999999)(disch:=omega)only[go_sem,zA,zM,zS,zE,zL]
   first|refine JZ.rd (Qz _ _ _) (⟨_,Tryz.func40,rfl,rfl⟩:Ji Tryz.prog 40) rfl rfl rfl rfl ?_|refine JK.rd (Qz _ _ _) (⟨_,Tryz.func40,rfl,rfl⟩:Ji Tryz.prog 40) rfl rfl rfl rfl ?_
   simp(maxSteps:=999999)(disch:=omega)only[go_sem,zA,zM,zS,zE,zL]
   ((first|(with_reducible first|refine Jl ?_ ?_|refine Jj ?_ ?_|refine Jp ?_ ?_)|refine Jr ?_ ?_)<;>intro c2)
   · simp(maxSteps:=999999)(disch:=omega)only[go_sem,zA,zM,zS,zE,zL]
     refine⟨k+1,⟨⟨by omega,fun j hj=> ?_⟩,by omega⟩,by push_cast;omega,Qu _⟩
     by_cases hjk:j=k
     · rw[hjk];omega
     · exact hall j (by omega)
   · simp(maxSteps:=999999)(disch:=omega)only[go_sem,zA,zM,zS,zE,zL]
     unfold RK
     rw[eq_comm,decide_eq_false_iff_not]
     exact fun h=>c2 (h.1 k c1)
 · have hke:k=rs.length:=by omega
   subst hke
   simp(maxSteps:=999999)(disch:=omega)only[go_sem,zA,zM,zS,zE,zL]
   first|refine JZ.rd (Qz _ _ _) (⟨_,Tryz.func40,rfl,rfl⟩:Ji Tryz.prog 40) rfl rfl rfl rfl ?_|refine JK.rd (Qz _ _ _) (⟨_,Tryz.func40,rfl,rfl⟩:Ji Tryz.prog 40) rfl rfl rfl rfl ?_
   simp(maxSteps:=999999)(disch:=omega)only[go_sem,zA,zM,zS,zE,zL]
   by_cases h2:2≤n∧n≤4
   · have hnn:4≤n*n∧n*n≤16:=by
      obtain rfl|rfl|rfl:n=2∨n=3∨n=4:=by omega
      all_goals omega
     rw[decide_eq_true h2]
     simp(maxSteps:=999999)(disch:=omega)only[go_sem,zA,zM,zS,zE,zL]
     unfold RK
     rw[decide_eq_decide]
     exact⟨fun h=>⟨hall,h2.1,h2.2,h⟩,fun h=>h.2.2.2⟩
   · rw[decide_eq_false h2]
     simp(maxSteps:=999999)(disch:=omega)only[go_sem,zA,zM,zS,zE,zL]
     unfold RK
     rw[eq_comm,decide_eq_false_iff_not]
     exact fun h=>h2 ⟨h.2.1,h.2.2.1⟩
def Jal(rs:List Int)(a:Int)(k:Nat):List Int:=((List.range rs.length).take k).flatMap fun(i:Nat)=>if JA rs i=a then[(i:Int)]else[]
theorem Jgn{rs:List Int}{a:Int}{k:Nat}(h:k<rs.length):Jal rs a (k+1)=Jal rs a k++if JA rs k=a then[(k:Int)]else[]:=by
 unfold Jal
 rw[List.take_succ_eq_append_getElem (by simpa using h),List.flatMap_append]
 simp
theorem JcU(rs:List Int)(a:Int)(k:Nat):(Jal rs a k).length≤k:=by
 unfold Jal
 rw[List.length_flatMap]
 have:∀(l:List Nat),(l.map fun(i:Nat)=>(if JA rs i=a then[(i:Int)]else[]).length).sum≤l.length:=by
  intro l
  induction l with
  |nil=>simp
  |cons v l ih=>
   simp only[Qr,Wz,Je]
   have:(if JA rs (v:Int)=a then[(v:Int)]else[]).length≤1:=by split<;>simp
   omega
 refine Nat.le_trans (this _) ?_
 rw[JP,List.length_range]
 omega
def GZ(rs:List Int)(n a:Int):List Int:=if RK rs n=true then Jal rs a rs.length else[]
theorem Yb(rs:List Int)(n a:Int)(hl:rs.length≤2^30)(hn: -2^20≤n∧n≤2^20):JW Tryz.prog 143 [QO rs,int n,int a] (QO (GZ rs n a)):=by
 refine JW.own ?_
 refine Jn.cw (c:=_) Tryz.func143 rfl (n:=32) Tryz.ntmps143 (rs:=[.tmp 6]) rfl ?_
 simp only[Je,Jf,zA,zS,Jd,Jb,Jc]
 simp(maxSteps:=999999)(disch:=omega)only[go_sem,zA,zM,zS,zE,zL]
 intro g
 cases hv:RK rs n with
 |false=>
  have e:GZ rs n a=[]:=by unfold GZ;rw[if_neg (by rw[hv];simp)]
  rw[e]
  refine Qp (fun(k g:Nat)=>rs.length -k) (fun k g=>k=0) (fun k g=>[.k, .k, .k, .a, .a, .a, .a, .p (.c (.own 0 g 0 0 none)), .p (int k), .a, .a, .a, .a, .a, .a, .a, .a, .a, .a, .a, .a, .a, .a, .a, .a, .a, .a, .a, .a, .a, .a, .a]) (fun k g=>[some ⟨g,1,[]⟩]) 0 g rfl (by simp(maxSteps:=999999)(disch:=omega)only[go_sem,zA,zM,zS,zE,zL];rfl) (J0.refl _) ?_
  intro k g hk
  subst hk
  simp(maxSteps:=999999)(disch:=omega)only[go_sem,zA,zM,zS,zE,zL]
  ((with_reducible first|refine JJ ?_ ?_|refine JF ?_ ?_|refine JU ?_ ?_|refine Jw ?_ ?_|refine JH ?_ ?_|refine JI ?_ ?_|refine JD ?_ ?_|refine JE ?_ ?_|refine JS ?_ ?_|refine JT ?_ ?_|refine Jy ?_ ?_|refine Jz ?_ ?_)<;>intro c1<;>simp(maxSteps:=999999)(disch:=omega)only[go_sem,zA,zM,zS,zE,zL,c1])
  · first|refine JZ.rd (Ud rs n (by omega) hn) (⟨_,Tryz.func142,rfl,rfl⟩:Ji Tryz.prog 142) rfl rfl rfl rfl ?_|refine JK.rd (Ud rs n (by omega) hn) (⟨_,Tryz.func142,rfl,rfl⟩:Ji Tryz.prog 142) rfl rfl rfl rfl ?_
    simp(maxSteps:=999999)(disch:=omega)only[go_sem,zA,zM,zS,zE,zL]
    rw[hv]
    simp(maxSteps:=999999)(disch:=omega)only[go_sem,zA,zM,zS,zE,zL]
    exact ZO (E:=eI .i64) (n:=1) (xs:=[]) (J0.refl _)
  · exact ZO (E:=eI .i64) (n:=1) (xs:=[]) (J0.refl _)
 |true=>
  have e:GZ rs n a=Jal rs a rs.length:=by unfold GZ;rw[if_pos hv]
  rw[e]
  refine Qp (fun(k g:Nat)=>rs.length -k) (fun k g=>k≤rs.length) (fun k g=>[.k, .k, .k, .a, .a, .a, .a, .p (.c (.own 0 g 0 (Jal rs a k).length none)), .p (int k), .a, .a, .a, .a, .a, .a, .a, .a, .a, .a, .a, .a, .a, .a, .a, .a, .a, .a, .a, .a, .a, .a, .a]) (fun k g=>[some ⟨g,1,cl (eI .i64) (Jal rs a k)⟩]) 0 g (Nat.zero_le _) (by simp(maxSteps:=999999)(disch:=omega)only[go_sem,zA,zM,zS,zE,zL];simp[Jal]) (J0.refl _) ?_
  intro k g hk
  have hcl:=JcU rs a k
  simp(maxSteps:=999999)(disch:=omega)only[go_sem,zA,zM,zS,zE,zL]
  ((with_reducible first|refine JJ ?_ ?_|refine JF ?_ ?_|refine JU ?_ ?_|refine Jw ?_ ?_|refine JH ?_ ?_|refine JI ?_ ?_|refine JD ?_ ?_|refine JE ?_ ?_|refine JS ?_ ?_|refine JT ?_ ?_|refine Jy ?_ ?_|refine Jz ?_ ?_)<;>intro c1<;>simp(maxSteps:=999999)(disch:=omega)only[go_sem,zA,zM,zS,zE,zL,c1])
  · have c1:k<rs.length:=by omega
    have hs:=Jgn (a:=a) c1
    first|refine JZ.rd (Ud rs n (by omega) hn) (⟨_,Tryz.func142,rfl,rfl⟩:Ji Tryz.prog 142) rfl rfl rfl rfl ?_|refine JK.rd (Ud rs n (by omega) hn) (⟨_,Tryz.func142,rfl,rfl⟩:Ji Tryz.prog 142) rfl rfl rfl rfl ?_
    simp(maxSteps:=999999)(disch:=omega)only[go_sem,zA,zM,zS,zE,zL]
    rw[hv]
    simp(maxSteps:=999999)(disch:=omega)only[go_sem,zA,zM,zS,zE,zL]
    ((first|(with_reducible first|refine Jl ?_ ?_|refine Jj ?_ ?_|refine Jp ?_ ?_)|refine Jr ?_ ?_)<;>intro c2)
    · simp(maxSteps:=999999)(disch:=omega)only[go_sem,zA,zM,zS,zE,zL]
      intro g1 g2
      rw[if_pos c2]at hs
      refine⟨k+1,g2,⟨by omega,by omega⟩,⟨by rw[hs,Jk];exact⟨rfl,rfl⟩,by push_cast;omega⟩,Z4 (by rw[hs]) (Qu _)⟩
    · simp(maxSteps:=999999)(disch:=omega)only[go_sem,zA,zM,zS,zE,zL]
      rw[if_neg c2,Ju]at hs
      refine⟨k+1,g,⟨by omega,by omega⟩,⟨by rw[hs];exact⟨rfl,rfl⟩,by push_cast;omega⟩,by rw[hs];exact J0.refl _⟩
  · have hke:k=rs.length:=by omega
    subst hke
    exact ZO (E:=eI .i64) (n:=1) (J0.refl _)
def Gm(rs:List Int)(n:Int)(k:Nat):List Z0:=(List.range k).flatMap fun(i:Nat)=>if 2≤(GZ rs n i).length then[⟨1,GZ rs n i,0⟩]else[]
theorem JaW(rs:List Int)(n:Int)(k:Nat):Gm rs n (k+1)=Gm rs n k++if 2≤(GZ rs n k).length then[⟨1,GZ rs n k,0⟩]else[]:=by
 unfold Gm
 rw[List.range_succ,List.flatMap_append]
 simp
theorem JcT(rs:List Int)(n:Int):∀k:Nat,(Gm rs n k).length≤k
 |0=>by simp[Gm]
 |k+1=>by
  rw[JaW,Jk]
  have:=JcT rs n k
  split<;>simp<;>omega
def WP(rs:List Z0)(a b:Nat):Prop:=rs.length≤a∧∀r∈rs,r.cells.length≤b
theorem B6(rs:List Int)(n:Int)(hl:rs.length≤2^30)(hn: -2^20≤n∧n≤2^20):Jn Tryz.prog 118 [QO rs,int n] [] (fun v _=>∃(qs:List Z0) (b:Bool),v= .tup [Bl eR qs,bool b]∧WP qs 4 4):=by
 refine Jn.freeze (Q':=fun v H'=>∃(qs:List Z0) (b:Bool) (id g:Nat),v= .tup [.c (.own id g 0 qs.length none),bool b]∧look H' id g=some ⟨g,3,cl eR qs⟩∧WP qs 4 4) ?_ ?_
 rotate_left
 · rintro v H' ⟨qs,b,id,g,rfl,h1,h2⟩
   have e1:=Xv (lim:=none) h1
   simp only[Vu,Xw,Option.map_eq_some_iff]at e1
   obtain⟨y,e1,e2⟩:=e1
   cases e2
   have e3:∀x,frzC H' (.f (.bool x))=some (.f (.bool x)):=fun x=>rfl
   refine⟨.tup [Bl eR qs,bool b], ?_,qs,b,rfl,h2⟩
   simp only[Vu,J4,Qw,Xw,e1,e3,Option.pure_def,Option.bind_eq_bind,Option.bind_some,Option.map_some]
 refine Jn.cw (c:=_) Tryz.func118 rfl (n:=37) Tryz.ntmps118 (rs:=[.tmp 4, .tmp 5]) rfl ?_
 simp only[Je,Jf,zA,zS,Jd,Jb,Jc]
 simp(maxSteps:=999999)(disch:=omega)only[go_sem,zA,zM,zS,zE,zL]
 intro g
 first|refine JZ.rd (Ud rs n (by omega) hn) (⟨_,Tryz.func142,rfl,rfl⟩:Ji Tryz.prog 142) rfl rfl rfl rfl ?_|refine JK.rd (Ud rs n (by omega) hn) (⟨_,Tryz.func142,rfl,rfl⟩:Ji Tryz.prog 142) rfl rfl rfl rfl ?_
 simp(maxSteps:=999999)(disch:=omega)only[go_sem,zA,zM,zS,zE,zL]
 ((first|(with_reducible first|refine Jl ?_ ?_|refine Jj ?_ ?_|refine Jp ?_ ?_)|refine Jr ?_ ?_)<;>intro c0)
 rotate_left
 · simp(maxSteps:=999999)(disch:=omega)only[go_sem,zA,zM,zS,zE,zL]
   exact⟨_,J0.refl _,[],false,0,g,rfl,J8 (b:=⟨g,3,cl eR []⟩) rfl,by simp,by simp⟩
 have hv:=c0
 simp only[RK,decide_eq_true_eq]at hv
 obtain⟨_,hn2,hn4,_⟩:=hv
 simp(maxSteps:=999999)(disch:=omega)only[go_sem,zA,zM,zS,zE,zL]
 refine Qp (fun(k g:Nat)=>n.toNat -k) (fun k g=>k≤n.toNat∧∀r∈Gm rs n k,r.cells.length≤4) (fun k g=>[.k, .k, .a, .a, .a, .a, .p (.c (.own 0 g 0 (Gm rs n k).length none)), .p (int k), .a, .a, .a, .a, .a, .a, .a, .a, .a, .a, .a, .a, .a, .a, .a, .a, .a, .a, .a, .a, .a, .a, .a, .a, .a, .a, .a, .a, .a]) (fun k g=>[some ⟨g,3,cl eR (Gm rs n k)⟩]) 0 g ⟨Nat.zero_le _,by simp[Gm]⟩ (by simp(maxSteps:=999999)(disch:=omega)only[go_sem,zA,zM,zS,zE,zL];exact⟨by simp[Gm],rfl⟩) (J0.refl _) ?_
 rintro k g ⟨hk,hall⟩
 have hrl:=JcT rs n k
 have hcl:(GZ rs n k).length≤rs.length:=by
  rw[GZ,if_pos c0]
  exact JcU _ _ _
 have hs:=JaW rs n k
 simp(maxSteps:=999999)(disch:=omega)only[go_sem,zA,zM,zS,zE,zL]
 ((first|(with_reducible first|refine Jl ?_ ?_|refine Jj ?_ ?_|refine Jp ?_ ?_)|refine Jr ?_ ?_)<;>intro c1)
 · have c1:k<n.toNat:=by omega
   simp(maxSteps:=999999)(disch:=omega)only[go_sem,zA,zM,zS,zE,zL]
   first|refine JZ.mk (Yb rs n k hl hn) (⟨_,Tryz.func143,rfl,rfl⟩:Ji Tryz.prog 143) rfl rfl rfl rfl rfl ?_|refine JK.mk (Yb rs n k hl hn) (⟨_,Tryz.func143,rfl,rfl⟩:Ji Tryz.prog 143) rfl rfl rfl rfl rfl ?_
   simp(maxSteps:=999999)(disch:=omega)only[go_sem,zA,zM,zS,zE,zL]
   ((first|(with_reducible first|refine Jl ?_ ?_|refine Jj ?_ ?_|refine Jp ?_ ?_)|refine Jr ?_ ?_)<;>intro c2)
   · simp(maxSteps:=999999)(disch:=omega)only[go_sem,zA,zM,zS,zE,zL]
     intro g2
     exact⟨_,J0.refl _,[],false,1,g2,rfl,J8 (b:=⟨g2,3,cl eR []⟩) rfl,by simp,by simp⟩
   · simp(maxSteps:=999999)(disch:=omega)only[go_sem,zA,zM,zS,zE,zL]
     ((first|(with_reducible first|refine Jl ?_ ?_|refine Jj ?_ ?_|refine Jp ?_ ?_)|refine Jr ?_ ?_)<;>intro c3)
     · simp(maxSteps:=999999)(disch:=omega)only[go_sem,zA,zM,zS,zE,zL]
       intro g1 g2
       rw[if_pos (by omega)]at hs
       refine⟨k+1,g2,⟨⟨by omega,fun r hr=> ?_⟩,by omega⟩,⟨by rw[hs,Jk];exact⟨rfl,rfl⟩,by push_cast;omega⟩,Z4 (by rw[hs,Q6];rfl) (Qu _)⟩
       rw[hs]at hr
       rcases J2.1 hr with h|h
       · exact hall r h
       · simp at h;subst h;simp only;omega
     · simp(maxSteps:=999999)(disch:=omega)only[go_sem,zA,zM,zS,zE,zL]
       rw[if_neg (by omega),Ju]at hs
       exact⟨k+1,g,⟨⟨by omega,by rw[hs];exact hall⟩,by omega⟩,⟨by rw[hs];exact⟨rfl,rfl⟩,by push_cast;omega⟩,by rw[hs];exact J0.refl _⟩
 · simp(maxSteps:=999999)(disch:=omega)only[go_sem,zA,zM,zS,zE,zL]
   exact⟨_,J0.refl _,Gm rs n k,true,0,g,rfl,J8 (b:=⟨g,3,cl eR (Gm rs n k)⟩) rfl,by omega,hall⟩
theorem Wp(p:Q4)(hx:Rf p):JW Tryz.prog 144 [aP p] (bool (decide ((R4 p 2).length=1))):=by
 have hle:=JhE p 2
 refine Jn.cw (c:=_) Tryz.func144 rfl (n:=7) Tryz.ntmps144 (rs:=[.tmp 2]) rfl ?_
 simp only[Je,Jf,zA,zS,Jd,Jb,Jc]
 simp(maxSteps:=999999)(disch:=omega)only[go_sem,zA,zM,zS,zE,zL]
 intro g
 first|refine JZ.mk (K8 p 2 (by omega) hx) (⟨_,Tryz.func110,rfl,rfl⟩:Ji Tryz.prog 110) rfl rfl rfl rfl rfl ?_|refine JK.mk (K8 p 2 (by omega) hx) (⟨_,Tryz.func110,rfl,rfl⟩:Ji Tryz.prog 110) rfl rfl rfl rfl rfl ?_
 simp(maxSteps:=999999)(disch:=omega)only[go_sem,zA,zM,zS,zE,zL]
 rw[decide_eq_decide]
 omega
end Go.Lg
