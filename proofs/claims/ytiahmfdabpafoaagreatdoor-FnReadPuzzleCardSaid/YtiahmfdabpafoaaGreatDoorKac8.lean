/- GpGB, cut to what is needed. -/
import Derived.Test.YtiahmfdabpafoaaGreatDoorKac2
import Derived.Test.YtiahmfdabpafoaaGreatDoorKac7
open List renaming getElem?_eq_some_iff → Ja, getElem?_append_left → Jb, cons_append → Jc, nil_append → Jd, length_append → Je, length_cons → Jf, replicate → Jg, getElem?_set_ne → Jj, length_nil → Jl, take_of_length_le → Jn, length_set → Jt, getElem?_eq_none → Ju, length_take → JA, drop_zero → JB, getElem?_take_of_lt → JG, take_append_drop → QU
open Nat renaming reduceAdd→zA,reduceMul→zM,reduceSub→zS,reduceEqDiff→zE,reduceLeDiff→zL
set_option linter.unusedSimpArgs false
set_option linter.unusedVariables false
set_option maxRecDepth 100000
namespace Go.Lg
open Go.Proofs
attribute [-go_sem] Qg JP
structure RlI(H HI:Ji)(id g:Nat)(B:Int)(m g8 g2:Nat)(ys:List Int):Prop where
 out:look HI H.length g8=some ⟨g8,3,[.f (.int .i64 0), .f .nil, .f (.int .i64 0)]⟩
 cells:look HI (H.length+1) g2=some ⟨g2,1,cl (eI .i64) ys⟩
 l1:1≤ys.length
 l4:ys.length≤4
 val:∀k:Nat,k<ys.length→0≤JM ys k∧JM ys k<(m:Int)*m
 rd:Zj HI id g B
 lt:id<H.length
 ln:H.length+2≤HI.length
 frm:∀k,k<H.length→k≠id→HI[k]? =H[k]?
section
variable{H HI H2:Ji}{id g m g8 g2:Nat}{B B':Int}{ys:List Int}
theorem RlI.mono(h:RlI H HI id g B m g8 g2 ys)(hb:B≤B'):RlI H HI id g B' m g8 g2 ys:={h with rd:=h.rd.mono hb}
theorem RlI.pick(h:RlI H HI id g B m g8 g2 ys)(hr:Zj H2 id g B')(hf:UH HI H2 [id]):RlI H H2 id g B' m g8 g2 ys:=
 {out:=by rw[hf.look (by have:=h.lt;simp;omega)];exact h.out
  cells:=by rw[hf.look (by have:=h.lt;simp;omega)];exact h.cells
  l1:=h.l1,l4:=h.l4,val:=h.val,rd:=hr,lt:=h.lt,ln:=by rw[hf.1];exact h.ln
  frm:=fun k hk hn=>by rw[hf.2 k (by simpa using hn)];exact h.frm k hk hn}
theorem RlI.app{X:Ji}(h:RlI H HI id g B m g8 g2 ys):RlI H (HI++X) id g B m g8 g2 ys:=
 {out:=JR h.out,cells:=JR h.cells,l1:=h.l1,l4:=h.l4,val:=h.val,rd:=h.rd.app,lt:=h.lt
  ln:=by have:=h.ln;rw[Je];omega
  frm:=fun k hk hn=>by rw[Jb (by have:=h.ln;omega)];exact h.frm k hk hn}
theorem RlI.set(h:RlI H HI id g B m g8 g2 ys){g':Nat}{zs:List Int}(h1:1≤zs.length)(h4:zs.length≤4)(hv:∀k:Nat,k<zs.length→0≤JM zs k∧JM zs k<(m:Int)*m):RlI H (HI.set (H.length+1) (some ⟨g',1,cl (eI .i64) zs⟩)) id g B m g8 g' zs:=by
 have hl:=h.ln
 have ht:=h.lt
 exact{out:=by rw[J7 (by omega)];exact h.out
       cells:=JK (by omega)
       l1:=h1,l4:=h4,val:=hv
       rd:=h.rd.same (by rw[Jj (by omega)])
       lt:=ht,ln:=by rw[Jt];exact hl
       frm:=fun k hk hn=>by rw[Jj (by omega)];exact h.frm k hk hn}
end
def Xd(H HE:Ji)(J:Nat)(c:CV)(xs:List Int):Prop:=c= .f (QD xs)∨∃(i g k:Nat) (ys:List Int),c= .own i g 0 k none∧look HE i g=some ⟨g,1,cl (eI .i64) ys⟩∧k≤ys.length∧xs=ys.take k∧H.length<i∧i≠J
theorem Xd.same{H HE HE':Ji}{J:Nat}{c:CV}{xs:List Int}(h:Xd H HE J c xs)(hs:∀i,H.length<i→i≠J→i<HE.length→HE'[i]? =HE[i]?):Xd H HE' J c xs:=by
 rcases h with h|⟨i,g,k,ys,h1,h2,h3,h4,h5,h6⟩
 · exact .inl h
 · exact .inr ⟨i,g,k,ys,h1,by unfold look at*;rw[hs i h5 h6 (Ja.1 (Jw h2).1).1];exact h2,h3,h4,h5,h6⟩
theorem Xd.elems{H HE:Ji}{J:Nat}{c:CV}{xs:List Int}(h:Xd H HE J c xs):elems HE 1 (.c c)=some (xs.length,cl (eI .i64) xs):=by
 rcases h with rfl|⟨i,g,k,ys,rfl,h2,h3,rfl,h5,h6⟩
 · exact Xt (E:=eI .i64) (ys:=xs)
 · have e:(cl (eI .i64) ys).take (k*1)=cl (eI .i64) (ys.take k):=by
    rw[Nat.mul_one]
    have:=QU k ys
    conv=>lhs;rw[←this,QP]
    rw[List.take_append_of_le_length (by rw[Qb];simp;omega),Jn (by rw[Qb];simp;omega)]
   simp only[Lg.elems,h2,if_true,JB,e,JA,Nat.min_eq_left h3]
theorem Xd.frz{H HE:Ji}{J:Nat}{c:CV}{xs:List Int}(h:Xd H HE J c xs):frzS (Z0 H.length) HE 6 c=some (QD xs):=by
 rcases h with rfl|⟨i,g,k,ys,rfl,h2,h3,rfl,h5,h6⟩
 · show some (RR (QD xs))=_
   rw[QD,F9,RQ]
 · have:=Kw (S:=Z0 H.length) (lim:=none) (n:=k) (off:=0) h2 (by simp[Z0];omega) (by omega) 5
   rw[JB]at this
   exact this
structure KE(H HE:Ji)(id g:Nat)(B:Int)(N g8 J g18:Nat)(xs:List Int):Prop where
 out:look HE H.length g8=some ⟨g8,3,[.f (.int .i64 0), .f .nil, .f (.int .i64 0)]⟩
 ex:∃a b c,look HE J g18=some ⟨g18,3,[.f (.int .i64 a),c, .f (.int .i64 b)]⟩∧Xd H HE J c xs
 l1:1≤xs.length
 l5:xs.length≤N
 rd:Zj HE id g B
 lt:id<H.length
 ln:H.length<J∧J<HE.length
 frm:∀k,k<H.length→k≠id→HE[k]? =H[k]?
section
variable{H HE H2:Ji}{id g N g8 J g18:Nat}{B B':Int}{xs:List Int}
theorem KE.mono(h:KE H HE id g B N g8 J g18 xs)(hb:B≤B'):KE H HE id g B' N g8 J g18 xs:={h with rd:=h.rd.mono hb}
theorem KE.pick(h:KE H HE id g B N g8 J g18 xs)(hr:Zj H2 id g B')(hf:UH HE H2 [id]):KE H H2 id g B' N g8 J g18 xs:=by
 have hl:=h.lt
 have hn:=h.ln
 obtain⟨a,b,c,h1,h2⟩:=h.ex
 exact{out:=by rw[hf.look (by simp;omega)];exact h.out
       ex:=⟨a,b,c,by rw[hf.look (by simp;omega)];exact h1,h2.same fun i hi _ _=>hf.2 i (by simp;omega)⟩
       l1:=h.l1,l5:=h.l5,rd:=hr,lt:=hl,ln:=⟨hn.1,by rw[hf.1];exact hn.2⟩
       frm:=fun k hk hn=>by rw[hf.2 k (by simpa using hn)];exact h.frm k hk hn}
theorem KE.app{X:Ji}(h:KE H HE id g B N g8 J g18 xs):KE H (HE++X) id g B N g8 J g18 xs:=by
 have hn:=h.ln
 obtain⟨a,b,c,h1,h2⟩:=h.ex
 exact{out:=JR h.out
       ex:=⟨a,b,c,JR h1,h2.same fun i _ _ hi=>Jb hi⟩
       l1:=h.l1,l5:=h.l5,rd:=h.rd.app,lt:=h.lt,ln:=⟨hn.1,by rw[Je];omega⟩
       frm:=fun k hk hn'=>by rw[Jb (by omega)];exact h.frm k hk hn'}
theorem KE.set(h:KE H HE id g B N g8 J g18 xs){a b:Int}{c:CV}{zs:List Int}(hc:Xd H HE J c zs)(h1:1≤zs.length)(h5:zs.length≤N):KE H (HE.set J (some ⟨g18,3,[.f (.int .i64 a),c, .f (.int .i64 b)]⟩)) id g B N g8 J g18 zs:=by
 have hn:=h.ln
 have hl:=h.lt
 exact{out:=by rw[J7 (by omega)];exact h.out
       ex:=⟨a,b,c,JK hn.2,hc.same fun i _ hi _=>by rw[Jj (Ne.symm hi)]⟩
       l1:=h1,l5:=h5,rd:=h.rd.same (by rw[Jj (by omega)]),lt:=hl,ln:=⟨hn.1,by rw[Jt];exact hn.2⟩
       frm:=fun k hk hn'=>by rw[Jj (by omega)];exact h.frm k hk hn'}
theorem KE.wid{N':Nat}(h:KE H HE id g B N g8 J g18 xs)(hb:N≤N'):KE H HE id g B N' g8 J g18 xs:={h with l5:=by have:=h.l5;omega}
theorem KE.len(h:KE H HE id g B N g8 J g18 xs):H.length+2≤HE.length:=by have:=h.ln;omega
end
theorem Fv{α:Type}[Inhabited α]{xs ys:List α}{i:Nat}(h:i<xs.length):JM (xs++ys) i=JM xs i:=by
 rw[Qu (by rw[Je];omega),Qu (xs:=xs) (by omega)]
 simp only[Int.toNat_natCast]
 exact List.getElem_append_left h
theorem Fu{α:Type}[Inhabited α]{xs:List α}{v:α}:JM (xs++[v]) xs.length=v:=by
 rw[Qu (by rw[Je];simp;omega)]
 simp
def Jhu(H:Ji)(id g:Nat)(B:Int):KV:=fun v H'=>(∃r:Q2,v=aR r∧r.cells.length≤5)∧Zj H' id g (B+60)∧UH H H' [id]
set_option maxHeartbeats 4000000 in
theorem KY{m:Nat}(hm:m=2∨m=3∨m=4)(H:Ji)(id g:Nat)(B kk:Int)(hr:Zj H id g B)(hB:B≤2^38)(hkk:kk≤1000)(cid cg:Nat)(zs:List Int)(hz:look H cid cg=some ⟨cg,1,cl (eI .i64) zs⟩)(hzl:m*m≤zs.length)(hne:cid≠id):
 Jq Tryz.prog 36 [.c (.ptr id g 0),(.c (.own cid cg 0 (m*m) none)),int m,int kk] H (Jhu H id g B):=by
 have hsq:4≤m*m∧m*m≤16:=by rcases hm with rfl|rfl|rfl<;>omega
 have hmm:(m:Int)*m=((m*m:Nat):Int):=by push_cast;rfl
 have hmi:4≤(m:Int)*m∧(m:Int)*m≤16:=by rw[hmm];omega
 have hlt:=hr.lt
 have hclt:cid<H.length:=(Ja.1 (Jw hz).1).1
 refine Jq.iceS (Q':=fun v H'=>∃a b c xs,v= .agg [.f (.int .i64 a),c, .f (.int .i64 b)]∧frzS (Z0 H.length) H' 6 c=some (QD xs)∧xs.length≤5∧Zj H' id g (B+60)∧H.length≤H'.length∧∀k,k<H.length→k≠id→H'[k]? =H[k]?) ?_ ?_
 rotate_left
 · rintro v H' ⟨a,b,c,xs,rfl,h1,h2,h3,h4,h5⟩
   refine⟨Z0 H.length,H'.take H.length,aR ⟨a,xs,b⟩,Xr _ _, .o _ _ (Ko X6 (Kn h1) X6),⟨_,rfl,h2⟩,h3.take hlt,by simp;omega,fun i hi=> ?_⟩
   by_cases hi':i<H.length
   · rw[JG hi',h5 i hi' (by simpa using hi)]
   · rw[List.getElem?_take_eq_none (by omega),Ju (by omega)]
 refine Jq.ofR (c:=_) Tryz.func36 rfl (n:=232) Tryz.ntmps36 (rs:=[.cell 8 41]) rfl ?_
 simp only[Jf,Jl,zA,zS,Jg,Jc,Jd]
 refine QM.cutN 4 (fun a:Nat×Nat×List Int×Ji=>RlI H a.2.2.2 id g (B+40) m a.1 a.2.1 a.2.2.1) (fun a=>[.k, .k, .k, .k, .a, .a, .a, .a, .p (.c (.ptr H.length a.1 0)), .p (.c (.own (H.length+1) a.2.1 0 a.2.2.1.length none)), .a, .a, .a, .a, .a, .a, .a, .a, .a, .a, .a, .a, .a, .a, .a, .a, .a, .a, .a, .a, .a, .a, .a, .a, .a, .a, .a, .a, .a, .a, .a, .a, .a, .a, .a, .a, .a, .a, .a, .a, .a, .a, .a, .a, .a, .a, .a, .a, .a, .a, .a, .a, .a, .a, .a, .a, .a, .a, .a, .a, .a, .a, .a, .a, .a, .a, .a, .a, .a, .a, .a, .a, .a, .a, .a, .a, .a, .a, .a, .a, .a, .a, .a, .a, .a, .a, .a, .a, .a, .a, .a, .a, .a, .a, .a, .a, .a, .a, .a, .a, .a, .a, .a, .a, .a, .a, .a, .a, .a, .a, .a, .a, .a, .a, .a, .a, .a, .a, .a, .a, .a, .a, .a, .a, .a, .a, .a, .a, .a, .a, .a, .a, .a, .a, .a, .a, .a, .a, .a, .a, .a, .a, .a, .a, .a, .a, .a, .a, .a, .a, .a, .a, .a, .a, .a, .a, .a, .a, .a, .a, .a, .a, .a, .a, .a, .a, .a, .a, .a, .a, .a, .a, .a, .a, .a, .a, .a, .a, .a, .a, .a, .a, .a, .a, .a, .a, .a, .a, .a, .a, .a, .a, .a, .a, .a, .a, .a, .a, .a, .a, .a, .a, .a, .a, .a, .a, .a, .a, .a, .a, .a, .a, .a, .a, .a, .a, .a, .a, .a, .a, .a, .a]) (fun a=>a.2.2.2) ?_ ?_
 · simp(maxSteps:=999999)(disch:=omega)only[go_sem,zA,zM,zS,zE,zL]
   intro g8
   refine Qh.run (QQ _ id g B _ hr.app (by omega)) (⟨_,Tryz.func35,rfl,rfl⟩:Jm Tryz.prog 35) rfl rfl ?_
   rintro _ H1 ⟨⟨y,rfl,y0,y1⟩,r1,f1⟩
   have y1:=y1 (by omega)
   have l1:H1.length=H.length+1:=by rw[f1.1];simp
   simp(maxSteps:=999999)(disch:=omega)only[go_sem,zA,zM,zS,zE,zL]
   intro g2
   rw[l1]
   have q0:RlI H (H1++[some ⟨g2,1,cl (eI .i64) [y]⟩]) id g (B+1) m g8 g2 [y]:=
    {out:=JR (by rw[f1.look (by simp;omega)];exact JY)
     cells:=by have:=JY (H:=H1) (g:=g2) (sz:=1) (cs:=cl (eI .i64) [y]);rwa [l1]at this
     l1:=by simp,l4:=by simp
     val:=fun k hk=>by
      have:k=0:=by simpa using hk
      subst this
      exact⟨y0,y1⟩
     rd:=r1.app,lt:=hlt,ln:=by simp;omega
     frm:=fun k hk hn=>by rw[Jb (by omega),f1.2 k (by simpa using hn),Jb hk]}
   obtain⟨HI,hHI⟩:∃HI:Ji,HI=H1++[some ⟨g2,1,cl (eI .i64) [y]⟩]:=⟨_,rfl⟩
   rw[←hHI]at q0
   have eHI:H1++[some ⟨g2,1,[CV.f (FV.int IntKind.i64 y)]⟩]=HI:=hHI.symm
   rw[eHI]
   clear hHI eHI
   refine Qh.run (QQ HI id g _ _ q0.rd (by omega)) (⟨_,Tryz.func35,rfl,rfl⟩:Jm Tryz.prog 35) rfl rfl ?_
   rintro _ H2 ⟨⟨t,rfl,t0,t1⟩,r2,f2⟩
   have t1:=t1 (by omega)
   have q2:=q0.pick r2 f2
   simp(maxSteps:=999999)(disch:=omega)only[go_sem,zA,zM,zS,zE,zL]
   refine Qw (fun a:Nat×Nat×List Int×Ji=>20 -a.1) (fun a=>a.1≤16∧RlI H a.2.2.2 id g (B+2+2*a.1) m g8 a.2.1 a.2.2.1) (fun a=>[.k, .k, .k, .k, .a, .a, .a, .a, .k, .p (.c (.own (H.length+1) a.2.1 0 a.2.2.1.length none)), .k, .p (int a.1), .a, .a, .a, .a, .a, .a, .a, .a, .a, .a, .a, .a, .a, .a, .a, .a, .a, .a, .a, .a, .a, .a, .a, .a, .a, .a, .a, .a, .a, .a, .a, .a, .a, .a, .a, .a, .a, .a, .a, .a, .a, .a, .a, .a, .a, .a, .a, .a, .a, .a, .a, .a, .a, .a, .a, .a, .a, .a, .a, .a, .a, .a, .a, .a, .a, .a, .a, .a, .a, .a, .a, .a, .a, .a, .a, .a, .a, .a, .a, .a, .a, .a, .a, .a, .a, .a, .a, .a, .a, .a, .a, .a, .a, .a, .a, .a, .a, .a, .a, .a, .a, .a, .a, .a, .a, .a, .a, .a, .a, .a, .a, .a, .a, .a, .a, .a, .a, .a, .a, .a, .a, .a, .a, .a, .a, .a, .a, .a, .a, .a, .a, .a, .a, .a, .a, .a, .a, .a, .a, .a, .a, .a, .a, .a, .a, .a, .a, .a, .a, .a, .a, .a, .a, .a, .a, .a, .a, .a, .a, .a, .a, .a, .a, .a, .a, .a, .a, .a, .a, .a, .a, .a, .a, .a, .a, .a, .a, .a, .a, .a, .a, .a, .a, .a, .a, .a, .a, .a, .a, .a, .a, .a, .a, .a, .a, .a, .a, .a, .a, .a, .a, .a, .a, .a, .a, .a, .a, .a, .a, .a, .a, .a, .a, .a, .a, .a, .a, .a, .a, .a]) (fun a=>a.2.2.2) (0,g2,[y],H2) ⟨by omega,q2.mono (by omega)⟩ (by simp(maxSteps:=999999)(disch:=omega)only[go_sem,zA,zM,zS,zE,zL];rfl) (Qc.refl _) ?_
   rintro⟨k,g2,ys,HI⟩ ⟨hk,q⟩
   simp only at hk q
   have qc:=q.cells
   have hlt2:=q.ln
   have hid:=q.lt
   simp(maxSteps:=999999)(disch:=omega)only[go_sem,zA,zM,zS,zE,zL,qc]
   ((with_reducible first|refine JU ?_ ?_|refine JJ ?_ ?_|refine J6 ?_ ?_|refine Jx ?_ ?_|refine JS ?_ ?_|refine JT ?_ ?_|refine JH ?_ ?_|refine JI ?_ ?_|refine J4 ?_ ?_|refine J5 ?_ ?_|refine JC ?_ ?_|refine JD ?_ ?_)<;>intro c1<;>simp(maxSteps:=999999)(disch:=omega)only[go_sem,zA,zM,zS,zE,zL,c1])
   · simp(maxSteps:=999999)(disch:=omega)only[go_sem,zA,zM,zS,zE,zL,qc]
     ((first|(with_reducible first|refine Jo ?_ ?_|refine Jk ?_ ?_|refine Jp ?_ ?_)|refine Jr ?_ ?_)<;>intro c2)
     · have c2:(ys.length:Int)<2+t:=by omega
       simp(maxSteps:=999999)(disch:=omega)only[go_sem,zA,zM,zS,zE,zL]
       have hM:∀X:Ji,X[H.length+1]? =HI[H.length+1]?→look (QT (Z3 id HI.length (HI.length+1)) X) (H.length+1) g2=some ⟨g2,1,cl (eI .i64) ys⟩:=fun X hX=>by
        rw[UN (VB (by omega) (by omega))]
        unfold look at qc⊢
        rw[hX]
        exact qc
       have hM0:=hM HI rfl
       refine Zg [0,1,2,3,7,8,9,10,11,4,5,6,12,13,14] [10] none [15,16] (Z3 id HI.length (HI.length+1)) [0,0,0,4,14,31,63,0,0,256,896,0,2078,8094,16286,32767,65535] Zr (by kernel_rfl) ?_
       iterate 10 (rw[JP];simp(maxSteps:=999999)(disch:=omega)only[go_sem,zA,zM,zS,zE,zL,hM0])
       refine Qe.run (QQ HI id g _ _ q.rd (by omega)) (⟨_,Tryz.func35,rfl,rfl⟩:Jm Tryz.prog 35) rfl rfl ?_
       rintro _ H4 ⟨⟨a,rfl,a0,a1⟩,r4,f4⟩
       have hl1:=q.l1
       have a1:=a1 (by omega)
       replace f4:UH HI H4 [id]:=f4
       have q4:=q.pick r4 f4
       obtain⟨an,rfl⟩:∃an:Nat,a=an:=⟨a.toNat,by omega⟩
       have hok:∀X Y:Ji,UH X Y [id]→X.length=HI.length→KO (Z3 id HI.length (HI.length+1)) X Y:=fun X Y hf hX=>ZX fun j b hj hb=>by
        have hjl:=(Ja.1 hb).1
        obtain⟨h1,_⟩:=Vn hj (by omega)
        rw[hf.2 j (by simpa using h1)]
        exact hb
       refine⟨hok _ _ f4 rfl, ?_⟩
       have hM4:=hM H4 (f4.2 _ (by simp;omega))
       iterate 2 (rw[JP];simp(maxSteps:=999999)(disch:=omega)only[go_sem,zA,zM,zS,zE,zL,hM4])
       rw[JP]
       simp(maxSteps:=999999)(disch:=omega)only[go_sem,zA,zM,zS,zE,zL]
       refine Qe.run (QQ H4 id g _ _ q4.rd (by omega)) (⟨_,Tryz.func35,rfl,rfl⟩:Jm Tryz.prog 35) rfl rfl ?_
       rintro _ H5 ⟨⟨e,rfl,e0,e1⟩,r5,f5⟩
       have e1:=e1 (by omega)
       replace f5:UH H4 H5 [id]:=f5
       have q5:=q4.pick r5 f5
       obtain⟨en,rfl⟩:∃en:Nat,e=en:=⟨e.toNat,by omega⟩
       refine⟨hok _ _ f5 f4.1, ?_⟩
       obtain⟨L4,hL4,hl4,hv4⟩:∃L4:List Int,FV.sl 4 [.int .i64 1, .int .i64 (-1), .int .i64 (m:Int), .int .i64 (0 -(m:Int))]=QD L4∧L4.length=4∧-4≤JM L4 en∧JM L4 en≤4:=by
        refine⟨[1,-1,m,0 -m],rfl,rfl, ?_⟩
        obtain rfl|rfl|rfl|rfl:en=0∨en=1∨en=2∨en=3:=by omega
        · show-4≤(1:Int)∧(1:Int)≤4;omega
        · show-4≤(-1:Int)∧(-1:Int)≤4;omega
        · show-4≤(m:Int)∧(m:Int)≤4;omega
        · show-4≤0 -(m:Int)∧0 -(m:Int)≤4;omega
       rw[hL4]
       have hya:=q.val an (by omega)
       iterate 2 (rw[JP];simp(maxSteps:=999999)(disch:=omega)only[go_sem,zA,zM,zS,zE,zL])
       obtain⟨cc,hcc⟩:∃cc,cc=JM ys an+JM L4 en:=⟨_,rfl⟩
       rw[←hcc]
       have hcb: -4≤cc∧cc≤20:=by omega
       clear hL4 hcc
       have qc5:=q5.cells
       ((with_reducible first|refine JU ?_ ?_|refine JJ ?_ ?_|refine J6 ?_ ?_|refine Jx ?_ ?_|refine JS ?_ ?_|refine JT ?_ ?_|refine JH ?_ ?_|refine JI ?_ ?_|refine J4 ?_ ?_|refine J5 ?_ ?_|refine JC ?_ ?_|refine JD ?_ ?_)<;>intro d1<;>simp(maxSteps:=999999)(disch:=omega)only[go_sem,zA,zM,zS,zE,zL,d1])
       · skip
         refine Qj (fun(j:Nat) (b:Bool)=>ys.length -j) (fun j b=>j≤ys.length∧(b=true→0≤cc∧cc<(m:Int)*m)) (fun j b=>[.k, .k, .k, .k, .a, .a, .a, .a, .k, .k, .k, .k, .k, .p (bool b), .p (int j), .a, .a, .a, .a, .a, .a, .a, .a, .a, .a, .a, .a, .a, .a, .a, .a, .a, .a, .a, .a, .a, .a, .a, .a, .a, .a, .a, .a, .a, .a, .a, .a, .a, .a, .a, .a, .a, .a, .a, .a, .a, .a, .a, .a, .a, .a, .a, .a, .a, .a, .a, .a, .a, .a, .a, .a, .a, .a, .a, .a, .a, .a, .a, .a, .a, .a, .a, .a, .a, .a, .a, .a, .a, .a, .a, .a, .a, .a, .a, .a, .a, .a, .a, .a, .a, .a, .a, .a, .a, .a, .a, .a, .a, .a, .a, .a, .a, .a, .a, .a, .a, .a, .a, .a, .a, .a, .a, .a, .a, .a, .a, .a, .a, .a, .a, .a, .a, .a, .a, .a, .a, .a, .a, .a, .a, .a, .a, .a, .a, .a, .a, .a, .a, .a, .a, .a, .a, .a, .a, .a, .a, .a, .a, .a, .a, .a, .a, .a, .a, .a, .a, .a, .a, .a, .a, .a, .a, .a, .a, .a, .a, .a, .a, .a, .a, .a, .a, .a, .a, .a, .a, .a, .a, .a, .a, .a, .a, .a, .a, .a, .a, .a, .a, .a, .a, .a, .a, .a, .a, .a, .a, .a, .a, .a, .a, .a, .a, .a, .a, .a, .a, .a, .a, .a, .a, .a, .a, .a, .a, .a, .a, .a, .a, .a, .a, .a, .a]) (fun _ _=>H5) 0 (decide (cc<(m:Int)*m)) ⟨Nat.zero_le _,fun h=>⟨d1,of_decide_eq_true h⟩⟩ (by simp(maxSteps:=999999)(disch:=omega)only[go_sem,zA,zM,zS,zE,zL];rfl) (Qc.refl _) ?_
         rintro j b ⟨hj,hb⟩
         simp(maxSteps:=999999)(disch:=omega)only[go_sem,zA,zM,zS,zE,zL,qc5]
         ((first|(with_reducible first|refine Jo ?_ ?_|refine Jk ?_ ?_|refine Jp ?_ ?_)|refine Jr ?_ ?_)<;>intro e1)
         · have e1:j<ys.length:=by omega
           simp(maxSteps:=999999)(disch:=omega)only[go_sem,zA,zM,zS,zE,zL]
           cases b with
           |false=>
            simp(maxSteps:=999999)(disch:=omega)only[go_sem,zA,zM,zS,zE,zL]
            exact⟨j+1,false,⟨⟨by omega,hb⟩,by omega⟩,⟨rfl,by push_cast;omega⟩,Qc.refl _⟩
           |true=>
            simp(maxSteps:=999999)(disch:=omega)only[go_sem,zA,zM,zS,zE,zL,qc5]
            exact⟨j+1,_,⟨⟨by omega,fun _=>hb rfl⟩,by omega⟩,⟨rfl,by push_cast;omega⟩,Qc.refl _⟩
         · simp(maxSteps:=999999)(disch:=omega)only[go_sem,zA,zM,zS,zE,zL]
           ((first|(with_reducible first|refine Jo ?_ ?_|refine Jk ?_ ?_|refine Jp ?_ ?_)|refine Jr ?_ ?_)<;>intro e2)
           · simp(maxSteps:=999999)(disch:=omega)only[go_sem,zA,zM,zS,zE,zL]
             intro g9
             refine UT (JZ UW rfl Ru) ⟨rfl,rfl,by decide⟩ (by omega) (JR qc5) (by rw[Qb];omega) JY ?_
             intro g10
             simp(maxSteps:=999999)(disch:=omega)only[go_sem,zA,zM,zS,zE,zL]
             have hb:=hb e2
             have q6:=(q5.app (X:=[some ⟨g9,1,[.f (.int .i64 cc)]⟩])).set (g':=g10) (zs:=ys++[cc]) (by simp) (by simp;omega) fun i hi=>by
              by_cases h:i<ys.length
              · rw[Fv h];exact q.val i h
              · have:i=ys.length:=by simp at hi;omega
                subst this
                rw[Fu]
                exact hb
             exact⟨(k+1,g10,ys++[cc],_),⟨⟨by simp only;omega,q6.mono (by simp only;push_cast;omega)⟩,by simp only;omega⟩,⟨⟨rfl,by simp⟩,by simp only;push_cast;omega⟩,Qc.refl _⟩
           · simp(maxSteps:=999999)(disch:=omega)only[go_sem,zA,zM,zS,zE,zL]
             exact⟨(k+1,g2,ys,H5),⟨⟨by simp only;omega,q5.mono (by simp only;push_cast;omega)⟩,by simp only;omega⟩,⟨⟨rfl,rfl⟩,by simp only;push_cast;omega⟩,Qc.refl _⟩
       · skip
         refine Qj (fun(j:Nat) (b:Bool)=>ys.length -j) (fun j b=>j≤ys.length∧(b=true→0≤cc∧cc<(m:Int)*m)) (fun j b=>[.k, .k, .k, .k, .a, .a, .a, .a, .k, .k, .k, .k, .k, .p (bool b), .p (int j), .a, .a, .a, .a, .a, .a, .a, .a, .a, .a, .a, .a, .a, .a, .a, .a, .a, .a, .a, .a, .a, .a, .a, .a, .a, .a, .a, .a, .a, .a, .a, .a, .a, .a, .a, .a, .a, .a, .a, .a, .a, .a, .a, .a, .a, .a, .a, .a, .a, .a, .a, .a, .a, .a, .a, .a, .a, .a, .a, .a, .a, .a, .a, .a, .a, .a, .a, .a, .a, .a, .a, .a, .a, .a, .a, .a, .a, .a, .a, .a, .a, .a, .a, .a, .a, .a, .a, .a, .a, .a, .a, .a, .a, .a, .a, .a, .a, .a, .a, .a, .a, .a, .a, .a, .a, .a, .a, .a, .a, .a, .a, .a, .a, .a, .a, .a, .a, .a, .a, .a, .a, .a, .a, .a, .a, .a, .a, .a, .a, .a, .a, .a, .a, .a, .a, .a, .a, .a, .a, .a, .a, .a, .a, .a, .a, .a, .a, .a, .a, .a, .a, .a, .a, .a, .a, .a, .a, .a, .a, .a, .a, .a, .a, .a, .a, .a, .a, .a, .a, .a, .a, .a, .a, .a, .a, .a, .a, .a, .a, .a, .a, .a, .a, .a, .a, .a, .a, .a, .a, .a, .a, .a, .a, .a, .a, .a, .a, .a, .a, .a, .a, .a, .a, .a, .a, .a, .a, .a, .a, .a, .a, .a, .a, .a, .a, .a, .a]) (fun _ _=>H5) 0 false ⟨Nat.zero_le _,fun h=>by cases h⟩ (by simp(maxSteps:=999999)(disch:=omega)only[go_sem,zA,zM,zS,zE,zL];rfl) (Qc.refl _) ?_
         rintro j b ⟨hj,hb⟩
         simp(maxSteps:=999999)(disch:=omega)only[go_sem,zA,zM,zS,zE,zL,qc5]
         ((first|(with_reducible first|refine Jo ?_ ?_|refine Jk ?_ ?_|refine Jp ?_ ?_)|refine Jr ?_ ?_)<;>intro e1)
         · have e1:j<ys.length:=by omega
           simp(maxSteps:=999999)(disch:=omega)only[go_sem,zA,zM,zS,zE,zL]
           cases b with
           |false=>
            simp(maxSteps:=999999)(disch:=omega)only[go_sem,zA,zM,zS,zE,zL]
            exact⟨j+1,false,⟨⟨by omega,hb⟩,by omega⟩,⟨rfl,by push_cast;omega⟩,Qc.refl _⟩
           |true=>
            simp(maxSteps:=999999)(disch:=omega)only[go_sem,zA,zM,zS,zE,zL,qc5]
            exact⟨j+1,_,⟨⟨by omega,fun _=>hb rfl⟩,by omega⟩,⟨rfl,by push_cast;omega⟩,Qc.refl _⟩
         · simp(maxSteps:=999999)(disch:=omega)only[go_sem,zA,zM,zS,zE,zL]
           ((first|(with_reducible first|refine Jo ?_ ?_|refine Jk ?_ ?_|refine Jp ?_ ?_)|refine Jr ?_ ?_)<;>intro e2)
           · simp(maxSteps:=999999)(disch:=omega)only[go_sem,zA,zM,zS,zE,zL]
             intro g9
             refine UT (JZ UW rfl Ru) ⟨rfl,rfl,by decide⟩ (by omega) (JR qc5) (by rw[Qb];omega) JY ?_
             intro g10
             simp(maxSteps:=999999)(disch:=omega)only[go_sem,zA,zM,zS,zE,zL]
             have hb:=hb e2
             have q6:=(q5.app (X:=[some ⟨g9,1,[.f (.int .i64 cc)]⟩])).set (g':=g10) (zs:=ys++[cc]) (by simp) (by simp;omega) fun i hi=>by
              by_cases h:i<ys.length
              · rw[Fv h];exact q.val i h
              · have:i=ys.length:=by simp at hi;omega
                subst this
                rw[Fu]
                exact hb
             exact⟨(k+1,g10,ys++[cc],_),⟨⟨by simp only;omega,q6.mono (by simp only;push_cast;omega)⟩,by simp only;omega⟩,⟨⟨rfl,by simp⟩,by simp only;push_cast;omega⟩,Qc.refl _⟩
           · simp(maxSteps:=999999)(disch:=omega)only[go_sem,zA,zM,zS,zE,zL]
             exact⟨(k+1,g2,ys,H5),⟨⟨by simp only;omega,q5.mono (by simp only;push_cast;omega)⟩,by simp only;omega⟩,⟨⟨rfl,rfl⟩,by simp only;push_cast;omega⟩,Qc.refl _⟩
     · simp(maxSteps:=999999)(disch:=omega)only[go_sem,zA,zM,zS,zE,zL]
       exact⟨(g8,g2,ys,HI),q.mono (by omega),⟨rfl,rfl,rfl⟩,Qc.refl _⟩
   · exact⟨(g8,g2,ys,HI),q.mono (by omega),⟨rfl,rfl,rfl⟩,Qc.refl _⟩
 · rintro⟨g8,g2,ys,HI⟩ q
   simp only at q
   have hlt2:=q.ln
   have hzI:look HI cid cg=some ⟨cg,1,cl (eI .i64) zs⟩:=by
    unfold look at hz⊢
    rw[q.frm cid hclt hne]
    exact hz
   have qc:=q.cells
   have qv:=q.val
   have q4:=q.l4
   have q1:=q.l1
   simp(maxSteps:=999999)(disch:=omega)only[go_sem,zA,zM,zS,zE,zL]
   refine QM.cutN 4 (fun a:Int×Int×Nat=>True) (fun a=>[.k, .k, .k, .k, .a, .a, .a, .a, .k, .k, .a, .a, .a, .a, .a, .a, .p (int a.1), .a, .p (.c (.ptr HI.length a.2.2 0)), .a, .a, .a, .a, .a, .a, .a, .a, .a, .a, .a, .a, .a, .a, .a, .a, .a, .a, .a, .a, .a, .a, .a, .a, .a, .a, .a, .a, .a, .a, .a, .a, .a, .a, .a, .a, .a, .a, .a, .a, .a, .a, .a, .a, .a, .a, .a, .a, .a, .a, .a, .a, .a, .a, .a, .a, .a, .a, .a, .a, .a, .a, .a, .a, .a, .a, .a, .a, .a, .a, .a, .a, .a, .a, .a, .a, .a, .a, .a, .a, .a, .a, .a, .a, .a, .a, .a, .a, .a, .a, .a, .a, .a, .a, .a, .a, .a, .a, .a, .a, .a, .a, .a, .a, .a, .a, .a, .a, .a, .a, .a, .a, .a, .a, .a, .a, .a, .a, .a, .a, .a, .a, .a, .a, .a, .a, .a, .a, .a, .a, .a, .a, .a, .a, .a, .a, .a, .a, .a, .a, .a, .a, .a, .a, .a, .a, .a, .a, .a, .a, .a, .a, .a, .a, .a, .a, .a, .a, .a, .a, .a, .a, .a, .a, .a, .a, .a, .a, .a, .a, .a, .a, .a, .a, .a, .a, .a, .a, .a, .a, .a, .a, .a, .a, .a, .a, .a, .a, .a, .a, .a, .a, .a, .a, .a, .a, .a, .a, .a, .a, .a, .a, .a, .a, .a, .a, .a, .a, .a, .a, .a, .a, .a]) (fun a=>HI++[some ⟨a.2.2,3,[.f (.int .i64 2), .own (H.length+1) g2 0 ys.length none, .f (.int .i64 a.2.1)]⟩]) ?_ ?_
   · simp(maxSteps:=999999)(disch:=omega)only[go_sem,zA,zM,zS,zE,zL]
     refine Qj (fun(k:Nat) (b:Int×Int)=>ys.length -k) (fun k b=>k≤ys.length) (fun k b=>[.k, .k, .k, .k, .a, .a, .a, .a, .k, .k, .a, .a, .a, .a, .a, .p (int b.1), .p (int b.2), .p (int k), .a, .a, .a, .a, .a, .a, .a, .a, .a, .a, .a, .a, .a, .a, .a, .a, .a, .a, .a, .a, .a, .a, .a, .a, .a, .a, .a, .a, .a, .a, .a, .a, .a, .a, .a, .a, .a, .a, .a, .a, .a, .a, .a, .a, .a, .a, .a, .a, .a, .a, .a, .a, .a, .a, .a, .a, .a, .a, .a, .a, .a, .a, .a, .a, .a, .a, .a, .a, .a, .a, .a, .a, .a, .a, .a, .a, .a, .a, .a, .a, .a, .a, .a, .a, .a, .a, .a, .a, .a, .a, .a, .a, .a, .a, .a, .a, .a, .a, .a, .a, .a, .a, .a, .a, .a, .a, .a, .a, .a, .a, .a, .a, .a, .a, .a, .a, .a, .a, .a, .a, .a, .a, .a, .a, .a, .a, .a, .a, .a, .a, .a, .a, .a, .a, .a, .a, .a, .a, .a, .a, .a, .a, .a, .a, .a, .a, .a, .a, .a, .a, .a, .a, .a, .a, .a, .a, .a, .a, .a, .a, .a, .a, .a, .a, .a, .a, .a, .a, .a, .a, .a, .a, .a, .a, .a, .a, .a, .a, .a, .a, .a, .a, .a, .a, .a, .a, .a, .a, .a, .a, .a, .a, .a, .a, .a, .a, .a, .a, .a, .a, .a, .a, .a, .a, .a, .a, .a, .a, .a, .a, .a, .a, .a, .a]) (fun _ _=>HI) 0 (0,1) (Nat.zero_le _) (by simp(maxSteps:=999999)(disch:=omega)only[go_sem,zA,zM,zS,zE,zL];rfl) (Qc.refl _) ?_
     rintro k ⟨su,pr⟩ hk
     simp(maxSteps:=999999)(disch:=omega)only[go_sem,zA,zM,zS,zE,zL,qc]
     ((first|(with_reducible first|refine Jo ?_ ?_|refine Jk ?_ ?_|refine Jp ?_ ?_)|refine Jr ?_ ?_)<;>intro c1)
     · have c1:k<ys.length:=by omega
       have hy:=qv k c1
       simp(maxSteps:=999999)(disch:=omega)only[go_sem,zA,zM,zS,zE,zL,qc,hzI]
       exact⟨k+1,(IntKind.i64.wrap (su+JM zs (JM ys k)),IntKind.i64.wrap (pr*max 1 (JM zs (JM ys k)))),⟨by omega,by omega⟩,⟨rfl,rfl,by push_cast;omega⟩,Qc.refl _⟩
     · simp(maxSteps:=999999)(disch:=omega)only[go_sem,zA,zM,zS,zE,zL]
       intro g18
       simp(maxSteps:=999999)(disch:=omega)only[go_sem,zA,zM,zS,zE,zL,JY,Up]
       exact⟨(pr,max 1 su,g18),⟨rfl,rfl⟩,Qc.refl _⟩
   · rintro⟨pr,su,g18⟩ _
     obtain⟨HJ,hHJ⟩:∃HJ:Ji,HJ=HI++[some ⟨g18,3,[.f (.int .i64 2), .own (H.length+1) g2 0 ys.length none, .f (.int .i64 su)]⟩]:=⟨_,rfl⟩
     have qJ:=q.app (X:=[some ⟨g18,3,[.f (.int .i64 2), .own (H.length+1) g2 0 ys.length none, .f (.int .i64 su)]⟩])
     have hJ:look HJ HI.length g18=some ⟨g18,3,[.f (.int .i64 2), .own (H.length+1) g2 0 ys.length none, .f (.int .i64 su)]⟩:=by rw[hHJ];exact JY
     have hJl:HJ.length=HI.length+1:=by rw[hHJ];simp
     rw[←hHJ]at qJ
     simp(maxSteps:=999999)(disch:=omega)only[go_sem,zA,zM,zS,zE,zL]
     rw[←hHJ]
     clear hHJ
     have hcell:∀HE:Ji,HE[H.length+1]? =HJ[H.length+1]?→∀k:Nat,1≤k→k≤ys.length→Xd H HE HI.length (.own (H.length+1) g2 0 k none) (ys.take k):=fun HE he k _ hk=>
      .inr ⟨_,_,_,ys,rfl,by have:=qJ.cells;unfold look at this⊢;rw[he];exact this,hk,rfl,by omega,by omega⟩
     have o0:KE H HJ id g (B+40) 4 g8 HI.length g18 ys:=
      {out:=qJ.out,ex:=⟨_,_,_,hJ,by have:=hcell HJ rfl ys.length q1 (Nat.le_refl _);rwa [List.take_length]at this⟩
       l1:=q1,l5:=by omega,rd:=qJ.rd,lt:=hlt,ln:=by omega,frm:=qJ.frm}
     refine QM.cutN 1 (fun a:List Int×Ji=>KE H a.2 id g (B+41) 4 g8 HI.length g18 a.1) (fun a=>[.k, .a, .k, .k, .a, .a, .a, .a, .k, .a, .a, .a, .a, .a, .a, .a, .a, .a, .k, .a, .a, .a, .a, .a, .a, .a, .a, .a, .a, .a, .a, .a, .a, .a, .a, .a, .a, .a, .a, .a, .a, .a, .a, .a, .a, .a, .a, .a, .a, .a, .a, .a, .a, .a, .a, .a, .a, .a, .a, .a, .a, .a, .a, .a, .a, .a, .a, .a, .a, .a, .a, .a, .a, .a, .a, .a, .a, .a, .a, .a, .a, .a, .a, .a, .a, .a, .a, .a, .a, .a, .a, .a, .a, .a, .a, .a, .a, .a, .a, .a, .a, .a, .a, .a, .a, .a, .a, .a, .a, .a, .a, .a, .a, .a, .a, .a, .a, .a, .a, .a, .a, .a, .a, .a, .a, .a, .a, .a, .a, .a, .a, .a, .a, .a, .a, .a, .a, .a, .a, .a, .a, .a, .a, .a, .a, .a, .a, .a, .a, .a, .a, .a, .a, .a, .a, .a, .a, .a, .a, .a, .a, .a, .a, .a, .a, .a, .a, .a, .a, .a, .a, .a, .a, .a, .a, .a, .a, .a, .a, .a, .a, .a, .a, .a, .a, .a, .a, .a, .a, .a, .a, .a, .a, .a, .a, .a, .a, .a, .a, .a, .a, .a, .a, .a, .a, .a, .a, .a, .a, .a, .a, .a, .a, .a, .a, .a, .a, .a, .a, .a, .a, .a, .a, .a, .a, .a, .a, .a, .a, .a, .a, .a]) (fun a=>a.2) ?_ ?_
     · simp(maxSteps:=999999)(disch:=omega)only[go_sem,zA,zM,zS,zE,zL]
       refine Qh.run (QQ HJ id g _ _ qJ.rd (by omega)) (⟨_,Tryz.func35,rfl,rfl⟩:Jm Tryz.prog 35) rfl rfl ?_
       rintro _ H1 ⟨⟨a,rfl,a0,a1⟩,r1,f1⟩
       replace f1:UH HJ H1 [id]:=f1
       have o1:KE H H1 id g (B+41) 4 g8 HI.length g18 ys:=(o0.pick r1 f1).mono (by omega)
       have q1':=qJ.pick r1 f1
       have hk1:=q1'.cells
       have hJ1:look H1 HI.length g18=some ⟨g18,3,[.f (.int .i64 2), .own (H.length+1) g2 0 ys.length none, .f (.int .i64 su)]⟩:=by rw[f1.look (by simp;omega)];exact hJ
       have hz1:look H1 cid cg=some ⟨cg,1,cl (eI .i64) zs⟩:=by
        unfold look at hz⊢
        rw[o1.frm cid hclt hne]
        exact hz
       have hcell1:∀k:Nat,1≤k→k≤ys.length→Xd H H1 HI.length (.own (H.length+1) g2 0 k none) (ys.take k):=fun k h1 h2=>hcell H1 (f1.2 _ (by simp;omega)) k h1 h2
       have hfin:∀HE xs,KE H HE id g (B+41) 4 g8 HI.length g18 xs→∃a:List Int×Ji,KE H a.2 id g (B+41) 4 g8 HI.length g18 a.1∧Qc HE a.2:=fun HE xs h=>⟨(xs,HE),h,Qc.refl _⟩
       simp(maxSteps:=999999)(disch:=omega)only[go_sem,zA,zM,zS,zE,zL]
       have hJX:∀X,look (H1++X) HI.length g18=some ⟨g18,3,[.f (.int .i64 2), .own (H.length+1) g2 0 ys.length none, .f (.int .i64 su)]⟩:=fun X=>JR hJ1
       have hkS:∀X b,look ((H1++X).set HI.length b) (H.length+1) g2=some ⟨g2,1,cl (eI .i64) ys⟩:=fun X b=>by rw[J7 (by omega)];exact JR hk1
       have hzS:∀X b,look ((H1++X).set HI.length b) cid cg=some ⟨cg,1,cl (eI .i64) zs⟩:=fun X b=>by rw[J7 (by omega)];exact JR hz1
       have hJS:∀X b,look ((H1++X).set HI.length (some ⟨g18,3,b⟩)) HI.length g18=some ⟨g18,3,b⟩:=fun X b=>JK (by rw[Je,f1.1];omega)
       have hl1:H1.length=HI.length+1:=by rw[f1.1,hJl]
       have hsl:2≤ys.length→Uf Tryz.prog H1 23 (.c (.own (H.length+1) g2 0 ys.length none)) none (some 2) none=some (.c (.own (H.length+1) g2 0 2 none)):=fun e2=>by
        simp only[Uf,UW,Ru,hk1,Option.getD_none,Option.getD_some]
        rw[if_pos ⟨by omega,by omega,by rw[Qb];omega,by simp,trivial,by omega,by omega⟩]
       ((first|(with_reducible first|refine Jo ?_ ?_|refine Jk ?_ ?_|refine Jp ?_ ?_)|refine Jr ?_ ?_)<;>intro e0)
       · simp(maxSteps:=999999)(disch:=omega)only[go_sem,zA,zM,zS,zE,zL,hJ1]
         exact hfin _ _ (o1.set (by have:=hcell1 ys.length q1 (Nat.le_refl _);rwa [List.take_length]at this) q1 (by omega))
       simp(maxSteps:=999999)(disch:=omega)only[go_sem,zA,zM,zS,zE,zL]
       ((first|(with_reducible first|refine Jo ?_ ?_|refine Jk ?_ ?_|refine Jp ?_ ?_)|refine Jr ?_ ?_)<;>intro e1)
       · simp(maxSteps:=999999)(disch:=omega)only[go_sem,zA,zM,zS,zE,zL,hk1]
         ((first|(with_reducible first|refine Jo ?_ ?_|refine Jk ?_ ?_|refine Jp ?_ ?_)|refine Jr ?_ ?_)<;>intro e2)
         · have e2:2≤ys.length:=by omega
           have v0:=qv 0 (by omega)
           have v1:=qv 1 (by omega)
           simp only[Int.natCast_zero,Int.natCast_one]at v0 v1
           simp(maxSteps:=999999)(disch:=omega)only[go_sem,zA,zM,zS,zE,zL]
           refine Zg [0,1,2,3,4,5] [] none [6,7,8] [] [0,1,3,0,8,24,63,127,255] Zr (by kernel_rfl) ?_
           iterate 6 (rw[JP];simp(maxSteps:=999999)(disch:=omega)only[go_sem,zA,zM,zS,zE,zL,hk1])
           intro g5
           simp(maxSteps:=999999)(disch:=omega)only[go_sem,zA,zM,zS,zE,zL,hJX]
           have o2:=(o1.app (X:=[some ⟨g5,1,[.f (.int .i64 (JM ys 0)), .f (.int .i64 (JM ys 1))]⟩])).set (a:=4) (b:=0) (c:= .own H1.length g5 0 2 none) (zs:=[JM ys 0,JM ys 1]) (.inr ⟨H1.length,g5,2,[JM ys 0,JM ys 1],rfl,JY,by simp,rfl,by omega,by omega⟩) (by simp) (by simp)
           have hl5:((H1++([some ⟨g5,1,[.f (.int .i64 (JM ys 0)), .f (.int .i64 (JM ys 1))]⟩]:Ji)).set HI.length (some ⟨g18,3,[.f (.int .i64 4), .own H1.length g5 0 2 none, .f (.int .i64 0)]⟩)).length=H1.length+1:=by simp
           refine Q7 Zr (by kernel_rfl) ?_
           simp(maxSteps:=999999)(disch:=omega)only[go_sem,zA,zM,zS,zE,zL,hkS,hzS]
           ((first|(with_reducible first|refine Jo ?_ ?_|refine Jk ?_ ?_|refine Jp ?_ ?_)|refine Jr ?_ ?_)<;>intro e3)
           · simp(maxSteps:=999999)(disch:=omega)only[go_sem,zA,zM,zS,zE,zL]
             refine Zg [0,1,2,3,4,5] [] none [6,7,8] [] [0,1,3,0,8,24,63,127,255] Zr (by kernel_rfl) ?_
             iterate 6 (rw[JP];simp(maxSteps:=999999)(disch:=omega)only[go_sem,zA,zM,zS,zE,zL,hkS])
             intro g6
             simp(maxSteps:=999999)(disch:=omega)only[go_sem,zA,zM,zS,zE,zL,hJS,JR (hJS _ _)]
             refine hfin _ _ ((o2.app (X:=[some ⟨g6,1,[.f (.int .i64 (JM ys 1)), .f (.int .i64 (JM ys 0))]⟩])).set (a:=4) (b:=0) (c:= .own (H1.length+1) g6 0 2 none) (zs:=[JM ys 1,JM ys 0]) (.inr ⟨H1.length+1,g6,2,[JM ys 1,JM ys 0],rfl, ?_,by simp,rfl,by omega,by omega⟩) (by simp) (by simp))
             rw[←hl5]
             exact JY
           · simp(maxSteps:=999999)(disch:=omega)only[go_sem,zA,zM,zS,zE,zL]
             exact hfin _ _ o2
         · simp(maxSteps:=999999)(disch:=omega)only[go_sem,zA,zM,zS,zE,zL]
           exact hfin _ _ o1
       simp(maxSteps:=999999)(disch:=omega)only[go_sem,zA,zM,zS,zE,zL]
       ((first|(with_reducible first|refine Jo ?_ ?_|refine Jk ?_ ?_|refine Jp ?_ ?_)|refine Jr ?_ ?_)<;>intro e2)
       · simp(maxSteps:=999999)(disch:=omega)only[go_sem,zA,zM,zS,zE,zL,hk1]
         ((first|(with_reducible first|refine Jo ?_ ?_|refine Jk ?_ ?_|refine Jp ?_ ?_)|refine Jr ?_ ?_)<;>intro e3)
         · have e2:2≤ys.length:=by omega
           have v0:=qv 0 (by omega)
           have v1:=qv 1 (by omega)
           simp only[Int.natCast_zero,Int.natCast_one]at v0 v1
           simp(maxSteps:=999999)(disch:=omega)only[go_sem,zA,zM,zS,zE,zL]
           refine Q7 Zr (by kernel_rfl) ?_
           simp(maxSteps:=999999)(disch:=omega)only[go_sem,zA,zM,zS,zE,zL,hk1,hz1]
           simp(maxSteps:=999999)(disch:=omega)only[go_sem,zA,zM,zS,zE,zL,Int.reduceToNat,hsl e2,hJ1]
           exact hfin _ _ (o1.set (hcell1 2 (by omega) e2) (by simp;omega) (by simp;omega))
         · simp(maxSteps:=999999)(disch:=omega)only[go_sem,zA,zM,zS,zE,zL]
           exact hfin _ _ o1
       simp(maxSteps:=999999)(disch:=omega)only[go_sem,zA,zM,zS,zE,zL]
       ((first|(with_reducible first|refine Jo ?_ ?_|refine Jk ?_ ?_|refine Jp ?_ ?_)|refine Jr ?_ ?_)<;>intro e4)
       · simp(maxSteps:=999999)(disch:=omega)only[go_sem,zA,zM,zS,zE,zL,hk1]
         ((first|(with_reducible first|refine Jo ?_ ?_|refine Jk ?_ ?_|refine Jp ?_ ?_)|refine Jr ?_ ?_)<;>intro e5)
         · have e2:2≤ys.length:=by omega
           simp(maxSteps:=999999)(disch:=omega)only[go_sem,zA,zM,zS,zE,zL,hk1,Int.reduceToNat,hsl e2,hJ1]
           exact hfin _ _ (o1.set (hcell1 2 (by omega) e2) (by simp;omega) (by simp;omega))
         · simp(maxSteps:=999999)(disch:=omega)only[go_sem,zA,zM,zS,zE,zL]
           exact hfin _ _ o1
       · simp(maxSteps:=999999)(disch:=omega)only[go_sem,zA,zM,zS,zE,zL]
         exact hfin _ _ o1
     · rintro⟨xs,HE⟩ o
       simp only at o
       have o0:=o.len
       simp(maxSteps:=999999)(disch:=omega)only[go_sem,zA,zM,zS,zE,zL]
       refine QM.cutN 1 (fun a:List Int×Ji=>KE H a.2 id g (B+60) 5 g8 HI.length g18 a.1) (fun a=>[.a, .a, .a, .a, .a, .a, .a, .a, .k, .a, .a, .a, .a, .a, .a, .a, .a, .a, .k, .a, .a, .a, .a, .a, .a, .a, .a, .a, .a, .a, .a, .a, .a, .a, .a, .a, .a, .a, .a, .a, .a, .a, .a, .a, .a, .a, .a, .a, .a, .a, .a, .a, .a, .a, .a, .a, .a, .a, .a, .a, .a, .a, .a, .a, .a, .a, .a, .a, .a, .a, .a, .a, .a, .a, .a, .a, .a, .a, .a, .a, .a, .a, .a, .a, .a, .a, .a, .a, .a, .a, .a, .a, .a, .a, .a, .a, .a, .a, .a, .a, .a, .a, .a, .a, .a, .a, .a, .a, .a, .a, .a, .a, .a, .a, .a, .a, .a, .a, .a, .a, .a, .a, .a, .a, .a, .a, .a, .a, .a, .a, .a, .a, .a, .a, .a, .a, .a, .a, .a, .a, .a, .a, .a, .a, .a, .a, .a, .a, .a, .a, .a, .a, .a, .a, .a, .a, .a, .a, .a, .a, .a, .a, .a, .a, .a, .a, .a, .a, .a, .a, .a, .a, .a, .a, .a, .a, .a, .a, .a, .a, .a, .a, .a, .a, .a, .a, .a, .a, .a, .a, .a, .a, .a, .a, .a, .a, .a, .a, .a, .a, .a, .a, .a, .a, .a, .a, .a, .a, .a, .a, .a, .a, .a, .a, .a, .a, .a, .a, .a, .a, .a, .a, .a, .a, .a, .a, .a, .a, .a, .a, .a, .a]) (fun a=>a.2) ?_ ?_
       · simp(maxSteps:=999999)(disch:=omega)only[go_sem,zA,zM,zS,zE,zL]
         refine Qh.run (Rk HE id g _ kk o.rd (by omega) hkk) (⟨_,Tryz.func41,rfl,rfl⟩:Jm Tryz.prog 41) rfl rfl ?_
         rintro _ H1 ⟨⟨b,rfl,_⟩,r1,f1⟩
         replace f1:UH HE H1 [id]:=f1
         have o1:=o.pick r1 f1
         have hfin:∀HE xs B' N',B'≤B+60→N'≤5→KE H HE id g B' N' g8 HI.length g18 xs→∃a:List Int×Ji,KE H a.2 id g (B+60) 5 g8 HI.length g18 a.1∧Qc HE a.2:=fun HE xs B' N' hb hN h=>⟨(xs,HE),(h.mono hb).wid hN,Qc.refl _⟩
         simp(maxSteps:=999999)(disch:=omega)only[go_sem,zA,zM,zS,zE,zL]
         ((first|(with_reducible first|refine Jo ?_ ?_|refine Jk ?_ ?_|refine Jp ?_ ?_)|refine Jr ?_ ?_)<;>intro e0)
         rotate_left
         · simp(maxSteps:=999999)(disch:=omega)only[go_sem,zA,zM,zS,zE,zL]
           exact hfin _ _ _ _ (by omega) (by omega) o1
         simp(maxSteps:=999999)(disch:=omega)only[go_sem,zA,zM,zS,zE,zL]
         refine Qh.run (QQ H1 id g _ _ o1.rd (by omega)) (⟨_,Tryz.func35,rfl,rfl⟩:Jm Tryz.prog 35) rfl rfl ?_
         rintro _ H2 ⟨⟨a,rfl,a0,a1⟩,r2,f2⟩
         replace f2:UH H1 H2 [id]:=f2
         have o2:=o1.pick r2 f2
         obtain⟨ka,kb,c,hJ2,hc2⟩:=o2.ex
         have hJX:∀X,look (H2++X) HI.length g18=some ⟨g18,3,[.f (.int .i64 ka),c, .f (.int .i64 kb)]⟩:=fun X=>JR hJ2
         have l1:=o2.l1
         have l5:=o2.l5
         have hln:=o2.ln
         simp(maxSteps:=999999)(disch:=omega)only[go_sem,zA,zM,zS,zE,zL]
         ((first|(with_reducible first|refine Jo ?_ ?_|refine Jk ?_ ?_|refine Jp ?_ ?_)|refine Jr ?_ ?_)<;>intro e1)
         · simp(maxSteps:=999999)(disch:=omega)only[go_sem,zA,zM,zS,zE,zL]
           intro g5
           have o3:=o2.app (X:=[some ⟨g5,1,[.f (.int .i64 0), .f (.int .i64 6)]⟩])
           refine Qh.run (QQ _ id g _ _ o3.rd (by omega)) (⟨_,Tryz.func35,rfl,rfl⟩:Jm Tryz.prog 35) rfl rfl ?_
           rintro _ H3 ⟨⟨y,rfl,y0,y1⟩,r3,f3⟩
           have y1:=y1 (by omega)
           replace f3:UH (H2++[some ⟨g5,1,[.f (.int .i64 0), .f (.int .i64 6)]⟩]) H3 [id]:=f3
           have o4:=o3.pick r3 f3
           obtain⟨kc,kd,c3,hJ3,hc3⟩:=o4.ex
           have hb:=f3.last o2.rd.lt
           obtain rfl|rfl:y=0∨y=1:=by omega
           all_goals
            simp(maxSteps:=999999)(disch:=omega)only[go_sem,zA,zM,zS,zE,zL,hb,Int.reduceToNat,hJ3]
            exact hfin _ _ _ _ (by omega) (by omega) (o4.set hc3 o2.l1 o2.l5)
         simp(maxSteps:=999999)(disch:=omega)only[go_sem,zA,zM,zS,zE,zL]
         ((first|(with_reducible first|refine Jo ?_ ?_|refine Jk ?_ ?_|refine Jp ?_ ?_)|refine Jr ?_ ?_)<;>intro e2)
         · simp(maxSteps:=999999)(disch:=omega)only[go_sem,zA,zM,zS,zE,zL]
           have hel:=hc2.elems
           rcases hc2 with hc2|⟨i5,g5,k5,ys5,hc2,h2,h3,h4,h5,h6⟩
           · subst hc2
             refine Zg [0,1,2,4,5,6,7,8,3] [0,8] none [9,10,11] [] [0,0,2,7,0,16,48,112,240,511,1023,2047] Zr (by kernel_rfl) ?_
             iterate 8 (rw[JP];simp(maxSteps:=999999)(disch:=omega)only[go_sem,zA,zM,zS,zE,zL,hJ2])
             rw[JP]
             simp(maxSteps:=999999)(disch:=omega)only[go_sem,zA,zM,zS,zE,zL]
             refine VH (E:=eI .i64) (JZ UW rfl Ru) ⟨rfl,rfl,by decide,by decide⟩ .m ⟨by simp,by omega⟩ hel ?_
             intro c' H3 hL3 hf3 hi3 hl3 hb3
             refine⟨ZX fun j b hj hb=>by
              have hjl:=(Ja.1 hb).1
              rw[hf3 j hjl (fun h=>h)]
              exact hb, ?_⟩
             simp(maxSteps:=999999)(disch:=omega)only[go_sem,zA,zM,zS,zE,zL]
             refine VH (E:=eI .i64) (ys:=[JM xs (0:Int)]) (JZ UW rfl Ru) ⟨rfl,rfl,by decide,by decide⟩ hL3 ⟨by simp;omega,by simp⟩ rfl ?_
             intro c4 H4 hL4 hf4 hi4 hl4 hb4
             have hi4':∀k,Q1 c4 k→k=H2.length∨k=H3.length:=fun k hk=>by
              rcases hi4 k hk with h|h
              · rcases hi3 k h with h|h
                · exact h.elim
                · exact .inl h
              · exact .inr h
             have hfr:∀k,k<H2.length→H4[k]? =H2[k]? :=fun k hk=>by
              rw[hf4 k (by omega) (fun h=>by
               rcases hi3 k h with h|h
               · exact h.elim
               · omega),hf3 k hk (fun h=>h)]
             have hJ4:look H4 HI.length g18=look H2 HI.length g18:=by unfold look;rw[hfr _ (by omega)]
             rw[hJ2]at hJ4
             have o4:KE H H4 id g (B+60) 5 g8 HI.length g18 xs:=
              {out:=by have:=o2.out;unfold look at this⊢;rw[hfr _ (by omega)];exact this
               ex:=⟨_,_,_,hJ4,by
                obtain⟨_,_,cc,w1,w2⟩:=o2.ex
                rw[hJ2]at w1
                cases w1
                exact w2.same fun i _ _ hi=>hfr i hi⟩
               l1:=o2.l1,l5:=by omega,rd:=(o2.rd.mono (by omega)).same (hfr _ (by omega)),lt:=o2.lt,ln:=by omega
               frm:=fun k hk hn=>by rw[hfr k (by omega)];exact o2.frm k hk hn}
             generalize hzs:[]++xs++[JM xs (0:Int)]=zs4 at hL4
             have hz4:zs4.length=xs.length+1:=by rw[←hzs];simp
             simp(maxSteps:=999999)(disch:=omega)only[go_sem,zA,zM,zS,zE,zL,hJ4]
             cases hL4 with
             |n=>simp at hz4
             |m=>simp at hz4
             |o id4 g4 _ hlk=>
              have:=hi4' id4 rfl
              exact hfin _ _ _ _ (by omega) (by omega) (o4.set (a:=ka) (b:=kb) (zs:=zs4) (.inr ⟨id4,g4,zs4.length,zs4,rfl,hlk,Nat.le_refl _,by rw[List.take_length],by omega,by omega⟩) (by omega) (by omega))
           · subst hc2
             have hk5:1≤k5:=by rw[h4,JA]at l1;omega
             refine Zg [0,1,2,4,5,6,7,8,3] [0,8] none [9,10,11] [] [0,0,2,7,0,16,48,112,240,511,1023,2047] Zr (by kernel_rfl) ?_
             iterate 8 (rw[JP];simp(maxSteps:=999999)(disch:=omega)only[go_sem,zA,zM,zS,zE,zL,hJ2,h2])
             rw[JP]
             simp(maxSteps:=999999)(disch:=omega)only[go_sem,zA,zM,zS,zE,zL]
             refine VH (E:=eI .i64) (JZ UW rfl Ru) ⟨rfl,rfl,by decide,by decide⟩ .m ⟨by simp,by omega⟩ hel ?_
             intro c' H3 hL3 hf3 hi3 hl3 hb3
             refine⟨ZX fun j b hj hb=>by
              have hjl:=(Ja.1 hb).1
              rw[hf3 j hjl (fun h=>h)]
              exact hb, ?_⟩
             simp(maxSteps:=999999)(disch:=omega)only[go_sem,zA,zM,zS,zE,zL]
             refine VH (E:=eI .i64) (ys:=[JM ys5 (0:Int)]) (JZ UW rfl Ru) ⟨rfl,rfl,by decide,by decide⟩ hL3 ⟨by simp;omega,by simp⟩ rfl ?_
             intro c4 H4 hL4 hf4 hi4 hl4 hb4
             have hi4':∀k,Q1 c4 k→k=H2.length∨k=H3.length:=fun k hk=>by
              rcases hi4 k hk with h|h
              · rcases hi3 k h with h|h
                · exact h.elim
                · exact .inl h
              · exact .inr h
             have hfr:∀k,k<H2.length→H4[k]? =H2[k]? :=fun k hk=>by
              rw[hf4 k (by omega) (fun h=>by
               rcases hi3 k h with h|h
               · exact h.elim
               · omega),hf3 k hk (fun h=>h)]
             have hJ4:look H4 HI.length g18=look H2 HI.length g18:=by unfold look;rw[hfr _ (by omega)]
             rw[hJ2]at hJ4
             have o4:KE H H4 id g (B+60) 5 g8 HI.length g18 xs:=
              {out:=by have:=o2.out;unfold look at this⊢;rw[hfr _ (by omega)];exact this
               ex:=⟨_,_,_,hJ4,by
                obtain⟨_,_,cc,w1,w2⟩:=o2.ex
                rw[hJ2]at w1
                cases w1
                exact w2.same fun i _ _ hi=>hfr i hi⟩
               l1:=o2.l1,l5:=by omega,rd:=(o2.rd.mono (by omega)).same (hfr _ (by omega)),lt:=o2.lt,ln:=by omega
               frm:=fun k hk hn=>by rw[hfr k (by omega)];exact o2.frm k hk hn}
             generalize hzs:[]++xs++[JM ys5 (0:Int)]=zs4 at hL4
             have hz4:zs4.length=xs.length+1:=by rw[←hzs];simp
             simp(maxSteps:=999999)(disch:=omega)only[go_sem,zA,zM,zS,zE,zL,hJ4]
             cases hL4 with
             |n=>simp at hz4
             |m=>simp at hz4
             |o id4 g4 _ hlk=>
              have:=hi4' id4 rfl
              exact hfin _ _ _ _ (by omega) (by omega) (o4.set (a:=ka) (b:=kb) (zs:=zs4) (.inr ⟨id4,g4,zs4.length,zs4,rfl,hlk,Nat.le_refl _,by rw[List.take_length],by omega,by omega⟩) (by omega) (by omega))
         simp(maxSteps:=999999)(disch:=omega)only[go_sem,zA,zM,zS,zE,zL]
         ((first|(with_reducible first|refine Jo ?_ ?_|refine Jk ?_ ?_|refine Jp ?_ ?_)|refine Jr ?_ ?_)<;>intro e3)
         · simp(maxSteps:=999999)(disch:=omega)only[go_sem,zA,zM,zS,zE,zL]
           intro g5
           simp(maxSteps:=999999)(disch:=omega)only[go_sem,zA,zM,zS,zE,zL,hJX]
           exact hfin _ _ _ _ (by omega) (by omega) ((o2.app (X:=[some ⟨g5,1,[.f (.int .i64 ((m:Int)*m)), .f (.int .i64 0)]⟩])).set (a:=ka) (b:=kb) (c:= .own H2.length g5 0 2 none) (zs:=[(m:Int)*m,0]) (.inr ⟨H2.length,g5,2,[(m:Int)*m,0],rfl,JY,by simp,rfl,by omega,by omega⟩) (by simp) (by simp))
         · simp(maxSteps:=999999)(disch:=omega)only[go_sem,zA,zM,zS,zE,zL]
           intro g5
           have o3:=o2.app (X:=[some ⟨g5,1,[.f (.int .i64 (-1)), .f (.int .i64 257)]⟩])
           refine Qh.run (QQ _ id g _ _ o3.rd (by omega)) (⟨_,Tryz.func35,rfl,rfl⟩:Jm Tryz.prog 35) rfl rfl ?_
           rintro _ H3 ⟨⟨y,rfl,y0,y1⟩,r3,f3⟩
           have y1:=y1 (by omega)
           replace f3:UH (H2++[some ⟨g5,1,[.f (.int .i64 (-1)), .f (.int .i64 257)]⟩]) H3 [id]:=f3
           have o4:=o3.pick r3 f3
           obtain⟨kc,kd,c3,hJ3,hc3⟩:=o4.ex
           have hb:=f3.last o2.rd.lt
           obtain rfl|rfl:y=0∨y=1:=by omega
           all_goals
            simp(maxSteps:=999999)(disch:=omega)only[go_sem,zA,zM,zS,zE,zL,hb,Int.reduceToNat,hJ3]
            exact hfin _ _ _ _ (by omega) (by omega) (o4.set hc3 o2.l1 o2.l5)
       · rintro⟨xs,HF⟩ o
         simp only at o
         obtain⟨a,b,c,hJ,hc⟩:=o.ex
         have ho:=o.out
         have hln:=o.ln
         have hS:∀b,look (HF.set H.length (some ⟨g8,3,b⟩)) H.length g8=some ⟨g8,3,b⟩:=fun b=>JK (by omega)
         refine ZU _ _ _ _ ?_
         simp(maxSteps:=999999)(disch:=omega)only[go_sem,zA,zM,zS,zE,zL,hJ,ho,hS]
         refine⟨_,Qc.refl _,a,b,c,xs,rfl,(hc.same fun i hi hJ' hl=>by rw[Jj (by omega)]).frz,o.l5,o.rd.same (by rw[Jj (by omega)]),by rw[Jt];omega,fun k hk hn=> ?_⟩
         rw[Jj (by omega)]
         exact o.frm k hk hn
end Go.Lg
