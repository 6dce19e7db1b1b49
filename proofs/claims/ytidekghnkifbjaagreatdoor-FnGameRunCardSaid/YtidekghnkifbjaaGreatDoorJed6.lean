/- GpYB, cut to what is needed. -/
import Derived.Test.YtidekghnkifbjaaGreatDoorJed5
import Derived.Test.YtidekghnkifbjaaGreatDoorJec1
import Derived.Test.YtidekghnkifbjaaGreatDoorJeb1
open List renaming getElem?_append_left → Ja, cons_append → Jb, nil_append → Jc, replicate → Jd, length_cons → Je, length_nil → Jf, getElem?_set_ne → Jg, getElem?_eq_some_iff → Jh, length_append → Jk, length_set → Jo, getElem?_eq_none → Jx, length_take → JP, getElem?_take_of_lt → J1
open Nat renaming reduceAdd→zA,reduceMul→zM,reduceSub→zS,reduceEqDiff→zE,reduceLeDiff→zL
set_option linter.unusedSimpArgs false
set_option linter.unusedVariables false
set_option maxRecDepth 100000
namespace Go.Lg
open Go.Proofs
attribute [-go_sem] J9 Jv
structure RlV(H HI:Jm)(id g:Nat)(B:Int)(m g8 g2:Nat)(ys:List Int):Prop extends base:RlI H HI id g B m g8 g2 ys where
 nd:∀j:Nat,j<ys.length→∀l:Nat,l<j→JA ys l≠JA ys j
section
variable{H HI H2:Jm}{id g m g8 g2:Nat}{B B':Int}{ys:List Int}
theorem RlV.mono(h:RlV H HI id g B m g8 g2 ys)(hb:B≤B'):RlV H HI id g B' m g8 g2 ys:=⟨h.base.mono hb,h.nd⟩
theorem RlV.pick(h:RlV H HI id g B m g8 g2 ys)(hr:Zm H2 id g B')(hf:Vi HI H2 [id]):RlV H H2 id g B' m g8 g2 ys:=⟨h.base.pick hr hf,h.nd⟩
theorem RlV.app{X:Jm}(h:RlV H HI id g B m g8 g2 ys):RlV H (HI++X) id g B m g8 g2 ys:=⟨h.base.app,h.nd⟩
theorem RlV.set(h:RlV H HI id g B m g8 g2 ys){g':Nat}{zs:List Int}(h1:1≤zs.length)(h4:zs.length≤4)(hv:∀k:Nat,k<zs.length→0≤JA zs k∧JA zs k<(m:Int)*m)(hn:∀j:Nat,j<zs.length→∀l:Nat,l<j→JA zs l≠JA zs j):RlV H (HI.set (H.length+1) (some ⟨g',1,cl (eI .i64) zs⟩)) id g B m g8 g' zs:=⟨h.base.set h1 h4 hv,hn⟩
end
structure B4(V:Prop)(m:Nat)(H HE:Jm)(id g:Nat)(B:Int)(N g8 J g18:Nat)(xs:List Int):Prop extends base:RuO H HE id g B N g8 J g18 xs where
 va:V→∃a b c,look HE J g18=some ⟨g18,3,[.f (.int .i64 a),c, .f (.int .i64 b)]⟩∧Ql ⟨a,xs,b⟩ m=true
section
variable{V W:Prop}{H HE H2:Jm}{id g m N N' g8 J g18:Nat}{B B':Int}{xs:List Int}
theorem B4.mono(h:B4 V m H HE id g B N g8 J g18 xs)(hb:B≤B'):B4 V m H HE id g B' N g8 J g18 xs:=⟨h.base.mono hb,h.va⟩
theorem B4.wid(h:B4 V m H HE id g B N g8 J g18 xs)(hb:N≤N'):B4 V m H HE id g B N' g8 J g18 xs:=⟨h.base.wid hb,h.va⟩
theorem B4.weak(h:B4 V m H HE id g B N g8 J g18 xs)(hw:W→V):B4 W m H HE id g B N g8 J g18 xs:=⟨h.base,fun w=>h.va (hw w)⟩
theorem B4.pick(h:B4 V m H HE id g B N g8 J g18 xs)(hr:Zm H2 id g B')(hf:Vi HE H2 [id]):B4 V m H H2 id g B' N g8 J g18 xs:=⟨h.base.pick hr hf,fun v=>by
 obtain⟨a,b,c,h1,h2⟩:=h.va v
 have hl:=h.lt
 have hn:=h.ln
 exact⟨a,b,c,by rw[hf.look (by simp;omega)];exact h1,h2⟩⟩
theorem B4.app{X:Jm}(h:B4 V m H HE id g B N g8 J g18 xs):B4 V m H (HE++X) id g B N g8 J g18 xs:=⟨h.base.app,fun v=>by
 obtain⟨a,b,c,h1,h2⟩:=h.va v
 exact⟨a,b,c,JO h1,h2⟩⟩
theorem B4.set(h:B4 V m H HE id g B N g8 J g18 xs){a b:Int}{c:CV}{zs:List Int}(hc:Kg H HE J c zs)(h1:1≤zs.length)(h5:zs.length≤N)(hv:V→Ql ⟨a,zs,b⟩ m=true):B4 V m H (HE.set J (some ⟨g18,3,[.f (.int .i64 a),c, .f (.int .i64 b)]⟩)) id g B N g8 J g18 zs:=
 ⟨h.base.set hc h1 h5,fun v=>⟨a,b,c,JM h.ln.2,hv v⟩⟩
end
def JlP(m:Nat)(kk:Int)(H:Jm)(id g:Nat)(B:Int):KV:=fun v H'=>(∃r:Z0,v=aR r∧r.cells.length≤5∧(kk≤0→Ql r m=true))∧Zm H' id g (B+60)∧Vi H H' [id]
theorem Jlr{m:Nat}(hm:m=2∨m=3∨m=4){k:Nat}(hk:k≤4):1≤(m:Int)^k∧(m:Int)^k≤(m:Int)*m*m*m∧(m:Int)*m*m*m≤256:=by
 have hk:k=0∨k=1∨k=2∨k=3∨k=4:=by omega
 rcases hm with rfl|rfl|rfl<;>rcases hk with rfl|rfl|rfl|rfl|rfl<;>decide
theorem Jkt{m k:Nat}(hm:m=2∨m=3∨m=4){pr v:Int}(h0:1≤pr)(h1:pr≤(m:Int)^k)(hv:1≤v∧v≤m):1≤pr*v∧pr*v≤(m:Int)^(k+1):=by
 constructor
 · have:=Int.mul_le_mul h0 hv.1 (by omega) (by omega)
   omega
 · rw[Int.pow_succ]
   exact Int.mul_le_mul h1 hv.2 (by omega) (by omega)
theorem su_le{m k:Nat}(hm:m=2∨m=3∨m=4){su:Int}(hk:k≤4)(h:su≤(m:Int)*k):max 1 su≤(m:Int)*m*m*m:=by
 rcases hm with rfl|rfl|rfl
 · have:((2:Nat):Int)*((2:Nat):Int)*((2:Nat):Int)*((2:Nat):Int)=16:=by decide
   omega
 · have:((3:Nat):Int)*((3:Nat):Int)*((3:Nat):Int)*((3:Nat):Int)=81:=by decide
   omega
 · have:((4:Nat):Int)*((4:Nat):Int)*((4:Nat):Int)*((4:Nat):Int)=256:=by decide
   omega
theorem JcO{m:Nat}(hm:m=2∨m=3∨m=4){ys:List Int}{a b:Int}(hok:V8 ys m ys.length)(hs:Va ⟨a,ys,b⟩ m):Ql ⟨a,ys,b⟩ m=true:=by
 simp only[Ql,decide_eq_true_eq]
 exact⟨by omega,hok,hs⟩
theorem Jfn{m:Nat}(hm:m=2∨m=3∨m=4){ys:List Int}{a b:Int}(hok:V8 ys m ys.length)(h2:2≤ys.length)(hs:(a=1∧b=0)∨(a=5∧0≤b∧b<m)):Ql ⟨a,ys.take 2,b⟩ m=true:=by
 have hl:(ys.take 2).length=2:=by simp;omega
 refine JcO hm (fun j hj=> ?_) ?_
 · rw[hl]at hj
   rw[WC hj]
   exact⟨(hok j (by omega)).1,fun l hl'=>by rw[WC (by omega)];exact(hok j (by omega)).2 l hl'⟩
 · unfold Va
   simp only[hl]
   omega
theorem JlO{m:Nat}(hm:m=2∨m=3∨m=4){ys:List Int}{a b:Int}(hok:V8 ys m ys.length)(h2:2≤ys.length)(hs:a=4∧b=0):Ql ⟨a,[JA ys 0,JA ys 1],b⟩ m=true:=by
 have e:[JA ys 0,JA ys 1]=ys.take 2:=by
  refine YN (by simp;omega) fun j hj=> ?_
  have hj:j<2:=by simpa using hj
  rw[WC hj]
  obtain rfl|rfl:j=0∨j=1:=by omega
  · rfl
  · rfl
 rw[e]
 have hl:(ys.take 2).length=2:=by simp;omega
 refine JcO hm (fun j hj=> ?_) ?_
 · rw[hl]at hj
   rw[WC hj]
   exact⟨(hok j (by omega)).1,fun l hl'=>by rw[WC (by omega)];exact(hok j (by omega)).2 l hl'⟩
 · exact .inr (.inr (.inl ⟨hs.1,by show((ys.take 2).length:Int)=2;omega,hs.2⟩))
theorem Jkk{m:Nat}(hm:m=2∨m=3∨m=4){ys:List Int}(hok:V8 ys m ys.length)(h2:2≤ys.length):Ql ⟨4,[JA ys 1,JA ys 0],0⟩ m=true:=by
 have h0:=hok 0 (by omega)
 have h1:=hok 1 (by omega)
 have h10:=h1.2 0 (by omega)
 refine JcO hm (fun j hj=> ?_) ?_
 · have hj:j<2:=by simpa using hj
   obtain rfl|rfl:j=0∨j=1:=by omega
   · exact⟨h1.1,fun l hl=>absurd hl (Nat.not_lt_zero _)⟩
   · refine⟨h0.1,fun l hl=> ?_⟩
     obtain rfl:l=0:=by omega
     exact fun h=>h10 h.symm
 · exact .inr (.inr (.inl ⟨rfl,rfl,rfl⟩))
set_option maxHeartbeats 4000000 in
theorem BC{m:Nat}(hm:m=2∨m=3∨m=4)(H:Jm)(id g:Nat)(B kk:Int)(hr:Zm H id g B)(hB:B≤2^38)(hkk:kk≤1000)(cid cg:Nat)(zs:List Int)(hz:look H cid cg=some ⟨cg,1,cl (eI .i64) zs⟩)(hzl:m*m≤zs.length)(hzv:N7 m zs)(hne:cid≠id):
 Jn Tryz.prog 117 [.c (.ptr id g 0),(.c (.own cid cg 0 (m*m) none)),int m,int kk] H (JlP m kk H id g B):=by
 have hsq:4≤m*m∧m*m≤16:=by rcases hm with rfl|rfl|rfl<;>omega
 have hmm:(m:Int)*m=((m*m:Nat):Int):=by push_cast;rfl
 have hmi:4≤(m:Int)*m∧(m:Int)*m≤16:=by rw[hmm];omega
 have hzi:∀c:Int,0≤c→c<((m*m:Nat):Int)→1≤JA zs c∧JA zs c≤m:=fun c h0 h1=>by
  have:=hzv c.toNat (by omega)
  rwa [Int.toNat_of_nonneg h0]at this
 have hlt:=hr.lt
 have hclt:cid<H.length:=(Jh.1 (JG hz).1).1
 refine Jn.iceS (Q':=fun v H'=>∃a b c xs,v= .agg [.f (.int .i64 a),c, .f (.int .i64 b)]∧frzS (Z8 H.length) H' 6 c=some (J5 xs)∧xs.length≤5∧(kk≤0→Ql ⟨a,xs,b⟩ m=true)∧Zm H' id g (B+60)∧H.length≤H'.length∧∀k,k<H.length→k≠id→H'[k]? =H[k]?) ?_ ?_
 rotate_left
 · rintro v H' ⟨a,b,c,xs,rfl,h1,h2,hva,h3,h4,h5⟩
   refine⟨Z8 H.length,H'.take H.length,aR ⟨a,xs,b⟩,Xf _ _, .o _ _ (Jbb KA (KB h1) KA),⟨_,rfl,h2,hva⟩,h3.take hlt,by simp;omega,fun i hi=> ?_⟩
   by_cases hi':i<H.length
   · rw[J1 hi',h5 i hi' (by simpa using hi)]
   · rw[List.getElem?_take_eq_none (by omega),Jx (by omega)]
 refine Jn.ofR (c:=_) Tryz.func117 rfl (n:=232) Tryz.ntmps117 (rs:=[.cell 8 101]) rfl ?_
 simp only[Je,Jf,zA,zS,Jd,Jb,Jc]
 refine QH.cutN 4 (fun a:Nat×Nat×List Int×Jm=>RlV H a.2.2.2 id g (B+40) m a.1 a.2.1 a.2.2.1) (fun a=>[.k, .k, .k, .k, .a, .a, .a, .a, .p (.c (.ptr H.length a.1 0)), .p (.c (.own (H.length+1) a.2.1 0 a.2.2.1.length none)), .a, .a, .a, .a, .a, .a, .a, .a, .a, .a, .a, .a, .a, .a, .a, .a, .a, .a, .a, .a, .a, .a, .a, .a, .a, .a, .a, .a, .a, .a, .a, .a, .a, .a, .a, .a, .a, .a, .a, .a, .a, .a, .a, .a, .a, .a, .a, .a, .a, .a, .a, .a, .a, .a, .a, .a, .a, .a, .a, .a, .a, .a, .a, .a, .a, .a, .a, .a, .a, .a, .a, .a, .a, .a, .a, .a, .a, .a, .a, .a, .a, .a, .a, .a, .a, .a, .a, .a, .a, .a, .a, .a, .a, .a, .a, .a, .a, .a, .a, .a, .a, .a, .a, .a, .a, .a, .a, .a, .a, .a, .a, .a, .a, .a, .a, .a, .a, .a, .a, .a, .a, .a, .a, .a, .a, .a, .a, .a, .a, .a, .a, .a, .a, .a, .a, .a, .a, .a, .a, .a, .a, .a, .a, .a, .a, .a, .a, .a, .a, .a, .a, .a, .a, .a, .a, .a, .a, .a, .a, .a, .a, .a, .a, .a, .a, .a, .a, .a, .a, .a, .a, .a, .a, .a, .a, .a, .a, .a, .a, .a, .a, .a, .a, .a, .a, .a, .a, .a, .a, .a, .a, .a, .a, .a, .a, .a, .a, .a, .a, .a, .a, .a, .a, .a, .a, .a, .a, .a, .a, .a, .a, .a, .a, .a, .a, .a, .a, .a, .a, .a, .a, .a]) (fun a=>a.2.2.2) ?_ ?_
 · simp(maxSteps:=999999)(disch:=omega)only[go_sem,zA,zM,zS,zE,zL]
   intro g8
   refine JZ.run (QR _ id g B _ hr.app (by omega)) (⟨_,Tryz.func68,rfl,rfl⟩:Ji Tryz.prog 68) rfl rfl ?_
   rintro _ H1 ⟨⟨y,rfl,y0,y1⟩,r1,f1⟩
   have y1:=y1 (by omega)
   have l1:H1.length=H.length+1:=by rw[f1.1];simp
   simp(maxSteps:=999999)(disch:=omega)only[go_sem,zA,zM,zS,zE,zL]
   intro g2
   rw[l1]
   have q0:RlV H (H1++[some ⟨g2,1,cl (eI .i64) [y]⟩]) id g (B+1) m g8 g2 [y]:=⟨
    {out:=JO (by rw[f1.look (by simp;omega)];exact JC)
     cells:=by have:=JC (H:=H1) (g:=g2) (sz:=1) (cs:=cl (eI .i64) [y]);rwa [l1]at this
     l1:=by simp,l4:=by simp
     val:=fun k hk=>by
      have:k=0:=by simpa using hk
      subst this
      exact⟨y0,y1⟩
     rd:=r1.app,lt:=hlt,ln:=by simp;omega
     frm:=fun k hk hn=>by rw[Ja (by omega),f1.2 k (by simpa using hn),Ja hk]},fun j hj l hl=>by simp at hj;omega⟩
   obtain⟨HI,hHI⟩:∃HI:Jm,HI=H1++[some ⟨g2,1,cl (eI .i64) [y]⟩]:=⟨_,rfl⟩
   rw[←hHI]at q0
   have eHI:H1++[some ⟨g2,1,[CV.f (FV.int IntKind.i64 y)]⟩]=HI:=hHI.symm
   rw[eHI]
   clear hHI eHI
   refine JZ.run (QR HI id g _ _ q0.rd (by omega)) (⟨_,Tryz.func68,rfl,rfl⟩:Ji Tryz.prog 68) rfl rfl ?_
   rintro _ H2 ⟨⟨t,rfl,t0,t1⟩,r2,f2⟩
   have t1:=t1 (by omega)
   have q2:=q0.pick r2 f2
   simp(maxSteps:=999999)(disch:=omega)only[go_sem,zA,zM,zS,zE,zL]
   refine JY (fun a:Nat×Nat×List Int×Jm=>20 -a.1) (fun a=>a.1≤16∧RlV H a.2.2.2 id g (B+2+2*a.1) m g8 a.2.1 a.2.2.1) (fun a=>[.k, .k, .k, .k, .a, .a, .a, .a, .k, .p (.c (.own (H.length+1) a.2.1 0 a.2.2.1.length none)), .k, .p (int a.1), .a, .a, .a, .a, .a, .a, .a, .a, .a, .a, .a, .a, .a, .a, .a, .a, .a, .a, .a, .a, .a, .a, .a, .a, .a, .a, .a, .a, .a, .a, .a, .a, .a, .a, .a, .a, .a, .a, .a, .a, .a, .a, .a, .a, .a, .a, .a, .a, .a, .a, .a, .a, .a, .a, .a, .a, .a, .a, .a, .a, .a, .a, .a, .a, .a, .a, .a, .a, .a, .a, .a, .a, .a, .a, .a, .a, .a, .a, .a, .a, .a, .a, .a, .a, .a, .a, .a, .a, .a, .a, .a, .a, .a, .a, .a, .a, .a, .a, .a, .a, .a, .a, .a, .a, .a, .a, .a, .a, .a, .a, .a, .a, .a, .a, .a, .a, .a, .a, .a, .a, .a, .a, .a, .a, .a, .a, .a, .a, .a, .a, .a, .a, .a, .a, .a, .a, .a, .a, .a, .a, .a, .a, .a, .a, .a, .a, .a, .a, .a, .a, .a, .a, .a, .a, .a, .a, .a, .a, .a, .a, .a, .a, .a, .a, .a, .a, .a, .a, .a, .a, .a, .a, .a, .a, .a, .a, .a, .a, .a, .a, .a, .a, .a, .a, .a, .a, .a, .a, .a, .a, .a, .a, .a, .a, .a, .a, .a, .a, .a, .a, .a, .a, .a, .a, .a, .a, .a, .a, .a, .a, .a, .a, .a, .a, .a, .a, .a, .a, .a, .a]) (fun a=>a.2.2.2) (0,g2,[y],H2) ⟨by omega,q2.mono (by omega)⟩ (by simp(maxSteps:=999999)(disch:=omega)only[go_sem,zA,zM,zS,zE,zL];rfl) (J0.refl _) ?_
   rintro⟨k,g2,ys,HI⟩ ⟨hk,q⟩
   simp only at hk q
   have qc:=q.cells
   have hlt2:=q.ln
   have hid:=q.lt
   simp(maxSteps:=999999)(disch:=omega)only[go_sem,zA,zM,zS,zE,zL,qc]
   ((with_reducible first|refine JJ ?_ ?_|refine JF ?_ ?_|refine JU ?_ ?_|refine Jw ?_ ?_|refine JH ?_ ?_|refine JI ?_ ?_|refine JD ?_ ?_|refine JE ?_ ?_|refine JS ?_ ?_|refine JT ?_ ?_|refine Jy ?_ ?_|refine Jz ?_ ?_)<;>intro c1<;>simp(maxSteps:=999999)(disch:=omega)only[go_sem,zA,zM,zS,zE,zL,c1])
   · simp(maxSteps:=999999)(disch:=omega)only[go_sem,zA,zM,zS,zE,zL,qc]
     ((first|(with_reducible first|refine Jl ?_ ?_|refine Jj ?_ ?_|refine Jp ?_ ?_)|refine Jr ?_ ?_)<;>intro c2)
     · have c2:(ys.length:Int)<2+t:=by omega
       simp(maxSteps:=999999)(disch:=omega)only[go_sem,zA,zM,zS,zE,zL]
       have hM:∀X:Jm,X[H.length+1]? =HI[H.length+1]?→look (Zg (ZS id HI.length (HI.length+1)) X) (H.length+1) g2=some ⟨g2,1,cl (eI .i64) ys⟩:=fun X hX=>by
        rw[Ur (U7 (by omega) (by omega))]
        unfold look at qc⊢
        rw[hX]
        exact qc
       have hM0:=hM HI rfl
       refine Q3 [0,1,2,3,7,8,9,10,11,4,5,6,12,13,14] [10] none [15,16] (ZS id HI.length (HI.length+1)) [0,0,0,4,14,31,63,0,0,256,896,0,2078,8094,16286,32767,65535] Zd (by kernel_rfl) ?_
       iterate 10 (rw[Jv];simp(maxSteps:=999999)(disch:=omega)only[go_sem,zA,zM,zS,zE,zL,hM0])
       refine JK.run (QR HI id g _ _ q.rd (by omega)) (⟨_,Tryz.func68,rfl,rfl⟩:Ji Tryz.prog 68) rfl rfl ?_
       rintro _ H4 ⟨⟨a,rfl,a0,a1⟩,r4,f4⟩
       have hl1:=q.l1
       have a1:=a1 (by omega)
       replace f4:Vi HI H4 [id]:=f4
       have q4:=q.pick r4 f4
       obtain⟨an,rfl⟩:∃an:Nat,a=an:=⟨a.toNat,by omega⟩
       have hok:∀X Y:Jm,Vi X Y [id]→X.length=HI.length→RM (ZS id HI.length (HI.length+1)) X Y:=fun X Y hf hX=>ZR fun j b hj hb=>by
        have hjl:=(Jh.1 hb).1
        obtain⟨h1,_⟩:=Vt hj (by omega)
        rw[hf.2 j (by simpa using h1)]
        exact hb
       refine⟨hok _ _ f4 rfl, ?_⟩
       have hM4:=hM H4 (f4.2 _ (by simp;omega))
       iterate 2 (rw[Jv];simp(maxSteps:=999999)(disch:=omega)only[go_sem,zA,zM,zS,zE,zL,hM4])
       rw[Jv]
       simp(maxSteps:=999999)(disch:=omega)only[go_sem,zA,zM,zS,zE,zL]
       refine JK.run (QR H4 id g _ _ q4.rd (by omega)) (⟨_,Tryz.func68,rfl,rfl⟩:Ji Tryz.prog 68) rfl rfl ?_
       rintro _ H5 ⟨⟨e,rfl,e0,e1⟩,r5,f5⟩
       have e1:=e1 (by omega)
       replace f5:Vi H4 H5 [id]:=f5
       have q5:=q4.pick r5 f5
       obtain⟨en,rfl⟩:∃en:Nat,e=en:=⟨e.toNat,by omega⟩
       refine⟨hok _ _ f5 f4.1, ?_⟩
       obtain⟨L4,hL4,hl4,hv4⟩:∃L4:List Int,FV.sl 4 [.int .i64 1, .int .i64 (-1), .int .i64 (m:Int), .int .i64 (0 -(m:Int))]=J5 L4∧L4.length=4∧-4≤JA L4 en∧JA L4 en≤4:=by
        refine⟨[1,-1,m,0 -m],rfl,rfl, ?_⟩
        obtain rfl|rfl|rfl|rfl:en=0∨en=1∨en=2∨en=3:=by omega
        · show-4≤(1:Int)∧(1:Int)≤4;omega
        · show-4≤(-1:Int)∧(-1:Int)≤4;omega
        · show-4≤(m:Int)∧(m:Int)≤4;omega
        · show-4≤0 -(m:Int)∧0 -(m:Int)≤4;omega
       rw[hL4]
       have hya:=q.val an (by omega)
       iterate 2 (rw[Jv];simp(maxSteps:=999999)(disch:=omega)only[go_sem,zA,zM,zS,zE,zL])
       obtain⟨cc,hcc⟩:∃cc,cc=JA ys an+JA L4 en:=⟨_,rfl⟩
       rw[←hcc]
       have hcb: -4≤cc∧cc≤20:=by omega
       clear hL4 hcc
       have qc5:=q5.cells
       ((with_reducible first|refine JJ ?_ ?_|refine JF ?_ ?_|refine JU ?_ ?_|refine Jw ?_ ?_|refine JH ?_ ?_|refine JI ?_ ?_|refine JD ?_ ?_|refine JE ?_ ?_|refine JS ?_ ?_|refine JT ?_ ?_|refine Jy ?_ ?_|refine Jz ?_ ?_)<;>intro d1<;>simp(maxSteps:=999999)(disch:=omega)only[go_sem,zA,zM,zS,zE,zL,d1])
       · skip
         refine Qp (fun(j:Nat) (b:Bool)=>ys.length -j) (fun j b=>j≤ys.length∧(b=true→(0≤cc∧cc<(m:Int)*m)∧∀i:Nat,i<j→JA ys i≠cc)) (fun j b=>[.k, .k, .k, .k, .a, .a, .a, .a, .k, .k, .k, .k, .k, .p (bool b), .p (int j), .a, .a, .a, .a, .a, .a, .a, .a, .a, .a, .a, .a, .a, .a, .a, .a, .a, .a, .a, .a, .a, .a, .a, .a, .a, .a, .a, .a, .a, .a, .a, .a, .a, .a, .a, .a, .a, .a, .a, .a, .a, .a, .a, .a, .a, .a, .a, .a, .a, .a, .a, .a, .a, .a, .a, .a, .a, .a, .a, .a, .a, .a, .a, .a, .a, .a, .a, .a, .a, .a, .a, .a, .a, .a, .a, .a, .a, .a, .a, .a, .a, .a, .a, .a, .a, .a, .a, .a, .a, .a, .a, .a, .a, .a, .a, .a, .a, .a, .a, .a, .a, .a, .a, .a, .a, .a, .a, .a, .a, .a, .a, .a, .a, .a, .a, .a, .a, .a, .a, .a, .a, .a, .a, .a, .a, .a, .a, .a, .a, .a, .a, .a, .a, .a, .a, .a, .a, .a, .a, .a, .a, .a, .a, .a, .a, .a, .a, .a, .a, .a, .a, .a, .a, .a, .a, .a, .a, .a, .a, .a, .a, .a, .a, .a, .a, .a, .a, .a, .a, .a, .a, .a, .a, .a, .a, .a, .a, .a, .a, .a, .a, .a, .a, .a, .a, .a, .a, .a, .a, .a, .a, .a, .a, .a, .a, .a, .a, .a, .a, .a, .a, .a, .a, .a, .a, .a, .a, .a, .a, .a, .a, .a, .a, .a, .a, .a, .a]) (fun _ _=>H5) 0 (decide (cc<(m:Int)*m)) ⟨Nat.zero_le _,fun h=>⟨⟨d1,of_decide_eq_true h⟩,fun i hi=>absurd hi (Nat.not_lt_zero _)⟩⟩ (by simp(maxSteps:=999999)(disch:=omega)only[go_sem,zA,zM,zS,zE,zL];rfl) (J0.refl _) ?_
         rintro j b ⟨hj,hb⟩
         simp(maxSteps:=999999)(disch:=omega)only[go_sem,zA,zM,zS,zE,zL,qc5]
         ((first|(with_reducible first|refine Jl ?_ ?_|refine Jj ?_ ?_|refine Jp ?_ ?_)|refine Jr ?_ ?_)<;>intro e1)
         · have e1:j<ys.length:=by omega
           simp(maxSteps:=999999)(disch:=omega)only[go_sem,zA,zM,zS,zE,zL]
           cases b with
           |false=>
            simp(maxSteps:=999999)(disch:=omega)only[go_sem,zA,zM,zS,zE,zL]
            exact⟨j+1,false,⟨⟨by omega,fun h=>by cases h⟩,by omega⟩,⟨rfl,by push_cast;omega⟩,J0.refl _⟩
           |true=>
            simp(maxSteps:=999999)(disch:=omega)only[go_sem,zA,zM,zS,zE,zL,qc5]
            refine⟨j+1,_,⟨⟨by omega,fun hd=>⟨(hb rfl).1,fun i hi=> ?_⟩⟩,by omega⟩,⟨rfl,by push_cast;omega⟩,J0.refl _⟩
            simp only[Bool.not_eq_true',decide_eq_false_iff_not,decide_eq_true_eq,ne_eq]at hd
            by_cases hij:i=j
            · subst hij
              exact hd
            · exact(hb rfl).2 i (by omega)
         · simp(maxSteps:=999999)(disch:=omega)only[go_sem,zA,zM,zS,zE,zL]
           ((first|(with_reducible first|refine Jl ?_ ?_|refine Jj ?_ ?_|refine Jp ?_ ?_)|refine Jr ?_ ?_)<;>intro e2)
           · simp(maxSteps:=999999)(disch:=omega)only[go_sem,zA,zM,zS,zE,zL]
             intro g9
             refine VH (Qb UE rfl Kh) ⟨rfl,rfl,by decide⟩ (by omega) (JO qc5) (by rw[Qa];omega) JC ?_
             intro g10
             simp(maxSteps:=999999)(disch:=omega)only[go_sem,zA,zM,zS,zE,zL]
             have hb:=hb e2
             have q6:=(q5.app (X:=[some ⟨g9,1,[.f (.int .i64 cc)]⟩])).set (g':=g10) (zs:=ys++[cc]) (by simp) (by simp;omega) (fun i hi=>by
              by_cases h:i<ys.length
              · rw[Xd h];exact q.val i h
              · have:i=ys.length:=by simp at hi;omega
                subst this
                rw[K5]
                exact hb.1) fun i hi l hl=>(by
              have hll:l<ys.length:=by simp at hi;omega
              rw[Xd hll]
              by_cases h:i<ys.length
              · rw[Xd h];exact q.nd i h l hl
              · have:i=ys.length:=by simp at hi;omega
                subst this
                rw[K5]
                exact hb.2 l (by omega))
             exact⟨(k+1,g10,ys++[cc],_),⟨⟨by simp only;omega,q6.mono (by simp only;push_cast;omega)⟩,by simp only;omega⟩,⟨⟨rfl,by simp⟩,by simp only;push_cast;omega⟩,J0.refl _⟩
           · simp(maxSteps:=999999)(disch:=omega)only[go_sem,zA,zM,zS,zE,zL]
             exact⟨(k+1,g2,ys,H5),⟨⟨by simp only;omega,q5.mono (by simp only;push_cast;omega)⟩,by simp only;omega⟩,⟨⟨rfl,rfl⟩,by simp only;push_cast;omega⟩,J0.refl _⟩
       · skip
         refine Qp (fun(j:Nat) (b:Bool)=>ys.length -j) (fun j b=>j≤ys.length∧(b=true→(0≤cc∧cc<(m:Int)*m)∧∀i:Nat,i<j→JA ys i≠cc)) (fun j b=>[.k, .k, .k, .k, .a, .a, .a, .a, .k, .k, .k, .k, .k, .p (bool b), .p (int j), .a, .a, .a, .a, .a, .a, .a, .a, .a, .a, .a, .a, .a, .a, .a, .a, .a, .a, .a, .a, .a, .a, .a, .a, .a, .a, .a, .a, .a, .a, .a, .a, .a, .a, .a, .a, .a, .a, .a, .a, .a, .a, .a, .a, .a, .a, .a, .a, .a, .a, .a, .a, .a, .a, .a, .a, .a, .a, .a, .a, .a, .a, .a, .a, .a, .a, .a, .a, .a, .a, .a, .a, .a, .a, .a, .a, .a, .a, .a, .a, .a, .a, .a, .a, .a, .a, .a, .a, .a, .a, .a, .a, .a, .a, .a, .a, .a, .a, .a, .a, .a, .a, .a, .a, .a, .a, .a, .a, .a, .a, .a, .a, .a, .a, .a, .a, .a, .a, .a, .a, .a, .a, .a, .a, .a, .a, .a, .a, .a, .a, .a, .a, .a, .a, .a, .a, .a, .a, .a, .a, .a, .a, .a, .a, .a, .a, .a, .a, .a, .a, .a, .a, .a, .a, .a, .a, .a, .a, .a, .a, .a, .a, .a, .a, .a, .a, .a, .a, .a, .a, .a, .a, .a, .a, .a, .a, .a, .a, .a, .a, .a, .a, .a, .a, .a, .a, .a, .a, .a, .a, .a, .a, .a, .a, .a, .a, .a, .a, .a, .a, .a, .a, .a, .a, .a, .a, .a, .a, .a, .a, .a, .a, .a, .a, .a, .a, .a]) (fun _ _=>H5) 0 false ⟨Nat.zero_le _,fun h=>by cases h⟩ (by simp(maxSteps:=999999)(disch:=omega)only[go_sem,zA,zM,zS,zE,zL];rfl) (J0.refl _) ?_
         rintro j b ⟨hj,hb⟩
         simp(maxSteps:=999999)(disch:=omega)only[go_sem,zA,zM,zS,zE,zL,qc5]
         ((first|(with_reducible first|refine Jl ?_ ?_|refine Jj ?_ ?_|refine Jp ?_ ?_)|refine Jr ?_ ?_)<;>intro e1)
         · have e1:j<ys.length:=by omega
           simp(maxSteps:=999999)(disch:=omega)only[go_sem,zA,zM,zS,zE,zL]
           cases b with
           |false=>
            simp(maxSteps:=999999)(disch:=omega)only[go_sem,zA,zM,zS,zE,zL]
            exact⟨j+1,false,⟨⟨by omega,fun h=>by cases h⟩,by omega⟩,⟨rfl,by push_cast;omega⟩,J0.refl _⟩
           |true=>
            simp(maxSteps:=999999)(disch:=omega)only[go_sem,zA,zM,zS,zE,zL,qc5]
            refine⟨j+1,_,⟨⟨by omega,fun hd=>⟨(hb rfl).1,fun i hi=> ?_⟩⟩,by omega⟩,⟨rfl,by push_cast;omega⟩,J0.refl _⟩
            simp only[Bool.not_eq_true',decide_eq_false_iff_not,decide_eq_true_eq,ne_eq]at hd
            by_cases hij:i=j
            · subst hij
              exact hd
            · exact(hb rfl).2 i (by omega)
         · simp(maxSteps:=999999)(disch:=omega)only[go_sem,zA,zM,zS,zE,zL]
           ((first|(with_reducible first|refine Jl ?_ ?_|refine Jj ?_ ?_|refine Jp ?_ ?_)|refine Jr ?_ ?_)<;>intro e2)
           · simp(maxSteps:=999999)(disch:=omega)only[go_sem,zA,zM,zS,zE,zL]
             intro g9
             refine VH (Qb UE rfl Kh) ⟨rfl,rfl,by decide⟩ (by omega) (JO qc5) (by rw[Qa];omega) JC ?_
             intro g10
             simp(maxSteps:=999999)(disch:=omega)only[go_sem,zA,zM,zS,zE,zL]
             have hb:=hb e2
             have q6:=(q5.app (X:=[some ⟨g9,1,[.f (.int .i64 cc)]⟩])).set (g':=g10) (zs:=ys++[cc]) (by simp) (by simp;omega) (fun i hi=>by
              by_cases h:i<ys.length
              · rw[Xd h];exact q.val i h
              · have:i=ys.length:=by simp at hi;omega
                subst this
                rw[K5]
                exact hb.1) fun i hi l hl=>(by
              have hll:l<ys.length:=by simp at hi;omega
              rw[Xd hll]
              by_cases h:i<ys.length
              · rw[Xd h];exact q.nd i h l hl
              · have:i=ys.length:=by simp at hi;omega
                subst this
                rw[K5]
                exact hb.2 l (by omega))
             exact⟨(k+1,g10,ys++[cc],_),⟨⟨by simp only;omega,q6.mono (by simp only;push_cast;omega)⟩,by simp only;omega⟩,⟨⟨rfl,by simp⟩,by simp only;push_cast;omega⟩,J0.refl _⟩
           · simp(maxSteps:=999999)(disch:=omega)only[go_sem,zA,zM,zS,zE,zL]
             exact⟨(k+1,g2,ys,H5),⟨⟨by simp only;omega,q5.mono (by simp only;push_cast;omega)⟩,by simp only;omega⟩,⟨⟨rfl,rfl⟩,by simp only;push_cast;omega⟩,J0.refl _⟩
     · simp(maxSteps:=999999)(disch:=omega)only[go_sem,zA,zM,zS,zE,zL]
       exact⟨(g8,g2,ys,HI),q.mono (by omega),⟨rfl,rfl,rfl⟩,J0.refl _⟩
   · exact⟨(g8,g2,ys,HI),q.mono (by omega),⟨rfl,rfl,rfl⟩,J0.refl _⟩
 · rintro⟨g8,g2,ys,HI⟩ q
   simp only at q
   have hlt2:=q.ln
   have hzI:look HI cid cg=some ⟨cg,1,cl (eI .i64) zs⟩:=by
    unfold look at hz⊢
    rw[q.frm cid hclt hne]
    exact hz
   have qc:=q.cells
   have qv:=q.val
   have q4:=q.l4
   have q1:=q.l1
   simp(maxSteps:=999999)(disch:=omega)only[go_sem,zA,zM,zS,zE,zL]
   refine QH.cutN 4 (fun a:Int×Int×Nat=>(1≤a.1∧a.1≤(m:Int)*m*m*m)∧1≤a.2.1∧a.2.1≤(m:Int)*m*m*m) (fun a=>[.k, .k, .k, .k, .a, .a, .a, .a, .k, .k, .a, .a, .a, .a, .a, .a, .p (int a.1), .a, .p (.c (.ptr HI.length a.2.2 0)), .a, .a, .a, .a, .a, .a, .a, .a, .a, .a, .a, .a, .a, .a, .a, .a, .a, .a, .a, .a, .a, .a, .a, .a, .a, .a, .a, .a, .a, .a, .a, .a, .a, .a, .a, .a, .a, .a, .a, .a, .a, .a, .a, .a, .a, .a, .a, .a, .a, .a, .a, .a, .a, .a, .a, .a, .a, .a, .a, .a, .a, .a, .a, .a, .a, .a, .a, .a, .a, .a, .a, .a, .a, .a, .a, .a, .a, .a, .a, .a, .a, .a, .a, .a, .a, .a, .a, .a, .a, .a, .a, .a, .a, .a, .a, .a, .a, .a, .a, .a, .a, .a, .a, .a, .a, .a, .a, .a, .a, .a, .a, .a, .a, .a, .a, .a, .a, .a, .a, .a, .a, .a, .a, .a, .a, .a, .a, .a, .a, .a, .a, .a, .a, .a, .a, .a, .a, .a, .a, .a, .a, .a, .a, .a, .a, .a, .a, .a, .a, .a, .a, .a, .a, .a, .a, .a, .a, .a, .a, .a, .a, .a, .a, .a, .a, .a, .a, .a, .a, .a, .a, .a, .a, .a, .a, .a, .a, .a, .a, .a, .a, .a, .a, .a, .a, .a, .a, .a, .a, .a, .a, .a, .a, .a, .a, .a, .a, .a, .a, .a, .a, .a, .a, .a, .a, .a, .a, .a, .a, .a, .a, .a, .a]) (fun a=>HI++[some ⟨a.2.2,3,[.f (.int .i64 2), .own (H.length+1) g2 0 ys.length none, .f (.int .i64 a.2.1)]⟩]) ?_ ?_
   · simp(maxSteps:=999999)(disch:=omega)only[go_sem,zA,zM,zS,zE,zL]
     refine Qp (fun(k:Nat) (b:Int×Int)=>ys.length -k) (fun k b=>k≤ys.length∧(0≤b.1∧b.1≤4*k∧(b.1:Int)≤(m:Int)*k)∧1≤b.2∧b.2≤(m:Int)^k) (fun k b=>[.k, .k, .k, .k, .a, .a, .a, .a, .k, .k, .a, .a, .a, .a, .a, .p (int b.1), .p (int b.2), .p (int k), .a, .a, .a, .a, .a, .a, .a, .a, .a, .a, .a, .a, .a, .a, .a, .a, .a, .a, .a, .a, .a, .a, .a, .a, .a, .a, .a, .a, .a, .a, .a, .a, .a, .a, .a, .a, .a, .a, .a, .a, .a, .a, .a, .a, .a, .a, .a, .a, .a, .a, .a, .a, .a, .a, .a, .a, .a, .a, .a, .a, .a, .a, .a, .a, .a, .a, .a, .a, .a, .a, .a, .a, .a, .a, .a, .a, .a, .a, .a, .a, .a, .a, .a, .a, .a, .a, .a, .a, .a, .a, .a, .a, .a, .a, .a, .a, .a, .a, .a, .a, .a, .a, .a, .a, .a, .a, .a, .a, .a, .a, .a, .a, .a, .a, .a, .a, .a, .a, .a, .a, .a, .a, .a, .a, .a, .a, .a, .a, .a, .a, .a, .a, .a, .a, .a, .a, .a, .a, .a, .a, .a, .a, .a, .a, .a, .a, .a, .a, .a, .a, .a, .a, .a, .a, .a, .a, .a, .a, .a, .a, .a, .a, .a, .a, .a, .a, .a, .a, .a, .a, .a, .a, .a, .a, .a, .a, .a, .a, .a, .a, .a, .a, .a, .a, .a, .a, .a, .a, .a, .a, .a, .a, .a, .a, .a, .a, .a, .a, .a, .a, .a, .a, .a, .a, .a, .a, .a, .a, .a, .a, .a, .a, .a, .a]) (fun _ _=>HI) 0 (0,1) ⟨Nat.zero_le _,⟨by simp,by simp,by simp⟩,by simp,by simp⟩ (by simp(maxSteps:=999999)(disch:=omega)only[go_sem,zA,zM,zS,zE,zL];rfl) (J0.refl _) ?_
     rintro k ⟨su,pr⟩ ⟨hk,⟨s0,s4,sm⟩,p0,p1⟩
     simp only at s0 s4 sm p0 p1
     have hpw:=Jlr hm (k:=k) (by omega)
     simp(maxSteps:=999999)(disch:=omega)only[go_sem,zA,zM,zS,zE,zL,qc]
     ((first|(with_reducible first|refine Jl ?_ ?_|refine Jj ?_ ?_|refine Jp ?_ ?_)|refine Jr ?_ ?_)<;>intro c1)
     · have c1:k<ys.length:=by omega
       have hy:=qv k c1
       have hv:=hzi (JA ys k) hy.1 (by rw[hmm]at hy;omega)
       have hpw1:=Jlr hm (k:=k+1) (by omega)
       have hmx:max 1 (JA zs (JA ys k))=JA zs (JA ys k):=by omega
       have hpm:1≤pr*JA zs (JA ys k)∧pr*JA zs (JA ys k)≤(m:Int)^(k+1):=Jkt hm p0 p1 hv
       have e1:IntKind.i64.wrap (su+JA zs (JA ys k))=su+JA zs (JA ys k):=Fy (by omega) (by omega)
       have e2:IntKind.i64.wrap (pr*JA zs (JA ys k))=pr*JA zs (JA ys k):=Fy (by omega) (by omega)
       simp(maxSteps:=999999)(disch:=omega)only[go_sem,zA,zM,zS,zE,zL,qc,hzI]
       refine⟨k+1,(su+JA zs (JA ys k),pr*JA zs (JA ys k)),⟨⟨by omega,⟨by simp only;omega,by simp only;omega, ?_⟩,hpm⟩,by omega⟩,⟨?_, ?_,by push_cast;omega⟩,J0.refl _⟩
       · have:(m:Int)*((k+1:Nat):Int)=m*k+m:=by push_cast;rw[Int.mul_add];omega
         simp only
         omega
       · first|rfl|rw[e1]
       · first|rfl|rw[hmx,e2]
     · simp(maxSteps:=999999)(disch:=omega)only[go_sem,zA,zM,zS,zE,zL]
       intro g18
       simp(maxSteps:=999999)(disch:=omega)only[go_sem,zA,zM,zS,zE,zL,JC,QM]
       have hsm:max 1 su≤(m:Int)*m*m*m:=su_le hm (by omega) sm
       exact⟨(pr,max 1 su,g18),⟨⟨p0,by omega⟩,by simp only;omega,hsm⟩,⟨rfl,rfl⟩,J0.refl _⟩
   · rintro⟨pr,su,g18⟩ ⟨hpr,hsu⟩
     simp only at hpr hsu
     have hok:V8 ys m ys.length:=fun j hj=>⟨qv j hj,fun l hl=>q.nd j hj l hl⟩
     obtain⟨HJ,hHJ⟩:∃HJ:Jm,HJ=HI++[some ⟨g18,3,[.f (.int .i64 2), .own (H.length+1) g2 0 ys.length none, .f (.int .i64 su)]⟩]:=⟨_,rfl⟩
     have qJ:=q.app (X:=[some ⟨g18,3,[.f (.int .i64 2), .own (H.length+1) g2 0 ys.length none, .f (.int .i64 su)]⟩])
     have hJ:look HJ HI.length g18=some ⟨g18,3,[.f (.int .i64 2), .own (H.length+1) g2 0 ys.length none, .f (.int .i64 su)]⟩:=by rw[hHJ];exact JC
     have hJl:HJ.length=HI.length+1:=by rw[hHJ];simp
     rw[←hHJ]at qJ
     simp(maxSteps:=999999)(disch:=omega)only[go_sem,zA,zM,zS,zE,zL]
     rw[←hHJ]
     clear hHJ
     have hcell:∀HE:Jm,HE[H.length+1]? =HJ[H.length+1]?→∀k:Nat,1≤k→k≤ys.length→Kg H HE HI.length (.own (H.length+1) g2 0 k none) (ys.take k):=fun HE he k _ hk=>
      .inr ⟨_,_,_,ys,rfl,by have:=qJ.cells;unfold look at this⊢;rw[he];exact this,hk,rfl,by omega,by omega⟩
     have o0:B4 True m H HJ id g (B+40) 4 g8 HI.length g18 ys:=⟨
      {out:=qJ.out,ex:=⟨_,_,_,hJ,by have:=hcell HJ rfl ys.length q1 (Nat.le_refl _);rwa [List.take_length]at this⟩
       l1:=q1,l5:=by omega,rd:=qJ.rd,lt:=hlt,ln:=by omega,frm:=qJ.frm},fun _=>⟨_,_,_,hJ,JcO hm hok (.inr (.inl ⟨.inl rfl,by simp only;omega,by simp only;omega,hsu.1,hsu.2⟩))⟩⟩
     refine QH.cutN 1 (fun a:List Int×Jm=>B4 True m H a.2 id g (B+41) 4 g8 HI.length g18 a.1) (fun a=>[.k, .a, .k, .k, .a, .a, .a, .a, .k, .a, .a, .a, .a, .a, .a, .a, .a, .a, .k, .a, .a, .a, .a, .a, .a, .a, .a, .a, .a, .a, .a, .a, .a, .a, .a, .a, .a, .a, .a, .a, .a, .a, .a, .a, .a, .a, .a, .a, .a, .a, .a, .a, .a, .a, .a, .a, .a, .a, .a, .a, .a, .a, .a, .a, .a, .a, .a, .a, .a, .a, .a, .a, .a, .a, .a, .a, .a, .a, .a, .a, .a, .a, .a, .a, .a, .a, .a, .a, .a, .a, .a, .a, .a, .a, .a, .a, .a, .a, .a, .a, .a, .a, .a, .a, .a, .a, .a, .a, .a, .a, .a, .a, .a, .a, .a, .a, .a, .a, .a, .a, .a, .a, .a, .a, .a, .a, .a, .a, .a, .a, .a, .a, .a, .a, .a, .a, .a, .a, .a, .a, .a, .a, .a, .a, .a, .a, .a, .a, .a, .a, .a, .a, .a, .a, .a, .a, .a, .a, .a, .a, .a, .a, .a, .a, .a, .a, .a, .a, .a, .a, .a, .a, .a, .a, .a, .a, .a, .a, .a, .a, .a, .a, .a, .a, .a, .a, .a, .a, .a, .a, .a, .a, .a, .a, .a, .a, .a, .a, .a, .a, .a, .a, .a, .a, .a, .a, .a, .a, .a, .a, .a, .a, .a, .a, .a, .a, .a, .a, .a, .a, .a, .a, .a, .a, .a, .a, .a, .a, .a, .a, .a, .a]) (fun a=>a.2) ?_ ?_
     · simp(maxSteps:=999999)(disch:=omega)only[go_sem,zA,zM,zS,zE,zL]
       refine JZ.run (QR HJ id g _ _ qJ.rd (by omega)) (⟨_,Tryz.func68,rfl,rfl⟩:Ji Tryz.prog 68) rfl rfl ?_
       rintro _ H1 ⟨⟨a,rfl,a0,a1⟩,r1,f1⟩
       replace f1:Vi HJ H1 [id]:=f1
       have o1:B4 True m H H1 id g (B+41) 4 g8 HI.length g18 ys:=(o0.pick r1 f1).mono (by omega)
       have q1':=qJ.pick r1 f1
       have hk1:=q1'.cells
       have hJ1:look H1 HI.length g18=some ⟨g18,3,[.f (.int .i64 2), .own (H.length+1) g2 0 ys.length none, .f (.int .i64 su)]⟩:=by rw[f1.look (by simp;omega)];exact hJ
       have hz1:look H1 cid cg=some ⟨cg,1,cl (eI .i64) zs⟩:=by
        unfold look at hz⊢
        rw[o1.frm cid hclt hne]
        exact hz
       have hcell1:∀k:Nat,1≤k→k≤ys.length→Kg H H1 HI.length (.own (H.length+1) g2 0 k none) (ys.take k):=fun k h1 h2=>hcell H1 (f1.2 _ (by simp;omega)) k h1 h2
       have hfin:∀HE xs,B4 True m H HE id g (B+41) 4 g8 HI.length g18 xs→∃a:List Int×Jm,B4 True m H a.2 id g (B+41) 4 g8 HI.length g18 a.1∧J0 HE a.2:=fun HE xs h=>⟨(xs,HE),h,J0.refl _⟩
       simp(maxSteps:=999999)(disch:=omega)only[go_sem,zA,zM,zS,zE,zL]
       have hJX:∀X,look (H1++X) HI.length g18=some ⟨g18,3,[.f (.int .i64 2), .own (H.length+1) g2 0 ys.length none, .f (.int .i64 su)]⟩:=fun X=>JO hJ1
       have hkS:∀X b,look ((H1++X).set HI.length b) (H.length+1) g2=some ⟨g2,1,cl (eI .i64) ys⟩:=fun X b=>by rw[J6 (by omega)];exact JO hk1
       have hzS:∀X b,look ((H1++X).set HI.length b) cid cg=some ⟨cg,1,cl (eI .i64) zs⟩:=fun X b=>by rw[J6 (by omega)];exact JO hz1
       have hJS:∀X b,look ((H1++X).set HI.length (some ⟨g18,3,b⟩)) HI.length g18=some ⟨g18,3,b⟩:=fun X b=>JM (by rw[Jk,f1.1];omega)
       have hl1:H1.length=HI.length+1:=by rw[f1.1,hJl]
       have hsl:2≤ys.length→UI Tryz.prog H1 23 (.c (.own (H.length+1) g2 0 ys.length none)) none (some 2) none=some (.c (.own (H.length+1) g2 0 2 none)):=fun e2=>by
        simp only[UI,UE,Kh,hk1,Option.getD_none,Option.getD_some]
        rw[if_pos ⟨by omega,by omega,by rw[Qa];omega,by simp,trivial,by omega,by omega⟩]
       ((first|(with_reducible first|refine Jl ?_ ?_|refine Jj ?_ ?_|refine Jp ?_ ?_)|refine Jr ?_ ?_)<;>intro e0)
       · simp(maxSteps:=999999)(disch:=omega)only[go_sem,zA,zM,zS,zE,zL,hJ1]
         exact hfin _ _ (o1.set (by have:=hcell1 ys.length q1 (Nat.le_refl _);rwa [List.take_length]at this) q1 (by omega) fun _=>JcO hm hok (.inr (.inl ⟨.inr rfl,by simp only;omega,by simp only;omega,hpr.1,hpr.2⟩)))
       simp(maxSteps:=999999)(disch:=omega)only[go_sem,zA,zM,zS,zE,zL]
       ((first|(with_reducible first|refine Jl ?_ ?_|refine Jj ?_ ?_|refine Jp ?_ ?_)|refine Jr ?_ ?_)<;>intro e1)
       · simp(maxSteps:=999999)(disch:=omega)only[go_sem,zA,zM,zS,zE,zL,hk1]
         ((first|(with_reducible first|refine Jl ?_ ?_|refine Jj ?_ ?_|refine Jp ?_ ?_)|refine Jr ?_ ?_)<;>intro e2)
         · have e2:2≤ys.length:=by omega
           have v0:=qv 0 (by omega)
           have v1:=qv 1 (by omega)
           simp only[Int.natCast_zero,Int.natCast_one]at v0 v1
           simp(maxSteps:=999999)(disch:=omega)only[go_sem,zA,zM,zS,zE,zL]
           refine Q3 [0,1,2,3,4,5] [] none [6,7,8] [] [0,1,3,0,8,24,63,127,255] Zd (by kernel_rfl) ?_
           iterate 6 (rw[Jv];simp(maxSteps:=999999)(disch:=omega)only[go_sem,zA,zM,zS,zE,zL,hk1])
           intro g5
           simp(maxSteps:=999999)(disch:=omega)only[go_sem,zA,zM,zS,zE,zL,hJX]
           have o2:=(o1.app (X:=[some ⟨g5,1,[.f (.int .i64 (JA ys 0)), .f (.int .i64 (JA ys 1))]⟩])).set (a:=4) (b:=0) (c:= .own H1.length g5 0 2 none) (zs:=[JA ys 0,JA ys 1]) (.inr ⟨H1.length,g5,2,[JA ys 0,JA ys 1],rfl,JC,by simp,rfl,by omega,by omega⟩) (by simp) (by simp) (fun _=>JlO hm hok e2 ⟨rfl,rfl⟩)
           have hl5:((H1++([some ⟨g5,1,[.f (.int .i64 (JA ys 0)), .f (.int .i64 (JA ys 1))]⟩]:Jm)).set HI.length (some ⟨g18,3,[.f (.int .i64 4), .own H1.length g5 0 2 none, .f (.int .i64 0)]⟩)).length=H1.length+1:=by simp
           refine Zj Zd (by kernel_rfl) ?_
           simp(maxSteps:=999999)(disch:=omega)only[go_sem,zA,zM,zS,zE,zL,hkS,hzS]
           ((first|(with_reducible first|refine Jl ?_ ?_|refine Jj ?_ ?_|refine Jp ?_ ?_)|refine Jr ?_ ?_)<;>intro e3)
           · simp(maxSteps:=999999)(disch:=omega)only[go_sem,zA,zM,zS,zE,zL]
             refine Q3 [0,1,2,3,4,5] [] none [6,7,8] [] [0,1,3,0,8,24,63,127,255] Zd (by kernel_rfl) ?_
             iterate 6 (rw[Jv];simp(maxSteps:=999999)(disch:=omega)only[go_sem,zA,zM,zS,zE,zL,hkS])
             intro g6
             simp(maxSteps:=999999)(disch:=omega)only[go_sem,zA,zM,zS,zE,zL,hJS,JO (hJS _ _)]
             refine hfin _ _ ((o2.app (X:=[some ⟨g6,1,[.f (.int .i64 (JA ys 1)), .f (.int .i64 (JA ys 0))]⟩])).set (a:=4) (b:=0) (c:= .own (H1.length+1) g6 0 2 none) (zs:=[JA ys 1,JA ys 0]) (.inr ⟨H1.length+1,g6,2,[JA ys 1,JA ys 0],rfl, ?_,by simp,rfl,by omega,by omega⟩) (by simp) (by simp) (fun _=>Jkk hm hok e2))
             rw[←hl5]
             exact JC
           · simp(maxSteps:=999999)(disch:=omega)only[go_sem,zA,zM,zS,zE,zL]
             exact hfin _ _ o2
         · simp(maxSteps:=999999)(disch:=omega)only[go_sem,zA,zM,zS,zE,zL]
           exact hfin _ _ o1
       simp(maxSteps:=999999)(disch:=omega)only[go_sem,zA,zM,zS,zE,zL]
       ((first|(with_reducible first|refine Jl ?_ ?_|refine Jj ?_ ?_|refine Jp ?_ ?_)|refine Jr ?_ ?_)<;>intro e2)
       · simp(maxSteps:=999999)(disch:=omega)only[go_sem,zA,zM,zS,zE,zL,hk1]
         ((first|(with_reducible first|refine Jl ?_ ?_|refine Jj ?_ ?_|refine Jp ?_ ?_)|refine Jr ?_ ?_)<;>intro e3)
         · have e2:2≤ys.length:=by omega
           have v0:=qv 0 (by omega)
           have v1:=qv 1 (by omega)
           simp only[Int.natCast_zero,Int.natCast_one]at v0 v1
           simp(maxSteps:=999999)(disch:=omega)only[go_sem,zA,zM,zS,zE,zL]
           refine Zj Zd (by kernel_rfl) ?_
           have u0:=hzi (JA ys 0) v0.1 (by rw[hmm]at v0;omega)
           have u1:=hzi (JA ys 1) v1.1 (by rw[hmm]at v1;omega)
           simp(maxSteps:=999999)(disch:=omega)only[go_sem,zA,zM,zS,zE,zL,hk1,hz1]
           simp(maxSteps:=999999)(disch:=omega)only[go_sem,zA,zM,zS,zE,zL,Int.reduceToNat,hsl e2,hJ1]
           exact hfin _ _ (o1.set (hcell1 2 (by omega) e2) (by simp;omega) (by simp;omega) fun _=>Jfn hm hok e2 (.inr ⟨rfl,by omega,by omega⟩))
         · simp(maxSteps:=999999)(disch:=omega)only[go_sem,zA,zM,zS,zE,zL]
           exact hfin _ _ o1
       simp(maxSteps:=999999)(disch:=omega)only[go_sem,zA,zM,zS,zE,zL]
       ((first|(with_reducible first|refine Jl ?_ ?_|refine Jj ?_ ?_|refine Jp ?_ ?_)|refine Jr ?_ ?_)<;>intro e4)
       · simp(maxSteps:=999999)(disch:=omega)only[go_sem,zA,zM,zS,zE,zL,hk1]
         ((first|(with_reducible first|refine Jl ?_ ?_|refine Jj ?_ ?_|refine Jp ?_ ?_)|refine Jr ?_ ?_)<;>intro e5)
         · have e2:2≤ys.length:=by omega
           simp(maxSteps:=999999)(disch:=omega)only[go_sem,zA,zM,zS,zE,zL,hk1,Int.reduceToNat,hsl e2,hJ1]
           exact hfin _ _ (o1.set (hcell1 2 (by omega) e2) (by simp;omega) (by simp;omega) fun _=>Jfn hm hok e2 (.inl ⟨rfl,rfl⟩))
         · simp(maxSteps:=999999)(disch:=omega)only[go_sem,zA,zM,zS,zE,zL]
           exact hfin _ _ o1
       · simp(maxSteps:=999999)(disch:=omega)only[go_sem,zA,zM,zS,zE,zL]
         exact hfin _ _ o1
     · rintro⟨xs,HE⟩ o
       simp only at o
       replace o:=o.weak (W:=kk≤0) fun _=>trivial
       have o0:=o.len
       simp(maxSteps:=999999)(disch:=omega)only[go_sem,zA,zM,zS,zE,zL]
       refine QH.cutN 1 (fun a:List Int×Jm=>B4 (kk≤0) m H a.2 id g (B+60) 5 g8 HI.length g18 a.1) (fun a=>[.a, .a, .a, .a, .a, .a, .a, .a, .k, .a, .a, .a, .a, .a, .a, .a, .a, .a, .k, .a, .a, .a, .a, .a, .a, .a, .a, .a, .a, .a, .a, .a, .a, .a, .a, .a, .a, .a, .a, .a, .a, .a, .a, .a, .a, .a, .a, .a, .a, .a, .a, .a, .a, .a, .a, .a, .a, .a, .a, .a, .a, .a, .a, .a, .a, .a, .a, .a, .a, .a, .a, .a, .a, .a, .a, .a, .a, .a, .a, .a, .a, .a, .a, .a, .a, .a, .a, .a, .a, .a, .a, .a, .a, .a, .a, .a, .a, .a, .a, .a, .a, .a, .a, .a, .a, .a, .a, .a, .a, .a, .a, .a, .a, .a, .a, .a, .a, .a, .a, .a, .a, .a, .a, .a, .a, .a, .a, .a, .a, .a, .a, .a, .a, .a, .a, .a, .a, .a, .a, .a, .a, .a, .a, .a, .a, .a, .a, .a, .a, .a, .a, .a, .a, .a, .a, .a, .a, .a, .a, .a, .a, .a, .a, .a, .a, .a, .a, .a, .a, .a, .a, .a, .a, .a, .a, .a, .a, .a, .a, .a, .a, .a, .a, .a, .a, .a, .a, .a, .a, .a, .a, .a, .a, .a, .a, .a, .a, .a, .a, .a, .a, .a, .a, .a, .a, .a, .a, .a, .a, .a, .a, .a, .a, .a, .a, .a, .a, .a, .a, .a, .a, .a, .a, .a, .a, .a, .a, .a, .a, .a, .a, .a]) (fun a=>a.2) ?_ ?_
       · simp(maxSteps:=999999)(disch:=omega)only[go_sem,zA,zM,zS,zE,zL]
         refine JZ.run (K4 HE id g _ kk o.rd (by omega) hkk) (⟨_,Tryz.func70,rfl,rfl⟩:Ji Tryz.prog 70) rfl rfl ?_
         rintro _ H1 ⟨⟨b,rfl,hb0⟩,r1,f1⟩
         replace f1:Vi HE H1 [id]:=f1
         have o1:=o.pick r1 f1
         have hfin:∀HE xs B' N',B'≤B+60→N'≤5→B4 (kk≤0) m H HE id g B' N' g8 HI.length g18 xs→∃a:List Int×Jm,B4 (kk≤0) m H a.2 id g (B+60) 5 g8 HI.length g18 a.1∧J0 HE a.2:=fun HE xs B' N' hb hN h=>⟨(xs,HE),(h.mono hb).wid hN,J0.refl _⟩
         simp(maxSteps:=999999)(disch:=omega)only[go_sem,zA,zM,zS,zE,zL]
         ((first|(with_reducible first|refine Jl ?_ ?_|refine Jj ?_ ?_|refine Jp ?_ ?_)|refine Jr ?_ ?_)<;>intro e0)
         rotate_left
         · simp(maxSteps:=999999)(disch:=omega)only[go_sem,zA,zM,zS,zE,zL]
           exact hfin _ _ _ _ (by omega) (by omega) o1
         have hno:¬kk≤0:=fun h=>by
          have:=hb0 h
          rw[this]at e0
          cases e0
         simp(maxSteps:=999999)(disch:=omega)only[go_sem,zA,zM,zS,zE,zL]
         refine JZ.run (QR H1 id g _ _ o1.rd (by omega)) (⟨_,Tryz.func68,rfl,rfl⟩:Ji Tryz.prog 68) rfl rfl ?_
         rintro _ H2 ⟨⟨a,rfl,a0,a1⟩,r2,f2⟩
         replace f2:Vi H1 H2 [id]:=f2
         have o2:=o1.pick r2 f2
         obtain⟨ka,kb,c,hJ2,hc2⟩:=o2.ex
         have hJX:∀X,look (H2++X) HI.length g18=some ⟨g18,3,[.f (.int .i64 ka),c, .f (.int .i64 kb)]⟩:=fun X=>JO hJ2
         have l1:=o2.l1
         have l5:=o2.l5
         have hln:=o2.ln
         simp(maxSteps:=999999)(disch:=omega)only[go_sem,zA,zM,zS,zE,zL]
         ((first|(with_reducible first|refine Jl ?_ ?_|refine Jj ?_ ?_|refine Jp ?_ ?_)|refine Jr ?_ ?_)<;>intro e1)
         · simp(maxSteps:=999999)(disch:=omega)only[go_sem,zA,zM,zS,zE,zL]
           intro g5
           have o3:=o2.app (X:=[some ⟨g5,1,[.f (.int .i64 0), .f (.int .i64 6)]⟩])
           refine JZ.run (QR _ id g _ _ o3.rd (by omega)) (⟨_,Tryz.func68,rfl,rfl⟩:Ji Tryz.prog 68) rfl rfl ?_
           rintro _ H3 ⟨⟨y,rfl,y0,y1⟩,r3,f3⟩
           have y1:=y1 (by omega)
           replace f3:Vi (H2++[some ⟨g5,1,[.f (.int .i64 0), .f (.int .i64 6)]⟩]) H3 [id]:=f3
           have o4:=o3.pick r3 f3
           obtain⟨kc,kd,c3,hJ3,hc3⟩:=o4.ex
           have hb:=f3.last o2.rd.lt
           obtain rfl|rfl:y=0∨y=1:=by omega
           all_goals
            simp(maxSteps:=999999)(disch:=omega)only[go_sem,zA,zM,zS,zE,zL,hb,Int.reduceToNat,hJ3]
            exact hfin _ _ _ _ (by omega) (by omega) (o4.set hc3 o2.l1 o2.l5 fun h=>absurd h hno)
         simp(maxSteps:=999999)(disch:=omega)only[go_sem,zA,zM,zS,zE,zL]
         ((first|(with_reducible first|refine Jl ?_ ?_|refine Jj ?_ ?_|refine Jp ?_ ?_)|refine Jr ?_ ?_)<;>intro e2)
         · simp(maxSteps:=999999)(disch:=omega)only[go_sem,zA,zM,zS,zE,zL]
           have hel:=hc2.elems
           rcases hc2 with hc2|⟨i5,g5,k5,ys5,hc2,h2,h3,h4,h5,h6⟩
           · subst hc2
             refine Q3 [0,1,2,4,5,6,7,8,3] [0,8] none [9,10,11] [] [0,0,2,7,0,16,48,112,240,511,1023,2047] Zd (by kernel_rfl) ?_
             iterate 8 (rw[Jv];simp(maxSteps:=999999)(disch:=omega)only[go_sem,zA,zM,zS,zE,zL,hJ2])
             rw[Jv]
             simp(maxSteps:=999999)(disch:=omega)only[go_sem,zA,zM,zS,zE,zL]
             refine Ws (E:=eI .i64) (Qb UE rfl Kh) ⟨rfl,rfl,by decide,by decide⟩ .m ⟨by simp,by omega⟩ hel ?_
             intro c' H3 hL3 hf3 hi3 hl3 hb3
             refine⟨ZR fun j b hj hb=>by
              have hjl:=(Jh.1 hb).1
              rw[hf3 j hjl (fun h=>h)]
              exact hb, ?_⟩
             simp(maxSteps:=999999)(disch:=omega)only[go_sem,zA,zM,zS,zE,zL]
             refine Ws (E:=eI .i64) (ys:=[JA xs (0:Int)]) (Qb UE rfl Kh) ⟨rfl,rfl,by decide,by decide⟩ hL3 ⟨by simp;omega,by simp⟩ rfl ?_
             intro c4 H4 hL4 hf4 hi4 hl4 hb4
             have hi4':∀k,QJ c4 k→k=H2.length∨k=H3.length:=fun k hk=>by
              rcases hi4 k hk with h|h
              · rcases hi3 k h with h|h
                · exact h.elim
                · exact .inl h
              · exact .inr h
             have hfr:∀k,k<H2.length→H4[k]? =H2[k]? :=fun k hk=>by
              rw[hf4 k (by omega) (fun h=>by
               rcases hi3 k h with h|h
               · exact h.elim
               · omega),hf3 k hk (fun h=>h)]
             have hJ4:look H4 HI.length g18=look H2 HI.length g18:=by unfold look;rw[hfr _ (by omega)]
             rw[hJ2]at hJ4
             have o4:B4 (kk≤0) m H H4 id g (B+60) 5 g8 HI.length g18 xs:=⟨
              {out:=by have:=o2.out;unfold look at this⊢;rw[hfr _ (by omega)];exact this
               ex:=⟨_,_,_,hJ4,by
                obtain⟨_,_,cc,w1,w2⟩:=o2.ex
                rw[hJ2]at w1
                cases w1
                exact w2.same fun i _ _ hi=>hfr i hi⟩
               l1:=o2.l1,l5:=by omega,rd:=(o2.rd.mono (by omega)).same (hfr _ (by omega)),lt:=o2.lt,ln:=by omega
               frm:=fun k hk hn=>by rw[hfr k (by omega)];exact o2.frm k hk hn},fun h=>absurd h hno⟩
             generalize hzs:[]++xs++[JA xs (0:Int)]=zs4 at hL4
             have hz4:zs4.length=xs.length+1:=by rw[←hzs];simp
             simp(maxSteps:=999999)(disch:=omega)only[go_sem,zA,zM,zS,zE,zL,hJ4]
             cases hL4 with
             |n=>simp at hz4
             |m=>simp at hz4
             |o id4 g4 _ hlk=>
              have:=hi4' id4 rfl
              exact hfin _ _ _ _ (by omega) (by omega) (o4.set (a:=ka) (b:=kb) (zs:=zs4) (.inr ⟨id4,g4,zs4.length,zs4,rfl,hlk,Nat.le_refl _,by rw[List.take_length],by omega,by omega⟩) (by omega) (by omega) fun h=>absurd h hno)
           · subst hc2
             have hk5:1≤k5:=by rw[h4,JP]at l1;omega
             refine Q3 [0,1,2,4,5,6,7,8,3] [0,8] none [9,10,11] [] [0,0,2,7,0,16,48,112,240,511,1023,2047] Zd (by kernel_rfl) ?_
             iterate 8 (rw[Jv];simp(maxSteps:=999999)(disch:=omega)only[go_sem,zA,zM,zS,zE,zL,hJ2,h2])
             rw[Jv]
             simp(maxSteps:=999999)(disch:=omega)only[go_sem,zA,zM,zS,zE,zL]
             refine Ws (E:=eI .i64) (Qb UE rfl Kh) ⟨rfl,rfl,by decide,by decide⟩ .m ⟨by simp,by omega⟩ hel ?_
             intro c' H3 hL3 hf3 hi3 hl3 hb3
             refine⟨ZR fun j b hj hb=>by
              have hjl:=(Jh.1 hb).1
              rw[hf3 j hjl (fun h=>h)]
              exact hb, ?_⟩
             simp(maxSteps:=999999)(disch:=omega)only[go_sem,zA,zM,zS,zE,zL]
             refine Ws (E:=eI .i64) (ys:=[JA ys5 (0:Int)]) (Qb UE rfl Kh) ⟨rfl,rfl,by decide,by decide⟩ hL3 ⟨by simp;omega,by simp⟩ rfl ?_
             intro c4 H4 hL4 hf4 hi4 hl4 hb4
             have hi4':∀k,QJ c4 k→k=H2.length∨k=H3.length:=fun k hk=>by
              rcases hi4 k hk with h|h
              · rcases hi3 k h with h|h
                · exact h.elim
                · exact .inl h
              · exact .inr h
             have hfr:∀k,k<H2.length→H4[k]? =H2[k]? :=fun k hk=>by
              rw[hf4 k (by omega) (fun h=>by
               rcases hi3 k h with h|h
               · exact h.elim
               · omega),hf3 k hk (fun h=>h)]
             have hJ4:look H4 HI.length g18=look H2 HI.length g18:=by unfold look;rw[hfr _ (by omega)]
             rw[hJ2]at hJ4
             have o4:B4 (kk≤0) m H H4 id g (B+60) 5 g8 HI.length g18 xs:=⟨
              {out:=by have:=o2.out;unfold look at this⊢;rw[hfr _ (by omega)];exact this
               ex:=⟨_,_,_,hJ4,by
                obtain⟨_,_,cc,w1,w2⟩:=o2.ex
                rw[hJ2]at w1
                cases w1
                exact w2.same fun i _ _ hi=>hfr i hi⟩
               l1:=o2.l1,l5:=by omega,rd:=(o2.rd.mono (by omega)).same (hfr _ (by omega)),lt:=o2.lt,ln:=by omega
               frm:=fun k hk hn=>by rw[hfr k (by omega)];exact o2.frm k hk hn},fun h=>absurd h hno⟩
             generalize hzs:[]++xs++[JA ys5 (0:Int)]=zs4 at hL4
             have hz4:zs4.length=xs.length+1:=by rw[←hzs];simp
             simp(maxSteps:=999999)(disch:=omega)only[go_sem,zA,zM,zS,zE,zL,hJ4]
             cases hL4 with
             |n=>simp at hz4
             |m=>simp at hz4
             |o id4 g4 _ hlk=>
              have:=hi4' id4 rfl
              exact hfin _ _ _ _ (by omega) (by omega) (o4.set (a:=ka) (b:=kb) (zs:=zs4) (.inr ⟨id4,g4,zs4.length,zs4,rfl,hlk,Nat.le_refl _,by rw[List.take_length],by omega,by omega⟩) (by omega) (by omega) fun h=>absurd h hno)
         simp(maxSteps:=999999)(disch:=omega)only[go_sem,zA,zM,zS,zE,zL]
         ((first|(with_reducible first|refine Jl ?_ ?_|refine Jj ?_ ?_|refine Jp ?_ ?_)|refine Jr ?_ ?_)<;>intro e3)
         · simp(maxSteps:=999999)(disch:=omega)only[go_sem,zA,zM,zS,zE,zL]
           intro g5
           simp(maxSteps:=999999)(disch:=omega)only[go_sem,zA,zM,zS,zE,zL,hJX]
           exact hfin _ _ _ _ (by omega) (by omega) ((o2.app (X:=[some ⟨g5,1,[.f (.int .i64 ((m:Int)*m)), .f (.int .i64 0)]⟩])).set (a:=ka) (b:=kb) (c:= .own H2.length g5 0 2 none) (zs:=[(m:Int)*m,0]) (.inr ⟨H2.length,g5,2,[(m:Int)*m,0],rfl,JC,by simp,rfl,by omega,by omega⟩) (by simp) (by simp) fun h=>absurd h hno)
         · simp(maxSteps:=999999)(disch:=omega)only[go_sem,zA,zM,zS,zE,zL]
           intro g5
           have o3:=o2.app (X:=[some ⟨g5,1,[.f (.int .i64 (-1)), .f (.int .i64 257)]⟩])
           refine JZ.run (QR _ id g _ _ o3.rd (by omega)) (⟨_,Tryz.func68,rfl,rfl⟩:Ji Tryz.prog 68) rfl rfl ?_
           rintro _ H3 ⟨⟨y,rfl,y0,y1⟩,r3,f3⟩
           have y1:=y1 (by omega)
           replace f3:Vi (H2++[some ⟨g5,1,[.f (.int .i64 (-1)), .f (.int .i64 257)]⟩]) H3 [id]:=f3
           have o4:=o3.pick r3 f3
           obtain⟨kc,kd,c3,hJ3,hc3⟩:=o4.ex
           have hb:=f3.last o2.rd.lt
           obtain rfl|rfl:y=0∨y=1:=by omega
           all_goals
            simp(maxSteps:=999999)(disch:=omega)only[go_sem,zA,zM,zS,zE,zL,hb,Int.reduceToNat,hJ3]
            exact hfin _ _ _ _ (by omega) (by omega) (o4.set hc3 o2.l1 o2.l5 fun h=>absurd h hno)
       · rintro⟨xs,HF⟩ o
         simp only at o
         obtain⟨a,b,c,hJ,hc⟩:=o.ex
         have hva:kk≤0→Ql ⟨a,xs,b⟩ m=true:=fun h=>by
          obtain⟨a',b',c',h1,h2⟩:=o.va h
          rw[hJ]at h1
          cases h1
          exact h2
         have ho:=o.out
         have hln:=o.ln
         have hS:∀b,look (HF.set H.length (some ⟨g8,3,b⟩)) H.length g8=some ⟨g8,3,b⟩:=fun b=>JM (by omega)
         refine Ua _ _ _ _ ?_
         simp(maxSteps:=999999)(disch:=omega)only[go_sem,zA,zM,zS,zE,zL,hJ,ho,hS]
         refine⟨_,J0.refl _,a,b,c,xs,rfl,(hc.same fun i hi hJ' hl=>by rw[Jg (by omega)]).frz,o.l5,hva,o.rd.same (by rw[Jg (by omega)]),by rw[Jo];omega,fun k hk hn=> ?_⟩
         rw[Jg (by omega)]
         exact o.frm k hk hn
end Go.Lg
