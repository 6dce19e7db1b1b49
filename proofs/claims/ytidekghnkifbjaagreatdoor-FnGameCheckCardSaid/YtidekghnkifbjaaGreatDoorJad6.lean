/- GpYA, cut to what is needed. -/
import Derived.Test.YtidekghnkifbjaaGreatDoorJab7
open List renaming cons_append → Ja, getElem?_append_left → Jb, nil_append → Jc, replicate → Jd, length_cons → Je, length_nil → Jf, length_append → Jk, length_set → Jo, append_nil → Ju, mem_map → Qh, length_replicate → QN
open Nat renaming reduceAdd→zA,reduceMul→zM,reduceSub→zS,reduceEqDiff→zE,reduceLeDiff→zL
set_option linter.unusedSimpArgs false
set_option linter.unusedVariables false
set_option maxRecDepth 100000
namespace Go.Lg
open Go.Proofs
attribute [-go_sem] J9 Y8 JE
def NB(n:Nat)(xs:List Int):Prop:=∀k:Nat,k<xs.length→1≤JA xs k∧JA xs k≤n
theorem Jai(n:Nat):∀(m:Nat) (xs:List Int) (l:Nat),m≤xs.length→(∀k:Nat,k<xs.length -m→1≤JA xs k∧JA xs k≤n)→(VB n m xs l).1≠[]→NB n (VB n m xs l).1
 |0,xs,l,hm,hv,hne=>by
  unfold VB at hne⊢
  split at hne
  · rename_i h
    rw[if_pos h]
    intro k hk
    exact hv k (by simpa using hk)
  · simp at hne
 |m+1,xs,l,hm,hv,hne=>by
  have key:∀(vs:List Nat),(∀v∈vs,1≤v∧v≤n)→∀l,(V8 n (VB n m) xs (xs.length -(m+1)) vs l).1≠[]→NB n (V8 n (VB n m) xs (xs.length -(m+1)) vs l).1:=by
   intro vs
   induction vs with
   |nil=>intro _ l h;simp[V8]at h
   |cons v vs ih=>
    intro hvs l h
    have hv1:=hvs v (by simp)
    have ih:=ih fun w hw=>hvs w (by simp[hw])
    rw[V8]at h⊢
    split at h
    · rename_i hc
      rw[if_pos hc]
      exact ih l h
    · rename_i hc
      rw[if_neg hc]
      split at h
      · rename_i hs
        rw[if_pos hs]
        refine Jai n m _ l (by rw[Jo];omega) (fun k hk=> ?_) hs
        rw[Jo]at hk
        rw[Q3 _ _ _ _ (by omega)]
        split
        · omega
        · exact hv k (by omega)
      · rename_i hs
        rw[if_neg hs]
        exact ih _ h
  unfold VB at hne⊢
  exact key _ (fun v hv=>by
   obtain⟨w,hw,rfl⟩:=Qh.1 hv
   have:=List.mem_range.1 hw
   omega) l hne
section
variable{P:Program}{o:Oper}{st:St}{K:KV}{fo:Operand}{xs:Array Operand}{ts:Array TypeId}{f:FuncId}{args:List AV}
def JkZ(n k:Nat):KV:=fun v H=>∃xs id g,v= .c (.own id g 0 k none)∧look H id g=some ⟨g,1,cl (eI .i64) xs⟩∧xs.length=k∧NB n xs
theorem JY.mkLV{n k:Nat}(hc:Jn P f args [] (JkZ n k))(he:Jh P f)(ho:o.op= .call ⟨.value fo,xs,ts⟩)(ha:Qa st fo xs=some (f,args))(hf:args.all Q0=true)
 (hk:∀(xs:List Int) id g H',look (st.h++H') id g=some ⟨g,1,cl (eI .i64) xs⟩→xs.length=k→st.h.length≤id→NB n xs→K (.c (.own id g 0 k none)) (st.h++H')):JY P o st K:=
 JY.mkQ hc he ho ha hf fun r H' ⟨xs,id,g,h1,h2,h3,h4⟩=>by
  subst h1
  refine⟨rfl,hk xs (id+st.h.length) g _ ?_ h3 (by omega) h4⟩
  rw[Ux h2]
  simp only[ZG,Ws]
end
theorem Bw{n:Nat}(hn:n=2∨n=3∨n=4)(number:Nat)(hm:number<Xn n):Jn Tryz.prog 141 [int n,int number] [] (JkZ n (n*n)):=by
 have hn4:2≤n∧n≤4:=by omega
 have hm6:Xn n≤576:=by unfold Xn;split<;>(try split)<;>omega
 have hsq:4≤n*n∧n*n≤16:=by rcases hn with rfl|rfl|rfl<;>omega
 have hsi:(n:Int)*n=((n*n:Nat):Int):=by push_cast;rfl
 refine Jn.cw (c:=_) Tryz.func141 rfl (n:=27) Tryz.ntmps141 (rs:=[.tmp 4]) rfl ?_
 simp only[Je,Jf,zA,zS,Jd,Ja,Jc]
 simp(maxSteps:=999999)(disch:=omega)only[go_sem,zA,zM,zS,zE,zL]
 first|refine JY.rd (Qy _ _ _) (⟨_,Tryz.func40,rfl,rfl⟩:Jh Tryz.prog 40) rfl rfl rfl rfl ?_|refine JM.rd (Qy _ _ _) (⟨_,Tryz.func40,rfl,rfl⟩:Jh Tryz.prog 40) rfl rfl rfl rfl ?_
 simp(maxSteps:=999999)(disch:=omega)only[go_sem,zA,zM,zS,zE,zL]
 ((with_reducible first|refine JH ?_ ?_|refine JD ?_ ?_|refine JP ?_ ?_|refine Jv ?_ ?_|refine JF ?_ ?_|refine JG ?_ ?_|refine JB ?_ ?_|refine JC ?_ ?_|refine JN ?_ ?_|refine JO ?_ ?_|refine Jw ?_ ?_|refine Jx ?_ ?_)<;>intro h1<;>simp(maxSteps:=999999)(disch:=omega)only[go_sem,zA,zM,zS,zE,zL,h1])
 rotate_left
 · exfalso;omega
 ((first|(with_reducible first|refine Jl ?_ ?_|refine Jj ?_ ?_|refine Jp ?_ ?_)|refine Jr ?_ ?_)<;>intro h2)
 · exfalso;omega
 simp(maxSteps:=999999)(disch:=omega)only[go_sem,zA,zM,zS,zE,zL]
 intro g1
 simp(maxSteps:=999999)(disch:=omega)only[go_sem,zA,zM,zS,zE,zL,hsi]
 intro g2
 have hown:Qw [some ⟨g1,1,[.f (.int .i64 (number:Int))]⟩,some ⟨g2,1,cl (eI .i64) (Jd (n*n) 0)⟩] (.own 1 g2 0 (n*n) none) (Jd (n*n) 0) [1]:=by
  have:=Qw.o (H:=[some ⟨g1,1,[.f (.int .i64 (number:Int))]⟩,some ⟨g2,1,cl (eI .i64) (Jd (n*n) 0)⟩]) 1 g2 none (Jd (n*n) 0) [] (by rw[Ju];simp only[go_sem])
  rwa [QN]at this
 have hr:=Be hn (n*n) _ _ _ _ 0 g1 number (Nat.le_refl _) hown (by simp) (fun k _=>by rw[W1];omega) VI (by simp) (by omega)
 rw[Nat.sub_self]at hr
 refine JY.run hr (⟨_,Tryz.func159,rfl,rfl⟩:Jh Tryz.prog 159) rfl rfl ?_
 rintro _ H2 ⟨c2,S2,rfl,o2,k2,n2,len2,f2⟩
 have hne0:Jd (n*n) (0:Int)≠[]:=by intro h0;have:=congrArg List.length h0;simp at this;omega
 obtain⟨hf,_⟩:=Gq n (n*n) (Jd (n*n) 0) number hne0
 rw[JiP hn]at hf
 obtain⟨hfl,_⟩:=hf hm
 rw[QN]at hfl
 obtain⟨id,g,lim,ys,rfl,rfl,hlk⟩:=o2.inv' (by omega)
 simp(maxSteps:=999999)(disch:=omega)only[go_sem,zA,zM,zS,zE,zL]
 intro g3
 refine Yt (Qi Uv rfl YQ) ⟨rfl,rfl,rfl⟩ (by omega) hlk ?_
 intro g4
 simp(maxSteps:=999999)(disch:=omega)only[go_sem,zA,zM,zS,zE,zL]
 rw[hfl]
 exact⟨_,J0.refl _,_,_,_,rfl,JI,hfl,Jai n (n*n) _ number (by simp) (fun k hk=>by simp at hk) (hf hm).2⟩
def Jhz(n:Nat)(H:Jm)(id g:Nat)(B:Int):KV:=fun v H'=>∃cid cg,v= .c (.own cid cg 0 (n*n) none)∧Ya H H' id g (B+2) cid cg (n*n)∧∃zs:List Int,look H' cid cg=some ⟨cg,1,cl (eI .i64) zs⟩∧zs.length=n*n∧NB n zs
theorem G1{n:Nat}(hn:n=2∨n=3∨n=4)(H:Jm)(id g:Nat)(B:Int)(hr:Zl H id g B)(hB:B≤2^39):Jn Tryz.prog 116 [.c (.ptr id g 0),int n] H (Jhz n H id g B):=by
 have hlt:=hr.lt
 have hsq:4≤n*n∧n*n≤16:=by rcases hn with rfl|rfl|rfl<;>omega
 refine Jn.cw (c:=_) Tryz.func116 rfl (n:=21) Tryz.ntmps116 (rs:=[.tmp 4]) rfl ?_
 simp only[Je,Jf,zA,zS,Jd,Ja,Jc]
 simp(maxSteps:=999999)(disch:=omega)only[go_sem,zA,zM,zS,zE,zL]
 intro g1
 have hix:ldP (some ⟨g1,1,[.f (.int .i64 2), .f (.int .i64 12), .f (.int .i64 576)]⟩) (0+((n:Int) -2).toNat*1)=some (int (Xn n)):=by
  rcases hn with rfl|rfl|rfl<;>rfl
 simp(maxSteps:=999999)(disch:=omega)only[go_sem,zA,zM,zS,zE,zL,JI,hix]
 have hm:=show Xn n=2∨Xn n=12∨Xn n=576 by rcases hn with rfl|rfl|rfl<;>simp[Xn]
 refine JY.run (QL _ id g B 256 hr.app (by omega)) (⟨_,Tryz.func68,rfl,rfl⟩:Jh Tryz.prog 68) rfl rfl ?_
 rintro _ H2 ⟨⟨y1,rfl,y10,y11⟩,r2,f2⟩
 simp(maxSteps:=999999)(disch:=omega)only[go_sem,zA,zM,zS,zE,zL]
 refine JY.run (QL _ id g (B+1) 3 r2 (by omega)) (⟨_,Tryz.func68,rfl,rfl⟩:Jh Tryz.prog 68) rfl rfl ?_
 rintro _ H3 ⟨⟨y2,rfl,y20,y21⟩,r3,f3⟩
 have y11:=y11 (by omega)
 have y21:=y21 (by omega)
 simp(maxSteps:=999999)(disch:=omega)only[go_sem,zA,zM,zS,zE,zL]
 obtain⟨number,hnum,hnl⟩:∃number:Nat,(y1*3+y2).tmod (Xn n:Int)=number∧number<Xn n:=by
  rw[VQ (by omega)]
  have h1:=Int.emod_nonneg (y1*3+y2) (show(Xn n:Int)≠0 by omega)
  have h2:=Int.emod_lt_of_pos (y1*3+y2) (show(0:Int)<(Xn n:Int) by omega)
  exact⟨((y1*3+y2)%(Xn n:Int)).toNat,by omega,by omega⟩
 rw[hnum]
 refine JY.mkLV (Bw hn number hnl) (⟨_,Tryz.func141,rfl,rfl⟩:Jh Tryz.prog 141) rfl rfl rfl ?_
 intro xs cid cg H4 hlk hl4 hc hvs
 have l3:H3.length=H.length+1:=by rw[f3.1,f2.1,Jk];rfl
 simp(maxSteps:=999999)(disch:=omega)only[go_sem,zA,zM,zS,zE,zL]
 refine⟨_,J0.refl _,cid,cg,rfl,⟨⟨xs,hlk,by omega⟩,(r3.app (X:=H4)).mono (by omega),hlt,by simp at hc;omega,by simp;omega,fun k hk hne=> ?_⟩,xs,hlk,hl4,hvs⟩
 rw[Jb (by omega),f3.2 k (by simp;exact hne),f2.2 k (by simp;exact hne),Jb hk]
end Go.Lg
