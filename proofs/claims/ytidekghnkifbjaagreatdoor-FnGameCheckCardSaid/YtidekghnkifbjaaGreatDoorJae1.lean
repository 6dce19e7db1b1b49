/- GpSH, GpSI, GpSJ, GpUB, cut to what is needed. -/
import Derived.Test.YtidekghnkifbjaaGreatDoorJae0
import Derived.Test.YtidekghnkifbjaaGreatDoorJab4
import Derived.Test.YtidekghnkifbjaaGreatDoorJad5
import Derived.Test.YtidekghnkifbjaaGreatDoorJab5
import Derived.Test.YtidekghnkifbjaaGreatDoorJab3
open List renaming cons_append → Ja, getElem?_append_left → Jb, nil_append → Jc, replicate → Jd, length_cons → Je, length_nil → Jf, getElem?_eq_some_iff → Jg, getElem?_set_ne → Ji, length_append → Jk, length_set → Jo, append_assoc → Jt, getElem?_eq_none → Jz, drop_zero → JQ, length_singleton → JV, getElem?_take_of_lt → Qd, mem_map → Qh, length_replicate → QN
open Nat renaming reduceAdd→zA,reduceMul→zM,reduceSub→zS,reduceEqDiff→zE,reduceLeDiff→zL
set_option linter.unusedSimpArgs false
set_option linter.unusedVariables false
set_option maxRecDepth 100000
namespace Go.Lg
open Go.Proofs
attribute [-go_sem] J9 JE
section
variable{P:Program}{o:Oper}{st:St}{K:KV}{fo:Operand}{xs:Array Operand}{ts:Array TypeId}{f:FuncId}{args args':List AV}
theorem JY.mkGL{q:ZF}{t:List UInt8}(hc:Jn P f args [] (Xr q (Ye t)))(he:Jh P f)(ho:o.op= .call ⟨.value fo,xs,ts⟩)(ha:Qa st fo xs=some (f,args))(hf:args.all Q0=true)
 (hk:∀c3 c4 H' S3 S4,Z2 (st.h++H') c3 q.put S3→Z2 (st.h++H') c4 q.moves S4→(∀k∈S3,k∉S4)→(∀i∈S3,st.h.length≤i∧i<st.h.length+H'.length)→(∀i∈S4,st.h.length≤i∧i<st.h.length+H'.length)→
   K (.tup [.agg [.f (.int .i64 q.task.size), .f (Qf q.task.given), .f (Va eR q.task.rules),c3,c4],Ye t]) (st.h++H')):JY P o st K:=
 JY.mkQ hc he ho ha hf fun r H' ⟨c3,c4,h1,S3,S4,h3,h4,hd⟩=>by
  subst h1
  refine⟨rfl,hk _ _ _ _ _ h3.shift h4.shift (fun k hk hm=> ?_) (by rw[Q5];exact UF h3.lt) (by rw[Q5];exact UF h4.lt)⟩
  obtain⟨a,ha,rfl⟩:=Qh.1 hk
  obtain⟨b,hb,he⟩:=Qh.1 hm
  have:b=a:=by omega
  subst this
  exact hd b ha hb
theorem JM.mkGL{ops:Array Oper}{s:List AV}{H:Jm}{q:ZF}{t:List UInt8}(hc:Jn P f args [] (Xr q (Ye t)))(he:Jh P f)(ho:o.op= .call ⟨.value fo,xs,ts⟩)(ha:Qa ⟨s,H⟩ fo xs=some (f,args))(hf:args.all Q0=true)
 (hk:∀c3 c4 H' S3 S4,Z2 (H++H') c3 q.put S3→Z2 (H++H') c4 q.moves S4→(∀k∈S3,k∉S4)→(∀i∈S3,H.length≤i∧i<H.length+H'.length)→(∀i∈S4,H.length≤i∧i<H.length+H'.length)→
   K (.tup [.agg [.f (.int .i64 q.task.size), .f (Qf q.task.given), .f (Va eR q.task.rules),c3,c4],Ye t]) (H++H')):JM P ops o s H K:=
 JM.call ho ha fun s' ha'=>JY.mkGL (st:=⟨s',H⟩) hc he ho ha' hf hk
end
structure GmE(H HI:Jm)(id g:Nat)(B:Int)(g4 J gJ:Nat)(q:ZF)(c3 c4:CV):Prop where
 out:look HI H.length g4=some ⟨g4,5,[.f (.int .i64 0), .f .nil, .f .nil, .f .nil, .f .nil]⟩
 cell:look HI J gJ=some ⟨gJ,5,[.f (.int .i64 q.task.size), .f (Qf q.task.given), .f (Va eR q.task.rules),c3,c4]⟩
 f3:∀X:Jm,(∀i,H.length<i→X[i]? =HI[i]?)→frzS (Z7 H.length) X 6 c3=some (Qf q.put)
 f4:∀X:Jm,(∀i,H.length<i→X[i]? =HI[i]?)→frzS (Z7 H.length) X 6 c4=some (Qf q.moves)
 rd:Zl HI id g B
 lt:id<H.length
 ln:H.length<J∧J<HI.length
 frm:∀k,k<H.length→k≠id→HI[k]? =H[k]?
theorem ZV.frzT{H HI X:Jm}{c:CV}{xs:List Int}(h:ZV (eI .i64) 1 HI c xs)(hi:∀k,QO c k→H.length<k)(hs:∀i,H.length<i→X[i]? =HI[i]?):Lg.frzS (Z7 H.length) X 6 c=some (Qf xs):=by
 refine(h.same (H':=X) fun i hi' _=>hs i (hi i hi')).frzI fun k hk=> ?_
 have:=hi k hk
 simp[Z7];omega
theorem Nj{H HI X:Jm}{gid gg:Nat}{zs:List Int}(p1:look HI gid gg=some ⟨gg,1,cl (eI .i64) zs⟩)(h0:H.length<gid)(hs:∀i,H.length<i→X[i]? =HI[i]?):frzS (Z7 H.length) X 6 (.own gid gg 0 zs.length none)=some (Qf zs):=by
 have:=KK (H:=H) (H':=X) (off:=0) (k:=zs.length) p1 h0 (fun i hi _=>hs i hi) (by omega)
 rwa [JQ,List.take_length]at this
theorem GmI.toE{H HI:Jm}{id g g4 J gJ:Nat}{B:Int}{q:ZF}{c3 c4:CV}(h:GmI H HI id g B g4 J gJ q c3 c4):GmE H HI id g B g4 J gJ q c3 c4:=
 {out:=h.out,cell:=h.cell,rd:=h.rd,lt:=h.lt,ln:=h.ln,frm:=h.frm
  f3:=fun X hs=>h.k3.frzT (fun k hk=>(h.i3 k hk).1) hs
  f4:=fun X hs=>h.k4.frzT (fun k hk=>(h.i4 k hk).1) hs}
set_option maxHeartbeats 8000000 in
theorem JcR(H:Jm)(id g:Nat)(B kk:Int)(hr:Zl H id g B)(hB:B≤2^35)(hkk:kk≤1000):Jn Tryz.prog 35 [.c (.ptr id g 0),int kk] H (gamDQ H id g B):=by
 have hlt:=hr.lt
 refine Jn.iceS (Q':=fun v H'=>∃(q:ZF) (c3 c4:CV),v= .agg [.f (.int .i64 q.task.size), .f (Qf q.task.given), .f (Va eR q.task.rules),c3,c4]∧frzS (Z7 H.length) H' 6 c3=some (Qf q.put)∧frzS (Z7 H.length) H' 6 c4=some (Qf q.moves)∧JaY q∧Zl H' id g (B+700)∧H.length≤H'.length∧∀k,k<H.length→k≠id→H'[k]? =H[k]?) ?_ ?_
 rotate_left
 · rintro v H' ⟨q,c3,c4,rfl,h1,h2,h3,h5,h6,h7⟩
   refine⟨Z7 H.length,H'.take H.length,aG q,XR _ _, .o _ _ (.agg _ _ rfl fun j hj=> ?_),⟨q,rfl,h3⟩,h5.take hlt,by simp;omega,fun i hi=> ?_⟩
   · have hj:j<5:=hj
     match j,hj with
     |0,_=>exact⟨_,rfl,Ke⟩
     |1,_=>exact⟨_,rfl,Ke⟩
     |2,_=>exact⟨_,rfl,Ke⟩
     |3,_=>exact⟨_,rfl,Rx h1⟩
     |4,_=>exact⟨_,rfl,Rx h2⟩
   · by_cases hi':i<H.length
     · rw[Qd hi',h7 i hi' (by simpa using hi)]
     · rw[List.getElem?_take_eq_none (by omega),Jz (by omega)]
 refine Jn.ofR (c:=_) Tryz.func35 rfl (n:=67) Tryz.ntmps35 (rs:=[.cell 4 28]) rfl ?_
 simp only[Je,Jf,zA,zS,Jd,Ja,Jc]
 refine QE.cutN 3 (fun a:Nat×Nat×Nat×ZF×CV×CV×Jm=>smD a.2.2.2.1.task∧(∃n,UJ a.2.2.2.1 n)∧GmI H a.2.2.2.2.2.2 id g (B+500) a.1 a.2.1 a.2.2.1 a.2.2.2.1 a.2.2.2.2.1 a.2.2.2.2.2.1) (fun a=>[.k, .k, .a, .a, .p (.c (.ptr H.length a.1 0)), .p (.c (.ptr a.2.1 a.2.2.1 0)), .a, .a, .a, .a, .a, .a, .a, .a, .a, .a, .a, .a, .a, .a, .a, .a, .a, .a, .a, .a, .a, .a, .a, .a, .a, .a, .a, .a, .a, .a, .a, .a, .a, .a, .a, .a, .a, .a, .a, .a, .a, .a, .a, .a, .a, .a, .a, .a, .a, .a, .a, .a, .a, .a, .a, .a, .a, .a, .a, .a, .a]) (fun a=>a.2.2.2.2.2.2) ?_ ?_
 · simp(maxSteps:=999999)(disch:=omega)only[go_sem,zA,zM,zS,zE,zL,Qe,Qn,QM,QD,Jt,Ja,Jc,Jk]
   intro g4
   refine JY.run (G3 _ id g B 0 hr.app (by omega) (by omega)) (⟨_,Tryz.func84,rfl,rfl⟩:Jh Tryz.prog 84) rfl rfl ?_
   rintro _ H1 ⟨⟨p,rfl,hp1,hp2,hpv⟩,r1,f1⟩
   have hpv:=hpv (by omega)
   have hsm:smD p:=⟨hp1,hp2⟩
   replace f1:Vn (H++[some ⟨g4,5,[.f (.int .i64 0), .f .nil, .f .nil, .f .nil, .f .nil]⟩]) H1 [id]:=f1
   have l1:H1.length=H.length+1:=by rw[f1.1];simp
   have ho1:look H1 H.length g4=some ⟨g4,5,[.f (.int .i64 0), .f .nil, .f .nil, .f .nil, .f .nil]⟩:=by rw[f1.look (by simp;omega)];exact JI
   simp(maxSteps:=999999)(disch:=omega)only[go_sem,zA,zM,zS,zE,zL]
   refine JY.mkQ (Jcg p hsm.sm hpv) (⟨_,Tryz.func83,rfl,rfl⟩:Jh Tryz.prog 83) rfl rfl rfl ?_
   rintro _ H2 ⟨i2,g2,rfl,k2⟩
   refine⟨rfl, ?_⟩
   have k2:=Ux (H0:=H1) k2
   simp only[ZG,Ws]at k2
   obtain⟨HK,hHK⟩:∃HK:Jm,HK=H1++Q2 H1.length H2:=⟨_,rfl⟩
   show vwK _ _ _ _ _ _ (.agg [.f (.int .i64 p.size), .f (Qf p.given), .f (Va eR p.rules), .own (i2+H1.length) g2 0 p.given.length none, .f .nil]) (H1++Q2 H1.length H2)
   rw[←hHK]at k2⊢
   have lK:H1.length≤HK.length:=by rw[hHK];simp
   have gK:∀k,k<H1.length→HK[k]? =H1[k]? :=fun k hk=>by rw[hHK,Jb hk]
   clear hHK
   simp(maxSteps:=999999)(disch:=omega)only[go_sem,zA,zM,zS,zE,zL]
   intro gJ
   simp(maxSteps:=999999)(disch:=omega)only[go_sem,zA,zM,zS,zE,zL,JI,QP]
   have hn:=Ub.of hpv
   have ho2:look HK H.length g4=some ⟨g4,5,[.f (.int .i64 0), .f .nil, .f .nil, .f .nil, .f .nil]⟩:=by unfold look at*;rw[gK _ (by omega)];exact ho1
   have i2lt:=(Jg.1 (JJ k2).1).1
   have k2':ZV (eI .i64) 1 HK (.own (i2+H1.length) g2 0 p.given.length none) (Jd p.given.length 0):=by
    have:=ZV.o (E:=eI .i64) (n:=1) (i2+H1.length) g2 (Jd p.given.length 0) k2
    rwa [QN]at this
   have q0:GmI H (HK++[some ⟨gJ,5,[.f (.int .i64 p.size), .f (Qf p.given), .f (Va eR p.rules), .own (i2+H1.length) g2 0 p.given.length none, .f .nil]⟩]) id g (B+400) g4 HK.length gJ ⟨p,Jd p.given.length 0,[]⟩ (.own (i2+H1.length) g2 0 p.given.length none) (.f .nil):=
    {out:=JX ho2
     cell:=JI
     k3:=k2'.app
     k4:= .n
     d34:=fun k _ h=>h
     i3:=fun k hk=>by have:k=i2+H1.length:=hk;omega
     i4:=fun k hk=>hk.elim
     rd:=(r1.same (gK _ (by omega))).app
     lt:=hlt,ln:=by simp;omega
     frm:=fun k hk hne=>by rw[Jb (by omega),gK _ (by omega),f1.2 k (by simpa using hne),Jb hk]}
   have hgam:∃n,UJ ⟨p,Jd p.given.length 0,[]⟩ n:=by
    have h:=(Jf8 hpv).1
    have e:Xd p=⟨p,Jd p.given.length 0,[]⟩:=by unfold Xd;rw[if_pos hpv]
    rw[e]at h
    exact UJ.of h
   refine JY.run (QL _ id g (B+400) 8 q0.rd (by omega)) (⟨_,Tryz.func68,rfl,rfl⟩:Jh Tryz.prog 68) rfl rfl ?_
   rintro _ H3 ⟨⟨y,rfl,y0,y1⟩,r3,f3⟩
   have y1:=y1 (by omega)
   have q1:=q0.pick r3 f3
   obtain⟨yn,rfl⟩:∃yn:Nat,y=yn:=⟨y.toNat,by omega⟩
   simp(maxSteps:=999999)(disch:=omega)only[go_sem,zA,zM,zS,zE,zL]
   refine Qv (fun(k:Nat) (b:ZF×CV×CV×Jm)=>k) (fun k b=>k≤7∧smD b.1.task∧(∃n,UJ b.1 n)∧GmI H b.2.2.2 id g (B+490 -10*k) g4 HK.length gJ b.1 b.2.1 b.2.2.1) (fun k b=>[.k, .k, .a, .a, .k, .k, .p (int k), .a, .a, .a, .a, .a, .a, .a, .a, .a, .a, .a, .a, .a, .a, .a, .a, .a, .a, .a, .a, .a, .a, .a, .a, .a, .a, .a, .a, .a, .a, .a, .a, .a, .a, .a, .a, .a, .a, .a, .a, .a, .a, .a, .a, .a, .a, .a, .a, .a, .a, .a, .a, .a, .a, .a, .a, .a, .a, .a, .a]) (fun k b=>b.2.2.2) yn (⟨p,Jd p.given.length 0,[]⟩, .own (i2+H1.length) g2 0 p.given.length none, .f .nil,H3)
    ⟨by omega,hsm,hgam,q1.mono (by omega)⟩ (by simp(maxSteps:=999999)(disch:=omega)only[go_sem,zA,zM,zS,zE,zL]) (J0.refl _) ?_
   rintro k ⟨q,c3,c4,HI⟩ ⟨hk,hs,⟨n,hN⟩,hI⟩
   simp only at hs hN hI
   simp(maxSteps:=999999)(disch:=omega)only[go_sem,zA,zM,zS,zE,zL]
   ((first|(with_reducible first|refine Jl ?_ ?_|refine Jj ?_ ?_|refine Jp ?_ ?_)|refine Jr ?_ ?_)<;>intro c1)
   rotate_left
   · simp(maxSteps:=999999)(disch:=omega)only[go_sem,zA,zM,zS,zE,zL]
     exact⟨(g4,HK.length,gJ,q,c3,c4,HI),⟨hs,⟨n,hN⟩,hI.mono (by omega)⟩,by simp,J0.refl _⟩
   obtain⟨k,rfl⟩:∃k',k=k'+1:=⟨k -1,by omega⟩
   simp(maxSteps:=999999)(disch:=omega)only[go_sem,zA,zM,zS,zE,zL]
   obtain⟨S,HX,hice,hXl,hF⟩:=hI.ice
   refine JgN S hice ?_
   have hln:=hF.ln
   have hlX:=hF.lt
   have hM:∀X:Jm,X[HK.length]? =HX[HK.length]?→look (Zc (ZK id HX.length HX.length) X) HK.length gJ=some ⟨gJ,5,cG q⟩:=fun X hX=>by
    rw[Ut (UU (by omega) (by omega))]
    have:=hF.cell
    unfold look at*
    rw[hX];exact this
   refine Jbw [0,1,2,3,4,5,6,7] [] none [8] 7 (ZK id HX.length HX.length) Zd (by kernel_rfl) ?_
   have hM0:=hM HX rfl
   have hl4:=hN.len
   iterate 3 (rw[JE];simp(maxSteps:=999999)(disch:=omega)only[go_sem,zA,zM,zS,zE,zL,hM0])
   rw[JE]
   simp(maxSteps:=999999)(disch:=omega)only[go_sem,zA,zM,zS,zE,zL]
   refine JM.run (Jd9 HX id g _ 5 q hF.rd (by omega) (by omega) (hN.smG hs.sm) (by omega)) (⟨_,Tryz.func69,rfl,rfl⟩:Jh Tryz.prog 69) rfl rfl ?_
   rintro _ H4 ⟨⟨l,rfl,hll⟩,r4,f4⟩
   refine⟨ZR fun j b hj hb=>by
    have hjl:=(Jg.1 hb).1
    rw[f4.2 j (by simpa using(Vj hj hjl).1)];exact hb, ?_⟩
   simp(maxSteps:=999999)(disch:=omega)only[go_sem,zA,zM,zS,zE,zL]
   rw[JE]
   simp(maxSteps:=999999)(disch:=omega)only[go_sem,zA,zM,zS,zE,zL]
   refine JM.mkGL (NN q l (hN.smG hs.sm) (by omega) hN.valid) (⟨_,Tryz.func31,rfl,rfl⟩:Jh Tryz.prog 31) rfl rfl rfl ?_
   intro c3' c4' H5 S3 S4 k3 k4 n3 m3 m4
   refine⟨ZR fun j b hj hb=>by
    have hjl:=(Jg.1 hb).1
    rw[Jb hjl];exact hb, ?_⟩
   simp(maxSteps:=999999)(disch:=omega)only[go_sem,zA,zM,zS,zE,zL]
   iterate 3 (rw[JE];simp(maxSteps:=999999)(disch:=omega)only[go_sem,zA,zM,zS,zE,zL])
   have e5:look (H4++H5) HK.length gJ=some ⟨gJ,5,cG q⟩:=by
    rw[Xo (by rw[f4.1];omega),f4.look (by simp;omega)]
    exact hF.cell
   refine RI rfl (.inr rfl) ?_
   simp(maxSteps:=999999)(disch:=omega)only[go_sem,zA,zM,zS,zE,zL,e5]
   have l4:=f4.1
   have hkeep:∀{X:Option Zv} {i:Nat},i≠HK.length→((H4++H5).set HK.length X)[i]? =(H4++H5)[i]? :=fun hi=>by rw[Ji (Ne.symm hi)]
   have hin:∀{i:Nat},i<HX.length→(H4++H5)[i]? =H4[i]? :=fun hi=>by rw[Jb (by omega)]
   obtain⟨t3,t3'⟩:=k3.toL
   obtain⟨t4,t4'⟩:=k4.toL
   refine⟨k,(VJ q l,c3',c4',(H4++H5).set HK.length (some ⟨gJ,5,[.f (.int .i64 (VJ q l).task.size), .f (Qf (VJ q l).task.given), .f (Va eR (VJ q l).task.rules),c3',c4']⟩)),⟨⟨by omega,by rw[Jgh hN.valid];exact hs,⟨n,Jd5 hN l⟩, ?_⟩,by omega⟩, ?_, ?_⟩
   · have hfo:=hF.out
     exact{out:=by
            have:look (H4++H5) H.length g4=look HX H.length g4:=by rw[Xo (by omega),f4.look (by simp;omega)]
            rw[Zo (by omega),this];exact hfo
           cell:=JU (by simp;omega)
           k3:=t3.same fun i hi hl'=>hkeep (by have:=m3 i (t3' i hi);omega)
           k4:=t4.same fun i hi hl'=>hkeep (by have:=m4 i (t4' i hi);omega)
           d34:=fun i h3 h4=>n3 i (t3' i h3) (t4' i h4)
           i3:=fun i hi=>by have:=m3 i (t3' i hi);omega
           i4:=fun i hi=>by have:=m4 i (t4' i hi);omega
           rd:=(r4.app.same (hkeep (by omega))).mono (by omega)
           lt:=hlt,ln:=by rw[Jo];simp;omega
           frm:=fun i hi hne=>by rw[hkeep (by omega),hin (by omega),f4.2 i (by simpa using hne)];exact hF.frm i hi hne}
   · omega
   · exact J0.refl _
 · rintro⟨g4,J,gJ,q,c3,c4,HF⟩ ⟨hs,⟨n,hN⟩,hI⟩
   simp only at hs hN hI
   have hl:=hN.len
   refine QE.cutN 1 (fun a:ZF×CV×CV×Jm=>JaY a.1∧GmE H a.2.2.2 id g (B+600) g4 J gJ a.1 a.2.1 a.2.2.1) (fun a=>[.a, .a, .a, .a, .k, .k, .a, .a, .a, .a, .a, .a, .a, .a, .a, .a, .a, .a, .a, .a, .a, .a, .a, .a, .a, .a, .a, .a, .a, .a, .a, .a, .a, .a, .a, .a, .a, .a, .a, .a, .a, .a, .a, .a, .a, .a, .a, .a, .a, .a, .a, .a, .a, .a, .a, .a, .a, .a, .a, .a, .a, .a, .a, .a, .a, .a, .a]) (fun a=>a.2.2.2) ?_ ?_
   · simp(maxSteps:=999999)(disch:=omega)only[go_sem,zA,zM,zS,zE,zL]
     refine JY.run (R5 HF id g (B+500) kk hI.rd (by omega) (by omega)) (⟨_,Tryz.func70,rfl,rfl⟩:Jh Tryz.prog 70) rfl rfl ?_
     rintro _ H1 ⟨⟨b,rfl,_⟩,r1,f1⟩
     have q1:=hI.pick r1 f1
     simp(maxSteps:=999999)(disch:=omega)only[go_sem,zA,zM,zS,zE,zL]
     ((first|(with_reducible first|refine Jl ?_ ?_|refine Jj ?_ ?_|refine Jp ?_ ?_)|refine Jr ?_ ?_)<;>intro c1)
     rotate_left
     · simp(maxSteps:=999999)(disch:=omega)only[go_sem,zA,zM,zS,zE,zL]
       have hsg:JaY q:=⟨hs,by omega,by omega⟩
       exact⟨(q,c3,c4,H1),⟨hsg,(q1.mono (by omega)).toE⟩,J0.refl _⟩
     simp(maxSteps:=999999)(disch:=omega)only[go_sem,zA,zM,zS,zE,zL]
     refine JY.run (QL H1 id g (B+500+1) 4 q1.rd (by omega)) (⟨_,Tryz.func68,rfl,rfl⟩:Jh Tryz.prog 68) rfl rfl ?_
     rintro _ H2 ⟨⟨y,rfl,y0,y1⟩,r2,f2⟩
     have y1:=y1 (by omega)
     have q2:=(q1.pick r2 f2).mono (B':=B+510) (by omega)
     clear q1 r1 f1 r2 f2
     have hJ:=q2.cell
     have hln:=q2.ln
     have hne3:q.put≠[]:=fun h=>by rw[h]at hl;simp at hl
     obtain⟨i3,g3,rfl,k3⟩:∃i3 g3,c3= .own i3 g3 0 q.put.length none∧look H2 i3 g3=some ⟨g3,1,cl (eI .i64) q.put⟩:=by
      have h3:=q2.k3
      generalize q.put=ps at h3 hne3
      cases h3 with
      |n=>exact absurd rfl hne3
      |m=>exact absurd rfl hne3
      |o i3 g3 xs h=>exact⟨i3,g3,rfl,h⟩
     have hi3:=q2.i3 i3 rfl
     have hi3l:=(Jg.1 (JJ k3).1).1
     have hout:=q2.out
     have h4:=q2.k4
     have hi4:=q2.i4
     have hd34:=q2.d34
     obtain⟨N3,hN3⟩:∃N,N=q.put.length:=⟨_,rfl⟩
     have hM:look (Zc (ZK id H2.length (H2.length+1)) H2) J gJ=some ⟨gJ,5,[.f (.int .i64 q.task.size), .f (Qf q.task.given), .f (Va eR q.task.rules), .own i3 g3 0 q.put.length none,c4]⟩:=by
      rw[Ut (UU (by omega) (by omega))];exact hJ
     have hok:∀X Y:Jm,Vn X Y [id]→X.length=H2.length→RD (ZK id H2.length (H2.length+1)) X Y:=fun X Y hf hX=>ZR fun j b hj hb=>by
      have hjl:=(Jg.1 hb).1
      rw[hf.2 j (by simpa using(Vj hj (by omega)).1)];exact hb
     have hoka:∀X Y:Jm,RD (ZK id H2.length (H2.length+1)) X (X++Y)=True:=fun X Y=>eq_true (ZR fun j b hj hb=>by
      have hjl:=(Jg.1 hb).1
      rw[Jb hjl];exact hb)
     simp(maxSteps:=999999)(disch:=omega)only[go_sem,zA,zM,zS,zE,zL]
     ((first|(with_reducible first|refine Jl ?_ ?_|refine Jj ?_ ?_|refine Jp ?_ ?_)|refine Jr ?_ ?_)<;>intro e0)
     · simp(maxSteps:=999999)(disch:=omega)only[go_sem,zA,zM,zS,zE,zL,hJ,k3]
       have hsl:UA Tryz.prog H2 23 (.c (.own i3 g3 0 q.put.length none)) (some (Int.toNat 1)) none none=some (.c (.own i3 g3 1 (q.put.length -1) none)):=by
        simp only[UA,Uv,YQ,k3,Option.getD_none,Option.getD_some,Int.reduceToNat]
        rw[if_pos ⟨by omega,by omega,by rw[J7];omega,by simp,trivial,by omega,by omega⟩]
       simp(maxSteps:=999999)(disch:=omega)only[go_sem,zA,zM,zS,zE,zL,hsl,hJ]
       refine⟨(⟨q.task,(q.put.drop 1).take (q.put.length -1),q.moves⟩, .own i3 g3 1 (q.put.length -1) none,c4,H2.set J (some ⟨gJ,5,[.f (.int .i64 q.task.size), .f (Qf q.task.given), .f (Va eR q.task.rules), .own i3 g3 1 (q.put.length -1) none,c4]⟩)),⟨⟨hs, ?_, ?_⟩, ?_⟩,J0.refl _⟩
       · simp;omega
       · show q.moves.length≤40
         omega
       · exact{out:=by rw[J5 (by omega)];exact hout
               cell:=JU (by omega)
               f3:=fun X hX=>KK (HI:=H2.set J (some ⟨gJ,5,[.f (.int .i64 q.task.size), .f (Qf q.task.given), .f (Va eR q.task.rules), .own i3 g3 1 (q.put.length -1) none,c4]⟩)) (by rw[J5 (by omega)];exact k3) (by omega) (fun i hi _=>hX i hi) (by omega)
               f4:=fun X hX=>ZV.frzT (HI:=H2.set J (some ⟨gJ,5,[.f (.int .i64 q.task.size), .f (Qf q.task.given), .f (Va eR q.task.rules), .own i3 g3 1 (q.put.length -1) none,c4]⟩)) (h4.same fun i hi _=>by rw[Ji (Ne.symm (hi4 i hi).2)]) (fun k hk=>(hi4 k hk).1) hX
               rd:=(q2.rd.mono (by omega)).same (by rw[Ji (by omega)])
               lt:=hlt,ln:=by rw[Jo];omega
               frm:=fun k hk hne=>by rw[Ji (by omega)];exact q2.frm k hk hne}
     simp(maxSteps:=999999)(disch:=omega)only[go_sem,zA,zM,zS,zE,zL]
     ((first|(with_reducible first|refine Jl ?_ ?_|refine Jj ?_ ?_|refine Jp ?_ ?_)|refine Jr ?_ ?_)<;>intro e1)
     · simp(maxSteps:=999999)(disch:=omega)only[go_sem,zA,zM,zS,zE,zL]
       refine Q4 [0,1,2,3,4,5] [] none [6,7,8] (ZK id H2.length (H2.length+1)) [0,1,0,4,12,28,63,127,255] Zd (by kernel_rfl) ?_
       iterate 3 (rw[JE];simp(maxSteps:=999999)(disch:=omega)only[go_sem,zA,zM,zS,zE,zL,hM])
       rw[JE]
       simp(maxSteps:=999999)(disch:=omega)only[go_sem,zA,zM,zS,zE,zL]
       refine JM.run (QL H2 id g _ 20 q2.rd (by omega)) (⟨_,Tryz.func68,rfl,rfl⟩:Jh Tryz.prog 68) rfl rfl ?_
       rintro _ H3 ⟨⟨u,rfl,u0,u1⟩,r3,f3⟩
       have u1:=u1 (by omega)
       refine⟨hok _ _ f3 rfl, ?_⟩
       have q3:=q2.pick r3 f3
       have l3:=f3.1
       simp(maxSteps:=999999)(disch:=omega)only[go_sem,zA,zM,zS,zE,zL]
       rw[JE]
       simp(maxSteps:=999999)(disch:=omega)only[go_sem,zA,zM,zS,zE,zL]
       rw[JE]
       simp(maxSteps:=999999)(disch:=omega)only[go_sem,zA,zM,zS,zE,zL,hoka]
       intro g9
       have q4:=q3.app (X:=[some ⟨g9,1,cl (eI .i64) [u -1]⟩])
       refine B9 (E:=eI .i64) (v:=u -1) (Qi Uv rfl YQ) ⟨rfl,rfl,by decide,by decide⟩ q4.k4 (by omega) JI ?_
       intro c' H7 hO hk1 hk2 hl7 hk3
       rw[Jk,JV]at hk1 hk2 hl7
       have c4n:∀k,k≤H.length∨k=J∨k=i3→¬QO c4 k:=fun k hk h=>by
        rcases hk with hk|hk|hk
        · have:=hi4 k h;omega
        · have:=hi4 k h;omega
        · exact hd34 i3 rfl (hk▸h)
       have e7:∀k,k<H3.length→¬QO c4 k→H7[k]? =H3[k]? :=fun k hk hn=>by rw[hk1 k (by omega) hn,Jb hk]
       have hJ7:look H7 J gJ=some ⟨gJ,5,[.f (.int .i64 q.task.size), .f (Qf q.task.given), .f (Va eR q.task.rules), .own i3 g3 0 q.put.length none,c4]⟩:=by
        have:=q3.cell
        unfold look at*
        rw[e7 J (by omega) (c4n J (by omega))];exact this
       have hid7:∀k,QO c' k→H.length<k∧k≠J:=fun k hk=>by
        rcases hk2 k hk with h|h
        · exact hi4 k h
        · omega
       simp(maxSteps:=999999)(disch:=omega)only[go_sem,zA,zM,zS,zE,zL,hJ7]
       refine⟨(⟨q.task,q.put,q.moves++[u -1]⟩, .own i3 g3 0 q.put.length none,c',H7.set J (some ⟨gJ,5,[.f (.int .i64 q.task.size), .f (Qf q.task.given), .f (Va eR q.task.rules), .own i3 g3 0 q.put.length none,c']⟩)),⟨⟨hs, ?_, ?_⟩, ?_⟩,J0.refl _⟩
       · show q.put.length≤16
         omega
       · simp;omega
       · have k3':look H7 i3 g3=some ⟨g3,1,cl (eI .i64) q.put⟩:=by
          have:look H3 i3 g3=some ⟨g3,1,cl (eI .i64) q.put⟩:=by rw[f3.look (by simp;omega)];exact k3
          unfold look at*
          rw[e7 i3 (by omega) (c4n i3 (by omega))];exact this
         exact{out:=by
                have:=q3.out
                rw[J5 (by omega)]
                unfold look at*
                rw[e7 _ (by omega) (c4n _ (by omega))];exact this
               cell:=JU (by omega)
               f3:=fun X hX=>Nj (HI:=H7.set J (some ⟨gJ,5,[.f (.int .i64 q.task.size), .f (Qf q.task.given), .f (Va eR q.task.rules), .own i3 g3 0 q.put.length none,c']⟩)) (by rw[J5 (by omega)];exact k3') (by omega) hX
               f4:=fun X hX=>ZV.frzT (HI:=H7.set J (some ⟨gJ,5,[.f (.int .i64 q.task.size), .f (Qf q.task.given), .f (Va eR q.task.rules), .own i3 g3 0 q.put.length none,c']⟩)) (hO.same fun i hi _=>by rw[Ji (Ne.symm (hid7 i hi).2)]) (fun k hk=>(hid7 k hk).1) hX
               rd:=(q3.rd.mono (by omega)).same (by rw[Ji (by omega),e7 _ (by omega) (c4n _ (by omega))])
               lt:=hlt,ln:=by rw[Jo];omega
               frm:=fun k hk hne=>by rw[Ji (by omega),e7 _ (by omega) (c4n _ (by omega))];exact q3.frm k hk hne}
     simp(maxSteps:=999999)(disch:=omega)only[go_sem,zA,zM,zS,zE,zL]
     ((first|(with_reducible first|refine Jl ?_ ?_|refine Jj ?_ ?_|refine Jp ?_ ?_)|refine Jr ?_ ?_)<;>intro e2)
     · simp(maxSteps:=999999)(disch:=omega)only[go_sem,zA,zM,zS,zE,zL]
       have hM3:look (Zc (ZK id H2.length (H2.length+1)) H2) i3 g3=some ⟨g3,1,cl (eI .i64) q.put⟩:=by
        rw[Ut (UU (by omega) (by omega))];exact k3
       refine Q4 [0,1,2,3,4,5,7,8,6,9,10,11] [7] none [12,13] (ZK id H2.length (H2.length+1)) [0,1,0,0,8,24,60,0,0,380,1020,2044,4095,8191] Zd (by kernel_rfl) ?_
       iterate 6 (rw[JE];simp(maxSteps:=999999)(disch:=omega)only[go_sem,zA,zM,zS,zE,zL,hM])
       rw[JE]
       simp(maxSteps:=999999)(disch:=omega)only[go_sem,zA,zM,zS,zE,zL,hM3]
       rw[JE]
       simp(maxSteps:=999999)(disch:=omega)only[go_sem,zA,zM,zS,zE,zL]
       rw[JE]
       simp(maxSteps:=999999)(disch:=omega)only[go_sem,zA,zM,zS,zE,zL]
       refine JM.run (QL H2 id g _ q.put.length q2.rd (by omega)) (⟨_,Tryz.func68,rfl,rfl⟩:Jh Tryz.prog 68) rfl rfl ?_
       rintro _ H3 ⟨⟨u,rfl,u0,u1⟩,r3,f3⟩
       have u1:=u1 (by omega)
       refine⟨hok _ _ f3 rfl, ?_⟩
       have q3:=q2.pick r3 f3
       have l3:=f3.1
       simp(maxSteps:=999999)(disch:=omega)only[go_sem,zA,zM,zS,zE,zL]
       rw[JE]
       simp(maxSteps:=999999)(disch:=omega)only[go_sem,zA,zM,zS,zE,zL]
       refine JM.run (QL H3 id g _ 3 q3.rd (by omega)) (⟨_,Tryz.func68,rfl,rfl⟩:Jh Tryz.prog 68) rfl rfl ?_
       rintro _ H4 ⟨⟨v,rfl,v0,v1⟩,r4,f4⟩
       have v1:=v1 (by omega)
       refine⟨hok _ _ f4 (by omega), ?_⟩
       have q4:=q3.pick r4 f4
       have l4:=f4.1
       obtain⟨un,rfl⟩:∃un:Nat,u=un:=⟨u.toNat,by omega⟩
       have k3':look H4 i3 g3=some ⟨g3,1,cl (eI .i64) q.put⟩:=by rw[f4.look (by simp;omega),f3.look (by simp;omega)];exact k3
       simp(maxSteps:=999999)(disch:=omega)only[go_sem,zA,zM,zS,zE,zL]
       have fin:∀w:Int,∃a:ZF×CV×CV×Jm,(JaY a.1∧GmE H a.2.2.2 id g (B+600) g4 J gJ a.1 a.2.1 a.2.2.1)∧a.2.2.2=H4.set i3 (some ⟨g3,1,cl (eI .i64) (q.put.set un w)⟩):=fun w=>by
        refine⟨(⟨q.task,q.put.set un w,q.moves⟩, .own i3 g3 0 q.put.length none,c4,H4.set i3 (some ⟨g3,1,cl (eI .i64) (q.put.set un w)⟩)),⟨⟨hs, ?_, ?_⟩, ?_⟩,rfl⟩
        · show(q.put.set un w).length≤16
          rw[Jo];omega
        · show q.moves.length≤40
          omega
        · have q4o:=q4.out
          have q4c:=q4.cell
          exact{out:=by rw[J5 (by omega)];exact q4o
                cell:=by rw[J5 (by omega)];exact q4c
                f3:=fun X hX=>by
                 have:=Nj (H:=H) (X:=X) (HI:=H4.set i3 (some ⟨g3,1,cl (eI .i64) (q.put.set un w)⟩)) (JU (by omega)) (by omega) hX
                 rwa [Jo]at this
                f4:=fun X hX=>ZV.frzT (HI:=H4.set i3 (some ⟨g3,1,cl (eI .i64) (q.put.set un w)⟩)) (q4.k4.same fun i hi _=>by rw[Ji (fun he=>hd34 i3 rfl (by rw[he];exact hi))]) (fun k hk=>(hi4 k hk).1) hX
                rd:=(q4.rd.mono (by omega)).same (by rw[Ji (by omega)])
                lt:=hlt,ln:=by rw[Jo];omega
                frm:=fun k hk hne=>by rw[Ji (by omega)];exact q4.frm k hk hne}
       have hset:∀w:Int,Qj (cl (eI .i64) q.put) (0+un*1) [.f (.int .i64 w)]=cl (eI .i64) (q.put.set un w):=fun w=>Vb (E:=eI .i64) (by omega)
       obtain⟨vn,rfl⟩:∃vn:Nat,v=vn:=⟨v.toNat,by omega⟩
       obtain⟨L3,hL3,hl3⟩:∃L3:List Int,FV.sl 3 [.int .i64 (-1), .int .i64 1, .int .i64 9]=Qf L3∧L3.length=3:=⟨[-1,1,9],rfl,rfl⟩
       rw[hL3]
       obtain⟨a,ha,he⟩:=fin (JA L3 vn)
       iterate 2 (rw[JE];simp(maxSteps:=999999)(disch:=omega)only[go_sem,zA,zM,zS,zE,zL])
       simp(maxSteps:=999999)(disch:=omega)only[go_sem,zA,zM,zS,zE,zL,k3',hset]
       exact⟨a,ha,by rw[he];exact J0.refl _⟩
     · simp(maxSteps:=999999)(disch:=omega)only[go_sem,zA,zM,zS,zE,zL,hJ]
       refine Wl (E:=eI .i64) (xs:=q.moves) (ys:=q.moves) (Qi Uv rfl YQ) ⟨rfl,rfl,by decide,by decide⟩ h4 ⟨by omega,by omega⟩ (Jkw h4) ?_
       intro c' H7 hO hk1 hk2 hl7 hk3
       have c4n:∀k,k≤H.length∨k=J∨k=i3→¬QO c4 k:=fun k hk h=>by
        rcases hk with hk|hk|hk
        · have:=hi4 k h;omega
        · have:=hi4 k h;omega
        · exact hd34 i3 rfl (hk▸h)
       have hJ7:look H7 J gJ=some ⟨gJ,5,[.f (.int .i64 q.task.size), .f (Qf q.task.given), .f (Va eR q.task.rules), .own i3 g3 0 q.put.length none,c4]⟩:=by
        unfold look at*
        rw[hk1 J (by omega) (c4n J (by omega))];exact hJ
       have hid7:∀k,QO c' k→H.length<k∧k≠J:=fun k hk=>by
        rcases hk2 k hk with h|h
        · exact hi4 k h
        · omega
       simp(maxSteps:=999999)(disch:=omega)only[go_sem,zA,zM,zS,zE,zL,hJ7]
       refine⟨(⟨q.task,q.put,q.moves++q.moves⟩, .own i3 g3 0 q.put.length none,c',H7.set J (some ⟨gJ,5,[.f (.int .i64 q.task.size), .f (Qf q.task.given), .f (Va eR q.task.rules), .own i3 g3 0 q.put.length none,c']⟩)),⟨⟨hs, ?_, ?_⟩, ?_⟩,J0.refl _⟩
       · show q.put.length≤16
         omega
       · simp;omega
       · have k3':look H7 i3 g3=some ⟨g3,1,cl (eI .i64) q.put⟩:=by
          unfold look at*
          rw[hk1 i3 (by omega) (c4n i3 (by omega))];exact k3
         exact{out:=by
                rw[J5 (by omega)]
                unfold look at*
                rw[hk1 _ (by omega) (c4n _ (by omega))];exact hout
               cell:=JU (by omega)
               f3:=fun X hX=>Nj (HI:=H7.set J (some ⟨gJ,5,[.f (.int .i64 q.task.size), .f (Qf q.task.given), .f (Va eR q.task.rules), .own i3 g3 0 q.put.length none,c']⟩)) (by rw[J5 (by omega)];exact k3') (by omega) hX
               f4:=fun X hX=>ZV.frzT (HI:=H7.set J (some ⟨gJ,5,[.f (.int .i64 q.task.size), .f (Qf q.task.given), .f (Va eR q.task.rules), .own i3 g3 0 q.put.length none,c']⟩)) (hO.same fun i hi _=>by rw[Ji (Ne.symm (hid7 i hi).2)]) (fun k hk=>(hid7 k hk).1) hX
               rd:=(q2.rd.mono (by omega)).same (by rw[Ji (by omega),hk1 _ (by omega) (c4n _ (by omega))])
               lt:=hlt,ln:=by rw[Jo];omega
               frm:=fun k hk hne=>by rw[Ji (by omega),hk1 _ (by omega) (c4n _ (by omega))];exact q2.frm k hk hne}
   · rintro⟨q,c3,c4,HF⟩ ⟨hq,hE⟩
     simp only at hq hE
     have hJ:=hE.cell
     have ho:=hE.out
     have hln:=hE.ln
     have hS:∀b,look (HF.set H.length (some ⟨g4,5,b⟩)) H.length g4=some ⟨g4,5,b⟩:=fun b=>JU (by omega)
     refine Ua _ _ _ _ ?_
     simp(maxSteps:=999999)(disch:=omega)only[go_sem,zA,zM,zS,zE,zL,hJ,ho,hS]
     refine⟨_,J0.refl _,q,c3,c4,rfl,hE.f3 _ fun i hi=> ?_,hE.f4 _ fun i hi=> ?_,hq,(hE.rd.mono (by omega)).same (by rw[Ji (by omega)]),by rw[Jo];omega,fun k hk hn=> ?_⟩
     · rw[Ji (by omega)]
     · rw[Ji (by omega)]
     · rw[Ji (by omega)]
       exact hE.frm k hk hn
end Go.Lg

namespace Go.Lg
open Go.Proofs
attribute [-go_sem] J9 JE
theorem Fc(code:List Int)(hb:∀x∈code,0≤x∧x≤255)(hl:code.length≤2^40):Jn Tryz.prog 8 [rsl (eI .u8) code] [] (fun v _=>dGam v):=by
 refine Jn.cw (c:=_) Tryz.func8 rfl (n:=6) Tryz.ntmps8 (rs:=[.cell 2 28]) rfl ?_
 simp only[Je,Jf,zA,zS,Jd,Ja,Jc]
 simp(maxSteps:=999999)(disch:=omega)only[go_sem,zA,zM,zS,zE,zL]
 intro g4
 refine JY.mkRd (JcQ code hb hl) (⟨_,Tryz.func36,rfl,rfl⟩:Jh Tryz.prog 36) rfl rfl rfl ?_
 intro g H1 r1 hl1
 simp(maxSteps:=999999)(disch:=omega)only[go_sem,zA,zM,zS,zE,zL]
 refine JY.run (JcR _ 1 g 0 9 r1 (by omega) (by omega)) (⟨_,Tryz.func35,rfl,rfl⟩:Jh Tryz.prog 35) rfl rfl ?_
 rintro _ H2 ⟨⟨q,rfl,hq⟩,r2,f2⟩
 have h4:look H2 0 g4=some ⟨g4,5,[.f (.int .i64 0), .f .nil, .f .nil, .f .nil, .f .nil]⟩:=by rw[f2.look (by simp)];exact VI
 have hS:∀b,look (H2.set 0 (some ⟨g4,5,b⟩)) 0 g4=some ⟨g4,5,b⟩:=fun b=>JU (Jg.1 (JJ h4).1).1
 simp(maxSteps:=999999)(disch:=omega)only[go_sem,zA,zM,zS,zE,zL,h4,hS]
 exact⟨_,J0.refl _,q,rfl,hq⟩
end Go.Lg

namespace Go.Lg
open Go.Proofs
attribute [-go_sem] J9 JE
theorem Jgy{q:ZF}(hq:JaY q):(JK q).length≤16:=by
 cases hv:Qo q with
 |true=>exact Wo hv
 |false=>unfold JK;rw[hv];simp
end Go.Lg

namespace Go.Lg
open Go.Proofs
attribute [-go_sem] J9 JE
inductive Bx(H:Jm):CV→List Int→List Nat→Prop where
 |z (xs:List Int):Bx H (.f (Qf xs)) xs []
 |e (c:CV) (xs:List Int) (S:List Nat) (h:Z2 H c xs S):Bx H c xs S
theorem Bx.frzC{H:Jm}{c:CV}{xs:List Int}{S:List Nat}(h:Bx H c xs S):Lg.frzC H c=some (.f (Qf xs)):=by
 cases h with
 |z xs=>rfl
 |e c xs S h=>exact h.frzC
theorem Bx.same{H H':Jm}{c:CV}{xs:List Int}{S:List Nat}(h:Bx H c xs S)(hs:∀i∈S,H'[i]? =H[i]?):Bx H' c xs S:=by
 cases h with
 |z xs=>exact .z _
 |e c xs S h=>exact .e _ _ _ (h.same hs)
theorem Bx.shift{H0 H:Jm}{c:CV}{xs:List Int}{S:List Nat}(h:Bx H c xs S):Bx (H0++Q2 H0.length H) (Uc H0.length c) xs (S.map (· +H0.length)):=by
 cases h with
 |z xs=>exact .z _
 |e c xs S h=>exact .e _ _ _ h.shift
theorem Bx.lt{H:Jm}{c:CV}{xs:List Int}{S:List Nat}(h:Bx H c xs S):∀i∈S,i<H.length:=by
 cases h with
 |z xs=>simp
 |e c xs S h=>exact h.lt
theorem Bx.frzI{S:Nat→Bool}{H:Jm}{c:CV}{xs:List Int}{T:List Nat}(h:Bx H c xs T)(hs:∀k∈T,S k=true):Lg.frzS S H 6 c=some (Qf xs):=by
 cases h with
 |z xs=>
  show some (F0 (.sl xs.length (fl (eI .i64) xs)))=_
  rw[GL,R6]
 |e c xs S h=>
  obtain⟨t,t'⟩:=h.toL
  exact t.frzI fun k hk=>hs k (t' k hk)
section
variable{P:Program}{o:Oper}{st:St}{K:KV}{fo:Operand}{xs:Array Operand}{ts:Array TypeId}{f:FuncId}{args args':List AV}
end
set_option maxHeartbeats 4000000 in
theorem FQ(code:List Int)(hl:code.length≤9223372036854775807)(hw:∀x∈code,(Lit.int .u8 x).wf=true):JW Tryz.prog 3 [rsl (eI .u8) code] (bool true):=by
 refine Jn.cw (c:=_) Tryz.func3 rfl (n:=43) Tryz.ntmps3 (rs:=[.tmp 2]) rfl ?_
 simp only[Je,Jf,zA,zS,Jd,Ja,Jc]
 simp(maxSteps:=999999)(disch:=omega)only[go_sem,zA,zM,zS,zE,zL]
 ((first|(with_reducible first|refine Jl ?_ ?_|refine Jj ?_ ?_|refine Jp ?_ ?_)|refine Jr ?_ ?_)<;>intro h1)
 · simp(maxSteps:=999999)(disch:=omega)only[go_sem,zA,zM,zS,zE,zL]
 simp(maxSteps:=999999)(disch:=omega)only[go_sem,zA,zM,zS,zE,zL]
 refine JY.mkF (Fc code (Jla hw) (by omega)) (⟨_,Tryz.func8,rfl,rfl⟩:Jh Tryz.prog 8) rfl rfl rfl ?_
 rintro _ ⟨q,rfl,hq⟩
 refine⟨rfl,rfl, ?_⟩
 have hs:=hq.sm
 have hgl:=Jgy hq
 have hbb:decide (JK q=JK q)=true:=decide_eq_true rfl
 simp(maxSteps:=999999)(disch:=omega)only[go_sem,zA,zM,zS,zE,zL]
 intro g
 first|refine JY.mk (JW.ownI (Vm q hs)) (⟨_,Tryz.func9,rfl,rfl⟩:Jh Tryz.prog 9) rfl rfl rfl rfl rfl ?_|refine JM.mk (JW.ownI (Vm q hs)) (⟨_,Tryz.func9,rfl,rfl⟩:Jh Tryz.prog 9) rfl rfl rfl rfl rfl ?_
 simp(maxSteps:=999999)(disch:=omega)only[go_sem,zA,zM,zS,zE,zL]
 first|refine JY.mk (JW.ownI (Vs q hs)) (⟨_,Tryz.func11,rfl,rfl⟩:Jh Tryz.prog 11) rfl rfl rfl rfl rfl ?_|refine JM.mk (JW.ownI (Vs q hs)) (⟨_,Tryz.func11,rfl,rfl⟩:Jh Tryz.prog 11) rfl rfl rfl rfl rfl ?_
 simp(maxSteps:=999999)(disch:=omega)only[go_sem,zA,zM,zS,zE,zL]
 first|refine JY.rd (KX (JK q) (JK q) (by omega)) (⟨_,Tryz.func10,rfl,rfl⟩:Jh Tryz.prog 10) rfl rfl rfl rfl ?_|refine JM.rd (KX (JK q) (JK q) (by omega)) (⟨_,Tryz.func10,rfl,rfl⟩:Jh Tryz.prog 10) rfl rfl rfl rfl ?_
 simp(maxSteps:=999999)(disch:=omega)only[go_sem,zA,zM,zS,zE,zL]
 first|refine JY.rd (Zt q hs) (⟨_,Tryz.func12,rfl,rfl⟩:Jh Tryz.prog 12) rfl rfl rfl rfl ?_|refine JM.rd (Zt q hs) (⟨_,Tryz.func12,rfl,rfl⟩:Jh Tryz.prog 12) rfl rfl rfl rfl ?_
 simp(maxSteps:=999999)(disch:=omega)only[go_sem,zA,zM,zS,zE,zL]
 cases hv:Qo q with
 |false=>
  simp(maxSteps:=999999)(disch:=omega)only[go_sem,zA,zM,zS,zE,zL]
  first|refine JY.rd (Yv) (⟨_,Tryz.func14,rfl,rfl⟩:Jh Tryz.prog 14) rfl rfl rfl rfl ?_|refine JM.rd (Yv) (⟨_,Tryz.func14,rfl,rfl⟩:Jh Tryz.prog 14) rfl rfl rfl rfl ?_
  simp(maxSteps:=999999)(disch:=omega)only[go_sem,zA,zM,zS,zE,zL]
 |true=>
  obtain⟨n,hN⟩:=UJ.of hv
  simp(maxSteps:=999999)(disch:=omega)only[go_sem,zA,zM,zS,zE,zL]
  first|refine JY.rd (UQ q.task 2 hs.1) (⟨_,Tryz.func13,rfl,rfl⟩:Jh Tryz.prog 13) rfl rfl rfl rfl ?_|refine JM.rd (UQ q.task 2 hs.1) (⟨_,Tryz.func13,rfl,rfl⟩:Jh Tryz.prog 13) rfl rfl rfl rfl ?_
  simp(maxSteps:=999999)(disch:=omega)only[go_sem,zA,zM,zS,zE,zL]
  ((first|(with_reducible first|refine Jl ?_ ?_|refine Jj ?_ ?_|refine Jp ?_ ?_)|refine Jr ?_ ?_)<;>intro c1)
  rotate_left
  · simp(maxSteps:=999999)(disch:=omega)only[go_sem,zA,zM,zS,zE,zL]
    first|refine JY.rd (Yv) (⟨_,Tryz.func14,rfl,rfl⟩:Jh Tryz.prog 14) rfl rfl rfl rfl ?_|refine JM.rd (Yv) (⟨_,Tryz.func14,rfl,rfl⟩:Jh Tryz.prog 14) rfl rfl rfl rfl ?_
    simp(maxSteps:=999999)(disch:=omega)only[go_sem,zA,zM,zS,zE,zL]
  have hcw:=Jdj hN c1
  have e:WI q Un=Ys q:=GY hN
  simp(maxSteps:=999999)(disch:=omega)only[go_sem,zA,zM,zS,zE,zL]
  first|refine JY.mk (JW.ownGT (BB q Un hs (by decide))) (⟨_,Tryz.func15,rfl,rfl⟩:Jh Tryz.prog 15) rfl rfl rfl rfl rfl ?_|refine JM.mk (JW.ownGT (BB q Un hs (by decide))) (⟨_,Tryz.func15,rfl,rfl⟩:Jh Tryz.prog 15) rfl rfl rfl rfl rfl ?_
  simp(maxSteps:=999999)(disch:=omega)only[go_sem,zA,zM,zS,zE,zL]
  intro g5
  have hd:decide (WI q Un=[119,114,111,110,103])=decide (0<((Xw q.task (JK q)).length:Int)):=by
   rw[e]
   exact hcw
  rw[hd]
  first|refine JY.mk (JW.ownI (Kt q.task (JK q) hs.1 (by omega))) (⟨_,Tryz.func16,rfl,rfl⟩:Jh Tryz.prog 16) rfl rfl rfl rfl rfl ?_|refine JM.mk (JW.ownI (Kt q.task (JK q) hs.1 (by omega))) (⟨_,Tryz.func16,rfl,rfl⟩:Jh Tryz.prog 16) rfl rfl rfl rfl rfl ?_
  simp(maxSteps:=999999)(disch:=omega)only[go_sem,zA,zM,zS,zE,zL]
  trace_state
end Go.Lg
