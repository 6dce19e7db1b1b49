/- GpSH, GpBD, GpSJ, GpUB, cut to what is needed. -/
import Derived.Test.YtidekghnkifbjaaGreatDoorJed9
import Derived.Test.YtidekghnkifbjaaGreatDoorJeb5
import Derived.Test.YtidekghnkifbjaaGreatDoorJeb4
import Derived.Test.YtidekghnkifbjaaGreatDoorJed5
open List renaming getElem?_append_left → Ja, cons_append → Jb, nil_append → Jc, replicate → Jd, length_cons → Je, length_nil → Jf, getElem?_set_ne → Jg, getElem?_eq_some_iff → Jh, length_append → Jk, length_set → Jo, append_assoc → Jt, getElem?_eq_none → Jx, length_singleton → JL, drop_zero → JR, getElem?_take_of_lt → J1, mapM_cons → J4, mem_map → Qj, mapM_nil → Qw, length_replicate → QG
open Nat renaming reduceAdd→zA,reduceMul→zM,reduceSub→zS,reduceEqDiff→zE,reduceLeDiff→zL
set_option linter.unusedSimpArgs false
set_option linter.unusedVariables false
set_option maxRecDepth 100000
namespace Go.Lg
open Go.Proofs
attribute [-go_sem] J9 Jv
section
variable{P:Program}{o:Oper}{st:St}{K:KV}{fo:Operand}{xs:Array Operand}{ts:Array TypeId}{f:FuncId}{args args':List AV}
theorem JZ.mkGL{q:QZ}{t:List UInt8}(hc:Jn P f args [] (XO q (WU t)))(he:Ji P f)(ho:o.op= .call ⟨.value fo,xs,ts⟩)(ha:Qc st fo xs=some (f,args))(hf:args.all Q2=true)
 (hk:∀c3 c4 H' S3 S4,Ub (st.h++H') c3 q.put S3→Ub (st.h++H') c4 q.moves S4→(∀k∈S3,k∉S4)→(∀i∈S3,st.h.length≤i∧i<st.h.length+H'.length)→(∀i∈S4,st.h.length≤i∧i<st.h.length+H'.length)→
   K (.tup [.agg [.f (.int .i64 q.task.size), .f (J5 q.task.given), .f (Uu eR q.task.rules),c3,c4],WU t]) (st.h++H')):JZ P o st K:=
 JZ.mkQ hc he ho ha hf fun r H' ⟨c3,c4,h1,S3,S4,h3,h4,hd⟩=>by
  subst h1
  refine⟨rfl,hk _ _ _ _ _ h3.shift h4.shift (fun k hk hm=> ?_) (by rw[QQ];exact Ug h3.lt) (by rw[QQ];exact Ug h4.lt)⟩
  obtain⟨a,ha,rfl⟩:=Qj.1 hk
  obtain⟨b,hb,he⟩:=Qj.1 hm
  have:b=a:=by omega
  subst this
  exact hd b ha hb
theorem JK.mkGL{ops:Array Oper}{s:List AV}{H:Jm}{q:QZ}{t:List UInt8}(hc:Jn P f args [] (XO q (WU t)))(he:Ji P f)(ho:o.op= .call ⟨.value fo,xs,ts⟩)(ha:Qc ⟨s,H⟩ fo xs=some (f,args))(hf:args.all Q2=true)
 (hk:∀c3 c4 H' S3 S4,Ub (H++H') c3 q.put S3→Ub (H++H') c4 q.moves S4→(∀k∈S3,k∉S4)→(∀i∈S3,H.length≤i∧i<H.length+H'.length)→(∀i∈S4,H.length≤i∧i<H.length+H'.length)→
   K (.tup [.agg [.f (.int .i64 q.task.size), .f (J5 q.task.given), .f (Uu eR q.task.rules),c3,c4],WU t]) (H++H')):JK P ops o s H K:=
 JK.call ho ha fun s' ha'=>JZ.mkGL (st:=⟨s',H⟩) hc he ho ha' hf hk
end
structure GmE(H HI:Jm)(id g:Nat)(B:Int)(g4 J gJ:Nat)(q:QZ)(c3 c4:CV):Prop where
 out:look HI H.length g4=some ⟨g4,5,[.f (.int .i64 0), .f .nil, .f .nil, .f .nil, .f .nil]⟩
 cell:look HI J gJ=some ⟨gJ,5,[.f (.int .i64 q.task.size), .f (J5 q.task.given), .f (Uu eR q.task.rules),c3,c4]⟩
 f3:∀X:Jm,(∀i,H.length<i→X[i]? =HI[i]?)→frzS (Z8 H.length) X 6 c3=some (J5 q.put)
 f4:∀X:Jm,(∀i,H.length<i→X[i]? =HI[i]?)→frzS (Z8 H.length) X 6 c4=some (J5 q.moves)
 rd:Zm HI id g B
 lt:id<H.length
 ln:H.length<J∧J<HI.length
 frm:∀k,k<H.length→k≠id→HI[k]? =H[k]?
theorem Zq.frzT{H HI X:Jm}{c:CV}{xs:List Int}(h:Zq (eI .i64) 1 HI c xs)(hi:∀k,QJ c k→H.length<k)(hs:∀i,H.length<i→X[i]? =HI[i]?):Lg.frzS (Z8 H.length) X 6 c=some (J5 xs):=by
 refine(h.same (H':=X) fun i hi' _=>hs i (hi i hi')).frzI fun k hk=> ?_
 have:=hi k hk
 simp[Z8];omega
theorem NM{H HI X:Jm}{gid gg:Nat}{zs:List Int}(p1:look HI gid gg=some ⟨gg,1,cl (eI .i64) zs⟩)(h0:H.length<gid)(hs:∀i,H.length<i→X[i]? =HI[i]?):frzS (Z8 H.length) X 6 (.own gid gg 0 zs.length none)=some (J5 zs):=by
 have:=Ra (H:=H) (H':=X) (off:=0) (k:=zs.length) p1 h0 (fun i hi _=>hs i hi) (by omega)
 rwa [JR,List.take_length]at this
theorem GmI.toE{H HI:Jm}{id g g4 J gJ:Nat}{B:Int}{q:QZ}{c3 c4:CV}(h:GmI H HI id g B g4 J gJ q c3 c4):GmE H HI id g B g4 J gJ q c3 c4:=
 {out:=h.out,cell:=h.cell,rd:=h.rd,lt:=h.lt,ln:=h.ln,frm:=h.frm
  f3:=fun X hs=>h.k3.frzT (fun k hk=>(h.i3 k hk).1) hs
  f4:=fun X hs=>h.k4.frzT (fun k hk=>(h.i4 k hk).1) hs}
set_option maxHeartbeats 8000000 in
theorem F3(H:Jm)(id g:Nat)(B kk:Int)(hr:Zm H id g B)(hB:B≤2^35)(hkk:kk≤1000):Jn Tryz.prog 35 [.c (.ptr id g 0),int kk] H (gamDQ H id g B):=by
 have hlt:=hr.lt
 refine Jn.iceS (Q':=fun v H'=>∃(q:QZ) (c3 c4:CV),v= .agg [.f (.int .i64 q.task.size), .f (J5 q.task.given), .f (Uu eR q.task.rules),c3,c4]∧frzS (Z8 H.length) H' 6 c3=some (J5 q.put)∧frzS (Z8 H.length) H' 6 c4=some (J5 q.moves)∧Rg q∧Zm H' id g (B+700)∧H.length≤H'.length∧∀k,k<H.length→k≠id→H'[k]? =H[k]?) ?_ ?_
 rotate_left
 · rintro v H' ⟨q,c3,c4,rfl,h1,h2,h3,h5,h6,h7⟩
   refine⟨Z8 H.length,H'.take H.length,aG q,Xf _ _, .o _ _ (.agg _ _ rfl fun j hj=> ?_),⟨q,rfl,h3⟩,h5.take hlt,by simp;omega,fun i hi=> ?_⟩
   · have hj:j<5:=hj
     match j,hj with
     |0,_=>exact⟨_,rfl,KA⟩
     |1,_=>exact⟨_,rfl,KA⟩
     |2,_=>exact⟨_,rfl,KA⟩
     |3,_=>exact⟨_,rfl,KB h1⟩
     |4,_=>exact⟨_,rfl,KB h2⟩
   · by_cases hi':i<H.length
     · rw[J1 hi',h7 i hi' (by simpa using hi)]
     · rw[List.getElem?_take_eq_none (by omega),Jx (by omega)]
 refine Jn.ofR (c:=_) Tryz.func35 rfl (n:=67) Tryz.ntmps35 (rs:=[.cell 4 28]) rfl ?_
 simp only[Je,Jf,zA,zS,Jd,Jb,Jc]
 refine QH.cutN 3 (fun a:Nat×Nat×Nat×QZ×CV×CV×Jm=>smD a.2.2.2.1.task∧(∃n,Z1 a.2.2.2.1 n)∧GmI H a.2.2.2.2.2.2 id g (B+500) a.1 a.2.1 a.2.2.1 a.2.2.2.1 a.2.2.2.2.1 a.2.2.2.2.2.1) (fun a=>[.k, .k, .a, .a, .p (.c (.ptr H.length a.1 0)), .p (.c (.ptr a.2.1 a.2.2.1 0)), .a, .a, .a, .a, .a, .a, .a, .a, .a, .a, .a, .a, .a, .a, .a, .a, .a, .a, .a, .a, .a, .a, .a, .a, .a, .a, .a, .a, .a, .a, .a, .a, .a, .a, .a, .a, .a, .a, .a, .a, .a, .a, .a, .a, .a, .a, .a, .a, .a, .a, .a, .a, .a, .a, .a, .a, .a, .a, .a, .a, .a]) (fun a=>a.2.2.2.2.2.2) ?_ ?_
 · simp(maxSteps:=999999)(disch:=omega)only[go_sem,zA,zM,zS,zE,zL,Qf,Qm,QS,QF,Jt,Jb,Jc,Jk]
   intro g4
   refine JZ.run (Nv _ id g B 0 hr.app (by omega) (by omega)) (⟨_,Tryz.func84,rfl,rfl⟩:Ji Tryz.prog 84) rfl rfl ?_
   rintro _ H1 ⟨⟨p,rfl,hp1,hp2,hpv⟩,r1,f1⟩
   have hpv:=hpv (by omega)
   have hsm:smD p:=⟨hp1,hp2⟩
   replace f1:Vi (H++[some ⟨g4,5,[.f (.int .i64 0), .f .nil, .f .nil, .f .nil, .f .nil]⟩]) H1 [id]:=f1
   have l1:H1.length=H.length+1:=by rw[f1.1];simp
   have ho1:look H1 H.length g4=some ⟨g4,5,[.f (.int .i64 0), .f .nil, .f .nil, .f .nil, .f .nil]⟩:=by rw[f1.look (by simp;omega)];exact JC
   simp(maxSteps:=999999)(disch:=omega)only[go_sem,zA,zM,zS,zE,zL]
   refine JZ.mkQ (JcN p hsm.sm hpv) (⟨_,Tryz.func83,rfl,rfl⟩:Ji Tryz.prog 83) rfl rfl rfl ?_
   rintro _ H2 ⟨i2,g2,rfl,k2⟩
   refine⟨rfl, ?_⟩
   have k2:=Up (H0:=H1) k2
   simp only[ZJ,VZ]at k2
   obtain⟨HK,hHK⟩:∃HK:Jm,HK=H1++Q7 H1.length H2:=⟨_,rfl⟩
   show vwK _ _ _ _ _ _ (.agg [.f (.int .i64 p.size), .f (J5 p.given), .f (Uu eR p.rules), .own (i2+H1.length) g2 0 p.given.length none, .f .nil]) (H1++Q7 H1.length H2)
   rw[←hHK]at k2⊢
   have lK:H1.length≤HK.length:=by rw[hHK];simp
   have gK:∀k,k<H1.length→HK[k]? =H1[k]? :=fun k hk=>by rw[hHK,Ja hk]
   clear hHK
   simp(maxSteps:=999999)(disch:=omega)only[go_sem,zA,zM,zS,zE,zL]
   intro gJ
   simp(maxSteps:=999999)(disch:=omega)only[go_sem,zA,zM,zS,zE,zL,JC,QM]
   have hn:=Ux.of hpv
   have ho2:look HK H.length g4=some ⟨g4,5,[.f (.int .i64 0), .f .nil, .f .nil, .f .nil, .f .nil]⟩:=by unfold look at*;rw[gK _ (by omega)];exact ho1
   have i2lt:=(Jh.1 (JG k2).1).1
   have k2':Zq (eI .i64) 1 HK (.own (i2+H1.length) g2 0 p.given.length none) (Jd p.given.length 0):=by
    have:=Zq.o (E:=eI .i64) (n:=1) (i2+H1.length) g2 (Jd p.given.length 0) k2
    rwa [QG]at this
   have q0:GmI H (HK++[some ⟨gJ,5,[.f (.int .i64 p.size), .f (J5 p.given), .f (Uu eR p.rules), .own (i2+H1.length) g2 0 p.given.length none, .f .nil]⟩]) id g (B+400) g4 HK.length gJ ⟨p,Jd p.given.length 0,[]⟩ (.own (i2+H1.length) g2 0 p.given.length none) (.f .nil):=
    {out:=JO ho2
     cell:=JC
     k3:=k2'.app
     k4:= .n
     d34:=fun k _ h=>h
     i3:=fun k hk=>by have:k=i2+H1.length:=hk;omega
     i4:=fun k hk=>hk.elim
     rd:=(r1.same (gK _ (by omega))).app
     lt:=hlt,ln:=by simp;omega
     frm:=fun k hk hne=>by rw[Ja (by omega),gK _ (by omega),f1.2 k (by simpa using hne),Ja hk]}
   have hgam:∃n,Z1 ⟨p,Jd p.given.length 0,[]⟩ n:=by
    have h:=(JgE hpv).1
    have e:Xt p=⟨p,Jd p.given.length 0,[]⟩:=by unfold Xt;rw[if_pos hpv]
    rw[e]at h
    exact Z1.of h
   refine JZ.run (QR _ id g (B+400) 8 q0.rd (by omega)) (⟨_,Tryz.func68,rfl,rfl⟩:Ji Tryz.prog 68) rfl rfl ?_
   rintro _ H3 ⟨⟨y,rfl,y0,y1⟩,r3,f3⟩
   have y1:=y1 (by omega)
   have q1:=q0.pick r3 f3
   obtain⟨yn,rfl⟩:∃yn:Nat,y=yn:=⟨y.toNat,by omega⟩
   simp(maxSteps:=999999)(disch:=omega)only[go_sem,zA,zM,zS,zE,zL]
   refine Qp (fun(k:Nat) (b:QZ×CV×CV×Jm)=>k) (fun k b=>k≤7∧smD b.1.task∧(∃n,Z1 b.1 n)∧GmI H b.2.2.2 id g (B+490 -10*k) g4 HK.length gJ b.1 b.2.1 b.2.2.1) (fun k b=>[.k, .k, .a, .a, .k, .k, .p (int k), .a, .a, .a, .a, .a, .a, .a, .a, .a, .a, .a, .a, .a, .a, .a, .a, .a, .a, .a, .a, .a, .a, .a, .a, .a, .a, .a, .a, .a, .a, .a, .a, .a, .a, .a, .a, .a, .a, .a, .a, .a, .a, .a, .a, .a, .a, .a, .a, .a, .a, .a, .a, .a, .a, .a, .a, .a, .a, .a, .a]) (fun k b=>b.2.2.2) yn (⟨p,Jd p.given.length 0,[]⟩, .own (i2+H1.length) g2 0 p.given.length none, .f .nil,H3)
    ⟨by omega,hsm,hgam,q1.mono (by omega)⟩ (by simp(maxSteps:=999999)(disch:=omega)only[go_sem,zA,zM,zS,zE,zL]) (J0.refl _) ?_
   rintro k ⟨q,c3,c4,HI⟩ ⟨hk,hs,⟨n,hN⟩,hI⟩
   simp only at hs hN hI
   simp(maxSteps:=999999)(disch:=omega)only[go_sem,zA,zM,zS,zE,zL]
   ((first|(with_reducible first|refine Jl ?_ ?_|refine Jj ?_ ?_|refine Jp ?_ ?_)|refine Jr ?_ ?_)<;>intro c1)
   rotate_left
   · simp(maxSteps:=999999)(disch:=omega)only[go_sem,zA,zM,zS,zE,zL]
     exact⟨(g4,HK.length,gJ,q,c3,c4,HI),⟨hs,⟨n,hN⟩,hI.mono (by omega)⟩,by simp,J0.refl _⟩
   obtain⟨k,rfl⟩:∃k',k=k'+1:=⟨k -1,by omega⟩
   simp(maxSteps:=999999)(disch:=omega)only[go_sem,zA,zM,zS,zE,zL]
   obtain⟨S,HX,hice,hXl,hF⟩:=hI.ice
   refine Jbi S hice ?_
   have hln:=hF.ln
   have hlX:=hF.lt
   have hM:∀X:Jm,X[HK.length]? =HX[HK.length]?→look (Zg (ZS id HX.length HX.length) X) HK.length gJ=some ⟨gJ,5,cG q⟩:=fun X hX=>by
    rw[Ur (U7 (by omega) (by omega))]
    have:=hF.cell
    unfold look at*
    rw[hX];exact this
   refine YO [0,1,2,3,4,5,6,7] [] none [8] 7 (ZS id HX.length HX.length) Zd (by kernel_rfl) ?_
   have hM0:=hM HX rfl
   have hl4:=hN.len
   iterate 3 (rw[Jv];simp(maxSteps:=999999)(disch:=omega)only[go_sem,zA,zM,zS,zE,zL,hM0])
   rw[Jv]
   simp(maxSteps:=999999)(disch:=omega)only[go_sem,zA,zM,zS,zE,zL]
   refine JK.run (RS HX id g _ 5 q hF.rd (by omega) (by omega) (hN.smG hs.sm) (by omega)) (⟨_,Tryz.func69,rfl,rfl⟩:Ji Tryz.prog 69) rfl rfl ?_
   rintro _ H4 ⟨⟨l,rfl,hll⟩,r4,f4⟩
   refine⟨ZR fun j b hj hb=>by
    have hjl:=(Jh.1 hb).1
    rw[f4.2 j (by simpa using(Vt hj hjl).1)];exact hb, ?_⟩
   simp(maxSteps:=999999)(disch:=omega)only[go_sem,zA,zM,zS,zE,zL]
   rw[Jv]
   simp(maxSteps:=999999)(disch:=omega)only[go_sem,zA,zM,zS,zE,zL]
   refine JK.mkGL (Rn q l (hN.smG hs.sm) (by omega) hN.valid) (⟨_,Tryz.func31,rfl,rfl⟩:Ji Tryz.prog 31) rfl rfl rfl ?_
   intro c3' c4' H5 S3 S4 k3 k4 n3 m3 m4
   refine⟨ZR fun j b hj hb=>by
    have hjl:=(Jh.1 hb).1
    rw[Ja hjl];exact hb, ?_⟩
   simp(maxSteps:=999999)(disch:=omega)only[go_sem,zA,zM,zS,zE,zL]
   iterate 3 (rw[Jv];simp(maxSteps:=999999)(disch:=omega)only[go_sem,zA,zM,zS,zE,zL])
   have e5:look (H4++H5) HK.length gJ=some ⟨gJ,5,cG q⟩:=by
    rw[XK (by rw[f4.1];omega),f4.look (by simp;omega)]
    exact hF.cell
   refine VJ rfl (.inr rfl) ?_
   simp(maxSteps:=999999)(disch:=omega)only[go_sem,zA,zM,zS,zE,zL,e5]
   have l4:=f4.1
   have hkeep:∀{X:Option Zv} {i:Nat},i≠HK.length→((H4++H5).set HK.length X)[i]? =(H4++H5)[i]? :=fun hi=>by rw[Jg (Ne.symm hi)]
   have hin:∀{i:Nat},i<HX.length→(H4++H5)[i]? =H4[i]? :=fun hi=>by rw[Ja (by omega)]
   obtain⟨t3,t3'⟩:=k3.toL
   obtain⟨t4,t4'⟩:=k4.toL
   refine⟨k,(QA q l,c3',c4',(H4++H5).set HK.length (some ⟨gJ,5,[.f (.int .i64 (QA q l).task.size), .f (J5 (QA q l).task.given), .f (Uu eR (QA q l).task.rules),c3',c4']⟩)),⟨⟨by omega,by rw[Fi hN.valid];exact hs,⟨n,Xs hN l⟩, ?_⟩,by omega⟩, ?_, ?_⟩
   · have hfo:=hF.out
     exact{out:=by
            have:look (H4++H5) H.length g4=look HX H.length g4:=by rw[XK (by omega),f4.look (by simp;omega)]
            rw[Zz (by omega),this];exact hfo
           cell:=JM (by simp;omega)
           k3:=t3.same fun i hi hl'=>hkeep (by have:=m3 i (t3' i hi);omega)
           k4:=t4.same fun i hi hl'=>hkeep (by have:=m4 i (t4' i hi);omega)
           d34:=fun i h3 h4=>n3 i (t3' i h3) (t4' i h4)
           i3:=fun i hi=>by have:=m3 i (t3' i hi);omega
           i4:=fun i hi=>by have:=m4 i (t4' i hi);omega
           rd:=(r4.app.same (hkeep (by omega))).mono (by omega)
           lt:=hlt,ln:=by rw[Jo];simp;omega
           frm:=fun i hi hne=>by rw[hkeep (by omega),hin (by omega),f4.2 i (by simpa using hne)];exact hF.frm i hi hne}
   · omega
   · exact J0.refl _
 · rintro⟨g4,J,gJ,q,c3,c4,HF⟩ ⟨hs,⟨n,hN⟩,hI⟩
   simp only at hs hN hI
   have hl:=hN.len
   refine QH.cutN 1 (fun a:QZ×CV×CV×Jm=>Rg a.1∧GmE H a.2.2.2 id g (B+600) g4 J gJ a.1 a.2.1 a.2.2.1) (fun a=>[.a, .a, .a, .a, .k, .k, .a, .a, .a, .a, .a, .a, .a, .a, .a, .a, .a, .a, .a, .a, .a, .a, .a, .a, .a, .a, .a, .a, .a, .a, .a, .a, .a, .a, .a, .a, .a, .a, .a, .a, .a, .a, .a, .a, .a, .a, .a, .a, .a, .a, .a, .a, .a, .a, .a, .a, .a, .a, .a, .a, .a, .a, .a, .a, .a, .a, .a]) (fun a=>a.2.2.2) ?_ ?_
   · simp(maxSteps:=999999)(disch:=omega)only[go_sem,zA,zM,zS,zE,zL]
     refine JZ.run (K4 HF id g (B+500) kk hI.rd (by omega) (by omega)) (⟨_,Tryz.func70,rfl,rfl⟩:Ji Tryz.prog 70) rfl rfl ?_
     rintro _ H1 ⟨⟨b,rfl,_⟩,r1,f1⟩
     have q1:=hI.pick r1 f1
     simp(maxSteps:=999999)(disch:=omega)only[go_sem,zA,zM,zS,zE,zL]
     ((first|(with_reducible first|refine Jl ?_ ?_|refine Jj ?_ ?_|refine Jp ?_ ?_)|refine Jr ?_ ?_)<;>intro c1)
     rotate_left
     · simp(maxSteps:=999999)(disch:=omega)only[go_sem,zA,zM,zS,zE,zL]
       have hsg:Rg q:=⟨hs,by omega,by omega⟩
       exact⟨(q,c3,c4,H1),⟨hsg,(q1.mono (by omega)).toE⟩,J0.refl _⟩
     simp(maxSteps:=999999)(disch:=omega)only[go_sem,zA,zM,zS,zE,zL]
     refine JZ.run (QR H1 id g (B+500+1) 4 q1.rd (by omega)) (⟨_,Tryz.func68,rfl,rfl⟩:Ji Tryz.prog 68) rfl rfl ?_
     rintro _ H2 ⟨⟨y,rfl,y0,y1⟩,r2,f2⟩
     have y1:=y1 (by omega)
     have q2:=(q1.pick r2 f2).mono (B':=B+510) (by omega)
     clear q1 r1 f1 r2 f2
     have hJ:=q2.cell
     have hln:=q2.ln
     have hne3:q.put≠[]:=fun h=>by rw[h]at hl;simp at hl
     obtain⟨i3,g3,rfl,k3⟩:∃i3 g3,c3= .own i3 g3 0 q.put.length none∧look H2 i3 g3=some ⟨g3,1,cl (eI .i64) q.put⟩:=by
      have h3:=q2.k3
      generalize q.put=ps at h3 hne3
      cases h3 with
      |n=>exact absurd rfl hne3
      |m=>exact absurd rfl hne3
      |o i3 g3 xs h=>exact⟨i3,g3,rfl,h⟩
     have hi3:=q2.i3 i3 rfl
     have hi3l:=(Jh.1 (JG k3).1).1
     have hout:=q2.out
     have h4:=q2.k4
     have hi4:=q2.i4
     have hd34:=q2.d34
     obtain⟨N3,hN3⟩:∃N,N=q.put.length:=⟨_,rfl⟩
     have hM:look (Zg (ZS id H2.length (H2.length+1)) H2) J gJ=some ⟨gJ,5,[.f (.int .i64 q.task.size), .f (J5 q.task.given), .f (Uu eR q.task.rules), .own i3 g3 0 q.put.length none,c4]⟩:=by
      rw[Ur (U7 (by omega) (by omega))];exact hJ
     have hok:∀X Y:Jm,Vi X Y [id]→X.length=H2.length→RM (ZS id H2.length (H2.length+1)) X Y:=fun X Y hf hX=>ZR fun j b hj hb=>by
      have hjl:=(Jh.1 hb).1
      rw[hf.2 j (by simpa using(Vt hj (by omega)).1)];exact hb
     have hoka:∀X Y:Jm,RM (ZS id H2.length (H2.length+1)) X (X++Y)=True:=fun X Y=>eq_true (ZR fun j b hj hb=>by
      have hjl:=(Jh.1 hb).1
      rw[Ja hjl];exact hb)
     simp(maxSteps:=999999)(disch:=omega)only[go_sem,zA,zM,zS,zE,zL]
     ((first|(with_reducible first|refine Jl ?_ ?_|refine Jj ?_ ?_|refine Jp ?_ ?_)|refine Jr ?_ ?_)<;>intro e0)
     · simp(maxSteps:=999999)(disch:=omega)only[go_sem,zA,zM,zS,zE,zL,hJ,k3]
       have hsl:UI Tryz.prog H2 23 (.c (.own i3 g3 0 q.put.length none)) (some (Int.toNat 1)) none none=some (.c (.own i3 g3 1 (q.put.length -1) none)):=by
        simp only[UI,UE,Kh,k3,Option.getD_none,Option.getD_some,Int.reduceToNat]
        rw[if_pos ⟨by omega,by omega,by rw[Qa];omega,by simp,trivial,by omega,by omega⟩]
       simp(maxSteps:=999999)(disch:=omega)only[go_sem,zA,zM,zS,zE,zL,hsl,hJ]
       refine⟨(⟨q.task,(q.put.drop 1).take (q.put.length -1),q.moves⟩, .own i3 g3 1 (q.put.length -1) none,c4,H2.set J (some ⟨gJ,5,[.f (.int .i64 q.task.size), .f (J5 q.task.given), .f (Uu eR q.task.rules), .own i3 g3 1 (q.put.length -1) none,c4]⟩)),⟨⟨hs, ?_, ?_⟩, ?_⟩,J0.refl _⟩
       · simp;omega
       · show q.moves.length≤40
         omega
       · exact{out:=by rw[J6 (by omega)];exact hout
               cell:=JM (by omega)
               f3:=fun X hX=>Ra (HI:=H2.set J (some ⟨gJ,5,[.f (.int .i64 q.task.size), .f (J5 q.task.given), .f (Uu eR q.task.rules), .own i3 g3 1 (q.put.length -1) none,c4]⟩)) (by rw[J6 (by omega)];exact k3) (by omega) (fun i hi _=>hX i hi) (by omega)
               f4:=fun X hX=>Zq.frzT (HI:=H2.set J (some ⟨gJ,5,[.f (.int .i64 q.task.size), .f (J5 q.task.given), .f (Uu eR q.task.rules), .own i3 g3 1 (q.put.length -1) none,c4]⟩)) (h4.same fun i hi _=>by rw[Jg (Ne.symm (hi4 i hi).2)]) (fun k hk=>(hi4 k hk).1) hX
               rd:=(q2.rd.mono (by omega)).same (by rw[Jg (by omega)])
               lt:=hlt,ln:=by rw[Jo];omega
               frm:=fun k hk hne=>by rw[Jg (by omega)];exact q2.frm k hk hne}
     simp(maxSteps:=999999)(disch:=omega)only[go_sem,zA,zM,zS,zE,zL]
     ((first|(with_reducible first|refine Jl ?_ ?_|refine Jj ?_ ?_|refine Jp ?_ ?_)|refine Jr ?_ ?_)<;>intro e1)
     · simp(maxSteps:=999999)(disch:=omega)only[go_sem,zA,zM,zS,zE,zL]
       refine Q3 [0,1,2,3,4,5] [] none [6,7,8] (ZS id H2.length (H2.length+1)) [0,1,0,4,12,28,63,127,255] Zd (by kernel_rfl) ?_
       iterate 3 (rw[Jv];simp(maxSteps:=999999)(disch:=omega)only[go_sem,zA,zM,zS,zE,zL,hM])
       rw[Jv]
       simp(maxSteps:=999999)(disch:=omega)only[go_sem,zA,zM,zS,zE,zL]
       refine JK.run (QR H2 id g _ 20 q2.rd (by omega)) (⟨_,Tryz.func68,rfl,rfl⟩:Ji Tryz.prog 68) rfl rfl ?_
       rintro _ H3 ⟨⟨u,rfl,u0,u1⟩,r3,f3⟩
       have u1:=u1 (by omega)
       refine⟨hok _ _ f3 rfl, ?_⟩
       have q3:=q2.pick r3 f3
       have l3:=f3.1
       simp(maxSteps:=999999)(disch:=omega)only[go_sem,zA,zM,zS,zE,zL]
       rw[Jv]
       simp(maxSteps:=999999)(disch:=omega)only[go_sem,zA,zM,zS,zE,zL]
       rw[Jv]
       simp(maxSteps:=999999)(disch:=omega)only[go_sem,zA,zM,zS,zE,zL,hoka]
       intro g9
       have q4:=q3.app (X:=[some ⟨g9,1,cl (eI .i64) [u -1]⟩])
       refine Xh (E:=eI .i64) (v:=u -1) (Qb UE rfl Kh) ⟨rfl,rfl,by decide,by decide⟩ q4.k4 (by omega) JC ?_
       intro c' H7 hO hk1 hk2 hl7 hk3
       rw[Jk,JL]at hk1 hk2 hl7
       have c4n:∀k,k≤H.length∨k=J∨k=i3→¬QJ c4 k:=fun k hk h=>by
        rcases hk with hk|hk|hk
        · have:=hi4 k h;omega
        · have:=hi4 k h;omega
        · exact hd34 i3 rfl (hk▸h)
       have e7:∀k,k<H3.length→¬QJ c4 k→H7[k]? =H3[k]? :=fun k hk hn=>by rw[hk1 k (by omega) hn,Ja hk]
       have hJ7:look H7 J gJ=some ⟨gJ,5,[.f (.int .i64 q.task.size), .f (J5 q.task.given), .f (Uu eR q.task.rules), .own i3 g3 0 q.put.length none,c4]⟩:=by
        have:=q3.cell
        unfold look at*
        rw[e7 J (by omega) (c4n J (by omega))];exact this
       have hid7:∀k,QJ c' k→H.length<k∧k≠J:=fun k hk=>by
        rcases hk2 k hk with h|h
        · exact hi4 k h
        · omega
       simp(maxSteps:=999999)(disch:=omega)only[go_sem,zA,zM,zS,zE,zL,hJ7]
       refine⟨(⟨q.task,q.put,q.moves++[u -1]⟩, .own i3 g3 0 q.put.length none,c',H7.set J (some ⟨gJ,5,[.f (.int .i64 q.task.size), .f (J5 q.task.given), .f (Uu eR q.task.rules), .own i3 g3 0 q.put.length none,c']⟩)),⟨⟨hs, ?_, ?_⟩, ?_⟩,J0.refl _⟩
       · show q.put.length≤16
         omega
       · simp;omega
       · have k3':look H7 i3 g3=some ⟨g3,1,cl (eI .i64) q.put⟩:=by
          have:look H3 i3 g3=some ⟨g3,1,cl (eI .i64) q.put⟩:=by rw[f3.look (by simp;omega)];exact k3
          unfold look at*
          rw[e7 i3 (by omega) (c4n i3 (by omega))];exact this
         exact{out:=by
                have:=q3.out
                rw[J6 (by omega)]
                unfold look at*
                rw[e7 _ (by omega) (c4n _ (by omega))];exact this
               cell:=JM (by omega)
               f3:=fun X hX=>NM (HI:=H7.set J (some ⟨gJ,5,[.f (.int .i64 q.task.size), .f (J5 q.task.given), .f (Uu eR q.task.rules), .own i3 g3 0 q.put.length none,c']⟩)) (by rw[J6 (by omega)];exact k3') (by omega) hX
               f4:=fun X hX=>Zq.frzT (HI:=H7.set J (some ⟨gJ,5,[.f (.int .i64 q.task.size), .f (J5 q.task.given), .f (Uu eR q.task.rules), .own i3 g3 0 q.put.length none,c']⟩)) (hO.same fun i hi _=>by rw[Jg (Ne.symm (hid7 i hi).2)]) (fun k hk=>(hid7 k hk).1) hX
               rd:=(q3.rd.mono (by omega)).same (by rw[Jg (by omega),e7 _ (by omega) (c4n _ (by omega))])
               lt:=hlt,ln:=by rw[Jo];omega
               frm:=fun k hk hne=>by rw[Jg (by omega),e7 _ (by omega) (c4n _ (by omega))];exact q3.frm k hk hne}
     simp(maxSteps:=999999)(disch:=omega)only[go_sem,zA,zM,zS,zE,zL]
     ((first|(with_reducible first|refine Jl ?_ ?_|refine Jj ?_ ?_|refine Jp ?_ ?_)|refine Jr ?_ ?_)<;>intro e2)
     · simp(maxSteps:=999999)(disch:=omega)only[go_sem,zA,zM,zS,zE,zL]
       have hM3:look (Zg (ZS id H2.length (H2.length+1)) H2) i3 g3=some ⟨g3,1,cl (eI .i64) q.put⟩:=by
        rw[Ur (U7 (by omega) (by omega))];exact k3
       refine Q3 [0,1,2,3,4,5,7,8,6,9,10,11] [7] none [12,13] (ZS id H2.length (H2.length+1)) [0,1,0,0,8,24,60,0,0,380,1020,2044,4095,8191] Zd (by kernel_rfl) ?_
       iterate 6 (rw[Jv];simp(maxSteps:=999999)(disch:=omega)only[go_sem,zA,zM,zS,zE,zL,hM])
       rw[Jv]
       simp(maxSteps:=999999)(disch:=omega)only[go_sem,zA,zM,zS,zE,zL,hM3]
       rw[Jv]
       simp(maxSteps:=999999)(disch:=omega)only[go_sem,zA,zM,zS,zE,zL]
       rw[Jv]
       simp(maxSteps:=999999)(disch:=omega)only[go_sem,zA,zM,zS,zE,zL]
       refine JK.run (QR H2 id g _ q.put.length q2.rd (by omega)) (⟨_,Tryz.func68,rfl,rfl⟩:Ji Tryz.prog 68) rfl rfl ?_
       rintro _ H3 ⟨⟨u,rfl,u0,u1⟩,r3,f3⟩
       have u1:=u1 (by omega)
       refine⟨hok _ _ f3 rfl, ?_⟩
       have q3:=q2.pick r3 f3
       have l3:=f3.1
       simp(maxSteps:=999999)(disch:=omega)only[go_sem,zA,zM,zS,zE,zL]
       rw[Jv]
       simp(maxSteps:=999999)(disch:=omega)only[go_sem,zA,zM,zS,zE,zL]
       refine JK.run (QR H3 id g _ 3 q3.rd (by omega)) (⟨_,Tryz.func68,rfl,rfl⟩:Ji Tryz.prog 68) rfl rfl ?_
       rintro _ H4 ⟨⟨v,rfl,v0,v1⟩,r4,f4⟩
       have v1:=v1 (by omega)
       refine⟨hok _ _ f4 (by omega), ?_⟩
       have q4:=q3.pick r4 f4
       have l4:=f4.1
       obtain⟨un,rfl⟩:∃un:Nat,u=un:=⟨u.toNat,by omega⟩
       have k3':look H4 i3 g3=some ⟨g3,1,cl (eI .i64) q.put⟩:=by rw[f4.look (by simp;omega),f3.look (by simp;omega)];exact k3
       simp(maxSteps:=999999)(disch:=omega)only[go_sem,zA,zM,zS,zE,zL]
       have fin:∀w:Int,∃a:QZ×CV×CV×Jm,(Rg a.1∧GmE H a.2.2.2 id g (B+600) g4 J gJ a.1 a.2.1 a.2.2.1)∧a.2.2.2=H4.set i3 (some ⟨g3,1,cl (eI .i64) (q.put.set un w)⟩):=fun w=>by
        refine⟨(⟨q.task,q.put.set un w,q.moves⟩, .own i3 g3 0 q.put.length none,c4,H4.set i3 (some ⟨g3,1,cl (eI .i64) (q.put.set un w)⟩)),⟨⟨hs, ?_, ?_⟩, ?_⟩,rfl⟩
        · show(q.put.set un w).length≤16
          rw[Jo];omega
        · show q.moves.length≤40
          omega
        · have q4o:=q4.out
          have q4c:=q4.cell
          exact{out:=by rw[J6 (by omega)];exact q4o
                cell:=by rw[J6 (by omega)];exact q4c
                f3:=fun X hX=>by
                 have:=NM (H:=H) (X:=X) (HI:=H4.set i3 (some ⟨g3,1,cl (eI .i64) (q.put.set un w)⟩)) (JM (by omega)) (by omega) hX
                 rwa [Jo]at this
                f4:=fun X hX=>Zq.frzT (HI:=H4.set i3 (some ⟨g3,1,cl (eI .i64) (q.put.set un w)⟩)) (q4.k4.same fun i hi _=>by rw[Jg (fun he=>hd34 i3 rfl (by rw[he];exact hi))]) (fun k hk=>(hi4 k hk).1) hX
                rd:=(q4.rd.mono (by omega)).same (by rw[Jg (by omega)])
                lt:=hlt,ln:=by rw[Jo];omega
                frm:=fun k hk hne=>by rw[Jg (by omega)];exact q4.frm k hk hne}
       have hset:∀w:Int,Qk (cl (eI .i64) q.put) (0+un*1) [.f (.int .i64 w)]=cl (eI .i64) (q.put.set un w):=fun w=>Vj (E:=eI .i64) (by omega)
       obtain⟨vn,rfl⟩:∃vn:Nat,v=vn:=⟨v.toNat,by omega⟩
       obtain⟨L3,hL3,hl3⟩:∃L3:List Int,FV.sl 3 [.int .i64 (-1), .int .i64 1, .int .i64 9]=J5 L3∧L3.length=3:=⟨[-1,1,9],rfl,rfl⟩
       rw[hL3]
       obtain⟨a,ha,he⟩:=fin (JA L3 vn)
       iterate 2 (rw[Jv];simp(maxSteps:=999999)(disch:=omega)only[go_sem,zA,zM,zS,zE,zL])
       simp(maxSteps:=999999)(disch:=omega)only[go_sem,zA,zM,zS,zE,zL,k3',hset]
       exact⟨a,ha,by rw[he];exact J0.refl _⟩
     · simp(maxSteps:=999999)(disch:=omega)only[go_sem,zA,zM,zS,zE,zL,hJ]
       refine Ws (E:=eI .i64) (xs:=q.moves) (ys:=q.moves) (Qb UE rfl Kh) ⟨rfl,rfl,by decide,by decide⟩ h4 ⟨by omega,by omega⟩ (Jk4 h4) ?_
       intro c' H7 hO hk1 hk2 hl7 hk3
       have c4n:∀k,k≤H.length∨k=J∨k=i3→¬QJ c4 k:=fun k hk h=>by
        rcases hk with hk|hk|hk
        · have:=hi4 k h;omega
        · have:=hi4 k h;omega
        · exact hd34 i3 rfl (hk▸h)
       have hJ7:look H7 J gJ=some ⟨gJ,5,[.f (.int .i64 q.task.size), .f (J5 q.task.given), .f (Uu eR q.task.rules), .own i3 g3 0 q.put.length none,c4]⟩:=by
        unfold look at*
        rw[hk1 J (by omega) (c4n J (by omega))];exact hJ
       have hid7:∀k,QJ c' k→H.length<k∧k≠J:=fun k hk=>by
        rcases hk2 k hk with h|h
        · exact hi4 k h
        · omega
       simp(maxSteps:=999999)(disch:=omega)only[go_sem,zA,zM,zS,zE,zL,hJ7]
       refine⟨(⟨q.task,q.put,q.moves++q.moves⟩, .own i3 g3 0 q.put.length none,c',H7.set J (some ⟨gJ,5,[.f (.int .i64 q.task.size), .f (J5 q.task.given), .f (Uu eR q.task.rules), .own i3 g3 0 q.put.length none,c']⟩)),⟨⟨hs, ?_, ?_⟩, ?_⟩,J0.refl _⟩
       · show q.put.length≤16
         omega
       · simp;omega
       · have k3':look H7 i3 g3=some ⟨g3,1,cl (eI .i64) q.put⟩:=by
          unfold look at*
          rw[hk1 i3 (by omega) (c4n i3 (by omega))];exact k3
         exact{out:=by
                rw[J6 (by omega)]
                unfold look at*
                rw[hk1 _ (by omega) (c4n _ (by omega))];exact hout
               cell:=JM (by omega)
               f3:=fun X hX=>NM (HI:=H7.set J (some ⟨gJ,5,[.f (.int .i64 q.task.size), .f (J5 q.task.given), .f (Uu eR q.task.rules), .own i3 g3 0 q.put.length none,c']⟩)) (by rw[J6 (by omega)];exact k3') (by omega) hX
               f4:=fun X hX=>Zq.frzT (HI:=H7.set J (some ⟨gJ,5,[.f (.int .i64 q.task.size), .f (J5 q.task.given), .f (Uu eR q.task.rules), .own i3 g3 0 q.put.length none,c']⟩)) (hO.same fun i hi _=>by rw[Jg (Ne.symm (hid7 i hi).2)]) (fun k hk=>(hid7 k hk).1) hX
               rd:=(q2.rd.mono (by omega)).same (by rw[Jg (by omega),hk1 _ (by omega) (c4n _ (by omega))])
               lt:=hlt,ln:=by rw[Jo];omega
               frm:=fun k hk hne=>by rw[Jg (by omega),hk1 _ (by omega) (c4n _ (by omega))];exact q2.frm k hk hne}
   · rintro⟨q,c3,c4,HF⟩ ⟨hq,hE⟩
     simp only at hq hE
     have hJ:=hE.cell
     have ho:=hE.out
     have hln:=hE.ln
     have hS:∀b,look (HF.set H.length (some ⟨g4,5,b⟩)) H.length g4=some ⟨g4,5,b⟩:=fun b=>JM (by omega)
     refine Ua _ _ _ _ ?_
     simp(maxSteps:=999999)(disch:=omega)only[go_sem,zA,zM,zS,zE,zL,hJ,ho,hS]
     refine⟨_,J0.refl _,q,c3,c4,rfl,hE.f3 _ fun i hi=> ?_,hE.f4 _ fun i hi=> ?_,hq,(hE.rd.mono (by omega)).same (by rw[Jg (by omega)]),by rw[Jo];omega,fun k hk hn=> ?_⟩
     · rw[Jg (by omega)]
     · rw[Jg (by omega)]
     · rw[Jg (by omega)]
       exact hE.frm k hk hn
end Go.Lg

namespace Go.Lg
open Go.Proofs
theorem Jax{q:QZ}{cell value:Int}(hx:smG q):smG (Zt q cell value)∧wMG (Zt q cell value)≤wMG q+1:=by
 unfold Zt
 split
 · rename_i h
   obtain⟨h1,h2,h3,h4,h5,h6⟩:=Zs h
   split
   · exact⟨⟨hx.1,by simpa using hx.2.1,by simp;omega⟩,by simp[wMG,wMP];omega⟩
   · exact⟨hx,by omega⟩
 · exact⟨⟨⟨by simp[ZC],by simp[ZC],by simp[ZC]⟩,by simp[ZC],by simp[ZC]⟩,by simp[wMG,wMP,wM,ZC]⟩
theorem NJ{q:QZ}(hx:smG q):smG (QD q)∧wMG (QD q)≤wMG q+1:=by
 unfold QD
 split
 · split
   · exact⟨hx,by omega⟩
   · have:=hx.2.2
     exact⟨⟨hx.1,by simpa using hx.2.1,by simp;omega⟩,by simp[wMG,wMP];omega⟩
 · exact⟨⟨⟨by simp[ZC],by simp[ZC],by simp[ZC]⟩,by simp[ZC],by simp[ZC]⟩,by simp[wMG,wMP,wM,ZC]⟩
end Go.Lg

namespace Go.Lg
open Go.Proofs
attribute [-go_sem] J9 Jv
theorem Jg4{q:QZ}(hq:Rg q):(JN q).length≤16:=by
 cases hv:Qd q with
 |true=>exact Ww hv
 |false=>unfold JN;rw[hv];simp
end Go.Lg

namespace Go.Lg
open Go.Proofs
attribute [-go_sem] J9 Jv
inductive WK(H:Jm):CV→List Int→List Nat→Prop where
 |z (xs:List Int):WK H (.f (J5 xs)) xs []
 |e (c:CV) (xs:List Int) (S:List Nat) (h:Ub H c xs S):WK H c xs S
theorem WK.frzC{H:Jm}{c:CV}{xs:List Int}{S:List Nat}(h:WK H c xs S):Lg.frzC H c=some (.f (J5 xs)):=by
 cases h with
 |z xs=>rfl
 |e c xs S h=>exact h.frzC
theorem WK.same{H H':Jm}{c:CV}{xs:List Int}{S:List Nat}(h:WK H c xs S)(hs:∀i∈S,H'[i]? =H[i]?):WK H' c xs S:=by
 cases h with
 |z xs=>exact .z _
 |e c xs S h=>exact .e _ _ _ (h.same hs)
theorem WK.shift{H0 H:Jm}{c:CV}{xs:List Int}{S:List Nat}(h:WK H c xs S):WK (H0++Q7 H0.length H) (Uf H0.length c) xs (S.map (· +H0.length)):=by
 cases h with
 |z xs=>exact .z _
 |e c xs S h=>exact .e _ _ _ h.shift
theorem WK.lt{H:Jm}{c:CV}{xs:List Int}{S:List Nat}(h:WK H c xs S):∀i∈S,i<H.length:=by
 cases h with
 |z xs=>simp
 |e c xs S h=>exact h.lt
theorem WK.frzI{S:Nat→Bool}{H:Jm}{c:CV}{xs:List Int}{T:List Nat}(h:WK H c xs T)(hs:∀k∈T,S k=true):Lg.frzS S H 6 c=some (J5 xs):=by
 cases h with
 |z xs=>
  show some (Fh (.sl xs.length (fl (eI .i64) xs)))=_
  rw[Nd,Bs]
 |e c xs S h=>
  obtain⟨t,t'⟩:=h.toL
  exact t.frzI fun k hk=>hs k (t' k hk)
def JfM(q:QZ)(t:List UInt8):KV:=fun v H=>∃c3 c4,v= .tup [aE q c3 c4,WU t]∧∃S3 S4,WK H c3 q.put S3∧WK H c4 q.moves S4
section
variable{P:Program}{o:Oper}{st:St}{K:KV}{fo:Operand}{xs:Array Operand}{ts:Array TypeId}{f:FuncId}{args args':List AV}
theorem JW.ownX{q:QZ}{t:List UInt8}(h:Jn P f args [] (JfM q t)):JW P f args (.tup [aG q,WU t]):=
 JW.ice h fun r H' ⟨c3,c4,h1,S3,S4,h3,h4⟩=>by
  subst h1
  have e1:∀x,frzC H' (.f (.int .i64 x))=some (.f (.int .i64 x)):=fun x=>rfl
  have e2:∀x,frzC H' (.f (J5 x))=some (.f (J5 x)):=fun x=>rfl
  have e3:∀x,frzC H' (.f (Uu eR x))=some (.f (Uu eR x)):=fun x=>rfl
  have e4:∀x,frzC H' (.f (.str x))=some (.f (.str x)):=fun x=>rfl
  simp only[aE,Vu,J4,Qw,Xw,h3.frzC,h4.frzC,e1,e2,e3,e4,Option.pure_def,Option.bind_eq_bind,Option.bind_some,Option.map_some]
end
theorem Xk(q:QZ)(l:List UInt8)(hx:smG q)(hl:l.length≤2^40):Jn Tryz.prog 31 [aG q,WU l] [] (JfM (QA q l) (Zl q l)):=by
 cases hv:Qd q with
 |true=>
  refine(Rn q l hx hl hv).weaker fun v H' ⟨c3,c4,h1,S3,S4,h3,h4,hd⟩=>⟨H',J0.refl _,c3,c4,h1,S3,S4, .e _ _ _ h3, .e _ _ _ h4⟩
 |false=>
  have e1:QA q l=ZC:=by unfold QA;rw[hv];rfl
  have e2:Zl q l=[]:=by unfold Zl;rw[hv];rfl
  rw[e1,e2]
  refine Jn.nz ?_
  refine Jn.cw (c:=_) Tryz.func31 rfl (n:=113) Tryz.ntmps31 (rs:=[.cell 4 28, .tmp 5]) rfl ?_
  simp only[Je,Jf,zA,zS,Jd,Jb,Jc]
  simp(maxSteps:=999999)(disch:=omega)only[go_sem,zA,zM,zS,zE,zL]
  intro g1 g2
  first|refine JZ.rd (QN q hx) (⟨_,Tryz.func12,rfl,rfl⟩:Ji Tryz.prog 12) rfl rfl rfl rfl ?_|refine JK.rd (QN q hx) (⟨_,Tryz.func12,rfl,rfl⟩:Ji Tryz.prog 12) rfl rfl rfl rfl ?_
  simp(maxSteps:=999999)(disch:=omega)only[go_sem,zA,zM,zS,zE,zL]
  rw[hv]
  simp(maxSteps:=999999)(disch:=omega)only[go_sem,zA,zM,zS,zE,zL]
  exact⟨_,J0.refl _,_,_,rfl,[],[], .z [], .z []⟩
theorem Rm(q:QZ)(l:List UInt8)(hx:smG q)(hl:l.length≤2^40):JW Tryz.prog 31 [aG q,WU l] (.tup [aG (QA q l),WU (Zl q l)]):=JW.ownX (Xk q l hx hl)
theorem JkR{q:QZ}(h:Rg q)(l:List UInt8):Rg (QA q l):=by
 cases hv:Qd q with
 |true=>
  obtain⟨n,hN⟩:=Z1.of hv
  have hK:=Xs hN l
  have hl:=hK.len
  refine⟨by rw[Fi hv];exact h.1,by omega,by omega⟩
 |false=>
  have e1:QA q l=ZC:=by unfold QA;rw[hv];rfl
  rw[e1]
  exact⟨⟨by simp[ZC],by simp[ZC,WP]⟩,by simp[ZC],by simp[ZC]⟩
theorem JfH{q:QZ}(h:smG q)(l:List UInt8):smG (QA q l)∧wMG (QA q l)≤wMG q+1:=by
 unfold QA
 split
 · split
   · exact Jax h
   · split
     · exact NJ h
     · exact⟨h,by omega⟩
 · exact⟨⟨⟨by simp[ZC],by simp[ZC],by simp[ZC]⟩,by simp[ZC],by simp[ZC]⟩,by simp[wMG,wMP,wM,ZC]⟩
theorem FG(code:List Int)(hb:∀x∈code,0≤x∧x≤255)(hl:code.length≤2^40):Jn Tryz.prog 32 [Bl (eI .u8) code] [] (fun v _=>∃(q:QZ) (l:List UInt8),v= .tup [aG q,WU l]∧Rg q∧l.length≤6):=by
 refine Jn.cw (c:=_) Tryz.func32 rfl (n:=14) Tryz.ntmps32 (rs:=[.cell 2 28, .tmp 3]) rfl ?_
 simp only[Je,Jf,zA,zS,Jd,Jb,Jc]
 simp(maxSteps:=999999)(disch:=omega)only[go_sem,zA,zM,zS,zE,zL]
 intro g4
 refine JZ.mkRd (F0 code hb hl) (⟨_,Tryz.func36,rfl,rfl⟩:Ji Tryz.prog 36) rfl rfl rfl ?_
 intro g H1 r1 hl1
 simp(maxSteps:=999999)(disch:=omega)only[go_sem,zA,zM,zS,zE,zL]
 refine JZ.run (F3 _ 1 g 0 14 r1 (by omega) (by omega)) (⟨_,Tryz.func35,rfl,rfl⟩:Ji Tryz.prog 35) rfl rfl ?_
 rintro _ H2 ⟨⟨q,rfl,hq⟩,r2,f2⟩
 have h4:look H2 0 g4=some ⟨g4,5,[.f (.int .i64 0), .f .nil, .f .nil, .f .nil, .f .nil]⟩:=by rw[f2.look (by simp)];exact US
 have hl2:H2.length=2:=by rw[f2.1];simp[hl1]
 simp(maxSteps:=999999)(disch:=omega)only[go_sem,zA,zM,zS,zE,zL,Qf,Qm,QS,QF,Jt,Jb,Jc,Jk]
 intro g5
 have hM:look (Zg [true,true] (H2++[some ⟨g5,5,cG q⟩])) H2.length g5=some ⟨g5,5,cG q⟩:=by rw[Ur (by rw[hl2];rfl)];exact JC
 have hok:∀X Y:Jm,(∀j,2≤j→j<X.length→Y[j]? =X[j]?)→RM [true,true] X Y:=fun X Y h=>ZR fun j b hj hb=>by
  have hjl:=(Jh.1 hb).1
  have hj2:2≤j:=by
   match j,hj with
   |0,hj=>simp at hj
   |1,hj=>simp at hj
   |j+2,_=>omega
  rw[h j hj2 hjl]
  exact hb
 refine Q3 [0,1,2,3] [] none [4,5] [true,true] [0,0,0,6,15,31] Zd (by kernel_rfl) ?_
 iterate 3 (rw[Jv];simp(maxSteps:=999999)(disch:=omega)only[go_sem,zA,zM,zS,zE,zL,hM])
 rw[Jv]
 simp(maxSteps:=999999)(disch:=omega)only[go_sem,zA,zM,zS,zE,zL]
 refine JK.run (RS _ 1 g _ 3 q r2.app (by omega) (by omega) hq.sm (by have:=hq.2.1;omega)) (⟨_,Tryz.func69,rfl,rfl⟩:Ji Tryz.prog 69) rfl rfl ?_
 rintro _ H3 ⟨⟨l,rfl,hll⟩,r3,f3⟩
 replace f3:Vi (H2++[some ⟨g5,5,cG q⟩]) H3 [1]:=f3
 refine⟨hok _ _ fun j hj _=>f3.2 j (by simp;omega), ?_⟩
 have h43:look H3 0 g4=some ⟨g4,5,[.f (.int .i64 0), .f .nil, .f .nil, .f .nil, .f .nil]⟩:=by rw[f3.look (by simp)];exact JO h4
 have hS:∀b,look (H3.set 0 (some ⟨g4,5,b⟩)) 0 g4=some ⟨g4,5,b⟩:=fun b=>JM (Jh.1 (JG h43).1).1
 simp(maxSteps:=999999)(disch:=omega)only[go_sem,zA,zM,zS,zE,zL,h43,hS]
 exact⟨_,J0.refl _,q,l,rfl,hq,hll⟩
end Go.Lg
