/- GpSH, cut to what is needed. -/
import Derived.Test.YtpdaalgdkdpihaaXae7
open Nat renaming reduceAdd→zA,reduceMul→zM,reduceSub→zS,reduceEqDiff→zE,reduceLeDiff→zL
set_option linter.unusedSimpArgs false
set_option linter.unusedVariables false
set_option maxRecDepth 100000
namespace Go.Lg
open Go.Proofs
attribute [-go_sem] appendM lwF_cons
section
variable{P:Program}{o:Oper}{st:St}{K:KV}{fo:Operand}{xs:Array Operand}{ts:Array TypeId}{f:FuncId}{args args':List AV}
theorem OpS.mkGL{q:Gam}{t:List UInt8}(hc:RunCall P f args [] (gamEQ q (txt t)))(he:Enters P f)(ho:o.op= .call ⟨.value fo,xs,ts⟩)(ha:callArgs st fo xs=some (f,args))(hf:args.all frozenA=true)
 (hk:∀c3 c4 H' S3 S4,OwnE (st.h++H') c3 q.put S3→OwnE (st.h++H') c4 q.moves S4→(∀k∈S3,k∉S4)→(∀i∈S3,st.h.length≤i∧i<st.h.length+H'.length)→(∀i∈S4,st.h.length≤i∧i<st.h.length+H'.length)→
   K (.tup [.agg [.f (.int .i64 q.task.size), .f (fints q.task.given), .f (fsl eR q.task.rules),c3,c4],txt t]) (st.h++H')):OpS P o st K:=
 OpS.mkQ hc he ho ha hf fun r H' ⟨c3,c4,h1,S3,S4,h3,h4,hd⟩=>by
  subst h1
  refine⟨rfl,hk _ _ _ _ _ h3.shift h4.shift (fun k hk hm=> ?_) (by rw[shiftH_length];exact shift_ge h3.lt) (by rw[shiftH_length];exact shift_ge h4.lt)⟩
  obtain⟨a,ha,rfl⟩:=List.mem_map.1 hk
  obtain⟨b,hb,he⟩:=List.mem_map.1 hm
  have:b=a:=by omega
  subst this
  exact hd b ha hb
theorem Loud.mkGL{ops:Array Oper}{s:List AV}{H:Heap}{q:Gam}{t:List UInt8}(hc:RunCall P f args [] (gamEQ q (txt t)))(he:Enters P f)(ho:o.op= .call ⟨.value fo,xs,ts⟩)(ha:callArgs ⟨s,H⟩ fo xs=some (f,args))(hf:args.all frozenA=true)
 (hk:∀c3 c4 H' S3 S4,OwnE (H++H') c3 q.put S3→OwnE (H++H') c4 q.moves S4→(∀k∈S3,k∉S4)→(∀i∈S3,H.length≤i∧i<H.length+H'.length)→(∀i∈S4,H.length≤i∧i<H.length+H'.length)→
   K (.tup [.agg [.f (.int .i64 q.task.size), .f (fints q.task.given), .f (fsl eR q.task.rules),c3,c4],txt t]) (H++H')):Loud P ops o s H K:=
 Loud.call ho ha fun s' ha'=>OpS.mkGL (st:=⟨s',H⟩) hc he ho ha' hf hk
end
structure GmE(H HI:Heap)(id g:Nat)(B:Int)(g4 J gJ:Nat)(q:Gam)(c3 c4:CV):Prop where
 out:look HI H.length g4=some ⟨g4,5,[.f (.int .i64 0), .f .nil, .f .nil, .f .nil, .f .nil]⟩
 cell:look HI J gJ=some ⟨gJ,5,[.f (.int .i64 q.task.size), .f (fints q.task.given), .f (fsl eR q.task.rules),c3,c4]⟩
 f3:∀X:Heap,(∀i,H.length<i→X[i]? =HI[i]?)→frzS (tailS H.length) X 6 c3=some (fints q.put)
 f4:∀X:Heap,(∀i,H.length<i→X[i]? =HI[i]?)→frzS (tailS H.length) X 6 c4=some (fints q.moves)
 rd:RdAt HI id g B
 lt:id<H.length
 ln:H.length<J∧J<HI.length
 frm:∀k,k<H.length→k≠id→HI[k]? =H[k]?
theorem OwnL.frzT{H HI X:Heap}{c:CV}{xs:List Int}(h:OwnL (eI .i64) 1 HI c xs)(hi:∀k,idsC c k→H.length<k)(hs:∀i,H.length<i→X[i]? =HI[i]?):Lg.frzS (tailS H.length) X 6 c=some (fints xs):=by
 refine(h.same (H':=X) fun i hi' _=>hs i (hi i hi')).frzI fun k hk=> ?_
 have:=hi k hk
 simp[tailS];omega
theorem frz_own0{H HI X:Heap}{gid gg:Nat}{zs:List Int}(p1:look HI gid gg=some ⟨gg,1,cl (eI .i64) zs⟩)(h0:H.length<gid)(hs:∀i,H.length<i→X[i]? =HI[i]?):frzS (tailS H.length) X 6 (.own gid gg 0 zs.length none)=some (fints zs):=by
 have:=frz_own (H:=H) (H':=X) (off:=0) (k:=zs.length) p1 h0 (fun i hi _=>hs i hi) (by omega)
 rwa [List.drop_zero,List.take_length]at this
theorem GmI.toE{H HI:Heap}{id g g4 J gJ:Nat}{B:Int}{q:Gam}{c3 c4:CV}(h:GmI H HI id g B g4 J gJ q c3 c4):GmE H HI id g B g4 J gJ q c3 c4:=
 {out:=h.out,cell:=h.cell,rd:=h.rd,lt:=h.lt,ln:=h.ln,frm:=h.frm
  f3:=fun X hs=>h.k3.frzT (fun k hk=>(h.i3 k hk).1) hs
  f4:=fun X hs=>h.k4.frzT (fun k hk=>(h.i4 k hk).1) hs}
set_option maxHeartbeats 8000000 in
theorem l20Game_run(H:Heap)(id g:Nat)(B kk:Int)(hr:RdAt H id g B)(hB:B≤2^35)(hkk:kk≤1000):RunCall Try.prog 71 [.c (.ptr id g 0),int kk] H (gamDQ H id g B):=by
 have hlt:=hr.lt
 refine RunCall.iceS (Q':=fun v H'=>∃(q:Gam) (c3 c4:CV),v= .agg [.f (.int .i64 q.task.size), .f (fints q.task.given), .f (fsl eR q.task.rules),c3,c4]∧frzS (tailS H.length) H' 6 c3=some (fints q.put)∧frzS (tailS H.length) H' 6 c4=some (fints q.moves)∧smGD q∧RdAt H' id g (B+700)∧H.length≤H'.length∧∀k,k<H.length→k≠id→H'[k]? =H[k]?) ?_ ?_
 rotate_left
 · rintro v H' ⟨q,c3,c4,rfl,h1,h2,h3,h5,h6,h7⟩
   refine⟨tailS H.length,H'.take H.length,aG q,iceH_take _ _, .o _ _ (.agg _ _ rfl fun j hj=> ?_),⟨q,rfl,h3⟩,h5.take hlt,by simp;omega,fun i hi=> ?_⟩
   · have hj:j<5:=hj
     match j,hj with
     |0,_=>exact⟨_,rfl,iceC_s⟩
     |1,_=>exact⟨_,rfl,iceC_s⟩
     |2,_=>exact⟨_,rfl,iceC_s⟩
     |3,_=>exact⟨_,rfl,iceC_f h1⟩
     |4,_=>exact⟨_,rfl,iceC_f h2⟩
   · by_cases hi':i<H.length
     · rw[List.getElem?_take_of_lt hi',h7 i hi' (by simpa using hi)]
     · rw[List.getElem?_take_eq_none (by omega),List.getElem?_eq_none (by omega)]
 refine RunCall.ofR (c:=_) Try.func71 rfl (n:=67) Try.ntmps71 (rs:=[.cell 4 34]) rfl ?_
 simp only[List.length_cons,List.length_nil,zA,zS,List.replicate,List.cons_append,List.nil_append]
 refine RunC.cutN 3 (fun a:Nat×Nat×Nat×Gam×CV×CV×Heap=>smD a.2.2.2.1.task∧(∃n,GamN a.2.2.2.1 n)∧GmI H a.2.2.2.2.2.2 id g (B+500) a.1 a.2.1 a.2.2.1 a.2.2.2.1 a.2.2.2.2.1 a.2.2.2.2.2.1) (fun a=>[.k, .k, .a, .a, .p (.c (.ptr H.length a.1 0)), .p (.c (.ptr a.2.1 a.2.2.1 0)), .a, .a, .a, .a, .a, .a, .a, .a, .a, .a, .a, .a, .a, .a, .a, .a, .a, .a, .a, .a, .a, .a, .a, .a, .a, .a, .a, .a, .a, .a, .a, .a, .a, .a, .a, .a, .a, .a, .a, .a, .a, .a, .a, .a, .a, .a, .a, .a, .a, .a, .a, .a, .a, .a, .a, .a, .a, .a, .a, .a, .a]) (fun a=>a.2.2.2.2.2.2) ?_ ?_
 · simp(maxSteps:=999999)(disch:=omega)only[go_sem,zA,zM,zS,zE,zL,look_off,look_off0,set_off,set_off0,List.append_assoc,List.cons_append,List.nil_append,List.length_append]
   intro g4
   refine OpS.run (l20Puzzle_full _ id g B 0 hr.app (by omega) (by omega)) (⟨_,Try.func64,rfl,rfl⟩:Enters Try.prog 64) rfl rfl ?_
   rintro _ H1 ⟨⟨p,rfl,hp1,hp2,hpv⟩,r1,f1⟩
   have hpv:=hpv (by omega)
   have hsm:smD p:=⟨hp1,hp2⟩
   replace f1:Frm (H++[some ⟨g4,5,[.f (.int .i64 0), .f .nil, .f .nil, .f .nil, .f .nil]⟩]) H1 [id]:=f1
   have l1:H1.length=H.length+1:=by rw[f1.1];simp
   have ho1:look H1 H.length g4=some ⟨g4,5,[.f (.int .i64 0), .f .nil, .f .nil, .f .nil, .f .nil]⟩:=by rw[f1.look (by simp;omega)];exact look_last
   simp(maxSteps:=999999)(disch:=omega)only[go_sem,zA,zM,zS,zE,zL]
   refine OpS.mkQ (sGameOf_own p hsm.sm hpv) (⟨_,Try.func24,rfl,rfl⟩:Enters Try.prog 24) rfl rfl rfl ?_
   rintro _ H2 ⟨i2,g2,rfl,k2⟩
   refine⟨rfl, ?_⟩
   have k2:=look_shiftH (H0:=H1) k2
   simp only[shiftB,shift_cl]at k2
   obtain⟨HK,hHK⟩:∃HK:Heap,HK=H1++shiftH H1.length H2:=⟨_,rfl⟩
   show vwK _ _ _ _ _ _ (.agg [.f (.int .i64 p.size), .f (fints p.given), .f (fsl eR p.rules), .own (i2+H1.length) g2 0 p.given.length none, .f .nil]) (H1++shiftH H1.length H2)
   rw[←hHK]at k2⊢
   have lK:H1.length≤HK.length:=by rw[hHK];simp
   have gK:∀k,k<H1.length→HK[k]? =H1[k]? :=fun k hk=>by rw[hHK,List.getElem?_append_left hk]
   clear hHK
   simp(maxSteps:=999999)(disch:=omega)only[go_sem,zA,zM,zS,zE,zL]
   intro gJ
   simp(maxSteps:=999999)(disch:=omega)only[go_sem,zA,zM,zS,zE,zL,look_last,set_last]
   have hn:=PuzN.of hpv
   have ho2:look HK H.length g4=some ⟨g4,5,[.f (.int .i64 0), .f .nil, .f .nil, .f .nil, .f .nil]⟩:=by unfold look at*;rw[gK _ (by omega)];exact ho1
   have i2lt:=(List.getElem?_eq_some_iff.1 (look_some k2).1).1
   have k2':OwnL (eI .i64) 1 HK (.own (i2+H1.length) g2 0 p.given.length none) (List.replicate p.given.length 0):=by
    have:=OwnL.o (E:=eI .i64) (n:=1) (i2+H1.length) g2 (List.replicate p.given.length 0) k2
    rwa [List.length_replicate]at this
   have q0:GmI H (HK++[some ⟨gJ,5,[.f (.int .i64 p.size), .f (fints p.given), .f (fsl eR p.rules), .own (i2+H1.length) g2 0 p.given.length none, .f .nil]⟩]) id g (B+400) g4 HK.length gJ ⟨p,List.replicate p.given.length 0,[]⟩ (.own (i2+H1.length) g2 0 p.given.length none) (.f .nil):=
    {out:=look_appL ho2
     cell:=look_last
     k3:=k2'.app
     k4:= .n
     d34:=fun k _ h=>h
     i3:=fun k hk=>by have:k=i2+H1.length:=hk;omega
     i4:=fun k hk=>hk.elim
     rd:=(r1.same (gK _ (by omega))).app
     lt:=hlt,ln:=by simp;omega
     frm:=fun k hk hne=>by rw[List.getElem?_append_left (by omega),gK _ (by omega),f1.2 k (by simpa using hne),List.getElem?_append_left hk]}
   have hgam:∃n,GamN ⟨p,List.replicate p.given.length 0,[]⟩ n:=by
    have h:=(new_facts hpv).1
    have e:gameOf p=⟨p,List.replicate p.given.length 0,[]⟩:=by unfold gameOf;rw[if_pos hpv]
    rw[e]at h
    exact GamN.of h
   refine OpS.run (pick_run _ id g (B+400) 8 q0.rd (by omega)) (⟨_,Try.func72,rfl,rfl⟩:Enters Try.prog 72) rfl rfl ?_
   rintro _ H3 ⟨⟨y,rfl,y0,y1⟩,r3,f3⟩
   have y1:=y1 (by omega)
   have q1:=q0.pick r3 f3
   obtain⟨yn,rfl⟩:∃yn:Nat,y=yn:=⟨y.toNat,by omega⟩
   simp(maxSteps:=999999)(disch:=omega)only[go_sem,zA,zM,zS,zE,zL]
   refine loop_rule2 (fun(k:Nat) (b:Gam×CV×CV×Heap)=>k) (fun k b=>k≤7∧smD b.1.task∧(∃n,GamN b.1 n)∧GmI H b.2.2.2 id g (B+490 -10*k) g4 HK.length gJ b.1 b.2.1 b.2.2.1) (fun k b=>[.k, .k, .a, .a, .k, .k, .p (int k), .a, .a, .a, .a, .a, .a, .a, .a, .a, .a, .a, .a, .a, .a, .a, .a, .a, .a, .a, .a, .a, .a, .a, .a, .a, .a, .a, .a, .a, .a, .a, .a, .a, .a, .a, .a, .a, .a, .a, .a, .a, .a, .a, .a, .a, .a, .a, .a, .a, .a, .a, .a, .a, .a, .a, .a, .a, .a, .a, .a]) (fun k b=>b.2.2.2) yn (⟨p,List.replicate p.given.length 0,[]⟩, .own (i2+H1.length) g2 0 p.given.length none, .f .nil,H3)
    ⟨by omega,hsm,hgam,q1.mono (by omega)⟩ (by simp(maxSteps:=999999)(disch:=omega)only[go_sem,zA,zM,zS,zE,zL]) (HLe.refl _) ?_
   rintro k ⟨q,c3,c4,HI⟩ ⟨hk,hs,⟨n,hN⟩,hI⟩
   simp only at hs hN hI
   simp(maxSteps:=999999)(disch:=omega)only[go_sem,zA,zM,zS,zE,zL]
   ((first|(with_reducible first|refine condK_dec ?_ ?_|refine condK_ndec ?_ ?_|refine condK_nb ?_ ?_)|refine condK_b ?_ ?_)<;>intro c1)
   rotate_left
   · simp(maxSteps:=999999)(disch:=omega)only[go_sem,zA,zM,zS,zE,zL]
     exact⟨(g4,HK.length,gJ,q,c3,c4,HI),⟨hs,⟨n,hN⟩,hI.mono (by omega)⟩,by simp,HLe.refl _⟩
   obtain⟨k,rfl⟩:∃k',k=k'+1:=⟨k -1,by omega⟩
   simp(maxSteps:=999999)(disch:=omega)only[go_sem,zA,zM,zS,zE,zL]
   obtain⟨S,HX,hice,hXl,hF⟩:=hI.ice
   refine drawP_ice S hice ?_
   have hln:=hF.ln
   have hlX:=hF.lt
   have hM:∀X:Heap,X[HK.length]? =HX[HK.length]?→look (mask (hideM id HX.length HX.length) X) HK.length gJ=some ⟨gJ,5,cG q⟩:=fun X hX=>by
    rw[look_mask (hideM_no (by omega) (by omega))]
    have:=hF.cell
    unfold look at*
    rw[hX];exact this
   refine drawP_R [0,1,2,3,4,5,6,7] [] none [8] 7 (hideM id HX.length HX.length) foll (by kernel_rfl) ?_
   have hM0:=hM HX rfl
   have hl4:=hN.len
   iterate 3 (rw[lwF_cons];simp(maxSteps:=999999)(disch:=omega)only[go_sem,zA,zM,zS,zE,zL,hM0])
   rw[lwF_cons]
   simp(maxSteps:=999999)(disch:=omega)only[go_sem,zA,zM,zS,zE,zL]
   refine Loud.run (l20Put_run HX id g _ 5 q hF.rd (by omega) (by omega) (hN.smG hs.sm) (by omega)) (⟨_,Try.func92,rfl,rfl⟩:Enters Try.prog 92) rfl rfl ?_
   rintro _ H4 ⟨⟨l,rfl,hll⟩,r4,f4⟩
   refine⟨okM_gen fun j b hj hb=>by
    have hjl:=(List.getElem?_eq_some_iff.1 hb).1
    rw[f4.2 j (by simpa using(hideM_yes hj hjl).1)];exact hb, ?_⟩
   simp(maxSteps:=999999)(disch:=omega)only[go_sem,zA,zM,zS,zE,zL]
   rw[lwF_cons]
   simp(maxSteps:=999999)(disch:=omega)only[go_sem,zA,zM,zS,zE,zL]
   refine Loud.mkGL (sGameLine_own q l (hN.smG hs.sm) (by omega) hN.valid) (⟨_,Try.func91,rfl,rfl⟩:Enters Try.prog 91) rfl rfl rfl ?_
   intro c3' c4' H5 S3 S4 k3 k4 n3 m3 m4
   refine⟨okM_gen fun j b hj hb=>by
    have hjl:=(List.getElem?_eq_some_iff.1 hb).1
    rw[List.getElem?_append_left hjl];exact hb, ?_⟩
   simp(maxSteps:=999999)(disch:=omega)only[go_sem,zA,zM,zS,zE,zL]
   iterate 3 (rw[lwF_cons];simp(maxSteps:=999999)(disch:=omega)only[go_sem,zA,zM,zS,zE,zL])
   have e5:look (H4++H5) HK.length gJ=some ⟨gJ,5,cG q⟩:=by
    rw[look_app_lt (by rw[f4.1];omega),f4.look (by simp;omega)]
    exact hF.cell
   refine swK2_go rfl (.inr rfl) ?_
   simp(maxSteps:=999999)(disch:=omega)only[go_sem,zA,zM,zS,zE,zL,e5]
   have l4:=f4.1
   have hkeep:∀{X:Option Blk} {i:Nat},i≠HK.length→((H4++H5).set HK.length X)[i]? =(H4++H5)[i]? :=fun hi=>by rw[List.getElem?_set_ne (Ne.symm hi)]
   have hin:∀{i:Nat},i<HX.length→(H4++H5)[i]? =H4[i]? :=fun hi=>by rw[List.getElem?_append_left (by omega)]
   obtain⟨t3,t3'⟩:=k3.toL
   obtain⟨t4,t4'⟩:=k4.toL
   refine⟨k,(lineG q l,c3',c4',(H4++H5).set HK.length (some ⟨gJ,5,[.f (.int .i64 (lineG q l).task.size), .f (fints (lineG q l).task.given), .f (fsl eR (lineG q l).task.rules),c3',c4']⟩)),⟨⟨by omega,by rw[line_task hN.valid];exact hs,⟨n,line_keeps hN l⟩, ?_⟩,by omega⟩, ?_, ?_⟩
   · have hfo:=hF.out
     exact{out:=by
            have:look (H4++H5) H.length g4=look HX H.length g4:=by rw[look_app_lt (by omega),f4.look (by simp;omega)]
            rw[look_set_ne (by omega),this];exact hfo
           cell:=look_set_eq' (by simp;omega)
           k3:=t3.same fun i hi hl'=>hkeep (by have:=m3 i (t3' i hi);omega)
           k4:=t4.same fun i hi hl'=>hkeep (by have:=m4 i (t4' i hi);omega)
           d34:=fun i h3 h4=>n3 i (t3' i h3) (t4' i h4)
           i3:=fun i hi=>by have:=m3 i (t3' i hi);omega
           i4:=fun i hi=>by have:=m4 i (t4' i hi);omega
           rd:=(r4.app.same (hkeep (by omega))).mono (by omega)
           lt:=hlt,ln:=by rw[List.length_set];simp;omega
           frm:=fun i hi hne=>by rw[hkeep (by omega),hin (by omega),f4.2 i (by simpa using hne)];exact hF.frm i hi hne}
   · omega
   · exact HLe.refl _
 · rintro⟨g4,J,gJ,q,c3,c4,HF⟩ ⟨hs,⟨n,hN⟩,hI⟩
   simp only at hs hN hI
   have hl:=hN.len
   refine RunC.cutN 1 (fun a:Gam×CV×CV×Heap=>smGD a.1∧GmE H a.2.2.2 id g (B+600) g4 J gJ a.1 a.2.1 a.2.2.1) (fun a=>[.a, .a, .a, .a, .k, .k, .a, .a, .a, .a, .a, .a, .a, .a, .a, .a, .a, .a, .a, .a, .a, .a, .a, .a, .a, .a, .a, .a, .a, .a, .a, .a, .a, .a, .a, .a, .a, .a, .a, .a, .a, .a, .a, .a, .a, .a, .a, .a, .a, .a, .a, .a, .a, .a, .a, .a, .a, .a, .a, .a, .a, .a, .a, .a, .a, .a, .a]) (fun a=>a.2.2.2) ?_ ?_
   · simp(maxSteps:=999999)(disch:=omega)only[go_sem,zA,zM,zS,zE,zL]
     refine OpS.run (odd_run HF id g (B+500) kk hI.rd (by omega) (by omega)) (⟨_,Try.func88,rfl,rfl⟩:Enters Try.prog 88) rfl rfl ?_
     rintro _ H1 ⟨⟨b,rfl,_⟩,r1,f1⟩
     have q1:=hI.pick r1 f1
     simp(maxSteps:=999999)(disch:=omega)only[go_sem,zA,zM,zS,zE,zL]
     ((first|(with_reducible first|refine condK_dec ?_ ?_|refine condK_ndec ?_ ?_|refine condK_nb ?_ ?_)|refine condK_b ?_ ?_)<;>intro c1)
     rotate_left
     · simp(maxSteps:=999999)(disch:=omega)only[go_sem,zA,zM,zS,zE,zL]
       have hsg:smGD q:=⟨hs,by omega,by omega⟩
       exact⟨(q,c3,c4,H1),⟨hsg,(q1.mono (by omega)).toE⟩,HLe.refl _⟩
     simp(maxSteps:=999999)(disch:=omega)only[go_sem,zA,zM,zS,zE,zL]
     refine OpS.run (pick_run H1 id g (B+500+1) 4 q1.rd (by omega)) (⟨_,Try.func72,rfl,rfl⟩:Enters Try.prog 72) rfl rfl ?_
     rintro _ H2 ⟨⟨y,rfl,y0,y1⟩,r2,f2⟩
     have y1:=y1 (by omega)
     have q2:=(q1.pick r2 f2).mono (B':=B+510) (by omega)
     clear q1 r1 f1 r2 f2
     have hJ:=q2.cell
     have hln:=q2.ln
     have hne3:q.put≠[]:=fun h=>by rw[h]at hl;simp at hl
     obtain⟨i3,g3,rfl,k3⟩:∃i3 g3,c3= .own i3 g3 0 q.put.length none∧look H2 i3 g3=some ⟨g3,1,cl (eI .i64) q.put⟩:=by
      have h3:=q2.k3
      generalize q.put=ps at h3 hne3
      cases h3 with
      |n=>exact absurd rfl hne3
      |m=>exact absurd rfl hne3
      |o i3 g3 xs h=>exact⟨i3,g3,rfl,h⟩
     have hi3:=q2.i3 i3 rfl
     have hi3l:=(List.getElem?_eq_some_iff.1 (look_some k3).1).1
     have hout:=q2.out
     have h4:=q2.k4
     have hi4:=q2.i4
     have hd34:=q2.d34
     obtain⟨N3,hN3⟩:∃N,N=q.put.length:=⟨_,rfl⟩
     have hM:look (mask (hideM id H2.length (H2.length+1)) H2) J gJ=some ⟨gJ,5,[.f (.int .i64 q.task.size), .f (fints q.task.given), .f (fsl eR q.task.rules), .own i3 g3 0 q.put.length none,c4]⟩:=by
      rw[look_mask (hideM_no (by omega) (by omega))];exact hJ
     have hok:∀X Y:Heap,Frm X Y [id]→X.length=H2.length→okM (hideM id H2.length (H2.length+1)) X Y:=fun X Y hf hX=>okM_gen fun j b hj hb=>by
      have hjl:=(List.getElem?_eq_some_iff.1 hb).1
      rw[hf.2 j (by simpa using(hideM_yes hj (by omega)).1)];exact hb
     have hoka:∀X Y:Heap,okM (hideM id H2.length (H2.length+1)) X (X++Y)=True:=fun X Y=>eq_true (okM_gen fun j b hj hb=>by
      have hjl:=(List.getElem?_eq_some_iff.1 hb).1
      rw[List.getElem?_append_left hjl];exact hb)
     simp(maxSteps:=999999)(disch:=omega)only[go_sem,zA,zM,zS,zE,zL]
     ((first|(with_reducible first|refine condK_dec ?_ ?_|refine condK_ndec ?_ ?_|refine condK_nb ?_ ?_)|refine condK_b ?_ ?_)<;>intro e0)
     · simp(maxSteps:=999999)(disch:=omega)only[go_sem,zA,zM,zS,zE,zL,hJ,k3]
       have hsl:sliceV Try.prog H2 22 (.c (.own i3 g3 0 q.put.length none)) (some (Int.toNat 1)) none none=some (.c (.own i3 g3 1 (q.put.length -1) none)):=by
        simp only[sliceV,ti22,ti3,k3,Option.getD_none,Option.getD_some,Int.reduceToNat]
        rw[if_pos ⟨by omega,by omega,by rw[cl_length];omega,by simp,trivial,by omega,by omega⟩]
       simp(maxSteps:=999999)(disch:=omega)only[go_sem,zA,zM,zS,zE,zL,hsl,hJ]
       refine⟨(⟨q.task,(q.put.drop 1).take (q.put.length -1),q.moves⟩, .own i3 g3 1 (q.put.length -1) none,c4,H2.set J (some ⟨gJ,5,[.f (.int .i64 q.task.size), .f (fints q.task.given), .f (fsl eR q.task.rules), .own i3 g3 1 (q.put.length -1) none,c4]⟩)),⟨⟨hs, ?_, ?_⟩, ?_⟩,HLe.refl _⟩
       · simp;omega
       · show q.moves.length≤40
         omega
       · exact{out:=by rw[look_set_ne' (by omega)];exact hout
               cell:=look_set_eq' (by omega)
               f3:=fun X hX=>frz_own (HI:=H2.set J (some ⟨gJ,5,[.f (.int .i64 q.task.size), .f (fints q.task.given), .f (fsl eR q.task.rules), .own i3 g3 1 (q.put.length -1) none,c4]⟩)) (by rw[look_set_ne' (by omega)];exact k3) (by omega) (fun i hi _=>hX i hi) (by omega)
               f4:=fun X hX=>OwnL.frzT (HI:=H2.set J (some ⟨gJ,5,[.f (.int .i64 q.task.size), .f (fints q.task.given), .f (fsl eR q.task.rules), .own i3 g3 1 (q.put.length -1) none,c4]⟩)) (h4.same fun i hi _=>by rw[List.getElem?_set_ne (Ne.symm (hi4 i hi).2)]) (fun k hk=>(hi4 k hk).1) hX
               rd:=(q2.rd.mono (by omega)).same (by rw[List.getElem?_set_ne (by omega)])
               lt:=hlt,ln:=by rw[List.length_set];omega
               frm:=fun k hk hne=>by rw[List.getElem?_set_ne (by omega)];exact q2.frm k hk hne}
     simp(maxSteps:=999999)(disch:=omega)only[go_sem,zA,zM,zS,zE,zL]
     ((first|(with_reducible first|refine condK_dec ?_ ?_|refine condK_ndec ?_ ?_|refine condK_nb ?_ ?_)|refine condK_b ?_ ?_)<;>intro e1)
     · simp(maxSteps:=999999)(disch:=omega)only[go_sem,zA,zM,zS,zE,zL]
       refine drawP_lM [0,1,2,3,4,5] [] none [6,7,8] (hideM id H2.length (H2.length+1)) [0,1,0,4,12,28,63,127,255] foll (by kernel_rfl) ?_
       iterate 3 (rw[lwF_cons];simp(maxSteps:=999999)(disch:=omega)only[go_sem,zA,zM,zS,zE,zL,hM])
       rw[lwF_cons]
       simp(maxSteps:=999999)(disch:=omega)only[go_sem,zA,zM,zS,zE,zL]
       refine Loud.run (pick_run H2 id g _ 20 q2.rd (by omega)) (⟨_,Try.func72,rfl,rfl⟩:Enters Try.prog 72) rfl rfl ?_
       rintro _ H3 ⟨⟨u,rfl,u0,u1⟩,r3,f3⟩
       have u1:=u1 (by omega)
       refine⟨hok _ _ f3 rfl, ?_⟩
       have q3:=q2.pick r3 f3
       have l3:=f3.1
       simp(maxSteps:=999999)(disch:=omega)only[go_sem,zA,zM,zS,zE,zL]
       rw[lwF_cons]
       simp(maxSteps:=999999)(disch:=omega)only[go_sem,zA,zM,zS,zE,zL]
       rw[lwF_cons]
       simp(maxSteps:=999999)(disch:=omega)only[go_sem,zA,zM,zS,zE,zL,hoka]
       intro g9
       have q4:=q3.app (X:=[some ⟨g9,1,cl (eI .i64) [u -1]⟩])
       refine appendM_L (E:=eI .i64) (v:=u -1) (sliceOf_of' ti22 rfl ti3) ⟨rfl,rfl,by decide,by decide⟩ q4.k4 (by omega) look_last ?_
       intro c' H7 hO hk1 hk2 hl7 hk3
       rw[List.length_append,List.length_singleton]at hk1 hk2 hl7
       have c4n:∀k,k≤H.length∨k=J∨k=i3→¬idsC c4 k:=fun k hk h=>by
        rcases hk with hk|hk|hk
        · have:=hi4 k h;omega
        · have:=hi4 k h;omega
        · exact hd34 i3 rfl (hk▸h)
       have e7:∀k,k<H3.length→¬idsC c4 k→H7[k]? =H3[k]? :=fun k hk hn=>by rw[hk1 k (by omega) hn,List.getElem?_append_left hk]
       have hJ7:look H7 J gJ=some ⟨gJ,5,[.f (.int .i64 q.task.size), .f (fints q.task.given), .f (fsl eR q.task.rules), .own i3 g3 0 q.put.length none,c4]⟩:=by
        have:=q3.cell
        unfold look at*
        rw[e7 J (by omega) (c4n J (by omega))];exact this
       have hid7:∀k,idsC c' k→H.length<k∧k≠J:=fun k hk=>by
        rcases hk2 k hk with h|h
        · exact hi4 k h
        · omega
       simp(maxSteps:=999999)(disch:=omega)only[go_sem,zA,zM,zS,zE,zL,hJ7]
       refine⟨(⟨q.task,q.put,q.moves++[u -1]⟩, .own i3 g3 0 q.put.length none,c',H7.set J (some ⟨gJ,5,[.f (.int .i64 q.task.size), .f (fints q.task.given), .f (fsl eR q.task.rules), .own i3 g3 0 q.put.length none,c']⟩)),⟨⟨hs, ?_, ?_⟩, ?_⟩,HLe.refl _⟩
       · show q.put.length≤16
         omega
       · simp;omega
       · have k3':look H7 i3 g3=some ⟨g3,1,cl (eI .i64) q.put⟩:=by
          have:look H3 i3 g3=some ⟨g3,1,cl (eI .i64) q.put⟩:=by rw[f3.look (by simp;omega)];exact k3
          unfold look at*
          rw[e7 i3 (by omega) (c4n i3 (by omega))];exact this
         exact{out:=by
                have:=q3.out
                rw[look_set_ne' (by omega)]
                unfold look at*
                rw[e7 _ (by omega) (c4n _ (by omega))];exact this
               cell:=look_set_eq' (by omega)
               f3:=fun X hX=>frz_own0 (HI:=H7.set J (some ⟨gJ,5,[.f (.int .i64 q.task.size), .f (fints q.task.given), .f (fsl eR q.task.rules), .own i3 g3 0 q.put.length none,c']⟩)) (by rw[look_set_ne' (by omega)];exact k3') (by omega) hX
               f4:=fun X hX=>OwnL.frzT (HI:=H7.set J (some ⟨gJ,5,[.f (.int .i64 q.task.size), .f (fints q.task.given), .f (fsl eR q.task.rules), .own i3 g3 0 q.put.length none,c']⟩)) (hO.same fun i hi _=>by rw[List.getElem?_set_ne (Ne.symm (hid7 i hi).2)]) (fun k hk=>(hid7 k hk).1) hX
               rd:=(q3.rd.mono (by omega)).same (by rw[List.getElem?_set_ne (by omega),e7 _ (by omega) (c4n _ (by omega))])
               lt:=hlt,ln:=by rw[List.length_set];omega
               frm:=fun k hk hne=>by rw[List.getElem?_set_ne (by omega),e7 _ (by omega) (c4n _ (by omega))];exact q3.frm k hk hne}
     simp(maxSteps:=999999)(disch:=omega)only[go_sem,zA,zM,zS,zE,zL]
     ((first|(with_reducible first|refine condK_dec ?_ ?_|refine condK_ndec ?_ ?_|refine condK_nb ?_ ?_)|refine condK_b ?_ ?_)<;>intro e2)
     · simp(maxSteps:=999999)(disch:=omega)only[go_sem,zA,zM,zS,zE,zL]
       have hM3:look (mask (hideM id H2.length (H2.length+1)) H2) i3 g3=some ⟨g3,1,cl (eI .i64) q.put⟩:=by
        rw[look_mask (hideM_no (by omega) (by omega))];exact k3
       refine drawP_lM [0,1,2,3,4,5,7,8,6,9,10,11] [7] none [12,13] (hideM id H2.length (H2.length+1)) [0,1,0,0,8,24,60,0,0,380,1020,2044,4095,8191] foll (by kernel_rfl) ?_
       iterate 6 (rw[lwF_cons];simp(maxSteps:=999999)(disch:=omega)only[go_sem,zA,zM,zS,zE,zL,hM])
       rw[lwF_cons]
       simp(maxSteps:=999999)(disch:=omega)only[go_sem,zA,zM,zS,zE,zL,hM3]
       rw[lwF_cons]
       simp(maxSteps:=999999)(disch:=omega)only[go_sem,zA,zM,zS,zE,zL]
       rw[lwF_cons]
       simp(maxSteps:=999999)(disch:=omega)only[go_sem,zA,zM,zS,zE,zL]
       refine Loud.run (pick_run H2 id g _ q.put.length q2.rd (by omega)) (⟨_,Try.func72,rfl,rfl⟩:Enters Try.prog 72) rfl rfl ?_
       rintro _ H3 ⟨⟨u,rfl,u0,u1⟩,r3,f3⟩
       have u1:=u1 (by omega)
       refine⟨hok _ _ f3 rfl, ?_⟩
       have q3:=q2.pick r3 f3
       have l3:=f3.1
       simp(maxSteps:=999999)(disch:=omega)only[go_sem,zA,zM,zS,zE,zL]
       rw[lwF_cons]
       simp(maxSteps:=999999)(disch:=omega)only[go_sem,zA,zM,zS,zE,zL]
       refine Loud.run (pick_run H3 id g _ 3 q3.rd (by omega)) (⟨_,Try.func72,rfl,rfl⟩:Enters Try.prog 72) rfl rfl ?_
       rintro _ H4 ⟨⟨v,rfl,v0,v1⟩,r4,f4⟩
       have v1:=v1 (by omega)
       refine⟨hok _ _ f4 (by omega), ?_⟩
       have q4:=q3.pick r4 f4
       have l4:=f4.1
       obtain⟨un,rfl⟩:∃un:Nat,u=un:=⟨u.toNat,by omega⟩
       have k3':look H4 i3 g3=some ⟨g3,1,cl (eI .i64) q.put⟩:=by rw[f4.look (by simp;omega),f3.look (by simp;omega)];exact k3
       simp(maxSteps:=999999)(disch:=omega)only[go_sem,zA,zM,zS,zE,zL]
       have fin:∀w:Int,∃a:Gam×CV×CV×Heap,(smGD a.1∧GmE H a.2.2.2 id g (B+600) g4 J gJ a.1 a.2.1 a.2.2.1)∧a.2.2.2=H4.set i3 (some ⟨g3,1,cl (eI .i64) (q.put.set un w)⟩):=fun w=>by
        refine⟨(⟨q.task,q.put.set un w,q.moves⟩, .own i3 g3 0 q.put.length none,c4,H4.set i3 (some ⟨g3,1,cl (eI .i64) (q.put.set un w)⟩)),⟨⟨hs, ?_, ?_⟩, ?_⟩,rfl⟩
        · show(q.put.set un w).length≤16
          rw[List.length_set];omega
        · show q.moves.length≤40
          omega
        · have q4o:=q4.out
          have q4c:=q4.cell
          exact{out:=by rw[look_set_ne' (by omega)];exact q4o
                cell:=by rw[look_set_ne' (by omega)];exact q4c
                f3:=fun X hX=>by
                 have:=frz_own0 (H:=H) (X:=X) (HI:=H4.set i3 (some ⟨g3,1,cl (eI .i64) (q.put.set un w)⟩)) (look_set_eq' (by omega)) (by omega) hX
                 rwa [List.length_set]at this
                f4:=fun X hX=>OwnL.frzT (HI:=H4.set i3 (some ⟨g3,1,cl (eI .i64) (q.put.set un w)⟩)) (q4.k4.same fun i hi _=>by rw[List.getElem?_set_ne (fun he=>hd34 i3 rfl (by rw[he];exact hi))]) (fun k hk=>(hi4 k hk).1) hX
                rd:=(q4.rd.mono (by omega)).same (by rw[List.getElem?_set_ne (by omega)])
                lt:=hlt,ln:=by rw[List.length_set];omega
                frm:=fun k hk hne=>by rw[List.getElem?_set_ne (by omega)];exact q4.frm k hk hne}
       have hset:∀w:Int,setRange (cl (eI .i64) q.put) (0+un*1) [.f (.int .i64 w)]=cl (eI .i64) (q.put.set un w):=fun w=>setRange_cl (E:=eI .i64) (by omega)
       obtain⟨vn,rfl⟩:∃vn:Nat,v=vn:=⟨v.toNat,by omega⟩
       obtain⟨L3,hL3,hl3⟩:∃L3:List Int,FV.sl 3 [.int .i64 (-1), .int .i64 1, .int .i64 9]=fints L3∧L3.length=3:=⟨[-1,1,9],rfl,rfl⟩
       rw[hL3]
       obtain⟨a,ha,he⟩:=fin (nth L3 vn)
       iterate 2 (rw[lwF_cons];simp(maxSteps:=999999)(disch:=omega)only[go_sem,zA,zM,zS,zE,zL])
       simp(maxSteps:=999999)(disch:=omega)only[go_sem,zA,zM,zS,zE,zL,k3',hset]
       exact⟨a,ha,by rw[he];exact HLe.refl _⟩
     · simp(maxSteps:=999999)(disch:=omega)only[go_sem,zA,zM,zS,zE,zL,hJ]
       refine appendM_LL (E:=eI .i64) (xs:=q.moves) (ys:=q.moves) (sliceOf_of' ti22 rfl ti3) ⟨rfl,rfl,by decide,by decide⟩ h4 ⟨by omega,by omega⟩ (elems_L h4) ?_
       intro c' H7 hO hk1 hk2 hl7 hk3
       have c4n:∀k,k≤H.length∨k=J∨k=i3→¬idsC c4 k:=fun k hk h=>by
        rcases hk with hk|hk|hk
        · have:=hi4 k h;omega
        · have:=hi4 k h;omega
        · exact hd34 i3 rfl (hk▸h)
       have hJ7:look H7 J gJ=some ⟨gJ,5,[.f (.int .i64 q.task.size), .f (fints q.task.given), .f (fsl eR q.task.rules), .own i3 g3 0 q.put.length none,c4]⟩:=by
        unfold look at*
        rw[hk1 J (by omega) (c4n J (by omega))];exact hJ
       have hid7:∀k,idsC c' k→H.length<k∧k≠J:=fun k hk=>by
        rcases hk2 k hk with h|h
        · exact hi4 k h
        · omega
       simp(maxSteps:=999999)(disch:=omega)only[go_sem,zA,zM,zS,zE,zL,hJ7]
       refine⟨(⟨q.task,q.put,q.moves++q.moves⟩, .own i3 g3 0 q.put.length none,c',H7.set J (some ⟨gJ,5,[.f (.int .i64 q.task.size), .f (fints q.task.given), .f (fsl eR q.task.rules), .own i3 g3 0 q.put.length none,c']⟩)),⟨⟨hs, ?_, ?_⟩, ?_⟩,HLe.refl _⟩
       · show q.put.length≤16
         omega
       · simp;omega
       · have k3':look H7 i3 g3=some ⟨g3,1,cl (eI .i64) q.put⟩:=by
          unfold look at*
          rw[hk1 i3 (by omega) (c4n i3 (by omega))];exact k3
         exact{out:=by
                rw[look_set_ne' (by omega)]
                unfold look at*
                rw[hk1 _ (by omega) (c4n _ (by omega))];exact hout
               cell:=look_set_eq' (by omega)
               f3:=fun X hX=>frz_own0 (HI:=H7.set J (some ⟨gJ,5,[.f (.int .i64 q.task.size), .f (fints q.task.given), .f (fsl eR q.task.rules), .own i3 g3 0 q.put.length none,c']⟩)) (by rw[look_set_ne' (by omega)];exact k3') (by omega) hX
               f4:=fun X hX=>OwnL.frzT (HI:=H7.set J (some ⟨gJ,5,[.f (.int .i64 q.task.size), .f (fints q.task.given), .f (fsl eR q.task.rules), .own i3 g3 0 q.put.length none,c']⟩)) (hO.same fun i hi _=>by rw[List.getElem?_set_ne (Ne.symm (hid7 i hi).2)]) (fun k hk=>(hid7 k hk).1) hX
               rd:=(q2.rd.mono (by omega)).same (by rw[List.getElem?_set_ne (by omega),hk1 _ (by omega) (c4n _ (by omega))])
               lt:=hlt,ln:=by rw[List.length_set];omega
               frm:=fun k hk hne=>by rw[List.getElem?_set_ne (by omega),hk1 _ (by omega) (c4n _ (by omega))];exact q2.frm k hk hne}
   · rintro⟨q,c3,c4,HF⟩ ⟨hq,hE⟩
     simp only at hq hE
     have hJ:=hE.cell
     have ho:=hE.out
     have hln:=hE.ln
     have hS:∀b,look (HF.set H.length (some ⟨g4,5,b⟩)) H.length g4=some ⟨g4,5,b⟩:=fun b=>look_set_eq' (by omega)
     refine cw_sound _ _ _ _ ?_
     simp(maxSteps:=999999)(disch:=omega)only[go_sem,zA,zM,zS,zE,zL,hJ,ho,hS]
     refine⟨_,HLe.refl _,q,c3,c4,rfl,hE.f3 _ fun i hi=> ?_,hE.f4 _ fun i hi=> ?_,hq,(hE.rd.mono (by omega)).same (by rw[List.getElem?_set_ne (by omega)]),by rw[List.length_set];omega,fun k hk hn=> ?_⟩
     · rw[List.getElem?_set_ne (by omega)]
     · rw[List.getElem?_set_ne (by omega)]
     · rw[List.getElem?_set_ne (by omega)]
       exact hE.frm k hk hn
end Go.Lg
