/- GpUC, GpUD, cut to what is needed. -/
import Derived.Test.YtidekghnkifbjaaGreatDoorJdd5
import Derived.Test.YtidekghnkifbjaaGreatDoorJdd3
import Derived.Test.YtidekghnkifbjaaGreatDoorJdb1
open List renaming length_cons → Ja, cons_append → Jb, getElem?_append_left → Jc, nil_append → Jd, length_nil → Je, replicate → Jf, getElem?_eq_some_iff → Jh, getElem?_set_ne → Ji, getElem?_eq_getElem → Jl, length_set → Jp, length_append → Jq, take_of_length_le → Js, getElem?_set_self → JE, mem_append → JI, length_singleton → JQ, mapM_cons → J3, mem_map → Qg, map_cons → Qh, mem_cons → Qn, map_append → Qo, mapM_nil → QB, take_append_drop → QD, length_replicate → Q5, sum_cons → Zw, map_nil → ZJ, sum_append → US, all_cons → UZ, all_nil → V6, sum_nil → Yt
open Nat renaming reduceAdd→zA,reduceMul→zM,reduceSub→zS,reduceEqDiff→zE,reduceLeDiff→zL
set_option linter.unusedSimpArgs false
set_option linter.unusedVariables false
set_option maxRecDepth 100000
namespace Go.Lg
open Go.Proofs
attribute [-go_sem] Qf J0
def Jao(q:QU)(ls:List (List UInt8)):Prop:=Qp q=true∧ls.length≤40
instance(q:QU)(ls:List (List UInt8)):Decidable (Jao q ls):=by unfold Jao;infer_instance
def W6(q:QU)(ls:List (List UInt8)):QU:=if Jao q ls then VL q ls else ZQ
def Xp(q:QU)(ls:List (List UInt8)):List (List UInt8):=if Jao q ls then XL q ls else[]
inductive Vx(H:Jn):CV→List (List UInt8)→List Nat→Prop where
 |z:Vx H (.f (.sl 0 [])) [] []
 |m:Vx H .emp [] []
 |o (id g:Nat) (xs:List (List UInt8)) (h:look H id g=some ⟨g,1,cl eS xs⟩):Vx H (.own id g 0 xs.length none) xs [id]
section
variable{H H':Jn}{c:CV}{ts:List (List UInt8)}{S:List Nat}
theorem Vx.frzC(h:Vx H c ts S):Lg.frzC H c=some (.f (VN eS ts)):=by
 cases h with
 |z=>rfl
 |m=>rfl
 |o id g xs hl=>
  have h2:(Lg.frzC H (.own id g 0 ts.length none)).map AV.c=some (.c (.f (VN eS ts))):=XV (E:=eS) (lim:=none) hl
  cases h3:Lg.frzC H (.own id g 0 ts.length none)with
  |none=>rw[h3]at h2;cases h2
  |some y=>rw[h3]at h2;cases h2;rfl
theorem Vx.same(h:Vx H c ts S)(hs:∀i∈S,H'[i]? =H[i]?):Vx H' c ts S:=by
 cases h with
 |z=>exact .z
 |m=>exact .m
 |o id g xs hl=>exact .o id g _ (by unfold look at*;rw[hs id (by simp)];exact hl)
theorem Vx.shift{H0:Jn}(h:Vx H c ts S):Vx (H0++Q1 H0.length H) (ZT H0.length c) ts (S.map (· +H0.length)):=by
 cases h with
 |z=>exact .z
 |m=>exact .m
 |o id g xs hl=>
  have:=UG (H0:=H0) hl
  simp only[ZF,W3]at this
  exact .o _ g _ this
theorem Vx.lt(h:Vx H c ts S):∀i∈S,i<H.length:=by
 cases h with
 |z=>simp
 |m=>simp
 |o id g xs hl=>
  intro i hi
  obtain rfl:i=id:=by simpa using hi
  exact(Jh.1 (JH hl).1).1
theorem Vx.blk(h:Vx H c ts S):(∀i∈S,∀b,H[i]? =some (some b)→∀x∈b.cs,UO x=true)∧UO c=true:=by
 cases h with
 |z=>exact⟨by simp,rfl⟩
 |m=>exact⟨by simp,rfl⟩
 |o id g xs hl=>
  refine⟨fun i hi b hb x hx=> ?_,rfl⟩
  obtain rfl:i=id:=by simpa using hi
  rw[(JH hl).1]at hb
  cases hb
  simp only[cl,Qg]at hx
  obtain⟨y,hy,rfl⟩:=hx
  simp only[fl,List.mem_flatMap]at hy
  obtain⟨z,hz,hy⟩:=hy
  exact scalS _ z hz y hy
theorem UE.toT{c:CV}{ts:List (List UInt8)}(h:UE eS 1 H c ts):∃S,Vx H (nzC c) ts S∧∀k∈S,Q6 c k:=by
 cases h with
 |n=>exact⟨[], .z,by simp⟩
 |m=>exact⟨[], .m,by simp⟩
 |o id g xs hl=>exact⟨[id], .o id g _ hl,fun k hk=>by simpa[Q6]using hk⟩
end
def JjS(q:QU)(ts:List (List UInt8)):KV:=fun v H=>∃cs c S T,v= .tup [.agg cs, .c c]∧UF H cs q S∧Vx H c ts T∧∀k∈T,k∉S
def runS(q:QU)(ts:List (List UInt8)):KV:=fun v H=>∃cs c S T,v= .tup [.agg cs, .c c]∧UF H cs q S∧Vx H c ts T∧(∀k∈T,k∉S)∧XK H∧cs.all UO=true∧UO c=true
theorem Jk.runS{P:Program}{f:FuncId}{args:List AV}{H:Jn}{q:QU}{ts:List (List UInt8)}(h:Jk P f args H (JjS q ts)):Jk P f args H (Lg.runS q ts):=
 h.weaker fun v H' ⟨cs,c,S,T,h1,h2,h3,h4⟩=>⟨Y4 (S++T) H',Y0 _ _,cs,c,S,T,h1,h2.same fun i hi=>WZ (List.mem_append_left _ hi) (h2.lt i hi),h3.same fun i hi=>WZ (List.mem_append_right _ hi) (h3.lt i hi),h4,
  W4 (fun i hi=>by
   rcases JI.1 hi with hi|hi
   · exact h2.blk.1 i hi
   · exact h3.blk.1 i hi),h2.blk.2,h3.blk.2⟩
section
variable{P:Program}{o:Oper}{st:St}{K:KV}{fo:Operand}{xs:Array Operand}{ts:Array TypeId}{f:FuncId}{args args':List AV}
theorem JU.mkRun{q:QU}{t:List (List UInt8)}(hc:Jk P f args' [] (JjS q t))(he:Jg P f)(ho:o.op= .call ⟨.value fo,xs,ts⟩)(ha:Qb st fo xs=some (f,args))(hs:args.mapM (Zs st.h)=some args')
 (hk:∀cs c H' S T,UF (st.h++H') cs q S→Vx (st.h++H') c t T→(∀k∈T,k∉S)→(∀i∈S,st.h.length≤i∧i<st.h.length+H'.length)→(∀i∈T,st.h.length≤i∧i<st.h.length+H'.length)→K (.tup [.agg cs, .c c]) (st.h++H')):JU P o st K:=
 JU.mkD (Jk.runS hc) he ho ha hs fun r H' ⟨cs,c,S,T,h1,h2,h3,h4,h5,h6,h7⟩=>by
  subst h1
  refine⟨⟨rfl,by simp only[Lg.scal1,UZ,V6,Jal,h6,h7,Bool.true_and,Bool.and_true],h5⟩,hk _ _ _ _ _ h2.shift h3.shift (fun k hk hm=> ?_) (by rw[QI];exact ZX h2.lt) (by rw[QI];exact ZX h3.lt)⟩
  obtain⟨a,ha,rfl⟩:=Qg.1 hk
  obtain⟨b,hb,he⟩:=Qg.1 hm
  have:b=a:=by omega
  subst this
  exact h4 b ha hb
theorem JM.ownRun{q:QU}{t:List (List UInt8)}(h:Jk P f args [] (JjS q t)):JM P f args (.tup [aG q,Yf eS t]):=
 JM.ice h fun r H' ⟨cs,c,S,T,h1,h2,h3,h4⟩=>by
  subst h1
  have:=h2.snap
  simp only[Zs]at this
  simp only[Vu,J3,QB,XA,this,h3.frzC,Option.pure_def,Option.bind_eq_bind,Option.bind_some,Option.map_some]
end
theorem Jap{q:QU}{ls:List (List UInt8)}{i:Nat}(h:i<ls.length):VL q (ls.take (i+1))=Zk (VL q (ls.take i)) (Jy ls i):=by
 rw[Qa h,Jhz]
 rfl
theorem Jan{q:QU}{ls:List (List UInt8)}{i:Nat}(h:i<ls.length):XL q (ls.take (i+1))=XL q (ls.take i)++[UB (VL q (ls.take i)) (Jy ls i)]:=by
 rw[Qa h,Jcl]
 rfl
theorem RM{n:Nat}:∀{q:QU} (ls:List (List UInt8)),UM q n→(VL q ls).task=q.task
 |q,[],h=>rfl
 |q,l::ls,h=>by
  show(VL (Zk q l) ls).task=q.task
  rw[RM ls (GS h l),Jgg h.valid]
structure RnI(HI:Jn)(J g2 gJ:Nat)(q:QU)(c1 c2 c3 c4:CV)(S:List Nat)(c:CV)(ts:List (List UInt8)):Prop where
 res:look HI 1 g2=some ⟨g2,5,[.f (.int .i64 0), .f .nil, .f .nil, .f .nil, .f .nil]⟩
 now:look HI J gJ=some ⟨gJ,5,[.f (.int .i64 q.task.size),c1,c2,c3,c4]⟩
 gam:UF HI [.f (.int .i64 q.task.size),c1,c2,c3,c4] q S
 txs:UE eS 1 HI c ts
 s2:∀k∈S,2≤k∧k≠J
 t2:∀k,Q6 c k→2≤k∧k≠J∧k∉S∧k<HI.length
 ln:1<J∧J<HI.length
structure SnI(HI:Jn)(g1 g2:Nat)(q:QU)(c3 c4:CV)(S3 S4:List Nat)(c:CV)(ts:List (List UInt8)):Prop where
 par:look HI 0 g1=some ⟨g1,1,[.f (.int .i64 q.task.size), .f (Ql q.task.given), .f (VN eR q.task.rules),c3,c4]⟩
 res:look HI 1 g2=some ⟨g2,5,[.f (.int .i64 0), .f .nil, .f .nil, .f .nil, .f .nil]⟩
 k3:WQ HI c3 q.put S3
 k4:WQ HI c4 q.moves S4
 txs:UE eS 1 HI c ts
 s3:∀k∈S3,2≤k
 s4:∀k∈S4,2≤k
 t2:∀k,Q6 c k→2≤k∧k∉S3∧k∉S4∧k<HI.length
 ln:1<HI.length
theorem Jfm{H:Jn}{x:CV}:frzC H (nzC x)=frzC H x:=by
 unfold nzC
 split
 · rfl
 · rfl
theorem Jbz{H:Jn}{q:QU}{c3 c4 c:CV}{ts:List (List UInt8)}(k3:frzC H c3=some (.f (Ql q.put)))(k4:frzC H c4=some (.f (Ql q.moves)))(k5:frzC H c=some (.f (VN eS ts))):
 Vu H (.tup [.agg [.f (.int .i64 q.task.size), .f (Ql q.task.given), .f (VN eR q.task.rules),c3,c4], .c c])=some (.tup [aG q,Yf eS ts]):=by
 have e1:∀x,frzC H (.f (.int .i64 x))=some (.f (.int .i64 x)):=fun x=>rfl
 have e2:∀x,frzC H (.f (Ql x))=some (.f (Ql x)):=fun x=>rfl
 have e3:∀x,frzC H (.f (VN eR x))=some (.f (VN eR x)):=fun x=>rfl
 simp only[Vu,J3,QB,XA,k3,k4,k5,e1,e2,e3,Option.pure_def,Option.bind_eq_bind,Option.bind_some,Option.map_some]
theorem Jix{HI:Jn}{J gJ sz:Nat}{q:QU}{c3 c4:CV}{S3 S4:List Nat}(par:look HI J gJ=some ⟨gJ,sz,[.f (.int .i64 q.task.size), .f (Ql q.task.given), .f (VN eR q.task.rules),c3,c4]⟩)
 (k3:WQ HI c3 q.put S3) (k4:WQ HI c4 q.moves S4) (n3:J∉S3) (n4:J∉S4):
 ∃S HX,FS S HI HX∧HX.length=HI.length∧look HX J gJ=some ⟨gJ,sz,cG q⟩∧(∀k,k≠J→k∉S3→k∉S4→HX[k]? =HI[k]?)∧
  JeG S HI (.agg [.f (.int .i64 q.task.size), .f (Ql q.task.given), .f (VN eR q.task.rules),c3,c4]) (aG q):=by
 have hlJ:=(Jh.1 (JH par).1).1
 obtain⟨S,hS⟩:∃S:Nat→Bool,S=fun k=>decide (k∈S3∨k∈S4):=⟨_,rfl⟩
 have hS0:∀k,k∉S3→k∉S4→S k=false:=fun k h3 h4=>by rw[hS];simp[h3,h4]
 have f3:frzS S HI 6 c3=some (Ql q.put):=k3.frzI fun k hk=>by rw[hS];simp[hk]
 have f4:frzS S HI 6 c4=some (Ql q.moves):=k4.frzI fun k hk=>by rw[hS];simp[hk]
 have hlt:J<(Ke S HI).length:=by rw[Wi];exact hlJ
 have hcell:∀j,(hj:j<5)→∃y,(cG q)[j]? =some y∧Jjo S HI ([.f (.int .i64 q.task.size), .f (Ql q.task.given), .f (VN eR q.task.rules),c3,c4][j]'hj) y:=fun j hj=>by
  match j,hj with
  |0,_=>exact⟨_,rfl, .inl rfl⟩
  |1,_=>exact⟨_,rfl, .inl rfl⟩
  |2,_=>exact⟨_,rfl, .inl rfl⟩
  |3,_=>exact⟨_,rfl, .inr ⟨_,f3,rfl⟩⟩
  |4,_=>exact⟨_,rfl, .inr ⟨_,f4,rfl⟩⟩
 refine⟨S,(Ke S HI).set J (some ⟨gJ,sz,cG q⟩),fun i b hb=> ?_,by rw[Jp,Wi],J7 hlt,fun k hk h3 h4=> ?_, .o _ _ (.agg _ _ rfl fun j hj=>hcell j hj)⟩
 · by_cases hi:i=J
   · subst hi
     rw[JE hlt]at hb
     cases hb
     exact⟨hS0 i n3 n4,_,(JH par).1,rfl,rfl,rfl,fun j hj=>hcell j hj⟩
   · rw[Ji (Ne.symm hi)]at hb
     obtain⟨h1,h2⟩:=Nk hb
     exact⟨h1,b,h2,rfl,rfl,rfl,fun j hj=>⟨b.cs[j],by rw[Jl hj], .inl rfl⟩⟩
 · rw[Ji (Ne.symm hk),B0 (hS0 k h3 h4)]
theorem SnI.ice{HI:Jn}{g1 g2:Nat}{q:QU}{c3 c4:CV}{S3 S4:List Nat}{c:CV}{ts:List (List UInt8)}(h:SnI HI g1 g2 q c3 c4 S3 S4 c ts):
 ∃S HX,FS S HI HX∧HX.length=HI.length∧look HX 0 g1=some ⟨g1,1,cG q⟩∧look HX 1 g2=some ⟨g2,5,[.f (.int .i64 0), .f .nil, .f .nil, .f .nil, .f .nil]⟩∧UE eS 1 HX c ts∧
  JeG S HI (.agg [.f (.int .i64 q.task.size), .f (Ql q.task.given), .f (VN eR q.task.rules),c3,c4]) (aG q):=by
 have hs3:=h.s3
 have hs4:=h.s4
 obtain⟨S,HX,h1,h2,h3,h4,h5⟩:=Jix h.par h.k3 h.k4 (fun hm=>by have:=hs3 0 hm;omega) (fun hm=>by have:=hs4 0 hm;omega)
 refine⟨S,HX,h1,h2,h3, ?_,h.txs.same fun i hi _=> ?_,h5⟩
 · have:=h.res
   unfold look at*
   rw[h4 1 (by omega) (fun hm=>by have:=hs3 1 hm;omega) (fun hm=>by have:=hs4 1 hm;omega)]
   exact this
 · have:=h.t2 i hi
   exact h4 i (by omega) this.2.1 this.2.2.1
section
variable{P:Program}{o:Oper}{st:St}{K:KV}{fo:Operand}{xs:Array Operand}{ts:Array TypeId}{f:FuncId}{args args':List AV}
theorem JU.mkGX{q:QU}{t:List UInt8}(hc:Jk P f args [] (Jfj q t))(he:Jg P f)(ho:o.op= .call ⟨.value fo,xs,ts⟩)(ha:Qb st fo xs=some (f,args))(hf:args.all Q2=true)
 (hk:∀c3 c4 H' S3 S4,WQ (st.h++H') c3 q.put S3→WQ (st.h++H') c4 q.moves S4→(∀i∈S3,st.h.length≤i∧i<st.h.length+H'.length)→(∀i∈S4,st.h.length≤i∧i<st.h.length+H'.length)→
   K (.tup [.agg [.f (.int .i64 q.task.size), .f (Ql q.task.given), .f (VN eR q.task.rules),c3,c4],W0 t]) (st.h++H')):JU P o st K:=
 JU.mkQ hc he ho ha hf fun r H' ⟨c3,c4,h1,S3,S4,h3,h4⟩=>by
  subst h1
  exact⟨rfl,hk _ _ _ _ _ h3.shift h4.shift (by rw[QI];exact ZX h3.lt) (by rw[QI];exact ZX h4.lt)⟩
theorem JG.mkGX{ops:Array Oper}{s:List AV}{H:Jn}{q:QU}{t:List UInt8}(hc:Jk P f args [] (Jfj q t))(he:Jg P f)(ho:o.op= .call ⟨.value fo,xs,ts⟩)(ha:Qb ⟨s,H⟩ fo xs=some (f,args))(hf:args.all Q2=true)
 (hk:∀c3 c4 H' S3 S4,WQ (H++H') c3 q.put S3→WQ (H++H') c4 q.moves S4→(∀i∈S3,H.length≤i∧i<H.length+H'.length)→(∀i∈S4,H.length≤i∧i<H.length+H'.length)→
   K (.tup [.agg [.f (.int .i64 q.task.size), .f (Ql q.task.given), .f (VN eR q.task.rules),c3,c4],W0 t]) (H++H')):JG P ops o s H K:=
 JG.call ho ha fun s' ha'=>JU.mkGX (st:=⟨s',H⟩) hc he ho ha' hf hk
end
set_option maxHeartbeats 4000000 in
theorem Jdl(q:QU)(ls:List (List UInt8))(hx:smG q)(hl:ls.length≤2^40)(hll:∀l∈ls,l.length≤2^40):Jk Tryz.prog 22 [aG q,Yf eS ls] [] (JjS (W6 q ls) (Xp q ls)):=by
 refine Jk.nz ?_
 refine Jk.cw (c:=_) Tryz.func22 rfl (n:=44) Tryz.ntmps22 (rs:=[.cell 4 28, .tmp 5]) rfl ?_
 simp only[Ja,Je,zA,zS,Jf,Jb,Jd]
 simp(maxSteps:=999999)(disch:=omega)only[go_sem,zA,zM,zS,zE,zL]
 intro g1 g2
 first|refine JU.rd (Zg q hx) (⟨_,Tryz.func34,rfl,rfl⟩:Jg Tryz.prog 34) rfl rfl rfl rfl ?_|refine JG.rd (Zg q hx) (⟨_,Tryz.func34,rfl,rfl⟩:Jg Tryz.prog 34) rfl rfl rfl rfl ?_
 simp(maxSteps:=999999)(disch:=omega)only[go_sem,zA,zM,zS,zE,zL]
 by_cases hr:Jao q ls
 rotate_left
 · have e1:W6 q ls=ZQ:=by unfold W6;rw[if_neg hr]
   have e2:Xp q ls=[]:=by unfold Xp;rw[if_neg hr]
   rw[e1,e2]
   cases hv:Qp q with
   |false=>
    simp(maxSteps:=999999)(disch:=omega)only[go_sem,zA,zM,zS,zE,zL]
    exact⟨_,J5.refl _,_,_,[],[],rfl,⟨⟨_,_,_,_,[],[],[],[],rfl,rfl, .e, .e, .e, .e⟩,by simp⟩, .z,by simp⟩
   |true=>
    have d:decide ((40:Int)<(ls.length:Int))=true:=decide_eq_true (by
     have:¬ls.length≤40:=fun h=>hr ⟨hv,h⟩
     omega)
    simp(maxSteps:=999999)(disch:=omega)only[go_sem,zA,zM,zS,zE,zL,d]
    exact⟨_,J5.refl _,_,_,[],[],rfl,⟨⟨_,_,_,_,[],[],[],[],rfl,rfl, .e, .e, .e, .e⟩,by simp⟩, .z,by simp⟩
 have e1:W6 q ls=VL q ls:=by unfold W6;rw[if_pos hr]
 have e2:Xp q ls=XL q ls:=by unfold Xp;rw[if_pos hr]
 rw[e1,e2]
 obtain⟨hv,h40⟩:=hr
 obtain⟨n,hN⟩:=UM.of hv
 have d:decide ((40:Int)<(ls.length:Int))=false:=decide_eq_false (by omega)
 rw[hv]
 simp(maxSteps:=999999)(disch:=omega)only[go_sem,zA,zM,zS,zE,zL,d]
 refine JU.mkG (Bi q hx) (⟨_,Tryz.func44,rfl,rfl⟩:Jg Tryz.prog 44) rfl rfl rfl ?_
 intro cs H1 S1 hG1 hS1
 obtain⟨c1,c2,c3,c4,T1,T2,T3,T4,rfl,eS',k1,k2,k3,k4⟩:=hG1.ex
 simp only[Ja,Je,Jb,Jd]at hS1 hG1
 clear k1 k2 k3 k4 eS'
 simp(maxSteps:=999999)(disch:=omega)only[go_sem,zA,zM,zS,zE,zL]
 intro g3
 simp(maxSteps:=999999)(disch:=omega)only[go_sem,zA,zM,zS,zE,zL,JF,Qy]
 intro g4
 obtain⟨HA,hHA⟩:∃HA:Jn,HA=some ⟨g1,1,cG q⟩::some ⟨g2,5,[.f (.int .i64 0), .f .nil, .f .nil, .f .nil, .f .nil]⟩::(H1++[some ⟨g3,5,[.f (.int .i64 q.task.size),c1,c2,c3,c4]⟩]++[some ⟨g4,1,[]⟩]):=⟨_,rfl⟩
 have hG:UF HA [.f (.int .i64 q.task.size),c1,c2,c3,c4] q S1:=by
  rw[hHA]
  exact(hG1.app (H':=[some ⟨g3,5,[.f (.int .i64 q.task.size),c1,c2,c3,c4]⟩])).app (H':=[some ⟨g4,1,[]⟩])
 have hlA:HA.length=H1.length+4:=by rw[hHA];simp
 have hb4:look HA (H1.length+1+1+1) g4=some ⟨g4,1,[]⟩:=by
  rw[hHA]
  unfold look
  simp
 have q0:RnI HA (H1.length+1+1) g2 g3 q c1 c2 c3 c4 S1 (.own (H1.length+1+1+1) g4 0 0 none) []:=
  {res:=by rw[hHA];simp only[go_sem]
   now:=by
    rw[hHA]
    unfold look
    simp
   gam:=hG
   txs:= .o _ g4 [] hb4
   s2:=fun k hk=>by have:=hS1 k hk;omega
   t2:=fun k hk=>by
    have:k=H1.length+1+1+1:=hk
    exact⟨by omega,by omega,fun hm=>by have:=hS1 k hm;omega,by omega⟩
   ln:=by omega}
 rw[←hHA]
 clear hHA hG1 hG hb4
 refine Qx (fun(k:Nat) (b:CV×CV×CV×CV×List Nat×CV×Jn)=>ls.length -k) (fun k b=>k≤ls.length∧RnI b.2.2.2.2.2.2 (H1.length+1+1) g2 g3 (VL q (ls.take k)) b.1 b.2.1 b.2.2.1 b.2.2.2.1 b.2.2.2.2.1 b.2.2.2.2.2.1 (XL q (ls.take k))) (fun k b=>[.a, .a, .a, .a, .k, .a, .k, .p (.c b.2.2.2.2.2.1), .a, .a, .a, .a, .a, .a, .a, .a, .a, .a, .a, .a, .a, .a, .a, .a, .k, .k, .p (int k), .a, .a, .a, .a, .a, .a, .a, .a, .a, .a, .a, .a, .a, .a, .a, .a, .a]) (fun k b=>b.2.2.2.2.2.2) 0 (c1,c2,c3,c4,S1, .own (H1.length+1+1+1) g4 0 0 none,HA)
  ⟨Nat.zero_le _,q0⟩ (by simp(maxSteps:=999999)(disch:=omega)only[go_sem,zA,zM,zS,zE,zL];rfl) (J5.refl _) ?_
 clear q0
 rintro k ⟨c1,c2,c3,c4,S,c,HI⟩ ⟨hk,hI⟩
 simp only at hI
 have hnow:=hI.now
 have hres:=hI.res
 have hln:=hI.ln
 simp(maxSteps:=999999)(disch:=omega)only[go_sem,zA,zM,zS,zE,zL]
 ((first|(with_reducible first|refine Jm ?_ ?_|refine Jj ?_ ?_|refine Jo ?_ ?_)|refine Jr ?_ ?_)<;>intro h1)
 · have h1:k<ls.length:=by omega
   have hK:=Ku (ls.take k) hN
   have hsm:smG (VL q (ls.take k)):=hK.smG (by rw[RM _ hN];exact hx.1)
   have eG:=Jap (q:=q) h1
   have eT:=Jan (q:=q) h1
   obtain⟨q1,hq1⟩:∃q1,q1=VL q (ls.take k):=⟨_,rfl⟩
   obtain⟨l1,hl1⟩:∃l1,l1=Jy ls k:=⟨_,rfl⟩
   have hl1s:l1.length≤2^40:=by rw[hl1];exact hll _ (Q8 h1)
   rw[←hq1,←hl1]at eG eT
   rw[←hq1]at hsm hI hnow
   clear hK
   simp(maxSteps:=999999)(disch:=omega)only[go_sem,zA,zM,zS,zE,zL,hnow]
   rw[←hl1]
   refine JU.mkDGT (Bu q1 l1 hsm hl1s) (⟨_,Tryz.func15,rfl,rfl⟩:Jg Tryz.prog 15) rfl rfl (QW hI.gam.snap rfl) ?_
   intro cs' H' S' hG' hS'
   obtain⟨d1,d2,d3,d4,U1,U2,U3,U4,rfl,eU,m1,m2,m3,m4⟩:=hG'.ex
   clear m1 m2 m3 m4 eU
   simp only at hG' hS'
   obtain⟨HB,hHB⟩:∃HB:Jn,HB=HI++H':=⟨_,rfl⟩
   have hlB:HB.length=HI.length+H'.length:=by rw[hHB];simp
   have eB:∀i,i<HI.length→HB[i]? =HI[i]? :=fun i hi=>by rw[hHB,Jc hi]
   rw[←hHB]at hG'⊢
   clear hHB
   have hnowB:look HB (H1.length+1+1) g3=some ⟨g3,5,[.f (.int .i64 q1.task.size),c1,c2,c3,c4]⟩:=by
    unfold look at*
    rw[eB _ (by omega)]
    exact hnow
   have hresB:look HB 1 g2=some ⟨g2,5,[.f (.int .i64 0), .f .nil, .f .nil, .f .nil, .f .nil]⟩:=by
    unfold look at*
    rw[eB _ (by omega)]
    exact hres
   simp(maxSteps:=999999)(disch:=omega)only[go_sem,zA,zM,zS,zE,zL]
   intro g10
   simp(maxSteps:=999999)(disch:=omega)only[go_sem,zA,zM,zS,zE,zL,JF,Qy]
   have hnowX:∀x,look (HB++[x]) (H1.length+1+1) g3=some ⟨g3,5,[.f (.int .i64 q1.task.size),c1,c2,c3,c4]⟩:=fun x=>J2 hnowB
   simp(maxSteps:=999999)(disch:=omega)only[go_sem,zA,zM,zS,zE,zL,hnowX]
   intro g11
   obtain⟨HC,hHC⟩:∃HC:Jn,HC=List.set (HB++[some (⟨g10,5,[.f (.int .i64 (Zk q1 l1).task.size),d1,d2,d3,d4]⟩:Zo)]) (H1.length+1+1) (some ⟨g3,5,[.f (.int .i64 (Zk q1 l1).task.size),d1,d2,d3,d4]⟩):=⟨_,rfl⟩
   have hlC:HC.length=HB.length+1:=by rw[hHC,Jp,Jq,JQ]
   have eC:∀i,i<HB.length→i≠H1.length+1+1→HC[i]? =HB[i]? :=fun i hi hne=>by rw[hHC,Ji (Ne.symm hne),Jc hi]
   have nC:look HC (H1.length+1+1) g3=some ⟨g3,5,[.f (.int .i64 (Zk q1 l1).task.size),d1,d2,d3,d4]⟩:=by
    rw[hHC]
    exact J7 (by simp;omega)
   rw[←hHC,show HB.length+1=HC.length from hlC.symm]
   clear hHC
   have hO:UE eS 1 (HC++[some ⟨g11,1,[.f (.str (bs (UB q1 l1)))]⟩]) c (XL q (ls.take k)):=hI.txs.same fun i hi hil=>by
    have:=hI.t2 i hi
    rw[Jc (by omega),eC i (by omega) (by omega),eB i (by omega)]
   have hlt:(XL q (ls.take k)).length≤2^40:=by rw[RQ];simp;omega
   refine JaQ (E:=eS) (v:=UB q1 l1) (ZN Jlg rfl ti9) ⟨rfl,rfl,by decide,by decide⟩ hO hlt JF ?_
   intro c' HD hO' hk1 hk2 hl7 hk3
   rw[Jq,JQ]at hk1 hk2 hl7
   have eD:∀i,i<HC.length→¬Q6 c i→HD[i]? =HC[i]? :=fun i hi hn=>by rw[hk1 i (by omega) hn,Jc hi]
   have cn:∀i,i<2∨i=H1.length+1+1∨HI.length≤i→¬Q6 c i:=fun i hi h=>by have:=hI.t2 i h;omega
   simp(maxSteps:=999999)(disch:=omega)only[go_sem,zA,zM,zS,zE,zL]
   refine⟨k+1,(d1,d2,d3,d4,S',c',HD),⟨⟨by omega, ?_⟩,by omega⟩,by first|exact⟨rfl,by push_cast;rfl⟩|exact⟨by push_cast;rfl,rfl⟩|(push_cast;rfl)|trace_state,J5.refl _⟩
   simp only
   rw[eG,eT]
   exact{res:=by
          unfold look at*
          rw[eD _ (by omega) (cn 1 (by omega)),eC 1 (by omega) (by omega)]
          exact hresB
         now:=by
          unfold look at*
          rw[eD _ (by omega) (cn _ (by omega))]
          exact nC
         gam:=hG'.same fun i hi=>by
          have:=hS' i hi
          rw[eD i (by omega) (cn i (by omega)),eC i (by omega) (by omega)]
         txs:=hO'
         s2:=fun i hi=>by have:=hS' i hi;omega
         t2:=fun i hi=>by
          refine⟨?_, ?_,fun hm=> ?_,hk3 i hi⟩
          · rcases hk2 i hi with h|h
            · have:=hI.t2 i h;omega
            · omega
          · rcases hk2 i hi with h|h
            · have:=hI.t2 i h;omega
            · omega
          · have:=hS' i hm
            rcases hk2 i hi with h|h
            · have:=hI.t2 i h;omega
            · omega
         ln:=by omega}
 · obtain rfl:k=ls.length:=by omega
   rw[List.take_length]at hI hnow
   have hSet:∀b,look (HI.set 1 (some ⟨g2,5,b⟩)) 1 g2=some ⟨g2,5,b⟩:=fun b=>J7 (by omega)
   simp(maxSteps:=999999)(disch:=omega)only[go_sem,zA,zM,zS,zE,zL,hnow,hres,hSet]
   obtain⟨_,_,_,_,U1,U2,U3,U4,he,eU,m1,m2,m3,m4⟩:=hI.gam.ex
   cases he
   obtain⟨T,hT,hTc⟩:=hI.txs.toT
   refine⟨_,J5.refl _,[.f (.int .i64 (VL q ls).task.size),c1,c2,c3,c4],nzC c,S,T, ?_,hI.gam.same fun i hi=> ?_,hT.same fun i hi=> ?_,fun i hi hm=>(hI.t2 i (hTc i hi)).2.2.1 hm⟩
   · show nzA (.tup [.agg [.f (.int .i64 (VL q ls).task.size),c1,c2,c3,c4], .c c])=_
     simp only[nzA,nz1,Qh,ZJ,m1.nzc,m2.nzc,m3.nzc,m4.nzc]
     rfl
   · rw[Ji (by have:=hI.s2 i hi;omega)]
   · rw[Ji (by have:=hI.t2 i (hTc i hi);omega)]
set_option maxHeartbeats 4000000 in
theorem Ja4(q:QU)(ls:List (List UInt8))(hx:smG q)(hl:ls.length≤2^40)(hll:∀l∈ls,l.length≤2^40):JM Tryz.prog 19 [aG q,Yf eS ls] (.tup [aG (W6 q ls),Yf eS (Xp q ls)]):=by
 refine JM.ice (Q:=fun v H=>Vu H v=some (.tup [aG (W6 q ls),Yf eS (Xp q ls)])) ?_ fun r H' h=>h
 refine Jk.nz ?_
 refine Jk.cw (c:=_) Tryz.func19 rfl (n:=44) Tryz.ntmps19 (rs:=[.cell 4 28, .tmp 5]) rfl ?_
 simp only[Ja,Je,zA,zS,Jf,Jb,Jd]
 simp(maxSteps:=999999)(disch:=omega)only[go_sem,zA,zM,zS,zE,zL]
 intro g1 g2 g3
 first|refine JU.rd (Q3 q hx) (⟨_,Tryz.func12,rfl,rfl⟩:Jg Tryz.prog 12) rfl rfl rfl rfl ?_|refine JG.rd (Q3 q hx) (⟨_,Tryz.func12,rfl,rfl⟩:Jg Tryz.prog 12) rfl rfl rfl rfl ?_
 simp(maxSteps:=999999)(disch:=omega)only[go_sem,zA,zM,zS,zE,zL]
 by_cases hr:Jao q ls
 rotate_left
 · have e1:W6 q ls=ZQ:=by unfold W6;rw[if_neg hr]
   have e2:Xp q ls=[]:=by unfold Xp;rw[if_neg hr]
   rw[e1,e2]
   cases hv:Qp q with
   |false=>
    simp(maxSteps:=999999)(disch:=omega)only[go_sem,zA,zM,zS,zE,zL]
    exact⟨_,J5.refl _,Jbz (q:=ZQ) (ts:=[]) rfl rfl ((Vx.o 2 g3 [] (by simp only[go_sem];rfl)).frzC)⟩
   |true=>
    have d:decide ((40:Int)<(ls.length:Int))=true:=decide_eq_true (by
     have:¬ls.length≤40:=fun h=>hr ⟨hv,h⟩
     omega)
    simp(maxSteps:=999999)(disch:=omega)only[go_sem,zA,zM,zS,zE,zL,d]
    exact⟨_,J5.refl _,Jbz (q:=ZQ) (ts:=[]) rfl rfl ((Vx.o 2 g3 [] (by simp only[go_sem];rfl)).frzC)⟩
 have e1:W6 q ls=VL q ls:=by unfold W6;rw[if_pos hr]
 have e2:Xp q ls=XL q ls:=by unfold Xp;rw[if_pos hr]
 rw[e1,e2]
 obtain⟨hv,h40⟩:=hr
 obtain⟨n,hN⟩:=UM.of hv
 have d:decide ((40:Int)<(ls.length:Int))=false:=decide_eq_false (by omega)
 rw[hv]
 simp(maxSteps:=999999)(disch:=omega)only[go_sem,zA,zM,zS,zE,zL,d]
 obtain⟨HA,hHA⟩:∃HA:Jn,HA=[some ⟨g1,1,cG q⟩,some ⟨g2,5,[.f (.int .i64 0), .f .nil, .f .nil, .f .nil, .f .nil]⟩,some ⟨g3,1,[]⟩]:=⟨_,rfl⟩
 have q0:SnI HA g1 g2 q (.f (Ql q.put)) (.f (Ql q.moves)) [] [] (.own 2 g3 0 0 none) []:=
  {par:=by rw[hHA];exact XR
   res:=by rw[hHA];simp only[go_sem]
   k3:= .z _
   k4:= .z _
   txs:= .o 2 g3 [] (by rw[hHA];simp only[go_sem];rfl)
   s3:=by simp
   s4:=by simp
   t2:=fun k hk=>by
    have:k=2:=hk
    subst this
    rw[hHA]
    simp
   ln:=by rw[hHA];simp}
 rw[←hHA]
 clear hHA
 refine Qx (fun(k:Nat) (b:CV×CV×List Nat×List Nat×CV×Jn)=>ls.length -k) (fun k b=>k≤ls.length∧SnI b.2.2.2.2.2 g1 g2 (VL q (ls.take k)) b.1 b.2.1 b.2.2.1 b.2.2.2.1 b.2.2.2.2.1 (XL q (ls.take k))) (fun k b=>[.a, .k, .k, .a, .k, .a, .p (.c b.2.2.2.2.1), .p (int k), .a, .a, .a, .a, .a, .a, .a, .a, .a, .a, .a, .a, .a, .a, .a, .a, .a, .a, .a, .a, .a, .a, .a, .a, .a, .a, .a, .a, .a, .a, .a, .a, .a, .a, .a, .a]) (fun k b=>b.2.2.2.2.2) 0 (.f (Ql q.put), .f (Ql q.moves),[],[], .own 2 g3 0 0 none,HA)
  ⟨Nat.zero_le _,q0⟩ (by simp(maxSteps:=999999)(disch:=omega)only[go_sem,zA,zM,zS,zE,zL];first|rfl|trace_state) (J5.refl _) ?_
 clear q0
 rintro k ⟨c3,c4,S3,S4,c,HI⟩ ⟨hk,hI⟩
 simp only at hI
 simp(maxSteps:=999999)(disch:=omega)only[go_sem,zA,zM,zS,zE,zL]
 ((first|(with_reducible first|refine Jm ?_ ?_|refine Jj ?_ ?_|refine Jo ?_ ?_)|refine Jr ?_ ?_)<;>intro h1)
 · have h1:k<ls.length:=by omega
   have hK:=Ku (ls.take k) hN
   have hsm:smG (VL q (ls.take k)):=hK.smG (by rw[RM _ hN];exact hx.1)
   have eG:=Jap (q:=q) h1
   have eT:=Jan (q:=q) h1
   obtain⟨q1,hq1⟩:∃q1,q1=VL q (ls.take k):=⟨_,rfl⟩
   obtain⟨l1,hl1⟩:∃l1,l1=Jy ls k:=⟨_,rfl⟩
   have hl1s:l1.length≤2^40:=by rw[hl1];exact hll _ (Q8 h1)
   rw[←hq1,←hl1]at eG eT
   rw[←hq1]at hsm hI
   clear hK
   obtain⟨S,HX,hice,hlX,par,res,txs,_⟩:=hI.ice
   have htl:=hI.t2
   have hln:=hI.ln
   clear hI
   simp(maxSteps:=999999)(disch:=omega)only[go_sem,zA,zM,zS,zE,zL]
   refine JgH S hice ?_
   refine JbD [0,1,2,3,4,9,5,6,7,8] [] (some 9) [10,11] 8 [] ZE (by kernel_rfl) ?_
   iterate 7 (rw[J0];simp(maxSteps:=999999)(disch:=omega)only[go_sem,zA,zM,zS,zE,zL,par])
   rw[←hl1]
   refine JG.mkGX (YU q1 l1 hsm hl1s) (⟨_,Tryz.func31,rfl,rfl⟩:Jg Tryz.prog 31) rfl rfl rfl ?_
   intro d3 d4 H' U3 U4 k3 k4 m3 m4
   simp(maxSteps:=999999)(disch:=omega)only[go_sem,zA,zM,zS,zE,zL]
   obtain⟨HB,hHB⟩:∃HB:Jn,HB=HX++H':=⟨_,rfl⟩
   have hlB:HB.length=HX.length+H'.length:=by rw[hHB];simp
   have eB:∀i,i<HX.length→HB[i]? =HX[i]? :=fun i hi=>by rw[hHB,Jc hi]
   rw[←hHB]at k3 k4⊢
   clear hHB
   have parB:look HB 0 g1=some ⟨g1,1,cG q1⟩:=by
    unfold look at*
    rw[eB _ (by omega)]
    exact par
   have resB:look HB 1 g2=some ⟨g2,5,[.f (.int .i64 0), .f .nil, .f .nil, .f .nil, .f .nil]⟩:=by
    unfold look at*
    rw[eB _ (by omega)]
    exact res
   iterate 3 (rw[J0];simp(maxSteps:=999999)(disch:=omega)only[go_sem,zA,zM,zS,zE,zL])
   intro g8
   refine Kq rfl (.inr rfl) ?_
   simp(maxSteps:=999999)(disch:=omega)only[go_sem,zA,zM,zS,zE,zL,JF,Qy]
   refine Kq rfl (.inl rfl) ?_
   simp(maxSteps:=999999)(disch:=omega)only[go_sem,zA,zM,zS,zE,zL,JF]
   have parX:∀x,look (HB++[x]) 0 g1=some ⟨g1,1,cG q1⟩:=fun x=>J2 parB
   simp(maxSteps:=999999)(disch:=omega)only[go_sem,zA,zM,zS,zE,zL,JF,parX]
   intro g11
   obtain⟨HC,hHC⟩:∃HC:Jn,HC=List.set (HB++[some (⟨g8,5,[.f (.int .i64 (Zk q1 l1).task.size), .f (Ql (Zk q1 l1).task.given), .f (VN eR (Zk q1 l1).task.rules),d3,d4]⟩:Zo)]) 0 (some ⟨g1,1,[.f (.int .i64 (Zk q1 l1).task.size), .f (Ql (Zk q1 l1).task.given), .f (VN eR (Zk q1 l1).task.rules),d3,d4]⟩):=⟨_,rfl⟩
   have hlC:HC.length=HB.length+1:=by rw[hHC,Jp,Jq,JQ]
   have eC:∀i,i<HB.length→i≠0→HC[i]? =HB[i]? :=fun i hi hne=>by rw[hHC,Ji (Ne.symm hne),Jc hi]
   have nC:look HC 0 g1=some ⟨g1,1,[.f (.int .i64 (Zk q1 l1).task.size), .f (Ql (Zk q1 l1).task.given), .f (VN eR (Zk q1 l1).task.rules),d3,d4]⟩:=by
    rw[hHC]
    exact J7 (by simp)
   rw[←hHC,show HB.length+1=HC.length from hlC.symm]
   clear hHC
   have hO:UE eS 1 (HC++[some ⟨g11,1,[.f (.str (bs (UB q1 l1)))]⟩]) c (XL q (ls.take k)):=txs.same fun i hi hil=>by
    have:=htl i hi
    rw[Jc (by omega),eC i (by omega) (by omega),eB i (by omega)]
   have hlt:(XL q (ls.take k)).length≤2^40:=by rw[RQ];simp;omega
   refine JaQ (E:=eS) (v:=UB q1 l1) (ZN Jlg rfl ti9) ⟨rfl,rfl,by decide,by decide⟩ hO hlt JF ?_
   intro c' HD hO' hk1 hk2 hl7 hk3
   rw[Jq,JQ]at hk1 hk2 hl7
   have eD:∀i,i<HC.length→¬Q6 c i→HD[i]? =HC[i]? :=fun i hi hn=>by rw[hk1 i (by omega) hn,Jc hi]
   have cn:∀i,i<2∨HX.length≤i→¬Q6 c i:=fun i hi h=>by have:=htl i h;omega
   simp(maxSteps:=999999)(disch:=omega)only[go_sem,zA,zM,zS,zE,zL]
   refine⟨k+1,(d3,d4,U3,U4,c',HD),⟨⟨by omega, ?_⟩,by omega⟩,by first|exact⟨rfl,by push_cast;rfl⟩|exact⟨by push_cast;rfl,rfl⟩|(push_cast;rfl)|trace_state,J5.refl _⟩
   simp only
   rw[eG,eT]
   exact{par:=by
          unfold look at*
          rw[eD _ (by omega) (cn 0 (by omega))]
          exact nC
         res:=by
          unfold look at*
          rw[eD _ (by omega) (cn 1 (by omega)),eC 1 (by omega) (by omega)]
          exact resB
         k3:=k3.same fun i hi=>by
          have:=m3 i hi
          rw[eD i (by omega) (cn i (by omega)),eC i (by omega) (by omega)]
         k4:=k4.same fun i hi=>by
          have:=m4 i hi
          rw[eD i (by omega) (cn i (by omega)),eC i (by omega) (by omega)]
         txs:=hO'
         s3:=fun i hi=>by have:=m3 i hi;omega
         s4:=fun i hi=>by have:=m4 i hi;omega
         t2:=fun i hi=>by
          refine⟨?_,fun hm=> ?_,fun hm=> ?_,hk3 i hi⟩
          · rcases hk2 i hi with h|h
            · have:=htl i h;omega
            · omega
          · have:=m3 i hm
            rcases hk2 i hi with h|h
            · have:=htl i h;omega
            · omega
          · have:=m4 i hm
            rcases hk2 i hi with h|h
            · have:=htl i h;omega
            · omega
         ln:=by omega}
 · obtain rfl:k=ls.length:=by omega
   rw[List.take_length]at hI
   have hK:=Ku ls hN
   have hsm:smG (VL q ls):=hK.smG (by rw[RM _ hN];exact hx.1)
   obtain⟨S,HX,hice,hlX,par,res,txs,hIA⟩:=hI.ice
   have hln:=hI.ln
   have Jbc:=hI.par
   simp(maxSteps:=999999)(disch:=omega)only[go_sem,zA,zM,zS,zE,zL,Jbc]
   refine JU.iceOne 41 (aG (VL q ls)) S hice hIA ?_
   clear hIA hice Jbc
   refine JU.mkC (Zm (VL q ls) hsm) (⟨_,Tryz.func58,rfl,rfl⟩:Jg Tryz.prog 58) rfl rfl rfl ?_
   intro d3 d4 H' U3 U4 k3 k4 n3 m3 m4
   simp only at k3 k4 m3 m4
   obtain⟨HB,hHB⟩:∃HB:Jn,HB=HX++H':=⟨_,rfl⟩
   have hlB:HB.length=HX.length+H'.length:=by rw[hHB];simp
   have eB:∀i,i<HX.length→HB[i]? =HX[i]? :=fun i hi=>by rw[hHB,Jc hi]
   rw[←hHB]at k3 k4⊢
   clear hHB
   have resB:look HB 1 g2=some ⟨g2,5,[.f (.int .i64 0), .f .nil, .f .nil, .f .nil, .f .nil]⟩:=by
    unfold look at*
    rw[eB _ (by omega)]
    exact res
   have hSet:∀b,look (HB.set 1 (some ⟨g2,5,b⟩)) 1 g2=some ⟨g2,5,b⟩:=fun b=>J7 (by omega)
   have htl:=hI.t2
   simp(maxSteps:=999999)(disch:=omega)only[go_sem,zA,zM,zS,zE,zL,resB,hSet]
   have hsk:∀(x:Option Zo) (i:Nat),2≤i→(HB.set 1 x)[i]? =HB[i]? :=fun x i hi=>Ji (by omega)
   obtain⟨T,hT,hTc⟩:=txs.toT
   refine⟨_,J5.refl _, ?_⟩
   exact Jbz (q:=VL q ls) (c3:=nzC d3) (c4:=nzC d4) (c:=nzC c) (by rw[Jfm];exact(k3.same fun i hi=>hsk _ i (by have:=m3 i hi;omega)).frzC) (by rw[Jfm];exact(k4.same fun i hi=>hsk _ i (by have:=m4 i hi;omega)).frzC)
    ((hT.same fun i hi=>by
      have:=htl i (hTc i hi)
      rw[hsk _ i (by omega),eB i (by omega)]).frzC)
end Go.Lg

namespace Go.Lg
open Go.Proofs
def wS(ls:List (List UInt8)):Nat:=ls.length+(ls.map List.length).sum
theorem Jjz(ls:List (List UInt8)){i:Nat}(h:i<ls.length):(ls.map List.length).take (i+1)=(ls.map List.length).take i++[(Jy ls i).length]:=by
 rw[←List.map_take,Qa h,Qo,List.map_take]
 rfl
theorem GU:∀{xs:List Nat} {x:Nat},x∈xs→x≤xs.sum
 |y::ys,x,h=>by
  rcases Qn.1 h with rfl|h
  · simp
  · have:=GU h
    simp only[Zw]
    omega
theorem Jk8{ls:List (List UInt8)}:∀l∈ls,l.length≤wS ls:=fun l hl=>by
 have:l.length≤(ls.map List.length).sum:=GU (Qg.2 ⟨l,hl,rfl⟩)
 unfold wS
 omega
theorem KH(ls:List (List UInt8))(left:Int)(hl:0≤left∧left≤1048576)(hx:ls.length≤9223372036854775807∧∀l∈ls,l.length≤9223372036854775807):JM Tryz.prog 18 [Yf eS ls,int left] (int (K8 (wS ls) left)):=by
 obtain⟨hx1,hx2⟩:=hx
 refine Jk.cw (c:=_) Tryz.func18 rfl (n:=28) Tryz.ntmps18 (rs:=[.tmp 4]) rfl ?_
 simp only[Ja,Je,zA,zS,Jf,Jb,Jd]
 simp(maxSteps:=999999)(disch:=omega)only[go_sem,zA,zM,zS,zE,zL]
 ((first|(with_reducible first|refine Jm ?_ ?_|refine Jj ?_ ?_|refine Jo ?_ ?_)|refine Jr ?_ ?_)<;>intro h)
 · simp(maxSteps:=999999)(disch:=omega)only[go_sem,zA,zM,zS,zE,zL]
   exact JeO (by unfold wS;omega)
 · simp(maxSteps:=999999)(disch:=omega)only[go_sem,zA,zM,zS,zE,zL]
   have hs:∀i,i≤ls.length→((ls.map List.length).take i).sum≤(ls.map List.length).sum:=fun i hi=>by
    conv=>rhs;rw[←QD i (ls.map List.length),US]
    omega
   refine JO (fun i:Nat=>ls.length -i) (fun i=>i≤ls.length∧0≤left -ls.length -((ls.map List.length).take i).sum) (fun i=>[.k, .p (int (left -ls.length -((ls.map List.length).take i).sum)), .a, .a, .a, .p (int i), .a, .a, .a, .a, .a, .a, .a, .a, .a, .a, .a, .a, .a, .a, .a, .a, .a, .a, .a, .a, .a, .a]) (fun _=>[]) 0
    ⟨Nat.zero_le _,by simp;omega⟩ (by simp(maxSteps:=999999)(disch:=omega)only[go_sem,zA,zM,zS,zE,zL];simp) (J9 _) ?_
   rintro i ⟨hi,hp⟩
   simp(maxSteps:=999999)(disch:=omega)only[go_sem,zA,zM,zS,zE,zL]
   ((first|(with_reducible first|refine Jm ?_ ?_|refine Jj ?_ ?_|refine Jo ?_ ?_)|refine Jr ?_ ?_)<;>intro h2)
   · have h2:i<ls.length:=by omega
     have hc:=hx2 _ (Q8 h2)
     have ht:=Jjz ls h2
     have hs2:=hs (i+1) h2
     rw[ht]at hs2
     simp only[US,Zw,Yt]at hs2
     simp(maxSteps:=999999)(disch:=omega)only[go_sem,zA,zM,zS,zE,zL]
     ((first|(with_reducible first|refine Jm ?_ ?_|refine Jj ?_ ?_|refine Jo ?_ ?_)|refine Jr ?_ ?_)<;>intro h3)
     · simp(maxSteps:=999999)(disch:=omega)only[go_sem,zA,zM,zS,zE,zL]
       refine JeO ?_
       unfold wS
       omega
     · simp(maxSteps:=999999)(disch:=omega)only[go_sem,zA,zM,zS,zE,zL]
       refine⟨i+1,⟨⟨by omega, ?_⟩,by omega⟩,⟨?_,by push_cast;rfl⟩,J5.refl _⟩
       · rw[ht]
         simp only[US,Zw,Yt]
         omega
       · rw[ht]
         simp only[US,Zw,Yt]
         push_cast
         omega
   · have h2:i=ls.length:=by omega
     subst h2
     have e:(ls.map List.length).take ls.length=ls.map List.length:=Js (by simp)
     rw[e]at hp
     simp(maxSteps:=999999)(disch:=omega)only[go_sem,zA,zM,zS,zE,zL]
     rw[e]
     rw[JkS (by unfold wS;omega)]
     unfold wS
     omega
theorem KG(xs:List (List UInt8))(hx:xs.length≤2^40):Jk Tryz.prog 21 [Yf eS xs] [] (RX eS 1 xs):=by
 refine Jk.cw (c:=_) Tryz.func21 rfl (n:=22) Tryz.ntmps21 (rs:=[.tmp 2]) rfl ?_
 simp only[Ja,Je,zA,zS,Jf,Jb,Jd]
 simp(maxSteps:=999999)(disch:=omega)only[go_sem,zA,zM,zS,zE,zL]
 intro g
 refine Qx (fun(i:Nat) (ys:List (List UInt8))=>xs.length -i) (fun i ys=>i≤xs.length∧ys.length=xs.length∧∀j:Nat,j<i→Jy ys j=Jy xs j) (fun i _=>[.k, .a, .a, .k, .p (int i), .a, .a, .a, .a, .a, .a, .a, .a, .a, .a, .a, .a, .a, .a, .a, .a, .a]) (fun _ ys=>[some ⟨g,1,cl eS ys⟩]) 0 (Jf xs.length [])
  ⟨Nat.zero_le _,Q5,fun j hj=>absurd hj (Nat.not_lt_zero _)⟩ (by simp(maxSteps:=999999)(disch:=omega)only[go_sem,zA,zM,zS,zE,zL];rfl) (J5.refl _) ?_
 rintro i ys ⟨hi,hl,hall⟩
 simp(maxSteps:=999999)(disch:=omega)only[go_sem,zA,zM,zS,zE,zL]
 refine QS (fun h=> ?_) (fun h=> ?_)
 · have h:i<xs.length:=by simpa using h
   simp(maxSteps:=999999)(disch:=omega)only[go_sem,zA,zM,zS,zE,zL]
   refine⟨i+1,ys.set i (Jy xs i),⟨⟨h,by simp[hl],fun j hj=> ?_⟩,by omega⟩,by simp,J5.refl _⟩
   rw[VU _ _ _ _ (by omega) (by omega)]
   split
   · simp_all
   · exact hall j (by omega)
 have h:¬i<xs.length:=by simpa using h
 simp(maxSteps:=999999)(disch:=omega)only[go_sem,zA,zM,zS,zE,zL]
 have:=V0 hl fun j hj=>hall j (by omega)
 subst this
 exact ZK (J5.refl _)
theorem UT(xs:List (List UInt8))(hx:xs.length≤2^40):JM Tryz.prog 21 [Yf eS xs] (Yf eS xs):=JM.own (KG xs hx)
end Go.Lg
