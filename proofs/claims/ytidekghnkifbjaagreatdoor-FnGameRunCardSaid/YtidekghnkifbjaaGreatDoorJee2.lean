/- GpUC, GpUG, cut to what is needed. -/
import Derived.Test.YtidekghnkifbjaaGreatDoorJee0
import Derived.Test.YtidekghnkifbjaaGreatDoorJea9
import Derived.Test.YtidekghnkifbjaaGreatDoorJee1
import Derived.Test.YtidekghnkifbjaaGreatDoorJeb0
open List renaming getElem?_append_left → Ja, cons_append → Jb, nil_append → Jc, replicate → Jd, length_cons → Je, length_nil → Jf, getElem?_set_ne → Jg, getElem?_eq_some_iff → Jh, length_append → Jk, length_set → Jo, getElem?_eq_getElem → Jq, length_singleton → JL, getElem?_set_self → JX, mem_append → J2, mapM_cons → J4, mem_map → Qj, map_cons → Qr, mapM_nil → Qw, length_replicate → QG, map_nil → ZV
open Nat renaming reduceAdd→zA,reduceMul→zM,reduceSub→zS,reduceEqDiff→zE,reduceLeDiff→zL
set_option linter.unusedSimpArgs false
set_option linter.unusedVariables false
set_option maxRecDepth 100000
namespace Go.Lg
open Go.Proofs
attribute [-go_sem] J9 Jv
def Y0(q:QZ)(ls:List (List UInt8)):Prop:=Qd q=true∧ls.length≤40
instance(q:QZ)(ls:List (List UInt8)):Decidable (Y0 q ls):=by unfold Y0;infer_instance
def ZN(q:QZ)(ls:List (List UInt8)):QZ:=if Y0 q ls then VS q ls else ZC
def UG(q:QZ)(ls:List (List UInt8)):List (List UInt8):=if Y0 q ls then Xm q ls else[]
inductive YS(H:Jm):CV→List (List UInt8)→List Nat→Prop where
 |z:YS H (.f (.sl 0 [])) [] []
 |m:YS H .emp [] []
 |o (id g:Nat) (xs:List (List UInt8)) (h:look H id g=some ⟨g,1,cl eS xs⟩):YS H (.own id g 0 xs.length none) xs [id]
section
variable{H H':Jm}{c:CV}{ts:List (List UInt8)}{S:List Nat}
theorem YS.frzC(h:YS H c ts S):Lg.frzC H c=some (.f (Uu eS ts)):=by
 cases h with
 |z=>rfl
 |m=>rfl
 |o id g xs hl=>
  have h2:(Lg.frzC H (.own id g 0 ts.length none)).map AV.c=some (.c (.f (Uu eS ts))):=Xv (E:=eS) (lim:=none) hl
  cases h3:Lg.frzC H (.own id g 0 ts.length none)with
  |none=>rw[h3]at h2;cases h2
  |some y=>rw[h3]at h2;cases h2;rfl
theorem YS.same(h:YS H c ts S)(hs:∀i∈S,H'[i]? =H[i]?):YS H' c ts S:=by
 cases h with
 |z=>exact .z
 |m=>exact .m
 |o id g xs hl=>exact .o id g _ (by unfold look at*;rw[hs id (by simp)];exact hl)
theorem YS.shift{H0:Jm}(h:YS H c ts S):YS (H0++Q7 H0.length H) (Uf H0.length c) ts (S.map (· +H0.length)):=by
 cases h with
 |z=>exact .z
 |m=>exact .m
 |o id g xs hl=>
  have:=Up (H0:=H0) hl
  simp only[ZJ,VZ]at this
  exact .o _ g _ this
theorem YS.lt(h:YS H c ts S):∀i∈S,i<H.length:=by
 cases h with
 |z=>simp
 |m=>simp
 |o id g xs hl=>
  intro i hi
  obtain rfl:i=id:=by simpa using hi
  exact(Jh.1 (JG hl).1).1
theorem YS.blk(h:YS H c ts S):(∀i∈S,∀b,H[i]? =some (some b)→∀x∈b.cs,Vk x=true)∧Vk c=true:=by
 cases h with
 |z=>exact⟨by simp,rfl⟩
 |m=>exact⟨by simp,rfl⟩
 |o id g xs hl=>
  refine⟨fun i hi b hb x hx=> ?_,rfl⟩
  obtain rfl:i=id:=by simpa using hi
  rw[(JG hl).1]at hb
  cases hb
  simp only[cl,Qj]at hx
  obtain⟨y,hy,rfl⟩:=hx
  simp only[fl,List.mem_flatMap]at hy
  obtain⟨z,hz,hy⟩:=hy
  exact scalS _ z hz y hy
theorem Zq.toT{c:CV}{ts:List (List UInt8)}(h:Zq eS 1 H c ts):∃S,YS H (nzC c) ts S∧∀k∈S,QJ c k:=by
 cases h with
 |n=>exact⟨[], .z,by simp⟩
 |m=>exact⟨[], .m,by simp⟩
 |o id g xs hl=>exact⟨[id], .o id g _ hl,fun k hk=>by simpa[QJ]using hk⟩
end
def runQ(q:QZ)(ts:List (List UInt8)):KV:=fun v H=>∃cs c S T,v= .tup [.agg cs, .c c]∧Vx H cs q S∧YS H c ts T∧∀k∈T,k∉S
section
variable{P:Program}{o:Oper}{st:St}{K:KV}{fo:Operand}{xs:Array Operand}{ts:Array TypeId}{f:FuncId}{args args':List AV}
theorem JW.ownRun{q:QZ}{t:List (List UInt8)}(h:Jn P f args [] (runQ q t)):JW P f args (.tup [aG q,Bl eS t]):=
 JW.ice h fun r H' ⟨cs,c,S,T,h1,h2,h3,h4⟩=>by
  subst h1
  have:=h2.snap
  simp only[Zx]at this
  simp only[Vu,J4,Qw,Xw,this,h3.frzC,Option.pure_def,Option.bind_eq_bind,Option.bind_some,Option.map_some]
end
theorem JaT{q:QZ}{ls:List (List UInt8)}{i:Nat}(h:i<ls.length):VS q (ls.take (i+1))=QA (VS q (ls.take i)) (JA ls i):=by
 rw[Qg h,JcP]
 rfl
theorem JaS{q:QZ}{ls:List (List UInt8)}{i:Nat}(h:i<ls.length):Xm q (ls.take (i+1))=Xm q (ls.take i)++[Zl (VS q (ls.take i)) (JA ls i)]:=by
 rw[Qg h,GY]
 rfl
theorem Kr{n:Nat}:∀{q:QZ} (ls:List (List UInt8)),Z1 q n→(VS q ls).task=q.task
 |q,[],h=>rfl
 |q,l::ls,h=>by
  show(VS (QA q l) ls).task=q.task
  rw[Kr ls (Xs h l),Fi h.valid]
structure RnI(HI:Jm)(J g2 gJ:Nat)(q:QZ)(c1 c2 c3 c4:CV)(S:List Nat)(c:CV)(ts:List (List UInt8)):Prop where
 res:look HI 1 g2=some ⟨g2,5,[.f (.int .i64 0), .f .nil, .f .nil, .f .nil, .f .nil]⟩
 now:look HI J gJ=some ⟨gJ,5,[.f (.int .i64 q.task.size),c1,c2,c3,c4]⟩
 gam:Vx HI [.f (.int .i64 q.task.size),c1,c2,c3,c4] q S
 txs:Zq eS 1 HI c ts
 s2:∀k∈S,2≤k∧k≠J
 t2:∀k,QJ c k→2≤k∧k≠J∧k∉S∧k<HI.length
 ln:1<J∧J<HI.length
structure SnI(HI:Jm)(g1 g2:Nat)(q:QZ)(c3 c4:CV)(S3 S4:List Nat)(c:CV)(ts:List (List UInt8)):Prop where
 par:look HI 0 g1=some ⟨g1,1,[.f (.int .i64 q.task.size), .f (J5 q.task.given), .f (Uu eR q.task.rules),c3,c4]⟩
 res:look HI 1 g2=some ⟨g2,5,[.f (.int .i64 0), .f .nil, .f .nil, .f .nil, .f .nil]⟩
 k3:WK HI c3 q.put S3
 k4:WK HI c4 q.moves S4
 txs:Zq eS 1 HI c ts
 s3:∀k∈S3,2≤k
 s4:∀k∈S4,2≤k
 t2:∀k,QJ c k→2≤k∧k∉S3∧k∉S4∧k<HI.length
 ln:1<HI.length
theorem JfO{H:Jm}{x:CV}:frzC H (nzC x)=frzC H x:=by
 unfold nzC
 split
 · rfl
 · rfl
theorem Jb0{H:Jm}{q:QZ}{c3 c4 c:CV}{ts:List (List UInt8)}(k3:frzC H c3=some (.f (J5 q.put)))(k4:frzC H c4=some (.f (J5 q.moves)))(k5:frzC H c=some (.f (Uu eS ts))):
 Vu H (.tup [.agg [.f (.int .i64 q.task.size), .f (J5 q.task.given), .f (Uu eR q.task.rules),c3,c4], .c c])=some (.tup [aG q,Bl eS ts]):=by
 have e1:∀x,frzC H (.f (.int .i64 x))=some (.f (.int .i64 x)):=fun x=>rfl
 have e2:∀x,frzC H (.f (J5 x))=some (.f (J5 x)):=fun x=>rfl
 have e3:∀x,frzC H (.f (Uu eR x))=some (.f (Uu eR x)):=fun x=>rfl
 simp only[Vu,J4,Qw,Xw,k3,k4,k5,e1,e2,e3,Option.pure_def,Option.bind_eq_bind,Option.bind_some,Option.map_some]
theorem Jdr{HI:Jm}{J gJ sz:Nat}{q:QZ}{c3 c4:CV}{S3 S4:List Nat}(par:look HI J gJ=some ⟨gJ,sz,[.f (.int .i64 q.task.size), .f (J5 q.task.given), .f (Uu eR q.task.rules),c3,c4]⟩)
 (k3:WK HI c3 q.put S3) (k4:WK HI c4 q.moves S4) (n3:J∉S3) (n4:J∉S4):
 ∃S HX,B0 S HI HX∧HX.length=HI.length∧look HX J gJ=some ⟨gJ,sz,cG q⟩∧(∀k,k≠J→k∉S3→k∉S4→HX[k]? =HI[k]?)∧
  Jch S HI (.agg [.f (.int .i64 q.task.size), .f (J5 q.task.given), .f (Uu eR q.task.rules),c3,c4]) (aG q):=by
 have hlJ:=(Jh.1 (JG par).1).1
 obtain⟨S,hS⟩:∃S:Nat→Bool,S=fun k=>decide (k∈S3∨k∈S4):=⟨_,rfl⟩
 have hS0:∀k,k∉S3→k∉S4→S k=false:=fun k h3 h4=>by rw[hS];simp[h3,h4]
 have f3:frzS S HI 6 c3=some (J5 q.put):=k3.frzI fun k hk=>by rw[hS];simp[hk]
 have f4:frzS S HI 6 c4=some (J5 q.moves):=k4.frzI fun k hk=>by rw[hS];simp[hk]
 have hlt:J<(KI S HI).length:=by rw[Wr];exact hlJ
 have hcell:∀j,(hj:j<5)→∃y,(cG q)[j]? =some y∧FF S HI ([.f (.int .i64 q.task.size), .f (J5 q.task.given), .f (Uu eR q.task.rules),c3,c4][j]'hj) y:=fun j hj=>by
  match j,hj with
  |0,_=>exact⟨_,rfl, .inl rfl⟩
  |1,_=>exact⟨_,rfl, .inl rfl⟩
  |2,_=>exact⟨_,rfl, .inl rfl⟩
  |3,_=>exact⟨_,rfl, .inr ⟨_,f3,rfl⟩⟩
  |4,_=>exact⟨_,rfl, .inr ⟨_,f4,rfl⟩⟩
 refine⟨S,(KI S HI).set J (some ⟨gJ,sz,cG q⟩),fun i b hb=> ?_,by rw[Jo,Wr],JM hlt,fun k hk h3 h4=> ?_, .o _ _ (.agg _ _ rfl fun j hj=>hcell j hj)⟩
 · by_cases hi:i=J
   · subst hi
     rw[JX hlt]at hb
     cases hb
     exact⟨hS0 i n3 n4,_,(JG par).1,rfl,rfl,rfl,fun j hj=>hcell j hj⟩
   · rw[Jg (Ne.symm hi)]at hb
     obtain⟨h1,h2⟩:=NT hb
     exact⟨h1,b,h2,rfl,rfl,rfl,fun j hj=>⟨b.cs[j],by rw[Jq hj], .inl rfl⟩⟩
 · rw[Jg (Ne.symm hk),Fx (hS0 k h3 h4)]
theorem SnI.ice{HI:Jm}{g1 g2:Nat}{q:QZ}{c3 c4:CV}{S3 S4:List Nat}{c:CV}{ts:List (List UInt8)}(h:SnI HI g1 g2 q c3 c4 S3 S4 c ts):
 ∃S HX,B0 S HI HX∧HX.length=HI.length∧look HX 0 g1=some ⟨g1,1,cG q⟩∧look HX 1 g2=some ⟨g2,5,[.f (.int .i64 0), .f .nil, .f .nil, .f .nil, .f .nil]⟩∧Zq eS 1 HX c ts∧
  Jch S HI (.agg [.f (.int .i64 q.task.size), .f (J5 q.task.given), .f (Uu eR q.task.rules),c3,c4]) (aG q):=by
 have hs3:=h.s3
 have hs4:=h.s4
 obtain⟨S,HX,h1,h2,h3,h4,h5⟩:=Jdr h.par h.k3 h.k4 (fun hm=>by have:=hs3 0 hm;omega) (fun hm=>by have:=hs4 0 hm;omega)
 refine⟨S,HX,h1,h2,h3, ?_,h.txs.same fun i hi _=> ?_,h5⟩
 · have:=h.res
   unfold look at*
   rw[h4 1 (by omega) (fun hm=>by have:=hs3 1 hm;omega) (fun hm=>by have:=hs4 1 hm;omega)]
   exact this
 · have:=h.t2 i hi
   exact h4 i (by omega) this.2.1 this.2.2.1
section
variable{P:Program}{o:Oper}{st:St}{K:KV}{fo:Operand}{xs:Array Operand}{ts:Array TypeId}{f:FuncId}{args args':List AV}
theorem JZ.mkGX{q:QZ}{t:List UInt8}(hc:Jn P f args [] (JfM q t))(he:Ji P f)(ho:o.op= .call ⟨.value fo,xs,ts⟩)(ha:Qc st fo xs=some (f,args))(hf:args.all Q2=true)
 (hk:∀c3 c4 H' S3 S4,WK (st.h++H') c3 q.put S3→WK (st.h++H') c4 q.moves S4→(∀i∈S3,st.h.length≤i∧i<st.h.length+H'.length)→(∀i∈S4,st.h.length≤i∧i<st.h.length+H'.length)→
   K (.tup [.agg [.f (.int .i64 q.task.size), .f (J5 q.task.given), .f (Uu eR q.task.rules),c3,c4],WU t]) (st.h++H')):JZ P o st K:=
 JZ.mkQ hc he ho ha hf fun r H' ⟨c3,c4,h1,S3,S4,h3,h4⟩=>by
  subst h1
  exact⟨rfl,hk _ _ _ _ _ h3.shift h4.shift (by rw[QQ];exact Ug h3.lt) (by rw[QQ];exact Ug h4.lt)⟩
theorem JK.mkGX{ops:Array Oper}{s:List AV}{H:Jm}{q:QZ}{t:List UInt8}(hc:Jn P f args [] (JfM q t))(he:Ji P f)(ho:o.op= .call ⟨.value fo,xs,ts⟩)(ha:Qc ⟨s,H⟩ fo xs=some (f,args))(hf:args.all Q2=true)
 (hk:∀c3 c4 H' S3 S4,WK (H++H') c3 q.put S3→WK (H++H') c4 q.moves S4→(∀i∈S3,H.length≤i∧i<H.length+H'.length)→(∀i∈S4,H.length≤i∧i<H.length+H'.length)→
   K (.tup [.agg [.f (.int .i64 q.task.size), .f (J5 q.task.given), .f (Uu eR q.task.rules),c3,c4],WU t]) (H++H')):JK P ops o s H K:=
 JK.call ho ha fun s' ha'=>JZ.mkGX (st:=⟨s',H⟩) hc he ho ha' hf hk
end
set_option maxHeartbeats 4000000 in
theorem XU(q:QZ)(ls:List (List UInt8))(hx:smG q)(hl:ls.length≤2^40)(hll:∀l∈ls,l.length≤2^40):Jn Tryz.prog 22 [aG q,Bl eS ls] [] (runQ (ZN q ls) (UG q ls)):=by
 refine Jn.nz ?_
 refine Jn.cw (c:=_) Tryz.func22 rfl (n:=44) Tryz.ntmps22 (rs:=[.cell 4 28, .tmp 5]) rfl ?_
 simp only[Je,Jf,zA,zS,Jd,Jb,Jc]
 simp(maxSteps:=999999)(disch:=omega)only[go_sem,zA,zM,zS,zE,zL]
 intro g1 g2
 first|refine JZ.rd (QU q hx) (⟨_,Tryz.func34,rfl,rfl⟩:Ji Tryz.prog 34) rfl rfl rfl rfl ?_|refine JK.rd (QU q hx) (⟨_,Tryz.func34,rfl,rfl⟩:Ji Tryz.prog 34) rfl rfl rfl rfl ?_
 simp(maxSteps:=999999)(disch:=omega)only[go_sem,zA,zM,zS,zE,zL]
 by_cases hr:Y0 q ls
 rotate_left
 · have e1:ZN q ls=ZC:=by unfold ZN;rw[if_neg hr]
   have e2:UG q ls=[]:=by unfold UG;rw[if_neg hr]
   rw[e1,e2]
   cases hv:Qd q with
   |false=>
    simp(maxSteps:=999999)(disch:=omega)only[go_sem,zA,zM,zS,zE,zL]
    exact⟨_,J0.refl _,_,_,[],[],rfl,⟨⟨_,_,_,_,[],[],[],[],rfl,rfl, .e, .e, .e, .e⟩,by simp⟩, .z,by simp⟩
   |true=>
    have d:decide ((40:Int)<(ls.length:Int))=true:=decide_eq_true (by
     have:¬ls.length≤40:=fun h=>hr ⟨hv,h⟩
     omega)
    simp(maxSteps:=999999)(disch:=omega)only[go_sem,zA,zM,zS,zE,zL,d]
    exact⟨_,J0.refl _,_,_,[],[],rfl,⟨⟨_,_,_,_,[],[],[],[],rfl,rfl, .e, .e, .e, .e⟩,by simp⟩, .z,by simp⟩
 have e1:ZN q ls=VS q ls:=by unfold ZN;rw[if_pos hr]
 have e2:UG q ls=Xm q ls:=by unfold UG;rw[if_pos hr]
 rw[e1,e2]
 obtain⟨hv,h40⟩:=hr
 obtain⟨n,hN⟩:=Z1.of hv
 have d:decide ((40:Int)<(ls.length:Int))=false:=decide_eq_false (by omega)
 rw[hv]
 simp(maxSteps:=999999)(disch:=omega)only[go_sem,zA,zM,zS,zE,zL,d]
 refine JZ.mkG (BP q hx) (⟨_,Tryz.func44,rfl,rfl⟩:Ji Tryz.prog 44) rfl rfl rfl ?_
 intro cs H1 S1 hG1 hS1
 obtain⟨c1,c2,c3,c4,T1,T2,T3,T4,rfl,eS',k1,k2,k3,k4⟩:=hG1.ex
 simp only[Je,Jf,Jb,Jc]at hS1 hG1
 clear k1 k2 k3 k4 eS'
 simp(maxSteps:=999999)(disch:=omega)only[go_sem,zA,zM,zS,zE,zL]
 intro g3
 simp(maxSteps:=999999)(disch:=omega)only[go_sem,zA,zM,zS,zE,zL,JC,QM]
 intro g4
 obtain⟨HA,hHA⟩:∃HA:Jm,HA=some ⟨g1,1,cG q⟩::some ⟨g2,5,[.f (.int .i64 0), .f .nil, .f .nil, .f .nil, .f .nil]⟩::(H1++[some ⟨g3,5,[.f (.int .i64 q.task.size),c1,c2,c3,c4]⟩]++[some ⟨g4,1,[]⟩]):=⟨_,rfl⟩
 have hG:Vx HA [.f (.int .i64 q.task.size),c1,c2,c3,c4] q S1:=by
  rw[hHA]
  exact(hG1.app (H':=[some ⟨g3,5,[.f (.int .i64 q.task.size),c1,c2,c3,c4]⟩])).app (H':=[some ⟨g4,1,[]⟩])
 have hlA:HA.length=H1.length+4:=by rw[hHA];simp
 have hb4:look HA (H1.length+1+1+1) g4=some ⟨g4,1,[]⟩:=by
  rw[hHA]
  unfold look
  simp
 have q0:RnI HA (H1.length+1+1) g2 g3 q c1 c2 c3 c4 S1 (.own (H1.length+1+1+1) g4 0 0 none) []:=
  {res:=by rw[hHA];simp only[go_sem]
   now:=by
    rw[hHA]
    unfold look
    simp
   gam:=hG
   txs:= .o _ g4 [] hb4
   s2:=fun k hk=>by have:=hS1 k hk;omega
   t2:=fun k hk=>by
    have:k=H1.length+1+1+1:=hk
    exact⟨by omega,by omega,fun hm=>by have:=hS1 k hm;omega,by omega⟩
   ln:=by omega}
 rw[←hHA]
 clear hHA hG1 hG hb4
 refine Qp (fun(k:Nat) (b:CV×CV×CV×CV×List Nat×CV×Jm)=>ls.length -k) (fun k b=>k≤ls.length∧RnI b.2.2.2.2.2.2 (H1.length+1+1) g2 g3 (VS q (ls.take k)) b.1 b.2.1 b.2.2.1 b.2.2.2.1 b.2.2.2.2.1 b.2.2.2.2.2.1 (Xm q (ls.take k))) (fun k b=>[.a, .a, .a, .a, .k, .a, .k, .p (.c b.2.2.2.2.2.1), .a, .a, .a, .a, .a, .a, .a, .a, .a, .a, .a, .a, .a, .a, .a, .a, .k, .k, .p (int k), .a, .a, .a, .a, .a, .a, .a, .a, .a, .a, .a, .a, .a, .a, .a, .a, .a]) (fun k b=>b.2.2.2.2.2.2) 0 (c1,c2,c3,c4,S1, .own (H1.length+1+1+1) g4 0 0 none,HA)
  ⟨Nat.zero_le _,q0⟩ (by simp(maxSteps:=999999)(disch:=omega)only[go_sem,zA,zM,zS,zE,zL];rfl) (J0.refl _) ?_
 clear q0
 rintro k ⟨c1,c2,c3,c4,S,c,HI⟩ ⟨hk,hI⟩
 simp only at hI
 have hnow:=hI.now
 have hres:=hI.res
 have hln:=hI.ln
 simp(maxSteps:=999999)(disch:=omega)only[go_sem,zA,zM,zS,zE,zL]
 ((first|(with_reducible first|refine Jl ?_ ?_|refine Jj ?_ ?_|refine Jp ?_ ?_)|refine Jr ?_ ?_)<;>intro h1)
 · have h1:k<ls.length:=by omega
   have hK:=Xa (ls.take k) hN
   have hsm:smG (VS q (ls.take k)):=hK.smG (by rw[Kr _ hN];exact hx.1)
   have eG:=JaT (q:=q) h1
   have eT:=JaS (q:=q) h1
   obtain⟨q1,hq1⟩:∃q1,q1=VS q (ls.take k):=⟨_,rfl⟩
   obtain⟨l1,hl1⟩:∃l1,l1=JA ls k:=⟨_,rfl⟩
   have hl1s:l1.length≤2^40:=by rw[hl1];exact hll _ (ZP h1)
   rw[←hq1,←hl1]at eG eT
   rw[←hq1]at hsm hI hnow
   clear hK
   simp(maxSteps:=999999)(disch:=omega)only[go_sem,zA,zM,zS,zE,zL,hnow]
   rw[←hl1]
   refine JZ.mkDGT (We q1 l1 hsm hl1s) (⟨_,Tryz.func15,rfl,rfl⟩:Ji Tryz.prog 15) rfl rfl (UO hI.gam.snap rfl) ?_
   intro cs' H' S' hG' hS'
   obtain⟨d1,d2,d3,d4,U1,U2,U3,U4,rfl,eU,m1,m2,m3,m4⟩:=hG'.ex
   clear m1 m2 m3 m4 eU
   simp only at hG' hS'
   obtain⟨HB,hHB⟩:∃HB:Jm,HB=HI++H':=⟨_,rfl⟩
   have hlB:HB.length=HI.length+H'.length:=by rw[hHB];simp
   have eB:∀i,i<HI.length→HB[i]? =HI[i]? :=fun i hi=>by rw[hHB,Ja hi]
   rw[←hHB]at hG'⊢
   clear hHB
   have hnowB:look HB (H1.length+1+1) g3=some ⟨g3,5,[.f (.int .i64 q1.task.size),c1,c2,c3,c4]⟩:=by
    unfold look at*
    rw[eB _ (by omega)]
    exact hnow
   have hresB:look HB 1 g2=some ⟨g2,5,[.f (.int .i64 0), .f .nil, .f .nil, .f .nil, .f .nil]⟩:=by
    unfold look at*
    rw[eB _ (by omega)]
    exact hres
   simp(maxSteps:=999999)(disch:=omega)only[go_sem,zA,zM,zS,zE,zL]
   intro g10
   simp(maxSteps:=999999)(disch:=omega)only[go_sem,zA,zM,zS,zE,zL,JC,QM]
   have hnowX:∀x,look (HB++[x]) (H1.length+1+1) g3=some ⟨g3,5,[.f (.int .i64 q1.task.size),c1,c2,c3,c4]⟩:=fun x=>JO hnowB
   simp(maxSteps:=999999)(disch:=omega)only[go_sem,zA,zM,zS,zE,zL,hnowX]
   intro g11
   obtain⟨HC,hHC⟩:∃HC:Jm,HC=List.set (HB++[some (⟨g10,5,[.f (.int .i64 (QA q1 l1).task.size),d1,d2,d3,d4]⟩:Zv)]) (H1.length+1+1) (some ⟨g3,5,[.f (.int .i64 (QA q1 l1).task.size),d1,d2,d3,d4]⟩):=⟨_,rfl⟩
   have hlC:HC.length=HB.length+1:=by rw[hHC,Jo,Jk,JL]
   have eC:∀i,i<HB.length→i≠H1.length+1+1→HC[i]? =HB[i]? :=fun i hi hne=>by rw[hHC,Jg (Ne.symm hne),Ja hi]
   have nC:look HC (H1.length+1+1) g3=some ⟨g3,5,[.f (.int .i64 (QA q1 l1).task.size),d1,d2,d3,d4]⟩:=by
    rw[hHC]
    exact JM (by simp;omega)
   rw[←hHC,show HB.length+1=HC.length from hlC.symm]
   clear hHC
   have hO:Zq eS 1 (HC++[some ⟨g11,1,[.f (.str (bs (Zl q1 l1)))]⟩]) c (Xm q (ls.take k)):=hI.txs.same fun i hi hil=>by
    have:=hI.t2 i hi
    rw[Ja (by omega),eC i (by omega) (by omega),eB i (by omega)]
   have hlt:(Xm q (ls.take k)).length≤2^40:=by rw[Bk];simp;omega
   refine Xh (E:=eS) (v:=Zl q1 l1) (Qb Jf8 rfl ti9) ⟨rfl,rfl,by decide,by decide⟩ hO hlt JC ?_
   intro c' HD hO' hk1 hk2 hl7 hk3
   rw[Jk,JL]at hk1 hk2 hl7
   have eD:∀i,i<HC.length→¬QJ c i→HD[i]? =HC[i]? :=fun i hi hn=>by rw[hk1 i (by omega) hn,Ja hi]
   have cn:∀i,i<2∨i=H1.length+1+1∨HI.length≤i→¬QJ c i:=fun i hi h=>by have:=hI.t2 i h;omega
   simp(maxSteps:=999999)(disch:=omega)only[go_sem,zA,zM,zS,zE,zL]
   refine⟨k+1,(d1,d2,d3,d4,S',c',HD),⟨⟨by omega, ?_⟩,by omega⟩,by first|exact⟨rfl,by push_cast;rfl⟩|exact⟨by push_cast;rfl,rfl⟩|(push_cast;rfl)|trace_state,J0.refl _⟩
   simp only
   rw[eG,eT]
   exact{res:=by
          unfold look at*
          rw[eD _ (by omega) (cn 1 (by omega)),eC 1 (by omega) (by omega)]
          exact hresB
         now:=by
          unfold look at*
          rw[eD _ (by omega) (cn _ (by omega))]
          exact nC
         gam:=hG'.same fun i hi=>by
          have:=hS' i hi
          rw[eD i (by omega) (cn i (by omega)),eC i (by omega) (by omega)]
         txs:=hO'
         s2:=fun i hi=>by have:=hS' i hi;omega
         t2:=fun i hi=>by
          refine⟨?_, ?_,fun hm=> ?_,hk3 i hi⟩
          · rcases hk2 i hi with h|h
            · have:=hI.t2 i h;omega
            · omega
          · rcases hk2 i hi with h|h
            · have:=hI.t2 i h;omega
            · omega
          · have:=hS' i hm
            rcases hk2 i hi with h|h
            · have:=hI.t2 i h;omega
            · omega
         ln:=by omega}
 · obtain rfl:k=ls.length:=by omega
   rw[List.take_length]at hI hnow
   have hSet:∀b,look (HI.set 1 (some ⟨g2,5,b⟩)) 1 g2=some ⟨g2,5,b⟩:=fun b=>JM (by omega)
   simp(maxSteps:=999999)(disch:=omega)only[go_sem,zA,zM,zS,zE,zL,hnow,hres,hSet]
   obtain⟨_,_,_,_,U1,U2,U3,U4,he,eU,m1,m2,m3,m4⟩:=hI.gam.ex
   cases he
   obtain⟨T,hT,hTc⟩:=hI.txs.toT
   refine⟨_,J0.refl _,[.f (.int .i64 (VS q ls).task.size),c1,c2,c3,c4],nzC c,S,T, ?_,hI.gam.same fun i hi=> ?_,hT.same fun i hi=> ?_,fun i hi hm=>(hI.t2 i (hTc i hi)).2.2.1 hm⟩
   · show nzA (.tup [.agg [.f (.int .i64 (VS q ls).task.size),c1,c2,c3,c4], .c c])=_
     simp only[nzA,nz1,Qr,ZV,m1.nzc,m2.nzc,m3.nzc,m4.nzc]
     rfl
   · rw[Jg (by have:=hI.s2 i hi;omega)]
   · rw[Jg (by have:=hI.t2 i (hTc i hi);omega)]
set_option maxHeartbeats 4000000 in
theorem Bh(q:QZ)(ls:List (List UInt8))(hx:smG q)(hl:ls.length≤2^40)(hll:∀l∈ls,l.length≤2^40):JW Tryz.prog 19 [aG q,Bl eS ls] (.tup [aG (ZN q ls),Bl eS (UG q ls)]):=by
 refine JW.ice (Q:=fun v H=>Vu H v=some (.tup [aG (ZN q ls),Bl eS (UG q ls)])) ?_ fun r H' h=>h
 refine Jn.nz ?_
 refine Jn.cw (c:=_) Tryz.func19 rfl (n:=44) Tryz.ntmps19 (rs:=[.cell 4 28, .tmp 5]) rfl ?_
 simp only[Je,Jf,zA,zS,Jd,Jb,Jc]
 simp(maxSteps:=999999)(disch:=omega)only[go_sem,zA,zM,zS,zE,zL]
 intro g1 g2 g3
 first|refine JZ.rd (QN q hx) (⟨_,Tryz.func12,rfl,rfl⟩:Ji Tryz.prog 12) rfl rfl rfl rfl ?_|refine JK.rd (QN q hx) (⟨_,Tryz.func12,rfl,rfl⟩:Ji Tryz.prog 12) rfl rfl rfl rfl ?_
 simp(maxSteps:=999999)(disch:=omega)only[go_sem,zA,zM,zS,zE,zL]
 by_cases hr:Y0 q ls
 rotate_left
 · have e1:ZN q ls=ZC:=by unfold ZN;rw[if_neg hr]
   have e2:UG q ls=[]:=by unfold UG;rw[if_neg hr]
   rw[e1,e2]
   cases hv:Qd q with
   |false=>
    simp(maxSteps:=999999)(disch:=omega)only[go_sem,zA,zM,zS,zE,zL]
    exact⟨_,J0.refl _,Jb0 (q:=ZC) (ts:=[]) rfl rfl ((YS.o 2 g3 [] (by simp only[go_sem];rfl)).frzC)⟩
   |true=>
    have d:decide ((40:Int)<(ls.length:Int))=true:=decide_eq_true (by
     have:¬ls.length≤40:=fun h=>hr ⟨hv,h⟩
     omega)
    simp(maxSteps:=999999)(disch:=omega)only[go_sem,zA,zM,zS,zE,zL,d]
    exact⟨_,J0.refl _,Jb0 (q:=ZC) (ts:=[]) rfl rfl ((YS.o 2 g3 [] (by simp only[go_sem];rfl)).frzC)⟩
 have e1:ZN q ls=VS q ls:=by unfold ZN;rw[if_pos hr]
 have e2:UG q ls=Xm q ls:=by unfold UG;rw[if_pos hr]
 rw[e1,e2]
 obtain⟨hv,h40⟩:=hr
 obtain⟨n,hN⟩:=Z1.of hv
 have d:decide ((40:Int)<(ls.length:Int))=false:=decide_eq_false (by omega)
 rw[hv]
 simp(maxSteps:=999999)(disch:=omega)only[go_sem,zA,zM,zS,zE,zL,d]
 obtain⟨HA,hHA⟩:∃HA:Jm,HA=[some ⟨g1,1,cG q⟩,some ⟨g2,5,[.f (.int .i64 0), .f .nil, .f .nil, .f .nil, .f .nil]⟩,some ⟨g3,1,[]⟩]:=⟨_,rfl⟩
 have q0:SnI HA g1 g2 q (.f (J5 q.put)) (.f (J5 q.moves)) [] [] (.own 2 g3 0 0 none) []:=
  {par:=by rw[hHA];exact US
   res:=by rw[hHA];simp only[go_sem]
   k3:= .z _
   k4:= .z _
   txs:= .o 2 g3 [] (by rw[hHA];simp only[go_sem];rfl)
   s3:=by simp
   s4:=by simp
   t2:=fun k hk=>by
    have:k=2:=hk
    subst this
    rw[hHA]
    simp
   ln:=by rw[hHA];simp}
 rw[←hHA]
 clear hHA
 refine Qp (fun(k:Nat) (b:CV×CV×List Nat×List Nat×CV×Jm)=>ls.length -k) (fun k b=>k≤ls.length∧SnI b.2.2.2.2.2 g1 g2 (VS q (ls.take k)) b.1 b.2.1 b.2.2.1 b.2.2.2.1 b.2.2.2.2.1 (Xm q (ls.take k))) (fun k b=>[.a, .k, .k, .a, .k, .a, .p (.c b.2.2.2.2.1), .p (int k), .a, .a, .a, .a, .a, .a, .a, .a, .a, .a, .a, .a, .a, .a, .a, .a, .a, .a, .a, .a, .a, .a, .a, .a, .a, .a, .a, .a, .a, .a, .a, .a, .a, .a, .a, .a]) (fun k b=>b.2.2.2.2.2) 0 (.f (J5 q.put), .f (J5 q.moves),[],[], .own 2 g3 0 0 none,HA)
  ⟨Nat.zero_le _,q0⟩ (by simp(maxSteps:=999999)(disch:=omega)only[go_sem,zA,zM,zS,zE,zL];first|rfl|trace_state) (J0.refl _) ?_
 clear q0
 rintro k ⟨c3,c4,S3,S4,c,HI⟩ ⟨hk,hI⟩
 simp only at hI
 simp(maxSteps:=999999)(disch:=omega)only[go_sem,zA,zM,zS,zE,zL]
 ((first|(with_reducible first|refine Jl ?_ ?_|refine Jj ?_ ?_|refine Jp ?_ ?_)|refine Jr ?_ ?_)<;>intro h1)
 · have h1:k<ls.length:=by omega
   have hK:=Xa (ls.take k) hN
   have hsm:smG (VS q (ls.take k)):=hK.smG (by rw[Kr _ hN];exact hx.1)
   have eG:=JaT (q:=q) h1
   have eT:=JaS (q:=q) h1
   obtain⟨q1,hq1⟩:∃q1,q1=VS q (ls.take k):=⟨_,rfl⟩
   obtain⟨l1,hl1⟩:∃l1,l1=JA ls k:=⟨_,rfl⟩
   have hl1s:l1.length≤2^40:=by rw[hl1];exact hll _ (ZP h1)
   rw[←hq1,←hl1]at eG eT
   rw[←hq1]at hsm hI
   clear hK
   obtain⟨S,HX,hice,hlX,par,res,txs,_⟩:=hI.ice
   have htl:=hI.t2
   have hln:=hI.ln
   clear hI
   simp(maxSteps:=999999)(disch:=omega)only[go_sem,zA,zM,zS,zE,zL]
   refine Jbi S hice ?_
   refine YO [0,1,2,3,4,9,5,6,7,8] [] (some 9) [10,11] 8 [] Zd (by kernel_rfl) ?_
   iterate 7 (rw[Jv];simp(maxSteps:=999999)(disch:=omega)only[go_sem,zA,zM,zS,zE,zL,par])
   rw[←hl1]
   refine JK.mkGX (Xk q1 l1 hsm hl1s) (⟨_,Tryz.func31,rfl,rfl⟩:Ji Tryz.prog 31) rfl rfl rfl ?_
   intro d3 d4 H' U3 U4 k3 k4 m3 m4
   simp(maxSteps:=999999)(disch:=omega)only[go_sem,zA,zM,zS,zE,zL]
   obtain⟨HB,hHB⟩:∃HB:Jm,HB=HX++H':=⟨_,rfl⟩
   have hlB:HB.length=HX.length+H'.length:=by rw[hHB];simp
   have eB:∀i,i<HX.length→HB[i]? =HX[i]? :=fun i hi=>by rw[hHB,Ja hi]
   rw[←hHB]at k3 k4⊢
   clear hHB
   have parB:look HB 0 g1=some ⟨g1,1,cG q1⟩:=by
    unfold look at*
    rw[eB _ (by omega)]
    exact par
   have resB:look HB 1 g2=some ⟨g2,5,[.f (.int .i64 0), .f .nil, .f .nil, .f .nil, .f .nil]⟩:=by
    unfold look at*
    rw[eB _ (by omega)]
    exact res
   iterate 3 (rw[Jv];simp(maxSteps:=999999)(disch:=omega)only[go_sem,zA,zM,zS,zE,zL])
   intro g8
   refine VJ rfl (.inr rfl) ?_
   simp(maxSteps:=999999)(disch:=omega)only[go_sem,zA,zM,zS,zE,zL,JC,QM]
   refine VJ rfl (.inl rfl) ?_
   simp(maxSteps:=999999)(disch:=omega)only[go_sem,zA,zM,zS,zE,zL,JC]
   have parX:∀x,look (HB++[x]) 0 g1=some ⟨g1,1,cG q1⟩:=fun x=>JO parB
   simp(maxSteps:=999999)(disch:=omega)only[go_sem,zA,zM,zS,zE,zL,JC,parX]
   intro g11
   obtain⟨HC,hHC⟩:∃HC:Jm,HC=List.set (HB++[some (⟨g8,5,[.f (.int .i64 (QA q1 l1).task.size), .f (J5 (QA q1 l1).task.given), .f (Uu eR (QA q1 l1).task.rules),d3,d4]⟩:Zv)]) 0 (some ⟨g1,1,[.f (.int .i64 (QA q1 l1).task.size), .f (J5 (QA q1 l1).task.given), .f (Uu eR (QA q1 l1).task.rules),d3,d4]⟩):=⟨_,rfl⟩
   have hlC:HC.length=HB.length+1:=by rw[hHC,Jo,Jk,JL]
   have eC:∀i,i<HB.length→i≠0→HC[i]? =HB[i]? :=fun i hi hne=>by rw[hHC,Jg (Ne.symm hne),Ja hi]
   have nC:look HC 0 g1=some ⟨g1,1,[.f (.int .i64 (QA q1 l1).task.size), .f (J5 (QA q1 l1).task.given), .f (Uu eR (QA q1 l1).task.rules),d3,d4]⟩:=by
    rw[hHC]
    exact JM (by simp)
   rw[←hHC,show HB.length+1=HC.length from hlC.symm]
   clear hHC
   have hO:Zq eS 1 (HC++[some ⟨g11,1,[.f (.str (bs (Zl q1 l1)))]⟩]) c (Xm q (ls.take k)):=txs.same fun i hi hil=>by
    have:=htl i hi
    rw[Ja (by omega),eC i (by omega) (by omega),eB i (by omega)]
   have hlt:(Xm q (ls.take k)).length≤2^40:=by rw[Bk];simp;omega
   refine Xh (E:=eS) (v:=Zl q1 l1) (Qb Jf8 rfl ti9) ⟨rfl,rfl,by decide,by decide⟩ hO hlt JC ?_
   intro c' HD hO' hk1 hk2 hl7 hk3
   rw[Jk,JL]at hk1 hk2 hl7
   have eD:∀i,i<HC.length→¬QJ c i→HD[i]? =HC[i]? :=fun i hi hn=>by rw[hk1 i (by omega) hn,Ja hi]
   have cn:∀i,i<2∨HX.length≤i→¬QJ c i:=fun i hi h=>by have:=htl i h;omega
   simp(maxSteps:=999999)(disch:=omega)only[go_sem,zA,zM,zS,zE,zL]
   refine⟨k+1,(d3,d4,U3,U4,c',HD),⟨⟨by omega, ?_⟩,by omega⟩,by first|exact⟨rfl,by push_cast;rfl⟩|exact⟨by push_cast;rfl,rfl⟩|(push_cast;rfl)|trace_state,J0.refl _⟩
   simp only
   rw[eG,eT]
   exact{par:=by
          unfold look at*
          rw[eD _ (by omega) (cn 0 (by omega))]
          exact nC
         res:=by
          unfold look at*
          rw[eD _ (by omega) (cn 1 (by omega)),eC 1 (by omega) (by omega)]
          exact resB
         k3:=k3.same fun i hi=>by
          have:=m3 i hi
          rw[eD i (by omega) (cn i (by omega)),eC i (by omega) (by omega)]
         k4:=k4.same fun i hi=>by
          have:=m4 i hi
          rw[eD i (by omega) (cn i (by omega)),eC i (by omega) (by omega)]
         txs:=hO'
         s3:=fun i hi=>by have:=m3 i hi;omega
         s4:=fun i hi=>by have:=m4 i hi;omega
         t2:=fun i hi=>by
          refine⟨?_,fun hm=> ?_,fun hm=> ?_,hk3 i hi⟩
          · rcases hk2 i hi with h|h
            · have:=htl i h;omega
            · omega
          · have:=m3 i hm
            rcases hk2 i hi with h|h
            · have:=htl i h;omega
            · omega
          · have:=m4 i hm
            rcases hk2 i hi with h|h
            · have:=htl i h;omega
            · omega
         ln:=by omega}
 · obtain rfl:k=ls.length:=by omega
   rw[List.take_length]at hI
   have hK:=Xa ls hN
   have hsm:smG (VS q ls):=hK.smG (by rw[Kr _ hN];exact hx.1)
   obtain⟨S,HX,hice,hlX,par,res,txs,hIA⟩:=hI.ice
   have hln:=hI.ln
   have JbE:=hI.par
   simp(maxSteps:=999999)(disch:=omega)only[go_sem,zA,zM,zS,zE,zL,JbE]
   refine JZ.iceOne 41 (aG (VS q ls)) S hice hIA ?_
   clear hIA hice JbE
   refine JZ.mkC (ZA (VS q ls) hsm) (⟨_,Tryz.func58,rfl,rfl⟩:Ji Tryz.prog 58) rfl rfl rfl ?_
   intro d3 d4 H' U3 U4 k3 k4 n3 m3 m4
   simp only at k3 k4 m3 m4
   obtain⟨HB,hHB⟩:∃HB:Jm,HB=HX++H':=⟨_,rfl⟩
   have hlB:HB.length=HX.length+H'.length:=by rw[hHB];simp
   have eB:∀i,i<HX.length→HB[i]? =HX[i]? :=fun i hi=>by rw[hHB,Ja hi]
   rw[←hHB]at k3 k4⊢
   clear hHB
   have resB:look HB 1 g2=some ⟨g2,5,[.f (.int .i64 0), .f .nil, .f .nil, .f .nil, .f .nil]⟩:=by
    unfold look at*
    rw[eB _ (by omega)]
    exact res
   have hSet:∀b,look (HB.set 1 (some ⟨g2,5,b⟩)) 1 g2=some ⟨g2,5,b⟩:=fun b=>JM (by omega)
   have htl:=hI.t2
   simp(maxSteps:=999999)(disch:=omega)only[go_sem,zA,zM,zS,zE,zL,resB,hSet]
   have hsk:∀(x:Option Zv) (i:Nat),2≤i→(HB.set 1 x)[i]? =HB[i]? :=fun x i hi=>Jg (by omega)
   obtain⟨T,hT,hTc⟩:=txs.toT
   refine⟨_,J0.refl _, ?_⟩
   exact Jb0 (q:=VS q ls) (c3:=nzC d3) (c4:=nzC d4) (c:=nzC c) (by rw[JfO];exact(k3.same fun i hi=>hsk _ i (by have:=m3 i hi;omega)).frzC) (by rw[JfO];exact(k4.same fun i hi=>hsk _ i (by have:=m4 i hi;omega)).frzC)
    ((hT.same fun i hi=>by
      have:=htl i (hTc i hi)
      rw[hsk _ i (by omega),eB i (by omega)]).frzC)
end Go.Lg

namespace Go.Lg
open Go.Proofs
attribute [-go_sem] J9 Jv
structure DrI(HI:Jm)(g:Nat)(B:Int)(g4 g5 g7:Nat)(q x:QZ)(c3 c4:CV)(S3 S4:List Nat)(c:CV)(ts:List (List UInt8)):Prop where
 res:look HI 0 g4=some ⟨g4,5,[.f (.int .i64 0), .f .nil, .f .nil, .f .nil, .f .nil]⟩
 rd:Zm HI 1 g B
 gam:look HI 2 g5=some ⟨g5,5,cG q⟩
 cur:look HI 4 g7=some ⟨g7,5,[.f (.int .i64 x.task.size), .f (J5 x.task.given), .f (Uu eR x.task.rules),c3,c4]⟩
 k3:WK HI c3 x.put S3
 k4:WK HI c4 x.moves S4
 txs:Zq eS 1 HI c ts
 s3:∀k∈S3,5≤k
 s4:∀k∈S4,5≤k
 t2:∀k,QJ c k→(k=3∨5≤k)∧k∉S3∧k∉S4∧k<HI.length
 ln:4<HI.length
 ok:Rg q∧Rg x∧ts.length≤41∧∀l∈ts,l.length≤6
theorem Zq.some{H:Jm}{c:CV}{ts:List (List UInt8)}(h:Zq eS 1 H c ts)(hn:ts≠[]):∃i g,c= .own i g 0 ts.length none∧look H i g=Option.some ⟨g,1,cl eS ts⟩:=by
 cases h with
 |n=>exact absurd rfl hn
 |m=>exact absurd rfl hn
 |o i g xs h=>exact⟨i,g,rfl,h⟩
theorem Zq.frzT'{S:Nat→Bool}{H:Jm}{c:CV}{ts:List (List UInt8)}(h:Zq eS 1 H c ts)(hs:∀k,QJ c k→S k=true):Lg.frzS S H 6 c=Option.some (Uu eS ts):=by
 cases h with
 |n=>rfl
 |m=>rfl
 |o i g xs h=>
  have hi:S i=true:=hs i rfl
  have e1:((cl eS ts).drop 0).take (ts.length*1)=cl eS ts:=GJ (n:=1) ts
  have e2:(fl eS ts).map Fh=fl eS ts:=by
   have:∀x∈fl eS ts,Fh x=x:=fun x hx=>by
    simp only[fl,List.mem_flatMap,eS,List.mem_singleton]at hx
    obtain⟨y,_,rfl⟩:=hx
    simp only[Fh]
   exact(List.map_congr_left this).trans (List.map_id' _)
  simp only[Lg.frzS,hi,if_true,h,e1]
  rw[show cl eS ts=(fl eS ts).map CV.f from rfl,Xu,e2,Option.map_some]
set_option maxHeartbeats 4000000 in
theorem Gu(code:List Int)(hb:∀x∈code,0≤x∧x≤255)(hl:code.length≤2^40):Jn Tryz.prog 29 [Bl (eI .u8) code] [] (fun v _=>∃(q:QZ) (ls:List (List UInt8)),v= .tup [aG q,Bl eS ls]∧Rg q∧ls.length≤41∧∀l∈ls,l.length≤6):=by
 refine Jn.iceS (Q':=fun v H'=>∃(q:QZ) (c:CV) (ls:List (List UInt8)),v= .tup [aG q, .c c]∧Zq eS 1 H' c ls∧Rg q∧ls.length≤41∧∀l∈ls,l.length≤6) ?_ ?_
 rotate_left
 · rintro v H' ⟨q,c,ls,rfl,h1,h2,h3,h4⟩
   exact⟨Z8 0,H'.take 0, .tup [aG q,Bl eS ls],Xf _ _,Ji4 (.s _) (.c _ _ (KB (h1.frzT' fun k hk=>by simp[Z8]))),⟨q,ls,rfl,h2,h3,h4⟩⟩
 refine Jn.cw (c:=_) Tryz.func29 rfl (n:=43) Tryz.ntmps29 (rs:=[.cell 2 28, .tmp 3]) rfl ?_
 simp only[Je,Jf,zA,zS,Jd,Jb,Jc]
 simp(maxSteps:=999999)(disch:=omega)only[go_sem,zA,zM,zS,zE,zL]
 intro g4
 refine JZ.mkRd (F0 code hb hl) (⟨_,Tryz.func36,rfl,rfl⟩:Ji Tryz.prog 36) rfl rfl rfl ?_
 intro g H1 r1 hl1
 simp(maxSteps:=999999)(disch:=omega)only[go_sem,zA,zM,zS,zE,zL]
 refine JZ.run (F3 _ 1 g 0 14 r1 (by omega) (by omega)) (⟨_,Tryz.func35,rfl,rfl⟩:Ji Tryz.prog 35) rfl rfl ?_
 rintro _ H2 ⟨⟨q,rfl,hq⟩,r2,f2⟩
 have h4:look H2 0 g4=some ⟨g4,5,[.f (.int .i64 0), .f .nil, .f .nil, .f .nil, .f .nil]⟩:=by rw[f2.look (by simp)];exact US
 have hl2:H2.length=2:=by rw[f2.1];simp[hl1]
 obtain⟨x0,x1,rfl⟩:∃x0 x1,H2=[x0,x1]:=by
  match H2,hl2 with
  |[x0,x1],_=>exact⟨x0,x1,rfl⟩
 obtain rfl:x0=some ⟨g4,5,[.f (.int .i64 0), .f .nil, .f .nil, .f .nil, .f .nil]⟩:=by simpa using(JG h4).1
 clear h4 hl2 f2
 simp(maxSteps:=999999)(disch:=omega)only[go_sem,zA,zM,zS,zE,zL]
 intro g5 g6 g7
 have r3:Zm [some ⟨g4,5,[.f (.int .i64 0), .f .nil, .f .nil, .f .nil, .f .nil]⟩,x1,some ⟨g5,5,cG q⟩,some ⟨g6,1,[]⟩,some ⟨g7,5,cG q⟩] 1 g (0+700):=r2.app (X:=[some ⟨g5,5,cG q⟩,some ⟨g6,1,[]⟩,some ⟨g7,5,cG q⟩])
 refine JZ.run (QR _ 1 g _ 7 r3 (by omega)) (⟨_,Tryz.func68,rfl,rfl⟩:Ji Tryz.prog 68) rfl rfl ?_
 rintro _ HA ⟨⟨y,rfl,y0,y1⟩,r4,f4⟩
 have y1:=y1 (by omega)
 replace f4:Vi [some ⟨g4,5,[.f (.int .i64 0), .f .nil, .f .nil, .f .nil, .f .nil]⟩,x1,some ⟨g5,5,cG q⟩,some ⟨g6,1,[]⟩,some ⟨g7,5,cG q⟩] HA [1]:=f4
 have q0:DrI HA g 800 g4 g5 g7 q q (.f (J5 q.put)) (.f (J5 q.moves)) [] [] (.own 3 g6 0 0 none) []:=
  {res:=by rw[f4.look (by simp)];exact US
   rd:=r4.mono (by omega)
   gam:=by rw[f4.look (by simp)];unfold look;simp
   cur:=by rw[f4.look (by simp)];unfold look;simp
   k3:= .z _
   k4:= .z _
   txs:= .o 3 g6 [] (by rw[f4.look (by simp)];unfold look;simp;rfl)
   s3:=by simp
   s4:=by simp
   t2:=fun k hk=>by
    have:k=3:=hk
    subst this
    rw[f4.1]
    simp
   ln:=by rw[f4.1];simp
   ok:=⟨hq,hq,by simp,by simp⟩}
 obtain⟨yn,rfl⟩:∃yn:Nat,y=yn:=⟨y.toNat,by omega⟩
 simp(maxSteps:=999999)(disch:=omega)only[go_sem,zA,zM,zS,zE,zL]
 refine Qp (fun(k:Nat) (b:QZ×CV×CV×List Nat×List Nat×CV×List (List UInt8)×Jm)=>k) (fun k b=>k+b.2.2.2.2.2.2.1.length≤6∧DrI b.2.2.2.2.2.2.2 g (900 -15*k) g4 g5 g7 q b.1 b.2.1 b.2.2.1 b.2.2.2.1 b.2.2.2.2.1 b.2.2.2.2.2.1 b.2.2.2.2.2.2.1) (fun k b=>[.a, .a, .k, .a, .k, .k, .p (.c b.2.2.2.2.2.1), .k, .p (int k), .a, .a, .a, .a, .a, .a, .a, .a, .a, .a, .a, .a, .a, .a, .a, .a, .a, .a, .a, .a, .a, .a, .a, .a, .a, .a, .a, .a, .a, .a, .a, .a, .a, .a]) (fun k b=>b.2.2.2.2.2.2.2) yn (q, .f (J5 q.put), .f (J5 q.moves),[],[], .own 3 g6 0 0 none,[],HA)
  ⟨by simp;omega,{q0 with rd:=q0.rd.mono (by omega)}⟩ (by simp(maxSteps:=999999)(disch:=omega)only[go_sem,zA,zM,zS,zE,zL]) (J0.refl _) ?_
 clear q0 r4 f4 r3 r2 r1
 rintro k ⟨x,c3,c4,S3,S4,c,ts,HI⟩ ⟨hk,hI⟩
 simp only at hk hI
 have hln:=hI.ln
 simp(maxSteps:=999999)(disch:=omega)only[go_sem,zA,zM,zS,zE,zL]
 ((first|(with_reducible first|refine Jl ?_ ?_|refine Jj ?_ ?_|refine Jp ?_ ?_)|refine Jr ?_ ?_)<;>intro c1)
 rotate_left
 · simp(maxSteps:=999999)(disch:=omega)only[go_sem,zA,zM,zS,zE,zL]
   refine JZ.run (K4 HI 1 g _ 24 hI.rd (by omega) (by omega)) (⟨_,Tryz.func70,rfl,rfl⟩:Ji Tryz.prog 70) rfl rfl ?_
   rintro _ H5 ⟨⟨b,rfl,_⟩,r5,f5⟩
   have l5:=f5.1
   have res5:look H5 0 g4=some ⟨g4,5,[.f (.int .i64 0), .f .nil, .f .nil, .f .nil, .f .nil]⟩:=by rw[f5.look (by simp)];exact hI.res
   have gam5:look H5 2 g5=some ⟨g5,5,cG q⟩:=by rw[f5.look (by simp)];exact hI.gam
   simp(maxSteps:=999999)(disch:=omega)only[go_sem,zA,zM,zS,zE,zL]
   ((first|(with_reducible first|refine Jl ?_ ?_|refine Jj ?_ ?_|refine Jp ?_ ?_)|refine Jr ?_ ?_)<;>intro c2)
   · simp(maxSteps:=999999)(disch:=omega)only[go_sem,zA,zM,zS,zE,zL]
     intro g8
     have res6:∀b,look (H5++[b]) 0 g4=some ⟨g4,5,[.f (.int .i64 0), .f .nil, .f .nil, .f .nil, .f .nil]⟩:=fun b=>JO res5
     have gam6:∀b,look (H5++[b]) 2 g5=some ⟨g5,5,cG q⟩:=fun b=>JO gam5
     have hSet:∀x b,look ((H5++[x]).set 0 (some ⟨g4,5,b⟩)) 0 g4=some ⟨g4,5,b⟩:=fun x b=>JM (by simp)
     simp(maxSteps:=999999)(disch:=omega)only[go_sem,zA,zM,zS,zE,zL,res6,gam6,hSet]
     have hO:=Zq.o (E:=eS) (n:=1) (H:=List.set (H5++[some (⟨g8,1,cl eS (Jd (cnt 41) [])⟩:Zv)]) 0 (some ⟨g4,5,cG q⟩)) H5.length g8 (Jd (cnt 41) []) (by rw[J6 (by omega)];exact JC)
     rw[QG]at hO
     have hc:cnt 41=41:=rfl
     exact⟨_,J0.refl _,q,_,Jd (cnt 41) [],rfl,hO,hI.ok.1,by rw[QG,hc];omega,fun l hl=>by rw[(List.mem_replicate.1 hl).2];simp⟩
   · have hSet:∀b,look (H5.set 0 (some ⟨g4,5,b⟩)) 0 g4=some ⟨g4,5,b⟩:=fun b=>JM (by omega)
     simp(maxSteps:=999999)(disch:=omega)only[go_sem,zA,zM,zS,zE,zL,res5,gam5,hSet]
     refine⟨_,J0.refl _,q,c,ts,rfl,hI.txs.same fun i hi _=> ?_,hI.ok.1,by omega,hI.ok.2.2.2⟩
     have:=hI.t2 i hi
     rw[Jg (by omega),f5.2 i (by simp;omega)]
 obtain⟨k,rfl⟩:∃k',k=k'+1:=⟨k -1,by omega⟩
 have n3:∀j,j<5→j∉S3:=fun j hj hm=>by have:=hI.s3 j hm;omega
 have n4:∀j,j<5→j∉S4:=fun j hj hm=>by have:=hI.s4 j hm;omega
 obtain⟨S,HX,hice,hlX,cur,hkeep,hIA⟩:=Jdr hI.cur hI.k3 hI.k4 (n3 4 (by omega)) (n4 4 (by omega))
 have hcur:=hI.cur
 have hput:=hI.ok.2.1.2.1
 have htl:=hI.t2
 have rX:Zm HX 1 g (900 -15*((k+1:Nat):Int)):=hI.rd.same (hkeep 1 (by omega) (n3 1 (by omega)) (n4 1 (by omega)))
 simp(maxSteps:=999999)(disch:=omega)only[go_sem,zA,zM,zS,zE,zL,hcur]
 refine JZ.iceOne 23 (aG x) S hice hIA ?_
 refine JZ.run (RS HX 1 g _ 4 x rX (by omega) (by omega) hI.ok.2.1.sm (by omega)) (⟨_,Tryz.func69,rfl,rfl⟩:Ji Tryz.prog 69) rfl rfl ?_
 rintro _ H4 ⟨⟨l,rfl,hll⟩,r4,f4⟩
 have l4:=f4.1
 have e4:∀j,j≠1→j≠4→j∉S3→j∉S4→H4[j]? =HI[j]? :=fun j h1 h4 h3 h5=>by rw[f4.2 j (by simpa using h1),hkeep j h4 h3 h5]
 simp(maxSteps:=999999)(disch:=omega)only[go_sem,zA,zM,zS,zE,zL]
 intro g9
 have hO:Zq eS 1 (H4++[some ⟨g9,1,[.f (.str (bs l))]⟩]) c ts:=hI.txs.same fun i hi hil=>by
  have:=htl i hi
  rw[Ja (by omega),e4 i (by omega) (by omega) this.2.1 this.2.2.1]
 refine Xh (E:=eS) (v:=l) (Qb Jf8 rfl ti9) ⟨rfl,rfl,by decide,by decide⟩ hO (by omega) JC ?_
 intro c' H5 hO' hk1 hk2 hl7 hk3
 rw[Jk,JL]at hk1 hk2 hl7
 have eD:∀i,i<H4.length→¬QJ c i→H5[i]? =H4[i]? :=fun i hi hn=>by rw[hk1 i (by omega) hn,Ja hi]
 have cn:∀i,i<3∨i=4→¬QJ c i:=fun i hi h=>by have:=htl i h;omega
 have cur5:look H5 4 g7=some ⟨g7,5,cG x⟩:=by
  have:look H4 4 g7=some ⟨g7,5,cG x⟩:=by rw[f4.look (by simp)];exact cur
  unfold look at*
  rw[eD 4 (by omega) (cn 4 (by omega))]
  exact this
 obtain⟨i5,g10,rfl,k5⟩:=hO'.some (by simp)
 have e1:(ts++[l]).length=ts.length+1:=by simp
 simp(maxSteps:=999999)(disch:=omega)only[go_sem,zA,zM,zS,zE,zL]
 refine YO [0,1,2,3,4,5,6,7,8,9,10] [] none [11] 10 [] Zd (by kernel_rfl) ?_
 iterate 7 (rw[Jv];simp(maxSteps:=999999)(disch:=omega)only[go_sem,zA,zM,zS,zE,zL,cur5,k5,e1])
 have el:JA (ts++[l]) (((ts.length+1:Nat):Int) -1)=l:=by
  unfold JA
  rw[show((((ts.length+1:Nat):Int) -1).toNat)=ts.length by omega]
  simp
 rw[el]
 rw[Jv]
 simp(maxSteps:=999999)(disch:=omega)only[go_sem,zA,zM,zS,zE,zL]
 refine JK.mkGX (Xk x l hI.ok.2.1.sm (by omega)) (⟨_,Tryz.func31,rfl,rfl⟩:Ji Tryz.prog 31) rfl rfl rfl ?_
 intro d3 d4 H' U3 U4 k3 k4 m3 m4
 simp(maxSteps:=999999)(disch:=omega)only[go_sem,zA,zM,zS,zE,zL]
 obtain⟨HB,hHB⟩:∃HB:Jm,HB=H5++H':=⟨_,rfl⟩
 have hlB:HB.length=H5.length+H'.length:=by rw[hHB];simp
 have eB:∀i,i<H5.length→HB[i]? =H5[i]? :=fun i hi=>by rw[hHB,Ja hi]
 rw[←hHB]at k3 k4⊢
 clear hHB
 have curB:look HB 4 g7=some ⟨g7,5,cG x⟩:=by
  unfold look at*
  rw[eB 4 (by omega)]
  exact cur5
 iterate 3 (rw[Jv];simp(maxSteps:=999999)(disch:=omega)only[go_sem,zA,zM,zS,zE,zL])
 refine VJ rfl (.inr rfl) ?_
 simp(maxSteps:=999999)(disch:=omega)only[go_sem,zA,zM,zS,zE,zL,curB]
 have l5:=hk3 i5 rfl
 have hkB:∀(X:Option Zv) (i:Nat),i≠4→(HB.set 4 X)[i]? =HB[i]? :=fun X i hi=>Jg (Ne.symm hi)
 have eH:∀(X:Option Zv) (i:Nat),i≠1→i≠4→i<HI.length→¬QJ c i→i∉S3→i∉S4→(HB.set 4 X)[i]? =HI[i]? :=fun X i h1 h4 hi hc h3 h5=>by
  rw[hkB X i h4,eB i (by omega),eD i (by omega) hc,e4 i h1 h4 h3 h5]
 refine⟨k,(QA x l,d3,d4,U3,U4, .own i5 g10 0 (ts.length+1) none,ts++[l],HB.set 4 (some ⟨g7,5,[.f (.int .i64 (QA x l).task.size), .f (J5 (QA x l).task.given), .f (Uu eR (QA x l).task.rules),d3,d4]⟩)),⟨⟨by rw[e1];omega, ?_⟩,by omega⟩,⟨rfl,by omega⟩,J0.refl _⟩
 simp only
 exact{res:=by
        have:=hI.res
        unfold look at*
        rw[eH _ 0 (by omega) (by omega) (by omega) (cn 0 (by omega)) (n3 0 (by omega)) (n4 0 (by omega))]
        exact this
       rd:=by
        refine Zm.mono ?_ (show(900:Int) -15*((k+1:Nat):Int)+10≤_ by omega)
        exact r4.same (by rw[hkB _ 1 (by omega),eB 1 (by omega),eD 1 (by omega) (cn 1 (by omega))])
       gam:=by
        have:=hI.gam
        unfold look at*
        rw[eH _ 2 (by omega) (by omega) (by omega) (cn 2 (by omega)) (n3 2 (by omega)) (n4 2 (by omega))]
        exact this
       cur:=JM (by omega)
       k3:=k3.same fun i hi=>hkB _ i (by have:=m3 i hi;omega)
       k4:=k4.same fun i hi=>hkB _ i (by have:=m4 i hi;omega)
       txs:=by
        have h0:i5≠4:=by
         rcases hk2 i5 rfl with h|h
         · have:=htl i5 h;omega
         · omega
        have:=Zq.o (E:=eS) (n:=1) (H:=HB.set 4 (some ⟨g7,5,[.f (.int .i64 (QA x l).task.size), .f (J5 (QA x l).task.given), .f (Uu eR (QA x l).task.rules),d3,d4]⟩)) i5 g10 (ts++[l]) (by
         unfold look at*
         rw[hkB _ i5 h0,eB i5 (by omega)]
         exact k5)
        rwa [e1]at this
       s3:=fun i hi=>by have:=m3 i hi;omega
       s4:=fun i hi=>by have:=m4 i hi;omega
       t2:=fun i hi=>by
        obtain rfl:i=i5:=hi
        have hx:(i=3∨5≤i)∧i<H5.length:=by
         refine⟨?_,l5⟩
         rcases hk2 i rfl with h|h
         · have:=htl i h;omega
         · omega
        exact⟨hx.1,fun hm=>by have:=m3 i hm;omega,fun hm=>by have:=m4 i hm;omega,by rw[Jo];omega⟩
       ln:=by rw[Jo];omega
       ok:=⟨hI.ok.1,JkR hI.ok.2.1 l,by rw[e1];omega,fun w hw=>by
        rcases J2.1 hw with hw|hw
        · exact hI.ok.2.2.2 w hw
        · obtain rfl:w=l:=by simpa using hw
          exact hll⟩}
end Go.Lg
