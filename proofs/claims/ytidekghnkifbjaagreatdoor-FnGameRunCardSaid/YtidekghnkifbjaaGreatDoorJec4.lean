/- GpSA, GpGG, GpRC, GpEA, cut to what is needed. -/
import Derived.Test.YtidekghnkifbjaaGreatDoorJeb5
import Derived.Test.YtidekghnkifbjaaGreatDoorJec3
import Derived.Test.YtidekghnkifbjaaGreatDoorJeb2
import Derived.Test.YtidekghnkifbjaaGreatDoorJeb9
open List renaming getElem?_append_left → Ja, cons_append → Jb, nil_append → Jc, replicate → Jd, length_cons → Je, length_nil → Jf, getElem?_set_ne → Jg, getElem?_eq_some_iff → Jh, length_append → Jk, length_set → Jo, take_of_length_le → Js, length_singleton → JL, length_take → JP, getElem?_set_self → JX
open Nat renaming reduceAdd→zA,reduceMul→zM,reduceSub→zS,reduceEqDiff→zE,reduceLeDiff→zL
set_option linter.unusedSimpArgs false
set_option linter.unusedVariables false
set_option maxRecDepth 100000
namespace Go.Lg
open Go.Proofs
attribute [-go_sem] J9
theorem Jn.retag{P:Program}{f:FuncId}{args:List AV}{H:Jm}{Q Q':KV}(h:Jn P f args H Q')(hq:∀v H',Q' v H'→Q v H'∨∃cs id g n b y,v= .tup [.agg (cs++[.own id g 0 n none]),y]∧look H' id g=some b∧n*b.sz≤b.cs.length∧
 ∀g',Q (.tup [.agg (cs++[.own id g' 0 n none]),y]) (H'.set id (some ⟨g',b.sz,b.cs.take (n*b.sz)⟩))):Jn P f args H Q:=
 fun w X vs hH hvs=>(h w X vs hH hvs).mono fun _ w' ⟨v,u,X',H',h1,h2,h3,h4,h5⟩=>by
  rcases hq v H' h5 with hQ|⟨cs,id,g,n,b,y,rfl,hl,hn,hQ⟩
  · exact⟨v,u,X',H',h1,h2,h3,h4,hQ⟩
  · obtain⟨hid,hg⟩:=JG hl
    have hlt:id<H'.length:=(Jh.1 hid).1
    obtain⟨g1,g2,cc,t,g3,g4,g5,g6⟩:=h3.blk id b hid
    obtain⟨q1,q2⟩:=Fc (w':=w') (sz':=b.sz) (cs:=b.cs.take (n*b.sz)) (cc:=cc) h3 hid (.inl rfl) g3 (fun _ _ _=>rfl) (Nat.le_refl _) rfl rfl rfl (by rw[JP];omega) (fun j hj=>by
     rw[JP]at hj
     rw[List.getElem_take]
     exact g6 j (by omega))
    refine⟨_,u,X'.new (X'.mu b.g) cc.size,_,h1, ?_,q1,h4.trans q2,hQ X'.t⟩
    cases h2 with
    |tup vs us h2=>
     refine .tup _ us fun j hj=> ?_
     match j,hj with
     |0,hj=>
      have h0:=h2 0 (by simp)
      simp only[List.getElem_cons_zero]at h0⊢
      cases hu:us 0 with
      |agg ws=>
       rw[hu]at h0
       cases h0 with
       |agg _ _ hs hc=>
        refine .agg _ _ (by simpa using hs) fun j hj=> ?_
        rw[Jk,JL]at hj
        obtain⟨z,z1,z2⟩:=hc j (by rw[Jk,JL];exact hj)
        refine⟨z,z1, ?_⟩
        by_cases hjc:j<cs.length
        · rw[List.getElem_append_left hjc]at z2⊢
          exact z2.mono q2
        · rw[List.getElem_append_right (by omega)]at z2⊢
          simp only[List.getElem_singleton]at z2⊢
          obtain⟨z3,z4,z5⟩:=z2
          obtain⟨k1,a,cap,k2,k3,k4,k5,k6⟩:=z5 b hl
          refine⟨Nat.lt_succ_self _,z4,fun blk hblk=> ?_⟩
          obtain⟨m1,m2⟩:=JG hblk
          rw[JX hlt]at m1
          cases m1
          subst hg
          refine⟨by simp only[JP];omega,a,cap,k2,k3,fun hc0=>by simpa[Cx.new]using k4 hc0, ?_, ?_⟩
          · simp only[Cx.new,if_true]
            rw[g4]
            exact k5
          · simp only[JP]
            simp only at k6
            have:n*b.sz≤cap*b.sz:=Nat.mul_le_mul_right _ k3
            omega
      |_=>rw[hu]at h0;cases h0
     |1,hj=>exact(h2 1 (by simp)).mono q2
def gamE(H:Jm)(q:QZ)(c3 c4:CV):Prop:=∃S3 S4,Ub H c3 q.put S3∧Ub H c4 q.moves S4∧∀k∈S3,k∉S4
def aE(q:QZ)(c3 c4:CV):AV:= .agg [.f (.int .i64 q.task.size), .f (J5 q.task.given), .f (Uu eR q.task.rules),c3,c4]
def XO(q:QZ)(y:AV):KV:=fun v H=>∃c3 c4,v= .tup [aE q c3 c4,y]∧gamE H q c3 c4
theorem JbF{H:Jm}{q q':QZ}{b b':Bool}{c3 c4:CV}{S3 S4:List Nat}(hq:q'=q)(hb:b'=b)(k3:Ub H c3 q.put S3)(k4:Ub H c4 q.moves S4)(hd:∀k∈S3,k∉S4):
 Uz H (XO q' (bool b')) (.tup [.agg [.f (.int .i64 q.task.size), .f (J5 q.task.given), .f (Uu eR q.task.rules),c3,c4], .c (.f (.bool b))]):=by
 subst hq hb
 exact⟨H,J0.refl _,c3,c4,rfl,S3,S4,k3,k4,hd⟩
theorem Jby(q:QZ)(cell value:Int)(hx:smG q)(hv:Qd q=true):Jn Tryz.prog 72 [aG q,int cell,int value] [] (XO (Zt q cell value) (bool (Zp q cell value))):=by
 refine Jn.cw (c:=_) Tryz.func72 rfl (n:=58) Tryz.ntmps72 (rs:=[.cell 6 28, .tmp 7]) rfl ?_
 simp only[Je,Jf,zA,zS,Jd,Jb,Jc]
 simp(maxSteps:=999999)(disch:=omega)only[go_sem,zA,zM,zS,zE,zL]
 intro g1 g2
 first|refine JZ.rd (QN q hx) (⟨_,Tryz.func12,rfl,rfl⟩:Ji Tryz.prog 12) rfl rfl rfl rfl ?_|refine JK.rd (QN q hx) (⟨_,Tryz.func12,rfl,rfl⟩:Ji Tryz.prog 12) rfl rfl rfl rfl ?_
 simp(maxSteps:=999999)(disch:=omega)only[go_sem,zA,zM,zS,zE,zL]
 ((first|(with_reducible first|refine Jl ?_ ?_|refine Jj ?_ ?_|refine Jp ?_ ?_)|refine Jr ?_ ?_)<;>intro h)
 · simp(maxSteps:=999999)(disch:=omega)only[go_sem,zA,zM,zS,zE,zL]
   obtain⟨h1,h2,h3,h4,h5,h6⟩:=Zs h
   refine JZ.mkC (ZA q hx) (⟨_,Tryz.func58,rfl,rfl⟩:Ji Tryz.prog 58) rfl rfl rfl ?_
   intro c3 c4 H1 S3 S4 k3 k4 n3 m3 m4
   simp(maxSteps:=999999)(disch:=omega)only[go_sem,zA,zM,zS,zE,zL]
   intro g3
   simp(maxSteps:=999999)(disch:=omega)only[go_sem,zA,zM,zS,zE,zL,JC,QM]
   simp only[Je,Jf,Jb,Jc]at k3 k4 m3 m4
   obtain⟨HA,hHA⟩:∃HA:Jm,HA=some ⟨g1,1,cG q⟩::some ⟨g2,5,[.f (.int .i64 0), .f .nil, .f .nil, .f .nil, .f .nil]⟩::(H1++[some ⟨g3,5,[.f (.int .i64 q.task.size), .f (J5 q.task.given), .f (Uu eR q.task.rules),c3,c4]⟩]):=⟨_,rfl⟩
   have mv:∀k,2≤k∧k<2+H1.length→∀X1 X2:Option Zv,HA[k]? =(X1::X2::H1)[k]? :=fun k hk X1 X2=>by
    rw[hHA,QI hk.1,QI hk.1,Ja (by omega)]
   have e3:=k3.same (H':=HA) fun k hk=>mv k (by have:=m3 k hk;omega) _ _
   have e4:=k4.same (H':=HA) fun k hk=>mv k (by have:=m4 k hk;omega) _ _
   have b0:look HA 0 g1=some ⟨g1,1,cG q⟩:=by rw[hHA];simp only[go_sem]
   have b1:look HA 1 g2=some ⟨g2,5,[.f (.int .i64 0), .f .nil, .f .nil, .f .nil, .f .nil]⟩:=by rw[hHA];simp only[go_sem]
   have b2:look HA (H1.length+1+1) g3=some ⟨g3,5,[.f (.int .i64 q.task.size), .f (J5 q.task.given), .f (Uu eR q.task.rules),c3,c4]⟩:=by rw[hHA];simp only[go_sem];exact JC
   have hlA:HA.length=H1.length+3:=by rw[hHA];simp
   rw[←hHA]
   clear hHA k3 k4
   have no:¬UR q cell value→Zt q cell value=q∧Zp q cell value=false:=fun hn=>by simp[Zt,Zp,h,hn]
   have fin:∀{X:Option Zv},¬UR q cell value→Uz (HA.set 1 X) (XO (Zt q cell value) (bool (Zp q cell value))) (.tup [.agg [.f (.int .i64 q.task.size), .f (J5 q.task.given), .f (Uu eR q.task.rules),c3,c4], .c (.f (.bool false))]):=fun{X} hn=>
    have hX:∀k,2≤k→(HA.set 1 X)[k]? =HA[k]? :=fun k hk=>by rw[Jg (by omega)]
    JbF (no hn).1 (no hn).2 (e3.same fun k hk=>hX k (by have:=m3 k hk;omega)) (e4.same fun k hk=>hX k (by have:=m4 k hk;omega)) n3
   refine Q3 [0,1,2,3,4,5,6,7,8,9,10,11,12,13,14,15,16,17,18,19,20,21,22,23,24,25,26] [] none [27,28,29] [] [0,0,2,6,14,31,63,127,255,255,767,1791,4095,8191,16383,32767,65535,131071,65535,524287,1048575,65535,2162687,6356991,65535,31522815,65077247,134217727,268435455,536870911] Zd (by kernel_rfl) ?_
   simp(maxSteps:=999999)(disch:=omega)only[go_sem,zA,zM,zS,zE,zL,b0]
   first|refine JZ.rd (Qz _ _ _) (⟨_,Tryz.func40,rfl,rfl⟩:Ji Tryz.prog 40) rfl rfl rfl rfl ?_|refine JK.rd (Qz _ _ _) (⟨_,Tryz.func40,rfl,rfl⟩:Ji Tryz.prog 40) rfl rfl rfl rfl ?_
   simp(maxSteps:=999999)(disch:=omega)only[go_sem,zA,zM,zS,zE,zL]
   ((with_reducible first|refine JJ ?_ ?_|refine JF ?_ ?_|refine JU ?_ ?_|refine Jw ?_ ?_|refine JH ?_ ?_|refine JI ?_ ?_|refine JD ?_ ?_|refine JE ?_ ?_|refine JS ?_ ?_|refine JT ?_ ?_|refine Jy ?_ ?_|refine Jz ?_ ?_)<;>intro a1<;>simp(maxSteps:=999999)(disch:=omega)only[go_sem,zA,zM,zS,zE,zL,a1])
   rotate_left
   · simp(maxSteps:=999999)(disch:=omega)only[go_sem,zA,zM,zS,zE,zL,b0,b1,b2]
     rw[Q1 (by omega)]
     simp(maxSteps:=999999)(disch:=omega)only[go_sem,zA,zM,zS,zE,zL]
     exact fin fun hn=>by unfold UR at hn;omega
   simp(maxSteps:=999999)(disch:=omega)only[go_sem,zA,zM,zS,zE,zL,b0]
   first|refine JZ.rd (Qz _ _ _) (⟨_,Tryz.func40,rfl,rfl⟩:Ji Tryz.prog 40) rfl rfl rfl rfl ?_|refine JK.rd (Qz _ _ _) (⟨_,Tryz.func40,rfl,rfl⟩:Ji Tryz.prog 40) rfl rfl rfl rfl ?_
   simp(maxSteps:=999999)(disch:=omega)only[go_sem,zA,zM,zS,zE,zL]
   ((with_reducible first|refine JJ ?_ ?_|refine JF ?_ ?_|refine JU ?_ ?_|refine Jw ?_ ?_|refine JH ?_ ?_|refine JI ?_ ?_|refine JD ?_ ?_|refine JE ?_ ?_|refine JS ?_ ?_|refine JT ?_ ?_|refine Jy ?_ ?_|refine Jz ?_ ?_)<;>intro a2<;>simp(maxSteps:=999999)(disch:=omega)only[go_sem,zA,zM,zS,zE,zL,a2])
   rotate_left
   · simp(maxSteps:=999999)(disch:=omega)only[go_sem,zA,zM,zS,zE,zL,b0,b1,b2]
     rw[Q1 (by omega)]
     simp(maxSteps:=999999)(disch:=omega)only[go_sem,zA,zM,zS,zE,zL]
     exact fin fun hn=>by unfold UR at hn;omega
   obtain⟨i,rfl⟩:∃i:Nat,cell=i:=⟨cell.toNat,by omega⟩
   have hil:i<q.put.length:=by omega
   obtain⟨hgl,_⟩:=JbY h hil
   simp(maxSteps:=999999)(disch:=omega)only[go_sem,zA,zM,zS,zE,zL,b0]
   ((first|(with_reducible first|refine Jl ?_ ?_|refine Jj ?_ ?_|refine Jp ?_ ?_)|refine Jr ?_ ?_)<;>intro a3)
   · simp(maxSteps:=999999)(disch:=omega)only[go_sem,zA,zM,zS,zE,zL,b0,b1,b2]
     rw[Q1 (by omega)]
     simp(maxSteps:=999999)(disch:=omega)only[go_sem,zA,zM,zS,zE,zL]
     exact fin fun hn=>by unfold UR at hn;omega
   have ok:UR q i value:=⟨by omega,by omega,hgl.2 (by omega),by omega,by omega⟩
   have r1:Zt q i value=⟨q.task,q.put.set i value,q.moves++[(i:Int)]⟩:=by simp[Zt,h,ok]
   have r2:Zp q i value=true:=by simp[Zp,h,ok]
   have hne:q.put≠[]:=by intro h0;rw[h0]at hil;simp at hil
   obtain⟨id3,g4,rfl,rfl,l3⟩:=e3.inv hne
   have hi3:=m3 id3 (by simp)
   simp(maxSteps:=999999)(disch:=omega)only[go_sem,zA,zM,zS,zE,zL,b0,b1,b2,l3]
   rw[Int.toNat_natCast]
   have hlt3:id3<HA.length:=by omega
   obtain⟨HB,hHB⟩:∃HB:Jm,HB=HA.set id3 (some ⟨g4,1,cl (eI .i64) (q.put.set i value)⟩):=⟨_,rfl⟩
   have hB:∀k,k≠id3→HB[k]? =HA[k]? :=fun k hk=>by rw[hHB,Jg (Ne.symm hk)]
   have hlB:HB.length=H1.length+3:=by rw[hHB,Jo,hlA]
   have f4:=e4.same (H':=HB) fun k hk=>hB k fun he=>n3 id3 (by simp) (he▸hk)
   have f3:Ub HB (.own id3 g4 0 q.put.length none) (q.put.set i value) [id3]:=by
    have:=Ub.o (H:=HB) id3 g4 (q.put.set i value) (by rw[hHB];exact J8 (b:=⟨g4,1,cl (eI .i64) (q.put.set i value)⟩) (by rw[JX hlt3]))
    rwa [Jo]at this
   have b3:look HB 1 g2=some ⟨g2,5,[.f (.int .i64 0), .f .nil, .f .nil, .f .nil, .f .nil]⟩:=by unfold look;rw[hB 1 (by omega)];exact b1
   have b4:look HB (H1.length+1+1) g3=some ⟨g3,5,[.f (.int .i64 q.task.size), .f (J5 q.task.given), .f (Uu eR q.task.rules), .own id3 g4 0 q.put.length none,c4]⟩:=by unfold look;rw[hB _ (by omega)];exact b2
   rw[←hHB]
   clear hHB e3 e4 b1 b2 l3
   simp(maxSteps:=999999)(disch:=omega)only[go_sem,zA,zM,zS,zE,zL,b4]
   intro g5
   have hlt8:H1.length+1+1<HB.length:=by omega
   refine JhA (Wk UE rfl Kh) ⟨rfl,rfl,rfl⟩ (f4.same fun k hk=>Ja (f4.lt k hk)) (by omega) JC ?_
   intro c5 HC S5 hA hC hS5 hlC
   rw[Jk,JL]at hlC hS5
   have hC':∀k,k<HB.length→k∉S4→HC[k]? =HB[k]? :=fun k hk hn=>by rw[hC k (by rw[Jk];omega) hn,Ja hk]
   have b5:look HC 1 g2=some ⟨g2,5,[.f (.int .i64 0), .f .nil, .f .nil, .f .nil, .f .nil]⟩:=by unfold look;rw[hC' 1 (by omega) fun hm=>by have:=m4 _ hm;omega];exact b3
   have b6:look HC (H1.length+1+1) g3=some ⟨g3,5,[.f (.int .i64 q.task.size), .f (J5 q.task.given), .f (Uu eR q.task.rules), .own id3 g4 0 q.put.length none,c4]⟩:=by unfold look;rw[hC' _ hlt8 fun hm=>by have:=m4 _ hm;omega];exact b4
   simp(maxSteps:=999999)(disch:=omega)only[go_sem,zA,zM,zS,zE,zL,b6]
   rw[Q1 (by omega)]
   simp(maxSteps:=999999)(disch:=omega)only[go_sem,zA,zM,zS,zE,zL]
   rw[Zz (by omega),b5]
   simp(maxSteps:=999999)(disch:=omega)only[go_sem,zA,zM,zS,zE,zL]
   rw[Q1 (by rw[Jo];omega)]
   simp(maxSteps:=999999)(disch:=omega)only[go_sem,zA,zM,zS,zE,zL]
   have hD:∀{X Y:Option Zv},∀k,2≤k∧k<2+H1.length∨HB.length+1≤k→((HC.set (H1.length+1+1) X).set 1 Y)[k]? =HC[k]? :=fun k hk=>by
    rw[Jg (by omega),Jg (by omega)]
   refine JbF (q:=⟨q.task,q.put.set i value,q.moves++[(i:Int)]⟩) r1 r2 (f3.same fun k hk=> ?_) (hA.same fun k hk=>hD k ?_) ?_
   · have:=m3 k hk
     rw[hD k (.inl (by omega)),hC' k (by omega) (n3 k hk)]
   · rcases hS5 k hk with h5|h5
     · have:=m4 k h5
       exact .inl (by omega)
     · exact .inr (by omega)
   · intro k hk hm5
     have hk:k=id3:=by simpa using hk
     subst hk
     rcases hS5 _ hm5 with h5|h5
     · exact n3 _ (by simp) h5
     · omega
 · rw[hv]at h
   cases h
def JfX(q:QZ):KV:=fun v H=>XO (QD q) (bool (QK q)) v H∨∃id3 g4 id4 g5 mi,v= .tup [aE q (.own id3 g4 0 q.put.length none) (.own id4 g5 0 (q.moves.length -1) none),bool (QK q)]∧q.moves≠[]∧JA q.moves ((q.moves.length:Int) -1)=((mi:Nat):Int)∧
 look H id3 g4=some ⟨g4,1,cl (eI .i64) (q.put.set mi 0)⟩∧look H id4 g5=some ⟨g5,1,cl (eI .i64) q.moves⟩∧id3≠id4
theorem JjO{q:QZ}{H:Jm}{v:AV}(h:Uz H (XO (QD q) (bool (QK q))) v):Uz H (JfX q) v:=by
 obtain⟨H',h1,h2⟩:=h
 exact⟨H',h1, .inl h2⟩
theorem JjN{q:QZ}(hv:Qd q=true):∀v H',JfX q v H'→XO (QD q) (bool (QK q)) v H'∨∃cs id g n b y,v= .tup [.agg (cs++[.own id g 0 n none]),y]∧look H' id g=some b∧n*b.sz≤b.cs.length∧
 ∀g',XO (QD q) (bool (QK q)) (.tup [.agg (cs++[.own id g' 0 n none]),y]) (H'.set id (some ⟨g',b.sz,b.cs.take (n*b.sz)⟩)):=by
 rintro v H' (h|⟨id3,g4,id4,g5,mi,rfl,hm,hmi,h3,h4,hne⟩)
 · exact .inl h
 refine .inr ⟨[.f (.int .i64 q.task.size), .f (J5 q.task.given), .f (Uu eR q.task.rules), .own id3 g4 0 q.put.length none],id4,g5,q.moves.length -1,_,bool (QK q),rfl,h4, ?_,fun g'=> ?_⟩
 · simp only[Qa]
   omega
 have r1:QD q=⟨q.task,q.put.set mi 0,q.moves.take (q.moves.length -1)⟩:=by simp[QD,hv,hm,hmi]
 have hlt:id4<H'.length:=(Jh.1 (JG h4).1).1
 have e4:(cl (eI .i64) q.moves).take ((q.moves.length -1)*1)=cl (eI .i64) (q.moves.take (q.moves.length -1)):=by
  unfold cl
  rw[←List.map_take,Gx]
 rw[r1]
 refine⟨.own id3 g4 0 q.put.length none, .own id4 g' 0 (q.moves.length -1) none,rfl,[id3],[id4], ?_, ?_,by simp[hne]⟩
 · have:=Ub.o (H:=H'.set id4 (some ⟨g',1,(cl (eI .i64) q.moves).take ((q.moves.length -1)*1)⟩)) id3 g4 (q.put.set mi 0) (by rw[Zz (Ne.symm hne)];exact h3)
   rwa [Jo]at this
 · have:=Ub.o (H:=H'.set id4 (some ⟨g',1,(cl (eI .i64) q.moves).take ((q.moves.length -1)*1)⟩)) id4 g' (q.moves.take (q.moves.length -1)) (by rw[←e4];exact JM hlt)
   rwa [JP,Nat.min_eq_left (by omega)]at this
theorem Jaj(q:QZ)(hx:smG q)(hv:Qd q=true):Jn Tryz.prog 73 [aG q] [] (XO (QD q) (bool (QK q))):=by
 refine Jn.retag (Q':=JfX q) ?_ (JjN hv)
 refine Jn.cw (c:=_) Tryz.func73 rfl (n:=33) Tryz.ntmps73 (rs:=[.cell 2 28, .tmp 3]) rfl ?_
 simp only[Je,Jf,zA,zS,Jd,Jb,Jc]
 simp(maxSteps:=999999)(disch:=omega)only[go_sem,zA,zM,zS,zE,zL]
 intro g1 g2
 first|refine JZ.rd (QN q hx) (⟨_,Tryz.func12,rfl,rfl⟩:Ji Tryz.prog 12) rfl rfl rfl rfl ?_|refine JK.rd (QN q hx) (⟨_,Tryz.func12,rfl,rfl⟩:Ji Tryz.prog 12) rfl rfl rfl rfl ?_
 simp(maxSteps:=999999)(disch:=omega)only[go_sem,zA,zM,zS,zE,zL]
 ((first|(with_reducible first|refine Jl ?_ ?_|refine Jj ?_ ?_|refine Jp ?_ ?_)|refine Jr ?_ ?_)<;>intro h)
 · simp(maxSteps:=999999)(disch:=omega)only[go_sem,zA,zM,zS,zE,zL]
   obtain⟨h1,h2,h3,h4,h5,h6⟩:=Zs h
   refine JZ.mkC (ZA q hx) (⟨_,Tryz.func58,rfl,rfl⟩:Ji Tryz.prog 58) rfl rfl rfl ?_
   intro c3 c4 H1 S3 S4 k3 k4 n3 m3 m4
   simp(maxSteps:=999999)(disch:=omega)only[go_sem,zA,zM,zS,zE,zL]
   intro g3
   simp(maxSteps:=999999)(disch:=omega)only[go_sem,zA,zM,zS,zE,zL,JC,QM]
   simp only[Je,Jf,Jb,Jc]at k3 k4 m3 m4
   obtain⟨HA,hHA⟩:∃HA:Jm,HA=some ⟨g1,1,cG q⟩::some ⟨g2,5,[.f (.int .i64 0), .f .nil, .f .nil, .f .nil, .f .nil]⟩::(H1++[some ⟨g3,5,[.f (.int .i64 q.task.size), .f (J5 q.task.given), .f (Uu eR q.task.rules),c3,c4]⟩]):=⟨_,rfl⟩
   have mv:∀k,2≤k∧k<2+H1.length→∀X1 X2:Option Zv,HA[k]? =(X1::X2::H1)[k]? :=fun k hk X1 X2=>by
    rw[hHA,QI hk.1,QI hk.1,Ja (by omega)]
   have e3:=k3.same (H':=HA) fun k hk=>mv k (by have:=m3 k hk;omega) _ _
   have e4:=k4.same (H':=HA) fun k hk=>mv k (by have:=m4 k hk;omega) _ _
   have b0:look HA 0 g1=some ⟨g1,1,cG q⟩:=by rw[hHA];simp only[go_sem]
   have b1:look HA 1 g2=some ⟨g2,5,[.f (.int .i64 0), .f .nil, .f .nil, .f .nil, .f .nil]⟩:=by rw[hHA];simp only[go_sem]
   have b2:look HA (H1.length+1+1) g3=some ⟨g3,5,[.f (.int .i64 q.task.size), .f (J5 q.task.given), .f (Uu eR q.task.rules),c3,c4]⟩:=by rw[hHA];simp only[go_sem];exact JC
   have hlA:HA.length=H1.length+3:=by rw[hHA];simp
   rw[←hHA]
   clear hHA k3 k4
   by_cases hm:q.moves=[]
   · have r1:QD q=q:=by simp[QD,h,hm]
     have r2:QK q=false:=by simp[QK,hm]
     have fin:∀{X:Option Zv},Uz (HA.set 1 X) (JfX q) (.tup [.agg [.f (.int .i64 q.task.size), .f (J5 q.task.given), .f (Uu eR q.task.rules),c3,c4], .c (.f (.bool false))]):=fun{X}=>
      have hX:∀k,2≤k→(HA.set 1 X)[k]? =HA[k]? :=fun k hk=>by rw[Jg (by omega)]
      JjO (JbF r1 r2 (e3.same fun k hk=>hX k (by have:=m3 k hk;omega)) (e4.same fun k hk=>hX k (by have:=m4 k hk;omega)) n3)
     rcases e4.inv0 hm with rfl|⟨id4,g4,rfl,l4⟩
     · simp(maxSteps:=999999)(disch:=omega)only[go_sem,zA,zM,zS,zE,zL,XZ,Y6,b2]
       rw[b1]
       simp(maxSteps:=999999)(disch:=omega)only[go_sem,zA,zM,zS,zE,zL]
       rw[Q1 (by omega)]
       simp(maxSteps:=999999)(disch:=omega)only[go_sem,zA,zM,zS,zE,zL]
       exact fin
     · simp(maxSteps:=999999)(disch:=omega)only[go_sem,zA,zM,zS,zE,zL,XZ,Y6,b2,l4]
       rw[b1]
       simp(maxSteps:=999999)(disch:=omega)only[go_sem,zA,zM,zS,zE,zL]
       rw[Q1 (by omega)]
       simp(maxSteps:=999999)(disch:=omega)only[go_sem,zA,zM,zS,zE,zL]
       exact fin
   obtain⟨hl0,hl1⟩:=Ja8 h4 hm
   obtain⟨mi,hmi⟩:∃mi:Nat,JA q.moves ((q.moves.length:Int) -1)=mi:=⟨(JA q.moves ((q.moves.length:Int) -1)).toNat,by omega⟩
   have r1:QD q=⟨q.task,q.put.set mi 0,q.moves.take (q.moves.length -1)⟩:=by simp[QD,h,hm,hmi]
   have r2:QK q=true:=by simp[QK,h,hm]
   have hne:q.put≠[]:=by intro h0;rw[h0]at hl1;simp at hl1;omega
   have hmp:0<q.moves.length:=List.length_pos_iff.2 hm
   obtain⟨id3,g4,rfl,rfl,l3⟩:=e3.inv hne
   obtain⟨id4,g5,rfl,rfl,l4⟩:=e4.inv hm
   have hi3:=m3 id3 (by simp)
   have hi4:=m4 id4 (by simp)
   have hni:id3≠id4:=fun he=>n3 id3 (by simp) (by simp[he])
   have hml:mi<q.put.length:=by omega
   have hix:∀zs:List Int,0<zs.length→((zs.length:Int) -1).toNat=zs.length -1:=fun zs hz=>by omega
   simp(maxSteps:=999999)(disch:=omega)only[go_sem,zA,zM,zS,zE,zL,XZ,Y6,b2,l4]
   refine Q3 [0,1,2,3,4,5,6] [] none [7,8] [] [0,1,0,4,0,28,60,127,255] Zd (by kernel_rfl) ?_
   simp(maxSteps:=999999)(disch:=omega)only[go_sem,zA,zM,zS,zE,zL,b2,l3,l4,hmi]
   rw[Int.toNat_natCast]
   have hlt3:id3<HA.length:=by omega
   obtain⟨HB,hHB⟩:∃HB:Jm,HB=HA.set id3 (some ⟨g4,1,cl (eI .i64) (q.put.set mi 0)⟩):=⟨_,rfl⟩
   have hB:∀k,k≠id3→HB[k]? =HA[k]? :=fun k hk=>by rw[hHB,Jg (Ne.symm hk)]
   have hlB:HB.length=H1.length+3:=by rw[hHB,Jo,hlA]
   have l5:look HB id4 g5=some ⟨g5,1,cl (eI .i64) q.moves⟩:=by unfold look;rw[hB _ (Ne.symm hni)];exact l4
   have l6:look HB id3 g4=some ⟨g4,1,cl (eI .i64) (q.put.set mi 0)⟩:=by rw[hHB];exact J8 (b:=⟨g4,1,cl (eI .i64) (q.put.set mi 0)⟩) (by rw[JX hlt3])
   have b3:look HB 1 g2=some ⟨g2,5,[.f (.int .i64 0), .f .nil, .f .nil, .f .nil, .f .nil]⟩:=by unfold look;rw[hB 1 (by omega)];exact b1
   have b4:look HB (H1.length+1+1) g3=some ⟨g3,5,[.f (.int .i64 q.task.size), .f (J5 q.task.given), .f (Uu eR q.task.rules), .own id3 g4 0 q.put.length none, .own id4 g5 0 q.moves.length none]⟩:=by unfold look;rw[hB _ (by omega)];exact b2
   rw[←hHB]
   clear hHB e3 e4 b1 b2 l3 l4
   simp(maxSteps:=999999)(disch:=omega)only[go_sem,zA,zM,zS,zE,zL,b4,l5]
   rw[hix _ hmp,FO UE rfl Kh rfl l5 rfl (by simp only[Qa];omega)]
   simp(maxSteps:=999999)(disch:=omega)only[go_sem,zA,zM,zS,zE,zL,b4]
   rw[Q1 (by omega)]
   simp(maxSteps:=999999)(disch:=omega)only[go_sem,zA,zM,zS,zE,zL]
   rw[Zz (by omega),b3]
   simp(maxSteps:=999999)(disch:=omega)only[go_sem,zA,zM,zS,zE,zL]
   rw[Q1 (by rw[Jo];omega)]
   simp(maxSteps:=999999)(disch:=omega)only[go_sem,zA,zM,zS,zE,zL]
   have hD:∀{X Y:Option Zv} {k g:Nat},2≤k∧k<2+H1.length→look ((HB.set (H1.length+1+1) X).set 1 Y) k g=look HB k g:=fun hk=>by
    rw[Zz (by omega),Zz (by omega)]
   refine⟨_,J0.refl _, .inr ⟨id3,g4,id4,g5,mi, ?_,hm,hmi, ?_, ?_,hni⟩⟩
   · rw[r2]
     rfl
   · rw[hD (by omega)]
     exact l6
   · rw[hD (by omega)]
     exact l5
 · rw[hv]at h
   cases h
end Go.Lg

namespace Go.Lg
open Go.Proofs
attribute [-go_sem] J9 Jv
theorem Jia(P:Program)(s:List AV)(H:Jm)(t u w:Nat)(ty:TypeId):YD P s H [.cell t ty, .tmp u, .tmp w]=(V3 P H ty (s.getD t .void)).map fun v=> .tup [v,s.getD u .void,s.getD w .void]:=by
 simp only[YD,YE,Fb]
 cases V3 P H ty (s.getD t .void)<;>rfl
attribute [go_sem] Jia
theorem Wt:JW Tryz.prog 14 [] (bool true):=by
 refine Jn.cw (c:=_) Tryz.func14 rfl (n:=4) Tryz.ntmps14 (rs:=[.tmp 0]) rfl ?_
 simp only[Je,Jf,zA,zS,Jd,Jb,Jc]
 simp(maxSteps:=999999)(disch:=omega)only[go_sem,zA,zM,zS,zE,zL]
 intro g
 have hown:Qy [some ⟨g,1,[.f (.int .i64 1), .f (.int .i64 0), .f (.int .i64 0), .f (.int .i64 2)]⟩] (.own 0 g 0 4 none) [1,0,0,2] [0]:=Qy.o 0 g none [1,0,0,2] [] (by rw[US];rfl)
 refine JZ.rdD (Wd [1,0,0,2] 2 (by simp)) (⟨_,Tryz.func43,rfl,rfl⟩:Ji Tryz.prog 43) rfl rfl (UO hown.snap VO) rfl ?_
 have e:ZT [1,0,0,2] 2=2:=by decide
 rw[e]
 simp(maxSteps:=999999)(disch:=omega)only[go_sem,zA,zM,zS,zE,zL]
theorem UJ(xs ys:List Int)(hx:xs.length≤2^40):JW Tryz.prog 10 [QO xs,QO ys] (bool (decide (xs=ys))):=by
 refine Jn.cw (c:=_) Tryz.func10 rfl (n:=26) Tryz.ntmps10 (rs:=[.tmp 4]) rfl ?_
 simp only[Je,Jf,zA,zS,Jd,Jb,Jc]
 simp(maxSteps:=999999)(disch:=omega)only[go_sem,zA,zM,zS,zE,zL]
 ((first|(with_reducible first|refine Jl ?_ ?_|refine Jj ?_ ?_|refine Jp ?_ ?_)|refine Jr ?_ ?_)<;>intro h)
 rotate_left
 · simp(maxSteps:=999999)(disch:=omega)only[go_sem,zA,zM,zS,zE,zL]
   rw[eq_comm,decide_eq_false_iff_not]
   intro h2
   exact h (by rw[h2])
 have hl:xs.length=ys.length:=by omega
 simp(maxSteps:=999999)(disch:=omega)only[go_sem,zA,zM,zS,zE,zL]
 refine JY (fun i:Nat=>xs.length -i) (fun i=>i≤xs.length∧∀j:Nat,j<i→JA xs j=JA ys j) (fun i=>[.k, .k, .a, .a, .a, .p (int i), .a, .a, .a, .a, .a, .a, .a, .a, .a, .a, .a, .a, .a, .a, .a, .a, .a, .a, .a, .a]) (fun i=>[]) 0
  ⟨Nat.zero_le _,fun j hj=>absurd hj (Nat.not_lt_zero _)⟩ (by simp(maxSteps:=999999)(disch:=omega)only[go_sem,zA,zM,zS,zE,zL];rfl) (Qu _) ?_
 rintro i ⟨hi,hall⟩
 simp(maxSteps:=999999)(disch:=omega)only[go_sem,zA,zM,zS,zE,zL]
 ((first|(with_reducible first|refine Jl ?_ ?_|refine Jj ?_ ?_|refine Jp ?_ ?_)|refine Jr ?_ ?_)<;>intro h)
 · have h:i<xs.length:=by omega
   simp(maxSteps:=999999)(disch:=omega)only[go_sem,zA,zM,zS,zE,zL]
   refine Zj Zd (by kernel_rfl) ?_
   simp(maxSteps:=999999)(disch:=omega)only[go_sem,Nat.reduceBEq,Bool.true_or,zA,zM,zS,zE,zL]
   ((first|(with_reducible first|refine Jl ?_ ?_|refine Jj ?_ ?_|refine Jp ?_ ?_)|refine Jr ?_ ?_)<;>intro h2)
   · simp(maxSteps:=999999)(disch:=omega)only[go_sem,zA,zM,zS,zE,zL]
     refine⟨i+1,⟨⟨by omega,fun j hj=> ?_⟩,by omega⟩,by push_cast;omega,Qu _⟩
     rcases Nat.lt_succ_iff_lt_or_eq.1 hj with hj|rfl
     · exact hall j hj
     · exact h2
   · simp(maxSteps:=999999)(disch:=omega)only[go_sem,zA,zM,zS,zE,zL]
     rw[eq_comm,decide_eq_false_iff_not]
     intro h3
     exact h2 (by rw[h3])
 · simp(maxSteps:=999999)(disch:=omega)only[go_sem,zA,zM,zS,zE,zL]
   rw[decide_eq_true (YN hl fun j hj=>hall j (by omega))]
end Go.Lg

namespace Go.Lg
open Go.Proofs
theorem Jkl{r s:Z0}(h1:r.kind=s.kind)(h2:r.val=s.val)(h3:r.cells=s.cells):r=s:=by
 cases r;cases s;simp_all
set_option maxHeartbeats 2000000 in
theorem Kn(p q:Q4)(hx:Rf p):JW Tryz.prog 71 [aP p,aP q] (bool (decide (p=q))):=by
 obtain⟨hg,hrl,hrs⟩:=hx
 refine Jn.cw (c:=_) Tryz.func71 rfl (n:=79) Tryz.ntmps71 (rs:=[.tmp 4]) rfl ?_
 simp only[Je,Jf,zA,zS,Jd,Jb,Jc]
 simp(maxSteps:=999999)(disch:=omega)only[go_sem,zA,zM,zS,zE,zL]
 intro ga gb
 by_cases e1:p.size=q.size
 rotate_left
 · have d1:decide (p.size=q.size)=false:=decide_eq_false e1
   simp(maxSteps:=999999)(disch:=omega)only[go_sem,zA,zM,zS,zE,zL,d1]
   exact(decide_eq_false fun h=>e1 (by rw[h])).symm
 have d1:decide (p.size=q.size)=true:=decide_eq_true e1
 simp(maxSteps:=999999)(disch:=omega)only[go_sem,zA,zM,zS,zE,zL,d1]
 first|refine JZ.rd (UJ p.given q.given hg) (⟨_,Tryz.func10,rfl,rfl⟩:Ji Tryz.prog 10) rfl rfl rfl rfl ?_|refine JK.rd (UJ p.given q.given hg) (⟨_,Tryz.func10,rfl,rfl⟩:Ji Tryz.prog 10) rfl rfl rfl rfl ?_
 simp(maxSteps:=999999)(disch:=omega)only[go_sem,zA,zM,zS,zE,zL]
 by_cases e2:p.given=q.given
 rotate_left
 · have d2:decide (p.given=q.given)=false:=decide_eq_false e2
   simp(maxSteps:=999999)(disch:=omega)only[go_sem,zA,zM,zS,zE,zL,d2]
   exact(decide_eq_false fun h=>e2 (by rw[h])).symm
 have d2:decide (p.given=q.given)=true:=decide_eq_true e2
 simp(maxSteps:=999999)(disch:=omega)only[go_sem,zA,zM,zS,zE,zL,d2]
 by_cases e3:p.rules.length=q.rules.length
 rotate_left
 · have d3:decide ((p.rules.length:Int)=(q.rules.length:Int))=false:=decide_eq_false (by omega)
   simp(maxSteps:=999999)(disch:=omega)only[go_sem,zA,zM,zS,zE,zL,d3]
   exact(decide_eq_false fun h=>e3 (by rw[h])).symm
 have d3:decide ((p.rules.length:Int)=(q.rules.length:Int))=true:=decide_eq_true (by omega)
 simp(maxSteps:=999999)(disch:=omega)only[go_sem,zA,zM,zS,zE,zL,d3]
 refine JY (fun i:Nat=>p.rules.length -i) (fun i=>i≤p.rules.length∧∀j:Nat,j<i→JA p.rules j=JA q.rules j) (fun i=>[.a, .a, .k, .k, .a, .p (int i), .a, .a, .a, .a, .a, .a, .a, .a, .a, .a, .a, .a, .a, .a, .a, .a, .a, .a, .a, .a, .a, .a, .a, .a, .a, .a, .a, .a, .a, .a, .a, .a, .a, .a, .a, .a, .a, .a, .a, .a, .a, .a, .a, .a, .a, .a, .a, .a, .a, .a, .a, .a, .a, .a, .a, .a, .a, .a, .a, .a, .a, .a, .a, .a, .a, .a, .a, .a, .a, .a, .a, .a, .a]) (fun i=>[some ⟨ga,1,cP p⟩,some ⟨gb,1,cP q⟩]) 0 ⟨Nat.zero_le _,fun j hj=>absurd hj (Nat.not_lt_zero _)⟩ (by simp(maxSteps:=999999)(disch:=omega)only[go_sem,zA,zM,zS,zE,zL];rfl) (J0.refl _) ?_
 rintro i ⟨hi,hall⟩
 simp(maxSteps:=999999)(disch:=omega)only[go_sem,zA,zM,zS,zE,zL]
 ((first|(with_reducible first|refine Jl ?_ ?_|refine Jj ?_ ?_|refine Jp ?_ ?_)|refine Jr ?_ ?_)<;>intro h)
 · have h:i<p.rules.length:=by omega
   have hq:i<q.rules.length:=by omega
   have hcl:=hrs _ (ZP (xs:=p.rules) (i:=i) h)
   obtain⟨r,hr⟩:∃r,r=JA p.rules (i:Int):=⟨_,rfl⟩
   obtain⟨s,hs⟩:∃s,s=JA q.rules (i:Int):=⟨_,rfl⟩
   have no:r≠s→p≠q:=fun hne he=>hne (by rw[hr,hs,he])
   rw[←hr]at hcl
   simp(maxSteps:=999999)(disch:=omega)only[go_sem,zA,zM,zS,zE,zL]
   refine Zj Zd (by kernel_rfl) ?_
   simp(maxSteps:=999999)(disch:=omega)only[go_sem,Nat.reduceBEq,Bool.true_or,zA,zM,zS,zE,zL]
   simp(maxSteps:=999999)(disch:=omega)only[go_sem,zA,zM,zS,zE,zL,←hr,←hs]
   by_cases f1:r.kind=s.kind
   rotate_left
   · have d1:decide (r.kind=s.kind)=false:=decide_eq_false f1
     simp(maxSteps:=999999)(disch:=omega)only[go_sem,zA,zM,zS,zE,zL,d1]
     exact(decide_eq_false (no fun he=>f1 (by rw[he]))).symm
   have d1:decide (r.kind=s.kind)=true:=decide_eq_true f1
   simp(maxSteps:=999999)(disch:=omega)only[go_sem,zA,zM,zS,zE,zL,d1,←hr,←hs]
   by_cases f2:r.val=s.val
   rotate_left
   · have d1:decide (r.val=s.val)=false:=decide_eq_false f2
     simp(maxSteps:=999999)(disch:=omega)only[go_sem,zA,zM,zS,zE,zL,d1]
     exact(decide_eq_false (no fun he=>f2 (by rw[he]))).symm
   have d1:decide (r.val=s.val)=true:=decide_eq_true f2
   simp(maxSteps:=999999)(disch:=omega)only[go_sem,zA,zM,zS,zE,zL,d1,←hr,←hs]
   refine Q0.rd (UJ r.cells s.cells (by omega)) (⟨_,Tryz.func10,rfl,rfl⟩:Ji Tryz.prog 10) rfl rfl rfl rfl ?_
   simp(maxSteps:=999999)(disch:=omega)only[go_sem,zA,zM,zS,zE,zL]
   by_cases f3:r.cells=s.cells
   rotate_left
   · have d1:decide (r.cells=s.cells)=false:=decide_eq_false f3
     simp(maxSteps:=999999)(disch:=omega)only[go_sem,zA,zM,zS,zE,zL,d1]
     exact(decide_eq_false (no fun he=>f3 (by rw[he]))).symm
   have d1:decide (r.cells=s.cells)=true:=decide_eq_true f3
   simp(maxSteps:=999999)(disch:=omega)only[go_sem,zA,zM,zS,zE,zL,d1]
   refine⟨i+1,⟨⟨by omega,fun j hj=> ?_⟩,by omega⟩,by push_cast;omega,J0.refl _⟩
   rcases Nat.lt_succ_iff_lt_or_eq.1 hj with hj|rfl
   · exact hall j hj
   · rw[←hr,←hs];exact Jkl f1 f2 f3
 · simp(maxSteps:=999999)(disch:=omega)only[go_sem,zA,zM,zS,zE,zL]
   refine(decide_eq_true ?_).symm
   have e4:p.rules=q.rules:=YN e3 fun j hj=>hall j (by omega)
   cases p;cases q;simp_all
theorem Z5(a b:QZ)(hx:smG a):JW Tryz.prog 30 [aG a,aG b] (bool (decide (a=b))):=by
 obtain⟨h1,h2,h3⟩:=hx
 refine Jn.cw (c:=_) Tryz.func30 rfl (n:=24) Tryz.ntmps30 (rs:=[.tmp 4]) rfl ?_
 simp only[Je,Jf,zA,zS,Jd,Jb,Jc]
 simp(maxSteps:=999999)(disch:=omega)only[go_sem,zA,zM,zS,zE,zL]
 intro ga gb
 first|refine JZ.rd (Kn a.task b.task h1) (⟨_,Tryz.func71,rfl,rfl⟩:Ji Tryz.prog 71) rfl rfl rfl rfl ?_|refine JK.rd (Kn a.task b.task h1) (⟨_,Tryz.func71,rfl,rfl⟩:Ji Tryz.prog 71) rfl rfl rfl rfl ?_
 simp(maxSteps:=999999)(disch:=omega)only[go_sem,zA,zM,zS,zE,zL]
 by_cases e1:a.task=b.task
 rotate_left
 · have d1:decide (a.task=b.task)=false:=decide_eq_false e1
   simp(maxSteps:=999999)(disch:=omega)only[go_sem,zA,zM,zS,zE,zL,d1]
   exact(decide_eq_false fun h=>e1 (by rw[h])).symm
 have d1:decide (a.task=b.task)=true:=decide_eq_true e1
 simp(maxSteps:=999999)(disch:=omega)only[go_sem,zA,zM,zS,zE,zL,d1]
 first|refine JZ.rd (UJ a.put b.put h2) (⟨_,Tryz.func10,rfl,rfl⟩:Ji Tryz.prog 10) rfl rfl rfl rfl ?_|refine JK.rd (UJ a.put b.put h2) (⟨_,Tryz.func10,rfl,rfl⟩:Ji Tryz.prog 10) rfl rfl rfl rfl ?_
 simp(maxSteps:=999999)(disch:=omega)only[go_sem,zA,zM,zS,zE,zL]
 by_cases e2:a.put=b.put
 rotate_left
 · have d2:decide (a.put=b.put)=false:=decide_eq_false e2
   simp(maxSteps:=999999)(disch:=omega)only[go_sem,zA,zM,zS,zE,zL,d2]
   exact(decide_eq_false fun h=>e2 (by rw[h])).symm
 have d2:decide (a.put=b.put)=true:=decide_eq_true e2
 simp(maxSteps:=999999)(disch:=omega)only[go_sem,zA,zM,zS,zE,zL,d2]
 first|refine JZ.rd (UJ a.moves b.moves h3) (⟨_,Tryz.func10,rfl,rfl⟩:Ji Tryz.prog 10) rfl rfl rfl rfl ?_|refine JK.rd (UJ a.moves b.moves h3) (⟨_,Tryz.func10,rfl,rfl⟩:Ji Tryz.prog 10) rfl rfl rfl rfl ?_
 simp(maxSteps:=999999)(disch:=omega)only[go_sem,zA,zM,zS,zE,zL]
 rw[decide_eq_decide]
 constructor
 · intro h;cases a;cases b;simp_all
 · intro h;rw[h]
end Go.Lg

namespace Go.Lg
open Go.Proofs
theorem JhZ{α:Type}(l:List α)(a b:Int):(sub l a b).length≤l.length:=by simp[sub];omega
theorem GD(r:Z0)(vs:List Int)(hl:vs.length≤4)(hv:∀v∈vs,0≤v∧v≤4)(hk:r.kind=1∨r.kind=2∨r.kind=3∨(r.kind=4∨r.kind=5)∧2≤vs.length):JW Tryz.prog 149 [aR r,QO vs] (bool (V5 r vs)):=by
 have hnv:∀k:Nat,k<vs.length→0≤JA vs k∧JA vs k≤4:=fun k hk=>hv _ (by rw[Qt (by omega)];exact List.getElem_mem _)
 have hpt:=G4 hl hv
 have hst:=Jcw hl hv
 refine Jn.cw (c:=_) Tryz.func149 rfl (n:=76) Tryz.ntmps149 (rs:=[.tmp 4]) rfl ?_
 simp only[Je,Jf,zA,zS,Jd,Jb,Jc]
 simp(maxSteps:=999999)(disch:=omega)only[go_sem,zA,zM,zS,zE,zL]
 intro g
 refine JY (fun k:Nat=>vs.length -k) (fun k=>k≤vs.length∧(r.kind=1→(vs.take k).Nodup)) (fun k=>[.a, .k, .k, .a, .a, .p (int (vs.take k).sum), .p (int (V2 (vs.take k))), .a, .a, .k, .k, .p (int k), .a, .a, .a, .a, .a, .a, .a, .a, .a, .a, .a, .a, .a, .a, .a, .a, .a, .a, .a, .a, .a, .a, .a, .a, .a, .a, .a, .a, .a, .a, .a, .a, .a, .a, .a, .a, .a, .a, .a, .a, .a, .a, .a, .a, .a, .a, .a, .a, .a, .a, .a, .a, .a, .a, .a, .a, .a, .a, .a, .a, .a, .a, .a, .a]) (fun _=>[some ⟨g,1,cR r⟩]) 0 ⟨Nat.zero_le _,fun _=>by simp⟩ (by simp(maxSteps:=999999)(disch:=omega)only[go_sem,zA,zM,zS,zE,zL];simp[V2]) (J0.refl _) ?_
 rintro k ⟨hk',hnd⟩
 simp(maxSteps:=999999)(disch:=omega)only[go_sem,zA,zM,zS,zE,zL]
 ((first|(with_reducible first|refine Jl ?_ ?_|refine Jj ?_ ?_|refine Jp ?_ ?_)|refine Jr ?_ ?_)<;>intro h1)
 · have h1:k<vs.length:=by omega
   have e1:(vs.take (k+1)).sum=(vs.take k).sum+JA vs k:=by rw[Qg h1];simp
   have e2:V2 (vs.take (k+1))=V2 (vs.take k)*JA vs k:=by rw[Qg h1,Ff]
   have b1:=hst (k+1)
   have b2:=hpt (k+1)
   rw[e1]at b1
   rw[e2]at b2
   have hin:JA vs k∈vs.take k↔∃i:Nat,i<k∧JA vs i=JA vs k:=by
    constructor
    · intro h
      obtain⟨i,hi,he⟩:=List.mem_take_iff_getElem.1 h
      exact⟨i,by omega,by rw[Qt (by omega)];exact he⟩
    · rintro⟨i,hi,he⟩
      rw[←he,Qt (by omega)]
      exact List.mem_take_iff_getElem.2 ⟨i,by omega,rfl⟩
   simp(maxSteps:=999999)(disch:=omega)only[go_sem,zA,zM,zS,zE,zL]
   ((with_reducible first|refine JJ ?_ ?_|refine JF ?_ ?_|refine JU ?_ ?_|refine Jw ?_ ?_|refine JH ?_ ?_|refine JI ?_ ?_|refine JD ?_ ?_|refine JE ?_ ?_|refine JS ?_ ?_|refine JT ?_ ?_|refine Jy ?_ ?_|refine Jz ?_ ?_)<;>intro d1<;>simp(maxSteps:=999999)(disch:=omega)only[go_sem,zA,zM,zS,zE,zL,d1])
   · have hsub:sub vs 0 (k:Int)=vs.take k:=by simp[sub]
     have hco:=U5 (sub vs 0 (k:Int)) (JA vs k) (by have:=JhZ vs 0 (k:Int);omega)
     rw[hsub]at hco
     first|refine JZ.rd (hco) (⟨_,Tryz.func82,rfl,rfl⟩:Ji Tryz.prog 82) rfl rfl rfl rfl ?_|refine JK.rd (hco) (⟨_,Tryz.func82,rfl,rfl⟩:Ji Tryz.prog 82) rfl rfl rfl rfl ?_
     simp(maxSteps:=999999)(disch:=omega)only[go_sem,zA,zM,zS,zE,zL]
     ((first|(with_reducible first|refine Jl ?_ ?_|refine Jj ?_ ?_|refine Jp ?_ ?_)|refine Jr ?_ ?_)<;>intro d2)
     · simp(maxSteps:=999999)(disch:=omega)only[go_sem,zA,zM,zS,zE,zL]
       have:¬vs.Nodup:=fun hn=>by
        have:=(YG h1).1 (hn.sublist (List.take_sublist _ _))
        obtain⟨i,hi,he⟩:=hin.1 d2
        exact this.2 i hi he
       unfold V5
       rw[if_pos d1,decide_eq_false this]
     · simp(maxSteps:=999999)(disch:=omega)only[go_sem,zA,zM,zS,zE,zL]
       refine⟨k+1,⟨⟨by omega,fun h=> ?_⟩,by omega⟩,⟨e1.symm,e2.symm,by push_cast;omega⟩,J0.refl _⟩
       rw[YG h1]
       exact⟨hnd d1,fun i hi he=>d2 (hin.2 ⟨i,hi,he⟩)⟩
   · refine⟨k+1,⟨⟨by omega,fun h=>by first|exact absurd h d1|exact h.elim⟩,by omega⟩,⟨e1.symm,e2.symm,by push_cast;omega⟩,J0.refl _⟩
 · have hkl:vs.take k=vs:=Js (by omega)
   simp(maxSteps:=999999)(disch:=omega)only[go_sem,zA,zM,zS,zE,zL]
   rw[hkl]at hnd
   rw[hkl]
   ((first|(with_reducible first|refine Jl ?_ ?_|refine Jj ?_ ?_|refine Jp ?_ ?_)|refine Jr ?_ ?_)<;>intro d2)
   · simp(maxSteps:=999999)(disch:=omega)only[go_sem,zA,zM,zS,zE,zL]
     unfold V5
     rw[if_neg (by omega),if_pos d2]
   simp(maxSteps:=999999)(disch:=omega)only[go_sem,zA,zM,zS,zE,zL]
   ((first|(with_reducible first|refine Jl ?_ ?_|refine Jj ?_ ?_|refine Jp ?_ ?_)|refine Jr ?_ ?_)<;>intro d3)
   · simp(maxSteps:=999999)(disch:=omega)only[go_sem,zA,zM,zS,zE,zL]
     unfold V5
     rw[if_neg (by omega),if_neg d2,if_pos d3]
   simp(maxSteps:=999999)(disch:=omega)only[go_sem,zA,zM,zS,zE,zL]
   ((first|(with_reducible first|refine Jl ?_ ?_|refine Jj ?_ ?_|refine Jp ?_ ?_)|refine Jr ?_ ?_)<;>intro d4)
   · have hl2:2≤vs.length:=by omega
     have v0:0≤JA vs (0:Int)∧JA vs (0:Int)≤4:=hnv 0 (by omega)
     have v1:0≤JA vs (1:Int)∧JA vs (1:Int)≤4:=hnv 1 (by omega)
     simp(maxSteps:=999999)(disch:=omega)only[go_sem,zA,zM,zS,zE,zL]
     refine Zj Zd (by kernel_rfl) ?_
     simp(maxSteps:=999999)(disch:=omega)only[go_sem,Nat.reduceBEq,Bool.true_or,zA,zM,zS,zE,zL]
     unfold V5
     rw[if_neg (by omega),if_neg d2,if_neg d3,if_pos d4]
   simp(maxSteps:=999999)(disch:=omega)only[go_sem,zA,zM,zS,zE,zL]
   ((first|(with_reducible first|refine Jl ?_ ?_|refine Jj ?_ ?_|refine Jp ?_ ?_)|refine Jr ?_ ?_)<;>intro d5)
   · have hl2:2≤vs.length:=by omega
     have v0:0≤JA vs (0:Int)∧JA vs (0:Int)≤4:=hnv 0 (by omega)
     have v1:0≤JA vs (1:Int)∧JA vs (1:Int)≤4:=hnv 1 (by omega)
     simp(maxSteps:=999999)(disch:=omega)only[go_sem,zA,zM,zS,zE,zL]
     refine Zj Zd (by kernel_rfl) ?_
     simp(maxSteps:=999999)(disch:=omega)only[go_sem,Nat.reduceBEq,Bool.true_or,zA,zM,zS,zE,zL]
     unfold V5
     rw[if_neg (by omega),if_neg d2,if_neg d3,if_neg d4]
   · have d1:r.kind=1:=by omega
     simp(maxSteps:=999999)(disch:=omega)only[go_sem,zA,zM,zS,zE,zL]
     unfold V5
     rw[if_pos d1,decide_eq_true (hnd d1)]
end Go.Lg
