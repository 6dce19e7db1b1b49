/- GpSA, GpGG, GpEA, cut to what is needed. -/
import Derived.Test.YtidekghnkifbjaaGreatDoorJdb7
import Derived.Test.YtidekghnkifbjaaGreatDoorJdc2
import Derived.Test.YtidekghnkifbjaaGreatDoorJdc0
open List renaming length_cons → Ja, cons_append → Jb, getElem?_append_left → Jc, nil_append → Jd, length_nil → Je, replicate → Jf, getElem?_eq_some_iff → Jh, getElem?_set_ne → Ji, length_set → Jp, length_append → Jq, take_of_length_le → Js, getElem?_set_self → JE, length_singleton → JQ, length_take → JX
open Nat renaming reduceAdd→zA,reduceMul→zM,reduceSub→zS,reduceEqDiff→zE,reduceLeDiff→zL
set_option linter.unusedSimpArgs false
set_option linter.unusedVariables false
set_option maxRecDepth 100000
namespace Go.Lg
open Go.Proofs
attribute [-go_sem] Qf
theorem Jk.retag{P:Program}{f:FuncId}{args:List AV}{H:Jn}{Q Q':KV}(h:Jk P f args H Q')(hq:∀v H',Q' v H'→Q v H'∨∃cs id g n b y,v= .tup [.agg (cs++[.own id g 0 n none]),y]∧look H' id g=some b∧n*b.sz≤b.cs.length∧
 ∀g',Q (.tup [.agg (cs++[.own id g' 0 n none]),y]) (H'.set id (some ⟨g',b.sz,b.cs.take (n*b.sz)⟩))):Jk P f args H Q:=
 fun w X vs hH hvs=>(h w X vs hH hvs).mono fun _ w' ⟨v,u,X',H',h1,h2,h3,h4,h5⟩=>by
  rcases hq v H' h5 with hQ|⟨cs,id,g,n,b,y,rfl,hl,hn,hQ⟩
  · exact⟨v,u,X',H',h1,h2,h3,h4,hQ⟩
  · obtain⟨hid,hg⟩:=JH hl
    have hlt:id<H'.length:=(Jh.1 hid).1
    obtain⟨g1,g2,cc,t,g3,g4,g5,g6⟩:=h3.blk id b hid
    obtain⟨q1,q2⟩:=BE (w':=w') (sz':=b.sz) (cs:=b.cs.take (n*b.sz)) (cc:=cc) h3 hid (.inl rfl) g3 (fun _ _ _=>rfl) (Nat.le_refl _) rfl rfl rfl (by rw[JX];omega) (fun j hj=>by
     rw[JX]at hj
     rw[List.getElem_take]
     exact g6 j (by omega))
    refine⟨_,u,X'.new (X'.mu b.g) cc.size,_,h1, ?_,q1,h4.trans q2,hQ X'.t⟩
    cases h2 with
    |tup vs us h2=>
     refine .tup _ us fun j hj=> ?_
     match j,hj with
     |0,hj=>
      have h0:=h2 0 (by simp)
      simp only[List.getElem_cons_zero]at h0⊢
      cases hu:us 0 with
      |agg ws=>
       rw[hu]at h0
       cases h0 with
       |agg _ _ hs hc=>
        refine .agg _ _ (by simpa using hs) fun j hj=> ?_
        rw[Jq,JQ]at hj
        obtain⟨z,z1,z2⟩:=hc j (by rw[Jq,JQ];exact hj)
        refine⟨z,z1, ?_⟩
        by_cases hjc:j<cs.length
        · rw[List.getElem_append_left hjc]at z2⊢
          exact z2.mono q2
        · rw[List.getElem_append_right (by omega)]at z2⊢
          simp only[List.getElem_singleton]at z2⊢
          obtain⟨z3,z4,z5⟩:=z2
          obtain⟨k1,a,cap,k2,k3,k4,k5,k6⟩:=z5 b hl
          refine⟨Nat.lt_succ_self _,z4,fun blk hblk=> ?_⟩
          obtain⟨m1,m2⟩:=JH hblk
          rw[JE hlt]at m1
          cases m1
          subst hg
          refine⟨by simp only[JX];omega,a,cap,k2,k3,fun hc0=>by simpa[Cx.new]using k4 hc0, ?_, ?_⟩
          · simp only[Cx.new,if_true]
            rw[g4]
            exact k5
          · simp only[JX]
            simp only at k6
            have:n*b.sz≤cap*b.sz:=Nat.mul_le_mul_right _ k3
            omega
      |_=>rw[hu]at h0;cases h0
     |1,hj=>exact(h2 1 (by simp)).mono q2
def gamE(H:Jn)(q:QU)(c3 c4:CV):Prop:=∃S3 S4,Ua H c3 q.put S3∧Ua H c4 q.moves S4∧∀k∈S3,k∉S4
def aE(q:QU)(c3 c4:CV):AV:= .agg [.f (.int .i64 q.task.size), .f (Ql q.task.given), .f (VN eR q.task.rules),c3,c4]
def YB(q:QU)(y:AV):KV:=fun v H=>∃c3 c4,v= .tup [aE q c3 c4,y]∧gamE H q c3 c4
theorem Jbd{H:Jn}{q q':QU}{b b':Bool}{c3 c4:CV}{S3 S4:List Nat}(hq:q'=q)(hb:b'=b)(k3:Ua H c3 q.put S3)(k4:Ua H c4 q.moves S4)(hd:∀k∈S3,k∉S4):
 Uo H (YB q' (bool b')) (.tup [.agg [.f (.int .i64 q.task.size), .f (Ql q.task.given), .f (VN eR q.task.rules),c3,c4], .c (.f (.bool b))]):=by
 subst hq hb
 exact⟨H,J5.refl _,c3,c4,rfl,S3,S4,k3,k4,hd⟩
theorem Ja5(q:QU)(cell value:Int)(hx:smG q)(hv:Qp q=true):Jk Tryz.prog 72 [aG q,int cell,int value] [] (YB (Zn q cell value) (bool (Zc q cell value))):=by
 refine Jk.cw (c:=_) Tryz.func72 rfl (n:=58) Tryz.ntmps72 (rs:=[.cell 6 28, .tmp 7]) rfl ?_
 simp only[Ja,Je,zA,zS,Jf,Jb,Jd]
 simp(maxSteps:=999999)(disch:=omega)only[go_sem,zA,zM,zS,zE,zL]
 intro g1 g2
 first|refine JU.rd (Q3 q hx) (⟨_,Tryz.func12,rfl,rfl⟩:Jg Tryz.prog 12) rfl rfl rfl rfl ?_|refine JG.rd (Q3 q hx) (⟨_,Tryz.func12,rfl,rfl⟩:Jg Tryz.prog 12) rfl rfl rfl rfl ?_
 simp(maxSteps:=999999)(disch:=omega)only[go_sem,zA,zM,zS,zE,zL]
 ((first|(with_reducible first|refine Jm ?_ ?_|refine Jj ?_ ?_|refine Jo ?_ ?_)|refine Jr ?_ ?_)<;>intro h)
 · simp(maxSteps:=999999)(disch:=omega)only[go_sem,zA,zM,zS,zE,zL]
   obtain⟨h1,h2,h3,h4,h5,h6⟩:=Zf h
   refine JU.mkC (Zm q hx) (⟨_,Tryz.func58,rfl,rfl⟩:Jg Tryz.prog 58) rfl rfl rfl ?_
   intro c3 c4 H1 S3 S4 k3 k4 n3 m3 m4
   simp(maxSteps:=999999)(disch:=omega)only[go_sem,zA,zM,zS,zE,zL]
   intro g3
   simp(maxSteps:=999999)(disch:=omega)only[go_sem,zA,zM,zS,zE,zL,JF,Qy]
   simp only[Ja,Je,Jb,Jd]at k3 k4 m3 m4
   obtain⟨HA,hHA⟩:∃HA:Jn,HA=some ⟨g1,1,cG q⟩::some ⟨g2,5,[.f (.int .i64 0), .f .nil, .f .nil, .f .nil, .f .nil]⟩::(H1++[some ⟨g3,5,[.f (.int .i64 q.task.size), .f (Ql q.task.given), .f (VN eR q.task.rules),c3,c4]⟩]):=⟨_,rfl⟩
   have mv:∀k,2≤k∧k<2+H1.length→∀X1 X2:Option Zo,HA[k]? =(X1::X2::H1)[k]? :=fun k hk X1 X2=>by
    rw[hHA,QC hk.1,QC hk.1,Jc (by omega)]
   have e3:=k3.same (H':=HA) fun k hk=>mv k (by have:=m3 k hk;omega) _ _
   have e4:=k4.same (H':=HA) fun k hk=>mv k (by have:=m4 k hk;omega) _ _
   have b0:look HA 0 g1=some ⟨g1,1,cG q⟩:=by rw[hHA];simp only[go_sem]
   have b1:look HA 1 g2=some ⟨g2,5,[.f (.int .i64 0), .f .nil, .f .nil, .f .nil, .f .nil]⟩:=by rw[hHA];simp only[go_sem]
   have b2:look HA (H1.length+1+1) g3=some ⟨g3,5,[.f (.int .i64 q.task.size), .f (Ql q.task.given), .f (VN eR q.task.rules),c3,c4]⟩:=by rw[hHA];simp only[go_sem];exact JF
   have hlA:HA.length=H1.length+3:=by rw[hHA];simp
   rw[←hHA]
   clear hHA k3 k4
   have no:¬U6 q cell value→Zn q cell value=q∧Zc q cell value=false:=fun hn=>by simp[Zn,Zc,h,hn]
   have fin:∀{X:Option Zo},¬U6 q cell value→Uo (HA.set 1 X) (YB (Zn q cell value) (bool (Zc q cell value))) (.tup [.agg [.f (.int .i64 q.task.size), .f (Ql q.task.given), .f (VN eR q.task.rules),c3,c4], .c (.f (.bool false))]):=fun{X} hn=>
    have hX:∀k,2≤k→(HA.set 1 X)[k]? =HA[k]? :=fun k hk=>by rw[Ji (by omega)]
    Jbd (no hn).1 (no hn).2 (e3.same fun k hk=>hX k (by have:=m3 k hk;omega)) (e4.same fun k hk=>hX k (by have:=m4 k hk;omega)) n3
   refine Z5 [0,1,2,3,4,5,6,7,8,9,10,11,12,13,14,15,16,17,18,19,20,21,22,23,24,25,26] [] none [27,28,29] [] [0,0,2,6,14,31,63,127,255,255,767,1791,4095,8191,16383,32767,65535,131071,65535,524287,1048575,65535,2162687,6356991,65535,31522815,65077247,134217727,268435455,536870911] ZE (by kernel_rfl) ?_
   simp(maxSteps:=999999)(disch:=omega)only[go_sem,zA,zM,zS,zE,zL,b0]
   first|refine JU.rd (QE _ _ _) (⟨_,Tryz.func40,rfl,rfl⟩:Jg Tryz.prog 40) rfl rfl rfl rfl ?_|refine JG.rd (QE _ _ _) (⟨_,Tryz.func40,rfl,rfl⟩:Jg Tryz.prog 40) rfl rfl rfl rfl ?_
   simp(maxSteps:=999999)(disch:=omega)only[go_sem,zA,zM,zS,zE,zL]
   ((with_reducible first|refine JL ?_ ?_|refine JD ?_ ?_|refine JT ?_ ?_|refine Jv ?_ ?_|refine JJ ?_ ?_|refine JK ?_ ?_|refine JB ?_ ?_|refine JC ?_ ?_|refine JR ?_ ?_|refine JS ?_ ?_|refine Jw ?_ ?_|refine Jx ?_ ?_)<;>intro a1<;>simp(maxSteps:=999999)(disch:=omega)only[go_sem,zA,zM,zS,zE,zL,a1])
   rotate_left
   · simp(maxSteps:=999999)(disch:=omega)only[go_sem,zA,zM,zS,zE,zL,b0,b1,b2]
     rw[QP (by omega)]
     simp(maxSteps:=999999)(disch:=omega)only[go_sem,zA,zM,zS,zE,zL]
     exact fin fun hn=>by unfold U6 at hn;omega
   simp(maxSteps:=999999)(disch:=omega)only[go_sem,zA,zM,zS,zE,zL,b0]
   first|refine JU.rd (QE _ _ _) (⟨_,Tryz.func40,rfl,rfl⟩:Jg Tryz.prog 40) rfl rfl rfl rfl ?_|refine JG.rd (QE _ _ _) (⟨_,Tryz.func40,rfl,rfl⟩:Jg Tryz.prog 40) rfl rfl rfl rfl ?_
   simp(maxSteps:=999999)(disch:=omega)only[go_sem,zA,zM,zS,zE,zL]
   ((with_reducible first|refine JL ?_ ?_|refine JD ?_ ?_|refine JT ?_ ?_|refine Jv ?_ ?_|refine JJ ?_ ?_|refine JK ?_ ?_|refine JB ?_ ?_|refine JC ?_ ?_|refine JR ?_ ?_|refine JS ?_ ?_|refine Jw ?_ ?_|refine Jx ?_ ?_)<;>intro a2<;>simp(maxSteps:=999999)(disch:=omega)only[go_sem,zA,zM,zS,zE,zL,a2])
   rotate_left
   · simp(maxSteps:=999999)(disch:=omega)only[go_sem,zA,zM,zS,zE,zL,b0,b1,b2]
     rw[QP (by omega)]
     simp(maxSteps:=999999)(disch:=omega)only[go_sem,zA,zM,zS,zE,zL]
     exact fin fun hn=>by unfold U6 at hn;omega
   obtain⟨i,rfl⟩:∃i:Nat,cell=i:=⟨cell.toNat,by omega⟩
   have hil:i<q.put.length:=by omega
   obtain⟨hgl,_⟩:=Jbx h hil
   simp(maxSteps:=999999)(disch:=omega)only[go_sem,zA,zM,zS,zE,zL,b0]
   ((first|(with_reducible first|refine Jm ?_ ?_|refine Jj ?_ ?_|refine Jo ?_ ?_)|refine Jr ?_ ?_)<;>intro a3)
   · simp(maxSteps:=999999)(disch:=omega)only[go_sem,zA,zM,zS,zE,zL,b0,b1,b2]
     rw[QP (by omega)]
     simp(maxSteps:=999999)(disch:=omega)only[go_sem,zA,zM,zS,zE,zL]
     exact fin fun hn=>by unfold U6 at hn;omega
   have ok:U6 q i value:=⟨by omega,by omega,hgl.2 (by omega),by omega,by omega⟩
   have r1:Zn q i value=⟨q.task,q.put.set i value,q.moves++[(i:Int)]⟩:=by simp[Zn,h,ok]
   have r2:Zc q i value=true:=by simp[Zc,h,ok]
   have hne:q.put≠[]:=by intro h0;rw[h0]at hil;simp at hil
   obtain⟨id3,g4,rfl,rfl,l3⟩:=e3.inv hne
   have hi3:=m3 id3 (by simp)
   simp(maxSteps:=999999)(disch:=omega)only[go_sem,zA,zM,zS,zE,zL,b0,b1,b2,l3]
   rw[Int.toNat_natCast]
   have hlt3:id3<HA.length:=by omega
   obtain⟨HB,hHB⟩:∃HB:Jn,HB=HA.set id3 (some ⟨g4,1,cl (eI .i64) (q.put.set i value)⟩):=⟨_,rfl⟩
   have hB:∀k,k≠id3→HB[k]? =HA[k]? :=fun k hk=>by rw[hHB,Ji (Ne.symm hk)]
   have hlB:HB.length=H1.length+3:=by rw[hHB,Jp,hlA]
   have f4:=e4.same (H':=HB) fun k hk=>hB k fun he=>n3 id3 (by simp) (he▸hk)
   have f3:Ua HB (.own id3 g4 0 q.put.length none) (q.put.set i value) [id3]:=by
    have:=Ua.o (H:=HB) id3 g4 (q.put.set i value) (by rw[hHB];exact Qj (b:=⟨g4,1,cl (eI .i64) (q.put.set i value)⟩) (by rw[JE hlt3]))
    rwa [Jp]at this
   have b3:look HB 1 g2=some ⟨g2,5,[.f (.int .i64 0), .f .nil, .f .nil, .f .nil, .f .nil]⟩:=by unfold look;rw[hB 1 (by omega)];exact b1
   have b4:look HB (H1.length+1+1) g3=some ⟨g3,5,[.f (.int .i64 q.task.size), .f (Ql q.task.given), .f (VN eR q.task.rules), .own id3 g4 0 q.put.length none,c4]⟩:=by unfold look;rw[hB _ (by omega)];exact b2
   rw[←hHB]
   clear hHB e3 e4 b1 b2 l3
   simp(maxSteps:=999999)(disch:=omega)only[go_sem,zA,zM,zS,zE,zL,b4]
   intro g5
   have hlt8:H1.length+1+1<HB.length:=by omega
   refine Jg0 (Wa WG rfl ti3) ⟨rfl,rfl,rfl⟩ (f4.same fun k hk=>Jc (f4.lt k hk)) (by omega) JF ?_
   intro c5 HC S5 hA hC hS5 hlC
   rw[Jq,JQ]at hlC hS5
   have hC':∀k,k<HB.length→k∉S4→HC[k]? =HB[k]? :=fun k hk hn=>by rw[hC k (by rw[Jq];omega) hn,Jc hk]
   have b5:look HC 1 g2=some ⟨g2,5,[.f (.int .i64 0), .f .nil, .f .nil, .f .nil, .f .nil]⟩:=by unfold look;rw[hC' 1 (by omega) fun hm=>by have:=m4 _ hm;omega];exact b3
   have b6:look HC (H1.length+1+1) g3=some ⟨g3,5,[.f (.int .i64 q.task.size), .f (Ql q.task.given), .f (VN eR q.task.rules), .own id3 g4 0 q.put.length none,c4]⟩:=by unfold look;rw[hC' _ hlt8 fun hm=>by have:=m4 _ hm;omega];exact b4
   simp(maxSteps:=999999)(disch:=omega)only[go_sem,zA,zM,zS,zE,zL,b6]
   rw[QP (by omega)]
   simp(maxSteps:=999999)(disch:=omega)only[go_sem,zA,zM,zS,zE,zL]
   rw[ZC (by omega),b5]
   simp(maxSteps:=999999)(disch:=omega)only[go_sem,zA,zM,zS,zE,zL]
   rw[QP (by rw[Jp];omega)]
   simp(maxSteps:=999999)(disch:=omega)only[go_sem,zA,zM,zS,zE,zL]
   have hD:∀{X Y:Option Zo},∀k,2≤k∧k<2+H1.length∨HB.length+1≤k→((HC.set (H1.length+1+1) X).set 1 Y)[k]? =HC[k]? :=fun k hk=>by
    rw[Ji (by omega),Ji (by omega)]
   refine Jbd (q:=⟨q.task,q.put.set i value,q.moves++[(i:Int)]⟩) r1 r2 (f3.same fun k hk=> ?_) (hA.same fun k hk=>hD k ?_) ?_
   · have:=m3 k hk
     rw[hD k (.inl (by omega)),hC' k (by omega) (n3 k hk)]
   · rcases hS5 k hk with h5|h5
     · have:=m4 k h5
       exact .inl (by omega)
     · exact .inr (by omega)
   · intro k hk hm5
     have hk:k=id3:=by simpa using hk
     subst hk
     rcases hS5 _ hm5 with h5|h5
     · exact n3 _ (by simp) h5
     · omega
 · rw[hv]at h
   cases h
def Jft(q:QU):KV:=fun v H=>YB (Qz q) (bool (QX q)) v H∨∃id3 g4 id4 g5 mi,v= .tup [aE q (.own id3 g4 0 q.put.length none) (.own id4 g5 0 (q.moves.length -1) none),bool (QX q)]∧q.moves≠[]∧Jy q.moves ((q.moves.length:Int) -1)=((mi:Nat):Int)∧
 look H id3 g4=some ⟨g4,1,cl (eI .i64) (q.put.set mi 0)⟩∧look H id4 g5=some ⟨g5,1,cl (eI .i64) q.moves⟩∧id3≠id4
theorem Jjf{q:QU}{H:Jn}{v:AV}(h:Uo H (YB (Qz q) (bool (QX q))) v):Uo H (Jft q) v:=by
 obtain⟨H',h1,h2⟩:=h
 exact⟨H',h1, .inl h2⟩
theorem Jje{q:QU}(hv:Qp q=true):∀v H',Jft q v H'→YB (Qz q) (bool (QX q)) v H'∨∃cs id g n b y,v= .tup [.agg (cs++[.own id g 0 n none]),y]∧look H' id g=some b∧n*b.sz≤b.cs.length∧
 ∀g',YB (Qz q) (bool (QX q)) (.tup [.agg (cs++[.own id g' 0 n none]),y]) (H'.set id (some ⟨g',b.sz,b.cs.take (n*b.sz)⟩)):=by
 rintro v H' (h|⟨id3,g4,id4,g5,mi,rfl,hm,hmi,h3,h4,hne⟩)
 · exact .inl h
 refine .inr ⟨[.f (.int .i64 q.task.size), .f (Ql q.task.given), .f (VN eR q.task.rules), .own id3 g4 0 q.put.length none],id4,g5,q.moves.length -1,_,bool (QX q),rfl,h4, ?_,fun g'=> ?_⟩
 · simp only[Qu]
   omega
 have r1:Qz q=⟨q.task,q.put.set mi 0,q.moves.take (q.moves.length -1)⟩:=by simp[Qz,hv,hm,hmi]
 have hlt:id4<H'.length:=(Jh.1 (JH h4).1).1
 have e4:(cl (eI .i64) q.moves).take ((q.moves.length -1)*1)=cl (eI .i64) (q.moves.take (q.moves.length -1)):=by
  unfold cl
  rw[←List.map_take,FY]
 rw[r1]
 refine⟨.own id3 g4 0 q.put.length none, .own id4 g' 0 (q.moves.length -1) none,rfl,[id3],[id4], ?_, ?_,by simp[hne]⟩
 · have:=Ua.o (H:=H'.set id4 (some ⟨g',1,(cl (eI .i64) q.moves).take ((q.moves.length -1)*1)⟩)) id3 g4 (q.put.set mi 0) (by rw[ZC (Ne.symm hne)];exact h3)
   rwa [Jp]at this
 · have:=Ua.o (H:=H'.set id4 (some ⟨g',1,(cl (eI .i64) q.moves).take ((q.moves.length -1)*1)⟩)) id4 g' (q.moves.take (q.moves.length -1)) (by rw[←e4];exact J7 hlt)
   rwa [JX,Nat.min_eq_left (by omega)]at this
theorem NN(q:QU)(hx:smG q)(hv:Qp q=true):Jk Tryz.prog 73 [aG q] [] (YB (Qz q) (bool (QX q))):=by
 refine Jk.retag (Q':=Jft q) ?_ (Jje hv)
 refine Jk.cw (c:=_) Tryz.func73 rfl (n:=33) Tryz.ntmps73 (rs:=[.cell 2 28, .tmp 3]) rfl ?_
 simp only[Ja,Je,zA,zS,Jf,Jb,Jd]
 simp(maxSteps:=999999)(disch:=omega)only[go_sem,zA,zM,zS,zE,zL]
 intro g1 g2
 first|refine JU.rd (Q3 q hx) (⟨_,Tryz.func12,rfl,rfl⟩:Jg Tryz.prog 12) rfl rfl rfl rfl ?_|refine JG.rd (Q3 q hx) (⟨_,Tryz.func12,rfl,rfl⟩:Jg Tryz.prog 12) rfl rfl rfl rfl ?_
 simp(maxSteps:=999999)(disch:=omega)only[go_sem,zA,zM,zS,zE,zL]
 ((first|(with_reducible first|refine Jm ?_ ?_|refine Jj ?_ ?_|refine Jo ?_ ?_)|refine Jr ?_ ?_)<;>intro h)
 · simp(maxSteps:=999999)(disch:=omega)only[go_sem,zA,zM,zS,zE,zL]
   obtain⟨h1,h2,h3,h4,h5,h6⟩:=Zf h
   refine JU.mkC (Zm q hx) (⟨_,Tryz.func58,rfl,rfl⟩:Jg Tryz.prog 58) rfl rfl rfl ?_
   intro c3 c4 H1 S3 S4 k3 k4 n3 m3 m4
   simp(maxSteps:=999999)(disch:=omega)only[go_sem,zA,zM,zS,zE,zL]
   intro g3
   simp(maxSteps:=999999)(disch:=omega)only[go_sem,zA,zM,zS,zE,zL,JF,Qy]
   simp only[Ja,Je,Jb,Jd]at k3 k4 m3 m4
   obtain⟨HA,hHA⟩:∃HA:Jn,HA=some ⟨g1,1,cG q⟩::some ⟨g2,5,[.f (.int .i64 0), .f .nil, .f .nil, .f .nil, .f .nil]⟩::(H1++[some ⟨g3,5,[.f (.int .i64 q.task.size), .f (Ql q.task.given), .f (VN eR q.task.rules),c3,c4]⟩]):=⟨_,rfl⟩
   have mv:∀k,2≤k∧k<2+H1.length→∀X1 X2:Option Zo,HA[k]? =(X1::X2::H1)[k]? :=fun k hk X1 X2=>by
    rw[hHA,QC hk.1,QC hk.1,Jc (by omega)]
   have e3:=k3.same (H':=HA) fun k hk=>mv k (by have:=m3 k hk;omega) _ _
   have e4:=k4.same (H':=HA) fun k hk=>mv k (by have:=m4 k hk;omega) _ _
   have b0:look HA 0 g1=some ⟨g1,1,cG q⟩:=by rw[hHA];simp only[go_sem]
   have b1:look HA 1 g2=some ⟨g2,5,[.f (.int .i64 0), .f .nil, .f .nil, .f .nil, .f .nil]⟩:=by rw[hHA];simp only[go_sem]
   have b2:look HA (H1.length+1+1) g3=some ⟨g3,5,[.f (.int .i64 q.task.size), .f (Ql q.task.given), .f (VN eR q.task.rules),c3,c4]⟩:=by rw[hHA];simp only[go_sem];exact JF
   have hlA:HA.length=H1.length+3:=by rw[hHA];simp
   rw[←hHA]
   clear hHA k3 k4
   by_cases hm:q.moves=[]
   · have r1:Qz q=q:=by simp[Qz,h,hm]
     have r2:QX q=false:=by simp[QX,hm]
     have fin:∀{X:Option Zo},Uo (HA.set 1 X) (Jft q) (.tup [.agg [.f (.int .i64 q.task.size), .f (Ql q.task.given), .f (VN eR q.task.rules),c3,c4], .c (.f (.bool false))]):=fun{X}=>
      have hX:∀k,2≤k→(HA.set 1 X)[k]? =HA[k]? :=fun k hk=>by rw[Ji (by omega)]
      Jjf (Jbd r1 r2 (e3.same fun k hk=>hX k (by have:=m3 k hk;omega)) (e4.same fun k hk=>hX k (by have:=m4 k hk;omega)) n3)
     rcases e4.inv0 hm with rfl|⟨id4,g4,rfl,l4⟩
     · simp(maxSteps:=999999)(disch:=omega)only[go_sem,zA,zM,zS,zE,zL,Z6,U7,b2]
       rw[b1]
       simp(maxSteps:=999999)(disch:=omega)only[go_sem,zA,zM,zS,zE,zL]
       rw[QP (by omega)]
       simp(maxSteps:=999999)(disch:=omega)only[go_sem,zA,zM,zS,zE,zL]
       exact fin
     · simp(maxSteps:=999999)(disch:=omega)only[go_sem,zA,zM,zS,zE,zL,Z6,U7,b2,l4]
       rw[b1]
       simp(maxSteps:=999999)(disch:=omega)only[go_sem,zA,zM,zS,zE,zL]
       rw[QP (by omega)]
       simp(maxSteps:=999999)(disch:=omega)only[go_sem,zA,zM,zS,zE,zL]
       exact fin
   obtain⟨hl0,hl1⟩:=JaG h4 hm
   obtain⟨mi,hmi⟩:∃mi:Nat,Jy q.moves ((q.moves.length:Int) -1)=mi:=⟨(Jy q.moves ((q.moves.length:Int) -1)).toNat,by omega⟩
   have r1:Qz q=⟨q.task,q.put.set mi 0,q.moves.take (q.moves.length -1)⟩:=by simp[Qz,h,hm,hmi]
   have r2:QX q=true:=by simp[QX,h,hm]
   have hne:q.put≠[]:=by intro h0;rw[h0]at hl1;simp at hl1;omega
   have hmp:0<q.moves.length:=List.length_pos_iff.2 hm
   obtain⟨id3,g4,rfl,rfl,l3⟩:=e3.inv hne
   obtain⟨id4,g5,rfl,rfl,l4⟩:=e4.inv hm
   have hi3:=m3 id3 (by simp)
   have hi4:=m4 id4 (by simp)
   have hni:id3≠id4:=fun he=>n3 id3 (by simp) (by simp[he])
   have hml:mi<q.put.length:=by omega
   have hix:∀zs:List Int,0<zs.length→((zs.length:Int) -1).toNat=zs.length -1:=fun zs hz=>by omega
   simp(maxSteps:=999999)(disch:=omega)only[go_sem,zA,zM,zS,zE,zL,Z6,U7,b2,l4]
   refine Z5 [0,1,2,3,4,5,6] [] none [7,8] [] [0,1,0,4,0,28,60,127,255] ZE (by kernel_rfl) ?_
   simp(maxSteps:=999999)(disch:=omega)only[go_sem,zA,zM,zS,zE,zL,b2,l3,l4,hmi]
   rw[Int.toNat_natCast]
   have hlt3:id3<HA.length:=by omega
   obtain⟨HB,hHB⟩:∃HB:Jn,HB=HA.set id3 (some ⟨g4,1,cl (eI .i64) (q.put.set mi 0)⟩):=⟨_,rfl⟩
   have hB:∀k,k≠id3→HB[k]? =HA[k]? :=fun k hk=>by rw[hHB,Ji (Ne.symm hk)]
   have hlB:HB.length=H1.length+3:=by rw[hHB,Jp,hlA]
   have l5:look HB id4 g5=some ⟨g5,1,cl (eI .i64) q.moves⟩:=by unfold look;rw[hB _ (Ne.symm hni)];exact l4
   have l6:look HB id3 g4=some ⟨g4,1,cl (eI .i64) (q.put.set mi 0)⟩:=by rw[hHB];exact Qj (b:=⟨g4,1,cl (eI .i64) (q.put.set mi 0)⟩) (by rw[JE hlt3])
   have b3:look HB 1 g2=some ⟨g2,5,[.f (.int .i64 0), .f .nil, .f .nil, .f .nil, .f .nil]⟩:=by unfold look;rw[hB 1 (by omega)];exact b1
   have b4:look HB (H1.length+1+1) g3=some ⟨g3,5,[.f (.int .i64 q.task.size), .f (Ql q.task.given), .f (VN eR q.task.rules), .own id3 g4 0 q.put.length none, .own id4 g5 0 q.moves.length none]⟩:=by unfold look;rw[hB _ (by omega)];exact b2
   rw[←hHB]
   clear hHB e3 e4 b1 b2 l3 l4
   simp(maxSteps:=999999)(disch:=omega)only[go_sem,zA,zM,zS,zE,zL,b4,l5]
   rw[hix _ hmp,Fg WG rfl ti3 rfl l5 rfl (by simp only[Qu];omega)]
   simp(maxSteps:=999999)(disch:=omega)only[go_sem,zA,zM,zS,zE,zL,b4]
   rw[QP (by omega)]
   simp(maxSteps:=999999)(disch:=omega)only[go_sem,zA,zM,zS,zE,zL]
   rw[ZC (by omega),b3]
   simp(maxSteps:=999999)(disch:=omega)only[go_sem,zA,zM,zS,zE,zL]
   rw[QP (by rw[Jp];omega)]
   simp(maxSteps:=999999)(disch:=omega)only[go_sem,zA,zM,zS,zE,zL]
   have hD:∀{X Y:Option Zo} {k g:Nat},2≤k∧k<2+H1.length→look ((HB.set (H1.length+1+1) X).set 1 Y) k g=look HB k g:=fun hk=>by
    rw[ZC (by omega),ZC (by omega)]
   refine⟨_,J5.refl _, .inr ⟨id3,g4,id4,g5,mi, ?_,hm,hmi, ?_, ?_,hni⟩⟩
   · rw[r2]
     rfl
   · rw[hD (by omega)]
     exact l6
   · rw[hD (by omega)]
     exact l5
 · rw[hv]at h
   cases h
end Go.Lg

namespace Go.Lg
open Go.Proofs
attribute [-go_sem] Qf J0
theorem JhE(P:Program)(s:List AV)(H:Jn)(t u w:Nat)(ty:TypeId):Yg P s H [.cell t ty, .tmp u, .tmp w]=(VV P H ty (s.getD t .void)).map fun v=> .tup [v,s.getD u .void,s.getD w .void]:=by
 simp only[Yg,Yh,BD]
 cases VV P H ty (s.getD t .void)<;>rfl
attribute [go_sem] JhE
end Go.Lg

namespace Go.Lg
open Go.Proofs
theorem Jhn{α:Type}(l:List α)(a b:Int):(sub l a b).length≤l.length:=by simp[sub];omega
theorem F5(r:Zq)(vs:List Int)(hl:vs.length≤4)(hv:∀v∈vs,0≤v∧v≤4)(hk:r.kind=1∨r.kind=2∨r.kind=3∨(r.kind=4∨r.kind=5)∧2≤vs.length):JM Tryz.prog 149 [aR r,QF vs] (bool (VY r vs)):=by
 have hnv:∀k:Nat,k<vs.length→0≤Jy vs k∧Jy vs k≤4:=fun k hk=>hv _ (by rw[Qe (by omega)];exact List.getElem_mem _)
 have hpt:=Gu hl hv
 have hst:=Jb3 hl hv
 refine Jk.cw (c:=_) Tryz.func149 rfl (n:=76) Tryz.ntmps149 (rs:=[.tmp 4]) rfl ?_
 simp only[Ja,Je,zA,zS,Jf,Jb,Jd]
 simp(maxSteps:=999999)(disch:=omega)only[go_sem,zA,zM,zS,zE,zL]
 intro g
 refine JO (fun k:Nat=>vs.length -k) (fun k=>k≤vs.length∧(r.kind=1→(vs.take k).Nodup)) (fun k=>[.a, .k, .k, .a, .a, .p (int (vs.take k).sum), .p (int (VT (vs.take k))), .a, .a, .k, .k, .p (int k), .a, .a, .a, .a, .a, .a, .a, .a, .a, .a, .a, .a, .a, .a, .a, .a, .a, .a, .a, .a, .a, .a, .a, .a, .a, .a, .a, .a, .a, .a, .a, .a, .a, .a, .a, .a, .a, .a, .a, .a, .a, .a, .a, .a, .a, .a, .a, .a, .a, .a, .a, .a, .a, .a, .a, .a, .a, .a, .a, .a, .a, .a, .a, .a]) (fun _=>[some ⟨g,1,cR r⟩]) 0 ⟨Nat.zero_le _,fun _=>by simp⟩ (by simp(maxSteps:=999999)(disch:=omega)only[go_sem,zA,zM,zS,zE,zL];simp[VT]) (J5.refl _) ?_
 rintro k ⟨hk',hnd⟩
 simp(maxSteps:=999999)(disch:=omega)only[go_sem,zA,zM,zS,zE,zL]
 ((first|(with_reducible first|refine Jm ?_ ?_|refine Jj ?_ ?_|refine Jo ?_ ?_)|refine Jr ?_ ?_)<;>intro h1)
 · have h1:k<vs.length:=by omega
   have e1:(vs.take (k+1)).sum=(vs.take k).sum+Jy vs k:=by rw[Qa h1];simp
   have e2:VT (vs.take (k+1))=VT (vs.take k)*Jy vs k:=by rw[Qa h1,BH]
   have b1:=hst (k+1)
   have b2:=hpt (k+1)
   rw[e1]at b1
   rw[e2]at b2
   have hin:Jy vs k∈vs.take k↔∃i:Nat,i<k∧Jy vs i=Jy vs k:=by
    constructor
    · intro h
      obtain⟨i,hi,he⟩:=List.mem_take_iff_getElem.1 h
      exact⟨i,by omega,by rw[Qe (by omega)];exact he⟩
    · rintro⟨i,hi,he⟩
      rw[←he,Qe (by omega)]
      exact List.mem_take_iff_getElem.2 ⟨i,by omega,rfl⟩
   simp(maxSteps:=999999)(disch:=omega)only[go_sem,zA,zM,zS,zE,zL]
   ((with_reducible first|refine JL ?_ ?_|refine JD ?_ ?_|refine JT ?_ ?_|refine Jv ?_ ?_|refine JJ ?_ ?_|refine JK ?_ ?_|refine JB ?_ ?_|refine JC ?_ ?_|refine JR ?_ ?_|refine JS ?_ ?_|refine Jw ?_ ?_|refine Jx ?_ ?_)<;>intro d1<;>simp(maxSteps:=999999)(disch:=omega)only[go_sem,zA,zM,zS,zE,zL,d1])
   · have hsub:sub vs 0 (k:Int)=vs.take k:=by simp[sub]
     have hco:=UN (sub vs 0 (k:Int)) (Jy vs k) (by have:=Jhn vs 0 (k:Int);omega)
     rw[hsub]at hco
     first|refine JU.rd (hco) (⟨_,Tryz.func82,rfl,rfl⟩:Jg Tryz.prog 82) rfl rfl rfl rfl ?_|refine JG.rd (hco) (⟨_,Tryz.func82,rfl,rfl⟩:Jg Tryz.prog 82) rfl rfl rfl rfl ?_
     simp(maxSteps:=999999)(disch:=omega)only[go_sem,zA,zM,zS,zE,zL]
     ((first|(with_reducible first|refine Jm ?_ ?_|refine Jj ?_ ?_|refine Jo ?_ ?_)|refine Jr ?_ ?_)<;>intro d2)
     · simp(maxSteps:=999999)(disch:=omega)only[go_sem,zA,zM,zS,zE,zL]
       have:¬vs.Nodup:=fun hn=>by
        have:=(Yj h1).1 (hn.sublist (List.take_sublist _ _))
        obtain⟨i,hi,he⟩:=hin.1 d2
        exact this.2 i hi he
       unfold VY
       rw[if_pos d1,decide_eq_false this]
     · simp(maxSteps:=999999)(disch:=omega)only[go_sem,zA,zM,zS,zE,zL]
       refine⟨k+1,⟨⟨by omega,fun h=> ?_⟩,by omega⟩,⟨e1.symm,e2.symm,by push_cast;omega⟩,J5.refl _⟩
       rw[Yj h1]
       exact⟨hnd d1,fun i hi he=>d2 (hin.2 ⟨i,hi,he⟩)⟩
   · refine⟨k+1,⟨⟨by omega,fun h=>by first|exact absurd h d1|exact h.elim⟩,by omega⟩,⟨e1.symm,e2.symm,by push_cast;omega⟩,J5.refl _⟩
 · have hkl:vs.take k=vs:=Js (by omega)
   simp(maxSteps:=999999)(disch:=omega)only[go_sem,zA,zM,zS,zE,zL]
   rw[hkl]at hnd
   rw[hkl]
   ((first|(with_reducible first|refine Jm ?_ ?_|refine Jj ?_ ?_|refine Jo ?_ ?_)|refine Jr ?_ ?_)<;>intro d2)
   · simp(maxSteps:=999999)(disch:=omega)only[go_sem,zA,zM,zS,zE,zL]
     unfold VY
     rw[if_neg (by omega),if_pos d2]
   simp(maxSteps:=999999)(disch:=omega)only[go_sem,zA,zM,zS,zE,zL]
   ((first|(with_reducible first|refine Jm ?_ ?_|refine Jj ?_ ?_|refine Jo ?_ ?_)|refine Jr ?_ ?_)<;>intro d3)
   · simp(maxSteps:=999999)(disch:=omega)only[go_sem,zA,zM,zS,zE,zL]
     unfold VY
     rw[if_neg (by omega),if_neg d2,if_pos d3]
   simp(maxSteps:=999999)(disch:=omega)only[go_sem,zA,zM,zS,zE,zL]
   ((first|(with_reducible first|refine Jm ?_ ?_|refine Jj ?_ ?_|refine Jo ?_ ?_)|refine Jr ?_ ?_)<;>intro d4)
   · have hl2:2≤vs.length:=by omega
     have v0:0≤Jy vs (0:Int)∧Jy vs (0:Int)≤4:=hnv 0 (by omega)
     have v1:0≤Jy vs (1:Int)∧Jy vs (1:Int)≤4:=hnv 1 (by omega)
     simp(maxSteps:=999999)(disch:=omega)only[go_sem,zA,zM,zS,zE,zL]
     refine Zi ZE (by kernel_rfl) ?_
     simp(maxSteps:=999999)(disch:=omega)only[go_sem,Nat.reduceBEq,Bool.true_or,zA,zM,zS,zE,zL]
     unfold VY
     rw[if_neg (by omega),if_neg d2,if_neg d3,if_pos d4]
   simp(maxSteps:=999999)(disch:=omega)only[go_sem,zA,zM,zS,zE,zL]
   ((first|(with_reducible first|refine Jm ?_ ?_|refine Jj ?_ ?_|refine Jo ?_ ?_)|refine Jr ?_ ?_)<;>intro d5)
   · have hl2:2≤vs.length:=by omega
     have v0:0≤Jy vs (0:Int)∧Jy vs (0:Int)≤4:=hnv 0 (by omega)
     have v1:0≤Jy vs (1:Int)∧Jy vs (1:Int)≤4:=hnv 1 (by omega)
     simp(maxSteps:=999999)(disch:=omega)only[go_sem,zA,zM,zS,zE,zL]
     refine Zi ZE (by kernel_rfl) ?_
     simp(maxSteps:=999999)(disch:=omega)only[go_sem,Nat.reduceBEq,Bool.true_or,zA,zM,zS,zE,zL]
     unfold VY
     rw[if_neg (by omega),if_neg d2,if_neg d3,if_neg d4]
   · have d1:r.kind=1:=by omega
     simp(maxSteps:=999999)(disch:=omega)only[go_sem,zA,zM,zS,zE,zL]
     unfold VY
     rw[if_pos d1,decide_eq_true (hnd d1)]
end Go.Lg
