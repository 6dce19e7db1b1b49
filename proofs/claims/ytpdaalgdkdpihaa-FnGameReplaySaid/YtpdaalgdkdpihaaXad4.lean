/- GpSA, GpGG, cut to what is needed. -/
import Derived.Test.YtpdaalgdkdpihaaXac3
import Derived.Test.YtpdaalgdkdpihaaXad3
open Nat renaming reduceAdd→zA,reduceMul→zM,reduceSub→zS,reduceEqDiff→zE,reduceLeDiff→zL
set_option linter.unusedSimpArgs false
set_option linter.unusedVariables false
set_option maxRecDepth 100000
namespace Go.Lg
open Go.Proofs
attribute [-go_sem] appendM
theorem RunCall.retag{P:Program}{f:FuncId}{args:List AV}{H:Heap}{Q Q':KV}(h:RunCall P f args H Q')(hq:∀v H',Q' v H'→Q v H'∨∃cs id g n b y,v= .tup [.agg (cs++[.own id g 0 n none]),y]∧look H' id g=some b∧n*b.sz≤b.cs.length∧
 ∀g',Q (.tup [.agg (cs++[.own id g' 0 n none]),y]) (H'.set id (some ⟨g',b.sz,b.cs.take (n*b.sz)⟩))):RunCall P f args H Q:=
 fun w X vs hH hvs=>(h w X vs hH hvs).mono fun _ w' ⟨v,u,X',H',h1,h2,h3,h4,h5⟩=>by
  rcases hq v H' h5 with hQ|⟨cs,id,g,n,b,y,rfl,hl,hn,hQ⟩
  · exact⟨v,u,X',H',h1,h2,h3,h4,hQ⟩
  · obtain⟨hid,hg⟩:=look_some hl
    have hlt:id<H'.length:=(List.getElem?_eq_some_iff.1 hid).1
    obtain⟨g1,g2,cc,t,g3,g4,g5,g6⟩:=h3.blk id b hid
    obtain⟨q1,q2⟩:=ren_block (w':=w') (sz':=b.sz) (cs:=b.cs.take (n*b.sz)) (cc:=cc) h3 hid (.inl rfl) g3 (fun _ _ _=>rfl) (Nat.le_refl _) rfl rfl rfl (by rw[List.length_take];omega) (fun j hj=>by
     rw[List.length_take]at hj
     rw[List.getElem_take]
     exact g6 j (by omega))
    refine⟨_,u,X'.new (X'.mu b.g) cc.size,_,h1, ?_,q1,h4.trans q2,hQ X'.t⟩
    cases h2 with
    |tup vs us h2=>
     refine .tup _ us fun j hj=> ?_
     match j,hj with
     |0,hj=>
      have h0:=h2 0 (by simp)
      simp only[List.getElem_cons_zero]at h0⊢
      cases hu:us 0 with
      |agg ws=>
       rw[hu]at h0
       cases h0 with
       |agg _ _ hs hc=>
        refine .agg _ _ (by simpa using hs) fun j hj=> ?_
        rw[List.length_append,List.length_singleton]at hj
        obtain⟨z,z1,z2⟩:=hc j (by rw[List.length_append,List.length_singleton];exact hj)
        refine⟨z,z1, ?_⟩
        by_cases hjc:j<cs.length
        · rw[List.getElem_append_left hjc]at z2⊢
          exact z2.mono q2
        · rw[List.getElem_append_right (by omega)]at z2⊢
          simp only[List.getElem_singleton]at z2⊢
          obtain⟨z3,z4,z5⟩:=z2
          obtain⟨k1,a,cap,k2,k3,k4,k5,k6⟩:=z5 b hl
          refine⟨Nat.lt_succ_self _,z4,fun blk hblk=> ?_⟩
          obtain⟨m1,m2⟩:=look_some hblk
          rw[List.getElem?_set_self hlt]at m1
          cases m1
          subst hg
          refine⟨by simp only[List.length_take];omega,a,cap,k2,k3,fun hc0=>by simpa[Cx.new]using k4 hc0, ?_, ?_⟩
          · simp only[Cx.new,if_true]
            rw[g4]
            exact k5
          · simp only[List.length_take]
            simp only at k6
            have:n*b.sz≤cap*b.sz:=Nat.mul_le_mul_right _ k3
            omega
      |_=>rw[hu]at h0;cases h0
     |1,hj=>exact(h2 1 (by simp)).mono q2
def gamE(H:Heap)(q:Gam)(c3 c4:CV):Prop:=∃S3 S4,OwnE H c3 q.put S3∧OwnE H c4 q.moves S4∧∀k∈S3,k∉S4
def aE(q:Gam)(c3 c4:CV):AV:= .agg [.f (.int .i64 q.task.size), .f (fints q.task.given), .f (fsl eR q.task.rules),c3,c4]
def gamEQ(q:Gam)(y:AV):KV:=fun v H=>∃c3 c4,v= .tup [aE q c3 c4,y]∧gamE H q c3 c4
theorem own_fin{H:Heap}{q q':Gam}{b b':Bool}{c3 c4:CV}{S3 S4:List Nat}(hq:q'=q)(hb:b'=b)(k3:OwnE H c3 q.put S3)(k4:OwnE H c4 q.moves S4)(hd:∀k∈S3,k∉S4):
 lessQ H (gamEQ q' (bool b')) (.tup [.agg [.f (.int .i64 q.task.size), .f (fints q.task.given), .f (fsl eR q.task.rules),c3,c4], .c (.f (.bool b))]):=by
 subst hq hb
 exact⟨H,HLe.refl _,c3,c4,rfl,S3,S4,k3,k4,hd⟩
theorem sGamePut_own(q:Gam)(cell value:Int)(hx:smG q)(hv:gameValid q=true):RunCall Try.prog 32 [aG q,int cell,int value] [] (gamEQ (gamePut q cell value) (bool (gamePutB q cell value))):=by
 refine RunCall.cw (c:=_) Try.func32 rfl (n:=58) Try.ntmps32 (rs:=[.cell 6 34, .tmp 7]) rfl ?_
 simp only[List.length_cons,List.length_nil,zA,zS,List.replicate,List.cons_append,List.nil_append]
 simp(maxSteps:=999999)(disch:=omega)only[go_sem,zA,zM,zS,zE,zL]
 intro g1 g2
 first|refine OpS.rd (sGameValid_run q hx) (⟨_,Try.func41,rfl,rfl⟩:Enters Try.prog 41) rfl rfl rfl rfl ?_|refine Loud.rd (sGameValid_run q hx) (⟨_,Try.func41,rfl,rfl⟩:Enters Try.prog 41) rfl rfl rfl rfl ?_
 simp(maxSteps:=999999)(disch:=omega)only[go_sem,zA,zM,zS,zE,zL]
 ((first|(with_reducible first|refine condK_dec ?_ ?_|refine condK_ndec ?_ ?_|refine condK_nb ?_ ?_)|refine condK_b ?_ ?_)<;>intro h)
 · simp(maxSteps:=999999)(disch:=omega)only[go_sem,zA,zM,zS,zE,zL]
   obtain⟨h1,h2,h3,h4,h5,h6⟩:=gameValid_facts h
   refine OpS.mkC (l25Copy_own q hx) (⟨_,Try.func60,rfl,rfl⟩:Enters Try.prog 60) rfl rfl rfl ?_
   intro c3 c4 H1 S3 S4 k3 k4 n3 m3 m4
   simp(maxSteps:=999999)(disch:=omega)only[go_sem,zA,zM,zS,zE,zL]
   intro g3
   simp(maxSteps:=999999)(disch:=omega)only[go_sem,zA,zM,zS,zE,zL,look_last,set_last]
   simp only[List.length_cons,List.length_nil,List.cons_append,List.nil_append]at k3 k4 m3 m4
   obtain⟨HA,hHA⟩:∃HA:Heap,HA=some ⟨g1,1,cG q⟩::some ⟨g2,5,[.f (.int .i64 0), .f .nil, .f .nil, .f .nil, .f .nil]⟩::(H1++[some ⟨g3,5,[.f (.int .i64 q.task.size), .f (fints q.task.given), .f (fsl eR q.task.rules),c3,c4]⟩]):=⟨_,rfl⟩
   have mv:∀k,2≤k∧k<2+H1.length→∀X1 X2:Option Blk,HA[k]? =(X1::X2::H1)[k]? :=fun k hk X1 X2=>by
    rw[hHA,cons2 hk.1,cons2 hk.1,List.getElem?_append_left (by omega)]
   have e3:=k3.same (H':=HA) fun k hk=>mv k (by have:=m3 k hk;omega) _ _
   have e4:=k4.same (H':=HA) fun k hk=>mv k (by have:=m4 k hk;omega) _ _
   have b0:look HA 0 g1=some ⟨g1,1,cG q⟩:=by rw[hHA];simp only[go_sem]
   have b1:look HA 1 g2=some ⟨g2,5,[.f (.int .i64 0), .f .nil, .f .nil, .f .nil, .f .nil]⟩:=by rw[hHA];simp only[go_sem]
   have b2:look HA (H1.length+1+1) g3=some ⟨g3,5,[.f (.int .i64 q.task.size), .f (fints q.task.given), .f (fsl eR q.task.rules),c3,c4]⟩:=by rw[hHA];simp only[go_sem];exact look_last
   have hlA:HA.length=H1.length+3:=by rw[hHA];simp
   rw[←hHA]
   clear hHA k3 k4
   have no:¬putOk q cell value→gamePut q cell value=q∧gamePutB q cell value=false:=fun hn=>by simp[gamePut,gamePutB,h,hn]
   have fin:∀{X:Option Blk},¬putOk q cell value→lessQ (HA.set 1 X) (gamEQ (gamePut q cell value) (bool (gamePutB q cell value))) (.tup [.agg [.f (.int .i64 q.task.size), .f (fints q.task.given), .f (fsl eR q.task.rules),c3,c4], .c (.f (.bool false))]):=fun{X} hn=>
    have hX:∀k,2≤k→(HA.set 1 X)[k]? =HA[k]? :=fun k hk=>by rw[List.getElem?_set_ne (by omega)]
    own_fin (no hn).1 (no hn).2 (e3.same fun k hk=>hX k (by have:=m3 k hk;omega)) (e4.same fun k hk=>hX k (by have:=m4 k hk;omega)) n3
   refine drawP_lM [0,1,2,3,4,5,6,7,8,9,10,11,12,13,14,15,16,17,18,19,20,21,22,23,24,25,26] [] none [27,28,29] [] [0,0,2,6,14,31,63,127,255,255,767,1791,4095,8191,16383,32767,65535,131071,65535,524287,1048575,65535,2162687,6356991,65535,31522815,65077247,134217727,268435455,536870911] foll (by kernel_rfl) ?_
   simp(maxSteps:=999999)(disch:=omega)only[go_sem,zA,zM,zS,zE,zL,b0]
   first|refine OpS.rd (l1In_run _ _ _) (⟨_,Try.func63,rfl,rfl⟩:Enters Try.prog 63) rfl rfl rfl rfl ?_|refine Loud.rd (l1In_run _ _ _) (⟨_,Try.func63,rfl,rfl⟩:Enters Try.prog 63) rfl rfl rfl rfl ?_
   simp(maxSteps:=999999)(disch:=omega)only[go_sem,zA,zM,zS,zE,zL]
   ((with_reducible first|refine guardK_dec ?_ ?_|refine guardK_ndec ?_ ?_|refine guardK_nb ?_ ?_|refine guardK_split ?_ ?_|refine guardQ_dec ?_ ?_|refine guardL_dec ?_ ?_|refine guardQ_ndec ?_ ?_|refine guardL_ndec ?_ ?_|refine guardQ_nb ?_ ?_|refine guardL_nb ?_ ?_|refine guardQ_split ?_ ?_|refine guardL_split ?_ ?_)<;>intro a1<;>simp(maxSteps:=999999)(disch:=omega)only[go_sem,zA,zM,zS,zE,zL,a1])
   rotate_left
   · simp(maxSteps:=999999)(disch:=omega)only[go_sem,zA,zM,zS,zE,zL,b0,b1,b2]
     rw[look_set_eq (by omega)]
     simp(maxSteps:=999999)(disch:=omega)only[go_sem,zA,zM,zS,zE,zL]
     exact fin fun hn=>by unfold putOk at hn;omega
   simp(maxSteps:=999999)(disch:=omega)only[go_sem,zA,zM,zS,zE,zL,b0]
   first|refine OpS.rd (l1In_run _ _ _) (⟨_,Try.func63,rfl,rfl⟩:Enters Try.prog 63) rfl rfl rfl rfl ?_|refine Loud.rd (l1In_run _ _ _) (⟨_,Try.func63,rfl,rfl⟩:Enters Try.prog 63) rfl rfl rfl rfl ?_
   simp(maxSteps:=999999)(disch:=omega)only[go_sem,zA,zM,zS,zE,zL]
   ((with_reducible first|refine guardK_dec ?_ ?_|refine guardK_ndec ?_ ?_|refine guardK_nb ?_ ?_|refine guardK_split ?_ ?_|refine guardQ_dec ?_ ?_|refine guardL_dec ?_ ?_|refine guardQ_ndec ?_ ?_|refine guardL_ndec ?_ ?_|refine guardQ_nb ?_ ?_|refine guardL_nb ?_ ?_|refine guardQ_split ?_ ?_|refine guardL_split ?_ ?_)<;>intro a2<;>simp(maxSteps:=999999)(disch:=omega)only[go_sem,zA,zM,zS,zE,zL,a2])
   rotate_left
   · simp(maxSteps:=999999)(disch:=omega)only[go_sem,zA,zM,zS,zE,zL,b0,b1,b2]
     rw[look_set_eq (by omega)]
     simp(maxSteps:=999999)(disch:=omega)only[go_sem,zA,zM,zS,zE,zL]
     exact fin fun hn=>by unfold putOk at hn;omega
   obtain⟨i,rfl⟩:∃i:Nat,cell=i:=⟨cell.toNat,by omega⟩
   have hil:i<q.put.length:=by omega
   obtain⟨hgl,_⟩:=grid_le h hil
   simp(maxSteps:=999999)(disch:=omega)only[go_sem,zA,zM,zS,zE,zL,b0]
   ((first|(with_reducible first|refine condK_dec ?_ ?_|refine condK_ndec ?_ ?_|refine condK_nb ?_ ?_)|refine condK_b ?_ ?_)<;>intro a3)
   · simp(maxSteps:=999999)(disch:=omega)only[go_sem,zA,zM,zS,zE,zL,b0,b1,b2]
     rw[look_set_eq (by omega)]
     simp(maxSteps:=999999)(disch:=omega)only[go_sem,zA,zM,zS,zE,zL]
     exact fin fun hn=>by unfold putOk at hn;omega
   have ok:putOk q i value:=⟨by omega,by omega,hgl.2 (by omega),by omega,by omega⟩
   have r1:gamePut q i value=⟨q.task,q.put.set i value,q.moves++[(i:Int)]⟩:=by simp[gamePut,h,ok]
   have r2:gamePutB q i value=true:=by simp[gamePutB,h,ok]
   have hne:q.put≠[]:=by intro h0;rw[h0]at hil;simp at hil
   obtain⟨id3,g4,rfl,rfl,l3⟩:=e3.inv hne
   have hi3:=m3 id3 (by simp)
   simp(maxSteps:=999999)(disch:=omega)only[go_sem,zA,zM,zS,zE,zL,b0,b1,b2,l3]
   rw[Int.toNat_natCast]
   have hlt3:id3<HA.length:=by omega
   obtain⟨HB,hHB⟩:∃HB:Heap,HB=HA.set id3 (some ⟨g4,1,cl (eI .i64) (q.put.set i value)⟩):=⟨_,rfl⟩
   have hB:∀k,k≠id3→HB[k]? =HA[k]? :=fun k hk=>by rw[hHB,List.getElem?_set_ne (Ne.symm hk)]
   have hlB:HB.length=H1.length+3:=by rw[hHB,List.length_set,hlA]
   have f4:=e4.same (H':=HB) fun k hk=>hB k fun he=>n3 id3 (by simp) (he▸hk)
   have f3:OwnE HB (.own id3 g4 0 q.put.length none) (q.put.set i value) [id3]:=by
    have:=OwnE.o (H:=HB) id3 g4 (q.put.set i value) (by rw[hHB];exact look_of (b:=⟨g4,1,cl (eI .i64) (q.put.set i value)⟩) (by rw[List.getElem?_set_self hlt3]))
    rwa [List.length_set]at this
   have b3:look HB 1 g2=some ⟨g2,5,[.f (.int .i64 0), .f .nil, .f .nil, .f .nil, .f .nil]⟩:=by unfold look;rw[hB 1 (by omega)];exact b1
   have b4:look HB (H1.length+1+1) g3=some ⟨g3,5,[.f (.int .i64 q.task.size), .f (fints q.task.given), .f (fsl eR q.task.rules), .own id3 g4 0 q.put.length none,c4]⟩:=by unfold look;rw[hB _ (by omega)];exact b2
   rw[←hHB]
   clear hHB e3 e4 b1 b2 l3
   simp(maxSteps:=999999)(disch:=omega)only[go_sem,zA,zM,zS,zE,zL,b4]
   intro g5
   have hlt8:H1.length+1+1<HB.length:=by omega
   refine appendM_E (sliceOf_of ti22 rfl ti3) ⟨rfl,rfl,rfl⟩ (f4.same fun k hk=>List.getElem?_append_left (f4.lt k hk)) (by omega) look_last ?_
   intro c5 HC S5 hA hC hS5 hlC
   rw[List.length_append,List.length_singleton]at hlC hS5
   have hC':∀k,k<HB.length→k∉S4→HC[k]? =HB[k]? :=fun k hk hn=>by rw[hC k (by rw[List.length_append];omega) hn,List.getElem?_append_left hk]
   have b5:look HC 1 g2=some ⟨g2,5,[.f (.int .i64 0), .f .nil, .f .nil, .f .nil, .f .nil]⟩:=by unfold look;rw[hC' 1 (by omega) fun hm=>by have:=m4 _ hm;omega];exact b3
   have b6:look HC (H1.length+1+1) g3=some ⟨g3,5,[.f (.int .i64 q.task.size), .f (fints q.task.given), .f (fsl eR q.task.rules), .own id3 g4 0 q.put.length none,c4]⟩:=by unfold look;rw[hC' _ hlt8 fun hm=>by have:=m4 _ hm;omega];exact b4
   simp(maxSteps:=999999)(disch:=omega)only[go_sem,zA,zM,zS,zE,zL,b6]
   rw[look_set_eq (by omega)]
   simp(maxSteps:=999999)(disch:=omega)only[go_sem,zA,zM,zS,zE,zL]
   rw[look_set_ne (by omega),b5]
   simp(maxSteps:=999999)(disch:=omega)only[go_sem,zA,zM,zS,zE,zL]
   rw[look_set_eq (by rw[List.length_set];omega)]
   simp(maxSteps:=999999)(disch:=omega)only[go_sem,zA,zM,zS,zE,zL]
   have hD:∀{X Y:Option Blk},∀k,2≤k∧k<2+H1.length∨HB.length+1≤k→((HC.set (H1.length+1+1) X).set 1 Y)[k]? =HC[k]? :=fun k hk=>by
    rw[List.getElem?_set_ne (by omega),List.getElem?_set_ne (by omega)]
   refine own_fin (q:=⟨q.task,q.put.set i value,q.moves++[(i:Int)]⟩) r1 r2 (f3.same fun k hk=> ?_) (hA.same fun k hk=>hD k ?_) ?_
   · have:=m3 k hk
     rw[hD k (.inl (by omega)),hC' k (by omega) (n3 k hk)]
   · rcases hS5 k hk with h5|h5
     · have:=m4 k h5
       exact .inl (by omega)
     · exact .inr (by omega)
   · intro k hk hm5
     have hk:k=id3:=by simpa using hk
     subst hk
     rcases hS5 _ hm5 with h5|h5
     · exact n3 _ (by simp) h5
     · omega
 · rw[hv]at h
   cases h
def backQ(q:Gam):KV:=fun v H=>gamEQ (gameBack q) (bool (gameBackB q)) v H∨∃id3 g4 id4 g5 mi,v= .tup [aE q (.own id3 g4 0 q.put.length none) (.own id4 g5 0 (q.moves.length -1) none),bool (gameBackB q)]∧q.moves≠[]∧nth q.moves ((q.moves.length:Int) -1)=((mi:Nat):Int)∧
 look H id3 g4=some ⟨g4,1,cl (eI .i64) (q.put.set mi 0)⟩∧look H id4 g5=some ⟨g5,1,cl (eI .i64) q.moves⟩∧id3≠id4
theorem back_fin{q:Gam}{H:Heap}{v:AV}(h:lessQ H (gamEQ (gameBack q) (bool (gameBackB q))) v):lessQ H (backQ q) v:=by
 obtain⟨H',h1,h2⟩:=h
 exact⟨H',h1, .inl h2⟩
theorem back_tag{q:Gam}(hv:gameValid q=true):∀v H',backQ q v H'→gamEQ (gameBack q) (bool (gameBackB q)) v H'∨∃cs id g n b y,v= .tup [.agg (cs++[.own id g 0 n none]),y]∧look H' id g=some b∧n*b.sz≤b.cs.length∧
 ∀g',gamEQ (gameBack q) (bool (gameBackB q)) (.tup [.agg (cs++[.own id g' 0 n none]),y]) (H'.set id (some ⟨g',b.sz,b.cs.take (n*b.sz)⟩)):=by
 rintro v H' (h|⟨id3,g4,id4,g5,mi,rfl,hm,hmi,h3,h4,hne⟩)
 · exact .inl h
 refine .inr ⟨[.f (.int .i64 q.task.size), .f (fints q.task.given), .f (fsl eR q.task.rules), .own id3 g4 0 q.put.length none],id4,g5,q.moves.length -1,_,bool (gameBackB q),rfl,h4, ?_,fun g'=> ?_⟩
 · simp only[cl_length]
   omega
 have r1:gameBack q=⟨q.task,q.put.set mi 0,q.moves.take (q.moves.length -1)⟩:=by simp[gameBack,hv,hm,hmi]
 have hlt:id4<H'.length:=(List.getElem?_eq_some_iff.1 (look_some h4).1).1
 have e4:(cl (eI .i64) q.moves).take ((q.moves.length -1)*1)=cl (eI .i64) (q.moves.take (q.moves.length -1)):=by
  unfold cl
  rw[←List.map_take,fl_take]
 rw[r1]
 refine⟨.own id3 g4 0 q.put.length none, .own id4 g' 0 (q.moves.length -1) none,rfl,[id3],[id4], ?_, ?_,by simp[hne]⟩
 · have:=OwnE.o (H:=H'.set id4 (some ⟨g',1,(cl (eI .i64) q.moves).take ((q.moves.length -1)*1)⟩)) id3 g4 (q.put.set mi 0) (by rw[look_set_ne (Ne.symm hne)];exact h3)
   rwa [List.length_set]at this
 · have:=OwnE.o (H:=H'.set id4 (some ⟨g',1,(cl (eI .i64) q.moves).take ((q.moves.length -1)*1)⟩)) id4 g' (q.moves.take (q.moves.length -1)) (by rw[←e4];exact look_set_eq' hlt)
   rwa [List.length_take,Nat.min_eq_left (by omega)]at this
theorem sGameBack_own(q:Gam)(hx:smG q)(hv:gameValid q=true):RunCall Try.prog 30 [aG q] [] (gamEQ (gameBack q) (bool (gameBackB q))):=by
 refine RunCall.retag (Q':=backQ q) ?_ (back_tag hv)
 refine RunCall.cw (c:=_) Try.func30 rfl (n:=33) Try.ntmps30 (rs:=[.cell 2 34, .tmp 3]) rfl ?_
 simp only[List.length_cons,List.length_nil,zA,zS,List.replicate,List.cons_append,List.nil_append]
 simp(maxSteps:=999999)(disch:=omega)only[go_sem,zA,zM,zS,zE,zL]
 intro g1 g2
 first|refine OpS.rd (sGameValid_run q hx) (⟨_,Try.func41,rfl,rfl⟩:Enters Try.prog 41) rfl rfl rfl rfl ?_|refine Loud.rd (sGameValid_run q hx) (⟨_,Try.func41,rfl,rfl⟩:Enters Try.prog 41) rfl rfl rfl rfl ?_
 simp(maxSteps:=999999)(disch:=omega)only[go_sem,zA,zM,zS,zE,zL]
 ((first|(with_reducible first|refine condK_dec ?_ ?_|refine condK_ndec ?_ ?_|refine condK_nb ?_ ?_)|refine condK_b ?_ ?_)<;>intro h)
 · simp(maxSteps:=999999)(disch:=omega)only[go_sem,zA,zM,zS,zE,zL]
   obtain⟨h1,h2,h3,h4,h5,h6⟩:=gameValid_facts h
   refine OpS.mkC (l25Copy_own q hx) (⟨_,Try.func60,rfl,rfl⟩:Enters Try.prog 60) rfl rfl rfl ?_
   intro c3 c4 H1 S3 S4 k3 k4 n3 m3 m4
   simp(maxSteps:=999999)(disch:=omega)only[go_sem,zA,zM,zS,zE,zL]
   intro g3
   simp(maxSteps:=999999)(disch:=omega)only[go_sem,zA,zM,zS,zE,zL,look_last,set_last]
   simp only[List.length_cons,List.length_nil,List.cons_append,List.nil_append]at k3 k4 m3 m4
   obtain⟨HA,hHA⟩:∃HA:Heap,HA=some ⟨g1,1,cG q⟩::some ⟨g2,5,[.f (.int .i64 0), .f .nil, .f .nil, .f .nil, .f .nil]⟩::(H1++[some ⟨g3,5,[.f (.int .i64 q.task.size), .f (fints q.task.given), .f (fsl eR q.task.rules),c3,c4]⟩]):=⟨_,rfl⟩
   have mv:∀k,2≤k∧k<2+H1.length→∀X1 X2:Option Blk,HA[k]? =(X1::X2::H1)[k]? :=fun k hk X1 X2=>by
    rw[hHA,cons2 hk.1,cons2 hk.1,List.getElem?_append_left (by omega)]
   have e3:=k3.same (H':=HA) fun k hk=>mv k (by have:=m3 k hk;omega) _ _
   have e4:=k4.same (H':=HA) fun k hk=>mv k (by have:=m4 k hk;omega) _ _
   have b0:look HA 0 g1=some ⟨g1,1,cG q⟩:=by rw[hHA];simp only[go_sem]
   have b1:look HA 1 g2=some ⟨g2,5,[.f (.int .i64 0), .f .nil, .f .nil, .f .nil, .f .nil]⟩:=by rw[hHA];simp only[go_sem]
   have b2:look HA (H1.length+1+1) g3=some ⟨g3,5,[.f (.int .i64 q.task.size), .f (fints q.task.given), .f (fsl eR q.task.rules),c3,c4]⟩:=by rw[hHA];simp only[go_sem];exact look_last
   have hlA:HA.length=H1.length+3:=by rw[hHA];simp
   rw[←hHA]
   clear hHA k3 k4
   by_cases hm:q.moves=[]
   · have r1:gameBack q=q:=by simp[gameBack,h,hm]
     have r2:gameBackB q=false:=by simp[gameBackB,hm]
     have fin:∀{X:Option Blk},lessQ (HA.set 1 X) (backQ q) (.tup [.agg [.f (.int .i64 q.task.size), .f (fints q.task.given), .f (fsl eR q.task.rules),c3,c4], .c (.f (.bool false))]):=fun{X}=>
      have hX:∀k,2≤k→(HA.set 1 X)[k]? =HA[k]? :=fun k hk=>by rw[List.getElem?_set_ne (by omega)]
      back_fin (own_fin r1 r2 (e3.same fun k hk=>hX k (by have:=m3 k hk;omega)) (e4.same fun k hk=>hX k (by have:=m4 k hk;omega)) n3)
     rcases e4.inv0 hm with rfl|⟨id4,g4,rfl,l4⟩
     · simp(maxSteps:=999999)(disch:=omega)only[go_sem,zA,zM,zS,zE,zL,lt_yes,lt_no,b2]
       rw[b1]
       simp(maxSteps:=999999)(disch:=omega)only[go_sem,zA,zM,zS,zE,zL]
       rw[look_set_eq (by omega)]
       simp(maxSteps:=999999)(disch:=omega)only[go_sem,zA,zM,zS,zE,zL]
       exact fin
     · simp(maxSteps:=999999)(disch:=omega)only[go_sem,zA,zM,zS,zE,zL,lt_yes,lt_no,b2,l4]
       rw[b1]
       simp(maxSteps:=999999)(disch:=omega)only[go_sem,zA,zM,zS,zE,zL]
       rw[look_set_eq (by omega)]
       simp(maxSteps:=999999)(disch:=omega)only[go_sem,zA,zM,zS,zE,zL]
       exact fin
   obtain⟨hl0,hl1⟩:=last_move h4 hm
   obtain⟨mi,hmi⟩:∃mi:Nat,nth q.moves ((q.moves.length:Int) -1)=mi:=⟨(nth q.moves ((q.moves.length:Int) -1)).toNat,by omega⟩
   have r1:gameBack q=⟨q.task,q.put.set mi 0,q.moves.take (q.moves.length -1)⟩:=by simp[gameBack,h,hm,hmi]
   have r2:gameBackB q=true:=by simp[gameBackB,h,hm]
   have hne:q.put≠[]:=by intro h0;rw[h0]at hl1;simp at hl1;omega
   have hmp:0<q.moves.length:=List.length_pos_iff.2 hm
   obtain⟨id3,g4,rfl,rfl,l3⟩:=e3.inv hne
   obtain⟨id4,g5,rfl,rfl,l4⟩:=e4.inv hm
   have hi3:=m3 id3 (by simp)
   have hi4:=m4 id4 (by simp)
   have hni:id3≠id4:=fun he=>n3 id3 (by simp) (by simp[he])
   have hml:mi<q.put.length:=by omega
   have hix:∀zs:List Int,0<zs.length→((zs.length:Int) -1).toNat=zs.length -1:=fun zs hz=>by omega
   simp(maxSteps:=999999)(disch:=omega)only[go_sem,zA,zM,zS,zE,zL,lt_yes,lt_no,b2,l4]
   refine drawP_lM [0,1,2,3,4,5,6] [] none [7,8] [] [0,1,0,4,0,28,60,127,255] foll (by kernel_rfl) ?_
   simp(maxSteps:=999999)(disch:=omega)only[go_sem,zA,zM,zS,zE,zL,b2,l3,l4,hmi]
   rw[Int.toNat_natCast]
   have hlt3:id3<HA.length:=by omega
   obtain⟨HB,hHB⟩:∃HB:Heap,HB=HA.set id3 (some ⟨g4,1,cl (eI .i64) (q.put.set mi 0)⟩):=⟨_,rfl⟩
   have hB:∀k,k≠id3→HB[k]? =HA[k]? :=fun k hk=>by rw[hHB,List.getElem?_set_ne (Ne.symm hk)]
   have hlB:HB.length=H1.length+3:=by rw[hHB,List.length_set,hlA]
   have l5:look HB id4 g5=some ⟨g5,1,cl (eI .i64) q.moves⟩:=by unfold look;rw[hB _ (Ne.symm hni)];exact l4
   have l6:look HB id3 g4=some ⟨g4,1,cl (eI .i64) (q.put.set mi 0)⟩:=by rw[hHB];exact look_of (b:=⟨g4,1,cl (eI .i64) (q.put.set mi 0)⟩) (by rw[List.getElem?_set_self hlt3])
   have b3:look HB 1 g2=some ⟨g2,5,[.f (.int .i64 0), .f .nil, .f .nil, .f .nil, .f .nil]⟩:=by unfold look;rw[hB 1 (by omega)];exact b1
   have b4:look HB (H1.length+1+1) g3=some ⟨g3,5,[.f (.int .i64 q.task.size), .f (fints q.task.given), .f (fsl eR q.task.rules), .own id3 g4 0 q.put.length none, .own id4 g5 0 q.moves.length none]⟩:=by unfold look;rw[hB _ (by omega)];exact b2
   rw[←hHB]
   clear hHB e3 e4 b1 b2 l3 l4
   simp(maxSteps:=999999)(disch:=omega)only[go_sem,zA,zM,zS,zE,zL,b4,l5]
   rw[hix _ hmp,sliceV_ownT ti22 rfl ti3 rfl l5 rfl (by simp only[cl_length];omega)]
   simp(maxSteps:=999999)(disch:=omega)only[go_sem,zA,zM,zS,zE,zL,b4]
   rw[look_set_eq (by omega)]
   simp(maxSteps:=999999)(disch:=omega)only[go_sem,zA,zM,zS,zE,zL]
   rw[look_set_ne (by omega),b3]
   simp(maxSteps:=999999)(disch:=omega)only[go_sem,zA,zM,zS,zE,zL]
   rw[look_set_eq (by rw[List.length_set];omega)]
   simp(maxSteps:=999999)(disch:=omega)only[go_sem,zA,zM,zS,zE,zL]
   have hD:∀{X Y:Option Blk} {k g:Nat},2≤k∧k<2+H1.length→look ((HB.set (H1.length+1+1) X).set 1 Y) k g=look HB k g:=fun hk=>by
    rw[look_set_ne (by omega),look_set_ne (by omega)]
   refine⟨_,HLe.refl _, .inr ⟨id3,g4,id4,g5,mi, ?_,hm,hmi, ?_, ?_,hni⟩⟩
   · rw[r2]
     rfl
   · rw[hD (by omega)]
     exact l6
   · rw[hD (by omega)]
     exact l5
 · rw[hv]at h
   cases h
end Go.Lg

namespace Go.Lg
open Go.Proofs
attribute [-go_sem] appendM lwF_cons
theorem resV_ctt(P:Program)(s:List AV)(H:Heap)(t u w:Nat)(ty:TypeId):resV P s H [.cell t ty, .tmp u, .tmp w]=(loadV P H ty (s.getD t .void)).map fun v=> .tup [v,s.getD u .void,s.getD w .void]:=by
 simp only[resV,resAll,resOne]
 cases loadV P H ty (s.getD t .void)<;>rfl
attribute [go_sem] resV_ctt
theorem aliveF_run:Reads Try.prog 37 [] (bool true):=by
 refine RunCall.cw (c:=_) Try.func37 rfl (n:=4) Try.ntmps37 (rs:=[.tmp 0]) rfl ?_
 simp only[List.length_cons,List.length_nil,zA,zS,List.replicate,List.cons_append,List.nil_append]
 simp(maxSteps:=999999)(disch:=omega)only[go_sem,zA,zM,zS,zE,zL]
 intro g
 have hown:OwnI [some ⟨g,1,[.f (.int .i64 1), .f (.int .i64 0), .f (.int .i64 0), .f (.int .i64 2)]⟩] (.own 0 g 0 4 none) [1,0,0,2] [0]:=OwnI.o 0 g none [1,0,0,2] [] (by rw[look_zero];rfl)
 refine OpS.rdD (GridFilled_run [1,0,0,2] 2 (by simp)) (⟨_,Try.func43,rfl,rfl⟩:Enters Try.prog 43) rfl rfl (snap_two hown.snap snapD_int) rfl ?_
 have e:gridFilled [1,0,0,2] 2=2:=by decide
 rw[e]
 simp(maxSteps:=999999)(disch:=omega)only[go_sem,zA,zM,zS,zE,zL]
theorem sameIntsF_run(xs ys:List Int)(hx:xs.length≤2^40):Reads Try.prog 39 [ints xs,ints ys] (bool (decide (xs=ys))):=by
 refine RunCall.cw (c:=_) Try.func39 rfl (n:=26) Try.ntmps39 (rs:=[.tmp 4]) rfl ?_
 simp only[List.length_cons,List.length_nil,zA,zS,List.replicate,List.cons_append,List.nil_append]
 simp(maxSteps:=999999)(disch:=omega)only[go_sem,zA,zM,zS,zE,zL]
 ((first|(with_reducible first|refine condK_dec ?_ ?_|refine condK_ndec ?_ ?_|refine condK_nb ?_ ?_)|refine condK_b ?_ ?_)<;>intro h)
 rotate_left
 · simp(maxSteps:=999999)(disch:=omega)only[go_sem,zA,zM,zS,zE,zL]
   rw[eq_comm,decide_eq_false_iff_not]
   intro h2
   exact h (by rw[h2])
 have hl:xs.length=ys.length:=by omega
 simp(maxSteps:=999999)(disch:=omega)only[go_sem,zA,zM,zS,zE,zL]
 refine loop_rule (fun i:Nat=>xs.length -i) (fun i=>i≤xs.length∧∀j:Nat,j<i→nth xs j=nth ys j) (fun i=>[.k, .k, .a, .a, .a, .p (int i), .a, .a, .a, .a, .a, .a, .a, .a, .a, .a, .a, .a, .a, .a, .a, .a, .a, .a, .a, .a]) (fun i=>[]) 0
  ⟨Nat.zero_le _,fun j hj=>absurd hj (Nat.not_lt_zero _)⟩ (by simp(maxSteps:=999999)(disch:=omega)only[go_sem,zA,zM,zS,zE,zL];rfl) (hle_nil _) ?_
 rintro i ⟨hi,hall⟩
 simp(maxSteps:=999999)(disch:=omega)only[go_sem,zA,zM,zS,zE,zL]
 ((first|(with_reducible first|refine condK_dec ?_ ?_|refine condK_ndec ?_ ?_|refine condK_nb ?_ ?_)|refine condK_b ?_ ?_)<;>intro h)
 · have h:i<xs.length:=by omega
   simp(maxSteps:=999999)(disch:=omega)only[go_sem,zA,zM,zS,zE,zL]
   refine drawP_q foll (by kernel_rfl) ?_
   simp(maxSteps:=999999)(disch:=omega)only[go_sem,Nat.reduceBEq,Bool.true_or,zA,zM,zS,zE,zL]
   ((first|(with_reducible first|refine condK_dec ?_ ?_|refine condK_ndec ?_ ?_|refine condK_nb ?_ ?_)|refine condK_b ?_ ?_)<;>intro h2)
   · simp(maxSteps:=999999)(disch:=omega)only[go_sem,zA,zM,zS,zE,zL]
     refine⟨i+1,⟨⟨by omega,fun j hj=> ?_⟩,by omega⟩,by push_cast;omega,hle_nil _⟩
     rcases Nat.lt_succ_iff_lt_or_eq.1 hj with hj|rfl
     · exact hall j hj
     · exact h2
   · simp(maxSteps:=999999)(disch:=omega)only[go_sem,zA,zM,zS,zE,zL]
     rw[eq_comm,decide_eq_false_iff_not]
     intro h3
     exact h2 (by rw[h3])
 · simp(maxSteps:=999999)(disch:=omega)only[go_sem,zA,zM,zS,zE,zL]
   rw[decide_eq_true (ext_nth hl fun j hj=>hall j (by omega))]
end Go.Lg
