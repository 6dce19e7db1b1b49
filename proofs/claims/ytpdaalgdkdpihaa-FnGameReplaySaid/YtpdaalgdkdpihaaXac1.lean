/- GpY, GpZ, cut to what is needed. -/
import Derived.Test.YtpdaalgdkdpihaaXac0
open Nat renaming reduceAdd→zA,reduceMul→zM,reduceSub→zS,reduceEqDiff→zE,reduceLeDiff→zL
set_option linter.unusedSimpArgs false
set_option linter.unusedVariables false
set_option maxRecDepth 100000
namespace Go.Lg
open Go.Proofs
attribute [-go_sem] appendM
def zeroG:Gam:=⟨⟨0,[],[]⟩,[],[]⟩
def putOk(q:Gam)(cell value:Int):Prop:=0≤cell∧cell<q.put.length∧nth (gameGrid q) cell≤0∧1≤value∧value≤q.task.size
instance(q:Gam)(cell value:Int):Decidable (putOk q cell value):=by unfold putOk;infer_instance
def gamePut(q:Gam)(cell value:Int):Gam:=if gameValid q=true then(if putOk q cell value then⟨q.task,q.put.set cell.toNat value,q.moves++[cell]⟩else q)else zeroG
def gamePutB(q:Gam)(cell value:Int):Bool:=gameValid q&&decide (putOk q cell value)
theorem GamePut_own(q:Gam)(cell value:Int)(hx:smG q):RunCall Try.prog 33 [aG q,int cell,int value] [] (gamWQ (withB (gamePutB q cell value)) (gamePut q cell value)):=by
 refine RunCall.nz ?_
 refine RunCall.cw (c:=_) Try.func33 rfl (n:=56) Try.ntmps33 (rs:=[.cell 6 34, .tmp 7]) rfl ?_
 simp only[List.length_cons,List.length_nil,zA,zS,List.replicate,List.cons_append,List.nil_append]
 simp(maxSteps:=999999)(disch:=omega)only[go_sem,zA,zM,zS,zE,zL]
 intro g1 g2
 first|refine OpS.rd (GameValid_run q hx) (⟨_,Try.func38,rfl,rfl⟩:Enters Try.prog 38) rfl rfl rfl rfl ?_|refine Loud.rd (GameValid_run q hx) (⟨_,Try.func38,rfl,rfl⟩:Enters Try.prog 38) rfl rfl rfl rfl ?_
 simp(maxSteps:=999999)(disch:=omega)only[go_sem,zA,zM,zS,zE,zL]
 ((first|(with_reducible first|refine condK_dec ?_ ?_|refine condK_ndec ?_ ?_|refine condK_nb ?_ ?_)|refine condK_b ?_ ?_)<;>intro h)
 · simp(maxSteps:=999999)(disch:=omega)only[go_sem,zA,zM,zS,zE,zL]
   obtain⟨h1,h2,h3,h4,h5,h6⟩:=gameValid_facts h
   have hl:=gameGrid_length h
   refine OpS.mkGA (copyGame_ownA q hx) (⟨_,Try.func61,rfl,rfl⟩:Enters Try.prog 61) rfl rfl rfl ?_
   rintro _ H1 _ ⟨⟨c1,c2,c3,c4,S1,S2,S3,S4,rfl,rfl,k1,k2,k3,k4⟩,kn⟩ hS
   simp(maxSteps:=999999)(disch:=omega)only[go_sem,zA,zM,zS,zE,zL]
   intro g3
   simp(maxSteps:=999999)(disch:=omega)only[go_sem,zA,zM,zS,zE,zL,look_last,set_last]
   simp only[List.length_cons,List.length_nil,List.cons_append,List.nil_append]at k1 k2 k3 k4 hS
   have mv:∀{X1 X2 Y1 Y2:Option Blk} {Z:Heap},∀k,2≤k∧k<2+H1.length→(X1::Y1::(H1++Z))[k]? =(X2::Y2::H1)[k]? :=fun k hk=>by
    rw[cons2 hk.1,cons2 hk.1,List.getElem?_append_left (by omega)]
   have m1:∀k∈S1,2≤k∧k<2+H1.length:=fun k hk=>by have:=hS k (by simp[hk]);omega
   have m2:∀k∈S2,2≤k∧k<2+H1.length:=fun k hk=>by have:=hS k (by simp[hk]);omega
   have m3:∀k∈S3,2≤k∧k<2+H1.length:=fun k hk=>by have:=hS k (by simp[hk]);omega
   have m4:∀k∈S4,2≤k∧k<2+H1.length:=fun k hk=>by have:=hS k (by simp[hk]);omega
   have no:¬putOk q cell value→gamePut q cell value=q∧gamePutB q cell value=false:=fun hn=>by simp[gamePut,gamePutB,h,hn]
   have fin:∀{X1 Y1:Option Blk} {Z:Heap},¬putOk q cell value→lessQ (X1::Y1::(H1++Z)) (nzQ (gamWQ (withB (gamePutB q cell value)) (gamePut q cell value))) (.tup [.agg [.f (.int .i64 q.task.size),c1,c2,c3,c4], .c (.f (.bool false))]):=fun hn=>
    gam_fin (no hn).1 (no hn).2 (k1.same fun k hk=>mv k (m1 k hk)) (k2.same fun k hk=>mv k (m2 k hk)) (k3.same fun k hk=>mv k (m3 k hk)) (k4.same fun k hk=>mv k (m4 k hk)) kn
   ((with_reducible first|refine guardK_dec ?_ ?_|refine guardK_ndec ?_ ?_|refine guardK_nb ?_ ?_|refine guardK_split ?_ ?_|refine guardQ_dec ?_ ?_|refine guardL_dec ?_ ?_|refine guardQ_ndec ?_ ?_|refine guardL_ndec ?_ ?_|refine guardQ_nb ?_ ?_|refine guardL_nb ?_ ?_|refine guardQ_split ?_ ?_|refine guardL_split ?_ ?_)<;>intro a1<;>simp(maxSteps:=999999)(disch:=omega)only[go_sem,zA,zM,zS,zE,zL,a1])
   · simp(maxSteps:=999999)(disch:=omega)only[go_sem,zA,zM,zS,zE,zL,look_last]
     exact(fin fun hn=>by unfold putOk at hn;omega)
   ((with_reducible first|refine guardK_dec ?_ ?_|refine guardK_ndec ?_ ?_|refine guardK_nb ?_ ?_|refine guardK_split ?_ ?_|refine guardQ_dec ?_ ?_|refine guardL_dec ?_ ?_|refine guardQ_ndec ?_ ?_|refine guardL_ndec ?_ ?_|refine guardQ_nb ?_ ?_|refine guardL_nb ?_ ?_|refine guardQ_split ?_ ?_|refine guardL_split ?_ ?_)<;>intro a2<;>simp(maxSteps:=999999)(disch:=omega)only[go_sem,zA,zM,zS,zE,zL,a2])
   · simp(maxSteps:=999999)(disch:=omega)only[go_sem,zA,zM,zS,zE,zL,look_last]
     exact(fin fun hn=>by unfold putOk at hn;omega)
   first|refine OpS.mk (Reads.ownI (GameGrid_own q hx)) (⟨_,Try.func17,rfl,rfl⟩:Enters Try.prog 17) rfl rfl rfl rfl rfl ?_|refine Loud.mk (Reads.ownI (GameGrid_own q hx)) (⟨_,Try.func17,rfl,rfl⟩:Enters Try.prog 17) rfl rfl rfl rfl rfl ?_
   simp(maxSteps:=999999)(disch:=omega)only[go_sem,zA,zM,zS,zE,zL]
   obtain⟨i,rfl⟩:∃i:Nat,cell=i:=⟨cell.toNat,by omega⟩
   ((with_reducible first|refine guardK_dec ?_ ?_|refine guardK_ndec ?_ ?_|refine guardK_nb ?_ ?_|refine guardK_split ?_ ?_|refine guardQ_dec ?_ ?_|refine guardL_dec ?_ ?_|refine guardQ_ndec ?_ ?_|refine guardL_ndec ?_ ?_|refine guardQ_nb ?_ ?_|refine guardL_nb ?_ ?_|refine guardQ_split ?_ ?_|refine guardL_split ?_ ?_)<;>intro a3<;>simp(maxSteps:=999999)(disch:=omega)only[go_sem,zA,zM,zS,zE,zL,a3])
   · simp(maxSteps:=999999)(disch:=omega)only[go_sem,zA,zM,zS,zE,zL,look_last]
     exact(fin fun hn=>by unfold putOk at hn;omega)
   ((with_reducible first|refine guardK_dec ?_ ?_|refine guardK_ndec ?_ ?_|refine guardK_nb ?_ ?_|refine guardK_split ?_ ?_|refine guardQ_dec ?_ ?_|refine guardL_dec ?_ ?_|refine guardQ_ndec ?_ ?_|refine guardL_ndec ?_ ?_|refine guardQ_nb ?_ ?_|refine guardL_nb ?_ ?_|refine guardQ_split ?_ ?_|refine guardL_split ?_ ?_)<;>intro a4<;>simp(maxSteps:=999999)(disch:=omega)only[go_sem,zA,zM,zS,zE,zL,a4])
   · simp(maxSteps:=999999)(disch:=omega)only[go_sem,zA,zM,zS,zE,zL,look_last]
     exact(fin fun hn=>by unfold putOk at hn;omega)
   ((first|(with_reducible first|refine condK_dec ?_ ?_|refine condK_ndec ?_ ?_|refine condK_nb ?_ ?_)|refine condK_b ?_ ?_)<;>intro a5)
   · simp(maxSteps:=999999)(disch:=omega)only[go_sem,zA,zM,zS,zE,zL,look_last]
     exact(fin fun hn=>by unfold putOk at hn;omega)
   have ok:putOk q i value:=⟨by omega,by omega,by omega,by omega,by omega⟩
   have r1:gamePut q i value=⟨q.task,q.put.set i value,q.moves++[(i:Int)]⟩:=by simp[gamePut,h,ok]
   have r2:gamePutB q i value=true:=by simp[gamePutB,h,ok]
   have hne:q.put≠[]:=by intro h0;rw[h0]at a2;simp at a2
   obtain⟨HA,hHA⟩:∃HA:Heap,HA=some ⟨g1,1,cG q⟩::some ⟨g2,5,[.f (.int .i64 0), .f .nil, .f .nil, .f .nil, .f .nil]⟩::(H1++[some ⟨g3,5,[.f (.int .i64 q.task.size),c1,c2,c3,c4]⟩]):=⟨_,rfl⟩
   have e1:=k1.same (H':=HA) fun k hk=>by rw[hHA];exact mv k (m1 k hk)
   have e2:=k2.same (H':=HA) fun k hk=>by rw[hHA];exact mv k (m2 k hk)
   have e3:=k3.same (H':=HA) fun k hk=>by rw[hHA];exact mv k (m3 k hk)
   have e4:=k4.same (H':=HA) fun k hk=>by rw[hHA];exact mv k (m4 k hk)
   have b1:look HA 1 g2=some ⟨g2,5,[.f (.int .i64 0), .f .nil, .f .nil, .f .nil, .f .nil]⟩:=by rw[hHA];simp only[go_sem]
   have b2:look HA (H1.length+1+1) g3=some ⟨g3,5,[.f (.int .i64 q.task.size),c1,c2,c3,c4]⟩:=by rw[hHA];simp only[go_sem];exact look_last
   have hlA:HA.length=H1.length+3:=by rw[hHA];simp
   rw[←hHA]
   clear hHA
   obtain⟨id3,g4,lim3,ys,rfl,rfl,l3⟩:=e3.inv hne
   have hi3:=m3 id3 (by simp)
   have hil:i<q.put.length:=by omega
   have hil2:i<(q.put++ys).length:=by simp;omega
   simp(maxSteps:=999999)(disch:=omega)only[go_sem,zA,zM,zS,zE,zL,b2,l3]
   rw[Int.toNat_natCast,List.set_append_left _ _ hil]
   have hlt3:id3<HA.length:=by omega
   obtain⟨n1,n2,n3,n12⟩:=nodup4_dis kn
   obtain⟨HB,hHB⟩:∃HB:Heap,HB=HA.set id3 (some ⟨g4,1,cl (eI .i64) (q.put.set i value++ys)⟩):=⟨_,rfl⟩
   have hB:∀k,k≠id3→HB[k]? =HA[k]? :=fun k hk=>by rw[hHB,List.getElem?_set_ne (Ne.symm hk)]
   have hlB:HB.length=H1.length+3:=by rw[hHB,List.length_set,hlA]
   have f1:=e1.same (H':=HB) fun k hk=>hB k fun he=>(n1 k hk).1 (by simp[he])
   have f2:=e2.same (H':=HB) fun k hk=>hB k fun he=>(n2 k hk).1 (by simp[he])
   have f4:=e4.same (H':=HB) fun k hk=>hB k fun he=>n3 id3 (by simp) (he▸hk)
   have f3:OwnI HB (.own id3 g4 0 q.put.length lim3) (q.put.set i value) [id3]:=by
    have:=OwnI.o (H:=HB) id3 g4 lim3 (q.put.set i value) ys (by rw[hHB];exact look_of (b:=⟨g4,1,cl (eI .i64) (q.put.set i value++ys)⟩) (by rw[List.getElem?_set_self hlt3]))
    rwa [List.length_set]at this
   have b3:look HB 1 g2=some ⟨g2,5,[.f (.int .i64 0), .f .nil, .f .nil, .f .nil, .f .nil]⟩:=by unfold look;rw[hB 1 (by omega)];exact b1
   have b4:look HB (H1.length+1+1) g3=some ⟨g3,5,[.f (.int .i64 q.task.size),c1,c2, .own id3 g4 0 q.put.length lim3,c4]⟩:=by unfold look;rw[hB _ (by omega)];exact b2
   rw[←hHB]
   clear hHB e1 e2 e3 e4 b1 b2 l3
   simp(maxSteps:=999999)(disch:=omega)only[go_sem,zA,zM,zS,zE,zL,b4]
   intro g5
   have hlt8:H1.length+1+1<HB.length:=by omega
   refine appendM_A (sliceOf_of ti22 rfl ti3) ⟨rfl,rfl,rfl⟩ (f4.same fun k hk=>List.getElem?_append_left (f4.lt k hk)) (by omega) look_last ?_
   intro c5 HC S5 hA hC hS5 hlC
   rw[List.length_append,List.length_singleton]at hlC hS5
   have hC':∀k,k<HB.length→k∉S4→HC[k]? =HB[k]? :=fun k hk hn=>by rw[hC k (by rw[List.length_append];omega) hn,List.getElem?_append_left hk]
   have b5:look HC 1 g2=some ⟨g2,5,[.f (.int .i64 0), .f .nil, .f .nil, .f .nil, .f .nil]⟩:=by unfold look;rw[hC' 1 (by omega) fun hm=>by have:=m4 _ hm;omega];exact b3
   have b6:look HC (H1.length+1+1) g3=some ⟨g3,5,[.f (.int .i64 q.task.size),c1,c2, .own id3 g4 0 q.put.length lim3,c4]⟩:=by unfold look;rw[hC' _ hlt8 fun hm=>by have:=m4 _ hm;omega];exact b4
   simp(maxSteps:=999999)(disch:=omega)only[go_sem,zA,zM,zS,zE,zL,b6]
   rw[look_set_eq (by omega)]
   simp(maxSteps:=999999)(disch:=omega)only[go_sem,zA,zM,zS,zE,zL]
   rw[look_set_ne (by omega),b5]
   simp(maxSteps:=999999)(disch:=omega)only[go_sem,zA,zM,zS,zE,zL]
   rw[look_set_eq (by rw[List.length_set];omega)]
   simp(maxSteps:=999999)(disch:=omega)only[go_sem,zA,zM,zS,zE,zL]
   have hD:∀{X Y:Option Blk},∀k,2≤k∧k<2+H1.length∨HB.length+1≤k→((HC.set (H1.length+1+1) X).set 1 Y)[k]? =HC[k]? :=fun k hk=>by
    rw[List.getElem?_set_ne (by omega),List.getElem?_set_ne (by omega)]
   have hD4:∀{X Y:Option Blk},∀k∈S5,((HC.set (H1.length+1+1) X).set 1 Y)[k]? =HC[k]? :=fun k hk=>hD k (by
    rcases hS5 k hk with h5|h5
    · exact .inl (m4 k h5)
    · exact .inr (by omega))
   have hD':∀{X Y:Option Blk},∀k,2≤k∧k<2+H1.length→k∉S4→((HC.set (H1.length+1+1) X).set 1 Y)[k]? =HB[k]? :=fun k hk hn=>by rw[hD k (.inl hk),hC' k (by omega) hn]
   refine gam_fin (q:=⟨q.task,q.put.set i value,q.moves++[(i:Int)]⟩) r1 r2 (f1.same fun k hk=>hD' k (m1 k hk) (n1 k hk).2) (f2.same fun k hk=>hD' k (m2 k hk) (n2 k hk).2) (f3.same fun k hk=>hD' k (m3 k hk) (n3 k hk)) (hA.same hD4)
    (nodup4_new (N:=HB.length+1) kn hA.nd hS5 (fun k hk=>by have:=m1 k hk;omega) (fun k hk=>by have:=m2 k hk;omega) (fun k hk=>by have:=m3 k hk;omega))
 · simp(maxSteps:=999999)(disch:=omega)only[go_sem,zA,zM,zS,zE,zL]
   refine gam_fin0 ?_ ?_
   · simp[gamePut,h,zeroG]
   · simp[gamePutB,h]
end Go.Lg

namespace Go.Lg
open Go.Proofs
attribute [-go_sem] appendM
def gameBack(q:Gam):Gam:=if gameValid q=true then(if q.moves=[]then q else⟨q.task,q.put.set (nth q.moves ((q.moves.length:Int) -1)).toNat 0,q.moves.take (q.moves.length -1)⟩)else zeroG
def gameBackB(q:Gam):Bool:=gameValid q&&decide (q.moves≠[])
theorem gam_finI{H:Heap}{q q':Gam}{b b':Bool}{c1 c2 c3 c4:CV}{S1 S2 S3 S4:List Nat}(hq:q'=q)(hb:b'=b)(k1:OwnI H c1 q.task.given S1)(k2:OwnR H c2 q.task.rules S2)(k3:OwnI H c3 q.put S3)(k4:OwnI H c4 q.moves S4)
 (kn:(S1++(S2++(S3++S4))).Nodup):lessQ H (nzQ (gamWQ (withB b') q')) (.tup [.agg [.f (.int .i64 q.task.size),c1,c2,c3,c4], .c (.f (.bool b))]):=by
 subst hq hb
 refine⟨H,HLe.refl _,[.f (.int .i64 q'.task.size),c1,c2,c3,c4],_, ?_,⟨⟨_,_,_,_,_,_,_,_,rfl,rfl,k1,k2,k3,k4⟩,kn⟩⟩
 simp only[nzA,nz1,withB,List.map_cons,List.map_nil,k1.nzc,k2.nzc,k3.nzc,k4.nzc]
 rfl
theorem OwnA.inv{H:Heap}{c:CV}{xs:List Int}{S:List Nat}(h:OwnA H c xs S)(hn:xs≠[]):∃id g,c= .own id g 0 xs.length none∧S=[id]∧look H id g=some ⟨g,1,cl (eI .i64) xs⟩:=by
 cases h with
 |n=>exact absurd rfl hn
 |o id g xs h=>exact⟨id,g,rfl,rfl,h⟩
theorem OwnA.inv0{H:Heap}{c:CV}{xs:List Int}{S:List Nat}(h:OwnA H c xs S)(hn:xs=[]):c= .f .nil∨∃id g,c= .own id g 0 0 none∧look H id g=some ⟨g,1,[]⟩:=by
 cases h with
 |n=>exact .inl rfl
 |o id g xs h=>subst hn;exact .inr ⟨id,g,rfl,h⟩
theorem last_move{q:Gam}(h:gameOk q)(hn:q.moves≠[]):0≤nth q.moves ((q.moves.length:Int) -1)∧nth q.moves ((q.moves.length:Int) -1)<q.put.length:=by
 have hp:0<q.moves.length:=List.length_pos_iff.2 hn
 have e:(q.moves.length:Int) -1=((q.moves.length -1:Nat):Int):=by omega
 have hm:=h.2.1 _ (nth_mem (xs:=q.moves) (i:=q.moves.length -1) (by omega))
 rw[e]
 have:=mem_filledAt.1 hm
 omega
theorem sliceV_ownC{P:Program}{H:Heap}{t e:TypeId}{ti ei:TI}{id g n:Nat}{b:Blk}(ht:tinf P t=some ti)(hk:ti.k= .slice e)(he:tinf P e=some ei)(hs:ei.size=1)(hl:look H id g=some b)(hb:b.sz=1)(hn:n≤b.cs.length):
 sliceV P H t (.c (.own id g 0 n none)) none (some n) (some n)=some (.c (.own id g 0 n (some n))):=by
 simp only[sliceV,ht,hk,he,hl,Option.getD_none,Option.getD_some,hb,hs]
 rw[if_pos ⟨by omega,by omega,by omega,fun _=>rfl,trivial,by omega,by omega⟩]
 simp
theorem sliceV_ownT{P:Program}{H:Heap}{t e:TypeId}{ti ei:TI}{id g n m:Nat}{b:Blk}(ht:tinf P t=some ti)(hk:ti.k= .slice e)(he:tinf P e=some ei)(hs:ei.size=1)(hl:look H id g=some b)(hb:b.sz=1)(hn:m≤b.cs.length):
 sliceV P H t (.c (.own id g 0 n none)) none (some m) none=some (.c (.own id g 0 m none)):=by
 simp only[sliceV,ht,hk,he,hl,Option.getD_none,Option.getD_some,hb,hs]
 rw[if_pos ⟨by omega,by omega,by omega,by simp,trivial,by omega,by omega⟩]
 simp
theorem Clip_run(H:Heap)(id g n:Nat)(b:Blk)(hl:look H id g=some b)(hb:b.sz=1∧n≤b.cs.length∧n≤2^40):
 RunCall Try.prog 62 [.c (.own id g 0 n none)] H (fun v H'=>v= .c (.own id g 0 n (some n))∧H'=H):=by
 obtain⟨b1,b2,b3⟩:=hb
 refine RunCall.cw (c:=_) Try.func62 rfl (n:=9) Try.ntmps62 (rs:=[.tmp 2]) rfl ?_
 simp only[List.length_cons,List.length_nil,zA,zS,List.replicate,List.cons_append,List.nil_append]
 simp(maxSteps:=999999)(disch:=omega)only[go_sem,zA,zM,zS,zE,zL,hl]
 rw[Int.toNat_natCast,sliceV_ownC ti22 rfl ti3 rfl hl b1 b2]
 simp(maxSteps:=999999)(disch:=omega)only[go_sem,zA,zM,zS,zE,zL]
 exact⟨_,HLe.refl _,rfl,rfl⟩
theorem GameBack_own(q:Gam)(hx:smG q):RunCall Try.prog 31 [aG q] [] (gamWQ (withB (gameBackB q)) (gameBack q)):=by
 refine RunCall.nz ?_
 refine RunCall.cw (c:=_) Try.func31 rfl (n:=34) Try.ntmps31 (rs:=[.cell 2 34, .tmp 3]) rfl ?_
 simp only[List.length_cons,List.length_nil,zA,zS,List.replicate,List.cons_append,List.nil_append]
 simp(maxSteps:=999999)(disch:=omega)only[go_sem,zA,zM,zS,zE,zL]
 intro g1 g2
 first|refine OpS.rd (GameValid_run q hx) (⟨_,Try.func38,rfl,rfl⟩:Enters Try.prog 38) rfl rfl rfl rfl ?_|refine Loud.rd (GameValid_run q hx) (⟨_,Try.func38,rfl,rfl⟩:Enters Try.prog 38) rfl rfl rfl rfl ?_
 simp(maxSteps:=999999)(disch:=omega)only[go_sem,zA,zM,zS,zE,zL]
 ((first|(with_reducible first|refine condK_dec ?_ ?_|refine condK_ndec ?_ ?_|refine condK_nb ?_ ?_)|refine condK_b ?_ ?_)<;>intro h)
 · simp(maxSteps:=999999)(disch:=omega)only[go_sem,zA,zM,zS,zE,zL]
   obtain⟨h1,h2,h3,h4,h5,h6⟩:=gameValid_facts h
   refine OpS.mkGA (copyGame_ownA q hx) (⟨_,Try.func61,rfl,rfl⟩:Enters Try.prog 61) rfl rfl rfl ?_
   rintro _ H1 _ ⟨⟨c1,c2,c3,c4,S1,S2,S3,S4,rfl,rfl,k1,k2,k3,k4⟩,kn⟩ hS
   simp(maxSteps:=999999)(disch:=omega)only[go_sem,zA,zM,zS,zE,zL]
   intro g3
   simp(maxSteps:=999999)(disch:=omega)only[go_sem,zA,zM,zS,zE,zL,look_last,set_last]
   simp only[List.length_cons,List.length_nil,List.cons_append,List.nil_append]at k1 k2 k3 k4 hS
   have mv:∀{X1 X2 Y1 Y2:Option Blk} {Z:Heap},∀k,2≤k∧k<2+H1.length→(X1::Y1::(H1++Z))[k]? =(X2::Y2::H1)[k]? :=fun k hk=>by
    rw[cons2 hk.1,cons2 hk.1,List.getElem?_append_left (by omega)]
   have m1:∀k∈S1,2≤k∧k<2+H1.length:=fun k hk=>by have:=hS k (by simp[hk]);omega
   have m2:∀k∈S2,2≤k∧k<2+H1.length:=fun k hk=>by have:=hS k (by simp[hk]);omega
   have m3:∀k∈S3,2≤k∧k<2+H1.length:=fun k hk=>by have:=hS k (by simp[hk]);omega
   have m4:∀k∈S4,2≤k∧k<2+H1.length:=fun k hk=>by have:=hS k (by simp[hk]);omega
   obtain⟨HA,hHA⟩:∃HA:Heap,HA=some ⟨g1,1,cG q⟩::some ⟨g2,5,[.f (.int .i64 0), .f .nil, .f .nil, .f .nil, .f .nil]⟩::(H1++[some ⟨g3,5,[.f (.int .i64 q.task.size),c1,c2,c3,c4]⟩]):=⟨_,rfl⟩
   have e1:=k1.same (H':=HA) fun k hk=>by rw[hHA];exact mv k (m1 k hk)
   have e2:=k2.same (H':=HA) fun k hk=>by rw[hHA];exact mv k (m2 k hk)
   have e3:=k3.same (H':=HA) fun k hk=>by rw[hHA];exact mv k (m3 k hk)
   have e4:=k4.same (H':=HA) fun k hk=>by rw[hHA];exact mv k (m4 k hk)
   have b1:look HA 1 g2=some ⟨g2,5,[.f (.int .i64 0), .f .nil, .f .nil, .f .nil, .f .nil]⟩:=by rw[hHA];simp only[go_sem]
   have b2:look HA (H1.length+1+1) g3=some ⟨g3,5,[.f (.int .i64 q.task.size),c1,c2,c3,c4]⟩:=by rw[hHA];simp only[go_sem];exact look_last
   have hlA:HA.length=H1.length+3:=by rw[hHA];simp
   rw[←hHA]
   clear hHA k1 k2 k3 k4
   obtain⟨n1,n2,n3,n12⟩:=nodup4_dis kn
   by_cases hm:q.moves=[]
   · have r1:gameBack q=q:=by simp[gameBack,h,hm]
     have r2:gameBackB q=false:=by simp[gameBackB,hm]
     have fin:∀{X:Option Blk},lessQ (HA.set 1 X) (nzQ (gamWQ (withB (gameBackB q)) (gameBack q))) (.tup [.agg [.f (.int .i64 q.task.size),c1,c2,c3,c4], .c (.f (.bool false))]):=fun{X}=>
      have hX:∀k,2≤k∧k<2+H1.length→(HA.set 1 X)[k]? =HA[k]? :=fun k hk=>by rw[List.getElem?_set_ne (by omega)]
      gam_fin r1 r2 (e1.same fun k hk=>hX k (m1 k hk)) (e2.same fun k hk=>hX k (m2 k hk)) (e3.same fun k hk=>hX k (m3 k hk)) (e4.same fun k hk=>hX k (m4 k hk)) kn
     rcases e4.inv0 hm with rfl|⟨id4,g4,rfl,l4⟩
     · simp(maxSteps:=999999)(disch:=omega)only[go_sem,zA,zM,zS,zE,zL,lt_yes,lt_no,b2]
       rw[b1]
       simp(maxSteps:=999999)(disch:=omega)only[go_sem,zA,zM,zS,zE,zL]
       rw[look_set_eq (by omega)]
       simp(maxSteps:=999999)(disch:=omega)only[go_sem,zA,zM,zS,zE,zL]
       exact fin
     · simp(maxSteps:=999999)(disch:=omega)only[go_sem,zA,zM,zS,zE,zL,lt_yes,lt_no,b2,l4]
       rw[b1]
       simp(maxSteps:=999999)(disch:=omega)only[go_sem,zA,zM,zS,zE,zL]
       rw[look_set_eq (by omega)]
       simp(maxSteps:=999999)(disch:=omega)only[go_sem,zA,zM,zS,zE,zL]
       exact fin
   obtain⟨hl0,hl1⟩:=last_move h4 hm
   obtain⟨mi,hmi⟩:∃mi:Nat,nth q.moves ((q.moves.length:Int) -1)=mi:=⟨(nth q.moves ((q.moves.length:Int) -1)).toNat,by omega⟩
   have r1:gameBack q=⟨q.task,q.put.set mi 0,q.moves.take (q.moves.length -1)⟩:=by simp[gameBack,h,hm,hmi]
   have r2:gameBackB q=true:=by simp[gameBackB,h,hm]
   have hne:q.put≠[]:=by intro h0;rw[h0]at hl1;simp at hl1;omega
   have hmp:0<q.moves.length:=List.length_pos_iff.2 hm
   obtain⟨id3,g4,lim3,ys,rfl,rfl,l3⟩:=e3.inv hne
   obtain⟨id4,g5,rfl,rfl,l4⟩:=e4.inv hm
   have hi3:=m3 id3 (by simp)
   have hi4:=m4 id4 (by simp)
   have hni:id3≠id4:=fun he=>n3 id3 (by simp) (by simp[he])
   have hml:mi<q.put.length:=by omega
   have hml2:mi<(q.put++ys).length:=by simp;omega
   have hix:∀zs:List Int,0<zs.length→((zs.length:Int) -1).toNat=zs.length -1:=fun zs hz=>by omega
   simp(maxSteps:=999999)(disch:=omega)only[go_sem,zA,zM,zS,zE,zL,lt_yes,lt_no,b2,l4]
   refine drawP_lF [0,1,2,3,4,5,6] [] none [7,8] [] foll (by kernel_rfl) ?_
   simp(maxSteps:=999999)(disch:=omega)only[go_sem,Nat.reduceBEq,Bool.true_or,zA,zM,zS,zE,zL]
   simp(maxSteps:=999999)(disch:=omega)only[go_sem,zA,zM,zS,zE,zL,b2,l3,l4,hmi]
   rw[Int.toNat_natCast,List.set_append_left _ _ hml]
   have hlt3:id3<HA.length:=by omega
   obtain⟨HB,hHB⟩:∃HB:Heap,HB=HA.set id3 (some ⟨g4,1,cl (eI .i64) (q.put.set mi 0++ys)⟩):=⟨_,rfl⟩
   have hB:∀k,k≠id3→HB[k]? =HA[k]? :=fun k hk=>by rw[hHB,List.getElem?_set_ne (Ne.symm hk)]
   have hlB:HB.length=H1.length+3:=by rw[hHB,List.length_set,hlA]
   have f1:=e1.same (H':=HB) fun k hk=>hB k fun he=>(n1 k hk).1 (by simp[he])
   have f2:=e2.same (H':=HB) fun k hk=>hB k fun he=>(n2 k hk).1 (by simp[he])
   have l5:look HB id4 g5=some ⟨g5,1,cl (eI .i64) q.moves⟩:=by unfold look;rw[hB _ (Ne.symm hni)];exact l4
   have f3:OwnI HB (.own id3 g4 0 q.put.length lim3) (q.put.set mi 0) [id3]:=by
    have:=OwnI.o (H:=HB) id3 g4 lim3 (q.put.set mi 0) ys (by rw[hHB];exact look_of (b:=⟨g4,1,cl (eI .i64) (q.put.set mi 0++ys)⟩) (by rw[List.getElem?_set_self hlt3]))
    rwa [List.length_set]at this
   have f4:OwnI HB (.own id4 g5 0 (q.moves.length -1) (some (q.moves.length -1))) (q.moves.take (q.moves.length -1)) [id4]:=by
    have:=OwnI.o (H:=HB) id4 g5 (some (q.moves.length -1)) (q.moves.take (q.moves.length -1)) (q.moves.drop (q.moves.length -1)) (by rw[List.take_append_drop];exact l5)
    rwa [List.length_take,Nat.min_eq_left (by omega)]at this
   have b3:look HB 1 g2=some ⟨g2,5,[.f (.int .i64 0), .f .nil, .f .nil, .f .nil, .f .nil]⟩:=by unfold look;rw[hB 1 (by omega)];exact b1
   have b4:look HB (H1.length+1+1) g3=some ⟨g3,5,[.f (.int .i64 q.task.size),c1,c2, .own id3 g4 0 q.put.length lim3, .own id4 g5 0 q.moves.length none]⟩:=by unfold look;rw[hB _ (by omega)];exact b2
   rw[←hHB]
   clear hHB e1 e2 e3 e4 b1 b2 l3 l4
   simp(maxSteps:=999999)(disch:=omega)only[go_sem,zA,zM,zS,zE,zL,b4,l5]
   rw[hix _ hmp,sliceV_ownT ti22 rfl ti3 rfl l5 rfl (by simp only[cl_length];omega)]
   simp(maxSteps:=999999)(disch:=omega)only[go_sem,zA,zM,zS,zE,zL]
   refine OpS.run (Clip_run HB id4 g5 (q.moves.length -1) _ l5 ⟨rfl,by simp only[cl_length];omega,by omega⟩) (⟨_,Try.func62,rfl,rfl⟩:Enters Try.prog 62) rfl rfl ?_
   rintro _ H9 ⟨rfl,h9⟩
   rw[h9]
   simp(maxSteps:=999999)(disch:=omega)only[go_sem,zA,zM,zS,zE,zL,b4]
   rw[look_set_eq (by omega)]
   simp(maxSteps:=999999)(disch:=omega)only[go_sem,zA,zM,zS,zE,zL]
   rw[look_set_ne (by omega),b3]
   simp(maxSteps:=999999)(disch:=omega)only[go_sem,zA,zM,zS,zE,zL]
   rw[look_set_eq (by rw[List.length_set];omega)]
   simp(maxSteps:=999999)(disch:=omega)only[go_sem,zA,zM,zS,zE,zL]
   have hD:∀{X Y:Option Blk},∀k,2≤k∧k<2+H1.length→((HB.set (H1.length+1+1) X).set 1 Y)[k]? =HB[k]? :=fun k hk=>by
    rw[List.getElem?_set_ne (by omega),List.getElem?_set_ne (by omega)]
   refine gam_finI (q:=⟨q.task,q.put.set mi 0,q.moves.take (q.moves.length -1)⟩) r1 r2 (f1.same fun k hk=>hD k (m1 k hk)) (f2.same fun k hk=>hD k (m2 k hk)) (f3.same fun k hk=>hD k (m3 k hk)) (f4.same fun k hk=>hD k (m4 k hk)) kn
 · simp(maxSteps:=999999)(disch:=omega)only[go_sem,zA,zM,zS,zE,zL]
   refine gam_fin0 ?_ ?_
   · simp[gameBack,h,zeroG]
   · simp[gameBackB,h]
end Go.Lg
