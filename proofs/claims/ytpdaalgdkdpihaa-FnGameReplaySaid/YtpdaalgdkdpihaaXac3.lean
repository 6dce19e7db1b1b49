/- GpBC, LgZ3, cut to what is needed. -/
import Derived.Test.YtpdaalgdkdpihaaXac2
import Derived.Test.YtpdaalgdkdpihaaXab8
open Nat renaming reduceAdd→zA,reduceMul→zM,reduceSub→zS,reduceEqDiff→zE,reduceLeDiff→zL
set_option linter.unusedSimpArgs false
set_option linter.unusedVariables false
set_option maxRecDepth 100000
namespace Go.Lg
open Go.Proofs
theorem frz_take{H:Heap}{id g n:Nat}{lim:Option Nat}{xs:List Int}(h:look H id g=some ⟨g,1,cl (eI .i64) xs⟩)(hn:n≤xs.length):frzC H (.own id g 0 n lim)=some (.f (fints (xs.take n))):=by
 have:=(OwnI.o id g lim (xs.take n) (xs.drop n) (by rw[List.take_append_drop];exact h)).frzC
 rwa [List.length_take,Nat.min_eq_left hn]at this
theorem sGameBack_run(q:Gam)(hx:smG q):Reads Try.prog 30 [aG q] (.tup [aG (gameBack q),bool (gameBackB q)]):=by
 refine Reads.iced ?_
 refine RunCall.cw (c:=_) Try.func30 rfl (n:=33) Try.ntmps30 (rs:=[.cell 2 34, .tmp 3]) rfl ?_
 simp only[List.length_cons,List.length_nil,zA,zS,List.replicate,List.cons_append,List.nil_append]
 simp(maxSteps:=999999)(disch:=omega)only[go_sem,zA,zM,zS,zE,zL]
 intro g1 g2
 first|refine OpS.rd (sGameValid_run q hx) (⟨_,Try.func41,rfl,rfl⟩:Enters Try.prog 41) rfl rfl rfl rfl ?_|refine Loud.rd (sGameValid_run q hx) (⟨_,Try.func41,rfl,rfl⟩:Enters Try.prog 41) rfl rfl rfl rfl ?_
 simp(maxSteps:=999999)(disch:=omega)only[go_sem,zA,zM,zS,zE,zL]
 ((first|(with_reducible first|refine condK_dec ?_ ?_|refine condK_ndec ?_ ?_|refine condK_nb ?_ ?_)|refine condK_b ?_ ?_)<;>intro h)
 · simp(maxSteps:=999999)(disch:=omega)only[go_sem,zA,zM,zS,zE,zL]
   obtain⟨h1,h2,h3,h4,h5,h6⟩:=gameValid_facts h
   refine OpS.mkC (l25Copy_own q hx) (⟨_,Try.func60,rfl,rfl⟩:Enters Try.prog 60) rfl rfl rfl ?_
   intro c3 c4 H1 S3 S4 k3 k4 n3 m3 m4
   simp(maxSteps:=999999)(disch:=omega)only[go_sem,zA,zM,zS,zE,zL]
   intro g3
   simp(maxSteps:=999999)(disch:=omega)only[go_sem,zA,zM,zS,zE,zL,look_last,set_last]
   simp only[List.length_cons,List.length_nil,List.cons_append,List.nil_append]at k3 k4 m3 m4
   obtain⟨HA,hHA⟩:∃HA:Heap,HA=some ⟨g1,1,cG q⟩::some ⟨g2,5,[.f (.int .i64 0), .f .nil, .f .nil, .f .nil, .f .nil]⟩::(H1++[some ⟨g3,5,[.f (.int .i64 q.task.size), .f (fints q.task.given), .f (fsl eR q.task.rules),c3,c4]⟩]):=⟨_,rfl⟩
   have mv:∀k,2≤k∧k<2+H1.length→∀X1 X2:Option Blk,HA[k]? =(X1::X2::H1)[k]? :=fun k hk X1 X2=>by
    rw[hHA,cons2 hk.1,cons2 hk.1,List.getElem?_append_left (by omega)]
   have e3:=k3.same (H':=HA) fun k hk=>mv k (by have:=m3 k hk;omega) _ _
   have e4:=k4.same (H':=HA) fun k hk=>mv k (by have:=m4 k hk;omega) _ _
   have b0:look HA 0 g1=some ⟨g1,1,cG q⟩:=by rw[hHA];simp only[go_sem]
   have b1:look HA 1 g2=some ⟨g2,5,[.f (.int .i64 0), .f .nil, .f .nil, .f .nil, .f .nil]⟩:=by rw[hHA];simp only[go_sem]
   have b2:look HA (H1.length+1+1) g3=some ⟨g3,5,[.f (.int .i64 q.task.size), .f (fints q.task.given), .f (fsl eR q.task.rules),c3,c4]⟩:=by rw[hHA];simp only[go_sem];exact look_last
   have hlA:HA.length=H1.length+3:=by rw[hHA];simp
   rw[←hHA]
   clear hHA k3 k4
   by_cases hm:q.moves=[]
   · have r1:gameBack q=q:=by simp[gameBack,h,hm]
     have r2:gameBackB q=false:=by simp[gameBackB,hm]
     have fin:∀{X:Option Blk},lessQ (HA.set 1 X) (iceQ (.tup [aG (gameBack q),bool (gameBackB q)])) (.tup [.agg [.f (.int .i64 q.task.size), .f (fints q.task.given), .f (fsl eR q.task.rules),c3,c4], .c (.f (.bool false))]):=fun{X}=>
      have hX:∀k,2≤k→(HA.set 1 X)[k]? =HA[k]? :=fun k hk=>by rw[List.getElem?_set_ne (by omega)]
      ice_fin r1 r2 (e3.same fun k hk=>hX k (by have:=m3 k hk;omega)).frzC (e4.same fun k hk=>hX k (by have:=m4 k hk;omega)).frzC
     rcases e4.inv0 hm with rfl|⟨id4,g4,rfl,l4⟩
     · simp(maxSteps:=999999)(disch:=omega)only[go_sem,zA,zM,zS,zE,zL,lt_yes,lt_no,b2]
       rw[b1]
       simp(maxSteps:=999999)(disch:=omega)only[go_sem,zA,zM,zS,zE,zL]
       rw[look_set_eq (by omega)]
       simp(maxSteps:=999999)(disch:=omega)only[go_sem,zA,zM,zS,zE,zL]
       exact fin
     · simp(maxSteps:=999999)(disch:=omega)only[go_sem,zA,zM,zS,zE,zL,lt_yes,lt_no,b2,l4]
       rw[b1]
       simp(maxSteps:=999999)(disch:=omega)only[go_sem,zA,zM,zS,zE,zL]
       rw[look_set_eq (by omega)]
       simp(maxSteps:=999999)(disch:=omega)only[go_sem,zA,zM,zS,zE,zL]
       exact fin
   obtain⟨hl0,hl1⟩:=last_move h4 hm
   obtain⟨mi,hmi⟩:∃mi:Nat,nth q.moves ((q.moves.length:Int) -1)=mi:=⟨(nth q.moves ((q.moves.length:Int) -1)).toNat,by omega⟩
   have r1:gameBack q=⟨q.task,q.put.set mi 0,q.moves.take (q.moves.length -1)⟩:=by simp[gameBack,h,hm,hmi]
   have r2:gameBackB q=true:=by simp[gameBackB,h,hm]
   have hne:q.put≠[]:=by intro h0;rw[h0]at hl1;simp at hl1;omega
   have hmp:0<q.moves.length:=List.length_pos_iff.2 hm
   obtain⟨id3,g4,rfl,rfl,l3⟩:=e3.inv hne
   obtain⟨id4,g5,rfl,rfl,l4⟩:=e4.inv hm
   have hi3:=m3 id3 (by simp)
   have hi4:=m4 id4 (by simp)
   have hni:id3≠id4:=fun he=>n3 id3 (by simp) (by simp[he])
   have hml:mi<q.put.length:=by omega
   have hix:∀zs:List Int,0<zs.length→((zs.length:Int) -1).toNat=zs.length -1:=fun zs hz=>by omega
   simp(maxSteps:=999999)(disch:=omega)only[go_sem,zA,zM,zS,zE,zL,lt_yes,lt_no,b2,l4]
   refine drawP_lM [0,1,2,3,4,5,6] [] none [7,8] [] [0,1,0,4,0,28,60,127,255] foll (by kernel_rfl) ?_
   simp(maxSteps:=999999)(disch:=omega)only[go_sem,zA,zM,zS,zE,zL,b2,l3,l4,hmi]
   rw[Int.toNat_natCast]
   have hlt3:id3<HA.length:=by omega
   obtain⟨HB,hHB⟩:∃HB:Heap,HB=HA.set id3 (some ⟨g4,1,cl (eI .i64) (q.put.set mi 0)⟩):=⟨_,rfl⟩
   have hB:∀k,k≠id3→HB[k]? =HA[k]? :=fun k hk=>by rw[hHB,List.getElem?_set_ne (Ne.symm hk)]
   have hlB:HB.length=H1.length+3:=by rw[hHB,List.length_set,hlA]
   have l5:look HB id4 g5=some ⟨g5,1,cl (eI .i64) q.moves⟩:=by unfold look;rw[hB _ (Ne.symm hni)];exact l4
   have l6:look HB id3 g4=some ⟨g4,1,cl (eI .i64) (q.put.set mi 0)⟩:=by rw[hHB];exact look_of (b:=⟨g4,1,cl (eI .i64) (q.put.set mi 0)⟩) (by rw[List.getElem?_set_self hlt3])
   have b3:look HB 1 g2=some ⟨g2,5,[.f (.int .i64 0), .f .nil, .f .nil, .f .nil, .f .nil]⟩:=by unfold look;rw[hB 1 (by omega)];exact b1
   have b4:look HB (H1.length+1+1) g3=some ⟨g3,5,[.f (.int .i64 q.task.size), .f (fints q.task.given), .f (fsl eR q.task.rules), .own id3 g4 0 q.put.length none, .own id4 g5 0 q.moves.length none]⟩:=by unfold look;rw[hB _ (by omega)];exact b2
   rw[←hHB]
   clear hHB e3 e4 b1 b2 l3 l4
   simp(maxSteps:=999999)(disch:=omega)only[go_sem,zA,zM,zS,zE,zL,b4,l5]
   rw[hix _ hmp,sliceV_ownT ti22 rfl ti3 rfl l5 rfl (by simp only[cl_length];omega)]
   simp(maxSteps:=999999)(disch:=omega)only[go_sem,zA,zM,zS,zE,zL,b4]
   rw[look_set_eq (by omega)]
   simp(maxSteps:=999999)(disch:=omega)only[go_sem,zA,zM,zS,zE,zL]
   rw[look_set_ne (by omega),b3]
   simp(maxSteps:=999999)(disch:=omega)only[go_sem,zA,zM,zS,zE,zL]
   rw[look_set_eq (by rw[List.length_set];omega)]
   simp(maxSteps:=999999)(disch:=omega)only[go_sem,zA,zM,zS,zE,zL]
   have hD:∀{X Y:Option Blk} {k g:Nat},2≤k∧k<2+H1.length→look ((HB.set (H1.length+1+1) X).set 1 Y) k g=look HB k g:=fun hk=>by
    rw[look_set_ne (by omega),look_set_ne (by omega)]
   refine ice_fin (q:=⟨q.task,q.put.set mi 0,q.moves.take (q.moves.length -1)⟩) r1 r2 ?_ (frz_take (by rw[hD (by omega)];exact l5) (by omega))
   have:=frz_take (lim:=none) (n:=(q.put.set mi 0).length) (by rw[hD (X:=some ⟨g3,5,[.f (.int .i64 q.task.size), .f (fints q.task.given), .f (fsl eR q.task.rules), .own id3 g4 0 q.put.length none, .own id4 g5 0 (q.moves.length -1) none]⟩) (Y:=some ⟨g2,5,[.f (.int .i64 q.task.size), .f (fints q.task.given), .f (fsl eR q.task.rules), .own id3 g4 0 q.put.length none, .own id4 g5 0 (q.moves.length -1) none]⟩) (k:=id3) (g:=g4) (by omega)];exact l6) (Nat.le_refl _)
   rwa [List.take_length,List.length_set]at this
 · simp(maxSteps:=999999)(disch:=omega)only[go_sem,zA,zM,zS,zE,zL]
   refine ice_fin0 ?_ ?_
   · simp[gameBack,h]
   · simp[gameBackB,h]
end Go.Lg

namespace Go.Lg
mutual
def nzF:FV→FV
 | .nil=> .sl 0 []
 | .sl n cs=> .sl n (nzL cs)
 | .int k n=> .int k n
 | .bool b=> .bool b
 | .str s=> .str s
def nzL:List FV→List FV
 |[]=>[]
 |x::l=>nzF x::nzL l
end
theorem nzL_map:∀l:List FV,nzL l=l.map nzF
 |[]=>rfl
 |x::l=>by rw[nzL,nzL_map l];rfl
theorem nzF_sl(n:Nat)(cs:List FV):nzF (.sl n cs)= .sl n (cs.map nzF):=by rw[nzF,nzL_map]
theorem nzF_sound{w:World}{I:Nat→Prop}{x:FV}{v:Value}(h:VF w I x v):VF w I (nzF x) v:=by
 induction h with
 |int k n=>exact .int k n
 |bool b=>exact .bool b
 |str s=>exact .str s
 |nil=>exact .sl0 none 0
 |sl0 a cap=>rw[nzF_sl];exact .sl0 a cap
 |sl n cs b o cap u hc hI hu hv ih=>
  rw[nzF_sl]
  refine .sl n _ b o cap u hc hI (fun j hj=>hu j (by simpa using hj)) fun j hj=> ?_
  rw[List.getElem_map]
  exact ih j (by simpa using hj)
def frzS(S:Nat→Bool)(H:Heap):Nat→CV→Option FV
 |_, .f x=>some (nzF x)
 |_, .emp=>some (.sl 0 [])
 |n+1, .own id g off k _=>if S id then match look H id g with
  |some b=>(((b.cs.drop off).take (k*b.sz)).mapM (frzS S H n)).map (.sl k)
  |none=>none else none
 |_,_=>none
def Cx.iceS(X:Cx)(S:Nat→Bool)(H:Heap):Cx:={X with I:=fun b=>X.I b∨∃(id:Nat) (blk:Blk),S id=true∧H[id]? =some (some blk)∧X.mu blk.g=b}
def IceC(S:Nat→Bool)(H:Heap)(c c':CV):Prop:=c'=c∨∃y,frzS S H 6 c=some y∧c'= .f y
def IceH(S:Nat→Bool)(H H':Heap):Prop:=∀(id:Nat) (b':Blk),H'[id]? =some (some b')→S id=false∧∃b,H[id]? =some (some b)∧b'.g=b.g∧b'.sz=b.sz∧b'.cs.length=b.cs.length∧∀j (h:j<b.cs.length),∃c',b'.cs[j]? =some c'∧IceC S H b.cs[j] c'
inductive Ice1(S:Nat→Bool)(H:Heap):AV→AV→Prop where
 |c (x y:CV) (h:IceC S H x y):Ice1 S H (.c x) (.c y)
 |agg (xs ys:List CV) (hl:ys.length=xs.length) (h:∀j (h:j<xs.length),∃y,ys[j]? =some y∧IceC S H xs[j] y):Ice1 S H (.agg xs) (.agg ys)
 |s (x:AV):Ice1 S H x x
inductive IceA(S:Nat→Bool)(H:Heap):AV→AV→Prop where
 |o (x y:AV) (h:Ice1 S H x y):IceA S H x y
 |tup (xs ys:List AV) (hl:ys.length=xs.length) (h:∀j (h:j<xs.length),∃y,ys[j]? =some y∧Ice1 S H xs[j] y):IceA S H (.tup xs) (.tup ys)
section
variable{w:World}{X:Cx}{S:Nat→Bool}{H H':Heap}
theorem iceS_ev(hh:IceH S H H'):Ev w X H w (X.iceS S H) H':=
 ⟨fun b hb=>⟨.inl hb,rfl⟩,Nat.le_refl _,fun _ _=>⟨rfl,rfl⟩,Nat.le_refl _,rfl,rfl,rfl,
  fun id g b' _ h=>by
   obtain⟨h1,h2⟩:=look_some h
   obtain⟨_,b,k1,k2,k3,k4,_⟩:=hh id b' h1
   have hg:b.g=g:=by rw[←k2];exact h2
   refine⟨b, ?_,k4.symm,k3.symm⟩
   subst hg
   exact look_of k1,
  fun _ _ _=>rfl,
  fun b ⟨id,blk,h1,h2⟩=>by
   obtain⟨_,b0,k1,k2,_⟩:=hh id blk h1
   exact .inl ⟨id,b0,k1,by rw[←k2];exact h2⟩,
  fun b hb=>hb.elim .inl fun⟨id,blk,_,h1,h2⟩=> .inr (.inl ⟨id,blk,h1,h2⟩)⟩
theorem frzS_sound(R:HRel w X H):∀(n:Nat) (x:CV) (y:FV) (v:Value),frzS S H n x=some y→VC w X H x v→VF w (X.iceS S H).I y v:=by
 intro n
 induction n with
 |zero=>
  intro x y v h hv
  cases x with
  |f x=>simp only[frzS,Option.some.injEq]at h;subst h;exact nzF_sound (VF.wide (fun b hb=> .inl hb) hv)
  |emp=>simp only[frzS,Option.some.injEq]at h;subst h;obtain⟨a,rfl⟩:=hv;exact .sl0 _ _
  |_=>simp[frzS]at h
 |succ n ih=>
  intro x y v h hv
  cases x with
  |f x=>simp only[frzS,Option.some.injEq]at h;subst h;exact nzF_sound (VF.wide (fun b hb=> .inl hb) hv)
  |emp=>simp only[frzS,Option.some.injEq]at h;subst h;obtain⟨a,rfl⟩:=hv;exact .sl0 _ _
  |own id g off k lim=>
   simp only[frzS]at h
   split at h
   rotate_left
   · cases h
   rename_i hS
   split at h
   · rename_i b hl
     cases hf:((b.cs.drop off).take (k*b.sz)).mapM (frzS S H n)with
     |none=>simp[hf]at h
     |some xs=>
      simp[hf]at h
      subst h
      obtain⟨hl1,hl2⟩:=mapM_get hf
      obtain⟨hgt,_,hall⟩:=hv
      obtain⟨c1,a0,cap,rfl,c2,c3,c4,c5⟩:=hall b hl
      obtain⟨hid,hgg⟩:=look_some hl
      subst hgg
      obtain⟨_,_,cc,t,g3,g4,g5,g6⟩:=R.blk id b hid
      have hlen:xs.length=k*b.sz:=by rw[hl1];simp;omega
      have hI:(X.iceS S H).I (X.mu b.g):= .inr ⟨id,b,hS,hid,rfl⟩
      by_cases h0:k*b.sz=0
      · have hx0:xs=[]:=List.eq_nil_of_length_eq_zero (by omega)
        subst hx0
        by_cases hn:k=0
        · subst hn;exact VF.sl0 _ _
        · by_cases hcap:cap=0
          · omega
          · have:=c3 hcap
            subst this
            exact VF.sl k [] (X.mu b.g) off cap (fun _=>undef) c2 hI (fun j hj=>absurd hj (by simp)) (fun j hj=>absurd hj (by simp))
      · have hn:k≠0:=fun h=>h0 (by rw[h];simp)
        have:=c3 (by omega)
        subst this
        have hget:∀j,j<xs.length→∃u,cc[off+j]? =some u∧∀h:j<xs.length,VF w (X.iceS S H).I xs[j] u:=fun j hj=>by
         obtain⟨u,h7,h8⟩:=g6 (off+j) (by omega)
         refine⟨u,h7,fun hj=> ?_⟩
         obtain⟨y,e1,e2⟩:=hl2 j (by rw[←hl1];exact hj)
         have e3:xs[j]=y:=by simpa[List.getElem?_eq_getElem hj]using e1
         rw[e3]
         refine ih _ _ _ e2 ?_
         simp only[List.getElem_take,List.getElem_drop]
         exact h8
        refine VF.sl k xs (X.mu b.g) off cap (fun j=>cc.getD (off+j) undef) c2 hI (fun j hj=> ?_) (fun j hj=> ?_)
        · obtain⟨u,h7,h8⟩:=hget j hj
          simp[World.cell?,g3,Array.getD_eq_getD_getElem?,h7]
        · obtain⟨u,h7,h8⟩:=hget j hj
          simp only[Array.getD_eq_getD_getElem?,h7,Option.getD_some]
          exact h8 hj
   · cases h
  |_=>simp[frzS]at h
theorem iceC_sound(R:HRel w X H)(hh:IceH S H H'){x y:CV}{v:Value}(h:IceC S H x y)(hv:VC w X H x v):VC w (X.iceS S H) H' y v:=by
 rcases h with rfl|⟨z,h1,rfl⟩
 · exact hv.mono (iceS_ev hh)
 · exact frzS_sound R 6 x z v h1 hv
theorem iceS_rel(R:HRel w X H)(hh:IceH S H H'):HRel w (X.iceS S H) H':=
 ⟨fun b hb=>hb.elim (R.imm b) fun⟨id,blk,_,h1,h2⟩=>by
   obtain⟨_,_,cc,t,h3,_⟩:=R.blk id blk h1
   rw[←h2]
   exact(Array.getElem?_eq_some_iff.1 h3).1,
  fun id b' hb=>by
   obtain⟨k0,b,k1,k2,k3,k4,k5⟩:=hh id b' hb
   obtain⟨h1,h2,cc,t,h3,h4,h5,h6⟩:=R.blk id b k1
   rw[k2]
   refine⟨h1,fun hI=>hI.elim h2 fun⟨id2,b2,e1,e2,e3⟩=> ?_,cc,t,h3,h4,by rw[k4];exact h5,fun j hj=> ?_⟩
   · have:=R.inj id2 id b2 b e2 k1 e3
     rw[this,k0]at e1
     cases e1
   · rw[k4]at hj
     obtain⟨u,u1,u2⟩:=h6 j hj
     obtain⟨c',e1,e2⟩:=k5 j hj
     refine⟨u,u1, ?_⟩
     have e3:b'.cs[j]=c':=by
      have:=List.getElem?_eq_some_iff.1 e1
      exact this.2
     rw[e3]
     exact iceC_sound R hh e2 u2,
  fun id id' b b' h1 h2 he=>by
   obtain⟨_,a,k1,k2,_⟩:=hh id b h1
   obtain⟨_,a',k1',k2',_⟩:=hh id' b' h2
   exact R.inj id id' a a' k1 k1' (by rw[←k2,←k2'];exact he),R.tab.mono fun b hb=>⟨.inl hb,rfl⟩⟩
theorem ice1_sound(R:HRel w X H)(hh:IceH S H H'){x y:AV}{v:Value}(h:Ice1 S H x y)(hv:VA w X H x v):VA w (X.iceS S H) H' y v:=by
 cases h with
 |c x y h=>exact .c _ _ (iceC_sound R hh h (va_c hv))
 |agg xs ys hl h=>
  cases hv with
  |agg cs vs hsz hc=>
   refine .agg _ _ (by omega) fun j hj=> ?_
   obtain⟨y,h3,h4⟩:=h j (by omega)
   obtain⟨u,h5,h6⟩:=hc j (by omega)
   have:ys[j]=y:=by simpa[List.getElem?_eq_getElem hj]using h3
   rw[this]
   exact⟨u,h5,iceC_sound R hh h4 h6⟩
 |s x=>exact hv.mono (iceS_ev hh)
theorem iceA_sound(R:HRel w X H)(hh:IceH S H H'){x y:AV}{v:Value}(h:IceA S H x y)(hv:VA w X H x v):VA w (X.iceS S H) H' y v:=by
 cases h with
 |o x y h=>exact ice1_sound R hh h hv
 |tup xs ys hl h=>
  cases hv with
  |tup vs us hus=>
   rw[←hl]
   refine .tup ys us fun j hj=> ?_
   obtain⟨y,h3,h4⟩:=h j (by omega)
   have:ys[j]=y:=by simpa[List.getElem?_eq_getElem hj]using h3
   rw[this]
   exact ice1_sound R hh h4 (hus j (by omega))
end
theorem RunCall.iceS{P:Program}{f:FuncId}{args:List AV}{H:Heap}{Q Q':KV}(h:RunCall P f args H Q')(hq:∀v H',Q' v H'→∃S H'' v',IceH S H' H''∧IceA S H' v v'∧Q v' H''):RunCall P f args H Q:=
 fun w X vs hH hvs=>(h w X vs hH hvs).mono fun _ w' ⟨v,u,X',H',h1,h2,h3,h4,h5⟩=>by
  obtain⟨S,H'',v',k1,k2,k3⟩:=hq v H' h5
  exact⟨v',u,X'.iceS S H',H'',h1,iceA_sound h3 k1 k2 h2,iceS_rel h3 k1,h4.trans (iceS_ev k1),k3⟩
theorem RunC.ice{P:Program}{c:Code}{s:List AV}{H H':Heap}{Q:Exit→St→Prop}(S:Nat→Bool)(hh:IceH S H H')(h:RunC P c ⟨s,H'⟩ Q):RunC P c ⟨s,H⟩ Q:=by
 intro w X a R
 have R':Rel w (X.iceS S H) a ⟨s,H'⟩:=by
  refine⟨R.defs,R.size,fun i hi=> ?_,iceS_rel R.heap hh⟩
  obtain⟨u,h1,h2⟩:=R.slot i hi
  exact⟨u,h1,iceA_sound R.heap hh (.o _ _ (.s _)) h2⟩
 exact wp_mono (h w _ a R') fun e a' w' ⟨X',st',h1,h2,h3⟩=>⟨X',st',h1,(iceS_ev hh).trans h2,h3⟩
theorem drawP_ice{P:Program}{ops:Array Oper}{s:List AV}{H H':Heap}{K:KS}(S:Nat→Bool)(hh:IceH S H H')(h:drawP P ops s H' K):drawP P ops s H K:=
 drawP_r h.1 fun _=>RunC.ice S hh (drawP_sound (Q:=nrm K) h)
theorem iceH_same{S:Nat→Bool}{H H':Heap}(h:∀(id:Nat) (b:Blk),H'[id]? =some (some b)→S id=false∧H[id]? =some (some b)):IceH S H H':=fun id b hb=>
 ⟨(h id b hb).1,b,(h id b hb).2,rfl,rfl,rfl,fun j hj=>⟨b.cs[j],by rw[List.getElem?_eq_getElem hj], .inl rfl⟩⟩
def tailS(n:Nat):Nat→Bool:=fun i=>decide (n≤i)
theorem iceH_take(H:Heap)(n:Nat):IceH (tailS n) H (H.take n):=iceH_same fun id b hb=>by
 rw[List.getElem?_take]at hb
 split at hb
 · rename_i h
   exact⟨by simp only[tailS,decide_eq_false_iff_not];omega,hb⟩
 · cases hb
theorem iceC_f{S:Nat→Bool}{H:Heap}{c:CV}{y:FV}(h:frzS S H 6 c=some y):IceC S H c (.f y):= .inr ⟨y,h,rfl⟩
theorem iceC_s{S:Nat→Bool}{H:Heap}{c:CV}:IceC S H c c:= .inl rfl
theorem ice1_agg3{S:Nat→Bool}{H:Heap}{a b c a' b' c':CV}(h1:IceC S H a a')(h2:IceC S H b b')(h3:IceC S H c c'):Ice1 S H (.agg [a,b,c]) (.agg [a',b',c']):=
 .agg _ _ rfl fun j hj=>by
  match j,hj with
  |0,_=>exact⟨_,rfl,h1⟩
  |1,_=>exact⟨_,rfl,h2⟩
  |2,_=>exact⟨_,rfl,h3⟩
def Fz(S:Nat→Bool)(H:Heap)(n:Nat)(c:CV)(x:FV):Prop:=∀H':Heap,(∀i,S i=true→i<H.length→H'[i]? =H[i]?)→∀m,n≤m→frzS S H' m c=some x
theorem Fz.frz{S:Nat→Bool}{H:Heap}{n:Nat}{c:CV}{x:FV}(h:Fz S H n c x){m:Nat}(hm:n≤m):frzS S H m c=some x:=h H (fun _ _ _=>rfl) m hm
theorem Fz.f{S:Nat→Bool}{H:Heap}{x:FV}(n:Nat):Fz S H n (.f x) (nzF x):=fun H' _ m _=>by cases m<;>rfl
theorem Fz.emp{S:Nat→Bool}{H:Heap}(n:Nat):Fz S H n .emp (.sl 0 []):=fun H' _ m _=>by cases m<;>rfl
theorem Fz.mono{S:Nat→Bool}{H H1:Heap}{n:Nat}{c:CV}{x:FV}(h:Fz S H n c x)(hs:∀i,S i=true→i<H.length→H1[i]? =H[i]?)(hl:H.length≤H1.length):Fz S H1 n c x:=
 fun H' k m hm=>h H' (fun i hi hil=>(k i hi (Nat.lt_of_lt_of_le hil hl)).trans (hs i hi hil)) m hm
theorem Fz.own{S:Nat→Bool}{H:Heap}{n:Nat}{id g k:Nat}{b:Blk}{xs:List FV}{lim:Option Nat}(hS:S id=true)(hl:look H id g=some b)(hlen:xs.length=k*b.sz)(hle:k*b.sz≤b.cs.length)
 (hc:∀j (h:j<xs.length),∃c,b.cs[j]? =some c∧Fz S H n c xs[j]):Fz S H (n+1) (.own id g 0 k lim) (.sl k xs):=fun H' hh m hm=>by
 obtain⟨m,rfl⟩:∃m',m=m'+1:=⟨m -1,by omega⟩
 have hlt:id<H.length:=(List.getElem?_eq_some_iff.1 (look_some hl).1).1
 have hl':look H' id g=some b:=by unfold look at*;rw[hh id hS hlt];exact hl
 simp only[frzS,hS,if_true,hl',List.drop_zero]
 have:∀(cs:List CV) (ys:List FV),cs.length=ys.length→(∀j (h:j<ys.length),∃c,cs[j]? =some c∧frzS S H' m c=some ys[j])→cs.mapM (frzS S H' m)=some ys:=by
  intro cs
  induction cs with
  |nil=>intro ys h _;have:ys=[]:=List.eq_nil_of_length_eq_zero h.symm;subst this;rfl
  |cons c cs ih=>
   intro ys h hall
   cases ys with
   |nil=>simp at h
   |cons y ys=>
    obtain⟨c0,h0,h1⟩:=hall 0 (by simp)
    have:c=c0:=by simpa using h0
    subst this
    rw[List.mapM_cons,h1,ih ys (by simpa using h) fun j hj=>by
     obtain⟨c',q1,q2⟩:=hall (j+1) (by simpa using hj)
     exact⟨c',by simpa using q1,by simpa using q2⟩]
    rfl
 rw[this _ xs (by rw[List.length_take];omega) fun j hj=> ?_]
 · rfl
 · obtain⟨c,h1,h2⟩:=hc j hj
   exact⟨c,by rw[List.getElem?_take_of_lt (by omega)];exact h1,h2 H' hh m (by omega)⟩
def headN:Nat→Code→Code
 |n+1, .seq x y=> .seq x (headN n y)
 |_,_=> .skip
def tailN:Nat→Code→Code
 |n+1, .seq _ y=>tailN n y
 |_,c=>c
theorem headN_zero(c:Code):headN 0 c= .skip:=by cases c<;>rfl
theorem headN_seq(n:Nat)(x y:Code):headN (n+1) (.seq x y)= .seq x (headN n y):=rfl
theorem tailN_zero(c:Code):tailN 0 c=c:=by cases c<;>rfl
theorem tailN_seq(n:Nat)(x y:Code):tailN (n+1) (.seq x y)=tailN n y:=rfl
def midK(R:KS)(K:KT):KT:=fun e s H=>match e with
 | .normal=>R s H
 |e=>K e s H
theorem midK_normal(R:KS)(K:KT)(s:List AV)(H:Heap):midK R K .normal s H=R s H:=propext Iff.rfl
theorem midK_ret(R:KS)(K:KT)(s:List AV)(H:Heap):midK R K .ret s H=K .ret s H:=propext Iff.rfl
theorem midK_exit(R:KS)(K:KT)(i:Nat)(s:List AV)(H:Heap):midK R K (.exit i) s H=K (.exit i) s H:=propext Iff.rfl
theorem RunC.split{P:Program}{R:KS}{K:KT}:∀(n:Nat) (c:Code) (s:List AV) (H:Heap),cw P (headN n c) s H (midK R K)→(∀s H,R s H→RunC P (tailN n c) ⟨s,H⟩ (stK K))→RunC P c ⟨s,H⟩ (stK K)
 |0,c,s,H,h,k=>by
  rw[headN_zero]at h
  rw[←tailN_zero c]
  exact k s H h
 |n+1,c,s,H,h,k=>by
  cases c with
  |seq x y=>
   refine RunC.seq ((cw_sound x s H _ h).mono fun e st hq=> ?_)
   cases e with
   |normal=>exact RunC.split n y st.s st.h hq k
   |_=>exact hq
  |_=>exact k s H h
theorem RunC.cutN{P:Program}{c:Code}{s:List AV}{H:Heap}{K:KT}(n:Nat){α:Type}(ok:α→Prop)(M:α→List Sl)(G:α→Heap)(h:cw P (headN n c) s H (midK (fun s' H'=>∃a,ok a∧Sle s' (mergeS (M a) s)∧HLe H' (G a)) K))
 (k:∀a,ok a→RunC P (tailN n c) ⟨mergeS (M a) s,G a⟩ (stK K)):RunC P c ⟨s,H⟩ (stK K):=
 RunC.split n c s H h fun s' H' ⟨a,ha,hs,hh⟩=>RunC.weaken (st':=⟨mergeS (M a) s,G a⟩) hs.sle hh (k a ha)
theorem RunCall.ofR{P:Program}{f:FuncId}{fn:Func}{c:Code}{args:List AV}{H:Heap}{Q:KV}(hf:P.funcs[f]? =some fn)(hb:fn.body=some c){n:Nat}(hn:fn.ntmps=n){rs:List ResultVar}(hr:fn.results.toList=rs)
 (h:RunC P c ⟨args++List.replicate (n -args.length) .void,H⟩ (stK (doneK P rs Q))):RunCall P f args H Q:=by
 subst hn hr
 exact RunCall.of_body hf hb (h.mono fun e st ⟨h1,v,h2,H',h3,h4⟩=>⟨h1,v,H',h2,h3,h4⟩)
attribute [go_sem] headN_zero headN_seq tailN_zero tailN_seq midK_normal midK_ret midK_exit
theorem OpS.clear{P:Program}{o:Oper}{st:St}{K:AV→Heap→Prop}{t e:TypeId}{ti ei:TI}{x:Operand}{id g off n:Nat}{lim:Option Nat}{b:Blk}
 (ho:o.op= .call ⟨.builtin .clear,#[x],#[t]⟩) (ht:tinf P t=some ti) (hk:ti.k= .slice e) (he:tinf P e=some ei) (hz:ei.zero.length=ei.size)
 (hs:evO st.s x= .c (.own id g off n lim)) (hl:look st.h id g=some b) (hbs:b.sz=ei.size) (hn0:0<n) (hfit:off+n*ei.size≤b.cs.length)
 (hK:K (.tup []) (st.h.set id (some ⟨b.g,b.sz,setRange b.cs off (zerosL (n*ei.size) ei.zero)⟩))):OpS P o st K:=by
 intro w X a R next Q hn
 obtain⟨inf,d,z',i1,i2,i3,i4,i5,i6,i7⟩:=tinf_some ht
 rw[i5]at hk;cases tk_slice hk
 obtain⟨z,hz1,hz2,hz3⟩:=zero_sound he
 have hsv:=evO_sound R x
 rw[hs]at hsv
 obtain⟨hgt,_,hall⟩:=va_c hsv
 obtain⟨c1,a0,cap,hse,c2,c3,c4,c5⟩:=hall b hl
 have ha0:=c3 (by omega)
 subst ha0
 have hz0:n*ei.size≠0→ei.zero.length≠0:=fun h=>by rw[hz];intro h0;rw[h0]at h;exact h (Nat.mul_zero _)
 obtain⟨q1,q2⟩:=zerosL_sound (w:=w) (X:=X) (H:=st.h) hz2 (hz3 w X st.h) (n*ei.size) hz0
 have hone:∀y∈z.cells.toList,y.oneCell'=true:=fun y hy=>by
  obtain⟨j,hj,rfl⟩:=List.mem_iff_getElem.1 hy
  obtain⟨u,h1,h2⟩:=hz3 w X st.h j (by rw[←hz2];simpa using hj)
  have:z.cells.toList[j]=u:=by
   have:=Array.getElem?_eq_some_iff.1 h1
   simpa using this.2
  rw[this]
  exact h2.one
 have hvs:(Builtin.zeroCells z.cells n).toList=((Array.range (n*ei.size)).map (z.cells[· %z.cells.size]!)).toList:=by
  unfold Builtin.zeroCells
  rw[show n*z.cells.size=n*ei.size by rw[hz2,hz]]
 have hlen:((Array.range (n*ei.size)).map (z.cells[· %z.cells.size]!)).toList.length=(zerosL (n*ei.size) ei.zero).length:=by simpa using q1
 have hzl:(zerosL (n*ei.size) ei.zero).length=n*ei.size:=by simp[zerosL]
 obtain⟨w',h4,h5,h6⟩:=put_cells R.heap hl (o:=off) (cs:=zerosL (n*ei.size) ei.zero) (vs:=((Array.range (n*ei.size)).map (z.cells[· %z.cells.size]!)).toList) hlen (by omega)
  (fun j hj=>by obtain⟨u,u1,u2⟩:=q2 j hj;exact⟨u,by rw[Array.getElem?_toList];exact u1,u2⟩) (fun y hy=>by
    obtain⟨j,hj,rfl⟩:=List.mem_iff_getElem.1 hy
    have hj':j<(zerosL (n*ei.size) ei.zero).length:=by rw[←hlen];exact hj
    obtain⟨u,u1,u2⟩:=q2 j hj'
    have:((Array.range (n*ei.size)).map (z.cells[· %z.cells.size]!)).toList[j]=u:=by
     have:=Array.getElem?_eq_some_iff.1 u1
     simpa using this.2
    rw[this]
    exact u2.one)
 have hrun:(execOp a.eval o).run P w= .ok (.value (.tuple #[])) w':=by
  have hm:∀k:Nat,n=k+1→(Builtin.clear_ #[t] o.type #[.slice (some ⟨X.mu g,off,none⟩) n cap]).run P w= .ok (.tuple #[]) w':=fun k hk=>by
   subst hk
   have h4':=h4 P
   simp only[Array.toList_map,Array.toList_range]at h4'
   simp[Builtin.clear_,run_underlying i2,hz1,hvs,h4']
  simp only[execOp,ho,resolve,Sem.run_bind,Sem.run_pure,Result.andThen_ok,invoke,builtin,List.map_toArray,List.map_cons,List.map_nil,hse]
  rw[hm (n -1) (by omega)]
  rfl
 have hv:VA w' X (st.h.set id (some ⟨b.g,b.sz,setRange b.cs off (zerosL (n*ei.size) ei.zero)⟩)) (.tup []) (.tuple #[]):= .tup [] (fun _=>undef) fun j hj=>absurd hj (Nat.not_lt_zero _)
 exact wp_value hrun (hn _ _ _ _ _ hv h5 h6 hK)
end Go.Lg
