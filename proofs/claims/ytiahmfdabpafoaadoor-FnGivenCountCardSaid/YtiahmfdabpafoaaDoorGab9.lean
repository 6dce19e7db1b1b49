/- GpDC, cut to what is needed. -/
import Derived.Test.YtiahmfdabpafoaaDoorGab7
import Derived.Test.YtiahmfdabpafoaaDoorGab8
open Nat renaming reduceAdd→zA,reduceMul→zM,reduceSub→zS,reduceEqDiff→zE,reduceLeDiff→zL
set_option linter.unusedSimpArgs false
set_option linter.unusedVariables false
set_option maxRecDepth 100000
namespace Go.Lg
open Go.Proofs
def mvals(m:Nat)(k:Nat):List Int:=(([1,2,3,4]:List Nat).take k).flatMap fun v=>if m.testBit v=true then[(v:Int)]else[]
theorem mvals_succ{m k:Nat}(hk:k<4):mvals m (k+1)=mvals m k++if m.testBit (k+1)=true then[((k+1:Nat):Int)]else[]:=by
 have:k=0∨k=1∨k=2∨k=3:=by omega
 unfold mvals
 rcases this with rfl|rfl|rfl|rfl<;>simp
theorem mvals_len(m k:Nat):(mvals m k).length≤4:=by
 unfold mvals
 rw[List.length_flatMap]
 have:∀(l:List Nat),(l.map fun v=>(if m.testBit v=true then[(v:Int)]else[]).length).sum≤l.length:=by
  intro l
  induction l with
  |nil=>simp
  |cons v l ih=>
   simp only[List.map_cons,List.sum_cons,List.length_cons]
   split<;>simp<;>omega
 exact Nat.le_trans (this _) (by simp;omega)
theorem mvals_mem{m k:Nat}{x:Int}(h:x∈mvals m k):1≤x∧x≤4:=by
 unfold mvals at h
 obtain⟨v,hv,hx⟩:=List.mem_flatMap.1 h
 have:=List.mem_of_mem_take hv
 split at hx
 · simp only[List.mem_singleton]at hx
   simp only[List.mem_cons,List.not_mem_nil,or_false]at this
   omega
 · simp at hx
theorem ways_cons(r:Rul)(m:Nat)(ms:List Nat)(pre:List Int)(o:List Nat):ways r (m::ms) pre o=(mvals m 4).foldl (fun o v=>ways r ms (pre++[v]) o) o:=by
 have e:ways r (m::ms) pre o=[1,2,3,4].foldl (fun o (v:Nat)=>if m.testBit v=true then ways r ms (pre++[(v:Int)]) o else o) o:=rfl
 rw[e,mvals,List.foldl_flatMap]
 have e2:(([1,2,3,4]:List Nat).take 4)=[1,2,3,4]:=rfl
 rw[e2]
 congr 1
 funext o v
 split<;>simp
theorem MaskValues_own(m:Nat)(h:m≤30∧m%2=0):RunCall Tryd.prog 147 [int m] [] (ownQ (eI .i64) 1 (mvals m 4)):=by
 have hm2:((m:Int)).tmod 2=0:=by rw[tmod_nn (by omega)];omega
 refine RunCall.cw (c:=_) Tryd.func147 rfl (n:=29) Tryd.ntmps147 (rs:=[.tmp 2]) rfl ?_
 simp only[List.length_cons,List.length_nil,zA,zS,List.replicate,List.cons_append,List.nil_append]
 simp(maxSteps:=999999)(disch:=omega)only[go_sem,zA,zM,zS,zE,zL]
 intro g
 refine loop_rule2 (fun(v g:Nat)=>5 -v) (fun v g=>1≤v∧v≤5) (fun v g=>[.k, .a, .a, .p (.c (.own 0 g 0 (mvals m (v -1)).length none)), .p (int v), .a, .a, .a, .a, .a, .a, .a, .a, .a, .a, .a, .a, .a, .a, .a, .a, .a, .a, .a, .a, .a, .a, .a, .a]) (fun v g=>[some ⟨g,1,cl (eI .i64) (mvals m (v -1))⟩]) 1 g ⟨by omega,by omega⟩ (by simp(maxSteps:=999999)(disch:=omega)only[go_sem,zA,zM,zS,zE,zL];exact⟨by simp[mvals],rfl⟩) (HLe.refl _) ?_
 rintro v g ⟨hv1,hv2⟩
 have hlen:=mvals_len m (v -1)
 simp(maxSteps:=999999)(disch:=omega)only[go_sem,zA,zM,zS,zE,zL]
 ((with_reducible first|refine guardK_dec ?_ ?_|refine guardK_ndec ?_ ?_|refine guardK_nb ?_ ?_|refine guardK_split ?_ ?_|refine guardQ_dec ?_ ?_|refine guardL_dec ?_ ?_|refine guardQ_ndec ?_ ?_|refine guardL_ndec ?_ ?_|refine guardQ_nb ?_ ?_|refine guardL_nb ?_ ?_|refine guardQ_split ?_ ?_|refine guardL_split ?_ ?_)<;>intro h1<;>simp(maxSteps:=999999)(disch:=omega)only[go_sem,zA,zM,zS,zE,zL,h1])
 · first|refine OpS.rd (l1In_run _ _ _) (⟨_,Tryd.func72,rfl,rfl⟩:Enters Tryd.prog 72) rfl rfl rfl rfl ?_|refine Loud.rd (l1In_run _ _ _) (⟨_,Tryd.func72,rfl,rfl⟩:Enters Tryd.prog 72) rfl rfl rfl rfl ?_
   simp(maxSteps:=999999)(disch:=omega)only[go_sem,zA,zM,zS,zE,zL]
   ((with_reducible first|refine guardK_dec ?_ ?_|refine guardK_ndec ?_ ?_|refine guardK_nb ?_ ?_|refine guardK_split ?_ ?_|refine guardQ_dec ?_ ?_|refine guardL_dec ?_ ?_|refine guardQ_ndec ?_ ?_|refine guardL_ndec ?_ ?_|refine guardQ_nb ?_ ?_|refine guardL_nb ?_ ?_|refine guardQ_split ?_ ?_|refine guardL_split ?_ ?_)<;>intro h2<;>simp(maxSteps:=999999)(disch:=omega)only[go_sem,zA,zM,zS,zE,zL,h2])
   rotate_left
   · exfalso;omega
   simp(maxSteps:=999999)(disch:=omega)only[go_sem,zA,zM,zS,zE,zL,hm2]
   have hv4:v≤4:=by omega
   have hsucc:=mvals_succ (m:=m) (k:=v -1) (by omega)
   rw[show v -1+1=v by omega]at hsucc
   simp(maxSteps:=999999)(disch:=omega)only[go_sem,zA,zM,zS,zE,zL,shr_small (s:=m) (v:=(v:Int)) (by omega),bit_mod]
   rw[Int.toNat_natCast]
   ((first|(with_reducible first|refine condK_dec ?_ ?_|refine condK_ndec ?_ ?_|refine condK_nb ?_ ?_)|refine condK_b ?_ ?_)<;>intro hb)
   · rw[if_pos hb]at hsucc
     simp(maxSteps:=999999)(disch:=omega)only[go_sem,zA,zM,zS,zE,zL]
     intro g1 g2
     refine⟨v+1,g2,⟨⟨by omega,by omega⟩,by omega⟩,⟨?_,by push_cast;omega⟩,hle_eq ?_ (hle_nil _)⟩
     · rw[show v+1 -1=v by omega,hsucc,List.length_append]
       exact⟨rfl,rfl⟩
     · rw[show v+1 -1=v by omega,hsucc,cl_append]
   · rw[if_neg (by rw[hb];simp),List.append_nil]at hsucc
     simp(maxSteps:=999999)(disch:=omega)only[go_sem,zA,zM,zS,zE,zL]
     refine⟨v+1,g,⟨⟨by omega,by omega⟩,by omega⟩,⟨?_,by push_cast;omega⟩,hle_eq ?_ (HLe.refl _)⟩
     · rw[show v+1 -1=v by omega,hsucc]
       exact⟨rfl,rfl⟩
     · rw[show v+1 -1=v by omega,hsucc]
 · have hv5:v=5:=by omega
   subst hv5
   exact lessQ_own (HLe.refl _)
theorem MaskValues_run(m:Nat)(h:m≤30∧m%2=0):Reads Tryd.prog 147 [int m] (ints (mvals m 4)):=Reads.own (MaskValues_own m h)
attribute [-go_sem] appendM lwF_cons
theorem orV_length(o:List Nat)(vs:List Int):(orV o vs).length=min o.length vs.length:=by simp[orV]
theorem ways_len(r:Rul):∀(ms:List Nat) (pre:List Int) (o:List Nat),pre.length+ms.length=o.length→(ways r ms pre o).length=o.length
 |[],pre,o,h=>by
  unfold ways
  split
  · rw[orV_length];simp at h;omega
  · rfl
 |m::ms,pre,o,h=>by
  rw[ways_cons]
  have:∀(l:List Int) (o':List Nat),o'.length=o.length→(l.foldl (fun o v=>ways r ms (pre++[v]) o) o').length=o.length:=by
   intro l
   induction l with
   |nil=>intro o' h';exact h'
   |cons v l ih=>
    intro o' h'
    rw[List.foldl_cons]
    exact ih _ (by rw[ways_len r ms (pre++[v]) o' (by simp at h⊢;omega)];exact h')
  exact this _ _ rfl
theorem orV_lt{o:List Nat}{vs:List Int}(ho:∀x∈o,x<32)(hv:∀v∈vs,0≤v∧v≤4):∀x∈orV o vs,x<32:=by
 intro x hx
 obtain⟨i,hi,rfl⟩:=List.mem_iff_getElem.1 hx
 have hi':=hi
 rw[orV_length]at hi'
 have hio:i<o.length:=by omega
 have hiv:i<vs.length:=by omega
 simp only[orV,List.getElem_zipWith]
 have h1:=ho _ (List.getElem_mem hio:o[i]∈o)
 have h2:=hv _ (List.getElem_mem hiv:vs[i]∈vs)
 refine Nat.or_lt_two_pow (n:=5) h1 ?_
 generalize vs[i]=w at h2
 have:w.toNat=0∨w.toNat=1∨w.toNat=2∨w.toNat=3∨w.toNat=4:=by omega
 rcases this with h|h|h|h|h<;>rw[h]<;>omega
theorem ways_lt(r:Rul):∀(ms:List Nat) (pre:List Int) (o:List Nat),(∀v∈pre,0≤v∧v≤4)→(∀x∈o,x<32)→∀x∈ways r ms pre o,x<32
 |[],pre,o,hp,ho=>by
  unfold ways
  split
  · exact orV_lt ho hp
  · exact ho
 |m::ms,pre,o,hp,ho=>by
  rw[ways_cons]
  have:∀(l:List Int) (o':List Nat),(∀v∈l,0≤v∧v≤4)→(∀x∈o',x<32)→∀x∈l.foldl (fun o v=>ways r ms (pre++[v]) o) o',x<32:=by
   intro l
   induction l with
   |nil=>intro o' _ h';exact h'
   |cons v l ih=>
    intro o' hl h'
    rw[List.foldl_cons]
    refine ih _ (fun w hw=>hl w (by simp[hw])) (ways_lt r ms (pre++[v]) o' (fun w hw=> ?_) h')
    rcases List.mem_append.1 hw with hw|hw
    · exact hp w hw
    · simp only[List.mem_singleton]at hw
      subst hw
      exact hl w (by simp)
  exact this _ _ (fun v hv=>by have:=mvals_mem hv;omega) ho
theorem fold_ok(r:Rul)(ms:List Nat)(pre:List Int):∀(l:List Int) (o:List Nat),(∀v∈pre,0≤v∧v≤4)→(∀v∈l,0≤v∧v≤4)→pre.length+1+ms.length=o.length→(∀x∈o,x<32)→
 (l.foldl (fun o v=>ways r ms (pre++[v]) o) o).length=o.length∧∀x∈l.foldl (fun o v=>ways r ms (pre++[v]) o) o,x<32
 |[],o,_,_,_,ho=>⟨rfl,ho⟩
 |v::l,o,hp,hl,hlen,ho=>by
  rw[List.foldl_cons]
  have h1:=ways_len r ms (pre++[v]) o (by simp;omega)
  have h2:=ways_lt r ms (pre++[v]) o (fun w hw=>by
   rcases List.mem_append.1 hw with hw|hw
   · exact hp w hw
   · simp only[List.mem_singleton]at hw
     subst hw
     exact hl w (by simp)) ho
  obtain⟨k1,k2⟩:=fold_ok r ms pre l _ hp (fun w hw=>hl w (by simp[hw])) (by rw[h1];exact hlen) h2
  exact⟨by rw[k1,h1],k2⟩
def nats(o:List Nat):List Int:=o.map fun(x:Nat)=>(x:Int)
theorem nats_length(o:List Nat):(nats o).length=o.length:=by simp[nats]
theorem nats_nth{o:List Nat}{i:Nat}(h:i<o.length):nth (nats o) i=(o[i]:Int):=by
 rw[nth_eq (by rw[nats_length];omega)]
 simp[nats]
theorem mask_fr_lt:∀(n:Nat) (H:Heap) (j:Nat),j<n→(mask (List.replicate n false++[true]) H)[j]? =H[j]?
 |0,_,_,h=>by omega
 |n+1,[],j,h=>by simp[List.replicate_succ,mask]
 |n+1,x::H,j,h=>by
  rw[List.replicate_succ,List.cons_append,mask]
  cases j with
  |zero=>rfl
  |succ j=>
   simp only[List.getElem?_cons_succ]
   exact mask_fr_lt n H j (by omega)
theorem mask_fr_ge:∀(n:Nat) (H:Heap),H.length≤n+1→∀(j:Nat) (b:Blk),n≤j→(mask (List.replicate n false++[true]) H)[j]?≠some (some b)
 |0,[],h,j,b,hj=>by simp[mask]
 |0,x::H,h,j,b,hj=>by
  have:H=[]:=List.eq_nil_of_length_eq_zero (by simpa using h)
  subst this
  cases j<;>simp[mask]
 |n+1,[],h,j,b,hj=>by simp[List.replicate_succ,mask]
 |n+1,x::H,h,j,b,hj=>by
  rw[List.replicate_succ,List.cons_append,mask]
  cases j with
  |zero=>omega
  |succ j=>
   simp only[List.getElem?_cons_succ]
   exact mask_fr_ge n H (by simpa using h) j b (by omega)
theorem mask_fr_same(H:Heap):mask (List.replicate H.length false++[true]) H=H:=by
 induction H with
 |nil=>rfl
 |cons x H ih=>rw[List.length_cons,List.replicate_succ,List.cons_append,mask,ih]
theorem okM_fr{n:Nat}{H H':Heap}(hl:H.length≤n+1)(h:∀j,j<n→H'[j]? =H[j]?):okM (List.replicate n false++[true]) H H':=fun id b hb=>by
 by_cases hn:id<n
 · rw[mask_fr_lt n _ _ hn]at hb⊢
   rw[h id hn];exact hb
 · exact absurd hb (mask_fr_ge n H hl id b (by omega))
theorem appendM_empO{P:Program}{H:Heap}{t:TypeId}{ei:TI}{K:KV}(ht:sliceOf P t=some ei)(hz:ei.zero.length=ei.size∧ei.size=1∧ei.bytes=8){xs:List Int}(hx:xs.length≤2^40){id g:Nat}{lim:Option Nat}(hl:look H id g=some ⟨g,1,cl (eI .i64) xs⟩)
 (hk:∀c H' S,OwnE (H++H') c xs S→(∀k∈S,H.length≤k∧k<H.length+H'.length)→(H'.length=S.length∧S.length≤1)→K (.c c) (H++H')):appendM P H t (.c .emp) (.c (.own id g 0 xs.length lim)) K:=by
 obtain⟨hz1,hz2,hz3⟩:=hz
 have et:((cl (eI .i64) xs).drop 0).take (xs.length*1)=cl (eI .i64) xs:=by rw[List.drop_zero,List.take_of_length_le (by rw[cl_length];exact Nat.le_refl _)]
 unfold appendM
 simp only[ht,hz1,hz2,if_true,elems,hl,et,appM]
 split
 · rename_i h0
   have:xs=[]:=List.eq_nil_of_length_eq_zero h0
   subst this
   have:=hk .emp [] [] .m (by simp) (by simp)
   rwa [List.append_nil]at this
 · refine⟨⟨by omega,by rw[hz3];omega⟩,fun g=> ?_⟩
   exact hk _ [some ⟨g,1,cl (eI .i64) xs⟩] [H.length] (.o H.length g xs (look_of (b:=⟨g,1,cl (eI .i64) xs⟩) (by simp))) (by simp) (by simp)
theorem appendM_Ef{P:Program}{H:Heap}{t:TypeId}{ei:TI}{K:KV}(ht:sliceOf P t=some ei)(hz:ei.zero.length=ei.size∧ei.size=1∧ei.bytes=8){c:CV}{xs:List Int}{S:List Nat}(h:OwnE H c xs S)(hx:xs.length≤2^40){v:Int}
 (hk:∀id g' H',look H' id g'=some ⟨g',1,cl (eI .i64) (xs++[v])⟩→(∀k,k<H.length→k∉S→H'[k]? =H[k]?)→(id∈S∨id=H.length)→(H'.length=H.length∨S=[]∧H'.length=H.length+1)→K (.c (.own id g' 0 (xs++[v]).length none)) H'):
 appendM P H t (.c c) (.c (.f (.sl 1 [.int .i64 v]))) K:=by
 obtain⟨hz1,hz2,hz3⟩:=hz
 unfold appendM
 cases h with
 |m=>
  simp only[ht,hz1,hz2,if_true,elems,List.length_singleton,Nat.mul_one,appM]
  refine⟨⟨by omega,by omega⟩,fun g'=> ?_⟩
  exact hk H.length g' _ (look_of (b:=⟨g',1,cl (eI .i64) [v]⟩) (by simp;rfl)) (fun k hk _=>List.getElem?_append_left hk) (.inr rfl) (.inr ⟨rfl,by simp⟩)
 |o id g2 xs hl2=>
  have hlt:id<H.length:=(List.getElem?_eq_some_iff.1 (look_some hl2).1).1
  simp only[ht,hz1,hz2,if_true,elems,List.length_singleton,Nat.mul_one,hl2,appM,okP,cl_length]
  refine⟨⟨trivial,by omega,trivial,by omega,by rw[hz3];omega⟩,fun g'=> ?_⟩
  have:=hk id g' (H.set id (some ⟨g',1,cl (eI .i64) xs++[.f (.int .i64 v)]⟩)) (look_of (b:=⟨g',1,cl (eI .i64) (xs++[v])⟩) (by rw[List.getElem?_set_self hlt,cl_append];rfl)) (fun k _ hk=>by rw[List.getElem?_set_ne (by simp at hk;omega)]) (.inl (by simp)) (.inl (by simp))
  rw[List.length_append]at this
  exact this
theorem look_set_ne'{H:Heap}{id j g:Nat}{x:Option Blk}(h:id≠j):look (H.set id x) j g=look H j g:=by
 unfold look;rw[List.getElem?_set_ne h]
theorem resV_none(P:Program)(s:List AV)(H:Heap):resV P s H []=some (.tup []):=rfl
attribute [go_sem] resV_none
def orTake(o:List Nat)(vs:List Int)(k:Nat):List Nat:=(orV o vs).take k++o.drop k
theorem orTake_zero(o:List Nat)(vs:List Int):orTake o vs 0=o:=by simp[orTake]
theorem orTake_length{o:List Nat}{vs:List Int}{k:Nat}(h:vs.length=o.length):(orTake o vs k).length=o.length:=by
 simp only[orTake,List.length_append,List.length_take,List.length_drop,orV_length];omega
theorem orTake_all{o:List Nat}{vs:List Int}(h:vs.length=o.length):orTake o vs vs.length=orV o vs:=by
 unfold orTake
 rw[List.take_of_length_le (by rw[orV_length];omega),List.drop_of_length_le (by omega),List.append_nil]
theorem orTake_nth{o:List Nat}{vs:List Int}{k:Nat}(hk:k<vs.length)(h:vs.length=o.length):nth (nats (orTake o vs k)) k=(o[k]'(by omega):Int):=by
 rw[nats_nth (by rw[orTake_length h];omega)]
 congr 1
 unfold orTake
 rw[List.getElem_append_right (by simp[orV_length];omega)]
 simp only[List.length_take,orV_length,List.getElem_drop]
 congr 1
 omega
theorem orTake_set{o:List Nat}{vs:List Int}{k:Nat}(hk:k<vs.length)(h:vs.length=o.length):(nats (orTake o vs k)).set k (((o[k]'(by omega))|||2^(nth vs k).toNat:Nat):Int)=nats (orTake o vs (k+1)):=by
 have hl:k<(orV o vs).length:=by rw[orV_length];omega
 unfold orTake nats
 rw[List.map_append,List.map_append,List.set_append_right _ _ (by simp[orV_length];omega),List.take_succ_eq_append_getElem hl,List.map_append,List.append_assoc]
 congr 1
 rw[List.drop_eq_getElem_cons (show k<o.length by omega)]
 simp only[List.length_map,List.length_take,orV_length,List.map_cons,List.map_nil]
 rw[show k -min k (min o.length vs.length)=0 by omega]
 simp only[List.set_cons_zero,List.cons_append,List.nil_append]
 congr 2
 simp only[orV,List.getElem_zipWith]
 rw[nth_eq (by omega)]
 simp
def remM(r:Rul)(ms:List Int)(k:Nat):List Nat:=(r.cells.drop k).map fun c=>(nth ms c).toNat
structure RulM(r:Rul)(ms:List Int):Prop where
 len:r.cells.length≤4
 kind:r.kind=1∨r.kind=2∨r.kind=3∨r.cells.length=2
 cell:∀c∈r.cells,0≤c∧c<ms.length∧0≤nth ms c∧nth ms c≤30∧nth ms c%2=0
 mlen:ms.length≤100
def waysQ(r:Rul)(ms:List Int)(pre:List Int)(o:List Nat)(H:Heap)(fid fg:Nat):KV:=fun v H'=>v= .tup []∧look H' fid fg=some ⟨fg,1,cl (eI .i64) (nats (ways r (remM r ms pre.length) pre o))⟩∧H.length≤H'.length∧∀k,k<H.length→k≠fid→H'[k]? =H[k]?
theorem l4Ways_run(r:Rul)(ms:List Int)(hr:RulM r ms):∀(d:Nat) (H:Heap) (id g:Nat) (pre:List Int) (fid fg:Nat) (o:List Nat),pre.length+d=r.cells.length→look H id g=some ⟨g,1,cl (eI .i64) pre⟩→(∀v∈pre,0≤v∧v≤4)→id≠fid→
 look H fid fg=some ⟨fg,1,cl (eI .i64) (nats o)⟩→o.length=r.cells.length→(∀x∈o,x<32)→RunCall Tryd.prog 145 [aR r,ints ms, .c (.own id g 0 pre.length none), .c (.own fid fg 0 o.length none)] H (waysQ r ms pre o H fid fg)
 |0,H,id,g,pre,fid,fg,o,hd,hp,hpv,hne,hf,hol,ho=>by
  have hp4:pre.length≤4:=by have:=hr.len;omega
  have hlt:fid<H.length:=(List.getElem?_eq_some_iff.1 (look_some hf).1).1
  have hlp:id<H.length:=(List.getElem?_eq_some_iff.1 (look_some hp).1).1
  refine RunCall.cw (c:=_) Tryd.func145 rfl (n:=68) Tryd.ntmps145 (rs:=[]) rfl ?_
  simp only[List.length_cons,List.length_nil,zA,zS,List.replicate,List.cons_append,List.nil_append]
  simp(maxSteps:=999999)(disch:=omega)only[go_sem,zA,zM,zS,zE,zL]
  intro gb
  have hp':look (H++[some ⟨gb,1,cR r⟩]) id g=some ⟨g,1,cl (eI .i64) pre⟩:=look_appL hp
  have hf':look (H++[some ⟨gb,1,cR r⟩]) fid fg=some ⟨fg,1,cl (eI .i64) (nats o)⟩:=look_appL hf
  have hb':look (H++[some ⟨gb,1,cR r⟩]) H.length gb=some ⟨gb,1,cR r⟩:=look_last
  simp(maxSteps:=999999)(disch:=omega)only[go_sem,zA,zM,zS,zE,zL,hp',hb']
  ((first|(with_reducible first|refine condK_dec ?_ ?_|refine condK_ndec ?_ ?_|refine condK_nb ?_ ?_)|refine condK_b ?_ ?_)<;>intro c1)
  · simp(maxSteps:=999999)(disch:=omega)only[go_sem,zA,zM,zS,zE,zL,hp',hb']
    have hown:OwnI (H++[some ⟨gb,1,cR r⟩]) (.own id g 0 pre.length none) pre [id]:=OwnI.o id g none pre [] (by rw[List.append_nil];exact hp')
    refine OpS.rdD (l4Holds_run r pre (by have:=hr.len;omega) hpv (by have:=hr.kind;omega)) (⟨_,Tryd.func146,rfl,rfl⟩:Enters Tryd.prog 146) rfl rfl (snap_two rfl hown.snap) rfl ?_
    have hrem:remM r ms pre.length=[]:=by unfold remM;rw[List.drop_of_length_le (by omega)];rfl
    simp(maxSteps:=999999)(disch:=omega)only[go_sem,zA,zM,zS,zE,zL]
    ((first|(with_reducible first|refine condK_dec ?_ ?_|refine condK_ndec ?_ ?_|refine condK_nb ?_ ?_)|refine condK_b ?_ ?_)<;>intro c2)
    · simp(maxSteps:=999999)(disch:=omega)only[go_sem,zA,zM,zS,zE,zL]
      obtain⟨HK,hHK⟩:∃HK:Heap,HK=H++[some ⟨gb,1,cR r⟩]:=⟨_,rfl⟩
      rw[←hHK]at hp' hf' hb'⊢
      have hKl:HK.length=H.length+1:=by rw[hHK];simp
      have hKg:∀k,k<H.length→HK[k]? =H[k]? :=fun k hk=>by rw[hHK,List.getElem?_append_left hk]
      clear hHK hown
      have hfK:fid<HK.length:=by omega
      have hp2:∀X,look (HK.set fid X) id g=some ⟨g,1,cl (eI .i64) pre⟩:=fun X=>by rw[look_set_ne' (Ne.symm hne)];exact hp'
      have hf2:∀cs,look (HK.set fid (some ⟨fg,1,cs⟩)) fid fg=some ⟨fg,1,cs⟩:=fun cs=>look_set_eq' hfK
      refine loop_rule (fun k:Nat=>pre.length -k) (fun k=>k≤pre.length) (fun k=>[.a, .a, .k, .k, .a, .a, .a, .a, .k, .p (int k), .a, .a, .a, .a, .a, .a, .a, .a, .a, .a, .a, .a, .a, .a, .a, .a, .a, .a, .a, .a, .a, .a, .a, .a, .a, .a, .a, .a, .a, .a, .a, .a, .a, .a, .a, .a, .a, .a, .a, .a, .a, .a, .a, .a, .a, .a, .a, .a, .a, .a, .a, .a, .a, .a, .a, .a, .a, .a]) (fun k=>HK.set fid (some ⟨fg,1,cl (eI .i64) (nats (orTake o pre k))⟩)) 0 (Nat.zero_le _) (by simp(maxSteps:=999999)(disch:=omega)only[go_sem,zA,zM,zS,zE,zL];rfl) (by rw[orTake_zero];exact hle_set_same (look_some hf').1) ?_
      intro k hk
      have hkl:=orTake_length (o:=o) (vs:=pre) (k:=k) (by omega)
      simp(maxSteps:=999999)(disch:=omega)only[go_sem,zA,zM,zS,zE,zL]
      ((first|(with_reducible first|refine condK_dec ?_ ?_|refine condK_ndec ?_ ?_|refine condK_nb ?_ ?_)|refine condK_b ?_ ?_)<;>intro c3)
      · have c3:k<pre.length:=by omega
        have hx:=orTake_nth (o:=o) (vs:=pre) (k:=k) c3 (by omega)
        simp(maxSteps:=999999)(disch:=omega)only[go_sem,zA,zM,zS,zE,zL]
        have hpk:=hpv (nth pre k) (by rw[nth_eq (by omega)];exact List.getElem_mem _)
        have hok:=ho (o[k]'(by omega)) (List.getElem_mem _)
        have hkn:(nats (orTake o pre k)).length=o.length:=by rw[nats_length,hkl]
        have hset:=orTake_set (o:=o) (vs:=pre) c3 (by omega)
        have hpw:2^(nth pre k).toNat<2^62:=Nat.pow_lt_pow_right (by omega) (by omega)
        refine drawP_lM [0,1,2,3,4,5,6,7,8,9,10,11] [] none [12,13] [] [0,0,0,0,12,28,0,0,192,448,960,2044,4095,8191] foll (by kernel_rfl) ?_
        simp(maxSteps:=999999)(disch:=omega)only[go_sem,zA,zM,zS,zE,zL,hp2,hf2,hx,shl_small hpk,or_small (show(o[k]'(by omega))<2^62 by omega) hpw,lwF_cons]
        rw[Int.toNat_natCast]
        exact⟨k+1,⟨by omega,by omega⟩,by push_cast;omega,by rw[List.set_set,hset];exact HLe.refl _⟩
      · have hke:k=pre.length:=by omega
        simp(maxSteps:=999999)(disch:=omega)only[go_sem,zA,zM,zS,zE,zL]
        refine⟨_,HLe.refl _,rfl, ?_,by simp;omega,fun j hj hn=>by rw[List.getElem?_set_ne (Ne.symm hn),hKg j hj]⟩
        rw[hf2,hrem,hke,orTake_all (by omega)]
        unfold ways
        rw[if_pos c2]
    · simp(maxSteps:=999999)(disch:=omega)only[go_sem,zA,zM,zS,zE,zL]
      refine⟨_,HLe.refl _,rfl, ?_,by simp,fun j hj hn=>List.getElem?_append_left hj⟩
      rw[hf',hrem]
      unfold ways
      rw[if_neg (by rw[c2];simp)]
  · exfalso;omega
 |d+1,H,id,g,pre,fid,fg,o,hd,hp,hpv,hne,hf,hol,ho=>by
  have hp4:r.cells.length≤4:=hr.len
  have hlt:fid<H.length:=(List.getElem?_eq_some_iff.1 (look_some hf).1).1
  have hlp:id<H.length:=(List.getElem?_eq_some_iff.1 (look_some hp).1).1
  have hkc:pre.length<r.cells.length:=by omega
  have hcell:=hr.cell (nth r.cells pre.length) (by rw[nth_eq (by omega)];exact List.getElem_mem _)
  obtain⟨m,hm⟩:∃m:Nat,nth ms (nth r.cells pre.length)=m:=⟨(nth ms (nth r.cells pre.length)).toNat,by omega⟩
  have hm30:m≤30∧m%2=0:=by omega
  have hml:=hr.mlen
  have hrem:remM r ms pre.length=m::remM r ms (pre.length+1):=by
   unfold remM
   rw[List.drop_eq_getElem_cons hkc,List.map_cons]
   congr 1
   have:=hm
   rw[nth_eq (xs:=r.cells) (by omega)]at this
   simp only[Int.toNat_natCast]at this
   rw[this]
   rfl
  refine RunCall.cw (c:=_) Tryd.func145 rfl (n:=68) Tryd.ntmps145 (rs:=[]) rfl ?_
  simp only[List.length_cons,List.length_nil,zA,zS,List.replicate,List.cons_append,List.nil_append]
  simp(maxSteps:=999999)(disch:=omega)only[go_sem,zA,zM,zS,zE,zL]
  intro gb
  have hp':look (H++[some ⟨gb,1,cR r⟩]) id g=some ⟨g,1,cl (eI .i64) pre⟩:=look_appL hp
  have hf':look (H++[some ⟨gb,1,cR r⟩]) fid fg=some ⟨fg,1,cl (eI .i64) (nats o)⟩:=look_appL hf
  have hb':look (H++[some ⟨gb,1,cR r⟩]) H.length gb=some ⟨gb,1,cR r⟩:=look_last
  obtain⟨HK,hHK⟩:∃HK:Heap,HK=H++[some ⟨gb,1,cR r⟩]:=⟨_,rfl⟩
  rw[←hHK]at hp' hf' hb'⊢
  have hKl:HK.length=H.length+1:=by rw[hHK];simp
  have hKg:∀k,k<H.length→HK[k]? =H[k]? :=fun k hk=>by rw[hHK,List.getElem?_append_left hk]
  clear hHK
  simp(maxSteps:=999999)(disch:=omega)only[go_sem,zA,zM,zS,zE,zL,hp',hb']
  ((first|(with_reducible first|refine condK_dec ?_ ?_|refine condK_ndec ?_ ?_|refine condK_nb ?_ ?_)|refine condK_b ?_ ?_)<;>intro c1)
  · exfalso;omega
  simp(maxSteps:=999999)(disch:=omega)only[go_sem,zA,zM,zS,zE,zL,hp',hb',hm]
  first|refine OpS.mk (MaskValues_run m hm30) (⟨_,Tryd.func147,rfl,rfl⟩:Enters Tryd.prog 147) rfl rfl rfl rfl rfl ?_|refine Loud.mk (MaskValues_run m hm30) (⟨_,Tryd.func147,rfl,rfl⟩:Enters Tryd.prog 147) rfl rfl rfl rfl rfl ?_
  simp(maxSteps:=999999)(disch:=omega)only[go_sem,zA,zM,zS,zE,zL]
  have hL4:=mvals_len m 4
  have hLv:∀v∈mvals m 4,1≤v∧v≤4:=fun v hv=>mvals_mem hv
  generalize hL:mvals m 4=L at hL4 hLv⊢
  refine loop_rule2 (fun(k:Nat) (HI:Heap)=>L.length -k) (fun k HI=>k≤L.length∧look HI fid fg=some ⟨fg,1,cl (eI .i64) (nats ((L.take k).foldl (fun o v=>ways r (remM r ms (pre.length+1)) (pre++[v]) o) o))⟩∧HK.length≤HI.length∧∀j,j<HK.length→j≠fid→HI[j]? =HK[j]?) (fun k HI=>[.a, .k, .k, .k, .k, .a, .a, .a, .a, .a, .k, .p (int k), .a, .a, .a, .a, .a, .a, .a, .a, .a, .a, .a, .a, .a, .a, .a, .a, .a, .a, .a, .a, .a, .a, .a, .a, .a, .a, .a, .a, .a, .a, .a, .a, .a, .a, .a, .a, .a, .a, .a, .a, .a, .a, .a, .a, .a, .a, .a, .a, .a, .a, .a, .a, .a, .a, .a, .a]) (fun _ HI=>HI) 0 HK
   ⟨Nat.zero_le _,hf',Nat.le_refl _,fun _ _ _=>rfl⟩ (by simp(maxSteps:=999999)(disch:=omega)only[go_sem,zA,zM,zS,zE,zL];rfl) (HLe.refl _) ?_
  rintro k HI ⟨hk,hfI,hlI,hfrI⟩
  have hpI:look HI id g=some ⟨g,1,cl (eI .i64) pre⟩:=by unfold look;rw[hfrI id (by omega) hne];exact hp'
  have hbI:look HI H.length gb=some ⟨gb,1,cR r⟩:=by unfold look;rw[hfrI H.length (by omega) (by omega)];exact hb'
  simp(maxSteps:=999999)(disch:=omega)only[go_sem,zA,zM,zS,zE,zL]
  ((first|(with_reducible first|refine condK_dec ?_ ?_|refine condK_ndec ?_ ?_|refine condK_nb ?_ ?_)|refine condK_b ?_ ?_)<;>intro c2)
  · have c2:k<L.length:=by omega
    have hv:=hLv (nth L k) (by rw[nth_eq (by omega)];exact List.getElem_mem _)
    have hms:=mask_fr_same HI
    simp(maxSteps:=999999)(disch:=omega)only[go_sem,zA,zM,zS,zE,zL]
    refine drawP_lM [0,1,2,3,5,6,7,8,9,11,4,10] [2,9] none [12] (List.replicate HI.length false++[true]) [0,0,0,0,12,0,0,96,224,480,1020,0,4095] foll (by kernel_rfl) ?_
    iterate 11 (rw[lwF_cons];simp(maxSteps:=999999)(disch:=omega)only[go_sem,zA,zM,zS,zE,zL,hms,hbI,hpI])
    refine appendM_empO (sliceOf_of' ti22 rfl ti3) ⟨rfl,rfl,rfl⟩ (by omega) hpI ?_
    intro c4 H4 S4 k4 hS4 hl4
    refine⟨okM_fr (by omega) (fun j hj=>List.getElem?_append_left hj), ?_⟩
    rw[lwF_cons]
    simp(maxSteps:=999999)(disch:=omega)only[go_sem,zA,zM,zS,zE,zL]
    refine appendM_Ef (sliceOf_of' ti22 rfl ti3) ⟨rfl,rfl,rfl⟩ k4 (by omega) ?_
    intro id5 g5 H5 l5 hf5 hid5 hl5
    have hl5':H5.length≤HI.length+1∧HI.length≤H5.length:=by
     rw[List.length_append]at hl5
     rcases hl5 with h|⟨h1,h2⟩
     · omega
     · rw[h1]at hl4
       simp only[List.length_nil]at hl4
       omega
    refine⟨okM_fr (by rw[List.length_append];omega) (fun j hj=> ?_), ?_⟩
    · rw[hf5 j (by rw[List.length_append];omega) (fun hm=>by have:=hS4 j hm;omega)]
    have hlI5:∀j,j<HI.length→H5[j]? =HI[j]? :=fun j hj=>by
     rw[hf5 j (by rw[List.length_append];omega) (fun hm=>by have:=hS4 j hm;omega),List.getElem?_append_left hj]
    have hid5':HI.length≤id5:=by
     rcases hid5 with h|h
     · exact(hS4 id5 h).1
     · rw[List.length_append]at h;omega
    have hfid:fid<HI.length:=by omega
    obtain⟨hrl,hok⟩:=fold_ok r (remM r ms (pre.length+1)) pre (L.take k) o hpv (fun v hm=>by have:=hLv v (List.mem_of_mem_take hm);omega) (by simp[remM];omega) ho
    rw[hol]at hrl
    have hpv':∀v∈pre++[nth L k],0≤v∧v≤4:=fun v hv'=>by
     rcases List.mem_append.1 hv' with h|h
     · exact hpv v h
     · simp only[List.mem_singleton]at h
       omega
    have hrec:=l4Ways_run r ms hr d H5 id5 g5 (pre++[nth L k]) fid fg _ (by simp;omega) l5 hpv' (by omega) (by unfold look;rw[hlI5 fid hfid];exact hfI) hrl hok
    rw[hrl,←hol,List.length_append,List.length_singleton]at hrec
    have hfold:(L.take (k+1)).foldl (fun o v=>ways r (remM r ms (pre.length+1)) (pre++[v]) o) o=ways r (remM r ms (pre.length+1)) (pre++[nth L k]) ((L.take k).foldl (fun o v=>ways r (remM r ms (pre.length+1)) (pre++[v]) o) o):=by
     rw[take_succ_nth c2,List.foldl_append];rfl
    simp(maxSteps:=999999)(disch:=omega)only[go_sem,zA,zM,zS,zE,zL]
    refine OpS.run hrec (⟨_,Tryd.func145,rfl,rfl⟩:Enters Tryd.prog 145) rfl rfl ?_
    rintro _ H6 ⟨rfl,l6,len6,f6⟩
    rw[List.length_append,List.length_singleton,←hfold]at l6
    simp(maxSteps:=999999)(disch:=omega)only[go_sem,zA,zM,zS,zE,zL]
    exact⟨k+1,H6,⟨⟨by omega,l6,by omega,fun j hj hn=>by rw[f6 j (by omega) hn,hlI5 j (by omega),hfrI j hj hn]⟩,by omega⟩,by push_cast;omega,HLe.refl _⟩
  · simp(maxSteps:=999999)(disch:=omega)only[go_sem,zA,zM,zS,zE,zL]
    have hke:k=L.length:=by omega
    rw[hke,List.take_length]at hfI
    refine⟨_,HLe.refl _,rfl, ?_,by omega,fun j hj hn=>by rw[hfrI j (by omega) hn,hKg j hj]⟩
    rw[hfI,hrem,ways_cons,hL]
end Go.Lg
