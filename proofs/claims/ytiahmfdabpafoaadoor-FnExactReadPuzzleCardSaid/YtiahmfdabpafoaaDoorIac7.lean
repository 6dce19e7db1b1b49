/- GpWG, GpJF, cut to what is needed. -/
import Derived.Test.YtiahmfdabpafoaaDoorIac2
import Derived.Test.YtiahmfdabpafoaaDoorIac4
import Derived.Test.YtiahmfdabpafoaaDoorIac6
import Derived.Test.YtiahmfdabpafoaaDoorIac0
open Nat renaming reduceAdd→zA,reduceMul→zM,reduceSub→zS,reduceEqDiff→zE,reduceLeDiff→zL
set_option linter.unusedSimpArgs false
set_option linter.unusedVariables false
set_option maxRecDepth 100000
namespace Go.Lg
open Go.Proofs
attribute [-go_sem] appendM lwF_cons
theorem appendM_nil1{P:Program}{H:Heap}{t:TypeId}{ei:TI}{K:KV}{n:Nat}(ht:sliceOf P t=some ei)(hz:ei.zero.length=ei.size∧ei.size=n∧0<n∧ei.bytes≤64){sid sg:Nat}{lim:Option Nat}{cs':List CV}
 (h3:look H sid sg=some ⟨sg,n,cs'⟩) (h4:cs'.length=n) (hK:∀g',K (.c (.own H.length g' 0 1 none)) (H++[some ⟨g',n,cs'⟩])):appendM P H t (.c (.f .nil)) (.c (.own sid sg 0 1 lim)) K:=by
 obtain⟨hz1,rfl,hz3,hz4⟩:=hz
 have e2:elems H ei.size (.c (.own sid sg 0 1 lim))=some (1,cs'):=by
  simp only[elems,h3,List.drop_zero,if_true,Nat.one_mul,List.take_of_length_le (Nat.le_of_eq h4)]
 have e1:elems H ei.size (.c (.f .nil))=some (0,[]):=rfl
 unfold appendM
 simp only[ht,hz1,if_true,e1,e2]
 simp only[appM]
 rw[if_neg (by decide)]
 refine⟨⟨by decide,by omega⟩, ?_⟩
 intro g
 exact hK g
structure PzW(HI:Heap)(g0 n8 g8:Nat)(z:Int)(gid gg:Nat)(gs:List Int)(rc:CV)(R:List Nat)(l:List RO):Prop where
 c0:look HI 0 g0=some ⟨g0,3,[.f (.int .i64 0), .f .nil, .f .nil]⟩
 c8:look HI n8 g8=some ⟨g8,3,[.f (.int .i64 z), .own gid gg 0 gs.length none,rc]⟩
 gr:look HI gid gg=some ⟨gg,1,cl (eI .i64) gs⟩
 rs:(l=[]∧rc= .f .nil∧R=[])∨(l≠[]∧∃id g,rc= .own id g 0 l.length none∧R=[id]∧look HI id g=some ⟨g,3,kl kR l⟩)
 it:∀o∈l,OwnI HI o.c o.r.cells o.i
 nd:(0::n8::gid::(R++l.flatMap (·.i))).Nodup
theorem PzW.lt{HI:Heap}{g0 n8 g8:Nat}{z:Int}{gid gg:Nat}{gs:List Int}{rc:CV}{R:List Nat}{l:List RO}(h:PzW HI g0 n8 g8 z gid gg gs rc R l):∀k∈0::n8::gid::(R++l.flatMap (·.i)),k<HI.length:=by
 have hl:∀{i g:Nat} {b:Blk},look HI i g=some b→i<HI.length:=fun h=>(List.getElem?_eq_some_iff.1 (look_some h).1).1
 intro k hk
 simp only[List.mem_cons,List.mem_append]at hk
 rcases hk with rfl|rfl|rfl|hk|hk
 · exact hl h.c0
 · exact hl h.c8
 · exact hl h.gr
 · rcases h.rs with⟨_,_,rfl⟩|⟨_,id,g,_,rfl,h1⟩
   · cases hk
   · have:k=id:=by simpa using hk
     rw[this];exact hl h1
 · obtain⟨o,ho,hm⟩:=List.mem_flatMap.1 hk
   exact(h.it o ho).lt k hm
theorem PzW.same{HI HN:Heap}{g0 n8 g8:Nat}{z:Int}{gid gg:Nat}{gs:List Int}{rc:CV}{R:List Nat}{l:List RO}(h:PzW HI g0 n8 g8 z gid gg gs rc R l)(hs:∀k,k<HI.length→HN[k]? =HI[k]?):PzW HN g0 n8 g8 z gid gg gs rc R l:=by
 have hl:∀{i g:Nat} {b:Blk},look HI i g=some b→look HN i g=some b:=fun h=>by
  have:=(List.getElem?_eq_some_iff.1 (look_some h).1).1
  unfold look at*
  rw[hs _ this];exact h
 refine⟨hl h.c0,hl h.c8,hl h.gr, ?_,fun o ho=>(h.it o ho).same fun i hi=>hs i ((h.it o ho).lt i hi),h.nd⟩
 rcases h.rs with h1|⟨h1,id,g,h2,h3,h4⟩
 · exact .inl h1
 · exact .inr ⟨h1,id,g,h2,h3,hl h4⟩
theorem split_len:∀(s:List UInt8),(splitL s).length≤s.length+1
 |[]=>by simp[splitL]
 |b::l=>by
  have ih:=split_len l
  by_cases hb:b=32
  · subst hb
    rw[split_sp]
    simp;omega
  · rw[split_cons hb (w_eq l)]
    rw[w_eq l]at ih
    simp at ih⊢;omega
theorem word_len{s:List UInt8}{w:List UInt8}(h:w∈splitL s):w.length≤s.length:=by
 have hj:=join_split s
 rw[w_eq s]at hj h
 have hl:=congrArg List.length hj
 simp only[joinL,List.length_append]at hl
 rcases List.mem_cons.1 h with rfl|h
 · omega
 · have:∀ws:List (List UInt8),w∈ws→w.length≤(ws.flatMap (32::·)).length:=fun ws hm=>by
    induction ws with
    |nil=>cases hm
    |cons x ws ih=>
     simp only[List.flatMap_cons,List.length_append,List.length_cons]
     rcases List.mem_cons.1 hm with rfl|hm
     · omega
     · have:=ih hm;omega
   have:=this _ h
   omega
theorem PzW.step{HB HF:Heap}{g0 n8 g8:Nat}{z:Int}{gid gg:Nat}{gs:List Int}{rc:CV}{R:List Nat}{l:List RO}(h:PzW HB g0 n8 g8 z gid gg gs rc R l){N0:Nat}(hN:∀k∈0::n8::gid::(R++l.flatMap (·.i)),k<N0){o:RO}{id g:Nat}
 (hF:∀k,k<HB.length→k≠n8→k∉R→HF[k]? =HB[k]?) (h8:look HF n8 g8=some ⟨g8,3,[.f (.int .i64 z), .own gid gg 0 gs.length none, .own id g 0 (l.length+1) none]⟩) (hid:look HF id g=some ⟨g,3,kl kR (l++[o])⟩)
 (hR:R=[id]∨(R=[]∧HB.length≤id)) (ho:OwnI HB o.c o.r.cells o.i) (hoi:∀i∈o.i,N0≤i):PzW HF g0 n8 g8 z gid gg gs (.own id g 0 (l.length+1) none) [id] (l++[o]):=by
 have hlt:=h.lt
 have hnd:=h.nd
 have hol:=ho.lt
 have hk:∀{i g:Nat} {b:Blk},i≠n8→i∉R→look HB i g=some b→look HF i g=some b:=fun h1 h2 h=>by
  have:=(List.getElem?_eq_some_iff.1 (look_some h).1).1
  unfold look at*
  rw[hF _ this h1 h2];exact h
 have hn0:(0:Nat)∉n8::gid::(R++l.flatMap (·.i)):=(List.nodup_cons.1 hnd).1
 have hn8:n8∉gid::(R++l.flatMap (·.i)):=(List.nodup_cons.1 (List.nodup_cons.1 hnd).2).1
 have hng:=(List.nodup_cons.1 (List.nodup_cons.1 (List.nodup_cons.1 hnd).2).2).1
 have hnr:=(List.nodup_append.1 (List.nodup_cons.1 (List.nodup_cons.1 (List.nodup_cons.1 hnd).2).2).2).2.2
 have hfl:(l++[o]).flatMap (·.i)=l.flatMap (·.i)++o.i:=by simp
 refine⟨hk (fun e=>hn0 (by simp[e])) (fun e=>hn0 (by simp[e])) h.c0,h8,hk (fun e=>hn8 (by simp[e])) (fun e=>hng (by simp[e])) h.gr, .inr ⟨by simp,id,g,by simp,rfl,hid⟩,fun p hp=> ?_, ?_⟩
 · rcases List.mem_append.1 hp with hp|hp
   · refine(h.it p hp).same fun i hi=>hF i ((h.it p hp).lt i hi) (fun e=>hn8 ?_) fun e=> ?_
     · rw[←e]
       exact List.mem_cons_of_mem _ (List.mem_append_right _ (List.mem_flatMap.2 ⟨p,hp,hi⟩))
     · exact hnr i e i (List.mem_flatMap.2 ⟨p,hp,hi⟩) rfl
   · have:p=o:=by simpa using hp
     subst this
     refine ho.same fun i hi=>hF i (hol i hi) (fun e=> ?_) fun e=> ?_
     · have h1:=hoi i hi
       have h2:=hN n8 (by simp)
       omega
     · have h1:=hoi i hi
       have h2:=hN i (by simp[e])
       omega
 · rw[hfl]
   show((0::n8::gid::([id]++l.flatMap (·.i)))++o.i).Nodup
   rw[List.nodup_append]
   refine⟨?_,ho.nd,fun a ha b hb he=> ?_⟩
   · rcases hR with rfl|⟨rfl,h1⟩
     · exact hnd
     · have:=(List.perm_middle (l₁:=[0,n8,gid]) (a:=id) (l₂:=l.flatMap fun(x:RO)=>x.i)).nodup_iff.2 (List.nodup_cons.2 ⟨fun hm=>by have:=hlt id hm;omega,hnd⟩)
       exact this
   · subst he
     have h1:=hoi a hb
     have h2:=hol a hb
     have ha':a=id∨a∈0::n8::gid::l.flatMap (·.i):=by
      simp only[List.mem_cons,List.mem_append,List.not_mem_nil,or_false,List.cons_append,List.nil_append]at ha⊢
      rcases ha with h|h|h|h|h
      · exact .inr (.inl h)
      · exact .inr (.inr (.inl h))
      · exact .inr (.inr (.inr (.inl h)))
      · exact .inl h
      · exact .inr (.inr (.inr (.inr h)))
     rcases ha' with ha|ha
     · rcases hR with rfl|⟨_,h3⟩
       · have:=hN a (by simp[ha]);omega
       · omega
     · have:=hN a (by
        simp only[List.mem_cons,List.mem_append]at ha⊢
        rcases ha with h|h|h|h
        · exact .inl h
        · exact .inr (.inl h)
        · exact .inr (.inr (.inl h))
        · exact .inr (.inr (.inr (.inr h))))
       omega
def readPQ(p:Puz)(b:Bool):KV:=fun v H=>∃cs S,v= .tup [.agg cs,bool b]∧OwnP H cs p S
theorem readPQ_no(H:Heap):lessQ H (readPQ zeroP0 false) (.tup [.agg [.f (.int .i64 0), .f (.sl 0 []), .f (.sl 0 [])],bool false]):=
 ⟨H,HLe.refl _,_,[],rfl,⟨_,_,[],[],rfl,rfl, .e, .e⟩,List.nodup_nil⟩
section
variable{P:Program}{o:Oper}{st:St}{K:KV}{fo:Operand}{xs:Array Operand}{ts:Array TypeId}{f:FuncId}{args:List AV}{s:List UInt8}
theorem OpS.mkGr(hc:RunCall P f args [] (rdQ s))(he:Enters P f)(ho:o.op= .call ⟨.value fo,xs,ts⟩)(ha:callArgs st fo xs=some (f,args))(hf:args.all frozenA=true)
 (hn:(rdGrid s).2.2=false→K (.tup [ints [],int 0,bool false]) st.h)
 (hy:(rdGrid s).2.2=true→∀g,K (.tup [.c (.own st.h.length g 0 (rdGrid s).1.length none),int (rdGrid s).2.1,bool true]) (st.h++[some ⟨g,1,cl (eI .i64) (rdGrid s).1⟩])):OpS P o st K:=
 OpS.mkQ hc he ho ha hf fun r H' ⟨h1,h2⟩=>by
  cases hb:(rdGrid s).2.2 with
  |false=>
   obtain⟨rfl,rfl⟩:=h1 hb
   refine⟨rfl, ?_⟩
   have:=hn hb
   rw[show shiftH st.h.length ([]:Heap)=[]from rfl,List.append_nil]
   exact this
  |true=>
   obtain⟨g,rfl,rfl⟩:=h2 hb
   refine⟨rfl, ?_⟩
   have:=hy hb g
   rw[shiftH_one]
   rw[←Nat.zero_add st.h.length]at this
   exact this
end
set_option maxHeartbeats 4000000 in
theorem ReadPuzzle_run(s:List UInt8)(hs:s.length≤2^30):RunCall Tryd.prog 14 [txt s] [] (readPQ (readP s) (readPB s)):=by
 have hwe:=w_eq s
 have hwl:∀w∈splitL s,w.length≤s.length:=fun w h=>word_len h
 have hna:¬accP s→readP s=zeroP0∧readPB s=false:=readP_no
 have hac:accP s↔(rdGrid (wHd s)).2.2=true∧(wTl s).length≤20∧((wTl s).all readRB=true)∧puzzleValid (rdP s)=true:=Iff.rfl
 have hrp:rdP s=⟨(rdGrid (wHd s)).2.1,(rdGrid (wHd s)).1,(wTl s).map readR⟩:=rfl
 have hry:accP s→readP s=rdP s∧readPB s=true:=fun h=>⟨by unfold readP;rw[if_pos h],decide_eq_true h⟩
 refine RunCall.nz ?_
 refine RunCall.cw (c:=_) Tryd.func14 rfl (n:=62) Tryd.ntmps14 (rs:=[.cell 2 32, .tmp 3]) rfl ?_
 simp only[List.length_cons,List.length_nil,zA,zS,List.replicate,List.cons_append,List.nil_append]
 simp(maxSteps:=999999)(disch:=omega)only[go_sem,zA,zM,zS,zE,zL]
 intro g0
 first|refine OpS.mk (Split_run s (by omega)) (⟨_,Tryd.func38,rfl,rfl⟩:Enters Tryd.prog 38) rfl rfl rfl rfl rfl ?_|refine Loud.mk (Split_run s (by omega)) (⟨_,Tryd.func38,rfl,rfl⟩:Enters Tryd.prog 38) rfl rfl rfl rfl rfl ?_
 simp(maxSteps:=999999)(disch:=omega)only[go_sem,zA,zM,zS,zE,zL]
 generalize wHd s=W at hwe hac hrp
 generalize wTl s=ws at hwe hac hrp
 have hLs:=split_len s
 generalize splitL s=L at hwe hwl hLs⊢
 have hLl:L.length=ws.length+1:=by rw[hwe];rfl
 have hn0:nth L 0=W:=by rw[hwe];rfl
 have hWl:W.length≤s.length:=hwl W (by rw[hwe];simp)
 simp(maxSteps:=999999)(disch:=omega)only[go_sem,zA,zM,zS,zE,zL,hn0]
 refine OpS.mkGr (ReadGrid_run W (by omega)) (⟨_,Tryd.func39,rfl,rfl⟩:Enters Tryd.prog 39) rfl rfl rfl (fun hg=> ?_) (fun hg g2=> ?_)
 · simp(maxSteps:=999999)(disch:=omega)only[go_sem,zA,zM,zS,zE,zL]
   obtain⟨e1,e2⟩:=hna (fun h=>by rw[(hac.1 h).1]at hg;cases hg)
   rw[e1,e2]
   exact readPQ_no _
 simp(maxSteps:=999999)(disch:=omega)only[go_sem,zA,zM,zS,zE,zL]
 ((first|(with_reducible first|refine condK_dec ?_ ?_|refine condK_ndec ?_ ?_|refine condK_nb ?_ ?_)|refine condK_b ?_ ?_)<;>intro h1)
 · simp(maxSteps:=999999)(disch:=omega)only[go_sem,zA,zM,zS,zE,zL]
   obtain⟨e1,e2⟩:=hna (fun h=>by have:=(hac.1 h).2.1;omega)
   rw[e1,e2]
   exact readPQ_no _
 have h20:ws.length≤20:=by omega
 simp(maxSteps:=999999)(disch:=omega)only[go_sem,zA,zM,zS,zE,zL]
 intro g8
 have hsub:sub L 1 (L.length:Int)=ws:=by
  rw[hwe]
  simp[sub]
 have hwj:∀j:Nat,j<ws.length→(nth ws j).length≤s.length:=fun j hj=>hwl _ (by
  rw[hwe,nth_eq (by omega)]
  exact List.mem_cons_of_mem _ (List.getElem_mem _))
 rw[hsub]
 obtain⟨z,gs,hz,hgs⟩:∃z gs,(rdGrid W).2.1=z∧(rdGrid W).1=gs:=⟨_,_,rfl,rfl⟩
 rw[hz,hgs]at hrp⊢
 refine loop_rule2 (fun(j:Nat) (b:Heap×CV×List Nat×List RO)=>ws.length -j) (fun j b=>j≤ws.length∧(ws.take j).all readRB=true∧b.2.2.2.map (·.r)=(ws.take j).map readR∧PzW b.1 g0 2 g8 z 1 g2 gs b.2.1 b.2.2.1 b.2.2.2)
  (fun j _=>[.a, .a, .k, .a, .a, .a, .a, .a, .k, .a, .a, .a, .a, .a, .a, .a, .a, .a, .a, .a, .a, .a, .a, .a, .a, .a, .a, .a, .a, .a, .a, .a, .a, .a, .a, .a, .k, .k, .p (int j), .a, .a, .a, .a, .a, .a, .a, .a, .a, .a, .a, .a, .a, .a, .a, .a, .a, .a, .a, .a, .a, .a, .a]) (fun _ b=>b.1) 0 ([some ⟨g0,3,[.f (.int .i64 0), .f .nil, .f .nil]⟩,some ⟨g2,1,cl (eI .i64) gs⟩,some ⟨g8,3,[.f (.int .i64 z), .own 1 g2 0 gs.length none, .f .nil]⟩], .f .nil,[],[])
  ⟨Nat.zero_le _,rfl,rfl,by simp[look],by simp[look],by simp[look], .inl ⟨rfl,rfl,rfl⟩,by simp,by simp⟩ (by simp(maxSteps:=999999)(disch:=omega)only[go_sem,zA,zM,zS,zE,zL];rfl) (HLe.refl _) ?_
 rintro j ⟨HI,rc,R,l⟩ ⟨hj,hall,hmap,hI⟩
 simp only at hall hmap hI⊢
 have hll:l.length=j:=by
  have:=congrArg List.length hmap
  simpa[Nat.min_eq_left hj]using this
 simp(maxSteps:=999999)(disch:=omega)only[go_sem,zA,zM,zS,zE,zL]
 ((first|(with_reducible first|refine condK_dec ?_ ?_|refine condK_ndec ?_ ?_|refine condK_nb ?_ ?_)|refine condK_b ?_ ?_)<;>intro c1)
 · have c1:j<ws.length:=by omega
   simp(maxSteps:=999999)(disch:=omega)only[go_sem,zA,zM,zS,zE,zL]
   refine OpS.mkRR (ReadRule_run (nth ws j) (by have:=hwj j c1;omega)) (⟨_,Tryd.func9,rfl,rfl⟩:Enters Tryd.prog 9) rfl rfl rfl ?_
   intro c HN S hN hNl oN hS
   have hIN:=hI.same hN
   simp(maxSteps:=999999)(disch:=omega)only[go_sem,zA,zM,zS,zE,zL,look_last,set_last]
   intro g11
   have hlt:=hIN.lt
   have hIB:PzW (HN++[some ⟨g11,3,[.f (.int .i64 (readR (nth ws j)).kind),c, .f (.int .i64 (readR (nth ws j)).val)]⟩]) g0 2 g8 z 1 g2 gs rc R l:=hIN.same fun k hk=>List.getElem?_append_left hk
   have hoB:OwnI (HN++[some ⟨g11,3,[.f (.int .i64 (readR (nth ws j)).kind),c, .f (.int .i64 (readR (nth ws j)).val)]⟩]) c (readR (nth ws j)).cells S:=oN.same fun k hk=>List.getElem?_append_left (hS k hk).2
   obtain⟨HB,hHB⟩:∃HB:Heap,HB=HN++[some ⟨g11,3,[.f (.int .i64 (readR (nth ws j)).kind),c, .f (.int .i64 (readR (nth ws j)).val)]⟩]:=⟨_,rfl⟩
   have hBl:HB.length=HN.length+1:=by rw[hHB];simp
   have l11:look HB HN.length g11=some ⟨g11,3,[.f (.int .i64 (readR (nth ws j)).kind),c, .f (.int .i64 (readR (nth ws j)).val)]⟩:=by rw[hHB];exact look_last
   rw[←hHB]at hIB hoB⊢
   clear hHB
   have k0:=hIB.c0
   have k8:=hIB.c8
   have hltB:=hIB.lt
   have hl0:0<HB.length:=hltB 0 (by simp)
   have hs0:∀cs,look (HB.set 0 (some ⟨g0,3,cs⟩)) 0 g0=some ⟨g0,3,cs⟩:=fun cs=>look_set_eq' hl0
   cases hb:readRB (nth ws j)with
   |false=>
    simp(maxSteps:=999999)(disch:=omega)only[go_sem,zA,zM,zS,zE,zL,Bool.not_false,Bool.not_true,k0,hs0]
    obtain⟨e1,e2⟩:=hna (fun h=>by
     have:=List.all_eq_true.1 (hac.1 h).2.2.1 (nth ws j) (by rw[nth_eq (by omega)];exact List.getElem_mem _)
     rw[hb]at this
     cases this)
    rw[e1,e2]
    exact readPQ_no _
   |true=>
    simp(maxSteps:=999999)(disch:=omega)only[go_sem,zA,zM,zS,zE,zL,Bool.not_false,Bool.not_true,k8,l11]
    intro g12
    have hl2:2<HB.length:=hltB 2 (by simp)
    have a8:∀b,look (HB++[b]) 2 g8=some ⟨g8,3,[.f (.int .i64 z), .own 1 g2 0 gs.length none,rc]⟩:=fun b=>look_appL k8
    have hmap':((l++[(⟨readR (nth ws j),c,S⟩:RO)]).map (·.r))=(ws.take (j+1)).map readR:=by
     rw[List.map_append,hmap,take_succ_nth c1,List.map_append];rfl
    have hall':(ws.take (j+1)).all readRB=true:=by
     rw[take_succ_nth c1,List.all_append,hall];simp[hb]
    have hNI:∀k∈0::2::1::(R++l.flatMap (·.i)),k<HI.length:=hI.lt
    rcases hI.rs with⟨rfl,rfl,rfl⟩|⟨hne,id,g,rfl,rfl,hlk⟩
    · refine appendM_nil1 (n:=3) (sliceOf_of' ti30 rfl ti24) ⟨rfl,rfl,by decide,by decide⟩ look_last rfl ?_
      intro g13
      have b8:∀a b,look (HB++[a]++[b]) 2 g8=some ⟨g8,3,[.f (.int .i64 z), .own 1 g2 0 gs.length none, .f .nil]⟩:=fun a b=>look_appL (look_appL k8)
      simp(maxSteps:=999999)(disch:=omega)only[go_sem,zA,zM,zS,zE,zL,b8]
      refine⟨j+1,(_, .own (HB.length+1) g13 0 1 none,[HB.length+1],[⟨readR (nth ws j),c,S⟩]),⟨⟨by omega,hall',hmap', ?_⟩,by omega⟩,by push_cast;rfl,HLe.refl _⟩
      refine hIB.step (HF:=_) (o:=⟨readR (nth ws j),c,S⟩) hNI (fun k h1 h2 _=> ?_) ?_ ?_ (.inr ⟨rfl,by omega⟩) hoB (fun i hi=>by have:=(hS i hi).1;omega)
      · rw[List.getElem?_set_ne (Ne.symm h2),List.getElem?_append_left (by simp;omega),List.getElem?_append_left h1]
      · rw[look_set_eq' (by simp;omega)]
        rfl
      · rw[look_set_ne' (by omega)]
        have:=look_last (H:=HB++[some ⟨g12,3,[.f (.int .i64 (readR (nth ws j)).kind),c, .f (.int .i64 (readR (nth ws j)).val)]⟩]) (g:=g13) (sz:=3) (cs:=[.f (.int .i64 (readR (nth ws j)).kind),c, .f (.int .i64 (readR (nth ws j)).val)])
        rw[List.length_append,List.length_singleton]at this
        exact this
    · have hid:id<HB.length:=(List.getElem?_eq_some_iff.1 (look_some hlk).1).1|>fun h=>by have:=hltB id (by simp);omega
      have hid2:id≠2:=fun e=>by
       have:=(List.nodup_cons.1 (List.nodup_cons.1 hIB.nd).2).1
       exact this (by simp[e])
      have hlkB:look HB id g=some ⟨g,3,kl kR l⟩:=by
       rcases hIB.rs with⟨h1,_⟩|⟨_,id',g',h2,_,h4⟩
       · exact absurd h1 hne
       · cases h2
         exact h4
      refine appendM_kl (n:=3) (sliceOf_of' ti30 rfl ti24) ⟨rfl,rfl,by decide,by decide⟩ (by omega) (look_appL hlkB) (by rw[kl_length]) look_last rfl ?_
      intro g13
      have b8:∀a y,look ((HB++[a]).set id y) 2 g8=some ⟨g8,3,[.f (.int .i64 z), .own 1 g2 0 gs.length none, .own id g 0 l.length none]⟩:=fun a y=>by rw[look_set_ne' hid2];exact look_appL k8
      simp(maxSteps:=999999)(disch:=omega)only[go_sem,zA,zM,zS,zE,zL,b8]
      refine⟨j+1,(_, .own id g13 0 (l.length+1) none,[id],l++[⟨readR (nth ws j),c,S⟩]),⟨⟨by omega,hall',hmap', ?_⟩,by omega⟩,by push_cast;rfl,HLe.refl _⟩
      refine hIB.step (HF:=_) (o:=⟨readR (nth ws j),c,S⟩) hNI (fun k h1 h2 h3=> ?_) ?_ ?_ (.inl rfl) hoB (fun i hi=>by have:=(hS i hi).1;omega)
      · rw[List.getElem?_set_ne (Ne.symm h2),List.getElem?_set_ne (fun e=>h3 (by simp[e])),List.getElem?_append_left h1]
      · rw[look_set_eq' (by simp;omega)]
      · rw[look_set_ne' (Ne.symm hid2),look_set_eq' (by simp;omega),kl_append]
        rfl
 have hjw:j=ws.length:=by omega
 subst hjw
 rw[List.take_length]at hall hmap
 have k0:=hI.c0
 have k8:=hI.c8
 have hltB:=hI.lt
 have hl0:0<HI.length:=hltB 0 (by simp)
 have hs0:∀cs,look (HI.set 0 (some ⟨g0,3,cs⟩)) 0 g0=some ⟨g0,3,cs⟩:=fun cs=>look_set_eq' hl0
 have hgid:=hI.gr
 have hgrl:gs.length≤2^40:=by
  rw[←hgs]
  have:=(rd_yes hg).2.2
  have hl:=congrArg List.length this
  have hv:gridValid (cellsIn W) (chr W 0 -48)=true:=by
   cases hv:gridValid (cellsIn W) (chr W 0 -48)with
   |true=>rfl
   |false=>
    have h2:=(rd_yes hg).1
    have:gridText (cellsIn W) (chr W 0 -48)=[]:=by simp[gridText,hv]
    rw[this]at hl
    simp at hl
    omega
  have:=(gridValid_bound hv).2.2.2.1
  rw[(rd_yes hg).2.1]
  show(cellsIn W).length≤_
  omega
 have hsm:smP (rdP s):=by
  rw[hrp]
  refine⟨hgrl,by show(ws.map readR).length≤_;rw[List.length_map];omega,fun r hr=> ?_⟩
  obtain⟨w,_,rfl⟩:=List.mem_map.1 hr
  exact readR_len w
 have og:OwnI HI (.own 1 g2 0 gs.length none) gs [1]:=OwnI.o (H:=HI) 1 g2 none gs [] (by rw[List.append_nil];exact hgid)
 have hf1:=og.frzC
 have hvac:accP s↔puzzleValid (rdP s)=true:=by
  rw[hac]
  exact⟨fun h=>h.2.2.2,fun h=>⟨hg,h20,hall,h⟩⟩
 have hPw:∃S,OwnP HI [.f (.int .i64 z), .own 1 g2 0 gs.length none,nzC rc] (rdP s) S∧0∉S:=by
  have hnd:=hI.nd
  have hn0:(0:Nat)∉2::1::(R++l.flatMap (·.i)):=(List.nodup_cons.1 hnd).1
  have hn1:=(List.nodup_cons.1 (List.nodup_cons.1 hnd).2).2
  have hor:OwnR HI (nzC rc) (rdP s).rules (R++l.flatMap (·.i)):=by
   rw[hrp]
   show OwnR HI (nzC rc) (ws.map readR) _
   rw[←hmap]
   rcases hI.rs with⟨rfl,rfl,rfl⟩|⟨hne,id,g,rfl,rfl,hlk⟩
   · exact .e
   · exact OwnR.o id g none l [] (by rw[List.append_nil];exact hlk) hI.it (List.nodup_cons.1 hn1).2 (by simp)
  refine⟨[1]++(R++l.flatMap (·.i)),⟨⟨_,_,[1],_,by rw[hrp],rfl, ?_,hor⟩,hn1⟩,fun h=>hn0 ?_⟩
  · rw[hrp];exact og
  · simp only[List.mem_cons,List.mem_append,List.not_mem_nil,or_false]at h⊢
    rcases h with h|h
    · exact .inr (.inl h)
    · exact .inr (.inr h)
 obtain⟨S,hP,hS0⟩:=hPw
 have hsn:snapD HI (.agg [.f (.int .i64 z), .own 1 g2 0 gs.length none,rc])=some (aP (rdP s)):=by
  have:=hP.snap
  rcases hI.rs with⟨rfl,rfl,rfl⟩|⟨hne,id,g,rfl,rfl,hlk⟩
  · exact this
  · exact this
 simp(maxSteps:=999999)(disch:=omega)only[go_sem,zA,zM,zS,zE,zL,k8]
 refine OpS.rdD (PuzzleValid_run (rdP s) hsm) (⟨_,Tryd.func40,rfl,rfl⟩:Enters Tryd.prog 40) rfl rfl (snap_one hsn) rfl ?_
 cases hv:puzzleValid (rdP s)with
 |false=>
  simp(maxSteps:=999999)(disch:=omega)only[go_sem,zA,zM,zS,zE,zL,Bool.not_false,Bool.not_true,k0,hs0]
  obtain⟨e1,e2⟩:=hna (fun h=>by rw[hvac.1 h]at hv;cases hv)
  rw[e1,e2]
  exact readPQ_no _
 |true=>
  simp(maxSteps:=999999)(disch:=omega)only[go_sem,zA,zM,zS,zE,zL,Bool.not_false,Bool.not_true,k0,k8,hs0]
  obtain⟨e1,e2⟩:=hry (hvac.2 hv)
  rw[e1,e2]
  exact⟨_,HLe.refl _,[.f (.int .i64 z), .own 1 g2 0 gs.length none,nzC rc],S,rfl,hP.frm (Frm.set HI 0 _) fun i hi h=>by
   have:i=0:=by simpa using h
   subst this
   exact hS0 hi⟩
end Go.Lg

namespace Go.Lg
open Go.Proofs
attribute [-go_sem] appendM lwF_cons
theorem snapPo{H:Heap}{z:Int}{zs:List Int}{rc:CV}{rs:List Rul}(h:OwnL eR 3 H rc rs):snapD H (.agg [.f (.int .i64 z), .f (fints zs),rc])=some (aP ⟨z,zs,rs⟩):=by
 have e1:∀x:Int,frzC H (.f (.int .i64 x))=some (.f (.int .i64 x)):=fun _=>rfl
 have e2:frzC H (.f (fints zs))=some (.f (fints zs)):=rfl
 simp only[snapD,List.mapM_cons,List.mapM_nil,e1,e2,h.frzC,Option.bind_eq_bind,Option.pure_def,Option.bind_some,Option.map_some]
end Go.Lg
