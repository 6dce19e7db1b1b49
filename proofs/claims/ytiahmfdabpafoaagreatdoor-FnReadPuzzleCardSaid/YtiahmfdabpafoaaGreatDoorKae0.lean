/- GpWG, GpJF, cut to what is needed. -/
import Derived.Test.YtiahmfdabpafoaaGreatDoorKad4
import Derived.Test.YtiahmfdabpafoaaGreatDoorKad6
import Derived.Test.YtiahmfdabpafoaaGreatDoorKad9
import Derived.Test.YtiahmfdabpafoaaGreatDoorKad2
open List renaming getElem?_eq_some_iff → Ja, getElem?_append_left → Jb, cons_append → Jc, nil_append → Jd, length_append → Je, length_cons → Jf, replicate → Jg, getElem?_set_ne → Jj, length_nil → Jl, take_of_length_le → Jn, append_nil → Jv, mapM_cons → Jz, drop_zero → JB, mem_append → JF, length_map → JL, mem_cons → JV, length_singleton → JW, map_append → J1, mapM_nil → Qa, nodup_cons → Qn, mem_map → Qs, nodup_append → QR, not_mem_nil → Q9
open Nat renaming reduceAdd→zA,reduceMul→zM,reduceSub→zS,reduceEqDiff→zE,reduceLeDiff→zL
set_option linter.unusedSimpArgs false
set_option linter.unusedVariables false
set_option maxRecDepth 100000
namespace Go.Lg
open Go.Proofs
attribute [-go_sem] Qg JP
theorem GI{P:Program}{H:Ji}{t:TypeId}{ei:TI}{K:KV}{n:Nat}(ht:QJ P t=some ei)(hz:ei.zero.length=ei.size∧ei.size=n∧0<n∧ei.bytes≤64){sid sg:Nat}{lim:Option Nat}{cs':List CV}
 (h3:look H sid sg=some ⟨sg,n,cs'⟩) (h4:cs'.length=n) (hK:∀g',K (.c (.own H.length g' 0 1 none)) (H++[some ⟨g',n,cs'⟩])):Qg P H t (.c (.f .nil)) (.c (.own sid sg 0 1 lim)) K:=by
 obtain⟨hz1,rfl,hz3,hz4⟩:=hz
 have e2:elems H ei.size (.c (.own sid sg 0 1 lim))=some (1,cs'):=by
  simp only[elems,h3,JB,if_true,Nat.one_mul,Jn (Nat.le_of_eq h4)]
 have e1:elems H ei.size (.c (.f .nil))=some (0,[]):=rfl
 unfold Qg
 simp only[ht,hz1,if_true,e1,e2]
 simp only[VI]
 rw[if_neg (by decide)]
 refine⟨⟨by decide,by omega⟩, ?_⟩
 intro g
 exact hK g
structure PzW(HI:Ji)(g0 n8 g8:Nat)(z:Int)(gid gg:Nat)(gs:List Int)(rc:CV)(R:List Nat)(l:List RO):Prop where
 c0:look HI 0 g0=some ⟨g0,3,[.f (.int .i64 0), .f .nil, .f .nil]⟩
 c8:look HI n8 g8=some ⟨g8,3,[.f (.int .i64 z), .own gid gg 0 gs.length none,rc]⟩
 gr:look HI gid gg=some ⟨gg,1,cl (eI .i64) gs⟩
 rs:(l=[]∧rc= .f .nil∧R=[])∨(l≠[]∧∃id g,rc= .own id g 0 l.length none∧R=[id]∧look HI id g=some ⟨g,3,kl kR l⟩)
 it:∀o∈l,Qv HI o.c o.r.cells o.i
 nd:(0::n8::gid::(R++l.flatMap (·.i))).Nodup
theorem PzW.lt{HI:Ji}{g0 n8 g8:Nat}{z:Int}{gid gg:Nat}{gs:List Int}{rc:CV}{R:List Nat}{l:List RO}(h:PzW HI g0 n8 g8 z gid gg gs rc R l):∀k∈0::n8::gid::(R++l.flatMap (·.i)),k<HI.length:=by
 have hl:∀{i g:Nat} {b:ZG},look HI i g=some b→i<HI.length:=fun h=>(Ja.1 (Jw h).1).1
 intro k hk
 simp only[JV,JF]at hk
 rcases hk with rfl|rfl|rfl|hk|hk
 · exact hl h.c0
 · exact hl h.c8
 · exact hl h.gr
 · rcases h.rs with⟨_,_,rfl⟩|⟨_,id,g,_,rfl,h1⟩
   · cases hk
   · have:k=id:=by simpa using hk
     rw[this];exact hl h1
 · obtain⟨o,ho,hm⟩:=List.mem_flatMap.1 hk
   exact(h.it o ho).lt k hm
theorem PzW.same{HI HN:Ji}{g0 n8 g8:Nat}{z:Int}{gid gg:Nat}{gs:List Int}{rc:CV}{R:List Nat}{l:List RO}(h:PzW HI g0 n8 g8 z gid gg gs rc R l)(hs:∀k,k<HI.length→HN[k]? =HI[k]?):PzW HN g0 n8 g8 z gid gg gs rc R l:=by
 have hl:∀{i g:Nat} {b:ZG},look HI i g=some b→look HN i g=some b:=fun h=>by
  have:=(Ja.1 (Jw h).1).1
  unfold look at*
  rw[hs _ this];exact h
 refine⟨hl h.c0,hl h.c8,hl h.gr, ?_,fun o ho=>(h.it o ho).same fun i hi=>hs i ((h.it o ho).lt i hi),h.nd⟩
 rcases h.rs with h1|⟨h1,id,g,h2,h3,h4⟩
 · exact .inl h1
 · exact .inr ⟨h1,id,g,h2,h3,hl h4⟩
theorem Y4:∀(s:List UInt8),(Ql s).length≤s.length+1
 |[]=>by simp[Ql]
 |b::l=>by
  have ih:=Y4 l
  by_cases hb:b=32
  · subst hb
    rw[WU]
    simp;omega
  · rw[ZD hb (BG l)]
    rw[BG l]at ih
    simp at ih⊢;omega
theorem GU{s:List UInt8}{w:List UInt8}(h:w∈Ql s):w.length≤s.length:=by
 have hj:=Wt s
 rw[BG s]at hj h
 have hl:=congrArg List.length hj
 simp only[Wb,Je]at hl
 rcases JV.1 h with rfl|h
 · omega
 · have:∀ws:List (List UInt8),w∈ws→w.length≤(ws.flatMap (32::·)).length:=fun ws hm=>by
    induction ws with
    |nil=>cases hm
    |cons x ws ih=>
     simp only[List.flatMap_cons,Je,Jf]
     rcases JV.1 hm with rfl|hm
     · omega
     · have:=ih hm;omega
   have:=this _ h
   omega
theorem PzW.step{HB HF:Ji}{g0 n8 g8:Nat}{z:Int}{gid gg:Nat}{gs:List Int}{rc:CV}{R:List Nat}{l:List RO}(h:PzW HB g0 n8 g8 z gid gg gs rc R l){N0:Nat}(hN:∀k∈0::n8::gid::(R++l.flatMap (·.i)),k<N0){o:RO}{id g:Nat}
 (hF:∀k,k<HB.length→k≠n8→k∉R→HF[k]? =HB[k]?) (h8:look HF n8 g8=some ⟨g8,3,[.f (.int .i64 z), .own gid gg 0 gs.length none, .own id g 0 (l.length+1) none]⟩) (hid:look HF id g=some ⟨g,3,kl kR (l++[o])⟩)
 (hR:R=[id]∨(R=[]∧HB.length≤id)) (ho:Qv HB o.c o.r.cells o.i) (hoi:∀i∈o.i,N0≤i):PzW HF g0 n8 g8 z gid gg gs (.own id g 0 (l.length+1) none) [id] (l++[o]):=by
 have hlt:=h.lt
 have hnd:=h.nd
 have hol:=ho.lt
 have hk:∀{i g:Nat} {b:ZG},i≠n8→i∉R→look HB i g=some b→look HF i g=some b:=fun h1 h2 h=>by
  have:=(Ja.1 (Jw h).1).1
  unfold look at*
  rw[hF _ this h1 h2];exact h
 have hn0:(0:Nat)∉n8::gid::(R++l.flatMap (·.i)):=(Qn.1 hnd).1
 have hn8:n8∉gid::(R++l.flatMap (·.i)):=(Qn.1 (Qn.1 hnd).2).1
 have hng:=(Qn.1 (Qn.1 (Qn.1 hnd).2).2).1
 have hnr:=(QR.1 (Qn.1 (Qn.1 (Qn.1 hnd).2).2).2).2.2
 have hfl:(l++[o]).flatMap (·.i)=l.flatMap (·.i)++o.i:=by simp
 refine⟨hk (fun e=>hn0 (by simp[e])) (fun e=>hn0 (by simp[e])) h.c0,h8,hk (fun e=>hn8 (by simp[e])) (fun e=>hng (by simp[e])) h.gr, .inr ⟨by simp,id,g,by simp,rfl,hid⟩,fun p hp=> ?_, ?_⟩
 · rcases JF.1 hp with hp|hp
   · refine(h.it p hp).same fun i hi=>hF i ((h.it p hp).lt i hi) (fun e=>hn8 ?_) fun e=> ?_
     · rw[←e]
       exact List.mem_cons_of_mem _ (List.mem_append_right _ (List.mem_flatMap.2 ⟨p,hp,hi⟩))
     · exact hnr i e i (List.mem_flatMap.2 ⟨p,hp,hi⟩) rfl
   · have:p=o:=by simpa using hp
     subst this
     refine ho.same fun i hi=>hF i (hol i hi) (fun e=> ?_) fun e=> ?_
     · have h1:=hoi i hi
       have h2:=hN n8 (by simp)
       omega
     · have h1:=hoi i hi
       have h2:=hN i (by simp[e])
       omega
 · rw[hfl]
   show((0::n8::gid::([id]++l.flatMap (·.i)))++o.i).Nodup
   rw[QR]
   refine⟨?_,ho.nd,fun a ha b hb he=> ?_⟩
   · rcases hR with rfl|⟨rfl,h1⟩
     · exact hnd
     · have:=(List.perm_middle (l₁:=[0,n8,gid]) (a:=id) (l₂:=l.flatMap fun(x:RO)=>x.i)).nodup_iff.2 (Qn.2 ⟨fun hm=>by have:=hlt id hm;omega,hnd⟩)
       exact this
   · subst he
     have h1:=hoi a hb
     have h2:=hol a hb
     have ha':a=id∨a∈0::n8::gid::l.flatMap (·.i):=by
      simp only[JV,JF,Q9,or_false,Jc,Jd]at ha⊢
      rcases ha with h|h|h|h|h
      · exact .inr (.inl h)
      · exact .inr (.inr (.inl h))
      · exact .inr (.inr (.inr (.inl h)))
      · exact .inl h
      · exact .inr (.inr (.inr (.inr h)))
     rcases ha' with ha|ha
     · rcases hR with rfl|⟨_,h3⟩
       · have:=hN a (by simp[ha]);omega
       · omega
     · have:=hN a (by
        simp only[JV,JF]at ha⊢
        rcases ha with h|h|h|h
        · exact .inl h
        · exact .inr (.inl h)
        · exact .inr (.inr (.inl h))
        · exact .inr (.inr (.inr (.inr h))))
       omega
def JaM(p:Zk)(b:Bool):KV:=fun v H=>∃cs S,v= .tup [.agg cs,bool b]∧V1 H cs p S
theorem Xm(H:Ji):Wa H (JaM Y1 false) (.tup [.agg [.f (.int .i64 0), .f (.sl 0 []), .f (.sl 0 [])],bool false]):=
 ⟨H,Qc.refl _,_,[],rfl,⟨_,_,[],[],rfl,rfl, .e, .e⟩,List.nodup_nil⟩
section
variable{P:Program}{o:Oper}{st:St}{K:KV}{fo:Operand}{xs:Array Operand}{ts:Array TypeId}{f:FuncId}{args:List AV}{s:List UInt8}
theorem Qh.mkGr(hc:Jq P f args [] (rdQ s))(he:Jm P f)(ho:o.op= .call ⟨.value fo,xs,ts⟩)(ha:Qp st fo xs=some (f,args))(hf:args.all Zc=true)
 (hn:(Qt s).2.2=false→K (.tup [ZY [],int 0,bool false]) st.h)
 (hy:(Qt s).2.2=true→∀g,K (.tup [.c (.own st.h.length g 0 (Qt s).1.length none),int (Qt s).2.1,bool true]) (st.h++[some ⟨g,1,cl (eI .i64) (Qt s).1⟩])):Qh P o st K:=
 Qh.mkQ hc he ho ha hf fun r H' ⟨h1,h2⟩=>by
  cases hb:(Qt s).2.2 with
  |false=>
   obtain⟨rfl,rfl⟩:=h1 hb
   refine⟨rfl, ?_⟩
   have:=hn hb
   rw[show QN st.h.length ([]:Ji)=[]from rfl,Jv]
   exact this
  |true=>
   obtain⟨g,rfl,rfl⟩:=h2 hb
   refine⟨rfl, ?_⟩
   have:=hy hb g
   rw[JaF]
   rw[←Nat.zero_add st.h.length]at this
   exact this
end
set_option maxHeartbeats 4000000 in
theorem ZH(s:List UInt8)(hs:s.length≤2^30):Jq Tryz.prog 10 [Um s] [] (JaM (ZF s) (Z1 s)):=by
 have hwe:=BG s
 have hwl:∀w∈Ql s,w.length≤s.length:=fun w h=>GU h
 have hna:¬V0 s→ZF s=Y1∧Z1 s=false:=WY
 have hac:V0 s↔(Qt (GV s)).2.2=true∧(FR s).length≤20∧((FR s).all Q6=true)∧JE (XU s)=true:=Iff.rfl
 have hrp:XU s=⟨(Qt (GV s)).2.1,(Qt (GV s)).1,(FR s).map QA⟩:=rfl
 have hry:V0 s→ZF s=XU s∧Z1 s=true:=fun h=>⟨by unfold ZF;rw[if_pos h],decide_eq_true h⟩
 refine Jq.nz ?_
 refine Jq.cw (c:=_) Tryz.func10 rfl (n:=62) Tryz.ntmps10 (rs:=[.cell 2 26, .tmp 3]) rfl ?_
 simp only[Jf,Jl,zA,zS,Jg,Jc,Jd]
 simp(maxSteps:=999999)(disch:=omega)only[go_sem,zA,zM,zS,zE,zL]
 intro g0
 first|refine Qh.mk (FP s (by omega)) (⟨_,Tryz.func24,rfl,rfl⟩:Jm Tryz.prog 24) rfl rfl rfl rfl rfl ?_|refine Qe.mk (FP s (by omega)) (⟨_,Tryz.func24,rfl,rfl⟩:Jm Tryz.prog 24) rfl rfl rfl rfl rfl ?_
 simp(maxSteps:=999999)(disch:=omega)only[go_sem,zA,zM,zS,zE,zL]
 generalize GV s=W at hwe hac hrp
 generalize FR s=ws at hwe hac hrp
 have hLs:=Y4 s
 generalize Ql s=L at hwe hwl hLs⊢
 have hLl:L.length=ws.length+1:=by rw[hwe];rfl
 have hn0:JM L 0=W:=by rw[hwe];rfl
 have hWl:W.length≤s.length:=hwl W (by rw[hwe];simp)
 simp(maxSteps:=999999)(disch:=omega)only[go_sem,zA,zM,zS,zE,zL,hn0]
 refine Qh.mkGr (GN W (by omega)) (⟨_,Tryz.func25,rfl,rfl⟩:Jm Tryz.prog 25) rfl rfl rfl (fun hg=> ?_) (fun hg g2=> ?_)
 · simp(maxSteps:=999999)(disch:=omega)only[go_sem,zA,zM,zS,zE,zL]
   obtain⟨e1,e2⟩:=hna (fun h=>by rw[(hac.1 h).1]at hg;cases hg)
   rw[e1,e2]
   exact Xm _
 simp(maxSteps:=999999)(disch:=omega)only[go_sem,zA,zM,zS,zE,zL]
 ((first|(with_reducible first|refine Jo ?_ ?_|refine Jk ?_ ?_|refine Jp ?_ ?_)|refine Jr ?_ ?_)<;>intro h1)
 · simp(maxSteps:=999999)(disch:=omega)only[go_sem,zA,zM,zS,zE,zL]
   obtain⟨e1,e2⟩:=hna (fun h=>by have:=(hac.1 h).2.1;omega)
   rw[e1,e2]
   exact Xm _
 have h20:ws.length≤20:=by omega
 simp(maxSteps:=999999)(disch:=omega)only[go_sem,zA,zM,zS,zE,zL]
 intro g8
 have hsub:sub L 1 (L.length:Int)=ws:=by
  rw[hwe]
  simp[sub]
 have hwj:∀j:Nat,j<ws.length→(JM ws j).length≤s.length:=fun j hj=>hwl _ (by
  rw[hwe,Qu (by omega)]
  exact List.mem_cons_of_mem _ (List.getElem_mem _))
 rw[hsub]
 obtain⟨z,gs,hz,hgs⟩:∃z gs,(Qt W).2.1=z∧(Qt W).1=gs:=⟨_,_,rfl,rfl⟩
 rw[hz,hgs]at hrp⊢
 refine Qj (fun(j:Nat) (b:Ji×CV×List Nat×List RO)=>ws.length -j) (fun j b=>j≤ws.length∧(ws.take j).all Q6=true∧b.2.2.2.map (·.r)=(ws.take j).map QA∧PzW b.1 g0 2 g8 z 1 g2 gs b.2.1 b.2.2.1 b.2.2.2)
  (fun j _=>[.a, .a, .k, .a, .a, .a, .a, .a, .k, .a, .a, .a, .a, .a, .a, .a, .a, .a, .a, .a, .a, .a, .a, .a, .a, .a, .a, .a, .a, .a, .a, .a, .a, .a, .a, .a, .k, .k, .p (int j), .a, .a, .a, .a, .a, .a, .a, .a, .a, .a, .a, .a, .a, .a, .a, .a, .a, .a, .a, .a, .a, .a, .a]) (fun _ b=>b.1) 0 ([some ⟨g0,3,[.f (.int .i64 0), .f .nil, .f .nil]⟩,some ⟨g2,1,cl (eI .i64) gs⟩,some ⟨g8,3,[.f (.int .i64 z), .own 1 g2 0 gs.length none, .f .nil]⟩], .f .nil,[],[])
  ⟨Nat.zero_le _,rfl,rfl,by simp[look],by simp[look],by simp[look], .inl ⟨rfl,rfl,rfl⟩,by simp,by simp⟩ (by simp(maxSteps:=999999)(disch:=omega)only[go_sem,zA,zM,zS,zE,zL];rfl) (Qc.refl _) ?_
 rintro j ⟨HI,rc,R,l⟩ ⟨hj,hall,hmap,hI⟩
 simp only at hall hmap hI⊢
 have hll:l.length=j:=by
  have:=congrArg List.length hmap
  simpa[Nat.min_eq_left hj]using this
 simp(maxSteps:=999999)(disch:=omega)only[go_sem,zA,zM,zS,zE,zL]
 ((first|(with_reducible first|refine Jo ?_ ?_|refine Jk ?_ ?_|refine Jp ?_ ?_)|refine Jr ?_ ?_)<;>intro c1)
 · have c1:j<ws.length:=by omega
   simp(maxSteps:=999999)(disch:=omega)only[go_sem,zA,zM,zS,zE,zL]
   refine Qh.mkRR (GM (JM ws j) (by have:=hwj j c1;omega)) (⟨_,Tryz.func26,rfl,rfl⟩:Jm Tryz.prog 26) rfl rfl rfl ?_
   intro c HN S hN hNl oN hS
   have hIN:=hI.same hN
   simp(maxSteps:=999999)(disch:=omega)only[go_sem,zA,zM,zS,zE,zL,JY,Up]
   intro g11
   have hlt:=hIN.lt
   have hIB:PzW (HN++[some ⟨g11,3,[.f (.int .i64 (QA (JM ws j)).kind),c, .f (.int .i64 (QA (JM ws j)).val)]⟩]) g0 2 g8 z 1 g2 gs rc R l:=hIN.same fun k hk=>Jb hk
   have hoB:Qv (HN++[some ⟨g11,3,[.f (.int .i64 (QA (JM ws j)).kind),c, .f (.int .i64 (QA (JM ws j)).val)]⟩]) c (QA (JM ws j)).cells S:=oN.same fun k hk=>Jb (hS k hk).2
   obtain⟨HB,hHB⟩:∃HB:Ji,HB=HN++[some ⟨g11,3,[.f (.int .i64 (QA (JM ws j)).kind),c, .f (.int .i64 (QA (JM ws j)).val)]⟩]:=⟨_,rfl⟩
   have hBl:HB.length=HN.length+1:=by rw[hHB];simp
   have l11:look HB HN.length g11=some ⟨g11,3,[.f (.int .i64 (QA (JM ws j)).kind),c, .f (.int .i64 (QA (JM ws j)).val)]⟩:=by rw[hHB];exact JY
   rw[←hHB]at hIB hoB⊢
   clear hHB
   have k0:=hIB.c0
   have k8:=hIB.c8
   have hltB:=hIB.lt
   have hl0:0<HB.length:=hltB 0 (by simp)
   have hs0:∀cs,look (HB.set 0 (some ⟨g0,3,cs⟩)) 0 g0=some ⟨g0,3,cs⟩:=fun cs=>JK hl0
   cases hb:Q6 (JM ws j)with
   |false=>
    simp(maxSteps:=999999)(disch:=omega)only[go_sem,zA,zM,zS,zE,zL,Bool.not_false,Bool.not_true,k0,hs0]
    obtain⟨e1,e2⟩:=hna (fun h=>by
     have:=List.all_eq_true.1 (hac.1 h).2.2.1 (JM ws j) (by rw[Qu (by omega)];exact List.getElem_mem _)
     rw[hb]at this
     cases this)
    rw[e1,e2]
    exact Xm _
   |true=>
    simp(maxSteps:=999999)(disch:=omega)only[go_sem,zA,zM,zS,zE,zL,Bool.not_false,Bool.not_true,k8,l11]
    intro g12
    have hl2:2<HB.length:=hltB 2 (by simp)
    have a8:∀b,look (HB++[b]) 2 g8=some ⟨g8,3,[.f (.int .i64 z), .own 1 g2 0 gs.length none,rc]⟩:=fun b=>JR k8
    have hmap':((l++[(⟨QA (JM ws j),c,S⟩:RO)]).map (·.r))=(ws.take (j+1)).map QA:=by
     rw[J1,hmap,JX c1,J1];rfl
    have hall':(ws.take (j+1)).all Q6=true:=by
     rw[JX c1,List.all_append,hall];simp[hb]
    have hNI:∀k∈0::2::1::(R++l.flatMap (·.i)),k<HI.length:=hI.lt
    rcases hI.rs with⟨rfl,rfl,rfl⟩|⟨hne,id,g,rfl,rfl,hlk⟩
    · refine GI (n:=3) (JZ Rv rfl Rt) ⟨rfl,rfl,by decide,by decide⟩ JY rfl ?_
      intro g13
      have b8:∀a b,look (HB++[a]++[b]) 2 g8=some ⟨g8,3,[.f (.int .i64 z), .own 1 g2 0 gs.length none, .f .nil]⟩:=fun a b=>JR (JR k8)
      simp(maxSteps:=999999)(disch:=omega)only[go_sem,zA,zM,zS,zE,zL,b8]
      refine⟨j+1,(_, .own (HB.length+1) g13 0 1 none,[HB.length+1],[⟨QA (JM ws j),c,S⟩]),⟨⟨by omega,hall',hmap', ?_⟩,by omega⟩,by push_cast;rfl,Qc.refl _⟩
      refine hIB.step (HF:=_) (o:=⟨QA (JM ws j),c,S⟩) hNI (fun k h1 h2 _=> ?_) ?_ ?_ (.inr ⟨rfl,by omega⟩) hoB (fun i hi=>by have:=(hS i hi).1;omega)
      · rw[Jj (Ne.symm h2),Jb (by simp;omega),Jb h1]
      · rw[JK (by simp;omega)]
        rfl
      · rw[J7 (by omega)]
        have:=JY (H:=HB++[some ⟨g12,3,[.f (.int .i64 (QA (JM ws j)).kind),c, .f (.int .i64 (QA (JM ws j)).val)]⟩]) (g:=g13) (sz:=3) (cs:=[.f (.int .i64 (QA (JM ws j)).kind),c, .f (.int .i64 (QA (JM ws j)).val)])
        rw[Je,JW]at this
        exact this
    · have hid:id<HB.length:=(Ja.1 (Jw hlk).1).1|>fun h=>by have:=hltB id (by simp);omega
      have hid2:id≠2:=fun e=>by
       have:=(Qn.1 (Qn.1 hIB.nd).2).1
       exact this (by simp[e])
      have hlkB:look HB id g=some ⟨g,3,kl kR l⟩:=by
       rcases hIB.rs with⟨h1,_⟩|⟨_,id',g',h2,_,h4⟩
       · exact absurd h1 hne
       · cases h2
         exact h4
      refine Jbv (n:=3) (JZ Rv rfl Rt) ⟨rfl,rfl,by decide,by decide⟩ (by omega) (JR hlkB) (by rw[Xq]) JY rfl ?_
      intro g13
      have b8:∀a y,look ((HB++[a]).set id y) 2 g8=some ⟨g8,3,[.f (.int .i64 z), .own 1 g2 0 gs.length none, .own id g 0 l.length none]⟩:=fun a y=>by rw[J7 hid2];exact JR k8
      simp(maxSteps:=999999)(disch:=omega)only[go_sem,zA,zM,zS,zE,zL,b8]
      refine⟨j+1,(_, .own id g13 0 (l.length+1) none,[id],l++[⟨QA (JM ws j),c,S⟩]),⟨⟨by omega,hall',hmap', ?_⟩,by omega⟩,by push_cast;rfl,Qc.refl _⟩
      refine hIB.step (HF:=_) (o:=⟨QA (JM ws j),c,S⟩) hNI (fun k h1 h2 h3=> ?_) ?_ ?_ (.inl rfl) hoB (fun i hi=>by have:=(hS i hi).1;omega)
      · rw[Jj (Ne.symm h2),Jj (fun e=>h3 (by simp[e])),Jb h1]
      · rw[JK (by simp;omega)]
      · rw[J7 (Ne.symm hid2),JK (by simp;omega),JcY]
        rfl
 have hjw:j=ws.length:=by omega
 subst hjw
 rw[List.take_length]at hall hmap
 have k0:=hI.c0
 have k8:=hI.c8
 have hltB:=hI.lt
 have hl0:0<HI.length:=hltB 0 (by simp)
 have hs0:∀cs,look (HI.set 0 (some ⟨g0,3,cs⟩)) 0 g0=some ⟨g0,3,cs⟩:=fun cs=>JK hl0
 have hgid:=hI.gr
 have hgrl:gs.length≤2^40:=by
  rw[←hgs]
  have:=(WZ hg).2.2
  have hl:=congrArg List.length this
  have hv:J9 (QK W) (Ue W 0 -48)=true:=by
   cases hv:J9 (QK W) (Ue W 0 -48)with
   |true=>rfl
   |false=>
    have h2:=(WZ hg).1
    have:Qk (QK W) (Ue W 0 -48)=[]:=by simp[Qk,hv]
    rw[this]at hl
    simp at hl
    omega
  have:=(Qz hv).2.2.2.1
  rw[(WZ hg).2.1]
  show(QK W).length≤_
  omega
 have hsm:BD (XU s):=by
  rw[hrp]
  refine⟨hgrl,by show(ws.map QA).length≤_;rw[JL];omega,fun r hr=> ?_⟩
  obtain⟨w,_,rfl⟩:=Qs.1 hr
  exact Kc w
 have og:Qv HI (.own 1 g2 0 gs.length none) gs [1]:=Qv.o (H:=HI) 1 g2 none gs [] (by rw[Jv];exact hgid)
 have hf1:=og.frzC
 have hvac:V0 s↔JE (XU s)=true:=by
  rw[hac]
  exact⟨fun h=>h.2.2.2,fun h=>⟨hg,h20,hall,h⟩⟩
 have hPw:∃S,V1 HI [.f (.int .i64 z), .own 1 g2 0 gs.length none,nzC rc] (XU s) S∧0∉S:=by
  have hnd:=hI.nd
  have hn0:(0:Nat)∉2::1::(R++l.flatMap (·.i)):=(Qn.1 hnd).1
  have hn1:=(Qn.1 (Qn.1 hnd).2).2
  have hor:ZZ HI (nzC rc) (XU s).rules (R++l.flatMap (·.i)):=by
   rw[hrp]
   show ZZ HI (nzC rc) (ws.map QA) _
   rw[←hmap]
   rcases hI.rs with⟨rfl,rfl,rfl⟩|⟨hne,id,g,rfl,rfl,hlk⟩
   · exact .e
   · exact ZZ.o id g none l [] (by rw[Jv];exact hlk) hI.it (Qn.1 hn1).2 (by simp)
  refine⟨[1]++(R++l.flatMap (·.i)),⟨⟨_,_,[1],_,by rw[hrp],rfl, ?_,hor⟩,hn1⟩,fun h=>hn0 ?_⟩
  · rw[hrp];exact og
  · simp only[JV,JF,Q9,or_false]at h⊢
    rcases h with h|h
    · exact .inr (.inl h)
    · exact .inr (.inr h)
 obtain⟨S,hP,hS0⟩:=hPw
 have hsn:QS HI (.agg [.f (.int .i64 z), .own 1 g2 0 gs.length none,rc])=some (aP (XU s)):=by
  have:=hP.snap
  rcases hI.rs with⟨rfl,rfl,rfl⟩|⟨hne,id,g,rfl,rfl,hlk⟩
  · exact this
  · exact this
 simp(maxSteps:=999999)(disch:=omega)only[go_sem,zA,zM,zS,zE,zL,k8]
 refine Qh.rdD (ZV (XU s) hsm) (⟨_,Tryz.func14,rfl,rfl⟩:Jm Tryz.prog 14) rfl rfl (V3 hsn) rfl ?_
 cases hv:JE (XU s)with
 |false=>
  simp(maxSteps:=999999)(disch:=omega)only[go_sem,zA,zM,zS,zE,zL,Bool.not_false,Bool.not_true,k0,hs0]
  obtain⟨e1,e2⟩:=hna (fun h=>by rw[hvac.1 h]at hv;cases hv)
  rw[e1,e2]
  exact Xm _
 |true=>
  simp(maxSteps:=999999)(disch:=omega)only[go_sem,zA,zM,zS,zE,zL,Bool.not_false,Bool.not_true,k0,k8,hs0]
  obtain⟨e1,e2⟩:=hry (hvac.2 hv)
  rw[e1,e2]
  exact⟨_,Qc.refl _,[.f (.int .i64 z), .own 1 g2 0 gs.length none,nzC rc],S,rfl,hP.frm (UH.set HI 0 _) fun i hi h=>by
   have:i=0:=by simpa using h
   subst this
   exact hS0 hi⟩
end Go.Lg

namespace Go.Lg
open Go.Proofs
attribute [-go_sem] Qg JP
theorem Jd1{H:Ji}{z:Int}{zs:List Int}{rc:CV}{rs:List Q2}(h:Zt eR 3 H rc rs):QS H (.agg [.f (.int .i64 z), .f (QD zs),rc])=some (aP ⟨z,zs,rs⟩):=by
 have e1:∀x:Int,frzC H (.f (.int .i64 x))=some (.f (.int .i64 x)):=fun _=>rfl
 have e2:frzC H (.f (QD zs))=some (.f (QD zs)):=rfl
 simp only[QS,Jz,Qa,e1,e2,h.frzC,Option.bind_eq_bind,Option.pure_def,Option.bind_some,Option.map_some]
end Go.Lg
