/- GpQ, GpR, GpS, GpT, GpOE, cut to what is needed. -/
import Derived.Test.YtpdaalgdkdpihaaXab8
open Nat renaming reduceAdd→zA,reduceMul→zM,reduceSub→zS,reduceEqDiff→zE,reduceLeDiff→zL
set_option linter.unusedSimpArgs false
set_option linter.unusedVariables false
set_option maxRecDepth 100000
namespace Go.Lg
open Go.Proofs
section
variable{P:Program}{ops:Array Oper}{o:Oper}{s:List AV}{H:Heap}{K:KV}{fo:Operand}{xs:Array Operand}{ts:Array TypeId}{f:FuncId}{args args':List AV}{zs:List Int}
theorem Loud.mkI(hc:RunCall P f args [] (ownIQ zs))(he:Enters P f)(ho:o.op= .call ⟨.value fo,xs,ts⟩)(ha:callArgs ⟨s,H⟩ fo xs=some (f,args))(hf:args.all frozenA=true)
 (hk:∀c H' S,OwnI (H++H') c zs S→(∀i∈S,H.length≤i∧i<H.length+H'.length)→K (.c c) (H++H')):Loud P ops o s H K:=
 Loud.call ho ha fun s' ha'=>OpS.mkI hc he ho ha' hf hk
end
theorem RunCall.wk{P:Program}{f:FuncId}{args:List AV}{H:Heap}{Q Q':KV}(h:RunCall P f args H Q)(hw:∀v H',Q v H'→∃v',(∀w X u,VA w X H' v u→VA w X H' v' u)∧Q' v' H'):RunCall P f args H Q':=
 fun w X vs hH hvs=>(h w X vs hH hvs).mono fun e w' ⟨v,u,X',H',h1,h2,h3,h4,h5⟩=>
  let⟨v',k1,k2⟩:=hw v H' h5
  ⟨v',u,X',H',h1,k1 _ _ _ h2,h3,h4,k2⟩
theorem look_mid{H H3:Heap}{g sz:Nat}{cs:List CV}:look (H++[some ⟨g,sz,cs⟩]++H3) H.length g=some ⟨g,sz,cs⟩:=look_of (b:=⟨g,sz,cs⟩) (by simp)
theorem set_mid{H H3:Heap}{x y:Option Blk}:(H++[x]++H3).set H.length y=H++[y]++H3:=by
 rw[List.append_assoc,List.append_assoc,List.set_append_right _ _ (Nat.le_refl _),Nat.sub_self];rfl
theorem look_set_ne{H:Heap}{id j g:Nat}{x:Option Blk}(h:id≠j):look (H.set id x) j g=look H j g:=by
 unfold look;rw[List.getElem?_set_ne h]
structure CpI(B:Heap)(j g:Nat)(size:Int)(given:List Int)(c r:CV)(l:List RO)(S I:List Nat):Prop where
 out:look B j g=some ⟨g,3,[.f (.int .i64 size),c,r]⟩
 rl:(l=[]∧r= .f .nil∧I=S)∨∃id g',r= .own id g' 0 l.length none∧look B id g'=some ⟨g',3,kl kR l⟩∧I=S++id::l.flatMap (·.i)
 cells:∀o∈l,OwnI B o.c o.r.cells o.i
 giv:OwnI B c given S
 nd:I.Nodup
 lt:∀x∈I,2≤x∧x<B.length∧x≠j
theorem CpI.next{B B3:Heap}{j g:Nat}{size:Int}{given:List Int}{c r:CV}{l:List RO}{S I:List Nat}(hC:CpI B j g size given c r l S I)(o:RO){id g':Nat}
 (hI:(l=[]∧I=S∧B.length≤id)∨I=S++id::l.flatMap (·.i)) (hs:∀k∈I,k≠id→B3[k]? =B[k]?) (hlen:B.length≤B3.length)
 (hout:look B3 j g=some ⟨g,3,[.f (.int .i64 size),c, .own id g' 0 (l.length+1) none]⟩) (hid:look B3 id g'=some ⟨g',3,kl kR (l++[o])⟩)
 (ho:OwnI B3 o.c o.r.cells o.i) (hoi:∀k∈o.i,B.length≤k∧k<B3.length∧k≠id∧k≠j) (hi:2≤id∧id<B3.length∧id≠j) (h2:2≤B.length):
 CpI B3 j g size given c (.own id g' 0 (l.length+1) none) (l++[o]) S (S++id::(l++[o]).flatMap (·.i)):=by
 have hJ:(S++id::l.flatMap (·.i)).Nodup∧(∀x∈S++l.flatMap (·.i),x∈I)∧(∀x∈S++l.flatMap (·.i),x≠id):=by
  rcases hI with⟨rfl,rfl,hb⟩|rfl
  · have hne:∀x∈I,x≠id:=fun x hx=>by have:=hC.lt x hx;omega
    refine⟨?_,by simp,by simpa using hne⟩
    simp only[List.flatMap_nil]
    rw[List.nodup_append]
    exact⟨hC.nd,by simp,fun a ha b hb=>by simp at hb;subst hb;exact hne a ha⟩
  · have hn:=hC.nd
    refine⟨hn,fun x hx=> ?_,fun x hx he=> ?_⟩
    · simp only[List.mem_append,List.mem_cons]at hx⊢
      rcases hx with hx|hx
      · exact .inl hx
      · exact .inr (.inr hx)
    · subst he
      rw[List.nodup_append]at hn
      obtain⟨n1,n2,n3⟩:=hn
      rcases List.mem_append.1 hx with hx|hx
      · exact n3 x hx x (by simp) rfl
      · exact(List.nodup_cons.1 n2).1 hx
 obtain⟨hn,hin,hne⟩:=hJ
 have hmem:∀x∈S++id::(l++[o]).flatMap (·.i),x∈S++l.flatMap (·.i)∨x=id∨x∈o.i:=fun x hx=>by
  simp only[List.flatMap_append,List.flatMap_cons,List.flatMap_nil,List.append_nil,List.mem_append,List.mem_cons]at hx⊢
  rcases hx with hx|rfl|hx|hx
  · exact .inl (.inl hx)
  · exact .inr (.inl rfl)
  · exact .inl (.inr hx)
  · exact .inr (.inr hx)
 refine⟨hout, .inr ⟨id,g',by simp,hid,rfl⟩,fun o' ho'=> ?_, ?_, ?_,fun x hx=> ?_⟩
 · rcases List.mem_append.1 ho' with ho'|ho'
   · refine(hC.cells o' ho').same fun k hk=> ?_
     have:k∈S++l.flatMap (·.i):=List.mem_append.2 (.inr (List.mem_flatMap.2 ⟨o',ho',hk⟩))
     exact hs k (hin k this) (hne k this)
   · simp at ho';subst ho';exact ho
 · refine hC.giv.same fun k hk=> ?_
   have:k∈S++l.flatMap (·.i):=List.mem_append.2 (.inl hk)
   exact hs k (hin k this) (hne k this)
 · have e:S++id::(l++[o]).flatMap (·.i)=(S++id::l.flatMap (·.i))++o.i:=by simp
   rw[e,List.nodup_append]
   refine⟨hn,ho.nd,fun a ha b hb he=> ?_⟩
   subst he
   have h4:=hoi a hb
   have:a∈S++l.flatMap (·.i):=by
    simp only[List.mem_append,List.mem_cons]at ha⊢
    rcases ha with ha|ha|ha
    · exact .inl ha
    · exact absurd ha h4.2.2.1
    · exact .inr ha
   have:=hC.lt a (hin a this)
   omega
 · rcases hmem x hx with hx|rfl|hx
   · have:=hC.lt x (hin x hx);omega
   · exact hi
   · have:=hoi x hx;omega
def puzQ0(p:Puz):KV:=fun v H=>∃c r S1 S2,v= .agg [.f (.int .i64 p.size),c,r]∧OwnI H c p.given S1∧((r= .f .nil∧p.rules=[]∧S2=[])∨OwnR H r p.rules S2)∧(S1++S2).Nodup
def limN:CV→Prop
 | .own _ _ _ _ lim=>lim=none
 | .f .nil=>True
 |_=>False
def puzQ1(p:Puz):KV:=fun v H=>∃c r S1 S2,v= .agg [.f (.int .i64 p.size),c,r]∧OwnI H c p.given S1∧((r= .f .nil∧p.rules=[]∧S2=[])∨OwnR H r p.rules S2)∧(S1++S2).Nodup∧limN r
theorem CpI.done{B B':Heap}{j g:Nat}{p:Puz}{c r:CV}{l:List RO}{S I:List Nat}(hC:CpI B j g p.size p.given c r l S I)(hm:l.map (·.r)=p.rules)(hs:∀k∈I,B'[k]? =B[k]?):
 puzQ1 p (.agg [.f (.int .i64 p.size),c,r]) B':=by
 rcases hC.rl with⟨rfl,rfl,rfl⟩|⟨id,g',rfl,hid,rfl⟩
 · exact⟨_,_,_,[],rfl,hC.giv.same hs, .inl ⟨rfl,hm.symm,rfl⟩,by rw[List.append_nil];exact hC.nd,trivial⟩
 · refine⟨_,_,_,_,rfl,hC.giv.same fun k hk=>hs k (List.mem_append.2 (.inl hk)), .inr ?_,hC.nd,rfl⟩
   rw[←hm]
   refine OwnR.same (.o id g' none l [] (by rw[List.append_nil];exact hid) hC.cells ?_ (by simp)) fun k hk=>hs k (List.mem_append.2 (.inr hk))
   have:=hC.nd
   rw[List.nodup_append]at this
   exact this.2.1
theorem look_set_eq{H:Heap}{id g sz:Nat}{cs:List CV}(h:id<H.length):look (H.set id (some ⟨g,sz,cs⟩)) id g=some ⟨g,sz,cs⟩:=look_of (b:=⟨g,sz,cs⟩) (by rw[List.getElem?_set_self h])
theorem copyPuzzle_own1(p:Puz)(hx:smP p):RunCall Try.prog 56 [aP p] [] (puzQ1 p):=by
 refine RunCall.cw (c:=_) Try.func56 rfl (n:=31) Try.ntmps56 (rs:=[.cell 2 32]) rfl ?_
 simp only[List.length_cons,List.length_nil,zA,zS,List.replicate,List.cons_append,List.nil_append]
 simp(maxSteps:=999999)(disch:=omega)only[go_sem,zA,zM,zS,zE,zL]
 intro g1 g2
 refine drawP_lF [0,1,2,3,6,4,5] [] (some 6) [7] [] foll (by kernel_rfl) ?_
 simp(maxSteps:=999999)(disch:=omega)only[go_sem,Nat.reduceBEq,Bool.true_or,zA,zM,zS,zE,zL]
 refine Loud.mkI (Clone_own p.given hx.1) (⟨_,Try.func78,rfl,rfl⟩:Enters Try.prog 78) rfl rfl rfl ?_
 intro c H1 S h1 hS
 simp(maxSteps:=999999)(disch:=omega)only[go_sem,zA,zM,zS,zE,zL,look_last,set_last]
 intro g
 refine loop_rule2 (fun(i:Nat) (b:Heap×CV×List RO×List Nat)=>p.rules.length -i) (fun i b=>i≤p.rules.length∧b.2.2.1.length=i∧b.2.2.1.map (·.r)=p.rules.take i∧look b.1 1 g2=some ⟨g2,3,[.f (.int .i64 0), .f .nil, .f .nil]⟩∧CpI b.1 (H1.length+1+1) g p.size p.given c b.2.1 b.2.2.1 S b.2.2.2)
  (fun i _=>[.a, .a, .k, .k, .a, .a, .a, .a, .a, .a, .a, .a, .a, .k, .k, .p (int i), .a, .a, .a, .a, .a, .a, .a, .a, .a, .a, .a, .a, .a, .a, .a]) (fun i b=>b.1) 0 (some ⟨g1,1,cP p⟩::some ⟨g2,3,[.f (.int .i64 0), .f .nil, .f .nil]⟩::(H1++[some ⟨g,3,[.f (.int .i64 p.size),c, .f .nil]⟩]), .f .nil,[],S)
  ⟨Nat.zero_le _,rfl,rfl,look_of (b:=⟨g2,3,[.f (.int .i64 0), .f .nil, .f .nil]⟩) rfl, ?_⟩ (by simp(maxSteps:=999999)(disch:=omega)only[go_sem,zA,zM,zS,zE,zL];rfl) (HLe.refl _) ?_
 · refine⟨look_of (b:=⟨g,3,[.f (.int .i64 p.size),c, .f .nil]⟩) (by simp), .inl ⟨rfl,rfl,rfl⟩,by simp,h1.app,h1.nd,fun x hx=> ?_⟩
   have:=hS x hx
   simp only[List.length_append,List.length_cons,List.length_nil]at this⊢
   omega
 rintro i ⟨B,r,l,I⟩ ⟨hi,hl,hm,h1,hC⟩
 simp only at hl hm h1 hC⊢
 have hj2:2≤H1.length+1+1:=by omega
 generalize H1.length+1+1=j at hC hj2⊢
 simp(maxSteps:=999999)(disch:=omega)only[go_sem,zA,zM,zS,zE,zL]
 ((first|(with_reducible first|refine condK_dec ?_ ?_|refine condK_ndec ?_ ?_|refine condK_nb ?_ ?_)|refine condK_b ?_ ?_)<;>intro h)
 · have h:i<p.rules.length:=by omega
   simp(maxSteps:=999999)(disch:=omega)only[go_sem,zA,zM,zS,zE,zL,look_last,set_last]
   intro g3
   refine OpS.mkI (Clone_own (nth p.rules i).cells (hx.2.2 _ (nth_mem h))) (⟨_,Try.func78,rfl,rfl⟩:Enters Try.prog 78) rfl rfl rfl ?_
   intro c3 H3 S3 h3 hS3
   simp(maxSteps:=999999)(disch:=omega)only[go_sem,zA,zM,zS,zE,zL,look_mid,set_mid]
   generalize hB2:B++[some ⟨g3,3,[.f (.int .i64 (nth p.rules i).kind),c3, .f (.int .i64 (nth p.rules i).val)]⟩]++H3=B2
   have hap:∃X,B2=B++X:=⟨_,by rw[←hB2,List.append_assoc]⟩
   have hlB:B.length<B2.length:=by rw[←hB2];simp
   have hR:look B2 B.length g3=some ⟨g3,3,[.f (.int .i64 (nth p.rules i).kind),c3, .f (.int .i64 (nth p.rules i).val)]⟩:=by rw[←hB2];exact look_mid
   have hB:∀{k g':Nat} {b:Blk},look B k g'=some b→look B2 k g'=some b:=fun h=>by obtain⟨X,rfl⟩:=hap;exact look_appL h
   have h4:OwnI B2 c3 (nth p.rules i).cells S3:=by
    refine h3.same fun k hk=> ?_
    have:=hS3 k hk
    simp only[List.length_append,List.length_cons,List.length_nil]at this
    rw[←hB2]
    simp only[List.append_assoc,List.cons_append,List.nil_append]
    rw[List.getElem?_append_right (by omega),List.getElem?_append_right (by omega),List.getElem?_cons,List.getElem?_cons]
    rw[if_neg (by omega),if_neg (by omega)]
   have hS4:∀k∈S3,B.length+1≤k∧k<B2.length:=fun k hk=>by
    have:=hS3 k hk
    rw[←hB2]
    simp only[List.length_append,List.length_cons,List.length_nil]at this⊢
    omega
   have hpl:p.rules.length≤2^40:=hx.2.1
   have hk1:∀k,k<B.length→B2[k]? =B[k]? :=fun k hk=>by obtain⟨X,rfl⟩:=hap;exact List.getElem?_append_left hk
   have hlen:1<B.length:=(List.getElem?_eq_some_iff.1 (look_some h1).1).1
   have hjl:j<B.length:=(List.getElem?_eq_some_iff.1 (look_some hC.out).1).1
   have h12:=hB h1
   have hj:=hB hC.out
   clear hB2 h3 hS3
   rcases hC.rl with⟨rfl,rfl,rfl⟩|⟨id,g',rfl,hid,rfl⟩
   · have hj5:∀X,look (B2++X) j g=some ⟨g,3,[.f (.int .i64 p.size),c, .f .nil]⟩:=fun X=>look_appL hj
     have hj6:∀X Y,look (B2++X++Y) j g=some ⟨g,3,[.f (.int .i64 p.size),c, .f .nil]⟩:=fun X Y=>look_appL (look_appL hj)
     simp(maxSteps:=999999)(disch:=omega)only[go_sem,zA,zM,zS,zE,zL,hR,hj,hj5,hj6,look_last,set_last]
     intro g4 g5
     refine⟨i+1,(_, .own (B2.length+1) g5 0 1 none,[]++[⟨nth p.rules i,c3,S3⟩],_),⟨⟨h,by simp at hl⊢;omega,by rw[List.map_append,hm,take_succ_nth h];rfl, ?_,CpI.next (id:=B2.length+1) (g':=g5) hC ⟨nth p.rules i,c3,S3⟩ (.inl ⟨rfl,rfl,by omega⟩) (fun k hk hki=> ?_) ?_ ?_ ?_ (h4.same fun k hk=> ?_) (fun k hk=> ?_) ?_ hlen⟩,by omega⟩,by omega,HLe.refl _⟩
     · rw[look_set_ne (by omega)];exact look_appL (look_appL h12)
     · have:=hC.lt k hk
       rw[List.getElem?_set_ne (by omega),List.getElem?_append_left (by simp;omega),List.getElem?_append_left (by omega),hk1 k (by omega)]
     · simp;omega
     · exact look_set_eq (by simp;omega)
     · rw[look_set_ne (by omega)]
       exact look_of (b:=⟨g5,3,[.f (.int .i64 (nth p.rules i).kind),c3, .f (.int .i64 (nth p.rules i).val)]⟩) (by simp)
     · have:=hS4 k hk
       rw[List.getElem?_set_ne (by omega),List.getElem?_append_left (by simp;omega),List.getElem?_append_left (by omega)]
     · have:=hS4 k hk
       simp only[List.length_set,List.length_append,List.length_cons,List.length_nil]
       omega
     · simp only[List.length_set,List.length_append,List.length_cons,List.length_nil]
       omega
   · have hid:=hB hid
     have hne:=hC.lt id (by simp)
     have hj5:∀X,look (B2++X) j g=some ⟨g,3,[.f (.int .i64 p.size),c, .own id g' 0 l.length none]⟩:=fun X=>look_appL hj
     have hid5:∀X,look (B2++X) id g'=some ⟨g',3,kl kR l⟩:=fun X=>look_appL hid
     have hnj:id≠j:=hne.2.2
     have hll:l.length≤2^40:=by have:=hx.2.1;omega
     simp(maxSteps:=999999)(disch:=omega)only[go_sem,zA,zM,zS,zE,zL,hR,hj,hj5,hid5,look_last,set_last,kl_length,look_set_ne hnj]
     intro g4 g5
     refine⟨i+1,(_, .own id g5 0 (l.length+1) none,l++[⟨nth p.rules i,c3,S3⟩],_),⟨⟨h,by simp[hl],by rw[List.map_append,hm,take_succ_nth h];rfl, ?_,CpI.next (id:=id) (g':=g5) hC ⟨nth p.rules i,c3,S3⟩ (.inr rfl) (fun k hk hki=> ?_) ?_ ?_ ?_ (h4.same fun k hk=> ?_) (fun k hk=> ?_) ?_ hlen⟩,by omega⟩,by omega,HLe.refl _⟩
     · rw[look_set_ne (by omega),look_set_ne (by omega)];exact look_appL h12
     · have:=hC.lt k hk
       rw[List.getElem?_set_ne (by omega),List.getElem?_set_ne (by omega),List.getElem?_append_left (by omega),hk1 k (by omega)]
     · simp;omega
     · exact look_set_eq (by simp;omega)
     · rw[look_set_ne (by omega),look_set_eq (by simp;omega),kl_append]
       rfl
     · have:=hS4 k hk
       rw[List.getElem?_set_ne (by omega),List.getElem?_set_ne (by omega),List.getElem?_append_left (by omega)]
     · have:=hS4 k hk
       simp only[List.length_set,List.length_append,List.length_cons,List.length_nil]
       omega
     · simp only[List.length_set,List.length_append,List.length_cons,List.length_nil]
       omega
 · have hout:=hC.out
   have hlen:1<B.length:=by
    obtain⟨hh,_⟩:=look_some h1
    exact(List.getElem?_eq_some_iff.1 hh).1
   simp(maxSteps:=999999)(disch:=omega)only[go_sem,zA,zM,zS,zE,zL,hout,h1,look_set_eq hlen]
   have hi':i=p.rules.length:=by omega
   subst hi'
   rw[List.take_length]at hm
   refine⟨_,HLe.refl _,hC.done hm fun k hk=> ?_⟩
   have:=hC.lt k hk
   exact List.getElem?_set_ne (by omega)
theorem copyPuzzle_own(p:Puz)(hx:smP p):RunCall Try.prog 56 [aP p] [] (puzQ0 p):=
 (copyPuzzle_own1 p hx).weaker fun v H' ⟨c,r,S1,S2,h1,h2,h3,h4,_⟩=>⟨H',HLe.refl _,c,r,S1,S2,h1,h2,h3,h4⟩
end Go.Lg

namespace Go.Lg
open Go.Proofs
section
variable{P:Program}{ops:Array Oper}{o:Oper}{s:List AV}{H:Heap}{K:KV}{fo:Operand}{xs:Array Operand}{ts:Array TypeId}{f:FuncId}{args args':List AV}{zs:List Int}
theorem Loud.mkP{p:Puz}(hc:RunCall P f args [] (puzQ p))(he:Enters P f)(ho:o.op= .call ⟨.value fo,xs,ts⟩)(ha:callArgs ⟨s,H⟩ fo xs=some (f,args))(hf:args.all frozenA=true)
 (hk:∀cs H' S,OwnP (H++H') cs p S→(∀i∈S,H.length≤i∧i<H.length+H'.length)→K (.agg cs) (H++H')):Loud P ops o s H K:=
 Loud.call ho ha fun s' ha'=>OpS.mkP hc he ho ha' hf hk
end
theorem VA.wk3{w:World}{X:Cx}{H:Heap}{a b:CV}{u:Value}(h:VA w X H (.agg [a,b, .f .nil]) u):VA w X H (.agg [a,b, .f (.sl 0 [])]) u:=by
 cases h with
 |agg cs vs hs h=>
  refine .agg _ vs hs fun j hj=> ?_
  obtain⟨x,h1,h2⟩:=h j hj
  refine⟨x,h1, ?_⟩
  rcases j with _|_|_|j
  · exact h2
  · exact h2
  · have h2:VF w X.I .nil x:=h2
    cases h2
    exact VF.sl0 none 0
  · simp at hj;omega
theorem cons2{a b:Option Blk}{L:Heap}{k:Nat}(h:2≤k):(a::b::L)[k]? =L[k -2]? :=by
 obtain⟨n,rfl⟩:∃n,k=n+2:=⟨k -2,by omega⟩
 rfl
theorem nodup4{S1 S2 S3 S4:List Nat}{n1 n2:Nat}(h12:(S1++S2).Nodup)(h3:S3.Nodup)(h4:S4.Nodup)(k12:∀i∈S1++S2,i<n1)(k3:∀i∈S3,n1≤i∧i<n2)(k4:∀i∈S4,n2≤i)(hn:n1≤n2):(S1++(S2++(S3++S4))).Nodup:=by
 rw[←List.append_assoc,List.nodup_append]
 refine⟨h12, ?_,fun a ha b hb he=> ?_⟩
 · rw[List.nodup_append]
   refine⟨h3,h4,fun a ha b hb he=> ?_⟩
   have:=k3 a ha;have:=k4 b hb;omega
 · have:=k12 a ha
   rcases List.mem_append.1 hb with hb|hb
   · have:=k3 b hb;omega
   · have:=k4 b hb
     omega
theorem copyPuzzle_puz(p:Puz)(hx:smP p):RunCall Try.prog 56 [aP p] [] (puzQ p):=by
 refine(copyPuzzle_own p hx).wk ?_
 rintro v H' ⟨c,r,S1,S2,rfl,h1,h2,h3⟩
 rcases h2 with⟨rfl,h4,rfl⟩|h2
 · refine⟨.agg [.f (.int .i64 p.size),c, .f (.sl 0 [])],fun w X u h=> ?_,_,_,rfl,⟨_,_,S1,[],rfl,rfl,h1,by rw[h4];exact .e⟩,h3⟩
   exact h.wk3
 · exact⟨_,fun _ _ _ h=>h,_,_,rfl,⟨_,_,S1,S2,rfl,rfl,h1,h2⟩,h3⟩
end Go.Lg

namespace Go.Lg
open Go.Proofs
def wkC:CV→CV
 | .f .nil=> .f (.sl 0 [])
 |c=>c
theorem VC.wk{w:World}{X:Cx}{H:Heap}{c:CV}{v:Value}(h:VC w X H c v):VC w X H (wkC c) v:=by
 unfold wkC
 split
 · have h:VF w X.I .nil v:=h
   cases h
   exact VF.sl0 none 0
 · exact h
theorem VA.wkAgg{w:World}{X:Cx}{H:Heap}{cs:List CV}{u:Value}(h:VA w X H (.agg cs) u):VA w X H (.agg (cs.map wkC)) u:=by
 cases h with
 |agg _ vs hs h=>
  refine .agg _ vs (by simpa using hs) fun j hj=> ?_
  obtain⟨x,h1,h2⟩:=h j (by simpa using hj)
  refine⟨x,h1, ?_⟩
  rw[List.getElem_map]
  exact h2.wk
theorem OwnI.wkc{H:Heap}{c:CV}{xs:List Int}{S:List Nat}(h:OwnI H c xs S):wkC c=c:=by cases h<;>rfl
theorem OwnR.wkc{H:Heap}{c:CV}{xs:List Rul}{S:List Nat}(h:OwnR H c xs S):wkC c=c:=by cases h<;>rfl
def gamQ0(q:Gam):KV:=fun v H=>∃cs S,v= .agg cs∧OwnG H (cs.map wkC) q S
theorem RunCall.gam{P:Program}{f:FuncId}{args:List AV}{H:Heap}{q:Gam}(h:RunCall P f args H (gamQ0 q)):RunCall P f args H (gamQ q):=
 h.wk fun v H' ⟨cs,S,h1,h2⟩=>⟨_,fun w X u hu=>by subst h1;exact hu.wkAgg,_,S,rfl,h2⟩
def gameOf(p:Puz):Gam:=if puzzleValid p=true then⟨p,List.replicate p.given.length 0,[]⟩else⟨⟨0,[],[]⟩,[],[]⟩
theorem GameOf_own(p:Puz)(hx:smP p):RunCall Try.prog 26 [aP p] [] (gamQ (gameOf p)):=by
 refine RunCall.gam ?_
 have hg:=hx.1
 refine RunCall.cw (c:=_) Try.func26 rfl (n:=14) Try.ntmps26 (rs:=[.cell 2 34]) rfl ?_
 simp only[List.length_cons,List.length_nil,zA,zS,List.replicate,List.cons_append,List.nil_append]
 simp(maxSteps:=999999)(disch:=omega)only[go_sem,zA,zM,zS,zE,zL]
 intro g1 g2
 refine OpS.rd (PuzzleValid_run p hx) (⟨_,Try.func55,rfl,rfl⟩:Enters Try.prog 55) rfl rfl rfl rfl ?_
 simp(maxSteps:=999999)(disch:=omega)only[go_sem,zA,zM,zS,zE,zL]
 ((first|(with_reducible first|refine condK_dec ?_ ?_|refine condK_ndec ?_ ?_|refine condK_nb ?_ ?_)|refine condK_b ?_ ?_)<;>intro h)
 · simp(maxSteps:=999999)(disch:=omega)only[go_sem,zA,zM,zS,zE,zL]
   refine drawP_lF [0,2,3,4,5,1] [] (some 5) [6,7] [] foll (by kernel_rfl) ?_
   simp(maxSteps:=999999)(disch:=omega)only[go_sem,Nat.reduceBEq,Bool.true_or,zA,zM,zS,zE,zL]
   refine Loud.mkP (copyPuzzle_puz p hx) (⟨_,Try.func56,rfl,rfl⟩:Enters Try.prog 56) rfl rfl rfl ?_
   rintro _ H1 _ ⟨⟨c1,c2,S1,S2,rfl,rfl,k1,k2⟩,kn⟩ hS
   simp(maxSteps:=999999)(disch:=omega)only[go_sem,zA,zM,zS,zE,zL]
   intro g
   simp only[List.length_append,List.length_cons,List.length_nil]at hS
   have hz:OwnI (some ⟨g1,1,cP p⟩::some ⟨g2,5,[.f (.int .i64 p.size),c1,c2, .own (H1.length+1+1) g 0 p.given.length none, .f .nil]⟩::(H1++[some ⟨g,1,cl (eI .i64) (List.replicate p.given.length 0)⟩]))
    (.own (H1.length+1+1) g 0 p.given.length none) (List.replicate p.given.length 0) [H1.length+1+1]:=by
    have:=OwnI.o (H:=some ⟨g1,1,cP p⟩::some ⟨g2,5,[.f (.int .i64 p.size),c1,c2, .own (H1.length+1+1) g 0 p.given.length none, .f .nil]⟩::(H1++[some ⟨g,1,cl (eI .i64) (List.replicate p.given.length 0)⟩])) (H1.length+1+1) g none (List.replicate p.given.length 0) [] (by rw[List.append_nil];exact look_of (b:=⟨g,1,cl (eI .i64) (List.replicate p.given.length 0)⟩) (by simp))
    rw[List.length_replicate]at this
    exact this
   refine⟨_,HLe.refl _,_,S1++(S2++([H1.length+1+1]++[])),rfl, ?_⟩
   unfold gameOf
   rw[if_pos h]
   simp only[List.map_cons,List.map_nil,k1.wkc,k2.wkc,hz.wkc]
   refine OwnG.of (p:=p) (S1:=S1) (S2:=S2) ⟨⟨_,_,_,_,rfl,rfl,k1.same fun k hk=> ?_,k2.same fun k hk=> ?_⟩,kn⟩ hz .e (nodup4 (n1:=H1.length+2) (n2:=H1.length+3) kn (by simp) (by simp) (fun k hk=> ?_) (fun k hk=> ?_) (by simp) (by omega))
   · have:=hS k (by simp[hk])
     simp only[List.cons_append,List.nil_append]
     rw[cons2 (by omega),cons2 (by omega),List.getElem?_append_left (by omega)]
   · have:=hS k (by simp[hk])
     simp only[List.cons_append,List.nil_append]
     rw[cons2 (by omega),cons2 (by omega),List.getElem?_append_left (by omega)]
   · have:=hS k hk;omega
   · simp at hk;omega
 · simp(maxSteps:=999999)(disch:=omega)only[go_sem,zA,zM,zS,zE,zL]
   refine⟨_,HLe.refl _,_,[],rfl, ?_⟩
   unfold gameOf
   rw[if_neg (by rw[h];simp)]
   exact⟨⟨_,_,_,_,[],[],[],[],rfl,rfl, .e, .e, .e, .e⟩,by simp⟩
end Go.Lg

namespace Go.Lg
open Go.Proofs
def ruleQ(r:Rul):KV:=fun v H=>∃c S,v= .agg [.f (.int .i64 r.kind),c, .f (.int .i64 r.val)]∧OwnI H c r.cells S
theorem Reads.rule{P:Program}{f:FuncId}{args:List AV}{r:Rul}(h:RunCall P f args [] (ruleQ r)):Reads P f args (aR r):=
 Reads.ice h fun v H' ⟨c,S,h1,h2⟩=>by
  subst h1
  have e1:∀n:Int,Lg.frzC H' (.f (.int .i64 n))=some (.f (.int .i64 n)):=fun _=>rfl
  simp only[frzA,List.mapM_cons,List.mapM_nil,frz1,e1,h2.frzC,Option.map_some,Option.pure_def,Option.bind_eq_bind,Option.bind_some]
  try rfl
theorem l1OwnRule_own(r:Rul)(hx:r.cells.length≤2^40):RunCall Try.prog 94 [aR r] [] (ruleQ r):=by
 obtain⟨k,cells,v⟩:=r
 simp only at hx
 rcases Nat.eq_zero_or_pos cells.length with h0|h0
 · have:cells=[]:=List.eq_nil_of_length_eq_zero h0
   subst this
   refine RunCall.cw (c:=_) Try.func94 rfl (n:=11) Try.ntmps94 (rs:=[.cell 2 81]) rfl ?_
   simp only[List.length_cons,List.length_nil,zA,zS,List.replicate,List.cons_append,List.nil_append]
   simp(maxSteps:=999999)(disch:=omega)only[go_sem,zA,zM,zS,zE,zL]
   intro g g1 g2 g3
   show lessQ [some ⟨g,1,cR ⟨k,[],v⟩⟩,some ⟨g1,3,[.f (.int .i64 k), .own 3 g3 0 0 none, .f (.int .i64 v)]⟩,some ⟨g2,3,[.f (.int .i64 k), .own 3 g3 0 0 none, .f (.int .i64 v)]⟩,some ⟨g3,1,[]⟩] (ruleQ ⟨k,[],v⟩) (.agg [.f (.int .i64 k), .own 3 g3 0 0 none, .f (.int .i64 v)])
   exact⟨_,HLe.refl _,_,_,rfl, .o 3 g3 none [] [] (look_of (b:=⟨g3,1,[]⟩) rfl)⟩
 · refine RunCall.cw (c:=_) Try.func94 rfl (n:=11) Try.ntmps94 (rs:=[.cell 2 81]) rfl ?_
   simp only[List.length_cons,List.length_nil,zA,zS,List.replicate,List.cons_append,List.nil_append]
   simp(maxSteps:=999999)(disch:=omega)only[go_sem,zA,zM,zS,zE,zL]
   intro g g1 g2 g3 g4
   rw[Nat.zero_add]
   exact⟨_,HLe.refl _,_,_,rfl, .o 3 g4 none cells [] (by rw[List.append_nil];exact look_of (b:=⟨g4,1,cl (eI .i64) cells⟩) rfl)⟩
theorem l1OwnRule_run(r:Rul)(hx:r.cells.length≤2^40):Reads Try.prog 94 [aR r] (aR r):=Reads.rule (l1OwnRule_own r hx)
theorem l1OwnRuleList_own(rs:List Rul)(hx:smRs rs):RunCall Try.prog 75 [rsl eR rs] [] (ownQ eR 3 rs):=by
 obtain⟨hn,hc⟩:=hx
 refine RunCall.cw (c:=_) Try.func75 rfl (n:=21) Try.ntmps75 (rs:=[.tmp 2]) rfl ?_
 simp only[List.length_cons,List.length_nil,zA,zS,List.replicate,List.cons_append,List.nil_append]
 simp(maxSteps:=999999)(disch:=omega)only[go_sem,zA,zM,zS,zE,zL]
 intro g
 refine loop_rule2 (fun(i g:Nat)=>rs.length -i) (fun i g=>i≤rs.length) (fun i g=>[.k, .a, .a, .p (.c (.own 0 g 0 i none)), .p (int i), .a, .a, .a, .a, .a, .a, .a, .a, .a, .a, .a, .a, .a, .a, .a, .a]) (fun i g=>[some ⟨g,3,cl eR (rs.take i)⟩]) 0 g
  (Nat.zero_le _) (by simp(maxSteps:=999999)(disch:=omega)only[go_sem,zA,zM,zS,zE,zL];rfl) (HLe.refl _) ?_
 intro i g hi
 simp(maxSteps:=999999)(disch:=omega)only[go_sem,zA,zM,zS,zE,zL]
 ((first|(with_reducible first|refine condK_dec ?_ ?_|refine condK_ndec ?_ ?_|refine condK_nb ?_ ?_)|refine condK_b ?_ ?_)<;>intro h)
 · have h:i<rs.length:=by omega
   simp(maxSteps:=999999)(disch:=omega)only[go_sem,zA,zM,zS,zE,zL]
   first|refine OpS.mk (l1OwnRule_run (nth rs i) (hc _ (nth_mem h))) (⟨_,Try.func94,rfl,rfl⟩:Enters Try.prog 94) rfl rfl rfl rfl rfl ?_|refine Loud.mk (l1OwnRule_run (nth rs i) (hc _ (nth_mem h))) (⟨_,Try.func94,rfl,rfl⟩:Enters Try.prog 94) rfl rfl rfl rfl rfl ?_
   simp(maxSteps:=999999)(disch:=omega)only[go_sem,zA,zM,zS,zE,zL]
   intro g1 g2
   refine⟨i+1,g2,⟨h,by omega⟩,⟨⟨rfl,rfl⟩,by push_cast;omega⟩,hle_eq ?_ (hle_nil _)⟩
   rw[take_succ_nth h,cl_append]
   rfl
 · have hi':i=rs.length:=by omega
   simp(maxSteps:=999999)(disch:=omega)only[go_sem,zA,zM,zS,zE,zL]
   subst hi'
   rw[List.take_length]
   exact lessQ_own (HLe.refl _)
theorem l1OwnRuleList_run(rs:List Rul)(hx:smRs rs):Reads Try.prog 75 [rsl eR rs] (rsl eR rs):=Reads.own (l1OwnRuleList_own rs hx)
theorem l1OwnPuzzle_run(p:Puz)(hx:smP p):Reads Try.prog 53 [aP p] (aP p):=by
 obtain⟨n,gs,rs⟩:=p
 obtain⟨hg,hr⟩:=hx
 simp only at hg hr
 refine Reads.iced ?_
 rcases Nat.eq_zero_or_pos gs.length with h0|h0
 · refine RunCall.cw (c:=_) Try.func53 rfl (n:=15) Try.ntmps53 (rs:=[.cell 2 32]) rfl ?_
   simp only[List.length_cons,List.length_nil,zA,zS,List.replicate,List.cons_append,List.nil_append]
   simp(maxSteps:=999999)(disch:=omega)only[go_sem,zA,zM,zS,zE,zL]
   intro g1 g2 g3 g4
   first|refine OpS.mk (l1OwnRuleList_run rs hr) (⟨_,Try.func75,rfl,rfl⟩:Enters Try.prog 75) rfl rfl rfl rfl rfl ?_|refine Loud.mk (l1OwnRuleList_run rs hr) (⟨_,Try.func75,rfl,rfl⟩:Enters Try.prog 75) rfl rfl rfl rfl rfl ?_
   simp(maxSteps:=999999)(disch:=omega)only[go_sem,zA,zM,zS,zE,zL]
   have:gs=[]:=List.eq_nil_of_length_eq_zero h0
   subst this
   exact lessQ_ice (by simp only[go_sem,List.mapM_cons,List.mapM_nil,frzA,frz1,frzC,frz,frz_cl,Option.pure_def,Option.bind_eq_bind,Option.bind_some]<;>rfl)
 · refine RunCall.cw (c:=_) Try.func53 rfl (n:=15) Try.ntmps53 (rs:=[.cell 2 32]) rfl ?_
   simp only[List.length_cons,List.length_nil,zA,zS,List.replicate,List.cons_append,List.nil_append]
   simp(maxSteps:=999999)(disch:=omega)only[go_sem,zA,zM,zS,zE,zL]
   intro g1 g2 g3 g4 g5
   rw[Nat.zero_add]
   first|refine OpS.mk (l1OwnRuleList_run rs hr) (⟨_,Try.func75,rfl,rfl⟩:Enters Try.prog 75) rfl rfl rfl rfl rfl ?_|refine Loud.mk (l1OwnRuleList_run rs hr) (⟨_,Try.func75,rfl,rfl⟩:Enters Try.prog 75) rfl rfl rfl rfl rfl ?_
   simp(maxSteps:=999999)(disch:=omega)only[go_sem,zA,zM,zS,zE,zL]
   exact lessQ_ice (by simp only[go_sem,List.mapM_cons,List.mapM_nil,frzA,frz1,frzC,frz,frz_cl,Option.pure_def,Option.bind_eq_bind,Option.bind_some]<;>rfl)
end Go.Lg

namespace Go.Lg
attribute [-go_sem] appendM
theorem softW_call{P:Program}{ops:Array Oper}{o:Oper}{s:List AV}{K:AV→Prop}{fo:Operand}{xs:Array Operand}{ts:Array TypeId}{f:FuncId}{args:List AV}{v:AV}
 (hc:Reads P f args v) (he:Enters P f) (ho:o.op= .call ⟨.value fo,xs,ts⟩) (ha:callArgs ⟨s,[]⟩ fo xs=some (f,args)) (hz:∀x∈Call.operands ⟨.value fo,xs,ts⟩,frozenA (evO s x)=true) (hf:args.all frozenA=true)
 (hv:frozen1 v=true∧tupOk v=true∧shiftA 0 v=v∧frzA [] v=some v) (hk:K v):softW P ops o s K:=by
 unfold softW
 rw[ho]
 refine⟨v,fun H=>Soft.ops (by rw[ho];exact hz) hv.1 fun s' hs'=> ?_,hk⟩
 refine OpS.mk hc he ho ?_ hf hv.2.1 hv.2.2.1 hv.2.2.2
 rw[callArgs_congr (s:=s) (H:=[]) ts fun x hx=>hs' x (by rw[ho];exact hx)]
 exact ha
inductive OwnE(H:Heap):CV→List Int→List Nat→Prop where
 |m:OwnE H .emp [] []
 |o (id g:Nat) (xs:List Int) (h:look H id g=some ⟨g,1,cl (eI .i64) xs⟩):OwnE H (.own id g 0 xs.length none) xs [id]
theorem OwnE.frzC{H:Heap}{c:CV}{xs:List Int}{S:List Nat}(h:OwnE H c xs S):Lg.frzC H c=some (.f (fints xs)):=by
 cases h with
 |m=>rfl
 |o id g xs h=>exact(OwnI.o id g none xs [] (by rw[List.append_nil];exact h)).frzC
theorem OwnE.same{H H':Heap}{c:CV}{xs:List Int}{S:List Nat}(h:OwnE H c xs S)(hs:∀i∈S,H'[i]? =H[i]?):OwnE H' c xs S:=by
 cases h with
 |m=>exact .m
 |o id g xs h=>exact .o id g xs (by unfold look at*;rw[hs id (by simp)];exact h)
theorem OwnE.shift{H0 H:Heap}{c:CV}{xs:List Int}{S:List Nat}(h:OwnE H c xs S):OwnE (H0++shiftH H0.length H) (shiftC H0.length c) xs (S.map (· +H0.length)):=by
 cases h with
 |m=>exact .m
 |o id g xs h=>
  refine .o (id+H0.length) g xs ?_
  rw[look_shiftH h]
  simp only[shiftB,shift_cl]
theorem OwnE.lt{H:Heap}{c:CV}{xs:List Int}{S:List Nat}(h:OwnE H c xs S):∀i∈S,i<H.length:=by
 cases h with
 |m=>simp
 |o id g xs h=>intro i hi;have:i=id:=by simpa using hi
               subst this;exact(List.getElem?_eq_some_iff.1 (look_some h).1).1
theorem OwnE.nd{H:Heap}{c:CV}{xs:List Int}{S:List Nat}(h:OwnE H c xs S):S.Nodup:=by cases h<;>simp
theorem OwnE.inv{H:Heap}{c:CV}{xs:List Int}{S:List Nat}(h:OwnE H c xs S)(hn:xs≠[]):∃id g,c= .own id g 0 xs.length none∧S=[id]∧look H id g=some ⟨g,1,cl (eI .i64) xs⟩:=by
 cases h with
 |m=>exact absurd rfl hn
 |o id g xs h=>exact⟨id,g,rfl,rfl,h⟩
theorem OwnE.inv0{H:Heap}{c:CV}{xs:List Int}{S:List Nat}(h:OwnE H c xs S)(hn:xs=[]):c= .emp∨∃id g,c= .own id g 0 0 none∧look H id g=some ⟨g,1,[]⟩:=by
 cases h with
 |m=>exact .inl rfl
 |o id g xs h=>subst hn;exact .inr ⟨id,g,rfl,h⟩
theorem appendM_emp{P:Program}{H:Heap}{t:TypeId}{ei:TI}{K:KV}(ht:sliceOf P t=some ei)(hz:ei.zero.length=ei.size∧ei.size=1∧ei.bytes=8){xs:List Int}(hx:xs.length≤2^40)
 (hk:∀c H' S,OwnE (H++H') c xs S→(∀k∈S,H.length≤k∧k<H.length+H'.length)→K (.c c) (H++H')):appendM P H t (.c .emp) (.c (.f (.sl xs.length (fl (eI .i64) xs)))) K:=by
 obtain⟨hz1,hz2,hz3⟩:=hz
 unfold appendM
 simp only[ht,hz1,hz2,if_true,elems,fl_length,appM]
 split
 · rename_i h0
   have:xs=[]:=List.eq_nil_of_length_eq_zero h0
   subst this
   have:=hk .emp [] [] .m (by simp)
   rwa [List.append_nil]at this
 · refine⟨⟨by omega,by rw[hz3];omega⟩,fun g=> ?_⟩
   exact hk _ [some ⟨g,1,cl (eI .i64) xs⟩] [H.length] (.o H.length g xs (look_of (b:=⟨g,1,cl (eI .i64) xs⟩) (by simp))) (by simp)
theorem appendM_E{P:Program}{H:Heap}{t:TypeId}{ei:TI}{K:KV}(ht:sliceOf P t=some ei)(hz:ei.zero.length=ei.size∧ei.size=1∧ei.bytes=8){c:CV}{xs:List Int}{S:List Nat}(h:OwnE H c xs S)(hx:xs.length≤2^40)
 {n g:Nat} {lim:Option Nat} {v:Int} (hl:look H n g=some ⟨g,1,[.f (.int .i64 v)]⟩)
 (hk:∀c' H' S',OwnE H' c' (xs++[v]) S'→(∀k,k<H.length→k∉S→H'[k]? =H[k]?)→(∀k∈S',k∈S∨H.length≤k)→H.length≤H'.length→K (.c c') H'):
 appendM P H t (.c c) (.c (.own n g 0 1 lim)) K:=by
 obtain⟨hz1,hz2,hz3⟩:=hz
 unfold appendM
 cases h with
 |m=>
  simp only[ht,hz1,hz2,if_true,elems,hl,List.drop_zero,Nat.one_mul,appM,hz3,okP,newM]
  refine⟨⟨by omega,by omega⟩,fun g'=> ?_⟩
  refine hk _ _ [H.length] (OwnE.o H.length g' [v] (look_of (b:=⟨g',1,cl (eI .i64) [v]⟩) (by simp;rfl))) (fun k hk _=>List.getElem?_append_left hk) (by simp) (by simp)
 |o id g2 xs hl2=>
  have hlt:id<H.length:=(List.getElem?_eq_some_iff.1 (look_some hl2).1).1
  simp only[ht,hz1,hz2,if_true,elems,hl,hl2,List.drop_zero,Nat.one_mul,appM,hz3,okP,cl_length,Nat.mul_one]
  refine⟨⟨trivial,by omega,trivial,by omega,by omega⟩,fun g'=> ?_⟩
  have:=OwnE.o (H:=H.set id (some ⟨g',1,cl (eI .i64) xs++[.f (.int .i64 v)]⟩)) id g' (xs++[v]) (look_of (b:=⟨g',1,cl (eI .i64) (xs++[v])⟩) (by rw[List.getElem?_set_self hlt,cl_append];rfl))
  rw[List.length_append]at this
  exact hk _ _ [id] this (fun k _ hk=>by rw[List.getElem?_set_ne (by simp at hk;omega)]) (fun k hk=> .inl hk) (by simp)
end Go.Lg
