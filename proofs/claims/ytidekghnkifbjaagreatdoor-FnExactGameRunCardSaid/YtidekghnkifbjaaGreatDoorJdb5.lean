/- GpQ, GpR, GpS, GpT, GpOE, GpM, cut to what is needed. -/
import Derived.Test.YtidekghnkifbjaaGreatDoorJdb4
open List renaming length_cons → Ja, cons_append → Jb, getElem?_append_left → Jc, nil_append → Jd, length_nil → Je, replicate → Jf, getElem?_eq_some_iff → Jh, getElem?_set_ne → Ji, getElem?_eq_getElem → Jl, length_set → Jp, length_append → Jq, take_of_length_le → Js, append_nil → Jt, getElem?_eq_none → Ju, getElem?_take_of_lt → Jz, getElem?_set_self → JE, mem_append → JI, getElem?_append_right → JV, append_assoc → JW, nodup_append → JZ, drop_zero → J1, mapM_cons → J3, mem_map → Qg, map_cons → Qh, length_map → Qi, getElem?_map → Qk, mem_cons → Qn, map_append → Qo, mapM_nil → QB, take_append_drop → QD, sum_cons → Zw, nodup_cons → Zx
open Nat renaming reduceAdd→zA,reduceMul→zM,reduceSub→zS,reduceEqDiff→zE,reduceLeDiff→zL
set_option linter.unusedSimpArgs false
set_option linter.unusedVariables false
set_option maxRecDepth 100000
namespace Go.Lg
open Go.Proofs
section
variable{P:Program}{ops:Array Oper}{o:Oper}{s:List AV}{H:Jn}{K:KV}{fo:Operand}{xs:Array Operand}{ts:Array TypeId}{f:FuncId}{args args':List AV}{zs:List Int}
theorem JG.mkI(hc:Jk P f args [] (WD zs))(he:Jg P f)(ho:o.op= .call ⟨.value fo,xs,ts⟩)(ha:Qb ⟨s,H⟩ fo xs=some (f,args))(hf:args.all Q2=true)
 (hk:∀c H' S,Qr (H++H') c zs S→(∀i∈S,H.length≤i∧i<H.length+H'.length)→K (.c c) (H++H')):JG P ops o s H K:=
 JG.call ho ha fun s' ha'=>JU.mkI hc he ho ha' hf hk
end
theorem Jk.wk{P:Program}{f:FuncId}{args:List AV}{H:Jn}{Q Q':KV}(h:Jk P f args H Q)(hw:∀v H',Q v H'→∃v',(∀w X u,VA w X H' v u→VA w X H' v' u)∧Q' v' H'):Jk P f args H Q':=
 fun w X vs hH hvs=>(h w X vs hH hvs).mono fun e w' ⟨v,u,X',H',h1,h2,h3,h4,h5⟩=>
  let⟨v',k1,k2⟩:=hw v H' h5
  ⟨v',u,X',H',h1,k1 _ _ _ h2,h3,h4,k2⟩
theorem JcL{H H3:Jn}{g sz:Nat}{cs:List CV}:look (H++[some ⟨g,sz,cs⟩]++H3) H.length g=some ⟨g,sz,cs⟩:=Qj (b:=⟨g,sz,cs⟩) (by simp)
theorem JjO{H H3:Jn}{x y:Option Zo}:(H++[x]++H3).set H.length y=H++[y]++H3:=by
 rw[JW,JW,List.set_append_right _ _ (Nat.le_refl _),Nat.sub_self];rfl
theorem ZC{H:Jn}{id j g:Nat}{x:Option Zo}(h:id≠j):look (H.set id x) j g=look H j g:=by
 unfold look;rw[Ji h]
structure CpI(B:Jn)(j g:Nat)(size:Int)(given:List Int)(c r:CV)(l:List RO)(S I:List Nat):Prop where
 out:look B j g=some ⟨g,3,[.f (.int .i64 size),c,r]⟩
 rl:(l=[]∧r= .f .nil∧I=S)∨∃id g',r= .own id g' 0 l.length none∧look B id g'=some ⟨g',3,kl kR l⟩∧I=S++id::l.flatMap (·.i)
 cells:∀o∈l,Qr B o.c o.r.cells o.i
 giv:Qr B c given S
 nd:I.Nodup
 lt:∀x∈I,2≤x∧x<B.length∧x≠j
theorem CpI.next{B B3:Jn}{j g:Nat}{size:Int}{given:List Int}{c r:CV}{l:List RO}{S I:List Nat}(hC:CpI B j g size given c r l S I)(o:RO){id g':Nat}
 (hI:(l=[]∧I=S∧B.length≤id)∨I=S++id::l.flatMap (·.i)) (hs:∀k∈I,k≠id→B3[k]? =B[k]?) (hlen:B.length≤B3.length)
 (hout:look B3 j g=some ⟨g,3,[.f (.int .i64 size),c, .own id g' 0 (l.length+1) none]⟩) (hid:look B3 id g'=some ⟨g',3,kl kR (l++[o])⟩)
 (ho:Qr B3 o.c o.r.cells o.i) (hoi:∀k∈o.i,B.length≤k∧k<B3.length∧k≠id∧k≠j) (hi:2≤id∧id<B3.length∧id≠j) (h2:2≤B.length):
 CpI B3 j g size given c (.own id g' 0 (l.length+1) none) (l++[o]) S (S++id::(l++[o]).flatMap (·.i)):=by
 have hJ:(S++id::l.flatMap (·.i)).Nodup∧(∀x∈S++l.flatMap (·.i),x∈I)∧(∀x∈S++l.flatMap (·.i),x≠id):=by
  rcases hI with⟨rfl,rfl,hb⟩|rfl
  · have hne:∀x∈I,x≠id:=fun x hx=>by have:=hC.lt x hx;omega
    refine⟨?_,by simp,by simpa using hne⟩
    simp only[List.flatMap_nil]
    rw[JZ]
    exact⟨hC.nd,by simp,fun a ha b hb=>by simp at hb;subst hb;exact hne a ha⟩
  · have hn:=hC.nd
    refine⟨hn,fun x hx=> ?_,fun x hx he=> ?_⟩
    · simp only[JI,Qn]at hx⊢
      rcases hx with hx|hx
      · exact .inl hx
      · exact .inr (.inr hx)
    · subst he
      rw[JZ]at hn
      obtain⟨n1,n2,n3⟩:=hn
      rcases JI.1 hx with hx|hx
      · exact n3 x hx x (by simp) rfl
      · exact(Zx.1 n2).1 hx
 obtain⟨hn,hin,hne⟩:=hJ
 have hmem:∀x∈S++id::(l++[o]).flatMap (·.i),x∈S++l.flatMap (·.i)∨x=id∨x∈o.i:=fun x hx=>by
  simp only[List.flatMap_append,List.flatMap_cons,List.flatMap_nil,Jt,JI,Qn]at hx⊢
  rcases hx with hx|rfl|hx|hx
  · exact .inl (.inl hx)
  · exact .inr (.inl rfl)
  · exact .inl (.inr hx)
  · exact .inr (.inr hx)
 refine⟨hout, .inr ⟨id,g',by simp,hid,rfl⟩,fun o' ho'=> ?_, ?_, ?_,fun x hx=> ?_⟩
 · rcases JI.1 ho' with ho'|ho'
   · refine(hC.cells o' ho').same fun k hk=> ?_
     have:k∈S++l.flatMap (·.i):=JI.2 (.inr (List.mem_flatMap.2 ⟨o',ho',hk⟩))
     exact hs k (hin k this) (hne k this)
   · simp at ho';subst ho';exact ho
 · refine hC.giv.same fun k hk=> ?_
   have:k∈S++l.flatMap (·.i):=JI.2 (.inl hk)
   exact hs k (hin k this) (hne k this)
 · have e:S++id::(l++[o]).flatMap (·.i)=(S++id::l.flatMap (·.i))++o.i:=by simp
   rw[e,JZ]
   refine⟨hn,ho.nd,fun a ha b hb he=> ?_⟩
   subst he
   have h4:=hoi a hb
   have:a∈S++l.flatMap (·.i):=by
    simp only[JI,Qn]at ha⊢
    rcases ha with ha|ha|ha
    · exact .inl ha
    · exact absurd ha h4.2.2.1
    · exact .inr ha
   have:=hC.lt a (hin a this)
   omega
 · rcases hmem x hx with hx|rfl|hx
   · have:=hC.lt x (hin x hx);omega
   · exact hi
   · have:=hoi x hx;omega
def puzQ0(p:QR):KV:=fun v H=>∃c r S1 S2,v= .agg [.f (.int .i64 p.size),c,r]∧Qr H c p.given S1∧((r= .f .nil∧p.rules=[]∧S2=[])∨Ur H r p.rules S2)∧(S1++S2).Nodup
def Jkn:CV→Prop
 | .own _ _ _ _ lim=>lim=none
 | .f .nil=>True
 |_=>False
def JkV(p:QR):KV:=fun v H=>∃c r S1 S2,v= .agg [.f (.int .i64 p.size),c,r]∧Qr H c p.given S1∧((r= .f .nil∧p.rules=[]∧S2=[])∨Ur H r p.rules S2)∧(S1++S2).Nodup∧Jkn r
theorem CpI.done{B B':Jn}{j g:Nat}{p:QR}{c r:CV}{l:List RO}{S I:List Nat}(hC:CpI B j g p.size p.given c r l S I)(hm:l.map (·.r)=p.rules)(hs:∀k∈I,B'[k]? =B[k]?):
 JkV p (.agg [.f (.int .i64 p.size),c,r]) B':=by
 rcases hC.rl with⟨rfl,rfl,rfl⟩|⟨id,g',rfl,hid,rfl⟩
 · exact⟨_,_,_,[],rfl,hC.giv.same hs, .inl ⟨rfl,hm.symm,rfl⟩,by rw[Jt];exact hC.nd,trivial⟩
 · refine⟨_,_,_,_,rfl,hC.giv.same fun k hk=>hs k (JI.2 (.inl hk)), .inr ?_,hC.nd,rfl⟩
   rw[←hm]
   refine Ur.same (.o id g' none l [] (by rw[Jt];exact hid) hC.cells ?_ (by simp)) fun k hk=>hs k (JI.2 (.inr hk))
   have:=hC.nd
   rw[JZ]at this
   exact this.2.1
theorem QP{H:Jn}{id g sz:Nat}{cs:List CV}(h:id<H.length):look (H.set id (some ⟨g,sz,cs⟩)) id g=some ⟨g,sz,cs⟩:=Qj (b:=⟨g,sz,cs⟩) (by rw[JE h])
theorem FO(p:QR)(hx:RC p):Jk Tryz.prog 78 [aP p] [] (JkV p):=by
 refine Jk.cw (c:=_) Tryz.func78 rfl (n:=31) Tryz.ntmps78 (rs:=[.cell 2 26]) rfl ?_
 simp only[Ja,Je,zA,zS,Jf,Jb,Jd]
 simp(maxSteps:=999999)(disch:=omega)only[go_sem,zA,zM,zS,zE,zL]
 intro g1 g2
 refine Ug [0,1,2,3,6,4,5] [] (some 6) [7] [] ZE (by kernel_rfl) ?_
 simp(maxSteps:=999999)(disch:=omega)only[go_sem,Nat.reduceBEq,Bool.true_or,zA,zM,zS,zE,zL]
 refine JG.mkI (X7 p.given hx.1) (⟨_,Tryz.func89,rfl,rfl⟩:Jg Tryz.prog 89) rfl rfl rfl ?_
 intro c H1 S h1 hS
 simp(maxSteps:=999999)(disch:=omega)only[go_sem,zA,zM,zS,zE,zL,JF,Qy]
 intro g
 refine Qx (fun(i:Nat) (b:Jn×CV×List RO×List Nat)=>p.rules.length -i) (fun i b=>i≤p.rules.length∧b.2.2.1.length=i∧b.2.2.1.map (·.r)=p.rules.take i∧look b.1 1 g2=some ⟨g2,3,[.f (.int .i64 0), .f .nil, .f .nil]⟩∧CpI b.1 (H1.length+1+1) g p.size p.given c b.2.1 b.2.2.1 S b.2.2.2)
  (fun i _=>[.a, .a, .k, .k, .a, .a, .a, .a, .a, .a, .a, .a, .a, .k, .k, .p (int i), .a, .a, .a, .a, .a, .a, .a, .a, .a, .a, .a, .a, .a, .a, .a]) (fun i b=>b.1) 0 (some ⟨g1,1,cP p⟩::some ⟨g2,3,[.f (.int .i64 0), .f .nil, .f .nil]⟩::(H1++[some ⟨g,3,[.f (.int .i64 p.size),c, .f .nil]⟩]), .f .nil,[],S)
  ⟨Nat.zero_le _,rfl,rfl,Qj (b:=⟨g2,3,[.f (.int .i64 0), .f .nil, .f .nil]⟩) rfl, ?_⟩ (by simp(maxSteps:=999999)(disch:=omega)only[go_sem,zA,zM,zS,zE,zL];rfl) (J5.refl _) ?_
 · refine⟨Qj (b:=⟨g,3,[.f (.int .i64 p.size),c, .f .nil]⟩) (by simp), .inl ⟨rfl,rfl,rfl⟩,by simp,h1.app,h1.nd,fun x hx=> ?_⟩
   have:=hS x hx
   simp only[Jq,Ja,Je]at this⊢
   omega
 rintro i ⟨B,r,l,I⟩ ⟨hi,hl,hm,h1,hC⟩
 simp only at hl hm h1 hC⊢
 have hj2:2≤H1.length+1+1:=by omega
 generalize H1.length+1+1=j at hC hj2⊢
 simp(maxSteps:=999999)(disch:=omega)only[go_sem,zA,zM,zS,zE,zL]
 ((first|(with_reducible first|refine Jm ?_ ?_|refine Jj ?_ ?_|refine Jo ?_ ?_)|refine Jr ?_ ?_)<;>intro h)
 · have h:i<p.rules.length:=by omega
   simp(maxSteps:=999999)(disch:=omega)only[go_sem,zA,zM,zS,zE,zL,JF,Qy]
   intro g3
   refine JU.mkI (X7 (Jy p.rules i).cells (hx.2.2 _ (Q8 h))) (⟨_,Tryz.func89,rfl,rfl⟩:Jg Tryz.prog 89) rfl rfl rfl ?_
   intro c3 H3 S3 h3 hS3
   simp(maxSteps:=999999)(disch:=omega)only[go_sem,zA,zM,zS,zE,zL,JcL,JjO]
   generalize hB2:B++[some ⟨g3,3,[.f (.int .i64 (Jy p.rules i).kind),c3, .f (.int .i64 (Jy p.rules i).val)]⟩]++H3=B2
   have hap:∃X,B2=B++X:=⟨_,by rw[←hB2,JW]⟩
   have hlB:B.length<B2.length:=by rw[←hB2];simp
   have hR:look B2 B.length g3=some ⟨g3,3,[.f (.int .i64 (Jy p.rules i).kind),c3, .f (.int .i64 (Jy p.rules i).val)]⟩:=by rw[←hB2];exact JcL
   have hB:∀{k g':Nat} {b:Zo},look B k g'=some b→look B2 k g'=some b:=fun h=>by obtain⟨X,rfl⟩:=hap;exact J2 h
   have h4:Qr B2 c3 (Jy p.rules i).cells S3:=by
    refine h3.same fun k hk=> ?_
    have:=hS3 k hk
    simp only[Jq,Ja,Je]at this
    rw[←hB2]
    simp only[JW,Jb,Jd]
    rw[JV (by omega),JV (by omega),List.getElem?_cons,List.getElem?_cons]
    rw[if_neg (by omega),if_neg (by omega)]
   have hS4:∀k∈S3,B.length+1≤k∧k<B2.length:=fun k hk=>by
    have:=hS3 k hk
    rw[←hB2]
    simp only[Jq,Ja,Je]at this⊢
    omega
   have hpl:p.rules.length≤2^40:=hx.2.1
   have hk1:∀k,k<B.length→B2[k]? =B[k]? :=fun k hk=>by obtain⟨X,rfl⟩:=hap;exact Jc hk
   have hlen:1<B.length:=(Jh.1 (JH h1).1).1
   have hjl:j<B.length:=(Jh.1 (JH hC.out).1).1
   have h12:=hB h1
   have hj:=hB hC.out
   clear hB2 h3 hS3
   rcases hC.rl with⟨rfl,rfl,rfl⟩|⟨id,g',rfl,hid,rfl⟩
   · have hj5:∀X,look (B2++X) j g=some ⟨g,3,[.f (.int .i64 p.size),c, .f .nil]⟩:=fun X=>J2 hj
     have hj6:∀X Y,look (B2++X++Y) j g=some ⟨g,3,[.f (.int .i64 p.size),c, .f .nil]⟩:=fun X Y=>J2 (J2 hj)
     simp(maxSteps:=999999)(disch:=omega)only[go_sem,zA,zM,zS,zE,zL,hR,hj,hj5,hj6,JF,Qy]
     intro g4 g5
     refine⟨i+1,(_, .own (B2.length+1) g5 0 1 none,[]++[⟨Jy p.rules i,c3,S3⟩],_),⟨⟨h,by simp at hl⊢;omega,by rw[Qo,hm,Qa h];rfl, ?_,CpI.next (id:=B2.length+1) (g':=g5) hC ⟨Jy p.rules i,c3,S3⟩ (.inl ⟨rfl,rfl,by omega⟩) (fun k hk hki=> ?_) ?_ ?_ ?_ (h4.same fun k hk=> ?_) (fun k hk=> ?_) ?_ hlen⟩,by omega⟩,by omega,J5.refl _⟩
     · rw[ZC (by omega)];exact J2 (J2 h12)
     · have:=hC.lt k hk
       rw[Ji (by omega),Jc (by simp;omega),Jc (by omega),hk1 k (by omega)]
     · simp;omega
     · exact QP (by simp;omega)
     · rw[ZC (by omega)]
       exact Qj (b:=⟨g5,3,[.f (.int .i64 (Jy p.rules i).kind),c3, .f (.int .i64 (Jy p.rules i).val)]⟩) (by simp)
     · have:=hS4 k hk
       rw[Ji (by omega),Jc (by simp;omega),Jc (by omega)]
     · have:=hS4 k hk
       simp only[Jp,Jq,Ja,Je]
       omega
     · simp only[Jp,Jq,Ja,Je]
       omega
   · have hid:=hB hid
     have hne:=hC.lt id (by simp)
     have hj5:∀X,look (B2++X) j g=some ⟨g,3,[.f (.int .i64 p.size),c, .own id g' 0 l.length none]⟩:=fun X=>J2 hj
     have hid5:∀X,look (B2++X) id g'=some ⟨g',3,kl kR l⟩:=fun X=>J2 hid
     have hnj:id≠j:=hne.2.2
     have hll:l.length≤2^40:=by have:=hx.2.1;omega
     simp(maxSteps:=999999)(disch:=omega)only[go_sem,zA,zM,zS,zE,zL,hR,hj,hj5,hid5,JF,Qy,UW,ZC hnj]
     intro g4 g5
     refine⟨i+1,(_, .own id g5 0 (l.length+1) none,l++[⟨Jy p.rules i,c3,S3⟩],_),⟨⟨h,by simp[hl],by rw[Qo,hm,Qa h];rfl, ?_,CpI.next (id:=id) (g':=g5) hC ⟨Jy p.rules i,c3,S3⟩ (.inr rfl) (fun k hk hki=> ?_) ?_ ?_ ?_ (h4.same fun k hk=> ?_) (fun k hk=> ?_) ?_ hlen⟩,by omega⟩,by omega,J5.refl _⟩
     · rw[ZC (by omega),ZC (by omega)];exact J2 h12
     · have:=hC.lt k hk
       rw[Ji (by omega),Ji (by omega),Jc (by omega),hk1 k (by omega)]
     · simp;omega
     · exact QP (by simp;omega)
     · rw[ZC (by omega),QP (by simp;omega),BN]
       rfl
     · have:=hS4 k hk
       rw[Ji (by omega),Ji (by omega),Jc (by omega)]
     · have:=hS4 k hk
       simp only[Jp,Jq,Ja,Je]
       omega
     · simp only[Jp,Jq,Ja,Je]
       omega
 · have hout:=hC.out
   have hlen:1<B.length:=by
    obtain⟨hh,_⟩:=JH h1
    exact(Jh.1 hh).1
   simp(maxSteps:=999999)(disch:=omega)only[go_sem,zA,zM,zS,zE,zL,hout,h1,QP hlen]
   have hi':i=p.rules.length:=by omega
   subst hi'
   rw[List.take_length]at hm
   refine⟨_,J5.refl _,hC.done hm fun k hk=> ?_⟩
   have:=hC.lt k hk
   exact Ji (by omega)
theorem Ki(p:QR)(hx:RC p):Jk Tryz.prog 78 [aP p] [] (puzQ0 p):=
 (FO p hx).weaker fun v H' ⟨c,r,S1,S2,h1,h2,h3,h4,_⟩=>⟨H',J5.refl _,c,r,S1,S2,h1,h2,h3,h4⟩
end Go.Lg

namespace Go.Lg
open Go.Proofs
section
variable{P:Program}{ops:Array Oper}{o:Oper}{s:List AV}{H:Jn}{K:KV}{fo:Operand}{xs:Array Operand}{ts:Array TypeId}{f:FuncId}{args args':List AV}{zs:List Int}
theorem JG.mkP{p:QR}(hc:Jk P f args [] (Jj0 p))(he:Jg P f)(ho:o.op= .call ⟨.value fo,xs,ts⟩)(ha:Qb ⟨s,H⟩ fo xs=some (f,args))(hf:args.all Q2=true)
 (hk:∀cs H' S,Wj (H++H') cs p S→(∀i∈S,H.length≤i∧i<H.length+H'.length)→K (.agg cs) (H++H')):JG P ops o s H K:=
 JG.call ho ha fun s' ha'=>JU.mkP hc he ho ha' hf hk
end
theorem VA.wk3{w:World}{X:Cx}{H:Jn}{a b:CV}{u:Value}(h:VA w X H (.agg [a,b, .f .nil]) u):VA w X H (.agg [a,b, .f (.sl 0 [])]) u:=by
 cases h with
 |agg cs vs hs h=>
  refine .agg _ vs hs fun j hj=> ?_
  obtain⟨x,h1,h2⟩:=h j hj
  refine⟨x,h1, ?_⟩
  rcases j with _|_|_|j
  · exact h2
  · exact h2
  · have h2:VF w X.I .nil x:=h2
    cases h2
    exact VF.sl0 none 0
  · simp at hj;omega
theorem QC{a b:Option Zo}{L:Jn}{k:Nat}(h:2≤k):(a::b::L)[k]? =L[k -2]? :=by
 obtain⟨n,rfl⟩:∃n,k=n+2:=⟨k -2,by omega⟩
 rfl
theorem Jh4{S1 S2 S3 S4:List Nat}{n1 n2:Nat}(h12:(S1++S2).Nodup)(h3:S3.Nodup)(h4:S4.Nodup)(k12:∀i∈S1++S2,i<n1)(k3:∀i∈S3,n1≤i∧i<n2)(k4:∀i∈S4,n2≤i)(hn:n1≤n2):(S1++(S2++(S3++S4))).Nodup:=by
 rw[←JW,JZ]
 refine⟨h12, ?_,fun a ha b hb he=> ?_⟩
 · rw[JZ]
   refine⟨h3,h4,fun a ha b hb he=> ?_⟩
   have:=k3 a ha;have:=k4 b hb;omega
 · have:=k12 a ha
   rcases JI.1 hb with hb|hb
   · have:=k3 b hb;omega
   · have:=k4 b hb
     omega
theorem Kh(p:QR)(hx:RC p):Jk Tryz.prog 78 [aP p] [] (Jj0 p):=by
 refine(Ki p hx).wk ?_
 rintro v H' ⟨c,r,S1,S2,rfl,h1,h2,h3⟩
 rcases h2 with⟨rfl,h4,rfl⟩|h2
 · refine⟨.agg [.f (.int .i64 p.size),c, .f (.sl 0 [])],fun w X u h=> ?_,_,_,rfl,⟨_,_,S1,[],rfl,rfl,h1,by rw[h4];exact .e⟩,h3⟩
   exact h.wk3
 · exact⟨_,fun _ _ _ h=>h,_,_,rfl,⟨_,_,S1,S2,rfl,rfl,h1,h2⟩,h3⟩
theorem Bi(q:QU)(hx:smG q):Jk Tryz.prog 44 [aG q] [] (Jks q):=by
 refine Jk.cw (c:=_) Tryz.func44 rfl (n:=13) Tryz.ntmps44 (rs:=[.cell 2 28]) rfl ?_
 simp only[Ja,Je,zA,zS,Jf,Jb,Jd]
 simp(maxSteps:=999999)(disch:=omega)only[go_sem,zA,zM,zS,zE,zL]
 intro g1 g2
 refine Ug [0,1,3,4,6,7,2,5] [] none [8,9,10] [] ZE (by kernel_rfl) ?_
 simp(maxSteps:=999999)(disch:=omega)only[go_sem,Nat.reduceBEq,Bool.true_or,zA,zM,zS,zE,zL]
 refine JG.mkP (Kh q.task hx.1) (⟨_,Tryz.func78,rfl,rfl⟩:Jg Tryz.prog 78) rfl rfl rfl ?_
 rintro _ H1 _ ⟨⟨c1,c2,S1,S2,rfl,rfl,k1,k2⟩,kn⟩ hS
 simp(maxSteps:=999999)(disch:=omega)only[go_sem,zA,zM,zS,zE,zL]
 refine JG.mkI (X7 q.put hx.2.1) (⟨_,Tryz.func89,rfl,rfl⟩:Jg Tryz.prog 89) rfl rfl rfl ?_
 intro c3 H3 S3 h3 hS3
 simp(maxSteps:=999999)(disch:=omega)only[go_sem,zA,zM,zS,zE,zL]
 refine JU.mkI (X7 q.moves hx.2.2) (⟨_,Tryz.func89,rfl,rfl⟩:Jg Tryz.prog 89) rfl rfl rfl ?_
 intro c4 H4 S4 h4 hS4
 simp(maxSteps:=999999)(disch:=omega)only[go_sem,zA,zM,zS,zE,zL]
 simp only[Jq,Ja,Je]at hS hS3 hS4
 refine⟨_,J5.refl _,_,_,rfl,UF.of (p:=q.task) (S1:=S1) (S2:=S2) ⟨⟨_,_,_,_,rfl,rfl,k1.same fun k hk=> ?_,k2.same fun k hk=> ?_⟩,kn⟩ (h3.same fun k hk=> ?_) (h4.same fun k hk=> ?_) (Jh4 (n1:=H1.length+2) (n2:=H1.length+2+H3.length) kn h3.nd h4.nd (fun k hk=> ?_) (fun k hk=> ?_) (fun k hk=> ?_) (by omega))⟩
 · have:=hS k (by simp[hk])
   simp only[Jb,Jd]
   rw[QC (by omega),QC (by omega),Jc (by simp;omega),Jc (by omega)]
 · have:=hS k (by simp[hk])
   simp only[Jb,Jd]
   rw[QC (by omega),QC (by omega),Jc (by simp;omega),Jc (by omega)]
 · have:=hS3 k hk
   simp only[Jb,Jd]
   rw[QC (by omega),QC (by omega),Jc (by simp;omega)]
 · have:=hS4 k hk
   simp only[Jb,Jd]
   rw[QC (by omega),QC (by omega)]
 · have:=hS k hk;omega
 · have:=hS3 k hk;omega
 · have:=hS4 k hk;omega
end Go.Lg

namespace Go.Lg
open Go.Proofs
def wkC:CV→CV
 | .f .nil=> .f (.sl 0 [])
 |c=>c
theorem VC.wk{w:World}{X:Cx}{H:Jn}{c:CV}{v:Value}(h:VC w X H c v):VC w X H (wkC c) v:=by
 unfold wkC
 split
 · have h:VF w X.I .nil v:=h
   cases h
   exact VF.sl0 none 0
 · exact h
theorem VA.wkAgg{w:World}{X:Cx}{H:Jn}{cs:List CV}{u:Value}(h:VA w X H (.agg cs) u):VA w X H (.agg (cs.map wkC)) u:=by
 cases h with
 |agg _ vs hs h=>
  refine .agg _ vs (by simpa using hs) fun j hj=> ?_
  obtain⟨x,h1,h2⟩:=h j (by simpa using hj)
  refine⟨x,h1, ?_⟩
  rw[List.getElem_map]
  exact h2.wk
def gamQ0(q:QU):KV:=fun v H=>∃cs S,v= .agg cs∧UF H (cs.map wkC) q S
theorem Jk.gam{P:Program}{f:FuncId}{args:List AV}{H:Jn}{q:QU}(h:Jk P f args H (gamQ0 q)):Jk P f args H (Jks q):=
 h.wk fun v H' ⟨cs,S,h1,h2⟩=>⟨_,fun w X u hu=>by subst h1;exact hu.wkAgg,_,S,rfl,h2⟩
end Go.Lg

namespace Go.Lg
open Go.Proofs
def JhB(r:Zq):KV:=fun v H=>∃c S,v= .agg [.f (.int .i64 r.kind),c, .f (.int .i64 r.val)]∧Qr H c r.cells S
theorem JM.rule{P:Program}{f:FuncId}{args:List AV}{r:Zq}(h:Jk P f args [] (JhB r)):JM P f args (aR r):=
 JM.ice h fun v H' ⟨c,S,h1,h2⟩=>by
  subst h1
  have e1:∀n:Int,Lg.frzC H' (.f (.int .i64 n))=some (.f (.int .i64 n)):=fun _=>rfl
  simp only[Vu,J3,QB,XA,e1,h2.frzC,Option.map_some,Option.pure_def,Option.bind_eq_bind,Option.bind_some]
  try rfl
theorem NY(r:Zq)(hx:r.cells.length≤2^40):Jk Tryz.prog 150 [aR r] [] (JhB r):=by
 obtain⟨k,cells,v⟩:=r
 simp only at hx
 rcases Nat.eq_zero_or_pos cells.length with h0|h0
 · have:cells=[]:=List.eq_nil_of_length_eq_zero h0
   subst this
   refine Jk.cw (c:=_) Tryz.func150 rfl (n:=11) Tryz.ntmps150 (rs:=[.cell 2 101]) rfl ?_
   simp only[Ja,Je,zA,zS,Jf,Jb,Jd]
   simp(maxSteps:=999999)(disch:=omega)only[go_sem,zA,zM,zS,zE,zL]
   intro g g1 g2 g3
   show Uo [some ⟨g,1,cR ⟨k,[],v⟩⟩,some ⟨g1,3,[.f (.int .i64 k), .own 3 g3 0 0 none, .f (.int .i64 v)]⟩,some ⟨g2,3,[.f (.int .i64 k), .own 3 g3 0 0 none, .f (.int .i64 v)]⟩,some ⟨g3,1,[]⟩] (JhB ⟨k,[],v⟩) (.agg [.f (.int .i64 k), .own 3 g3 0 0 none, .f (.int .i64 v)])
   exact⟨_,J5.refl _,_,_,rfl, .o 3 g3 none [] [] (Qj (b:=⟨g3,1,[]⟩) rfl)⟩
 · refine Jk.cw (c:=_) Tryz.func150 rfl (n:=11) Tryz.ntmps150 (rs:=[.cell 2 101]) rfl ?_
   simp only[Ja,Je,zA,zS,Jf,Jb,Jd]
   simp(maxSteps:=999999)(disch:=omega)only[go_sem,zA,zM,zS,zE,zL]
   intro g g1 g2 g3 g4
   rw[Nat.zero_add]
   exact⟨_,J5.refl _,_,_,rfl, .o 3 g4 none cells [] (by rw[Jt];exact Qj (b:=⟨g4,1,cl (eI .i64) cells⟩) rfl)⟩
theorem KP(r:Zq)(hx:r.cells.length≤2^40):JM Tryz.prog 150 [aR r] (aR r):=JM.rule (NY r hx)
theorem Ba(rs:List Zq)(hx:JdH rs):Jk Tryz.prog 127 [Yf eR rs] [] (RX eR 3 rs):=by
 obtain⟨hn,hc⟩:=hx
 refine Jk.cw (c:=_) Tryz.func127 rfl (n:=21) Tryz.ntmps127 (rs:=[.tmp 2]) rfl ?_
 simp only[Ja,Je,zA,zS,Jf,Jb,Jd]
 simp(maxSteps:=999999)(disch:=omega)only[go_sem,zA,zM,zS,zE,zL]
 intro g
 refine Qx (fun(i g:Nat)=>rs.length -i) (fun i g=>i≤rs.length) (fun i g=>[.k, .a, .a, .p (.c (.own 0 g 0 i none)), .p (int i), .a, .a, .a, .a, .a, .a, .a, .a, .a, .a, .a, .a, .a, .a, .a, .a]) (fun i g=>[some ⟨g,3,cl eR (rs.take i)⟩]) 0 g
  (Nat.zero_le _) (by simp(maxSteps:=999999)(disch:=omega)only[go_sem,zA,zM,zS,zE,zL];rfl) (J5.refl _) ?_
 intro i g hi
 simp(maxSteps:=999999)(disch:=omega)only[go_sem,zA,zM,zS,zE,zL]
 ((first|(with_reducible first|refine Jm ?_ ?_|refine Jj ?_ ?_|refine Jo ?_ ?_)|refine Jr ?_ ?_)<;>intro h)
 · have h:i<rs.length:=by omega
   simp(maxSteps:=999999)(disch:=omega)only[go_sem,zA,zM,zS,zE,zL]
   first|refine JU.mk (KP (Jy rs i) (hc _ (Q8 h))) (⟨_,Tryz.func150,rfl,rfl⟩:Jg Tryz.prog 150) rfl rfl rfl rfl rfl ?_|refine JG.mk (KP (Jy rs i) (hc _ (Q8 h))) (⟨_,Tryz.func150,rfl,rfl⟩:Jg Tryz.prog 150) rfl rfl rfl rfl rfl ?_
   simp(maxSteps:=999999)(disch:=omega)only[go_sem,zA,zM,zS,zE,zL]
   intro g1 g2
   refine⟨i+1,g2,⟨h,by omega⟩,⟨⟨rfl,rfl⟩,by push_cast;omega⟩,ZY ?_ (J9 _)⟩
   rw[Qa h,Q7]
   rfl
 · have hi':i=rs.length:=by omega
   simp(maxSteps:=999999)(disch:=omega)only[go_sem,zA,zM,zS,zE,zL]
   subst hi'
   rw[List.take_length]
   exact ZK (J5.refl _)
theorem U8(rs:List Zq)(hx:JdH rs):JM Tryz.prog 127 [Yf eR rs] (Yf eR rs):=JM.own (Ba rs hx)
theorem FN(p:QR)(hx:RC p):JM Tryz.prog 98 [aP p] (aP p):=by
 obtain⟨n,gs,rs⟩:=p
 obtain⟨hg,hr⟩:=hx
 simp only at hg hr
 refine JM.iced ?_
 rcases Nat.eq_zero_or_pos gs.length with h0|h0
 · refine Jk.cw (c:=_) Tryz.func98 rfl (n:=15) Tryz.ntmps98 (rs:=[.cell 2 26]) rfl ?_
   simp only[Ja,Je,zA,zS,Jf,Jb,Jd]
   simp(maxSteps:=999999)(disch:=omega)only[go_sem,zA,zM,zS,zE,zL]
   intro g1 g2 g3 g4
   first|refine JU.mk (U8 rs hr) (⟨_,Tryz.func127,rfl,rfl⟩:Jg Tryz.prog 127) rfl rfl rfl rfl rfl ?_|refine JG.mk (U8 rs hr) (⟨_,Tryz.func127,rfl,rfl⟩:Jg Tryz.prog 127) rfl rfl rfl rfl rfl ?_
   simp(maxSteps:=999999)(disch:=omega)only[go_sem,zA,zM,zS,zE,zL]
   have:gs=[]:=List.eq_nil_of_length_eq_zero h0
   subst this
   exact VI (by simp only[go_sem,J3,QB,Vu,XA,frzC,frz,BX,Option.pure_def,Option.bind_eq_bind,Option.bind_some]<;>rfl)
 · refine Jk.cw (c:=_) Tryz.func98 rfl (n:=15) Tryz.ntmps98 (rs:=[.cell 2 26]) rfl ?_
   simp only[Ja,Je,zA,zS,Jf,Jb,Jd]
   simp(maxSteps:=999999)(disch:=omega)only[go_sem,zA,zM,zS,zE,zL]
   intro g1 g2 g3 g4 g5
   rw[Nat.zero_add]
   first|refine JU.mk (U8 rs hr) (⟨_,Tryz.func127,rfl,rfl⟩:Jg Tryz.prog 127) rfl rfl rfl rfl rfl ?_|refine JG.mk (U8 rs hr) (⟨_,Tryz.func127,rfl,rfl⟩:Jg Tryz.prog 127) rfl rfl rfl rfl rfl ?_
   simp(maxSteps:=999999)(disch:=omega)only[go_sem,zA,zM,zS,zE,zL]
   exact VI (by simp only[go_sem,J3,QB,Vu,XA,frzC,frz,BX,Option.pure_def,Option.bind_eq_bind,Option.bind_some]<;>rfl)
end Go.Lg

namespace Go.Lg
attribute [-go_sem] Qf
theorem JdE{P:Program}{ops:Array Oper}{o:Oper}{s:List AV}{K:AV→Prop}{fo:Operand}{xs:Array Operand}{ts:Array TypeId}{f:FuncId}{args:List AV}{v:AV}
 (hc:JM P f args v) (he:Jg P f) (ho:o.op= .call ⟨.value fo,xs,ts⟩) (ha:Qb ⟨s,[]⟩ fo xs=some (f,args)) (hz:∀x∈Call.operands ⟨.value fo,xs,ts⟩,Q2 (QO s x)=true) (hf:args.all Q2=true)
 (hv:FX v=true∧KF v=true∧Wb 0 v=v∧Vu [] v=some v) (hk:K v):Xm P ops o s K:=by
 unfold Xm
 rw[ho]
 refine⟨v,fun H=>Vm.ops (by rw[ho];exact hz) hv.1 fun s' hs'=> ?_,hk⟩
 refine JU.mk hc he ho ?_ hf hv.2.1 hv.2.2.1 hv.2.2.2
 rw[V3 (s:=s) (H:=[]) ts fun x hx=>hs' x (by rw[ho];exact hx)]
 exact ha
inductive Ua(H:Jn):CV→List Int→List Nat→Prop where
 |m:Ua H .emp [] []
 |o (id g:Nat) (xs:List Int) (h:look H id g=some ⟨g,1,cl (eI .i64) xs⟩):Ua H (.own id g 0 xs.length none) xs [id]
theorem Ua.frzC{H:Jn}{c:CV}{xs:List Int}{S:List Nat}(h:Ua H c xs S):Lg.frzC H c=some (.f (Ql xs)):=by
 cases h with
 |m=>rfl
 |o id g xs h=>exact(Qr.o id g none xs [] (by rw[Jt];exact h)).frzC
theorem Ua.same{H H':Jn}{c:CV}{xs:List Int}{S:List Nat}(h:Ua H c xs S)(hs:∀i∈S,H'[i]? =H[i]?):Ua H' c xs S:=by
 cases h with
 |m=>exact .m
 |o id g xs h=>exact .o id g xs (by unfold look at*;rw[hs id (by simp)];exact h)
theorem Ua.shift{H0 H:Jn}{c:CV}{xs:List Int}{S:List Nat}(h:Ua H c xs S):Ua (H0++Q1 H0.length H) (ZT H0.length c) xs (S.map (· +H0.length)):=by
 cases h with
 |m=>exact .m
 |o id g xs h=>
  refine .o (id+H0.length) g xs ?_
  rw[UG h]
  simp only[ZF,W3]
theorem Ua.lt{H:Jn}{c:CV}{xs:List Int}{S:List Nat}(h:Ua H c xs S):∀i∈S,i<H.length:=by
 cases h with
 |m=>simp
 |o id g xs h=>intro i hi;have:i=id:=by simpa using hi
               subst this;exact(Jh.1 (JH h).1).1
theorem Ua.nd{H:Jn}{c:CV}{xs:List Int}{S:List Nat}(h:Ua H c xs S):S.Nodup:=by cases h<;>simp
theorem Ua.inv{H:Jn}{c:CV}{xs:List Int}{S:List Nat}(h:Ua H c xs S)(hn:xs≠[]):∃id g,c= .own id g 0 xs.length none∧S=[id]∧look H id g=some ⟨g,1,cl (eI .i64) xs⟩:=by
 cases h with
 |m=>exact absurd rfl hn
 |o id g xs h=>exact⟨id,g,rfl,rfl,h⟩
theorem Ua.inv0{H:Jn}{c:CV}{xs:List Int}{S:List Nat}(h:Ua H c xs S)(hn:xs=[]):c= .emp∨∃id g,c= .own id g 0 0 none∧look H id g=some ⟨g,1,[]⟩:=by
 cases h with
 |m=>exact .inl rfl
 |o id g xs h=>subst hn;exact .inr ⟨id,g,rfl,h⟩
theorem FD{P:Program}{H:Jn}{t:TypeId}{ei:TI}{K:KV}(ht:QT P t=some ei)(hz:ei.zero.length=ei.size∧ei.size=1∧ei.bytes=8){xs:List Int}(hx:xs.length≤2^40)
 (hk:∀c H' S,Ua (H++H') c xs S→(∀k∈S,H.length≤k∧k<H.length+H'.length)→K (.c c) (H++H')):Qf P H t (.c .emp) (.c (.f (.sl xs.length (fl (eI .i64) xs)))) K:=by
 obtain⟨hz1,hz2,hz3⟩:=hz
 unfold Qf
 simp only[ht,hz1,hz2,if_true,elems,Wh,YM]
 split
 · rename_i h0
   have:xs=[]:=List.eq_nil_of_length_eq_zero h0
   subst this
   have:=hk .emp [] [] .m (by simp)
   rwa [Jt]at this
 · refine⟨⟨by omega,by rw[hz3];omega⟩,fun g=> ?_⟩
   exact hk _ [some ⟨g,1,cl (eI .i64) xs⟩] [H.length] (.o H.length g xs (Qj (b:=⟨g,1,cl (eI .i64) xs⟩) (by simp))) (by simp)
theorem Jg0{P:Program}{H:Jn}{t:TypeId}{ei:TI}{K:KV}(ht:QT P t=some ei)(hz:ei.zero.length=ei.size∧ei.size=1∧ei.bytes=8){c:CV}{xs:List Int}{S:List Nat}(h:Ua H c xs S)(hx:xs.length≤2^40)
 {n g:Nat} {lim:Option Nat} {v:Int} (hl:look H n g=some ⟨g,1,[.f (.int .i64 v)]⟩)
 (hk:∀c' H' S',Ua H' c' (xs++[v]) S'→(∀k,k<H.length→k∉S→H'[k]? =H[k]?)→(∀k∈S',k∈S∨H.length≤k)→H.length≤H'.length→K (.c c') H'):
 Qf P H t (.c c) (.c (.own n g 0 1 lim)) K:=by
 obtain⟨hz1,hz2,hz3⟩:=hz
 unfold Qf
 cases h with
 |m=>
  simp only[ht,hz1,hz2,if_true,elems,hl,J1,Nat.one_mul,YM,hz3,KB,BK]
  refine⟨⟨by omega,by omega⟩,fun g'=> ?_⟩
  refine hk _ _ [H.length] (Ua.o H.length g' [v] (Qj (b:=⟨g',1,cl (eI .i64) [v]⟩) (by simp;rfl))) (fun k hk _=>Jc hk) (by simp) (by simp)
 |o id g2 xs hl2=>
  have hlt:id<H.length:=(Jh.1 (JH hl2).1).1
  simp only[ht,hz1,hz2,if_true,elems,hl,hl2,J1,Nat.one_mul,YM,hz3,KB,Qu,Nat.mul_one]
  refine⟨⟨trivial,by omega,trivial,by omega,by omega⟩,fun g'=> ?_⟩
  have:=Ua.o (H:=H.set id (some ⟨g',1,cl (eI .i64) xs++[.f (.int .i64 v)]⟩)) id g' (xs++[v]) (Qj (b:=⟨g',1,cl (eI .i64) (xs++[v])⟩) (by rw[JE hlt,Q7];rfl))
  rw[Jq]at this
  exact hk _ _ [id] this (fun k _ hk=>by rw[Ji (by simp at hk;omega)]) (fun k hk=> .inl hk) (by simp)
end Go.Lg

namespace Go.Lg
open Go.Proofs
def mrk(k:Int):List Zq→List Zq
 |[]=>[]
 |r::rs=>⟨k,UQ (k+1) r.cells.length,k+1+r.cells.length⟩::mrk (k+2+r.cells.length) rs
def wM(rs:List Zq):Nat:=(rs.map fun r=>2+r.cells.length).sum
theorem VD(k:Int)(rs:List Zq):(mrk k rs).length=rs.length:=by
 induction rs generalizing k with
 |nil=>rfl
 |cons r rs ih=>simp[mrk,ih]
theorem Jdt(a b:List Zq):wM (a++b)=wM a+wM b:=by simp[wM]
theorem Jhd(r:Zq):wM [r]=2+r.cells.length:=by simp[wM]
theorem Je3(k:Int)(a b:List Zq):mrk k (a++b)=mrk k a++mrk (k+wM a) b:=by
 induction a generalizing k with
 |nil=>simp[mrk,wM]
 |cons r a ih=>
  simp only[Jb,mrk,ih,wM,Qh,Zw]
  congr 3
  push_cast
  omega
theorem Ya(rs:List Zq)(i:Nat):wM (rs.take i)≤wM rs:=by
 conv=>rhs;rw[←QD i rs,Jdt]
 omega
theorem wM_le(rs:List Zq):wM rs≤2*wRs rs:=by
 unfold wM wRs
 induction rs with
 |nil=>simp
 |cons r rs ih=>simp only[Qh,Zw,Ja]at ih⊢;omega
theorem Je2{k:Int}{rs:List Zq}{i:Nat}(h:i<rs.length):Jy (mrk k rs) i=⟨k+wM (rs.take i),UQ (k+wM (rs.take i)+1) (Jy rs i).cells.length,k+wM (rs.take i)+1+(Jy rs i).cells.length⟩:=by
 have e:rs=rs.take i++(Jy rs i::rs.drop (i+1)):=by
  rw[Qe (by omega)]
  simp
 have e2:mrk k rs=mrk k (rs.take i)++mrk (k+wM (rs.take i)) (Jy rs i::rs.drop (i+1)):=by
  conv=>lhs;rw[e]
  exact Je3 _ _ _
 rw[e2,Qe (by simp[VD];omega)]
 simp only[Int.toNat_natCast]
 rw[List.getElem_append_right (by rw[VD];simp;omega)]
 simp[mrk,VD,Nat.min_eq_left (Nat.le_of_lt h)]
theorem RI{A ys m:List CV}{o:Nat}(h:o+m.length≤A.length):J6 (A++ys) o m=J6 A o m++ys:=by
 simp only[J6]
 rw[List.take_append_of_le_length (by omega),List.drop_append_of_le_length (by omega)]
 simp
theorem JlP{g:Nat}{l:List RO}{ys:List CV}{i:Nat}(h:i<l.length):ldP (some ⟨g,3,kl kR l++ys⟩) (0+((i:Int)).toNat*3+1)=some (.c l[i].c):=by
 have hl:=UW (E:=kR) l
 have hle:(i+1)*3≤l.length*3:=Nat.mul_le_mul_right _ h
 rw[GV]
 simp only[Int.toNat_natCast,Nat.zero_add]
 rw[Jc (by omega),JcR h (by omega)]
 rfl
def RO.setK(o:RO)(k:Int):RO:={o with r:={o.r with kind:=k}}
def RO.setV(o:RO)(k:Int):RO:={o with r:={o.r with val:=k}}
def RO.setC(o:RO)(xs:List Int):RO:={o with r:={o.r with cells:=xs}}
theorem Jhu{l:List RO}{ys:List CV}{i:Nat}{k:Int}(h:i<l.length):J6 (kl kR l++ys) (0+((i:Int)).toNat*3+0) [.f (.int .i64 k)]=kl kR (l.set i (l[i].setK k))++ys:=by
 have hl:=UW (E:=kR) l
 have hle:(i+1)*3≤l.length*3:=Nat.mul_le_mul_right _ h
 simp only[Int.toNat_natCast]
 rw[RI (by simp;omega),RF (v:=l[i].setK k) h (by omega) rfl]
theorem JjN{l:List RO}{ys:List CV}{i:Nat}{k:Int}(h:i<l.length):J6 (kl kR l++ys) (0+((i:Int)).toNat*3+2) [.f (.int .i64 k)]=kl kR (l.set i (l[i].setV k))++ys:=by
 have hl:=UW (E:=kR) l
 have hle:(i+1)*3≤l.length*3:=Nat.mul_le_mul_right _ h
 simp only[Int.toNat_natCast]
 rw[RI (by simp;omega),RF (v:=l[i].setV k) h (by omega) rfl]
theorem Jkp{l:List RO}{i:Nat}{xs:List Int}(h:i<l.length):kl kR (l.set i (l[i].setC xs))=kl kR l:=by
 have e:kl kR (l.set i (l[i].setC xs))=kl kR (l.set i l[i]):=by
  rw[List.set_eq_take_append_cons_drop,if_pos h,List.set_eq_take_append_cons_drop,if_pos h]
  rw[BN,BN]
  rfl
 rw[e,List.set_getElem_self]
theorem JaL{l:List RO}(hn:(l.flatMap (·.i)).Nodup){i j:Nat}(hi:i<l.length)(hj:j<l.length)(hij:i<j){x:Nat}(h1:x∈l[i].i)(h2:x∈l[j].i):False:=by
 rw[←QD j l,List.flatMap_append,JZ]at hn
 refine hn.2.2 x (List.mem_flatMap.2 ⟨l[i], ?_,h1⟩) x (List.mem_flatMap.2 ⟨l[j], ?_,h2⟩) rfl
 · rw[List.mem_take_iff_getElem]
   exact⟨i,by omega,rfl⟩
 · exact List.mem_iff_getElem.2 ⟨0,by simp;omega,by simp⟩
def Jf7(k:Int)(p:QR):QR:=⟨p.size,UQ k p.given.length,mrk (k+p.given.length) p.rules⟩
def FG(p:QR):Nat:=p.given.length+wM p.rules
def mrkG(k:Int)(q:QU):QU:=⟨Jf7 k q.task,UQ (k+FG q.task) q.put.length,UQ (k+FG q.task+q.put.length) q.moves.length⟩
def Rw(q:QU):Nat:=FG q.task+q.put.length+q.moves.length
theorem FL(k:Int):JM Tryz.prog 101 [Yf eR [],int k] (int k):=by
 refine Jk.cw (c:=_) Tryz.func101 rfl (n:=34) Tryz.ntmps101 (rs:=[.tmp 4]) rfl ?_
 simp only[Ja,Je,zA,zS,Jf,Jb,Jd]
 simp(maxSteps:=999999)(disch:=omega)only[go_sem,zA,zM,zS,zE,zL]
 refine JO (fun _:Unit=>0) (fun _=>True) (fun _=>[.k, .p (int k), .a, .a, .a, .p (int 0), .a, .a, .a, .a, .a, .a, .a, .a, .a, .a, .a, .a, .a, .a, .a, .a, .a, .a, .a, .a, .a, .a, .a, .a, .a, .a, .a, .a]) (fun _=>[]) () trivial (by simp(maxSteps:=999999)(disch:=omega)only[go_sem,zA,zM,zS,zE,zL]) (J9 _) ?_
 intro _ _
 simp(maxSteps:=999999)(disch:=omega)only[go_sem,zA,zM,zS,zE,zL]
 simp only[show decide ((0:Int)<((0:Nat):Int))=false from rfl]
 simp(maxSteps:=999999)(disch:=omega)only[go_sem,zA,zM,zS,zE,zL]
theorem GO(H:Jn)(c:CV)(rs:List Zq)(S:List Nat)(k:Int)(h:Ur H c rs S)(hk:0≤k∧k+wM rs≤2^50)(hx:JdH rs):
 Jk Tryz.prog 101 [.c c,int k] H (fun r H'=>r=int (k+wM rs)∧Ur H' c (mrk k rs) S∧WA H H' S):=by
 cases h with
 |e=>
  refine(Jk.frame rfl (FL k) fun r H' h=>by rw[h];rfl).weaker ?_
  rintro r H2 ⟨r',H',rfl,rfl,rfl⟩
  refine⟨H,J5.app _ _, ?_, .e,WA.refl _ _⟩
  simp[Wb,shift1,ZT,wM]
 |o id g lim l ys hlook ho hnd hy=>
  obtain⟨hn,hcl⟩:=hx
  simp only[Qi]at hn
  refine Jk.cw (c:=_) Tryz.func101 rfl (n:=34) Tryz.ntmps101 (rs:=[.tmp 4]) rfl ?_
  simp only[Ja,Je,zA,zS,Jf,Jb,Jd]
  simp(maxSteps:=999999)(disch:=omega)only[go_sem,zA,zM,zS,zE,zL]
  refine Xa (fun(i:Nat) (b:Jn×List RO) (kk:Int)=>l.length -i)
   (fun i b kk=>i≤l.length∧kk=k+wM ((l.map (·.r)).take i)∧WA H b.1 (id::l.flatMap (·.i))∧look b.1 id g=some ⟨g,3,kl kR b.2++ys⟩∧b.2.length=l.length∧(∀j (h1:j<b.2.length) (h2:j<l.length),b.2[j].c=l[j].c∧b.2[j].i=l[j].i∧Qr b.1 b.2[j].c b.2[j].r.cells b.2[j].i)∧
     (b.2.take i).map (·.r)=mrk k ((l.map (·.r)).take i)∧(b.2.drop i).map (·.r)=(l.map (·.r)).drop i)
   (fun i b kk=>[.k, .p (int kk), .a, .a, .a, .p (int i), .a, .a, .a, .a, .a, .a, .a, .a, .a, .a, .a, .a, .a, .a, .a, .a, .a, .a, .a, .a, .a, .a, .a, .a, .a, .a, .a, .a]) (fun _ b _=>b.1) 0 (H,l) k
   ⟨Nat.zero_le _,by simp[wM],WA.refl _ _,hlook,rfl,fun j h1 h2=>⟨rfl,rfl,ho _ (List.getElem_mem h1)⟩,rfl,rfl⟩ (by simp(maxSteps:=999999)(disch:=omega)only[go_sem,zA,zM,zS,zE,zL];rfl) (J5.refl _) ?_
  rintro i ⟨H1,l1⟩ kk ⟨hi,hkk,hf,hl1,hlen,hall,hm1,hm2⟩
  simp only at hf hl1 hlen hall hm1 hm2⊢
  have hle:=Ya (l.map (·.r)) i
  have hidlt:id<H1.length:=(Jh.1 (JH hl1).1).1
  simp(maxSteps:=999999)(disch:=omega)only[go_sem,zA,zM,zS,zE,zL,hl1]
  ((first|(with_reducible first|refine Jm ?_ ?_|refine Jj ?_ ?_|refine Jo ?_ ?_)|refine Jr ?_ ?_)<;>intro h)
  · have h:i<l.length:=by omega
    have h':i<l1.length:=by omega
    have hkl:=UW (E:=kR) l1
    have hmul:(i+1)*3≤l1.length*3:=Nat.mul_le_mul_right _ h'
    obtain⟨q1,q2,q3⟩:=hall i h' h
    have hr:l1[i].r=l[i].r:=by
     have:=congrArg (fun q=>q[0]?) hm2
     simp only[Qk,List.getElem?_drop,Nat.add_zero,Jl h',Jl h,Option.map_some,Option.some.injEq]at this
     exact this
    have hc40:l1[i].r.cells.length≤2^40:=by rw[hr];exact hcl _ (Qg.2 ⟨l[i],List.getElem_mem h,rfl⟩)
    have htk:(l.map (·.r)).take (i+1)=(l.map (·.r)).take i++[l[i].r]:=by rw[List.take_succ_eq_append_getElem (by simpa using h)];simp
    have hw1:wM ((l.map (·.r)).take (i+1))=wM ((l.map (·.r)).take i)+(2+l1[i].r.cells.length):=by rw[htk,Jdt,Jhd,hr]
    have hle2:=Ya (l.map (·.r)) (i+1)
    have hs:∀cs:List CV,look (H1.set id (some ⟨g,3,cs⟩)) id g=some ⟨g,3,cs⟩:=fun cs=>Qj (b:=⟨g,3,cs⟩) (by rw[JE hidlt])
    have e1:=Jhu (ys:=ys) (k:=kk) h'
    have hgi:(l1.set i (l1[i].setK kk))[i]'(by simp;exact h')=l1[i].setK kk:=by simp
    have e2:=JlP (g:=g) (ys:=ys) (l:=l1.set i (l1[i].setK kk)) (i:=i) (by simpa using h')
    rw[hgi]at e2
    simp(maxSteps:=999999)(disch:=omega)only[go_sem,zA,zM,zS,zE,zL,hl1,e1,hs,e2,Jq]
    let H2:Jn:=H1.set id (some ⟨g,3,kl kR (l1.set i (l1[i].setK kk))++ys⟩)
    have hq3:Qr H2 l1[i].c l1[i].r.cells l1[i].i:=q3.frm (WA.set _ _ _) fun x hx=>by
     simp
     rintro rfl
     rw[q2]at hx
     exact(Zx.1 hnd).1 (List.mem_flatMap.2 ⟨l[i],List.getElem_mem h,hx⟩)
    refine JU.run (Wn H2 l1[i].c l1[i].r.cells l1[i].i (kk+1) hq3 (by omega) hc40) (⟨_,Tryz.func64,rfl,rfl⟩:Jg Tryz.prog 64) rfl rfl ?_
    rintro _ H3 ⟨rfl,hq4,hf3⟩
    have hid3:id∉l1[i].i:=by rw[q2];exact fun hx=>(Zx.1 hnd).1 (List.mem_flatMap.2 ⟨l[i],List.getElem_mem h,hx⟩)
    have hl3:look H3 id g=some ⟨g,3,kl kR (l1.set i (l1[i].setK kk))++ys⟩:=by rw[hf3.look hid3];exact hs _
    have hid3lt:id<H3.length:=(Jh.1 (JH hl3).1).1
    have hlen3:i<(l1.set i (l1[i].setK kk)).length:=by simpa using h'
    have hkl3:=UW (E:=kR) (l1.set i (l1[i].setK kk))
    simp only[Jp]at hkl3
    have e3:=JjN (ys:=ys) (k:=kk+1+l1[i].r.cells.length) hlen3
    rw[hgi]at e3
    simp(maxSteps:=999999)(disch:=omega)only[go_sem,zA,zM,zS,zE,zL,hl3,e3,Jq]
    have e4:kl kR ((l1.set i (l1[i].setK kk)).set i ((l1[i].setK kk).setV (kk+1+l1[i].r.cells.length)))=kl kR (l1.set i ⟨⟨kk,UQ (kk+1) l1[i].r.cells.length,kk+1+l1[i].r.cells.length⟩,l1[i].c,l1[i].i⟩):=by
     rw[List.set_set]
     have:=Jkp (l:=l1.set i ((l1[i].setK kk).setV (kk+1+l1[i].r.cells.length))) (i:=i) (xs:=UQ (kk+1) l1[i].r.cells.length) (by simpa using h')
     rw[List.set_set]at this
     rw[←this]
     simp only[List.getElem_set_self]
     rfl
    rw[e4]
    refine⟨i+1,(_,l1.set i ⟨⟨kk,UQ (kk+1) l1[i].r.cells.length,kk+1+l1[i].r.cells.length⟩,l1[i].c,l1[i].i⟩),kk+1+l1[i].r.cells.length+1,⟨⟨h, ?_, ?_, ?_,by simp[hlen],fun j h1 h2=> ?_, ?_, ?_⟩,by omega⟩,⟨by omega,by omega⟩,J5.refl _⟩
    · rw[hw1];push_cast;omega
    · refine(hf.trans ((WA.set H1 id _).mono (by simp))).trans ((hf3.mono fun x hx=> ?_).trans ((WA.set H3 id _).mono (by simp)))
      rw[q2]at hx
      exact List.mem_cons_of_mem _ (List.mem_flatMap.2 ⟨l[i],List.getElem_mem h,hx⟩)
    · exact Qj (b:=⟨g,3,kl kR (l1.set i ⟨⟨kk,UQ (kk+1) l1[i].r.cells.length,kk+1+l1[i].r.cells.length⟩,l1[i].c,l1[i].i⟩)++ys⟩) (by simp only[JE hid3lt])
    · simp only[Jp]at h1
      obtain⟨p1,p2,p3⟩:=hall j h1 h2
      have hidj:id∉l[j].i:=fun hx=>(Zx.1 hnd).1 (List.mem_flatMap.2 ⟨l[j],List.getElem_mem h2,hx⟩)
      by_cases hij:i=j
      · subst hij
        simp only[List.getElem_set_self]
        refine⟨q1,q2,hq4.frm (WA.set _ _ _) fun x hx=> ?_⟩
        simp
        rintro rfl
        exact hid3 hx
      · simp only[List.getElem_set_ne hij]
        refine⟨p1,p2,((p3.frm (WA.set _ _ _) fun x hx=> ?_).frm hf3 fun x hx=> ?_).frm (WA.set _ _ _) fun x hx=> ?_⟩
        · simp
          rintro rfl
          rw[p2]at hx;exact hidj hx
        · rw[p2]at hx
          rw[q2]
          have hn2:=(Zx.1 hnd).2
          rcases Nat.lt_or_gt_of_ne hij with hlt|hlt
          · exact fun hy=>JaL hn2 h h2 hlt hy hx
          · exact fun hy=>JaL hn2 h2 h hlt hx hy
        · simp
          rintro rfl
          rw[p2]at hx;exact hidj hx
    · rw[htk,Je3,←hm1,←hkk]
      rw[List.take_set,List.take_succ_eq_append_getElem h',List.set_append_right _ _ (by simp;omega)]
      simp[mrk,hr,Nat.min_eq_left (Nat.le_of_lt h')]
    · rw[List.drop_set_of_lt (by omega)]
      have:=congrArg (List.drop 1) hm2
      simp only[←List.map_drop,List.drop_drop]at this⊢
      exact this
  · have hil:i=l.length:=by omega
    subst hil
    simp(maxSteps:=999999)(disch:=omega)only[go_sem,zA,zM,zS,zE,zL]
    refine⟨H1,J5.refl _, ?_, ?_,hf⟩
    · rw[hkk,Js (by simp)]
    · rw[Js (by omega),Js (by simp)]at hm1
      have hii:l1.flatMap (·.i)=l.flatMap (·.i):=by
       have:l1.map (·.i)=l.map (·.i):=List.ext_getElem (by simp[hlen]) fun j h1 h2=>by
        simp at h1 h2⊢
        exact(hall j h1 h2).2.1
       simp only[List.flatMap_def,this]
      have:=Ur.o id g lim l1 ys hl1 (fun o hm=>by
       obtain⟨j,hj,rfl⟩:=List.mem_iff_getElem.1 hm
       exact(hall j hj (by omega)).2.2) (by rw[hii];exact hnd) hy
      rw[hm1,hii,hlen]at this
      exact this
theorem FM(H:Jn)(cs:List CV)(p:QR)(S:List Nat)(k:Int)(h:Wj H cs p S)(hk:0≤k∧k+FG p≤2^50)(hx:RC p):
 Jk Tryz.prog 63 [.agg cs,int k] H (fun r H'=>r=int (k+FG p)∧Wj H' cs (Jf7 k p) S∧WA H H' S):=by
 obtain⟨c1,c2,S1,S2,rfl,rfl,h1,h2⟩:=h.ex
 have hnd:=h.nd
 rw[JZ]at hnd
 obtain⟨hx1,hx2⟩:=hx
 unfold FG at hk⊢
 refine Jk.cw (c:=_) Tryz.func63 rfl (n:=14) Tryz.ntmps63 (rs:=[.tmp 4]) rfl ?_
 simp only[Ja,Je,zA,zS,Jf,Jb,Jd]
 simp(maxSteps:=999999)(disch:=omega)only[go_sem,zA,zM,zS,zE,zL,JF,Vd]
 intro g
 have h1a:=h1.app (H':=[some ⟨g,1,[.f (.int .i64 p.size),c1,c2]⟩])
 have h2a:=h2.app (H':=[some ⟨g,1,[.f (.int .i64 p.size),c1,c2]⟩])
 refine JU.run (Wn _ c1 p.given S1 k h1a (by omega) hx1) (⟨_,Tryz.func64,rfl,rfl⟩:Jg Tryz.prog 64) rfl rfl ?_
 rintro _ H1 ⟨rfl,q1,f1⟩
 have hb1:look H1 H.length g=some ⟨g,1,[.f (.int .i64 p.size),c1,c2]⟩:=by
  rw[f1.look fun hm=>Nat.lt_irrefl _ (h1.lt _ hm)];exact JF
 simp(maxSteps:=999999)(disch:=omega)only[go_sem,zA,zM,zS,zE,zL,hb1]
 have h2b:=h2a.frm f1 fun i hi hm=>hnd.2.2 i hm i hi rfl
 refine JU.run (GO H1 c2 p.rules S2 (k+p.given.length) h2b (by omega) hx2) (⟨_,Tryz.func101,rfl,rfl⟩:Jg Tryz.prog 101) rfl rfl ?_
 rintro _ H2 ⟨rfl,q2,f2⟩
 simp(maxSteps:=999999)(disch:=omega)only[go_sem,zA,zM,zS,zE,zL]
 refine⟨H2.take H.length, ?_,by simp only[AV.c.injEq,CV.f.injEq,FV.int.injEq,true_and];push_cast;omega,⟨⟨c1,c2,S1,S2,rfl,rfl, ?_, ?_⟩,h.nd⟩, ?_⟩
 · intro id b hb
   have:id<H.length:=by have:=(Jh.1 hb).1;simp at this;omega
   rw[Jz this]at hb;exact hb
 · refine((q1.frm f2 fun i hi hm=>hnd.2.2 i hi i hm rfl)).same fun i hi=>Jz (h1.lt i hi)
 · have e:(Jf7 k p).rules=mrk (k+p.given.length) p.rules:=rfl
   rw[e]
   exact q2.same fun i hi=>Jz (h2.lt i hi)
 · have hl2:=f2.1
   have hl1:=f1.1
   simp at hl1
   refine⟨by simp;omega,fun id hid=> ?_⟩
   simp only[JI,not_or]at hid
   by_cases hlt:id<H.length
   · rw[Jz hlt,f2.2 id hid.2,f1.2 id hid.1,Jc hlt]
   · rw[Ju (by simp;omega),Ju (by omega)]
theorem Wo(H:Jn)(cs:List CV)(q:QU)(S:List Nat)(k:Int)(h:UF H cs q S)(hk:0≤k∧k+Rw q≤2^50)(hx:smG q):
 Jk Tryz.prog 25 [.agg cs,int k] H (fun r H'=>r=int (k+Rw q)∧UF H' cs (mrkG k q) S∧WA H H' S):=by
 obtain⟨c1,c2,c3,c4,S1,S2,S3,S4,rfl,rfl,h1,h2,h3,h4⟩:=h.ex
 have hnd:=h.nd
 simp only[JZ,JI]at hnd
 obtain⟨n1,⟨n2,⟨n3,n4,n34⟩,n234⟩,n1234⟩:=hnd
 obtain⟨hx1,hx2,hx3⟩:=hx
 unfold Rw at hk⊢
 refine Jk.cw (c:=_) Tryz.func25 rfl (n:=18) Tryz.ntmps25 (rs:=[.tmp 4]) rfl ?_
 simp only[Ja,Je,zA,zS,Jf,Jb,Jd]
 simp(maxSteps:=999999)(disch:=omega)only[go_sem,zA,zM,zS,zE,zL,JF,Vd]
 intro g
 have hP:Wj H [.f (.int .i64 q.task.size),c1,c2] q.task (S1++S2):=⟨⟨c1,c2,S1,S2,rfl,rfl,h1,h2⟩,by
  rw[JZ];exact⟨n1,n2,fun a ha b hb=>n1234 a ha b (.inl hb)⟩⟩
 have hPa:=hP.app (H':=[some ⟨g,1,[.f (.int .i64 q.task.size),c1,c2,c3,c4]⟩])
 have h3a:=h3.app (H':=[some ⟨g,1,[.f (.int .i64 q.task.size),c1,c2,c3,c4]⟩])
 have h4a:=h4.app (H':=[some ⟨g,1,[.f (.int .i64 q.task.size),c1,c2,c3,c4]⟩])
 refine JU.run (FM _ _ q.task (S1++S2) k hPa (by omega) hx1) (⟨_,Tryz.func63,rfl,rfl⟩:Jg Tryz.prog 63) rfl rfl ?_
 rintro _ H1 ⟨rfl,q1,f1⟩
 have hb1:look H1 H.length g=some ⟨g,1,[.f (.int .i64 q.task.size),c1,c2,c3,c4]⟩:=by
  rw[f1.look fun hm=>Nat.lt_irrefl _ (hP.lt _ hm)];exact JF
 simp(maxSteps:=999999)(disch:=omega)only[go_sem,zA,zM,zS,zE,zL,hb1]
 have h3b:=h3a.frm f1 fun i hi hm=>by
  rcases JI.1 hm with hm|hm
  · exact n1234 i hm i (.inr (.inl hi)) rfl
  · exact n234 i hm i (.inl hi) rfl
 have h4b:=h4a.frm f1 fun i hi hm=>by
  rcases JI.1 hm with hm|hm
  · exact n1234 i hm i (.inr (.inr hi)) rfl
  · exact n234 i hm i (.inr hi) rfl
 refine JU.run (Wn H1 c3 q.put S3 (k+FG q.task) h3b (by omega) hx2) (⟨_,Tryz.func64,rfl,rfl⟩:Jg Tryz.prog 64) rfl rfl ?_
 rintro _ H2 ⟨rfl,q2,f2⟩
 have hb2:look H2 H.length g=some ⟨g,1,[.f (.int .i64 q.task.size),c1,c2,c3,c4]⟩:=by
  rw[f2.look fun hm=>Nat.lt_irrefl _ (h3.lt _ hm)];exact hb1
 simp(maxSteps:=999999)(disch:=omega)only[go_sem,zA,zM,zS,zE,zL,hb2]
 have h4c:=h4b.frm f2 fun i hi hm=>n34 i hm i hi rfl
 refine JU.run (Wn H2 c4 q.moves S4 (k+FG q.task+q.put.length) h4c (by omega) hx3) (⟨_,Tryz.func64,rfl,rfl⟩:Jg Tryz.prog 64) rfl rfl ?_
 rintro _ H3 ⟨rfl,q3,f3⟩
 simp(maxSteps:=999999)(disch:=omega)only[go_sem,zA,zM,zS,zE,zL]
 obtain⟨d1,d2,T1,T2,e1,e2,p1,p2⟩:=q1.ex
 have hq1:Wj H3 [.f (.int .i64 q.task.size),c1,c2] (Jf7 k q.task) (S1++S2):=(q1.frm f2 fun i hi hm=>by
  rcases JI.1 hi with hi|hi
  · exact n1234 i hi i (.inr (.inl hm)) rfl
  · exact n234 i hi i (.inl hm) rfl).frm f3 fun i hi hm=>by
  rcases JI.1 hi with hi|hi
  · exact n1234 i hi i (.inr (.inr hm)) rfl
  · exact n234 i hi i (.inr hm) rfl
 refine⟨H3.take H.length, ?_,by simp only[AV.c.injEq,CV.f.injEq,FV.int.injEq,true_and];push_cast;omega, ?_, ?_⟩
 · intro id b hb
   have:id<H.length:=by have:=(Jh.1 hb).1;simp at this;omega
   rw[Jz this]at hb;exact hb
 · have hq1t:Wj (H3.take H.length) [.f (.int .i64 q.task.size),c1,c2] (Jf7 k q.task) (S1++S2):=hq1.same fun i hi=>Jz (hP.lt i hi)
   have hq2t:Qr (H3.take H.length) c3 (UQ (k+FG q.task) q.put.length) S3:=(q2.frm f3 fun i hi hm=>n34 i hi i hm rfl).same fun i hi=>Jz (h3.lt i hi)
   have hq3t:Qr (H3.take H.length) c4 (UQ (k+FG q.task+q.put.length) q.moves.length) S4:=q3.same fun i hi=>Jz (h4.lt i hi)
   exact UF.of hq1t hq2t hq3t h.nd
 · have hl1:=f1.1
   have hl2:=f2.1
   have hl3:=f3.1
   simp at hl1
   refine⟨by simp;omega,fun id hid=> ?_⟩
   simp only[JI,not_or]at hid
   by_cases hlt:id<H.length
   · rw[Jz hlt,f3.2 id hid.2.2.2,f2.2 id hid.2.2.1,f1.2 id (by simp[hid]),Jc hlt]
   · rw[Ju (by simp;omega),Ju (by omega)]
end Go.Lg
