/- GpFA, GpGF, GpGG, GpVG, GpB, GpD, GpK, GpM, cut to what is needed. -/
import Derived.Test.YtiahmfdabpafoaaGreatDoorKac7
import Derived.Test.YtiahmfdabpafoaaGreatDoorKad1
import Derived.Test.YtiahmfdabpafoaaGreatDoorKab6
import Derived.Test.YtiahmfdabpafoaaGreatDoorKab3
import Derived.Test.YtiahmfdabpafoaaGreatDoorKab2
import Derived.Test.YtiahmfdabpafoaaGreatDoorKac5
import Derived.Test.YtiahmfdabpafoaaGreatDoorKab5
import Derived.Test.YtiahmfdabpafoaaGreatDoorKab7
open List renaming getElem?_eq_some_iff → Ja, getElem?_append_left → Jb, cons_append → Jc, nil_append → Jd, length_cons → Jf, replicate → Jg, getElem?_eq_getElem → Jh, getElem?_set_ne → Jj, length_nil → Jl, take_of_length_le → Jn, length_set → Jt, getElem?_eq_none → Ju, mapM_cons → Jz, length_map → JL, length_singleton → JW, map_append → J1, mapM_nil → Qa, getElem?_map → Qo
open Nat renaming reduceAdd→zA,reduceMul→zM,reduceSub→zS,reduceEqDiff→zE,reduceLeDiff→zL
set_option linter.unusedSimpArgs false
set_option linter.unusedVariables false
set_option maxRecDepth 100000
namespace Go.Lg
open Go.Proofs
theorem XA.set{xs:List Int}{n i v:Nat}(hg:XA xs n)(hi:i<xs.length)(hv:v≤n):XA (xs.set i (v:Int)) n:=⟨by rw[Jt];exact hg.len,fun k hk=>by
 rw[Jt]at hk
 rw[UZ _ _ _ _ hi]
 split
 · omega
 · exact hg.val k hk⟩
def LeB(o o':List Nat):Prop:=o.length=o'.length∧∀k b:Nat,(o.getD k 0).testBit b=true→(o'.getD k 0).testBit b=true
theorem LeB.refl(o:List Nat):LeB o o:=⟨rfl,fun _ _ h=>h⟩
theorem LeB.trans{a b c:List Nat}(h1:LeB a b)(h2:LeB b c):LeB a c:=⟨h1.1.trans h2.1,fun k x h=>h2.2 k x (h1.2 k x h)⟩
def Has(p:Zk)(xs:List Int):Prop:=∀k:Nat,0<JM p.given k→JM xs k=JM p.given k
theorem Has.clear{p:Zk}{xs:List Int}(h:Has p xs):Lg.clear p xs=true:=by
 simp only[Lg.clear,decide_eq_true_eq]
 exact fun k hk ⟨a,b,c⟩=>c (h k a)
theorem Has.set{p:Zk}{xs:List Int}(h:Has p xs){i:Nat}{v:Int}(hi:i<xs.length)(h0:¬0<JM xs i):Has p (xs.set i v):=fun k hk=>by
 rw[UZ _ _ _ _ hi]
 have:=h k hk
 split
 · rename_i hki
   subst hki
   omega
 · exact this
theorem Jex{xs:List Int}{k:Nat}(h:xs.length≤k):JM xs (k:Int)=0:=by
 unfold JM
 rw[Int.toNat_natCast,List.getD_eq_getElem?_getD,Ju h]
 rfl
end Go.Lg

namespace Go.Lg
open Go.Proofs
attribute [-go_sem] Qg JP
def Jif(H:Ji)(c:CV)(ls:List (List Int)):Prop:=∃oid og cs,c= .own oid og 0 ls.length none∧look H oid og=some ⟨og,1,cs⟩∧cs.length=ls.length∧∀i (h:i<ls.length),∃id g,cs[i]? =some (.own id g 0 ls[i].length none)∧look H id g=some ⟨g,1,cl (eI .i64) ls[i]⟩
theorem Jif.shift{H0 H:Ji}{c:CV}{ls:List (List Int)}(h:Jif H c ls):Jif (H0++QN H0.length H) (Zo H0.length c) ls:=by
 obtain⟨oid,og,cs,rfl,k1,k2,k3⟩:=h
 refine⟨oid+H0.length,og,cs.map (Zo H0.length),rfl,ZK k1,by rw[JL];exact k2,fun i hi=> ?_⟩
 obtain⟨id,g,q1,q2⟩:=k3 i hi
 refine⟨id+H0.length,g,by rw[Qo,q1];rfl, ?_⟩
 rw[ZK q2]
 simp only[Q3,Vp]
section
variable{P:Program}{o:Oper}{st:St}{K:KV}{fo:Operand}{xs:Array Operand}{ts:Array TypeId}{f:FuncId}{args:List AV}
end
def smD(p:Zk):Prop:=p.given.length≤16∧U6 p.rules 30 5
theorem smD.sm{p:Zk}(h:smD p):BD p:=⟨by have:=h.1;omega,by have:=h.2.1;omega,fun r hr=>by have:=h.2.2 r hr;omega⟩
structure TrI(H HI:Ji)(id g:Nat)(B:Int)(g4 J g6:Nat)(p:Zk)(c:CV)(zs:List Int):Prop where
 out:look HI H.length g4=some ⟨g4,3,[.f (.int .i64 0), .f .nil, .f .nil]⟩
 puz:look HI J g6=some ⟨g6,3,cP p⟩
 grid:∃gid gg,c= .own gid gg 0 zs.length none∧look HI gid gg=some ⟨gg,1,cl (eI .i64) zs⟩∧H.length<gid∧gid≠J
 rd:Zj HI id g B
 lt:id<H.length
 ln:H.length<J∧J<HI.length
 frm:∀k,k<H.length→k≠id→HI[k]? =H[k]?
section
variable{H HI H2:Ji}{id g g4 J g6:Nat}{B B':Int}{p:Zk}{c:CV}{zs:List Int}
theorem TrI.mono(h:TrI H HI id g B g4 J g6 p c zs)(hb:B≤B'):TrI H HI id g B' g4 J g6 p c zs:={h with rd:=h.rd.mono hb}
theorem TrI.step(h:TrI H HI id g B g4 J g6 p c zs)(hs:∀i,H.length≤i→i<HI.length→H2[i]? =HI[i]?)(hl:HI.length≤H2.length)(hr:Zj H2 id g B')(hf:∀k,k<H.length→k≠id→H2[k]? =HI[k]?):TrI H H2 id g B' g4 J g6 p c zs:=by
 have hn:=h.ln
 have hL:∀i g,H.length≤i→i<HI.length→look H2 i g=look HI i g:=fun i g h1 h2=>by unfold look;rw[hs i h1 h2]
 obtain⟨gid,gg,g1,g2,g3,g4⟩:=h.grid
 have hgl:gid<HI.length:=(Ja.1 (Jw g2).1).1
 exact{out:=by rw[hL _ _ (Nat.le_refl _) (by omega)];exact h.out
       puz:=by rw[hL _ _ (by omega) (by omega)];exact h.puz
       grid:=⟨gid,gg,g1,by rw[hL _ _ (by omega) hgl];exact g2,g3,g4⟩
       rd:=hr,lt:=h.lt,ln:=by omega
       frm:=fun k hk hne=>by rw[hf k hk hne];exact h.frm k hk hne}
theorem TrI.pick(h:TrI H HI id g B g4 J g6 p c zs)(hr:Zj H2 id g B')(hf:UH HI H2 [id]):TrI H H2 id g B' g4 J g6 p c zs:=by
 have hl:=h.lt
 exact h.step (fun i hi _=>hf.2 i (by simp;omega)) (by rw[hf.1];exact Nat.le_refl _) hr fun k hk hne=>hf.2 k (by simpa using hne)
theorem TrI.app{X:Ji}(h:TrI H HI id g B g4 J g6 p c zs):TrI H (HI++X) id g B g4 J g6 p c zs:=by
 have hn:=h.ln
 exact h.step (fun i _ hi=>Jb hi) (by simp) h.rd.app fun k hk _=>Jb (by omega)
theorem TrI.set(h:TrI H HI id g B g4 J g6 p c zs){gid gg:Nat}(hc:c= .own gid gg 0 zs.length none)(k:Nat)(v:Int):TrI H (HI.set gid (some ⟨gg,1,cl (eI .i64) (zs.set k v)⟩)) id g B g4 J g6 p c (zs.set k v):=by
 have hn:=h.ln
 have hl:=h.lt
 obtain⟨gid',gg',g1,g2,g3,g4⟩:=h.grid
 rw[hc]at g1
 cases g1
 have hgl:gid<HI.length:=(Ja.1 (Jw g2).1).1
 exact{out:=by rw[J7 (by omega)];exact h.out
       puz:=by rw[J7 (by omega)];exact h.puz
       grid:=⟨gid,gg,by rw[hc,Jt],JK hgl,g3,g4⟩
       rd:=h.rd.same (by rw[Jj (by omega)])
       lt:=hl,ln:=by rw[Jt];exact hn
       frm:=fun k hk hne=>by rw[Jj (by omega)];exact h.frm k hk hne}
end
def dPuz:AV→Prop:=fun v=>∃p:Zk,v=aP p∧smD p
theorem JdP{xs:List Int}(h:∀x∈xs,(Lit.int .u8 x).wf=true):∀x∈xs,0≤x∧x≤255:=fun x hx=>by
 have:=h x hx
 simp[Lit.wf]at this
 have e1:IntKind.u8.min=0:=by decide
 have e2:IntKind.u8.max=255:=by decide
 omega
theorem Zj.shift{H0 H:Ji}{id g:Nat}{B:Int}(h:Zj H id g B):Zj (H0++QN H0.length H) (id+H0.length) g B:=by
 obtain⟨sz,b,p,h1,h2⟩:=h
 exact⟨sz,b,p,by rw[ZK h1];rfl,h2⟩
theorem Qh.mkRd{P:Program}{o:Oper}{st:St}{K:KV}{fo:Operand}{xs:Array Operand}{ts:Array TypeId}{f:FuncId}{args:List AV}(hc:Jq P f args [] (fun v H'=>∃g,v= .c (.ptr 0 g 0)∧Zj H' 0 g 0∧H'.length=1))(he:Jm P f)(ho:o.op= .call ⟨.value fo,xs,ts⟩)(ha:Qp st fo xs=some (f,args))(hf:args.all Zc=true)
 (hk:∀g H',Zj (st.h++H') st.h.length g 0→H'.length=1→K (.c (.ptr st.h.length g 0)) (st.h++H')):Qh P o st K:=
 Qh.mkQ hc he ho ha hf fun r H' ⟨g,h1,h2,h3⟩=>by
  subst h1
  refine⟨rfl, ?_⟩
  have:=hk g (QN st.h.length H') (by have:=h2.shift (H0:=st.h);rwa [Nat.zero_add]at this) (by rw[VV];exact h3)
  show K (.c (.ptr (0+st.h.length) g 0)) _
  rw[Nat.zero_add]
  exact this
end Go.Lg

namespace Go.Lg
open Go.Proofs
attribute [-go_sem] Qg JP
theorem Jea(P:Program)(s:List AV)(H:Ji)(t u w:Nat)(ty:TypeId):WP P s H [.cell t ty, .tmp u, .tmp w]=(Uy P H ty (s.getD t .void)).map fun v=> .tup [v,s.getD u .void,s.getD w .void]:=by
 simp only[WP,Wo,Kb]
 cases Uy P H ty (s.getD t .void)<;>rfl
attribute [go_sem] Jea
theorem Yh(code:List Int)(hb:∀x∈code,0≤x∧x≤255)(hl:code.length≤2^40):Jq Tryz.prog 5 [Rj (eI .u8) code] [] (fun v _=>dPuz v):=by
 refine Jq.cw (c:=_) Tryz.func5 rfl (n:=6) Tryz.ntmps5 (rs:=[.cell 2 26]) rfl ?_
 simp only[Jf,Jl,zA,zS,Jg,Jc,Jd]
 simp(maxSteps:=999999)(disch:=omega)only[go_sem,zA,zM,zS,zE,zL]
 intro g4
 refine Qh.mkRd (KZ code hb hl) (⟨_,Tryz.func16,rfl,rfl⟩:Jm Tryz.prog 16) rfl rfl rfl ?_
 intro g H1 r1 hl1
 simp(maxSteps:=999999)(disch:=omega)only[go_sem,zA,zM,zS,zE,zL]
 refine Qh.run (XE _ 1 g 0 6 r1 (by omega) (by omega)) (⟨_,Tryz.func15,rfl,rfl⟩:Jm Tryz.prog 15) rfl rfl ?_
 rintro _ H2 ⟨⟨p,rfl,hp⟩,r2,f2⟩
 have h4:look H2 0 g4=some ⟨g4,3,[.f (.int .i64 0), .f .nil, .f .nil]⟩:=by rw[f2.look (by simp)];exact ZA
 have hS:∀b,look (H2.set 0 (some ⟨g4,3,b⟩)) 0 g4=some ⟨g4,3,b⟩:=fun b=>JK (Ja.1 (Jw h4).1).1
 simp(maxSteps:=999999)(disch:=omega)only[go_sem,zA,zM,zS,zE,zL,h4,hS]
 exact⟨_,Qc.refl _,p,rfl,hp⟩
theorem WC:Qd Tryz.prog 9 [] (bool true):=by
 refine Jq.cw (c:=_) Tryz.func9 rfl (n:=4) Tryz.ntmps9 (rs:=[.tmp 0]) rfl ?_
 simp only[Jf,Jl,zA,zS,Jg,Jc,Jd]
 simp(maxSteps:=999999)(disch:=omega)only[go_sem,zA,zM,zS,zE,zL]
 intro g
 have hown:Qv [some ⟨g,1,[.f (.int .i64 1), .f (.int .i64 0), .f (.int .i64 0), .f (.int .i64 2)]⟩] (.own 0 g 0 4 none) [1,0,0,2] [0]:=Qv.o 0 g none [1,0,0,2] [] (by rw[ZA];rfl)
 refine Qh.rdD (BA [1,0,0,2] 2 (by simp)) (⟨_,Tryz.func23,rfl,rfl⟩:Jm Tryz.prog 23) rfl rfl (UX hown.snap V4) rfl ?_
 have e:ZR [1,0,0,2] 2=2:=by decide
 rw[e]
 simp(maxSteps:=999999)(disch:=omega)only[go_sem,zA,zM,zS,zE,zL]
theorem VW(xs ys:List Int)(hx:xs.length≤2^40):Qd Tryz.prog 27 [ZY xs,ZY ys] (bool (decide (xs=ys))):=by
 refine Jq.cw (c:=_) Tryz.func27 rfl (n:=26) Tryz.ntmps27 (rs:=[.tmp 4]) rfl ?_
 simp only[Jf,Jl,zA,zS,Jg,Jc,Jd]
 simp(maxSteps:=999999)(disch:=omega)only[go_sem,zA,zM,zS,zE,zL]
 ((first|(with_reducible first|refine Jo ?_ ?_|refine Jk ?_ ?_|refine Jp ?_ ?_)|refine Jr ?_ ?_)<;>intro h)
 rotate_left
 · simp(maxSteps:=999999)(disch:=omega)only[go_sem,zA,zM,zS,zE,zL]
   rw[eq_comm,decide_eq_false_iff_not]
   intro h2
   exact h (by rw[h2])
 have hl:xs.length=ys.length:=by omega
 simp(maxSteps:=999999)(disch:=omega)only[go_sem,zA,zM,zS,zE,zL]
 refine Qw (fun i:Nat=>xs.length -i) (fun i=>i≤xs.length∧∀j:Nat,j<i→JM xs j=JM ys j) (fun i=>[.k, .k, .a, .a, .a, .p (int i), .a, .a, .a, .a, .a, .a, .a, .a, .a, .a, .a, .a, .a, .a, .a, .a, .a, .a, .a, .a]) (fun i=>[]) 0
  ⟨Nat.zero_le _,fun j hj=>absurd hj (Nat.not_lt_zero _)⟩ (by simp(maxSteps:=999999)(disch:=omega)only[go_sem,zA,zM,zS,zE,zL];rfl) (J8 _) ?_
 rintro i ⟨hi,hall⟩
 simp(maxSteps:=999999)(disch:=omega)only[go_sem,zA,zM,zS,zE,zL]
 ((first|(with_reducible first|refine Jo ?_ ?_|refine Jk ?_ ?_|refine Jp ?_ ?_)|refine Jr ?_ ?_)<;>intro h)
 · have h:i<xs.length:=by omega
   simp(maxSteps:=999999)(disch:=omega)only[go_sem,zA,zM,zS,zE,zL]
   refine Q7 Zr (by kernel_rfl) ?_
   simp(maxSteps:=999999)(disch:=omega)only[go_sem,Nat.reduceBEq,Bool.true_or,zA,zM,zS,zE,zL]
   ((first|(with_reducible first|refine Jo ?_ ?_|refine Jk ?_ ?_|refine Jp ?_ ?_)|refine Jr ?_ ?_)<;>intro h2)
   · simp(maxSteps:=999999)(disch:=omega)only[go_sem,zA,zM,zS,zE,zL]
     refine⟨i+1,⟨⟨by omega,fun j hj=> ?_⟩,by omega⟩,by push_cast;omega,J8 _⟩
     rcases Nat.lt_succ_iff_lt_or_eq.1 hj with hj|rfl
     · exact hall j hj
     · exact h2
   · simp(maxSteps:=999999)(disch:=omega)only[go_sem,zA,zM,zS,zE,zL]
     rw[eq_comm,decide_eq_false_iff_not]
     intro h3
     exact h2 (by rw[h3])
 · simp(maxSteps:=999999)(disch:=omega)only[go_sem,zA,zM,zS,zE,zL]
   rw[decide_eq_true (Jb7 hl fun j hj=>hall j (by omega))]
end Go.Lg

namespace Go.Lg
open Go.Proofs
def Je7(h:Hnt):Prop:=(0≤h.tech∧h.tech≤4)∧(0≤h.cell∧h.cell≤15)∧(1≤h.val∧h.val≤4)
instance(h:Hnt):Decidable (Je7 h):=by unfold Je7;infer_instance
end Go.Lg

namespace Go.Lg
open Go.Proofs
def NS(c:Int):Int:=if c=46 then 0 else c -48
def QK(s:List UInt8):List Int:=(s.drop 2).map fun c=>NS c.toNat
def Qt(s:List UInt8):List Int×Int×Bool:=
 if 2≤s.length∧Qk (QK s) (Ue s 0 -48)=s then(QK s,Ue s 0 -48,true)else([],0,false)
theorem UP(s:List UInt8)(e:Int):0≤Ue s e∧Ue s e≤255:=by
 unfold Ue
 have:=(s.getD e.toNat 0).toNat_lt
 omega
theorem UC(s:List UInt8):(QK s).length=s.length -2:=by simp[QK]
theorem K3{s:List UInt8}{i:Nat}(h:i+2<s.length):JM (QK s) i=NS (Ue s ((i:Int)+2)):=by
 rw[Qu (by rw[UC];omega)]
 simp only[QK,List.getElem_map,List.getElem_drop,Ue]
 have e:((i:Int)+2).toNat=i+2:=by omega
 rw[e]
 simp[List.getD,Jh h,Nat.add_comm 2 i]
theorem Rf{xs:List Int}{n:Int}(h:J9 xs n=true):(Qk xs n).length=xs.length+2:=by simp[Qk,h]
theorem VS{xs:List Int}{n:Int}{s:List UInt8}(hs:2≤s.length)(h:Qk xs n=s):J9 xs n=true∧xs.length+2=s.length:=by
 cases hv:J9 xs n with
 |false=>simp[Qk,hv]at h;subst h;simp at hs
 |true=>exact⟨rfl,by rw[←h,Rf hv]⟩
theorem UR(s:List UInt8)(hx:s.length≤2^40):Qd Tryz.prog 29 [Um s] (.tup [ZY (Qt s).1,int (Qt s).2.1,bool (Qt s).2.2]):=by
 refine Qd.iced ?_
 refine Jq.cw (c:=_) Tryz.func29 rfl (n:=45) Tryz.ntmps29 (rs:=[.tmp 2, .tmp 3, .tmp 4]) rfl ?_
 simp only[Jf,Jl,zA,zS,Jg,Jc,Jd]
 simp(maxSteps:=999999)(disch:=omega)only[go_sem,zA,zM,zS,zE,zL]
 refine QB (fun h=> ?_) (fun h=> ?_)
 · simp(maxSteps:=999999)(disch:=omega)only[go_sem,zA,zM,zS,zE,zL]
   intro g
   have h:¬2≤s.length:=by simp at h;omega
   simp only[Qt,h,false_and,if_false]
   exact Q5 (by simp only[go_sem,Jz,Qa,U7,Wf,frzC,frz,X9,Option.pure_def,Option.bind_eq_bind,Option.bind_some]<;>rfl)
 have h:2≤s.length:=by simp at h;omega
 have hc:=UP s 0
 simp(maxSteps:=999999)(disch:=omega)only[go_sem,zA,zM,zS,zE,zL]
 intro g
 refine Qj (fun(i g:Nat)=>s.length -i) (fun i g=>i+2≤s.length) (fun i g=>[.k, .a, .a, .a, .a, .k, .p (.c (.own 0 g 0 i none)), .p (int (i+2)), .a, .a, .a, .a, .a, .a, .a, .a, .a, .a, .a, .a, .a, .a, .a, .a, .a, .a, .a, .a, .a, .a, .a, .a, .a, .a, .a, .a, .a, .a, .a, .a, .a, .a, .a, .a, .a]) (fun i g=>[some ⟨g,1,cl (eI .i64) ((QK s).take i)⟩]) 0 g
  (by omega) (by simp(maxSteps:=999999)(disch:=omega)only[go_sem,zA,zM,zS,zE,zL];rfl) (Qc.refl _) ?_
 intro i g hi
 simp(maxSteps:=999999)(disch:=omega)only[go_sem,zA,zM,zS,zE,zL]
 refine QB (fun h2=> ?_) (fun h2=> ?_)
 · have h2:i+2<s.length:=by simp at h2;omega
   have hc2:=UP s (i+2)
   have hn:=K3 h2
   have hl:=UC s
   simp(maxSteps:=999999)(disch:=omega)only[go_sem,zA,zM,zS,zE,zL]
   refine QB (fun h3=> ?_) (fun h3=> ?_)<;>simp(maxSteps:=999999)(disch:=omega)only[go_sem,zA,zM,zS,zE,zL]<;>simp at h3<;>intro g1 g2
   · exact⟨i+1,g2,⟨by omega,by omega⟩,⟨⟨rfl,rfl⟩,by push_cast;omega⟩,Zd (by rw[JX (by omega),hn];simp[NS,h3]) (J8 _)⟩
   · exact⟨i+1,g2,⟨by omega,by omega⟩,⟨⟨rfl,rfl⟩,by push_cast;omega⟩,Zd (by rw[JX (by omega),hn];simp[NS,h3]) (J8 _)⟩
 have hl:=UC s
 have hi:i=(QK s).length:=by simp at h2;omega
 subst hi
 rw[List.take_length]
 simp(maxSteps:=999999)(disch:=omega)only[go_sem,zA,zM,zS,zE,zL]
 refine Qh.rd (VX (QK s) (Ue s 0 -48) (by omega)) (⟨_,Tryz.func19,rfl,rfl⟩:Jm Tryz.prog 19) rfl rfl (by simp only[go_sem,Jz,Qa,WG,Ym,ZA,Xp,WT,Jbe,Option.map_some,Option.pure_def,Option.bind_eq_bind,Option.bind_some]<;>simp only[ZY,QD,Rj,WR,Uw,Ux]) rfl ?_
 simp(maxSteps:=999999)(disch:=omega)only[go_sem,zA,zM,zS,zE,zL]
 refine QB (fun h3=> ?_) (fun h3=> ?_)<;>simp(maxSteps:=999999)(disch:=omega)only[go_sem,zA,zM,zS,zE,zL]<;>simp at h3
 · intro g2
   simp only[Qt,h3,and_false,if_false]
   exact Q5 (by simp only[go_sem,Jz,Qa,U7,Wf,frzC,frz,X9,Option.pure_def,Option.bind_eq_bind,Option.bind_some]<;>rfl)
 · simp only[Qt,h3,h,and_self,if_true]
   exact Q5 (by simp only[go_sem,Jz,Qa,U7,Wf,frzC,frz,X9,Option.pure_def,Option.bind_eq_bind,Option.bind_some]<;>rfl)
def rdQ(s:List UInt8):KV:=fun r H=>((Qt s).2.2=false→r= .tup [ZY [],int 0,bool false]∧H=[])∧
 ((Qt s).2.2=true→∃g,r= .tup [.c (.own 0 g 0 (Qt s).1.length none),int (Qt s).2.1,bool true]∧H=[some ⟨g,1,cl (eI .i64) (Qt s).1⟩])
theorem F3{s:List UInt8}{H:Ji}(h:(Qt s).2.2=false):Wa H (rdQ s) (.tup [.c (.f (.sl 0 [])),int 0,bool false]):=⟨[],J8 _,fun _=>⟨rfl,rfl⟩,fun h'=>by rw[h]at h';cases h'⟩
set_option maxHeartbeats 2000000 in
theorem GN(s:List UInt8)(hx:s.length≤2^40):Jq Tryz.prog 25 [Um s] [] (rdQ s):=by
 refine Jq.nz ?_
 refine Jq.cw (c:=_) Tryz.func25 rfl (n:=60) Tryz.ntmps25 (rs:=[.tmp 2, .tmp 3, .tmp 4]) rfl ?_
 simp only[Jf,Jl,zA,zS,Jg,Jc,Jd]
 simp(maxSteps:=999999)(disch:=omega)only[go_sem,zA,zM,zS,zE,zL]
 refine Jx (fun h=> ?_) (fun h=> ?_)<;>simp(maxSteps:=999999)(disch:=omega)only[go_sem,zA,zM,zS,zE,zL,h]<;>simp at h
 · exact F3 (by simp only[Qt];rw[if_neg (by omega)])
 have hc:=UP s 0
 simp(maxSteps:=999999)(disch:=omega)only[go_sem,zA,zM,zS,zE,zL]
 refine Qh.rd (Wm _) (⟨_,Tryz.func47,rfl,rfl⟩:Jm Tryz.prog 47) rfl rfl rfl rfl ?_
 simp(maxSteps:=999999)(disch:=omega)only[go_sem,zA,zM,zS,zE,zL]
 refine QB (fun h2=> ?_) (fun h2=> ?_)<;>simp(maxSteps:=999999)(disch:=omega)only[go_sem,zA,zM,zS,zE,zL]<;>simp at h2
 · refine F3 ?_
   simp only[Qt]
   rw[if_neg]
   rintro⟨h3,h4⟩
   have:=(VS h3 h4).1
   simp only[J9,decide_eq_true_eq]at this
   omega
 intro g
 have hw:4≤(Ue s 0 -48)*(Ue s 0 -48)∧(Ue s 0 -48)*(Ue s 0 -48)≤16:=by
  generalize Ue s 0 -48=n at h2
  have:n=2∨n=3∨n=4:=by omega
  rcases this with rfl|rfl|rfl<;>decide
 have hl:=UC s
 refine Qj (fun(i g:Nat)=>s.length -i) (fun i g=>i+2≤s.length∧i≤(Ue s 0 -48)*(Ue s 0 -48)) (fun i g=>[.k, .a, .a, .a, .a, .k, .p (.c (.own 0 g 0 i none)), .p (int (i+2)), .a, .a, .a, .a, .a, .a, .a, .a, .a, .a, .a, .a, .a, .a, .a, .a, .a, .a, .a, .a, .a, .a, .a, .a, .a, .a, .a, .a, .a, .a, .a, .a, .a, .a, .a, .a, .a, .a, .a, .a, .a, .a, .a, .a, .a, .a, .a, .a, .a, .a, .a, .a]) (fun i g=>[some ⟨g,1,cl (eI .i64) ((QK s).take i)⟩]) 0 g
  ⟨by omega,by omega⟩ (by simp(maxSteps:=999999)(disch:=omega)only[go_sem,zA,zM,zS,zE,zL];rfl) (Qc.refl _) ?_
 rintro i g ⟨hi,hi2⟩
 simp(maxSteps:=999999)(disch:=omega)only[go_sem,zA,zM,zS,zE,zL]
 have out:(i+2=s.length∨(i:Int)=(Ue s 0 -48)*(Ue s 0 -48))→i=((QK s).take i).length∧(Qk ((QK s).take i) (Ue s 0 -48)=s↔Qk (QK s) (Ue s 0 -48)=s)∧(Qk (QK s) (Ue s 0 -48)=s→(QK s).take i=QK s):=by
  intro ho
  refine⟨by simp;omega,⟨fun h3=> ?_,fun h3=> ?_⟩,fun h3=> ?_⟩
  · obtain⟨h4,h5⟩:=VS (by omega) h3
    rw[Jn (by simp at h5;omega)]at h3
    exact h3
  · obtain⟨h4,h5⟩:=VS (by omega) h3
    have:=(Qz h4).2.2.1
    rw[Jn (by omega)];exact h3
  · obtain⟨h4,h5⟩:=VS (by omega) h3
    have:=(Qz h4).2.2.1
    rw[Jn (by omega)]
 rcases(show(i+2=s.length∨(i:Int)=(Ue s 0 -48)*(Ue s 0 -48))∨(i+2<s.length∧(i:Int)<(Ue s 0 -48)*(Ue s 0 -48)) by omega)with ex|⟨e1,e2⟩
 · obtain⟨o1,o2,o3⟩:=out ex
   refine Jx (fun h3=> ?_) (fun h3=> ?_)<;>simp(maxSteps:=999999)(disch:=omega)only[go_sem,zA,zM,zS,zE,zL,h3]
   · refine QB (fun h4=>by simp at h3 h4;omega) (fun h4=> ?_)
     simp(maxSteps:=999999)(disch:=omega)only[go_sem,zA,zM,zS,zE,zL]
     generalize hz:(QK s).take i=zs at*
     subst o1
     refine Qh.rd (Vg zs (Ue s 0 -48) (by omega)) (⟨_,Tryz.func17,rfl,rfl⟩:Jm Tryz.prog 17) rfl rfl (by simp only[go_sem,Jz,Qa,WG,Ym,ZA,Xp,WT,Jbe,Option.map_some,Option.pure_def,Option.bind_eq_bind,Option.bind_some]<;>simp only[ZY,QD,Rj,WR,Uw,Ux]) rfl ?_
     simp(maxSteps:=999999)(disch:=omega)only[go_sem,zA,zM,zS,zE,zL]
     refine QB (fun h5=> ?_) (fun h5=> ?_)<;>simp(maxSteps:=999999)(disch:=omega)only[go_sem,zA,zM,zS,zE,zL]<;>simp at h5
     · exact F3 (by simp only[Qt];rw[if_neg (fun h6=>h5 (o2.2 h6.2))])
     · have h6:=o2.1 h5
       have h7:=o3 h6
       subst h7
       have:Qt s=(QK s,Ue s 0 -48,true):=by simp only[Qt];rw[if_pos ⟨by omega,h6⟩]
       exact⟨_,Qc.refl _,fun h=>(by rw[this]at h;cases h),fun _=>by rw[this];exact⟨_,rfl,rfl⟩⟩
   · skip
     generalize hz:(QK s).take i=zs at*
     subst o1
     refine Qh.rd (Vg zs (Ue s 0 -48) (by omega)) (⟨_,Tryz.func17,rfl,rfl⟩:Jm Tryz.prog 17) rfl rfl (by simp only[go_sem,Jz,Qa,WG,Ym,ZA,Xp,WT,Jbe,Option.map_some,Option.pure_def,Option.bind_eq_bind,Option.bind_some]<;>simp only[ZY,QD,Rj,WR,Uw,Ux]) rfl ?_
     simp(maxSteps:=999999)(disch:=omega)only[go_sem,zA,zM,zS,zE,zL]
     refine QB (fun h5=> ?_) (fun h5=> ?_)<;>simp(maxSteps:=999999)(disch:=omega)only[go_sem,zA,zM,zS,zE,zL]<;>simp at h5
     · exact F3 (by simp only[Qt];rw[if_neg (fun h6=>h5 (o2.2 h6.2))])
     · have h6:=o2.1 h5
       have h7:=o3 h6
       subst h7
       have:Qt s=(QK s,Ue s 0 -48,true):=by simp only[Qt];rw[if_pos ⟨by omega,h6⟩]
       exact⟨_,Qc.refl _,fun h=>(by rw[this]at h;cases h),fun _=>by rw[this];exact⟨_,rfl,rfl⟩⟩
 have hc2:=UP s (i+2)
 have hn:=K3 e1
 have d1:decide ((i:Int)+2<s.length)=true:=by simp;omega
 rw[d1]
 simp(maxSteps:=999999)(disch:=omega)only[go_sem,zA,zM,zS,zE,zL]
 have d2:decide ((i:Int)+2<2+(Ue s 0 -48)*(Ue s 0 -48))=true:=by simp;omega
 rw[d2]
 simp(maxSteps:=999999)(disch:=omega)only[go_sem,zA,zM,zS,zE,zL]
 refine QB (fun h3=> ?_) (fun h3=> ?_)<;>simp(maxSteps:=999999)(disch:=omega)only[go_sem,zA,zM,zS,zE,zL]<;>simp at h3<;>intro g1 g2
 · exact⟨i+1,g2,⟨⟨by omega,by push_cast;omega⟩,by omega⟩,⟨⟨rfl,rfl⟩,by push_cast;omega⟩,Zd (by rw[JX (by omega),hn];simp[NS,h3]) (J8 _)⟩
 · exact⟨i+1,g2,⟨⟨by omega,by push_cast;omega⟩,by omega⟩,⟨⟨rfl,rfl⟩,by push_cast;omega⟩,Zd (by rw[JX (by omega),hn];simp[NS,h3]) (J8 _)⟩
end Go.Lg

namespace Go.Lg
open Go.Proofs
theorem JdU(m:Nat):(m:Int).tmod 10=((m%10:Nat):Int):=rfl
theorem Jhr(m:Nat):(m:Int).tdiv 10=((m/10:Nat):Int):=rfl
end Go.Lg

namespace Go.Lg
open Go.Proofs
def N7(xs:List Int):List Int:=((List.range xs.length).filter fun i:Nat=>decide (0<JM xs i)).map fun i:Nat=>(i:Int)
def Jbd(g:B8):Prop:=g.moves.Nodup∧(∀c∈g.moves,c∈N7 g.put)∧∀c∈N7 g.put,c∈g.moves∧JM g.task.given c≤0
instance(g:B8):Decidable (Jbd g):=by unfold Jbd;infer_instance
def Jdl(g:B8):Bool:=JE g.task&&(J9 g.put g.task.size&&(decide (g.moves.length≤40)&&decide (Jbd g)))
def eBo(b:Bool):List FV:=[.bool b]
instance:HSz eBo 1:=⟨fun _=>rfl⟩
theorem eBo_0(b:Bool)(d:FV):(eBo b).getD 0 d= .bool b:=rfl
theorem Jf2(n:Nat):QC (n*1) [.f (.bool false)]=cl eBo (Jg n false):=by
 simp only[QC,Nat.mul_one,JW,Nat.mod_one]
 induction n with
 |zero=>rfl
 |succ n ih=>rw[List.range_succ,J1,ih,List.replicate_succ',QP];rfl
theorem setBo{xs:List Bool}{e:Int}{v:Bool}(h:0≤e∧e<(xs.length:Int)):Qm (cl eBo xs) (0+e.toNat*1) [.f (.bool v)]=cl eBo (xs.set e.toNat v):=
 VM (E:=eBo) (by omega)
attribute [go_sem] eBo_0 Jf2 setBo
end Go.Lg

namespace Go.Lg
open Go.Proofs
def wM(rs:List Q2):Nat:=(rs.map fun r=>2+r.cells.length).sum
def wMP(p:Zk):Nat:=p.given.length+wM p.rules
end Go.Lg
