/- GpWA, GpCF, GpCG, GpWB, cut to what is needed. -/
import Derived.Test.YtiahmfdabpafoaaGreatDoorKad3
import Derived.Lib.IndexMore
import Derived.Lib.Atoi
import Derived.Lib.Bytealg
import Derived.Test.YtiahmfdabpafoaaGreatDoorKac1
import Derived.Test.YtiahmfdabpafoaaGreatDoorKad2
open List renaming cons_append → Jc, nil_append → Jd, length_append → Je, length_cons → Jf, replicate → Jg, length_nil → Jl, take_of_length_le → Jn, append_assoc → Js, append_nil → Jv, length_take → JA, drop_zero → JB, mem_append → JF, length_map → JL, mem_cons → JV, map_cons → Qf, mem_map → Qs, take_append_drop → QU, getElem?_cons_succ → Q0, not_mem_nil → Q9
open Nat renaming reduceAdd→zA,reduceMul→zM,reduceSub→zS,reduceEqDiff→zE,reduceLeDiff→zL
set_option linter.unusedSimpArgs false
set_option linter.unusedVariables false
set_option maxRecDepth 100000
namespace Go.Lg
open Go.Proofs
theorem FJ{c:UInt8}:∀{l:List UInt8},(∀b∈l,b≠c)→Go.Lib.indexByte l c= -1
 |[],_=>rfl
 |b::l,h=>by
  have hb:(b==c)=false:=by simpa using h b (by simp)
  have ih:=FJ (l:=l) fun x hx=>h x (by simp[hx])
  simp[Go.Lib.indexByte,hb,ih]
theorem Kp{c:UInt8}{r:List UInt8}:∀{l:List UInt8},(∀b∈l,b≠c)→Go.Lib.indexByte (l++c::r) c=l.length
 |[],_=>by simp[Go.Lib.indexByte]
 |b::l,h=>by
  have hb:(b==c)=false:=by simpa using h b (by simp)
  have ih:=Kp (l:=l) (r:=r) fun x hx=>h x (by simp[hx])
  have hn:((l.length:Int)== -1)=false:=by rw[beq_eq_false_iff_ne];omega
  simp[Go.Lib.indexByte,hb,ih,hn]
theorem Jff{c:UInt8}{l:List UInt8}(h:∀b∈l,b≠c):Go.Lib.cut l [c]=(l,[],false):=by
 unfold Go.Lib.cut
 rw[Go.Lib.index_one,FJ h,if_neg (by omega)]
theorem Jcb{c:UInt8}{l r:List UInt8}(h:∀b∈l,b≠c):Go.Lib.cut (l++c::r) [c]=(l,r,true):=by
 unfold Go.Lib.cut
 rw[Go.Lib.index_one,Kp h,if_pos (by omega),Int.toNat_natCast,List.take_left' rfl,List.drop_append]
 simp
def Jdr(m:Nat):List UInt8:=if m<10 then[UInt8.ofNat (48+m)]else if m<100 then[UInt8.ofNat (48+m/10),UInt8.ofNat (48+m%10)]else[UInt8.ofNat (48+m/100),UInt8.ofNat (48+m/10%10),UInt8.ofNat (48+m%10)]
theorem JgV{m:Nat}(h:m<1000):Go.Lib.decDigits m=Jdr m:=by
 unfold Jdr
 rw[Go.Lib.decDigits]
 by_cases h1:m<10
 · rw[dif_pos h1,if_pos h1]
 rw[dif_neg h1,if_neg h1,Go.Lib.decDigits]
 by_cases h2:m<100
 · rw[dif_pos (by omega),if_pos h2];rfl
 rw[dif_neg (by omega),if_neg h2,Go.Lib.decDigits,dif_pos (by omega),Nat.div_div_eq_div_mul];rfl
def ZS(st:List Int×Int)(b:UInt8):List Int×Int:=if 97≤b.toNat∧b.toNat≤112 then(st.1++[(b.toNat:Int) -97],st.2)else if 48≤b.toNat∧b.toNat≤57 then(st.1,10*st.2+((b.toNat:Int) -48))else st
def Jhe(m:Nat):Bool:=decide ((Jdr m).length≤3)&&decide (Go.Lib.atoi (Jdr m)=some (m:Int))&&decide ((Jdr m).foldl ZS ([],0)=([],(m:Int)))&&(Jdr m).all fun b=>decide (48≤b.toNat∧b.toNat≤57)
theorem JgC:(List.range 257).all Jhe=true:=by kernel_rfl
theorem Ga{m:Nat}(h:m≤256):(Go.Lib.decDigits m).length≤3∧Go.Lib.atoi (Go.Lib.decDigits m)=some (m:Int)∧(Go.Lib.decDigits m).foldl ZS ([],0)=([],(m:Int))∧∀b∈Go.Lib.decDigits m,48≤b.toNat∧b.toNat≤57:=by
 have:=List.all_eq_true.1 JgC m (List.mem_range.2 (by omega))
 simp only[Jhe,Bool.and_eq_true,decide_eq_true_eq,List.all_eq_true]at this
 obtain⟨⟨⟨h1,h2⟩,h3⟩,h4⟩:=this
 rw[JgV (by omega)]
 exact⟨h1,h2,h3,h4⟩
theorem G3:∀(l:List UInt8),(∀b∈l,48≤b.toNat∧b.toNat≤57)→∀(cs:List Int) (v:Int),l.foldl ZS (cs,v)=(cs,(l.foldl ZS ([],v)).2)
 |[],_,cs,v=>rfl
 |b::l,h,cs,v=>by
  have hb:=h b (by simp)
  have e:∀cs:List Int,ZS (cs,v) b=(cs,10*v+((b.toNat:Int) -48)):=fun cs=>by
   unfold ZS
   rw[if_neg (by omega),if_pos hb]
  rw[List.foldl_cons,List.foldl_cons,e,e]
  exact G3 l (fun x hx=>h x (by simp[hx])) cs _
theorem GG{c:Int}(h:0≤c∧c<16):(chA c).toNat=97+c.toNat:=by
 unfold chA u8
 rw[UInt8.toNat_ofNat']
 omega
theorem RA:∀(cs:List Int),(∀c∈cs,0≤c∧c<16)→∀(ys:List Int),(cs.map chA).foldl ZS (ys,0)=(ys++cs,0)
 |[],_,ys=>by simp
 |c::cs,h,ys=>by
  have hc:=h c (by simp)
  have e:ZS (ys,0) (chA c)=(ys++[c],0):=by
   unfold ZS
   rw[GG hc,if_pos (by omega)]
   have:(((97+c.toNat:Nat):Int)) -97=c:=by omega
   rw[this]
  rw[Qf,List.foldl_cons,e,RA cs (fun x hx=>h x (by simp[hx]))]
  simp
theorem Kz{r:Q2}(h:JQ r 4=true):∀c∈r.cells,0≤c∧c<16:=fun c hc=>by
 obtain⟨_,_,h3,_⟩:=Us h
 obtain⟨k,hk,rfl⟩:=List.mem_iff_getElem.1 hc
 have:=h3 k hk
 rw[Qu (by omega)]at this
 simpa using this
theorem Kj{k:Int}(h:1≤k∧k≤5):97≤(Uz k).toNat∧(Uz k).toNat≤115∧Go.Lib.indexByte [100,115,112,108,97] (Uz k)+1=k:=by
 rcases(by omega:k=1∨k=2∨k=3∨k=4∨k=5)with rfl|rfl|rfl|rfl|rfl<;>decide
theorem Br{r:Q2}(h:JQ r 4=true):∀b∈Uz r.kind::r.cells.map chA,97≤b.toNat∧b.toNat≤115:=fun b hb=>by
 obtain⟨h1,_⟩:=Us h
 rcases JV.1 hb with rfl|hb
 · have:=Kj h1;omega
 · obtain⟨c,hc,rfl⟩:=Qs.1 hb
   have:=Kz h c hc
   rw[GG this];omega
theorem Jas{r:Q2}(h:JQ r 4=true):∀b∈Rp r,48≤b.toNat∧b.toNat≤61:=fun b hb=>by
 obtain⟨_,_,_,h2,h3⟩:=Us h
 unfold Rp at hb
 split at hb
 · rcases JV.1 hb with rfl|hb
   · decide
   · have:=(Ga (m:=r.val.toNat) (by omega)).2.2.2 b hb;omega
 · cases hb
theorem Nl{r:Q2}(h:JQ r 4=true):∀b∈Zl r,b≠32:=fun b hb he=>by
 subst he
 unfold Zl at hb
 rw[←Jc]at hb
 rcases JF.1 hb with hb|hb
 · have:=Br h _ hb;revert this;decide
 · have:=Jas h _ hb;revert this;decide
theorem Jfe{r:Q2}(h:JQ r 4=true):Go.Lib.cut (Zl r) [61]=(Uz r.kind::r.cells.map chA,if r.kind=2∨r.kind=3∨r.kind=5 then Go.Lib.decDigits r.val.toNat else[],decide (r.kind=2∨r.kind=3∨r.kind=5)):=by
 have hb:∀b∈Uz r.kind::r.cells.map chA,b≠61:=fun b hm he=>by
  have:=Br h b hm
  subst he
  revert this;decide
 unfold Zl Rp
 rw[←Jc]
 split
 · rename_i hk
   rw[Jcb hb,decide_eq_true hk]
 · rename_i hk
   rw[Jv,Jff hb,decide_eq_false hk]
def rdR(s:List UInt8):Q2:=⟨Go.Lib.indexByte [100,115,112,108,97] ((Go.Lib.cut s [61]).1.getD 0 0)+1,(Go.Lib.cut s [61]).1.tail.map fun b=>(b.toNat:Int) -97,(Go.Lib.atoi (Go.Lib.cut s [61]).2.1).getD 0⟩
def B4(s:List UInt8):Prop:=2≤(Go.Lib.cut s [61]).1.length∧(Go.Lib.cut s [61]).1.length≤5∧(Go.Lib.cut s [61]).2.1.length≤3
instance(s:List UInt8):Decidable (B4 s):=by unfold B4;infer_instance
def Nf(s:List UInt8):Q2:=⟨if s=[]then 0 else Go.Lib.indexByte [100,115,112,108,97] (s.getD 0 0)+1,(((s.take 12).drop 1).foldl ZS ([],0)).1,(((s.take 12).drop 1).foldl ZS ([],0)).2⟩
theorem GY{r:Q2}(h:JQ r 4=true)(hk:¬(r.kind=2∨r.kind=3∨r.kind=5)):r.val=0:=by
 simp only[JQ,decide_eq_true_eq]at h
 have:=h.2.2
 unfold Zz at this
 omega
theorem Wn{r:Q2}(h:JQ r 4=true):1≤r.cells.length∧r.cells.length≤4:=by
 simp only[JQ,decide_eq_true_eq]at h
 have:=h.2.2
 unfold Zz at this
 omega
theorem Jbo{cs:List Int}(h:∀c∈cs,0≤c∧c<16):(cs.map chA).map (fun b=>(b.toNat:Int) -97)=cs:=by
 rw[List.map_map]
 conv=>rhs;rw[←List.map_id cs]
 refine List.map_congr_left fun c hc=> ?_
 show(((chA c).toNat:Nat):Int) -97=c
 have:=h c hc
 rw[GG this]
 omega
theorem JbQ{r:Q2}(h:JQ r 4=true):B4 (Zl r)∧rdR (Zl r)=r:=by
 obtain⟨h1,_,_,h2,h3⟩:=Us h
 have hc:=Wn h
 have hn:=Ga (m:=r.val.toNat) (by omega)
 unfold B4 rdR
 rw[Jfe h]
 refine⟨⟨by simp;omega,by simp;omega, ?_⟩, ?_⟩
 · show(if _ then _ else _:List UInt8).length≤3
   split
   · exact hn.1
   · simp
 · show Q2.mk (Go.Lib.indexByte _ (Uz r.kind)+1) ((r.cells.map chA).map _) _=r
   rw[(Kj h1).2.2,Jbo (Kz h)]
   have:(Go.Lib.atoi (if r.kind=2∨r.kind=3∨r.kind=5 then Go.Lib.decDigits r.val.toNat else[])).getD 0=r.val:=by
    split
    · rw[hn.2.1]
      show((r.val.toNat:Nat):Int)=r.val
      omega
    · rename_i hk
      rw[GY h hk]
      rfl
   show Q2.mk r.kind r.cells ((Go.Lib.atoi (if r.kind=2∨r.kind=3∨r.kind=5 then Go.Lib.decDigits r.val.toNat else[])).getD 0)=r
   rw[this]
theorem Y9{r:Q2}(h:JQ r 4=true):2≤(Zl r).length∧(Zl r).length≤9:=by
 obtain⟨h1,_,_,h2,h3⟩:=Us h
 have hc:=Wn h
 have hn:=Ga (m:=r.val.toNat) (by omega)
 unfold Zl Rp
 split<;>simp<;>omega
theorem JbM{r:Q2}(h:JQ r 4=true):Nf (Zl r)=r:=by
 obtain⟨h1,_,_,h2,h3⟩:=Us h
 have hl:=Y9 h
 have hn:=Ga (m:=r.val.toNat) (by omega)
 have hf:((Zl r).take 12).drop 1=r.cells.map chA++Rp r:=by
  rw[Jn (by omega)]
  rfl
 have hv:(Rp r).foldl ZS (r.cells,0)=(r.cells,r.val):=by
  unfold Rp
  split
  · rw[List.foldl_cons]
    show(Go.Lib.decDigits r.val.toNat).foldl ZS (r.cells,0)=_
    rw[G3 _ hn.2.2.2,hn.2.2.1]
    show(r.cells,((r.val.toNat:Nat):Int))=_
    rw[Int.toNat_of_nonneg h2]
  · rename_i hk
    rw[GY h hk]
    rfl
 unfold Nf
 rw[hf,List.foldl_append,RA _ (Kz h),Jd,hv,if_neg (by intro h0;rw[h0]at hl;simp at hl)]
 show Q2.mk (Go.Lib.indexByte _ (Uz r.kind)+1) _ _=r
 rw[(Kj h1).2.2]
def B2(s:List UInt8):Prop:=B4 s∧Ze (rdR s)=s
instance(s:List UInt8):Decidable (B2 s):=by unfold B2;infer_instance
def JbB:Q2:=⟨0,[],0⟩
def QA(s:List UInt8):Q2:=if B2 s then rdR s else JbB
def Q6(s:List UInt8):Bool:=decide (B2 s)
theorem Nk{r:Q2}{s:List UInt8}(h:Ze r=s)(hs:s≠[]):JQ r 4=true∧Zl r=s:=by
 unfold Ze at h
 split at h
 · rename_i hv
   exact⟨hv,h⟩
 · exact absurd h.symm hs
theorem YX{s:List UInt8}(h:B4 s):s≠[]:=fun h0=>by
 subst h0
 revert h
 decide
theorem YW(s:List UInt8):B2 s↔∃r,JQ r 4=true∧Zl r=s:=by
 constructor
 · rintro⟨h1,h2⟩
   exact⟨_,Nk h2 (YX h1)⟩
 · rintro⟨r,hv,rfl⟩
   obtain⟨h1,h2⟩:=JbQ hv
   refine⟨h1, ?_⟩
   rw[h2]
   unfold Ze
   rw[if_pos hv]
theorem V7{r:Q2}(h:JQ r 4=true):QA (Zl r)=r∧Q6 (Zl r)=true:=by
 have:=(YW (Zl r)).2 ⟨r,h,rfl⟩
 unfold QA Q6
 rw[if_pos this,(JbQ h).2]
 exact⟨rfl,decide_eq_true this⟩
theorem Uu{s:List UInt8}(h:¬B2 s):QA s=JbB∧Q6 s=false:=by
 unfold QA Q6
 rw[if_neg h]
 exact⟨rfl,decide_eq_false h⟩
theorem VN(s:List UInt8):(Ze (Nf s)=s∧s≠[])↔B2 s:=by
 rw[YW]
 constructor
 · rintro⟨h1,h2⟩
   exact⟨_,Nk h1 h2⟩
 · rintro⟨r,hv,rfl⟩
   rw[JbM hv]
   refine⟨by unfold Ze;rw[if_pos hv],fun h0=> ?_⟩
   have:=Y9 hv
   rw[h0]at this
   simp at this
theorem JbN{s:List UInt8}(h:B2 s):Nf s=QA s:=by
 obtain⟨r,hv,rfl⟩:=(YW s).1 h
 rw[JbM hv,(V7 hv).1]
theorem Jcz{s:List UInt8}(h:Q6 s=true):JQ (QA s) 4=true∧Zl (QA s)=s∧Ze (QA s)=s:=by
 obtain⟨r,hv,rfl⟩:=(YW s).1 (of_decide_eq_true h)
 rw[(V7 hv).1]
 exact⟨hv,rfl,by unfold Ze;rw[if_pos hv]⟩
end Go.Lg

namespace Go.Lg
open Go.Proofs
theorem JdV{xs:List Int}{n:Int}(h:J9 xs n=true):(Qk xs n).length=xs.length+2:=by simp[Qk,h]
theorem GZ{v:Int}(h:0≤v∧v≤255):((u8 v).toNat:Int)=v:=by
 unfold u8
 rw[UInt8.toNat_ofNat']
 omega
theorem JhV{v:Int}(h:0≤v∧v≤4):NS ((GF v).toNat:Int)=v:=by
 unfold GF
 rw[GZ (by unfold chI;split<;>omega)]
 unfold chI NS
 split<;>split<;>omega
theorem JbP{xs:List Int}{n:Int}(h:J9 xs n=true):Qt (Qk xs n)=(xs,n,true):=by
 have hb:=Qz h
 have e:Qk xs n=u8 (48+n)::58::xs.map GF:=by simp[Qk,h]
 have e1:QK (Qk xs n)=xs:=by
  rw[e]
  simp only[QK,List.drop_succ_cons,JB,List.map_map]
  refine List.ext_getElem (by simp) fun i h1 h2=> ?_
  simp only[List.getElem_map,Function.comp_apply]
  have:=hb.2.2.2.2 i h2
  rw[Qu (by omega)]at this
  simp only[Int.toNat_natCast]at this
  exact JhV (by omega)
 have e2:Ue (Qk xs n) 0 -48=n:=by
  rw[e]
  have:Ue (u8 (48+n)::58::xs.map GF) 0=((u8 (48+n)).toNat:Int):=rfl
  rw[this,GZ (by omega)]
  omega
 unfold Qt
 rw[e1,e2,if_pos ⟨by rw[JdV h];omega,rfl⟩]
end Go.Lg

namespace Go.Lg
open Go.Proofs
attribute [-go_sem] JP
theorem FT{α:Type}(l:List α)(a b:Int):(sub l a b).length≤l.length:=by simp[sub];omega
theorem G6{P:Program}{ops:Array Oper}{o:Oper}{s:List AV}{K:AV→Prop}{t:TypeId}{n:Nat}{ps:Array (Nat×Operand)}{ei:TI}{rs:List (Nat×List CV)}{xs:List FV}(ho:o.op= .buildSlice t n ps)(hn:n≠0)(ht:QJ P t=some ei)
 (hp:ZW s ps.toList=some rs) (hq:XC ei.size 0 rs=true∧rs.length=n) (hc:Vz (Xa rs)=some xs) (hz:ei.zero.length=ei.size∧n*ei.size≤16777216) (hk:K (.c (.f (.sl n xs)))):VL P ops o s K:=by
 unfold VL
 rw[ho]
 simp only
 rw[if_neg (fun h=>hn h.1)]
 unfold Zv
 simp only[ht,hp,hc]
 rw[if_pos hq]
 exact⟨hz,hk⟩
theorem ND:∀(n:Nat) (H:Ji),H.length≤n→∀(i:Nat) (b:ZG),(QT (Jg n true) H)[i]?≠some (some b)
 |0,H,h,i,b=>by
  have:H=[]:=List.eq_nil_of_length_eq_zero (by omega)
  subst this
  simp[QT]
 |n+1,[],h,i,b=>by simp[QT,List.replicate_succ]
 |n+1,x::H,h,i,b=>by
  rw[List.replicate_succ]
  cases i with
  |zero=>simp[QT]
  |succ i=>
   simp only[QT,Q0]
   exact ND n H (by simpa using h) i b
theorem Jgz(H H':Ji):KO (Jg H.length true) H H':=fun i b h=>absurd h (ND _ H (Nat.le_refl _) i b)
def JeZ(k:Nat):KV:=fun v _=>∃t:List UInt8,v=Um t∧t.length≤k
theorem NQ(H:Ji)(id g:Nat)(B n:Int)(s:List UInt8)(hr:Zj H id g B)(hB:B≤2^38)(hn9:n≤100)(hs:s.length≤1000):Jq Tryz.prog 28 [.c (.ptr id g 0),Um s,int n] H (JeZ (2*s.length+1)):=by
 have hlt:=hr.lt
 refine Jq.cw (c:=_) Tryz.func28 rfl (n:=61) Tryz.ntmps28 (rs:=[.tmp 6]) rfl ?_
 simp only[Jf,Jl,zA,zS,Jg,Jc,Jd]
 simp(maxSteps:=999999)(disch:=omega)only[go_sem,zA,zM,zS,zE,zL]
 refine Qh.run (Rk H id g B n hr (by omega) (by omega)) (⟨_,Tryz.func41,rfl,rfl⟩:Jm Tryz.prog 41) rfl rfl ?_
 rintro _ H1 ⟨⟨b,rfl,hb⟩,r1,f1⟩
 simp(maxSteps:=999999)(disch:=omega)only[go_sem,zA,zM,zS,zE,zL]
 ((first|(with_reducible first|refine Jo ?_ ?_|refine Jk ?_ ?_|refine Jp ?_ ?_)|refine Jr ?_ ?_)<;>intro h1)
 · simp(maxSteps:=999999)(disch:=omega)only[go_sem,zA,zM,zS,zE,zL]
   refine Qh.run (QQ _ id g _ _ r1 (by omega)) (⟨_,Tryz.func35,rfl,rfl⟩:Jm Tryz.prog 35) rfl rfl ?_
   rintro _ H2 ⟨⟨at_,rfl,a0,a1⟩,r2,f2⟩
   have a1:=a1 (by omega)
   obtain⟨i,rfl⟩:∃i:Nat,at_=i:=⟨at_.toNat,by omega⟩
   have hi:i≤s.length:=by omega
   simp(maxSteps:=999999)(disch:=omega)only[go_sem,zA,zM,zS,zE,zL]
   have q1:=FT s 0 i
   have q2:=FT s i s.length
   have q3:=FT s (min (s.length:Int) ((i:Int)+1)) s.length
   refine Zg [0,1,2,3,4,5,6,7,8,9,10,11,12,13,14,15,16,17,18,19,20,21,22,23,24,25,26,27,28,29,30,31,32,33,34,35,36,37,38,39,40] [38] none [41,42,43] (Jg H2.length true) [0,1,0,0,12,0,0,96,224,0,0,1536,4064,0,0,24576,0,0,131072,0,524288,1966080,4128768,8380416,0,16777216,0,0,201326592,469762048,0,0,2147483648,0,8589934592,32212254720,67645734912,137371844608,274877906943,0,549755813888,2199023255551,4398046511103,8796093022207] Zr (by kernel_rfl) ?_
   iterate 38 (rw[JP];simp(maxSteps:=999999)(disch:=omega)only[go_sem,zA,zM,zS,zE,zL])
   rw[JP]
   simp only[List.getElem?_toArray,Q0,List.getElem?_cons_zero,NG,reduceCtorEq,if_false,NF,UA,Bool.false_eq_true,List.contains_cons,List.contains_nil,BEq.rfl,Bool.true_or,Bool.or_true,if_true]
   refine G6 (n:=7) rfl (by decide) (JZ ti46 rfl ti9) rfl ⟨rfl,rfl⟩ rfl ⟨rfl,by decide⟩ ?_
   change lwS _ _ _ _ _ _ _ _ _ _ _ (Rj eS [[],s++[32],sub s 0 i,sub s 0 i++[46]++sub s i s.length,sub s 0 i++sub s (min (s.length:Int) ((i:Int)+1)) s.length,32::s,sub s 0 i++[120]++sub s (min (s.length:Int) ((i:Int)+1)) s.length])
   have hall:∀t∈[[],s++[32],sub s 0 i,sub s 0 i++[46]++sub s i s.length,sub s 0 i++sub s (min (s.length:Int) ((i:Int)+1)) s.length,32::s,sub s 0 i++[120]++sub s (min (s.length:Int) ((i:Int)+1)) s.length],t.length≤2*s.length+1:=by
    intro t ht
    simp only[JV,Q9,or_false]at ht
    rcases ht with rfl|rfl|rfl|rfl|rfl|rfl|rfl<;>(try simp)<;>omega
   generalize hL:[[],s++[32],sub s 0 i,sub s 0 i++[46]++sub s i s.length,sub s 0 i++sub s (min (s.length:Int) ((i:Int)+1)) s.length,32::s,sub s 0 i++[120]++sub s (min (s.length:Int) ((i:Int)+1)) s.length]=L at hall⊢
   have hl7:L.length=7:=by rw[←hL];rfl
   clear hL
   rw[JeM,JP]
   simp(maxSteps:=999999)(disch:=omega)only[go_sem,zA,zM,zS,zE,zL]
   rw[JP]
   simp(maxSteps:=999999)(disch:=omega)only[go_sem,zA,zM,zS,zE,zL]
   refine Qe.run (QQ _ id g _ _ r2 (by omega)) (⟨_,Tryz.func35,rfl,rfl⟩:Jm Tryz.prog 35) rfl rfl ?_
   rintro _ H3 ⟨⟨y,rfl,y0,y1⟩,r3,f3⟩
   have y1:=y1 (by omega)
   obtain⟨yn,rfl⟩:∃yn:Nat,y=yn:=⟨y.toNat,by omega⟩
   have hyl:yn<L.length:=by omega
   refine⟨Jgz _ _, ?_⟩
   simp(maxSteps:=999999)(disch:=omega)only[go_sem,zA,zM,zS,zE,zL]
   refine⟨[],J8 _,JM L yn,rfl,hall _ ?_⟩
   rw[Qu (by omega)]
   exact List.getElem_mem _
 · simp(maxSteps:=999999)(disch:=omega)only[go_sem,zA,zM,zS,zE,zL]
   exact⟨[],J8 _,s,rfl,by omega⟩
theorem WZ{t:List UInt8}(h:(Qt t).2.2=true):2≤t.length∧Qt t=(QK t,Ue t 0 -48,true)∧Qk (QK t) (Ue t 0 -48)=t:=by
 unfold Qt at h⊢
 split
 · rename_i h2
   exact⟨h2.1,rfl,h2.2⟩
 · rename_i h2
   rw[if_neg h2]at h
   cases h
end Go.Lg

namespace Go.Lg
open Go.Proofs
def Ql:List UInt8→List (List UInt8)
 |[]=>[[]]
 |b::l=>if b=32 then[]::Ql l else match Ql l with
  |w::ws=>(b::w)::ws
  |[]=>[[b]]
def Wb:List (List UInt8)→List UInt8
 |[]=>[]
 |w::ws=>w++ws.flatMap (32::·)
theorem Yl:∀(s:List UInt8),Ql s≠[]
 |[]=>by simp[Ql]
 |b::l=>by
  unfold Ql
  split
  · simp
  · split<;>simp
theorem ZD{b:UInt8}{l w:List UInt8}{ws:List (List UInt8)}(hb:b≠32)(h:Ql l=w::ws):Ql (b::l)=(b::w)::ws:=by
 rw[Ql,if_neg hb,h]
theorem WU(l:List UInt8):Ql (32::l)=[]::Ql l:=by rw[Ql,if_pos rfl]
theorem Wt:∀(s:List UInt8),Wb (Ql s)=s
 |[]=>rfl
 |b::l=>by
  have ih:=Wt l
  obtain⟨w,ws,h⟩:∃w ws,Ql l=w::ws:=by
   cases h:Ql l with
   |nil=>exact absurd h (Yl l)
   |cons w ws=>exact⟨w,ws,rfl⟩
  rw[h]at ih
  by_cases hb:b=32
  · subst hb
    rw[WU,h]
    simp only[Wb,List.flatMap_cons,Jd,Jc]at ih⊢
    rw[ih]
  · rw[ZD hb h]
    simp only[Wb,Jc]at ih⊢
    rw[ih]
theorem XQ:∀{w:List UInt8},(∀b∈w,b≠32)→Ql w=[w]
 |[],_=>rfl
 |b::l,h=>ZD (h b (by simp)) (XQ fun x hx=>h x (by simp[hx]))
theorem Y5{s:List UInt8}:∀{w:List UInt8},(∀b∈w,b≠32)→Ql (w++32::s)=w::Ql s
 |[],_=>WU s
 |b::l,h=>ZD (h b (by simp)) (Y5 fun x hx=>h x (by simp[hx]))
theorem RE:∀{w:List UInt8} {ws:List (List UInt8)},(∀x∈w::ws,∀b∈x,b≠32)→Ql (Wb (w::ws))=w::ws
 |w,[],h=>by
  have:Wb [w]=w:=by simp[Wb]
  rw[this]
  exact XQ (h w (by simp))
 |w,v::vs,h=>by
  have:Wb (w::v::vs)=w++32::Wb (v::vs):=by simp[Wb]
  rw[this,Y5 (h w (by simp)),RE fun x hx=>h x (List.mem_cons_of_mem _ hx)]
theorem VD{α β:Type}{f g:α→List β}:∀{l:List α},(∀x∈l,f x=g x)→l.flatMap f=l.flatMap g
 |[],_=>rfl
 |x::l,h=>by
  rw[List.flatMap_cons,List.flatMap_cons,h x (by simp),VD fun y hy=>h y (by simp[hy])]
def Y1:Zk:=⟨0,[],[]⟩
def GV(s:List UInt8):List UInt8:=(Ql s).headD []
def FR(s:List UInt8):List (List UInt8):=(Ql s).tail
theorem BG(s:List UInt8):Ql s=GV s::FR s:=by
 unfold GV FR
 cases h:Ql s with
 |nil=>exact absurd h (Yl s)
 |cons w ws=>rfl
def XU(s:List UInt8):Zk:=⟨(Qt (GV s)).2.1,(Qt (GV s)).1,(FR s).map QA⟩
def V0(s:List UInt8):Prop:=(Qt (GV s)).2.2=true∧(FR s).length≤20∧((FR s).all Q6=true)∧JE (XU s)=true
instance(s:List UInt8):Decidable (V0 s):=by unfold V0;infer_instance
def ZF(s:List UInt8):Zk:=if V0 s then XU s else Y1
def Z1(s:List UInt8):Bool:=decide (V0 s)
theorem Jdf{xs:List Int}{n:Int}(h:J9 xs n=true):∀b∈Qk xs n,b≠32:=by
 obtain⟨h1,h2,h3,h4,h5⟩:=Qz h
 unfold Qk
 rw[if_pos h]
 intro b hb he
 subst he
 rcases JV.1 hb with hb|hb
 · rcases(by omega:n=2∨n=3∨n=4)with rfl|rfl|rfl<;>revert hb<;>decide
 rcases JV.1 hb with hb|hb
 · revert hb;decide
 · obtain⟨v,hv,he⟩:=Qs.1 hb
   obtain⟨k,hk,rfl⟩:=List.mem_iff_getElem.1 hv
   have h6:=h5 k hk
   rw[Qu (by omega)]at h6
   simp only[Int.toNat_natCast]at h6
   rcases(by omega:xs[k]=0∨xs[k]=1∨xs[k]=2∨xs[k]=3∨xs[k]=4)with e|e|e|e|e<;>rw[e]at he<;>revert he<;>decide
theorem Jar{r:Q2}{n:Int}(hn:2≤n∧n≤4)(h:JQ r n=true):JQ r 4=true:=by
 simp only[JQ,decide_eq_true_eq]at h⊢
 obtain⟨_,h2,h3⟩:=h
 have h4:=RD hn
 have h5:=Bm hn
 refine⟨by omega,fun j hj=>⟨?_,(h2 j hj).2⟩, ?_⟩
 · have:=(h2 j hj).1
   omega
 · unfold Zz at h3⊢
   omega
theorem Vk{p:Zk}(h:JE p=true):J9 p.given p.size=true∧p.rules.length≤20∧∀r∈p.rules,JQ r 4=true:=by
 simp only[JE,Bool.and_eq_true,decide_eq_true_eq,List.all_eq_true]at h
 have hb:=Qz h.1
 exact⟨h.1,h.2.1,fun r hr=>Jar ⟨hb.1,hb.2.1⟩ (h.2.2 r hr)⟩
theorem Jd7{rs:List Q2}(h:∀r∈rs,JQ r 4=true):ZE rs=(rs.map Zl).flatMap (32::·):=by
 unfold ZE
 rw[List.flatMap_map]
 refine VD fun r hr=> ?_
 show 32::Ze r=32::Zl r
 unfold Ze
 rw[if_pos (h r hr)]
theorem JcD{p:Zk}(h:JE p=true):Ql (Qy p)=Qk p.given p.size::p.rules.map Zl:=by
 obtain⟨h1,h2,h3⟩:=Vk h
 have e:Qy p=Wb (Qk p.given p.size::p.rules.map Zl):=by
  unfold Qy Wb
  rw[if_pos h,Jd7 h3]
 rw[e]
 refine RE fun x hx=> ?_
 rcases JV.1 hx with rfl|hx
 · exact Jdf h1
 · obtain⟨r,hr,rfl⟩:=Qs.1 hx
   exact Nl (h3 r hr)
theorem Jef{p:Zk}(h:JE p=true):V0 (Qy p)∧XU (Qy p)=p:=by
 obtain⟨h1,h2,h3⟩:=Vk h
 have e:=JcD h
 have e1:GV (Qy p)=Qk p.given p.size:=by unfold GV;rw[e];rfl
 have e2:FR (Qy p)=p.rules.map Zl:=by unfold FR;rw[e];rfl
 have e3:XU (Qy p)=p:=by
  unfold XU
  rw[e1,e2,JbP h1,List.map_map]
  have:p.rules.map (QA∘Zl)=p.rules:=by
   conv=>rhs;rw[←List.map_id p.rules]
   exact List.map_congr_left fun r hr=>(V7 (h3 r hr)).1
  rw[this]
 refine⟨⟨by rw[e1,JbP h1],by rw[e2,JL];exact h2, ?_,by rw[e3];exact h⟩,e3⟩
 rw[e2,List.all_map,List.all_eq_true]
 exact fun r hr=>(V7 (h3 r hr)).2
theorem Bv{s:List UInt8}(h:V0 s):Qy (XU s)=s:=by
 obtain⟨h1,h2,h3,h4⟩:=h
 obtain⟨k1,k2,k3⟩:=WZ h1
 have hj:=Wt s
 rw[BG s]at hj
 unfold Qy
 rw[if_pos h4]
 have e1:Qk (XU s).given (XU s).size=GV s:=by
  unfold XU
  rw[k2]
  exact k3
 have e2:ZE (XU s).rules=(FR s).flatMap (32::·):=by
  show ZE ((FR s).map QA)=_
  unfold ZE
  rw[List.flatMap_map]
  refine VD fun w hw=> ?_
  have:=(Jcz (List.all_eq_true.1 h3 w hw)).2.2
  show 32::Ze (QA w)=32::w
  rw[this]
 rw[e1,e2]
 exact hj
theorem JfO(s:List UInt8):V0 s↔∃p,JE p=true∧Qy p=s:=by
 constructor
 · intro h
   exact⟨_,h.2.2.2,Bv h⟩
 · rintro⟨p,hv,rfl⟩
   exact(Jef hv).1
theorem Jed{p:Zk}(h:JE p=true):ZF (Qy p)=p∧Z1 (Qy p)=true:=by
 obtain⟨h1,h2⟩:=Jef h
 unfold ZF Z1
 rw[if_pos h1,h2]
 exact⟨rfl,decide_eq_true h1⟩
theorem WY{s:List UInt8}(h:¬V0 s):ZF s=Y1∧Z1 s=false:=by
 unfold ZF Z1
 rw[if_neg h]
 exact⟨rfl,decide_eq_false h⟩
theorem Kd{s:List UInt8}(h:Z1 s=true):JE (ZF s)=true∧Qy (ZF s)=s:=by
 have h:=of_decide_eq_true h
 unfold ZF
 rw[if_pos h]
 exact⟨h.2.2.2,Bv h⟩
theorem Fl{p:Zk}(h:JE p=true):∃b l,Qy p=b::58::l∧50≤b.toNat∧b.toNat≤52:=by
 obtain⟨h1,h2,h3⟩:=Vk h
 have hb:=Qz h1
 unfold Qy Qk
 rw[if_pos h,if_pos h1]
 refine⟨_,_,rfl, ?_⟩
 rcases(by omega:p.size=2∨p.size=3∨p.size=4)with e|e|e<;>rw[e]<;>decide
theorem JcA{s:List UInt8}(h:Z1 s=true):1≤s.length∧Z1 (s.drop 1)=false:=by
 obtain⟨h1,h2⟩:=Kd h
 obtain⟨b,l,e,_⟩:=Fl h1
 rw[h2]at e
 subst e
 refine⟨by simp,decide_eq_false fun h3=> ?_⟩
 obtain⟨q,hq,he⟩:=(JfO _).1 h3
 obtain⟨c,m,e2,h4,h5⟩:=Fl hq
 rw[e2]at he
 have:c=58:=by simpa using congrArg (fun l=>l.headD 0) he
 subst this
 revert h5
 decide
def Jaz(s:List UInt8)(k:Nat):Prop:=k≤s.length∧(k<s.length→22<(Ql (s.take k)).length)
theorem XR:∀(l:List UInt8) (b:UInt8),Ql (l++[b])=if b=32 then Ql l++[[]]else(Ql l).dropLast++[(Ql l).getLastD []++[b]]
 |[],b=>by
  by_cases h:b=32
  · subst h;rfl
  · simp[Ql,h]
 |c::l,b=>by
  have ih:=XR l b
  obtain⟨w,ws,hw⟩:∃w ws,Ql l=w::ws:=⟨_,_,BG l⟩
  rw[Jc]
  by_cases hc:c=32
  · subst hc
    rw[WU,WU,ih,hw]
    split<;>simp
  · by_cases hb:b=32
    · rw[if_pos hb]at ih⊢
      rw[hw,Jc]at ih
      rw[ZD hc ih,ZD hc hw]
      rfl
    · rw[if_neg hb]at ih⊢
      cases ws with
      |nil=>
       rw[hw]at ih
       simp at ih
       rw[ZD hc ih,ZD hc hw]
       simp
      |cons v vs=>
       rw[hw]at ih
       simp at ih
       rw[ZD hc ih,ZD hc hw]
       simp
theorem Jec{s:List UInt8}{k:Nat}(hk:Jaz s k)(h1:(Qt (GV (s.take k))).2.2=true)(h2:(FR (s.take k)).all Q6=true)(h3:Qy (XU (s.take k))=s):V0 s∧XU (s.take k)=ZF s:=by
 obtain⟨k1,k2,k3⟩:=WZ h1
 have hl:2≤s.length:=by
  have hj:=congrArg List.length (Wt (s.take k))
  rw[BG (s.take k)]at hj
  simp only[Wb,Je,JA]at hj
  omega
 have hv:JE (XU (s.take k))=true:=by
  cases hv:JE (XU (s.take k))with
  |true=>rfl
  |false=>
   unfold Qy at h3
   rw[if_neg (by rw[hv];simp)]at h3
   rw[←h3]at hl
   simp at hl
 have h20:=(Vk hv).2.1
 have hks:s.take k=s:=by
  by_cases hlt:k<s.length
  · have:=hk.2 hlt
    rw[BG,Jf]at this
    have e:(XU (s.take k)).rules.length=(FR (s.take k)).length:=by simp[XU]
    omega
  · exact Jn (by omega)
 rw[hks]at h1 h2 h3 hv h20⊢
 have e:(XU s).rules.length=(FR s).length:=by simp[XU]
 have ha:V0 s:=⟨h1,by omega,h2,hv⟩
 refine⟨ha, ?_⟩
 unfold ZF
 rw[if_pos ha]
theorem Jcy{s:List UInt8}{k:Nat}(hk:Jaz s k)(ha:V0 s):s.take k=s:=by
 by_cases hlt:k<s.length
 · exfalso
   have h1:=hk.2 hlt
   have h2:=ha.2.1
   have hm:∀(l m:List UInt8),(Ql l).length≤(Ql (l++m)).length:=by
    intro l m
    induction m generalizing l with
    |nil=>simp
    |cons b m ih=>
     have h3:=ih (l++[b])
     rw[Js,List.singleton_append]at h3
     refine Nat.le_trans ?_ h3
     rw[XR]
     split
     · simp
     · have:=List.length_pos_iff.2 (Yl l)
       simp;omega
   have h3:=hm (s.take k) (s.drop k)
   rw[QU]at h3
   rw[BG s,Jf]at h3
   omega
 · exact Jn (by omega)
end Go.Lg
