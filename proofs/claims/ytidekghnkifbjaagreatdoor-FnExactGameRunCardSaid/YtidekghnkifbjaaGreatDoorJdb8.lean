/- GpCB, GpCD, GpCE, GpGA, GpDA, GpDB, cut to what is needed. -/
import Derived.Test.YtidekghnkifbjaaGreatDoorJdb7
import Derived.Test.YtidekghnkifbjaaGreatDoorJda9
import Derived.Test.YtidekghnkifbjaaGreatDoorJdb0
open List renaming length_cons → Ja, cons_append → Jb, getElem?_append_left → Jc, nil_append → Jd, length_nil → Je, replicate → Jf, getElem?_eq_some_iff → Jh, getElem?_set_ne → Ji, length_append → Jq, take_of_length_le → Js, nodup_append → JZ, drop_zero → J1, mapM_cons → J3, map_cons → Qh, length_map → Qi, take_append_drop → QD, sum_cons → Zw
open Nat renaming reduceAdd→zA,reduceMul→zM,reduceSub→zS,reduceEqDiff→zE,reduceLeDiff→zL
set_option linter.unusedSimpArgs false
set_option linter.unusedVariables false
set_option maxRecDepth 100000
namespace Go.Lg
open Go.Proofs
theorem Z7(n line:Nat):(Zb n line).length=n:=by simp[Zb]
theorem Wf{n line k:Nat}(h:k<n):Jy (Zb n line) k=if line<n then((line*n+k:Nat):Int)else((k*n+line -n:Nat):Int):=by
 rw[Qe (by rw[Z7];omega)]
 simp[Zb]
theorem YZ{n line k:Nat}(hn:n=2∨n=3∨n=4)(hl:line<2*n)(h:k<n):0≤Jy (Zb n line) k∧Jy (Zb n line) k<(n*n:Nat):=by
 rw[Wf h]
 split<;>rcases hn with rfl|rfl|rfl<;>omega
theorem Jab{n line:Nat}(hn:n=2∨n=3∨n=4)(hl:line<2*n):Jk Tryz.prog 154 [int n,int line] [] (RX (eI .i64) 1 (Zb n line)):=by
 have hb:(line:Int)*n≤28∧0≤(line:Int)*n:=by rcases hn with rfl|rfl|rfl<;>omega
 have hn4:2≤n∧n≤4:=by omega
 have hlen:=Z7 n line
 refine Jk.cw (c:=_) Tryz.func154 rfl (n:=46) Tryz.ntmps154 (rs:=[.tmp 4]) rfl ?_
 simp only[Ja,Je,zA,zS,Jf,Jb,Jd]
 simp(maxSteps:=999999)(disch:=omega)only[go_sem,zA,zM,zS,zE,zL]
 intro g
 refine Qx (fun(k g:Nat)=>n -k) (fun k g=>k≤n) (fun k g=>[.k, .k, .a, .a, .a, .p (.c (.own 0 g 0 k none)), .p (int k), .a, .a, .a, .a, .a, .a, .a, .a, .a, .a, .a, .a, .a, .a, .a, .a, .a, .a, .a, .a, .a, .a, .a, .a, .a, .a, .a, .a, .a, .a, .a, .a, .a, .a, .a, .a, .a, .a, .a]) (fun k g=>[some ⟨g,1,cl (eI .i64) ((Zb n line).take k)⟩]) 0 g
  (Nat.zero_le _) (by simp(maxSteps:=999999)(disch:=omega)only[go_sem,zA,zM,zS,zE,zL];rfl) (J5.refl _) ?_
 intro k g hk
 simp(maxSteps:=999999)(disch:=omega)only[go_sem,zA,zM,zS,zE,zL]
 ((with_reducible first|refine JL ?_ ?_|refine JD ?_ ?_|refine JT ?_ ?_|refine Jv ?_ ?_|refine JJ ?_ ?_|refine JK ?_ ?_|refine JB ?_ ?_|refine JC ?_ ?_|refine JR ?_ ?_|refine JS ?_ ?_|refine Jw ?_ ?_|refine Jx ?_ ?_)<;>intro h1<;>simp(maxSteps:=999999)(disch:=omega)only[go_sem,zA,zM,zS,zE,zL,h1])
 · first|refine JU.rd (QE _ _ _) (⟨_,Tryz.func40,rfl,rfl⟩:Jg Tryz.prog 40) rfl rfl rfl rfl ?_|refine JG.rd (QE _ _ _) (⟨_,Tryz.func40,rfl,rfl⟩:Jg Tryz.prog 40) rfl rfl rfl rfl ?_
   simp(maxSteps:=999999)(disch:=omega)only[go_sem,zA,zM,zS,zE,zL]
   ((with_reducible first|refine JL ?_ ?_|refine JD ?_ ?_|refine JT ?_ ?_|refine Jv ?_ ?_|refine JJ ?_ ?_|refine JK ?_ ?_|refine JB ?_ ?_|refine JC ?_ ?_|refine JR ?_ ?_|refine JS ?_ ?_|refine Jw ?_ ?_|refine Jx ?_ ?_)<;>intro h2<;>simp(maxSteps:=999999)(disch:=omega)only[go_sem,zA,zM,zS,zE,zL,h2])
   rotate_left
   · exfalso;omega
   first|refine JU.rd (QE _ _ _) (⟨_,Tryz.func40,rfl,rfl⟩:Jg Tryz.prog 40) rfl rfl rfl rfl ?_|refine JG.rd (QE _ _ _) (⟨_,Tryz.func40,rfl,rfl⟩:Jg Tryz.prog 40) rfl rfl rfl rfl ?_
   simp(maxSteps:=999999)(disch:=omega)only[go_sem,zA,zM,zS,zE,zL]
   have h1:k<n:=by omega
   have hkb:(k:Int)*n≤16∧0≤(k:Int)*n:=by rcases hn with rfl|rfl|rfl<;>omega
   have hne:=Wf (line:=line) h1
   ((first|(with_reducible first|refine Jm ?_ ?_|refine Jj ?_ ?_|refine Jo ?_ ?_)|refine Jr ?_ ?_)<;>intro h3)
   · simp(maxSteps:=999999)(disch:=omega)only[go_sem,zA,zM,zS,zE,zL]
     ((first|(with_reducible first|refine Jm ?_ ?_|refine Jj ?_ ?_|refine Jo ?_ ?_)|refine Jr ?_ ?_)<;>intro h4)
     · simp(maxSteps:=999999)(disch:=omega)only[go_sem,zA,zM,zS,zE,zL]
       intro g1 g2
       refine⟨k+1,g2,⟨by omega,by omega⟩,⟨⟨rfl,rfl⟩,by push_cast;omega⟩,ZY ?_ (J9 _)⟩
       rw[Qa (by omega),hne,if_pos (by omega)]
       push_cast
       rfl
     · simp(maxSteps:=999999)(disch:=omega)only[go_sem,zA,zM,zS,zE,zL]
       intro g1 g2
       refine⟨k+1,g2,⟨by omega,by omega⟩,⟨⟨rfl,rfl⟩,by push_cast;omega⟩,ZY ?_ (J9 _)⟩
       rw[Qa (by omega),hne,if_neg (by omega)]
       have:((k*n+line -n:Nat):Int)=(k:Int)*n+line -n:=by
        have:n≤k*n+line:=by omega
        omega
       rw[this]
   · exfalso;omega
 · have hi':k=n:=by omega
   subst hi'
   rw[Js (by omega)]
   have:=ZK (E:=eI .i64) (n:=1) (g:=g) (xs:=Zb k line) (J5.refl [some ⟨g,1,cl (eI .i64) (Zb k line)⟩])
   rw[hlen]at this
   exact this
theorem UY{n line:Nat}(hn:n=2∨n=3∨n=4)(hl:line<2*n):JM Tryz.prog 154 [int n,int line] (QF (Zb n line)):=JM.own (Jab hn hl)
theorem Uz{v:Int}(h:0≤v∧v≤4):Uw .shl .i64 1 .i64 v=some (.int .i64 ((2^v.toNat:Nat):Int)):=by
 obtain⟨k,rfl⟩:∃k:Nat,v=k:=⟨v.toNat,by omega⟩
 have hk:k=0∨k=1∨k=2∨k=3∨k=4:=by omega
 rcases hk with rfl|rfl|rfl|rfl|rfl<;>rfl
theorem XJ{s:Nat}{v:Int}(h:0≤v∧v≤4):Uw .shr .i64 (s:Int) .i64 v=some (.int .i64 ((s>>>v.toNat:Nat):Int)):=by
 obtain⟨k,rfl⟩:∃k:Nat,v=k:=⟨v.toNat,by omega⟩
 simp only[Uw]
 rw[if_neg (by omega)]
 have hb:min (k:Int).toNat IntKind.i64.bits=k:=by
  rw[Int.toNat_natCast]
  have:IntKind.i64.bits=64:=rfl
  omega
 rw[hb,Int.toNat_natCast,Nat.shiftRight_eq_div_pow]
 have e:((s:Int)).fdiv (2^k)=((s/2^k:Nat):Int):=by
  rw[Int.fdiv_eq_ediv_of_nonneg _ (by have:(0:Int)<2^k:=Int.pow_pos (by omega);omega)]
  push_cast
  rfl
 rw[e]
theorem RY{a b:Nat}(ha:a<2^62)(hb:b<2^62):Uv .or .i64 (a:Int) (b:Int)=((a|||b:Nat):Int):=by
 have hz:a|||b<2^62:=Nat.or_lt_two_pow ha hb
 have e:(BitVec.ofInt 64 (a:Int)|||BitVec.ofInt 64 (b:Int)).toNat=a|||b:=by
  simp only[BitVec.toNat_or,BitVec.ofInt_natCast,BitVec.toNat_ofNat]
  rw[Nat.mod_eq_of_lt (by omega),Nat.mod_eq_of_lt (by omega)]
 unfold Uv
 show IntKind.wrap .i64 ((BitVec.ofInt 64 (a:Int)|||BitVec.ofInt 64 (b:Int)).toNat:Int)=_
 rw[e]
 exact BJ (by omega)
theorem JbK{s k:Nat}:decide ((((s>>>k:Nat):Int)).tmod 2=1)=s.testBit k:=by
 rw[Nat.testBit_eq_decide_div_mod_eq,Nat.shiftRight_eq_div_pow]
 generalize s/2^k=m
 rw[JaY (by omega),decide_eq_decide]
 omega
theorem Fw(xs:List Int)(c:Int)(cs:List Int)(seen:Nat):Vg xs (c::cs) seen=if(decide (0<Jy xs c)&&seen.testBit (Jy xs c).toNat)=true then true else Vg xs cs (seen|||2^(Jy xs c).toNat):=rfl
theorem JcQ{n:Nat}(hn:n=2∨n=3∨n=4)(xs:List Int)(hl:xs.length=n*n)(hv:∀k:Nat,k<xs.length→0≤Jy xs k∧Jy xs k≤4):JM Tryz.prog 152 [QF xs,int n] (bool (Wy xs n)):=by
 have hn4:2≤n∧n≤4:=by omega
 refine Jk.cw (c:=_) Tryz.func152 rfl (n:=45) Tryz.ntmps152 (rs:=[.tmp 4]) rfl ?_
 simp only[Ja,Je,zA,zS,Jf,Jb,Jd]
 simp(maxSteps:=999999)(disch:=omega)only[go_sem,zA,zM,zS,zE,zL]
 refine JO (fun i:Nat=>2*n -i) (fun i=>i≤2*n∧∀j,j<i→Vg xs (Zb n j) 0=false) (fun i=>[.k, .k, .a, .a, .a, .p (int i), .a, .a, .a, .a, .a, .a, .a, .a, .a, .a, .a, .a, .a, .a, .a, .a, .a, .a, .a, .a, .a, .a, .a, .a, .a, .a, .a, .a, .a, .a, .a, .a, .a, .a, .a, .a, .a, .a, .a]) (fun _=>[]) 0 ⟨Nat.zero_le _,fun j hj=>absurd hj (Nat.not_lt_zero _)⟩ (by simp(maxSteps:=999999)(disch:=omega)only[go_sem,zA,zM,zS,zE,zL];rfl) (J9 _) ?_
 rintro i ⟨hi,hno⟩
 simp(maxSteps:=999999)(disch:=omega)only[go_sem,zA,zM,zS,zE,zL]
 ((first|(with_reducible first|refine Jm ?_ ?_|refine Jj ?_ ?_|refine Jo ?_ ?_)|refine Jr ?_ ?_)<;>intro h1)
 · have h1:i<2*n:=by omega
   simp(maxSteps:=999999)(disch:=omega)only[go_sem,zA,zM,zS,zE,zL]
   first|refine JU.mk (UY hn h1) (⟨_,Tryz.func154,rfl,rfl⟩:Jg Tryz.prog 154) rfl rfl rfl rfl rfl ?_|refine JG.mk (UY hn h1) (⟨_,Tryz.func154,rfl,rfl⟩:Jg Tryz.prog 154) rfl rfl rfl rfl rfl ?_
   simp(maxSteps:=999999)(disch:=omega)only[go_sem,zA,zM,zS,zE,zL]
   have hlen:=Z7 n i
   refine Qx (fun(k seen:Nat)=>n -k) (fun k seen=>k≤n∧Vg xs (Zb n i) 0=Vg xs ((Zb n i).drop k) seen∧seen<32) (fun k seen=>[.k, .k, .a, .a, .a, .k, .k, .p (int seen), .p (int k), .a, .a, .a, .a, .a, .a, .a, .a, .a, .a, .a, .a, .a, .a, .a, .a, .a, .a, .a, .a, .a, .a, .a, .a, .a, .a, .a, .a, .a, .a, .a, .a, .a, .a, .a, .a]) (fun _ _=>[]) 0 0 ⟨Nat.zero_le _,rfl,by omega⟩ (by simp(maxSteps:=999999)(disch:=omega)only[go_sem,zA,zM,zS,zE,zL];rfl) (J9 _) ?_
   rintro k seen ⟨hk,hc,hs⟩
   simp(maxSteps:=999999)(disch:=omega)only[go_sem,zA,zM,zS,zE,zL]
   ((first|(with_reducible first|refine Jm ?_ ?_|refine Jj ?_ ?_|refine Jo ?_ ?_)|refine Jr ?_ ?_)<;>intro h2)
   · have h2:k<n:=by omega
     obtain⟨hb0,hb1⟩:=YZ hn h1 h2
     obtain⟨c,hcc⟩:∃c:Nat,Jy (Zb n i) k=c:=⟨(Jy (Zb n i) k).toNat,by omega⟩
     have hcl:c<xs.length:=by omega
     have hvc:=hv c hcl
     have hd:(Zb n i).drop k=(c:Int)::(Zb n i).drop (k+1):=by
      rw[List.drop_eq_getElem_cons (by omega),←hcc,Qe (by omega)]
      simp
     rw[hd,Fw]at hc
     have hor:seen|||2^(Jy xs c).toNat<32:=by
      refine Nat.or_lt_two_pow (n:=5) (by omega) ?_
      have:(Jy xs c).toNat=0∨(Jy xs c).toNat=1∨(Jy xs c).toNat=2∨(Jy xs c).toNat=3∨(Jy xs c).toNat=4:=by omega
      rcases this with h|h|h|h|h<;>rw[h]<;>omega
     have hpw:2^(Jy xs c).toNat<2^62:=Nat.pow_lt_pow_right (by omega) (by omega)
     simp(maxSteps:=999999)(disch:=omega)only[go_sem,zA,zM,zS,zE,zL,hcc]
     ((with_reducible first|refine JL ?_ ?_|refine JD ?_ ?_|refine JT ?_ ?_|refine Jv ?_ ?_|refine JJ ?_ ?_|refine JK ?_ ?_|refine JB ?_ ?_|refine JC ?_ ?_|refine JR ?_ ?_|refine JS ?_ ?_|refine Jw ?_ ?_|refine Jx ?_ ?_)<;>intro h3<;>simp(maxSteps:=999999)(disch:=omega)only[go_sem,zA,zM,zS,zE,zL,h3])
     · simp(maxSteps:=999999)(disch:=omega)only[go_sem,zA,zM,zS,zE,zL,XJ hvc,JbK]
       ((first|(with_reducible first|refine Jm ?_ ?_|refine Jj ?_ ?_|refine Jo ?_ ?_)|refine Jr ?_ ?_)<;>intro h4)
       · simp(maxSteps:=999999)(disch:=omega)only[go_sem,zA,zM,zS,zE,zL]
         have hcl:Vg xs (Zb n i) 0=true:=by rw[hc,if_pos (by simp[h3,h4])]
         unfold Wy
         rw[eq_comm,List.any_eq_true]
         exact⟨i,List.mem_range.2 h1,hcl⟩
       · simp(maxSteps:=999999)(disch:=omega)only[go_sem,zA,zM,zS,zE,zL,Uz hvc,RY (show seen<2^62 by omega) hpw]
         exact⟨k+1,_,⟨⟨by omega,by rw[hc,if_neg (by simp[h4])],hor⟩,by omega⟩,⟨rfl,by push_cast;omega⟩,J9 _⟩
     · simp(maxSteps:=999999)(disch:=omega)only[go_sem,zA,zM,zS,zE,zL,Uz hvc,RY (show seen<2^62 by omega) hpw]
       exact⟨k+1,_,⟨⟨by omega,by rw[hc,if_neg (by simp;omega)],hor⟩,by omega⟩,⟨rfl,by push_cast;omega⟩,J9 _⟩
   · have hkn:k=n:=by omega
     have hc':Vg xs (Zb n i) 0=false:=by rw[hc,hkn,List.drop_of_length_le (by omega)];rfl
     simp(maxSteps:=999999)(disch:=omega)only[go_sem,zA,zM,zS,zE,zL]
     refine⟨i+1,⟨⟨by omega,fun j hj=> ?_⟩,by omega⟩,by push_cast;omega,J9 _⟩
     by_cases hji:j=i
     · rw[hji];exact hc'
     · exact hno j (by omega)
 · simp(maxSteps:=999999)(disch:=omega)only[go_sem,zA,zM,zS,zE,zL]
   unfold Wy
   rw[eq_comm,List.any_eq_false]
   intro j hj
   rw[hno j (by have:=List.mem_range.1 hj;omega)]
   simp
end Go.Lg

namespace Go.Lg
open Go.Proofs
attribute [-go_sem] Qf GT
theorem ZN{P:Program}{t e:TypeId}{ti ei:TI}(ht:JP P t=some ti)(hk:ti.k= .slice e)(he:JP P e=some ei):QT P t=some ei:=by
 unfold QT;simp only[ht,hk,he]
theorem JbN{P:Program}{HI:Jn}{t:TypeId}{ei:TI}{K:KV}(ht:QT P t=some ei)(hz:ei.zero.length=ei.size∧ei.size=1∧ei.bytes=8){xs ys:List Int}(hx:0<xs.length∧xs.length≤2^40){id g g0:Nat}{lim:Option Nat}
 (hl:look HI id g=some ⟨g,1,cl (eI .i64) (xs++ys)⟩) (hk:∀g',K (.c (.own HI.length g' 0 xs.length none)) (HI++[some ⟨g',1,cl (eI .i64) xs⟩])):
 Qf P (HI++[some ⟨g0,1,[]⟩]) t (.c (.own HI.length g0 0 0 none)) (.c (.own id g 0 xs.length lim)) K:=by
 obtain⟨hz1,hz2,hz3⟩:=hz
 have hid:id<HI.length:=(Jh.1 (JH hl).1).1
 have hl':look (HI++[some ⟨g0,1,[]⟩]) id g=some ⟨g,1,cl (eI .i64) (xs++ys)⟩:=by rw[Vd hid];exact hl
 have et:((cl (eI .i64) (xs++ys)).drop 0).take (xs.length*1)=cl (eI .i64) xs:=by
  rw[J1,Q7,List.take_append_of_le_length (by rw[Qu];exact Nat.le_refl _),Js (by rw[Qu];exact Nat.le_refl _)]
 unfold Qf
 simp only[ht,hz1,hz2,if_true,elems,JF,hl',et,YM]
 rw[if_neg (by omega)]
 simp only[Je,Nat.zero_mul,if_true,KB,Nat.zero_add,Jd,Qy]
 exact⟨⟨trivial,by omega,trivial,by omega,by rw[hz3];omega⟩,hk⟩
theorem Qr.inv'{H:Jn}{c:CV}{xs:List Int}{S:List Nat}(h:Qr H c xs S)(hn:0<xs.length):∃id g lim ys,c= .own id g 0 xs.length lim∧S=[id]∧look H id g=some ⟨g,1,cl (eI .i64) (xs++ys)⟩:=by
 cases h with
 |e=>simp at hn
 |o id g lim xs ys h=>exact⟨id,g,lim,ys,rfl,rfl,h⟩
theorem JfB{n v:Nat}(h:1≤v∧v≤n):((List.range n).map (· +1)).drop (v -1)=v::((List.range n).map (· +1)).drop v:=by
 rw[List.drop_eq_getElem_cons (by simp;omega)]
 simp only[List.getElem_map,List.getElem_range]
 rw[show v -1+1=v by omega]
end Go.Lg

namespace Go.Lg
open Go.Proofs
section
variable{P:Program}{o:Oper}{st:St}{K:KV}{fo:Operand}{xs:Array Operand}{ts:Array TypeId}{f:FuncId}{args args':List AV}{zs:List Int}
end
def YJ(H HI:Jn)(id g:Nat)(B:Int)(cid cg n2:Nat):Prop:=(∃zs:List Int,look HI cid cg=some ⟨cg,1,cl (eI .i64) zs⟩∧n2≤zs.length)∧Uh HI id g B∧id<H.length∧H.length≤cid∧H.length≤HI.length∧∀k,k<H.length→k≠id→HI[k]? =H[k]?
theorem YJ.mono{H HI:Jn}{id g cid cg n2:Nat}{B B':Int}(h:YJ H HI id g B cid cg n2)(hb:B≤B'):YJ H HI id g B' cid cg n2:=by
 obtain⟨h1,h2,h3⟩:=h
 exact⟨h1,h2.mono hb,h3⟩
theorem YJ.pick{H HI H2:Jn}{id g cid cg n2:Nat}{B B':Int}(h:YJ H HI id g B cid cg n2)(hr:Uh H2 id g B')(hf:WA HI H2 [id]):YJ H H2 id g B' cid cg n2:=by
 obtain⟨⟨zs,h1,h2⟩,_,h3,h4,h5,h6⟩:=h
 refine⟨⟨zs,by rw[hf.look (by simp;omega)];exact h1,h2⟩,hr,h3,h4,by rw[hf.1];exact h5,fun k hk hne=> ?_⟩
 rw[hf.2 k (by simp;exact hne),h6 k hk hne]
theorem YJ.store{H HI:Jn}{id g cid cg n2:Nat}{B:Int}(h:YJ H HI id g B cid cg n2){zs:List Int}(hz:n2≤zs.length):YJ H (HI.set cid (some ⟨cg,1,cl (eI .i64) zs⟩)) id g B cid cg n2:=by
 obtain⟨⟨_,h1,_⟩,h2,h3,h4,h5,h6⟩:=h
 have hlt:cid<HI.length:=(Jh.1 (JH h1).1).1
 refine⟨⟨zs,J7 hlt,hz⟩,h2.same (by rw[Ji (by omega)]),h3,h4,by simpa using h5,fun k hk hne=> ?_⟩
 rw[Ji (by omega),h6 k hk hne]
theorem YJ.app{H HI X:Jn}{id g cid cg n2:Nat}{B:Int}(h:YJ H HI id g B cid cg n2):YJ H (HI++X) id g B cid cg n2:=by
 obtain⟨⟨zs,h1,h2⟩,h3,h4,h5,h6,h7⟩:=h
 refine⟨⟨zs,J2 h1,h2⟩,h3.app,h4,h5,by rw[Jq];omega,fun k hk hne=> ?_⟩
 rw[Jc (by omega),h7 k hk hne]
theorem JiC{H:Jn}{id g off n:Nat}{lim:Option Nat}{zs:List Int}(h:look H id g=some ⟨g,1,cl (eI .i64) zs⟩)(hn:off+n≤zs.length):frzC H (.own id g off n lim)=some (.f (Ql ((zs.drop off).take n))):=by
 have e:((cl (eI .i64) zs).drop off).take (n*1)=cl (eI .i64) ((zs.drop off).take n):=by
  have e1:(cl (eI .i64) zs).drop off=cl (eI .i64) (zs.drop off):=by
   have:=QD off zs
   conv=>lhs;rw[←this,Q7]
   rw[List.drop_append_of_le_length (by rw[Qu];simp;omega),List.drop_of_length_le (by rw[Qu];simp;omega),Jd]
  rw[e1,Nat.mul_one]
  have:=QD n (zs.drop off)
  conv=>lhs;rw[←this,Q7]
  rw[List.take_append_of_le_length (by rw[Qu];simp;omega),Js (by rw[Qu];simp;omega)]
 have hl:((zs.drop off).take n).length=n:=by simp;omega
 simp only[frzC,frz,h,e,BX,Option.map_some]
 rw[show Ql ((zs.drop off).take n)= .sl ((zs.drop off).take n).length (fl (eI .i64) ((zs.drop off).take n))from rfl,hl]
end Go.Lg

namespace Go.Lg
open Go.Proofs
attribute [-go_sem] Qf
inductive UE{α:Type}(E:α→List FV)(n:Nat)(H:Jn):CV→List α→Prop where
 |n:UE E n H (.f .nil) []
 |m:UE E n H .emp []
 |o (id g:Nat) (xs:List α) (h:look H id g=some ⟨g,n,cl E xs⟩):UE E n H (.own id g 0 xs.length none) xs
def Q6:CV→Nat→Prop
 | .own id _ _ _ _,k=>k=id
 |_,_=>False
section
variable{α:Type}{E:α→List FV}{n:Nat}{H H':Jn}{c:CV}{xs ys:List α}
theorem UE.same(h:UE E n H c xs)(hs:∀i,Q6 c i→i<H.length→H'[i]? =H[i]?):UE E n H' c xs:=by
 cases h with
 |n=>exact .n
 |m=>exact .m
 |o id g xs h=>exact .o id g xs (by unfold look at*;rw[hs id rfl (Jh.1 (JH h).1).1];exact h)
theorem UE.lt(h:UE E n H c xs):∀i,Q6 c i→i<H.length:=by
 cases h with
 |n=>exact fun i hi=>hi.elim
 |m=>exact fun i hi=>hi.elim
 |o id g xs h=>intro i hi;cases hi;exact(Jh.1 (JH h).1).1
theorem UE.app(h:UE E n H c xs):UE E n (H++H') c xs:=h.same fun i _ hl=>Jc hl
theorem UE.snap[HSz E n](h:UE E n H c xs):Zs H (.c c)=some (Yf E xs):=by
 cases h with
 |n=>rfl
 |m=>rfl
 |o id g xs h=>
  have e:(cl E xs).take (xs.length*n)=cl E xs:=Js (Nat.le_of_eq (Qu xs))
  simp only[Zs,Lg.frzC,Lg.frz,h,J1,e,BX,Option.map_some]
theorem UE.frzC[HSz E n](h:UE E n H c xs):frzC H c=some (.f (VN E xs)):=by
 have:=h.snap
 simp only[Zs,Option.map_eq_some_iff]at this
 obtain⟨y,h1,h2⟩:=this
 cases h2
 exact h1
theorem UE.len(P:Program)(h:UE E n H c xs){s:List AV}{t:TypeId}{ei:TI}(ht:QT P t=some ei)(hs:ei.size=n):True:=trivial
end
theorem RZ{k:IntKind}(xs:List Int):(fl (eI k) xs).map nzF=fl (eI k) xs:=by
 induction xs with
 |nil=>rfl
 |cons x xs ih=>
  show nzF _::(fl (eI k) xs).map nzF=_
  rw[ih];rfl
theorem Jf4(rs:List Zq):(fl eR rs).map nzF=fl eR rs:=by
 induction rs with
 |nil=>rfl
 |cons x xs ih=>
  show[nzF _,nzF _,nzF _]++(fl eR xs).map nzF=_
  rw[ih,Ql,GC,RZ];rfl
theorem Rn{S:Nat→Bool}{H:Jn}{n:Nat}:∀(l:List FV),(l.map CV.f).mapM (frzS S H n)=some (l.map nzF)
 |[]=>rfl
 |x::l=>by
  rw[Qh,J3,Rn l]
  cases n<;>rfl
theorem UE.frzS{S:Nat→Bool}{H:Jn}{c:CV}{rs:List Zq}(h:UE eR 3 H c rs)(hs:∀i,Q6 c i→S i=true)(m:Nat):frzS S H (m+1) c=some (VN eR rs):=by
 cases h with
 |n=>rfl
 |m=>rfl
 |o id g xs h=>
  have e:(cl eR rs).take (rs.length*3)=cl eR rs:=Js (Nat.le_of_eq (Qu rs))
  simp only[Lg.frzS,hs id rfl,if_true,h,J1,e]
  rw[show cl eR rs=(fl eR rs).map CV.f from rfl,Rn,Jf4]
  rfl
theorem BY{S:Nat→Bool}{H:Jn}{id g off n:Nat}{lim:Option Nat}{zs:List Int}(h:look H id g=some ⟨g,1,cl (eI .i64) zs⟩)(hs:S id=true)(hn:off+n≤zs.length)(m:Nat):Lg.frzS S H (m+1) (.own id g off n lim)=some (Ql ((zs.drop off).take n)):=by
 have hv:=JiC (lim:=lim) h hn
 have hl:((zs.drop off).take n).length=n:=by simp;omega
 simp only[frzC,frz,h,Option.map_map,Option.map_eq_some_iff]at hv
 obtain⟨l,h1,h2⟩:=hv
 simp only[Lg.frzS,hs,if_true,h]
 have e:((cl (eI .i64) zs).drop off).take (n*1)=cl (eI .i64) ((zs.drop off).take n):=by
  have e1:(cl (eI .i64) zs).drop off=cl (eI .i64) (zs.drop off):=by
   have:=QD off zs
   conv=>lhs;rw[←this,Q7]
   rw[List.drop_append_of_le_length (by rw[Qu];simp;omega),List.drop_of_length_le (by rw[Qu];simp;omega),Jd]
  rw[e1,Nat.mul_one]
  have:=QD n (zs.drop off)
  conv=>lhs;rw[←this,Q7]
  rw[List.take_append_of_le_length (by rw[Qu];simp;omega),Js (by rw[Qu];simp;omega)]
 rw[e,show cl (eI .i64) ((zs.drop off).take n)=(fl (eI .i64) ((zs.drop off).take n)).map CV.f from rfl,Rn,RZ,Option.map_some]
 rw[show Ql ((zs.drop off).take n)= .sl ((zs.drop off).take n).length (fl (eI .i64) ((zs.drop off).take n))from rfl,hl]
theorem JaQ{α:Type}{E:α→List FV}{n:Nat}[HSz E n]{P:Program}{H:Jn}{t:TypeId}{ei:TI}{K:KV}(ht:QT P t=some ei)(hz:ei.zero.length=ei.size∧ei.size=n∧0<n∧ei.bytes≤64){c:CV}{xs:List α}(h:UE E n H c xs)(hx:xs.length≤2^40)
 {sid sg:Nat} {lim:Option Nat} {v:α} (hl:look H sid sg=some ⟨sg,n,(E v).map CV.f⟩)
 (hk:∀c' H',UE E n H' c' (xs++[v])→(∀k,k<H.length→¬Q6 c k→H'[k]? =H[k]?)→(∀k,Q6 c' k→Q6 c k∨k=H.length)→H.length≤H'.length→(∀k,Q6 c' k→k<H'.length)→K (.c c') H'):
 Qf P H t (.c c) (.c (.own sid sg 0 1 lim)) K:=by
 obtain⟨hz1,rfl,hz3,hz4⟩:=hz
 have hE:((E v).map CV.f).length=ei.size:=by rw[Qi];exact HSz.sz v
 have htk:(((E v).map CV.f).drop 0).take (1*ei.size)=(E v).map CV.f:=by rw[J1,Nat.one_mul,Js (by omega)]
 have e1:cl E [v]=(E v).map CV.f:=by simp[cl,fl]
 have hb:∀k:Nat,k≤2^40→(k+1)*ei.bytes≤140737488355328:=fun k hk=>by
  have:(k+1)*ei.bytes≤(k+1)*64:=Nat.mul_le_mul_left _ hz4
  omega
 have hel:elems H ei.size (.c (.own sid sg 0 1 lim))=some (1,(E v).map CV.f):=by
  simp only[elems,hl,htk,if_true]
 unfold Qf
 cases h with
 |n=>
  simp only[ht,hz1,if_true,hel]
  simp only[elems,YM,KB,BK]
  refine⟨⟨by omega,by have:=hb 0 (by omega);omega⟩,fun g'=> ?_⟩
  have:=UE.o (E:=E) (n:=ei.size) (H:=H++[some ⟨g',ei.size,(E v).map CV.f⟩]) H.length g' [v] (by rw[e1];exact JF)
  exact hk _ _ this (fun k hk _=>Jc hk) (fun k hk=> .inr hk) (by simp) (fun k hk=>by cases hk;simp)
 |m=>
  simp only[ht,hz1,if_true,hel]
  simp only[elems,YM,KB,BK]
  refine⟨⟨by omega,by have:=hb 0 (by omega);omega⟩,fun g'=> ?_⟩
  have:=UE.o (E:=E) (n:=ei.size) (H:=H++[some ⟨g',ei.size,(E v).map CV.f⟩]) H.length g' [v] (by rw[e1];exact JF)
  exact hk _ _ this (fun k hk _=>Jc hk) (fun k hk=> .inr hk) (by simp) (fun k hk=>by cases hk;simp)
 |o id g xs hl2=>
  have hlt:id<H.length:=(Jh.1 (JH hl2).1).1
  have hcl:(cl E xs).length=xs.length*ei.size:=Qu xs
  have hel2:elems H ei.size (.c (.own id g 0 xs.length none))=some (xs.length,cl E xs):=by
   simp only[elems,hl2,J1,if_true,Js (Nat.le_of_eq hcl)]
  simp only[ht,hz1,if_true,hel,hel2]
  simp only[YM,hl2,hcl,if_true,KB]
  refine⟨⟨by first|trivial|omega,hz3,trivial,by omega,hb _ hx⟩,fun g'=> ?_⟩
  have:=UE.o (E:=E) (n:=ei.size) (H:=H.set id (some ⟨g',ei.size,cl E xs++(E v).map CV.f⟩)) id g' (xs++[v]) (by rw[Q7,e1];exact J7 hlt)
  rw[Jq]at this
  exact hk _ _ this (fun k _ hk=>by rw[Ji (fun h=>hk h.symm)]) (fun k hk=> .inl hk) (by simp) (fun k hk=>by cases hk;simpa using hlt)
theorem Jky{α:Type}{E:α→List FV}{n:Nat}[HSz E n]{H:Jn}{ys:List α}:elems H n (.c (.f (VN E ys)))=some (ys.length,cl E ys):=by
 have:(fl E ys).length=ys.length*n:=Wh ys
 simp only[elems]
 first|rfl|simp[this,cl]
end Go.Lg

namespace Go.Lg
open Go.Proofs
def VT(vs:List Int):Int:=vs.foldl (fun a v=>a*v) 1
def VY(r:Zq)(vs:List Int):Bool:=
 if r.kind=1 then decide vs.Nodup else if r.kind=2 then decide (vs.sum=r.val)else if r.kind=3 then decide (VT vs=r.val)
 else if r.kind=4 then decide (Jy vs 0<Jy vs 1)else decide (max (Jy vs 0 -Jy vs 1) (Jy vs 1 -Jy vs 0)=r.val)
def orV(o:List Nat)(vs:List Int):List Nat:=o.zipWith (fun x v=>x|||2^v.toNat) vs
def ZS(r:Zq):List Nat→List Int→List Nat→List Nat
 |[],pre,o=>if VY r pre=true then orV o pre else o
 |m::ms,pre,o=>[1,2,3,4].foldl (fun o (v:Nat)=>if m.testBit v=true then ZS r ms (pre++[(v:Int)]) o else o) o
def Uf(xs:List Int)(n:Nat)(c:Int):Nat:=if 0<Jy xs c then 2^(Jy xs c).toNat else 2^(n+1) -2
def Q9(r:Zq)(xs:List Int)(n:Nat):Bool:=(ZS r (r.cells.map (Uf xs n)) [] (Jf r.cells.length 0)).getD 0 0 !=0
theorem N4{r:Zq}{xs ys:List Int}{n:Nat}(h:∀c∈r.cells,Jy xs c=Jy ys c):Q9 r xs n=Q9 r ys n:=by
 unfold Q9
 rw[List.map_congr_left (f:=Uf xs n) (g:=Uf ys n) fun c hc=>by unfold Uf;rw[h c hc]]
def clear(p:QR)(xs:List Int):Bool:=decide (∀k:Nat,k<xs.length→¬(0<Jy p.given k∧0<Jy xs k∧Jy xs k≠Jy p.given k))
def QJ(p:QR)(xs:List Int)(n:Nat):Bool:=clear p xs&&(p.rules.all (fun r=>Q9 r xs n)&& !Wy xs n)
def Xi(p:QR)(xs:List Int)(n i:Nat):Bool:=decide (∀j:Nat,j<n*n→j≠i→(j/n=i/n∨j%n=i%n)→Jy xs j≠Jy xs i)&&p.rules.all (fun r=> !r.cells.contains (i:Int)||Q9 r xs n)
theorem JlD{n:Nat}{xs:List Int}{i v:Nat}(h:NC xs n)(hl:xs.length=n*n)(hi:i<n*n)(hv:1≤v)(h0:Jy xs i=0):
 NC (xs.set i v) n↔∀j:Nat,j<n*n→j≠i→(j/n=i/n∨j%n=i%n)→Jy (xs.set i (v:Int)) j≠v:=by
 have hset:∀k:Nat,Jy (xs.set i (v:Int)) k=if k=i then(v:Int)else Jy xs k:=fun k=>Za _ _ _ _ (by rw[hl];exact hi)
 constructor
 · intro hc j hj hne hln
   rcases Nat.lt_or_ge j i with h1|h1
   · have:=hc j i h1 hi hln
     rw[hset i,if_pos rfl]at this
     intro he
     rw[he]at this
     exact this (by omega) rfl
   · have:=hc i j (by omega) hj (hln.imp Eq.symm Eq.symm)
     rw[hset i,if_pos rfl]at this
     intro he
     rw[he]at this
     exact this (by omega) rfl
 · intro hc p q hpq hq hln hp
   by_cases hpi:p=i
   · subst hpi
     rw[hset p,if_pos rfl]
     exact fun he=>hc q hq (by omega) (hln.imp Eq.symm Eq.symm) he.symm
   · by_cases hqi:q=i
     · subst hqi
       rw[hset q,if_pos rfl]
       exact hc p (by omega) hpi hln
     · rw[hset p,if_neg hpi]at hp⊢
       rw[hset q,if_neg hqi]
       exact h p q hpq hq hln hp
theorem JgC{p:QR}{n:Nat}(hn:n=2∨n=3∨n=4){xs:List Int}{i v:Nat}(h:QJ p xs n=true)(hl:xs.length=n*n)(hx:∀c:Int,0≤Jy xs c)(hi:i<n*n)(hv:1≤v)(h0:Jy xs i=0)(hg:Jy p.given i≤0)(hcs:∀r∈p.rules,∀c∈r.cells,0≤c):
 QJ p (xs.set i v) n=Xi p (xs.set i v) n i:=by
 have hset:∀k:Nat,Jy (xs.set i (v:Int)) k=if k=i then(v:Int)else Jy xs k:=fun k=>Za _ _ _ _ (by rw[hl];exact hi)
 have hx':∀c:Int,0≤Jy (xs.set i (v:Int)) c:=fun c=>by
  rw[VH,hset]
  split
  · omega
  · exact hx _
 simp only[QJ,Bool.and_eq_true,clear,decide_eq_true_eq,Bool.not_eq_true',List.all_eq_true]at h
 obtain⟨h1,h2,h3⟩:=h
 have hclear:clear p (xs.set i v)=true:=by
  simp only[clear,decide_eq_true_eq]
  rintro k hk ⟨a,b,c⟩
  rw[hset]at b c
  by_cases hki:k=i
  · rw[hki]at a;omega
  · rw[if_neg hki]at b c
    exact h1 k (by simpa using hk) ⟨a,b,c⟩
 have hcl:(!Wy (xs.set i (v:Int)) n)=decide (∀j:Nat,j<n*n→j≠i→(j/n=i/n∨j%n=i%n)→Jy (xs.set i (v:Int)) j≠Jy (xs.set i (v:Int)) i):=by
  rw[Bool.eq_iff_iff,Bool.not_eq_true',Bn hn hx',JlD ((Bn hn hx).1 h3) hl hi hv h0,decide_eq_true_eq,hset i,if_pos rfl]
 have hr:p.rules.all (fun r=>Q9 r (xs.set i (v:Int)) n)=p.rules.all (fun r=> !r.cells.contains (i:Int)||Q9 r (xs.set i (v:Int)) n):=by
  rw[Bool.eq_iff_iff]
  simp only[List.all_eq_true,Bool.or_eq_true,Bool.not_eq_true']
  constructor
  · exact fun k r hr=> .inr (k r hr)
  · intro k r hr
    rcases k r hr with k|k
    · rw[←h2 r hr]
      refine N4 fun c hc=> ?_
      have hci:c≠(i:Int):=fun he=>by rw[he]at hc;simp at k;exact k hc
      have hc0:=hcs r hr c hc
      obtain⟨m,rfl⟩:∃m:Nat,c=m:=⟨c.toNat,by omega⟩
      rw[hset,if_neg (by omega)]
    · exact k
 unfold QJ Xi
 rw[hclear,hr,hcl,Bool.true_and,Bool.and_comm]
def ZB(p:QR)(n:Nat):Nat→List Int→List (List Int)
 |0,xs=>[xs]
 |m+1,xs=>if 0<Jy xs ((xs.length -(m+1):Nat):Int)then ZB p n m xs else((List.range n).map (· +1)).flatMap fun(v:Nat)=>if QJ p (xs.set (xs.length -(m+1)) (v:Int)) n=true then ZB p n m (xs.set (xs.length -(m+1)) (v:Int))else[]
end Go.Lg

namespace Go.Lg
open Go.Proofs
theorem BH(vs:List Int)(v:Int):VT (vs++[v])=VT vs*v:=by simp[VT]
theorem Jct:∀(n:Nat) (vs:List Int),vs.length≤n→(∀v∈vs,0≤v∧v≤4)→0≤VT vs∧VT vs≤4^n:=by
 intro n
 induction n with
 |zero=>intro vs h _;have:vs=[]:=List.eq_nil_of_length_eq_zero (by omega);subst this;simp[VT]
 |succ n ih=>
  intro vs h hv
  rcases List.eq_nil_or_concat vs with rfl|⟨ws,w,rfl⟩
  · exact⟨by simp[VT],by simp only[VT,List.foldl_nil];have:(0:Int)<4^(n+1):=Int.pow_pos (by omega);omega⟩
  · obtain⟨h1,h2⟩:=ih ws (by simp at h;omega) fun v hm=>hv v (by simp[hm])
    have hw:=hv w (by simp)
    rw[List.concat_eq_append,BH]
    refine⟨Int.mul_nonneg h1 hw.1, ?_⟩
    have:=Int.mul_le_mul h2 hw.2 hw.1 (by omega)
    rw[Int.pow_succ]
    exact this
theorem Gu{vs:List Int}(h:vs.length≤4)(hv:∀v∈vs,0≤v∧v≤4)(k:Nat):0≤VT (vs.take k)∧VT (vs.take k)≤256:=by
 have:=Jct 4 (vs.take k) (by simp;omega) fun v hm=>hv v (List.mem_of_mem_take hm)
 omega
theorem Jb3{vs:List Int}(h:vs.length≤4)(hv:∀v∈vs,0≤v∧v≤4)(k:Nat):0≤(vs.take k).sum∧(vs.take k).sum≤16:=by
 have gen:∀(ws:List Int),(∀v∈ws,0≤v∧v≤4)→0≤ws.sum∧ws.sum≤4*ws.length:=by
  intro ws hw
  induction ws with
  |nil=>simp
  |cons w ws ih=>
   have h1:=ih fun v hm=>hw v (by simp[hm])
   have h2:=hw w (by simp)
   simp only[Zw,Ja]
   push_cast
   omega
 have:=gen (vs.take k) fun v hm=>hv v (List.mem_of_mem_take hm)
 have:(vs.take k).length≤4:=by simp;omega
 omega
theorem Yj{vs:List Int}{k:Nat}(h:k<vs.length):(vs.take (k+1)).Nodup↔(vs.take k).Nodup∧∀i:Nat,i<k→Jy vs i≠Jy vs k:=by
 rw[Qa h,JZ]
 constructor
 · rintro⟨h1,_,h3⟩
   refine⟨h1,fun i hi=>h3 _ ?_ _ (by simp)⟩
   rw[Qe (by omega)]
   simp only[Int.toNat_natCast]
   exact List.mem_take_iff_getElem.2 ⟨i,by omega,rfl⟩
 · rintro⟨h1,h2⟩
   refine⟨h1,by simp,fun a ha b hb=> ?_⟩
   obtain⟨i,hi,rfl⟩:=List.mem_take_iff_getElem.1 ha
   have:=h2 i (by omega)
   rw[Qe (by omega)]at this
   simp only[Int.toNat_natCast]at this
   simp only[List.mem_singleton]at hb
   rw[hb]
   exact this
theorem JcP(r:Zq)(vs:List Int)(hl:vs.length≤4)(hv:∀v∈vs,0≤v∧v≤4)(hk:r.kind=1∨r.kind=2∨r.kind=3∨2≤vs.length):JM Tryz.prog 172 [aR r,QF vs] (bool (VY r vs)):=by
 have hnv:∀k:Nat,k<vs.length→0≤Jy vs k∧Jy vs k≤4:=fun k hk=>hv _ (by rw[Qe (by omega)];exact List.getElem_mem _)
 have hpt:=Gu hl hv
 have hst:=Jb3 hl hv
 refine Jk.cw (c:=_) Tryz.func172 rfl (n:=86) Tryz.ntmps172 (rs:=[.tmp 4]) rfl ?_
 simp only[Ja,Je,zA,zS,Jf,Jb,Jd]
 simp(maxSteps:=999999)(disch:=omega)only[go_sem,zA,zM,zS,zE,zL]
 intro g
 refine JO (fun k:Nat=>vs.length -k) (fun k=>k≤vs.length) (fun k=>[.a, .k, .k, .a, .a, .p (int (vs.take k).sum), .p (int (VT (vs.take k))), .p (bool (decide (vs.take k).Nodup)), .p (int k), .a, .a, .a, .a, .a, .a, .a, .a, .a, .a, .a, .a, .a, .a, .a, .a, .a, .a, .a, .a, .a, .a, .a, .a, .a, .a, .a, .a, .a, .a, .a, .a, .a, .a, .a, .a, .a, .a, .a, .a, .a, .a, .a, .a, .a, .a, .a, .a, .a, .a, .a, .a, .a, .a, .a, .a, .a, .a, .a, .a, .a, .a, .a, .a, .a, .a, .a, .a, .a, .a, .a, .a, .a, .a, .a, .a, .a]) (fun _=>[some ⟨g,1,cR r⟩]) 0 (Nat.zero_le _) (by simp(maxSteps:=999999)(disch:=omega)only[go_sem,zA,zM,zS,zE,zL];simp[VT]) (J5.refl _) ?_
 intro k hk'
 simp(maxSteps:=999999)(disch:=omega)only[go_sem,zA,zM,zS,zE,zL]
 ((first|(with_reducible first|refine Jm ?_ ?_|refine Jj ?_ ?_|refine Jo ?_ ?_)|refine Jr ?_ ?_)<;>intro h1)
 · have h1:k<vs.length:=by omega
   have e1:(vs.take (k+1)).sum=(vs.take k).sum+Jy vs k:=by rw[Qa h1];simp
   have e2:VT (vs.take (k+1))=VT (vs.take k)*Jy vs k:=by rw[Qa h1,BH]
   have b1:=hst (k+1)
   have b2:=hpt (k+1)
   rw[e1]at b1
   rw[e2]at b2
   simp(maxSteps:=999999)(disch:=omega)only[go_sem,zA,zM,zS,zE,zL]
   refine JO (fun j:Nat=>k -j) (fun j=>j≤k) (fun j=>[.a, .k, .k, .a, .a, .k, .k, .p (bool (decide ((vs.take k).Nodup∧∀i:Nat,i<j→Jy vs i≠Jy vs k))), .k, .p (int j), .a, .a, .a, .a, .a, .a, .a, .a, .a, .a, .a, .a, .a, .a, .a, .a, .a, .a, .a, .a, .a, .a, .a, .a, .a, .a, .a, .a, .a, .a, .a, .a, .a, .a, .a, .a, .a, .a, .a, .a, .a, .a, .a, .a, .a, .a, .a, .a, .a, .a, .a, .a, .a, .a, .a, .a, .a, .a, .a, .a, .a, .a, .a, .a, .a, .a, .a, .a, .a, .a, .a, .a, .a, .a, .a, .a]) (fun _=>[some ⟨g,1,cR r⟩]) 0 (Nat.zero_le _) (by simp(maxSteps:=999999)(disch:=omega)only[go_sem,zA,zM,zS,zE,zL];exact⟨by simp,rfl⟩) (J5.refl _) ?_
   intro j hj
   have hd:((vs.take k).Nodup∧∀i:Nat,i<j+1→Jy vs i≠Jy vs k)↔((vs.take k).Nodup∧∀i:Nat,i<j→Jy vs i≠Jy vs k)∧Jy vs j≠Jy vs k:=by
    constructor
    · rintro⟨a,b⟩
      exact⟨⟨a,fun i hi=>b i (by omega)⟩,b j (by omega)⟩
    · rintro⟨⟨a,b⟩,c⟩
      refine⟨a,fun i hi=> ?_⟩
      by_cases hij:i=j
      · rw[hij];exact c
      · exact b i (by omega)
   generalize hb:decide ((vs.take k).Nodup∧∀i:Nat,i<j→Jy vs i≠Jy vs k)=b
   cases b with
   |false=>
    simp(maxSteps:=999999)(disch:=omega)only[go_sem,zA,zM,zS,zE,zL]
    ((first|(with_reducible first|refine Jm ?_ ?_|refine Jj ?_ ?_|refine Jo ?_ ?_)|refine Jr ?_ ?_)<;>intro h2)
    · have h2:j<k:=by omega
      simp(maxSteps:=999999)(disch:=omega)only[go_sem,zA,zM,zS,zE,zL]
      refine Zi ZE (by kernel_rfl) ?_
      simp(maxSteps:=999999)(disch:=omega)only[go_sem,Nat.reduceBEq,Bool.true_or,zA,zM,zS,zE,zL]
      refine⟨j+1,⟨by omega,by omega⟩,⟨?_,by push_cast;omega⟩,J5.refl _⟩
      rw[eq_comm,decide_eq_false_iff_not,hd]
      exact fun h=>(decide_eq_false_iff_not.1 hb) h.1
    · have hjk:j=k:=by omega
      simp(maxSteps:=999999)(disch:=omega)only[go_sem,zA,zM,zS,zE,zL]
      refine⟨k+1,⟨by omega,by omega⟩,⟨e1.symm,e2.symm, ?_,by push_cast;omega⟩,J5.refl _⟩
      rw[eq_comm,decide_eq_false_iff_not,Yj h1,←hjk]
      rw[hjk]at hb⊢
      exact decide_eq_false_iff_not.1 hb
   |true=>
    simp(maxSteps:=999999)(disch:=omega)only[go_sem,zA,zM,zS,zE,zL]
    ((first|(with_reducible first|refine Jm ?_ ?_|refine Jj ?_ ?_|refine Jo ?_ ?_)|refine Jr ?_ ?_)<;>intro h2)
    · have h2:j<k:=by omega
      have hjl:j<vs.length:=by omega
      simp(maxSteps:=999999)(disch:=omega)only[go_sem,zA,zM,zS,zE,zL]
      refine Zi ZE (by kernel_rfl) ?_
      simp(maxSteps:=999999)(disch:=omega)only[go_sem,Nat.reduceBEq,Bool.true_or,zA,zM,zS,zE,zL]
      refine⟨j+1,⟨by omega,by omega⟩,⟨?_,by push_cast;omega⟩,J5.refl _⟩
      have hb':=of_decide_eq_true hb
      by_cases he:Jy vs (j:Int)=Jy vs (k:Int)
      · rw[decide_eq_true he,eq_comm,Bool.not_true,decide_eq_false_iff_not,hd]
        exact fun h=>h.2 he
      · rw[decide_eq_false he,eq_comm,Bool.not_false,decide_eq_true_eq,hd]
        exact⟨hb',he⟩
    · have hjk:j=k:=by omega
      simp(maxSteps:=999999)(disch:=omega)only[go_sem,zA,zM,zS,zE,zL]
      refine⟨k+1,⟨by omega,by omega⟩,⟨e1.symm,e2.symm, ?_,by push_cast;omega⟩,J5.refl _⟩
      rw[eq_comm,decide_eq_true_eq,Yj h1]
      rw[hjk]at hb
      exact of_decide_eq_true hb
 · simp(maxSteps:=999999)(disch:=omega)only[go_sem,zA,zM,zS,zE,zL]
   rw[Js (by omega)]
   have hkl:vs.take k=vs:=Js (by omega)
   ((first|(with_reducible first|refine Jm ?_ ?_|refine Jj ?_ ?_|refine Jo ?_ ?_)|refine Jr ?_ ?_)<;>intro d1)
   · simp(maxSteps:=999999)(disch:=omega)only[go_sem,zA,zM,zS,zE,zL]
     unfold VY
     rw[if_pos d1]
   simp(maxSteps:=999999)(disch:=omega)only[go_sem,zA,zM,zS,zE,zL]
   ((first|(with_reducible first|refine Jm ?_ ?_|refine Jj ?_ ?_|refine Jo ?_ ?_)|refine Jr ?_ ?_)<;>intro d2)
   · simp(maxSteps:=999999)(disch:=omega)only[go_sem,zA,zM,zS,zE,zL]
     unfold VY
     rw[if_neg d1,if_pos d2]
   simp(maxSteps:=999999)(disch:=omega)only[go_sem,zA,zM,zS,zE,zL]
   ((first|(with_reducible first|refine Jm ?_ ?_|refine Jj ?_ ?_|refine Jo ?_ ?_)|refine Jr ?_ ?_)<;>intro d3)
   · simp(maxSteps:=999999)(disch:=omega)only[go_sem,zA,zM,zS,zE,zL]
     unfold VY
     rw[if_neg d1,if_neg d2,if_pos d3]
   have hl2:2≤vs.length:=by omega
   simp(maxSteps:=999999)(disch:=omega)only[go_sem,zA,zM,zS,zE,zL]
   have v0:0≤Jy vs (0:Int)∧Jy vs (0:Int)≤4:=hnv 0 (by omega)
   have v1:0≤Jy vs (1:Int)∧Jy vs (1:Int)≤4:=hnv 1 (by omega)
   ((first|(with_reducible first|refine Jm ?_ ?_|refine Jj ?_ ?_|refine Jo ?_ ?_)|refine Jr ?_ ?_)<;>intro d4)
   · simp(maxSteps:=999999)(disch:=omega)only[go_sem,zA,zM,zS,zE,zL]
     refine Zi ZE (by kernel_rfl) ?_
     simp(maxSteps:=999999)(disch:=omega)only[go_sem,Nat.reduceBEq,Bool.true_or,zA,zM,zS,zE,zL]
     unfold VY
     rw[if_neg d1,if_neg d2,if_neg d3,if_pos d4]
   · simp(maxSteps:=999999)(disch:=omega)only[go_sem,zA,zM,zS,zE,zL]
     refine Zi ZE (by kernel_rfl) ?_
     simp(maxSteps:=999999)(disch:=omega)only[go_sem,Nat.reduceBEq,Bool.true_or,zA,zM,zS,zE,zL]
     unfold VY
     rw[if_neg d1,if_neg d2,if_neg d3,if_neg d4,show(0:Int) -(Jy vs 0 -Jy vs 1)=Jy vs 1 -Jy vs 0 by omega]
end Go.Lg
