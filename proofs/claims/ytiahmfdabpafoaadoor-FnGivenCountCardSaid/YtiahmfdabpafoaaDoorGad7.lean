/- GpGF, GpGG, GpVG, GpD, GpM, GpVR, cut to what is needed. -/
import Derived.Test.YtiahmfdabpafoaaDoorGad6
import Derived.Test.YtiahmfdabpafoaaDoorGac9
import Derived.Test.YtiahmfdabpafoaaDoorGac0
import Derived.Test.YtiahmfdabpafoaaDoorGab6
import Derived.Test.YtiahmfdabpafoaaDoorGad0
import Derived.Test.YtiahmfdabpafoaaDoorGab3
import Derived.Test.YtiahmfdabpafoaaDoorGad4
open Nat renaming reduceAdd→zA,reduceMul→zM,reduceSub→zS,reduceEqDiff→zE,reduceLeDiff→zL
set_option linter.unusedSimpArgs false
set_option linter.unusedVariables false
set_option maxRecDepth 100000
namespace Go.Lg
open Go.Proofs
attribute [-go_sem] appendM lwF_cons
def LstO(H:Heap)(c:CV)(ls:List (List Int)):Prop:=∃oid og cs,c= .own oid og 0 ls.length none∧look H oid og=some ⟨og,1,cs⟩∧cs.length=ls.length∧∀i (h:i<ls.length),∃id g,cs[i]? =some (.own id g 0 ls[i].length none)∧look H id g=some ⟨g,1,cl (eI .i64) ls[i]⟩
theorem LstO.shift{H0 H:Heap}{c:CV}{ls:List (List Int)}(h:LstO H c ls):LstO (H0++shiftH H0.length H) (shiftC H0.length c) ls:=by
 obtain⟨oid,og,cs,rfl,k1,k2,k3⟩:=h
 refine⟨oid+H0.length,og,cs.map (shiftC H0.length),rfl,look_shiftH k1,by rw[List.length_map];exact k2,fun i hi=> ?_⟩
 obtain⟨id,g,q1,q2⟩:=k3 i hi
 refine⟨id+H0.length,g,by rw[List.getElem?_map,q1];rfl, ?_⟩
 rw[look_shiftH q2]
 simp only[shiftB,shift_cl]
section
variable{P:Program}{o:Oper}{st:St}{K:KV}{fo:Operand}{xs:Array Operand}{ts:Array TypeId}{f:FuncId}{args:List AV}
end
def smD(p:Puz):Prop:=p.given.length≤16∧ruleSm p.rules 30 5
theorem smD.sm{p:Puz}(h:smD p):smP p:=⟨by have:=h.1;omega,by have:=h.2.1;omega,fun r hr=>by have:=h.2.2 r hr;omega⟩
structure TrI(H HI:Heap)(id g:Nat)(B:Int)(g4 J g6:Nat)(p:Puz)(c:CV)(zs:List Int):Prop where
 out:look HI H.length g4=some ⟨g4,3,[.f (.int .i64 0), .f .nil, .f .nil]⟩
 puz:look HI J g6=some ⟨g6,3,cP p⟩
 grid:∃gid gg,c= .own gid gg 0 zs.length none∧look HI gid gg=some ⟨gg,1,cl (eI .i64) zs⟩∧H.length<gid∧gid≠J
 rd:RdAt HI id g B
 lt:id<H.length
 ln:H.length<J∧J<HI.length
 frm:∀k,k<H.length→k≠id→HI[k]? =H[k]?
section
variable{H HI H2:Heap}{id g g4 J g6:Nat}{B B':Int}{p:Puz}{c:CV}{zs:List Int}
theorem TrI.mono(h:TrI H HI id g B g4 J g6 p c zs)(hb:B≤B'):TrI H HI id g B' g4 J g6 p c zs:={h with rd:=h.rd.mono hb}
theorem TrI.step(h:TrI H HI id g B g4 J g6 p c zs)(hs:∀i,H.length≤i→i<HI.length→H2[i]? =HI[i]?)(hl:HI.length≤H2.length)(hr:RdAt H2 id g B')(hf:∀k,k<H.length→k≠id→H2[k]? =HI[k]?):TrI H H2 id g B' g4 J g6 p c zs:=by
 have hn:=h.ln
 have hL:∀i g,H.length≤i→i<HI.length→look H2 i g=look HI i g:=fun i g h1 h2=>by unfold look;rw[hs i h1 h2]
 obtain⟨gid,gg,g1,g2,g3,g4⟩:=h.grid
 have hgl:gid<HI.length:=(List.getElem?_eq_some_iff.1 (look_some g2).1).1
 exact{out:=by rw[hL _ _ (Nat.le_refl _) (by omega)];exact h.out
       puz:=by rw[hL _ _ (by omega) (by omega)];exact h.puz
       grid:=⟨gid,gg,g1,by rw[hL _ _ (by omega) hgl];exact g2,g3,g4⟩
       rd:=hr,lt:=h.lt,ln:=by omega
       frm:=fun k hk hne=>by rw[hf k hk hne];exact h.frm k hk hne}
theorem TrI.pick(h:TrI H HI id g B g4 J g6 p c zs)(hr:RdAt H2 id g B')(hf:Frm HI H2 [id]):TrI H H2 id g B' g4 J g6 p c zs:=by
 have hl:=h.lt
 exact h.step (fun i hi _=>hf.2 i (by simp;omega)) (by rw[hf.1];exact Nat.le_refl _) hr fun k hk hne=>hf.2 k (by simpa using hne)
theorem TrI.app{X:Heap}(h:TrI H HI id g B g4 J g6 p c zs):TrI H (HI++X) id g B g4 J g6 p c zs:=by
 have hn:=h.ln
 exact h.step (fun i _ hi=>List.getElem?_append_left hi) (by simp) h.rd.app fun k hk _=>List.getElem?_append_left (by omega)
theorem TrI.set(h:TrI H HI id g B g4 J g6 p c zs){gid gg:Nat}(hc:c= .own gid gg 0 zs.length none)(k:Nat)(v:Int):TrI H (HI.set gid (some ⟨gg,1,cl (eI .i64) (zs.set k v)⟩)) id g B g4 J g6 p c (zs.set k v):=by
 have hn:=h.ln
 have hl:=h.lt
 obtain⟨gid',gg',g1,g2,g3,g4⟩:=h.grid
 rw[hc]at g1
 cases g1
 have hgl:gid<HI.length:=(List.getElem?_eq_some_iff.1 (look_some g2).1).1
 exact{out:=by rw[look_set_ne' (by omega)];exact h.out
       puz:=by rw[look_set_ne' (by omega)];exact h.puz
       grid:=⟨gid,gg,by rw[hc,List.length_set],look_set_eq' hgl,g3,g4⟩
       rd:=h.rd.same (by rw[List.getElem?_set_ne (by omega)])
       lt:=hl,ln:=by rw[List.length_set];exact hn
       frm:=fun k hk hne=>by rw[List.getElem?_set_ne (by omega)];exact h.frm k hk hne}
end
def dPuz:AV→Prop:=fun v=>∃p:Puz,v=aP p∧smD p
theorem wf_u8'{xs:List Int}(h:∀x∈xs,(Lit.int .u8 x).wf=true):∀x∈xs,0≤x∧x≤255:=fun x hx=>by
 have:=h x hx
 simp[Lit.wf]at this
 have e1:IntKind.u8.min=0:=by decide
 have e2:IntKind.u8.max=255:=by decide
 omega
theorem RdAt.shift{H0 H:Heap}{id g:Nat}{B:Int}(h:RdAt H id g B):RdAt (H0++shiftH H0.length H) (id+H0.length) g B:=by
 obtain⟨sz,b,p,h1,h2⟩:=h
 exact⟨sz,b,p,by rw[look_shiftH h1];rfl,h2⟩
theorem OpS.mkRd{P:Program}{o:Oper}{st:St}{K:KV}{fo:Operand}{xs:Array Operand}{ts:Array TypeId}{f:FuncId}{args:List AV}(hc:RunCall P f args [] (fun v H'=>∃g,v= .c (.ptr 0 g 0)∧RdAt H' 0 g 0∧H'.length=1))(he:Enters P f)(ho:o.op= .call ⟨.value fo,xs,ts⟩)(ha:callArgs st fo xs=some (f,args))(hf:args.all frozenA=true)
 (hk:∀g H',RdAt (st.h++H') st.h.length g 0→H'.length=1→K (.c (.ptr st.h.length g 0)) (st.h++H')):OpS P o st K:=
 OpS.mkQ hc he ho ha hf fun r H' ⟨g,h1,h2,h3⟩=>by
  subst h1
  refine⟨rfl, ?_⟩
  have:=hk g (shiftH st.h.length H') (by have:=h2.shift (H0:=st.h);rwa [Nat.zero_add]at this) (by rw[shiftH_length];exact h3)
  show K (.c (.ptr (0+st.h.length) g 0)) _
  rw[Nat.zero_add]
  exact this
end Go.Lg

namespace Go.Lg
open Go.Proofs
attribute [-go_sem] appendM lwF_cons
theorem resV_ctt(P:Program)(s:List AV)(H:Heap)(t u w:Nat)(ty:TypeId):resV P s H [.cell t ty, .tmp u, .tmp w]=(loadV P H ty (s.getD t .void)).map fun v=> .tup [v,s.getD u .void,s.getD w .void]:=by
 simp only[resV,resAll,resOne]
 cases loadV P H ty (s.getD t .void)<;>rfl
attribute [go_sem] resV_ctt
theorem DrawPuzzleText_run(code:List Int)(hb:∀x∈code,0≤x∧x≤255)(hl:code.length≤2^40):RunCall Tryd.prog 25 [rsl (eI .u8) code] [] (fun v _=>dPuz v):=by
 refine RunCall.cw (c:=_) Tryd.func25 rfl (n:=6) Tryd.ntmps25 (rs:=[.cell 2 32]) rfl ?_
 simp only[List.length_cons,List.length_nil,zA,zS,List.replicate,List.cons_append,List.nil_append]
 simp(maxSteps:=999999)(disch:=omega)only[go_sem,zA,zM,zS,zE,zL]
 intro g4
 refine OpS.mkRd (l20Open_run code hb hl) (⟨_,Tryd.func44,rfl,rfl⟩:Enters Tryd.prog 44) rfl rfl rfl ?_
 intro g H1 r1 hl1
 simp(maxSteps:=999999)(disch:=omega)only[go_sem,zA,zM,zS,zE,zL]
 refine OpS.run (l20Puzzle_run _ 1 g 0 6 r1 (by omega) (by omega)) (⟨_,Tryd.func56,rfl,rfl⟩:Enters Tryd.prog 56) rfl rfl ?_
 rintro _ H2 ⟨⟨p,rfl,hp⟩,r2,f2⟩
 have h4:look H2 0 g4=some ⟨g4,3,[.f (.int .i64 0), .f .nil, .f .nil]⟩:=by rw[f2.look (by simp)];exact look_zero
 have hS:∀b,look (H2.set 0 (some ⟨g4,3,b⟩)) 0 g4=some ⟨g4,3,b⟩:=fun b=>look_set_eq' (List.getElem?_eq_some_iff.1 (look_some h4).1).1
 simp(maxSteps:=999999)(disch:=omega)only[go_sem,zA,zM,zS,zE,zL,h4,hS]
 exact⟨_,HLe.refl _,p,rfl,hp⟩
theorem aliveF_run:Reads Tryd.prog 22 [] (bool true):=by
 refine RunCall.cw (c:=_) Tryd.func22 rfl (n:=4) Tryd.ntmps22 (rs:=[.tmp 0]) rfl ?_
 simp only[List.length_cons,List.length_nil,zA,zS,List.replicate,List.cons_append,List.nil_append]
 simp(maxSteps:=999999)(disch:=omega)only[go_sem,zA,zM,zS,zE,zL]
 intro g
 have hown:OwnI [some ⟨g,1,[.f (.int .i64 1), .f (.int .i64 0), .f (.int .i64 0), .f (.int .i64 2)]⟩] (.own 0 g 0 4 none) [1,0,0,2] [0]:=OwnI.o 0 g none [1,0,0,2] [] (by rw[look_zero];rfl)
 refine OpS.rdD (GridFilled_run [1,0,0,2] 2 (by simp)) (⟨_,Tryd.func52,rfl,rfl⟩:Enters Tryd.prog 52) rfl rfl (snap_two hown.snap snapD_int) rfl ?_
 have e:gridFilled [1,0,0,2] 2=2:=by decide
 rw[e]
 simp(maxSteps:=999999)(disch:=omega)only[go_sem,zA,zM,zS,zE,zL]
end Go.Lg

namespace Go.Lg
open Go.Proofs
def hintOk(h:Hnt):Prop:=(0≤h.tech∧h.tech≤4)∧(0≤h.cell∧h.cell≤15)∧(1≤h.val∧h.val≤4)
instance(h:Hnt):Decidable (hintOk h):=by unfold hintOk;infer_instance
end Go.Lg

namespace Go.Lg
open Go.Proofs
theorem tmod10(m:Nat):(m:Int).tmod 10=((m%10:Nat):Int):=rfl
theorem tdiv10(m:Nat):(m:Int).tdiv 10=((m/10:Nat):Int):=rfl
end Go.Lg

namespace Go.Lg
open Go.Proofs
def RO.setV(o:RO)(k:Int):RO:={o with r:={o.r with val:=k}}
end Go.Lg

namespace Go.Lg
open Go.Proofs
def kindC(k:Int):UInt8:=([100,115,112,108,97]:List UInt8).getD (k -1).toNat 0
def chA(c:Int):UInt8:=u8 (97+c)
def valT(r:Rul):List UInt8:=if r.kind=2∨r.kind=3∨r.kind=5 then 61::Go.Lib.decDigits r.val.toNat else[]
def ruleS(r:Rul):List UInt8:=kindC r.kind::(r.cells.map chA++valT r)
def ruleT(r:Rul):List UInt8:=if ruleValid r 4=true then ruleS r else[]
theorem rule_txt{r:Rul}(h:ruleValid r 4=true):(1≤r.kind∧r.kind≤5)∧r.cells.length≤4∧(∀k:Nat,k<r.cells.length→0≤nth r.cells k∧nth r.cells k<16)∧0≤r.val∧r.val≤256:=by
 simp only[ruleValid,decide_eq_true_eq]at h
 obtain⟨_,h2,h3⟩:=h
 refine⟨?_, ?_,fun k hk=> ?_, ?_⟩
 · unfold ruleShape at h3;omega
 · unfold ruleShape at h3;omega
 · have:=(h2 k hk).1;omega
 · unfold ruleShape at h3;omega
def decPre(m:Nat):List UInt8:=if m<10 then[]else Go.Lib.decDigits (m/10)
theorem dec_pre(m:Nat):decPre m++[u8 (48+((m%10:Nat):Int))]=Go.Lib.decDigits m:=by
 unfold decPre
 conv=>rhs;rw[Go.Lib.decDigits]
 by_cases h:m<10
 · rw[if_pos h,dif_pos h,Nat.mod_eq_of_lt h]
   unfold u8
   rw[List.nil_append,show(48+((m:Nat):Int)).toNat=48+m by omega]
 · rw[if_neg h,dif_neg h]
   unfold u8
   rw[show(48+((m%10:Nat):Int)).toNat=48+m%10 by omega]
theorem dec_len:∀(m:Nat),(Go.Lib.decDigits m).length≤m+1:=by
 intro m
 induction m using Nat.strongRecOn with
 |ind m ih=>
  rw[Go.Lib.decDigits]
  by_cases h:m<10
  · rw[dif_pos h];simp
  · rw[dif_neg h]
    have:=ih (m/10) (by omega)
    simp only[List.length_append,List.length_cons,List.length_nil]
    omega
theorem itoa_nat{v:Int}(h:0≤v):Go.Lib.itoa v=Go.Lib.decDigits v.toNat:=by
 unfold Go.Lib.itoa
 rw[if_neg (by omega)]
theorem take_map_succ{xs:List Int}{f:Int→UInt8}{i:Nat}(h:i<xs.length):(xs.take (i+1)).map f=(xs.take i).map f++[f (nth xs i)]:=by
 rw[take_succ_nth h,List.map_append]
 rfl
theorem l22Number_run(n:Nat)(hn:n≤1000):Reads Tryd.prog 49 [int n] (txt (Go.Lib.decDigits n)):=by
 have hm0:n%10<10:=Nat.mod_lt _ (by omega)
 refine RunCall.cw (c:=_) Tryd.func49 rfl (n:=23) Tryd.ntmps49 (rs:=[.tmp 2]) rfl ?_
 simp only[List.length_cons,List.length_nil,zA,zS,List.replicate,List.cons_append,List.nil_append]
 simp(maxSteps:=999999)(disch:=omega)only[go_sem,zA,zM,zS,zE,zL,tmod10]
 intro g
 refine loop_rule2 (fun(m:Nat) (out:List UInt8)=>m) (fun m out=>m≤1000∧out.length+m≤2000∧decPre m++out=Go.Lib.decDigits n) (fun m out=>[.p (int m), .a, .a, .p (txt out), .a, .a, .a, .a, .a, .a, .a, .a, .a, .a, .a, .a, .a, .a, .a, .a, .a, .a, .a]) (fun _ _=>[]) n [u8 (48+((n%10:Nat):Int))]
  ⟨hn,by simp;omega,dec_pre n⟩ (by simp(maxSteps:=999999)(disch:=omega)only[go_sem,zA,zM,zS,zE,zL];first|rfl|trace_state) (hle_nil _) ?_
 rintro m out ⟨h1,h2,h3⟩
 simp(maxSteps:=999999)(disch:=omega)only[go_sem,zA,zM,zS,zE,zL]
 ((first|(with_reducible first|refine condK_dec ?_ ?_|refine condK_ndec ?_ ?_|refine condK_nb ?_ ?_)|refine condK_b ?_ ?_)<;>intro c1)
 · have c1:9<m:=by omega
   have hm:m/10%10<10:=Nat.mod_lt _ (by omega)
   have hd:m/10<m:=Nat.div_lt_self (by omega) (by omega)
   simp(maxSteps:=999999)(disch:=omega)only[go_sem,zA,zM,zS,zE,zL,tmod10,tdiv10]
   intro g
   refine⟨m/10,u8 (48+((m/10%10:Nat):Int))::out,⟨⟨by omega,by simp only[List.length_cons];omega, ?_⟩,hd⟩,⟨rfl,rfl⟩,hle_nil _⟩
   rw[←h3]
   have e:decPre m=Go.Lib.decDigits (m/10):=by unfold decPre;rw[if_neg (by omega)]
   rw[e,←dec_pre (m/10)]
   simp
 · have c1:m<10:=by omega
   have e:decPre m=[]:=by unfold decPre;rw[if_pos c1]
   rw[e,List.nil_append]at h3
   subst h3
   simp(maxSteps:=999999)(disch:=omega)only[go_sem,zA,zM,zS,zE,zL]
set_option maxHeartbeats 1000000 in
theorem sRuleText_run(r:Rul)(hx:r.cells.length≤2^40):Reads Tryd.prog 20 [aR r] (txt (ruleT r)):=by
 refine RunCall.cw (c:=_) Tryd.func20 rfl (n:=54) Tryd.ntmps20 (rs:=[.tmp 2]) rfl ?_
 simp only[List.length_cons,List.length_nil,zA,zS,List.replicate,List.cons_append,List.nil_append]
 simp(maxSteps:=999999)(disch:=omega)only[go_sem,zA,zM,zS,zE,zL]
 intro g
 first|refine OpS.rd (sRuleValid_run r 4 hx) (⟨_,Tryd.func48,rfl,rfl⟩:Enters Tryd.prog 48) rfl rfl rfl rfl ?_|refine Loud.rd (sRuleValid_run r 4 hx) (⟨_,Tryd.func48,rfl,rfl⟩:Enters Tryd.prog 48) rfl rfl rfl rfl ?_
 simp(maxSteps:=999999)(disch:=omega)only[go_sem,zA,zM,zS,zE,zL]
 cases hv:ruleValid r 4 with
 |false=>
  have e:ruleT r=[]:=by unfold ruleT;rw[hv];rfl
  rw[e]
  ((first|(with_reducible first|refine condK_dec ?_ ?_|refine condK_ndec ?_ ?_|refine condK_nb ?_ ?_)|refine condK_b ?_ ?_)<;>intro c0)
  · cases c0
  simp(maxSteps:=999999)(disch:=omega)only[go_sem,zA,zM,zS,zE,zL]
 |true=>
  have e:ruleT r=ruleS r:=by unfold ruleT;rw[hv];rfl
  rw[e]
  obtain⟨hk,hl4,hc,hval⟩:=rule_txt hv
  ((first|(with_reducible first|refine condK_dec ?_ ?_|refine condK_ndec ?_ ?_|refine condK_nb ?_ ?_)|refine condK_b ?_ ?_)<;>intro c0)
  rotate_left
  · cases c0
  have hcut:cutT [100,115,112,108,97] (r.kind -1).toNat r.kind.toNat=some (txt [kindC r.kind]):=by
   rcases(by omega:r.kind=1∨r.kind=2∨r.kind=3∨r.kind=4∨r.kind=5)with e|e|e|e|e<;>rw[e]<;>rfl
  simp(maxSteps:=999999)(disch:=omega)only[go_sem,zA,zM,zS,zE,zL,hcut]
  refine loop_rule2 (fun(k:Nat) (out:List UInt8)=>r.cells.length -k) (fun k out=>k≤r.cells.length∧out=kindC r.kind::(r.cells.take k).map chA) (fun k out=>[.a, .k, .a, .a, .p (txt out), .p (int k), .a, .a, .a, .a, .a, .a, .a, .a, .a, .a, .a, .a, .a, .a, .a, .a, .a, .a, .a, .a, .a, .a, .a, .a, .a, .a, .a, .a, .a, .a, .a, .a, .a, .a, .a, .a, .a, .a, .a, .a, .a, .a, .a, .a, .a, .a, .a, .a]) (fun _ _=>[some ⟨g,1,cR r⟩]) 0 [kindC r.kind]
   ⟨Nat.zero_le _,rfl⟩ (by simp(maxSteps:=999999)(disch:=omega)only[go_sem,zA,zM,zS,zE,zL];rfl) (HLe.refl _) ?_
  rintro k _ ⟨hi,rfl⟩
  have hlen:(kindC r.kind::(r.cells.take k).map chA).length≤100:=by simp only[List.length_cons,List.length_map,List.length_take];omega
  simp(maxSteps:=999999)(disch:=omega)only[go_sem,zA,zM,zS,zE,zL]
  ((first|(with_reducible first|refine condK_dec ?_ ?_|refine condK_ndec ?_ ?_|refine condK_nb ?_ ?_)|refine condK_b ?_ ?_)<;>intro c1)
  · have hv:=hc k (by omega)
    simp(maxSteps:=999999)(disch:=omega)only[go_sem,zA,zM,zS,zE,zL]
    intro g1
    refine⟨k+1,_,⟨⟨by omega, ?_⟩,by omega⟩,⟨rfl,rfl⟩,hle_eq rfl (hle_nil _)⟩
    rw[take_map_succ (by omega)]
    rfl
  have hke:k=r.cells.length:=by omega
  subst hke
  rw[List.take_length]at hlen⊢
  have hfin:∀b:Bool,decide (r.kind=2∨r.kind=3∨r.kind=5)=b→ruleS r=kindC r.kind::(r.cells.map chA++bif b then 61::Go.Lib.decDigits r.val.toNat else[]):=fun b h=>by
   unfold ruleS valT
   cases b with
   |false=>rw[if_neg (of_decide_eq_false h)];rfl
   |true=>rw[if_pos (of_decide_eq_true h)];rfl
  have d12:decide ((1:Int)=2)=false:=rfl
  have d13:decide ((1:Int)=3)=false:=rfl
  have d15:decide ((1:Int)=5)=false:=rfl
  have d22:decide ((2:Int)=2)=true:=rfl
  have d32:decide ((3:Int)=2)=false:=rfl
  have d33:decide ((3:Int)=3)=true:=rfl
  have d42:decide ((4:Int)=2)=false:=rfl
  have d43:decide ((4:Int)=3)=false:=rfl
  have d45:decide ((4:Int)=5)=false:=rfl
  have d52:decide ((5:Int)=2)=false:=rfl
  have d53:decide ((5:Int)=3)=false:=rfl
  have d55:decide ((5:Int)=5)=true:=rfl
  have hdl:(Go.Lib.decDigits r.val.toNat).length≤300:=by have:=dec_len r.val.toNat;omega
  have hnum:Reads Tryd.prog 49 [int r.val] (txt (Go.Lib.decDigits r.val.toNat)):=by
   have h:=l22Number_run r.val.toNat (by omega)
   rwa [Int.toNat_of_nonneg hval.1]at h
  rcases(by omega:r.kind=1∨r.kind=2∨r.kind=3∨r.kind=4∨r.kind=5)with e|e|e|e|e
  · have hf:=hfin false (by rw[e];rfl)
    rw[e]at hf
    simp only[cond_false,List.append_nil]at hf
    simp(maxSteps:=999999)(disch:=omega)only[go_sem,zA,zM,zS,zE,zL,e,d12,d13,d15,d22,d32,d33,d42,d43,d45,d52,d53,d55]
    first|done|rw[hf]|trace_state
  · have hf:=hfin true (by rw[e];rfl)
    rw[e]at hf
    simp only[cond_true]at hf
    simp(maxSteps:=999999)(disch:=omega)only[go_sem,zA,zM,zS,zE,zL,e,d12,d13,d15,d22,d32,d33,d42,d43,d45,d52,d53,d55]
    first|refine OpS.rd (hnum) (⟨_,Tryd.func49,rfl,rfl⟩:Enters Tryd.prog 49) rfl rfl rfl rfl ?_|refine Loud.rd (hnum) (⟨_,Tryd.func49,rfl,rfl⟩:Enters Tryd.prog 49) rfl rfl rfl rfl ?_
    simp(maxSteps:=999999)(disch:=omega)only[go_sem,zA,zM,zS,zE,zL]
    simp[hf]
  · have hf:=hfin true (by rw[e];rfl)
    rw[e]at hf
    simp only[cond_true]at hf
    simp(maxSteps:=999999)(disch:=omega)only[go_sem,zA,zM,zS,zE,zL,e,d12,d13,d15,d22,d32,d33,d42,d43,d45,d52,d53,d55]
    first|refine OpS.rd (hnum) (⟨_,Tryd.func49,rfl,rfl⟩:Enters Tryd.prog 49) rfl rfl rfl rfl ?_|refine Loud.rd (hnum) (⟨_,Tryd.func49,rfl,rfl⟩:Enters Tryd.prog 49) rfl rfl rfl rfl ?_
    simp(maxSteps:=999999)(disch:=omega)only[go_sem,zA,zM,zS,zE,zL]
    simp[hf]
  · have hf:=hfin false (by rw[e];rfl)
    rw[e]at hf
    simp only[cond_false,List.append_nil]at hf
    simp(maxSteps:=999999)(disch:=omega)only[go_sem,zA,zM,zS,zE,zL,e,d12,d13,d15,d22,d32,d33,d42,d43,d45,d52,d53,d55]
    first|done|rw[hf]|trace_state
  · have hf:=hfin true (by rw[e];rfl)
    rw[e]at hf
    simp only[cond_true]at hf
    simp(maxSteps:=999999)(disch:=omega)only[go_sem,zA,zM,zS,zE,zL,e,d12,d13,d15,d22,d32,d33,d42,d43,d45,d52,d53,d55]
    first|refine OpS.rd (hnum) (⟨_,Tryd.func49,rfl,rfl⟩:Enters Tryd.prog 49) rfl rfl rfl rfl ?_|refine Loud.rd (hnum) (⟨_,Tryd.func49,rfl,rfl⟩:Enters Tryd.prog 49) rfl rfl rfl rfl ?_
    simp(maxSteps:=999999)(disch:=omega)only[go_sem,zA,zM,zS,zE,zL]
    simp[hf]
set_option maxHeartbeats 1000000 in
theorem RuleText_run(r:Rul)(hx:r.cells.length≤2^40):Reads Tryd.prog 19 [aR r] (txt (ruleT r)):=by
 refine RunCall.cw (c:=_) Tryd.func19 rfl (n:=50) Tryd.ntmps19 (rs:=[.tmp 2]) rfl ?_
 simp only[List.length_cons,List.length_nil,zA,zS,List.replicate,List.cons_append,List.nil_append]
 simp(maxSteps:=999999)(disch:=omega)only[go_sem,zA,zM,zS,zE,zL]
 intro g
 first|refine OpS.rd (RuleValid_run r 4 hx) (⟨_,Tryd.func21,rfl,rfl⟩:Enters Tryd.prog 21) rfl rfl rfl rfl ?_|refine Loud.rd (RuleValid_run r 4 hx) (⟨_,Tryd.func21,rfl,rfl⟩:Enters Tryd.prog 21) rfl rfl rfl rfl ?_
 simp(maxSteps:=999999)(disch:=omega)only[go_sem,zA,zM,zS,zE,zL]
 cases hv:ruleValid r 4 with
 |false=>
  have e:ruleT r=[]:=by unfold ruleT;rw[hv];rfl
  rw[e]
  ((first|(with_reducible first|refine condK_dec ?_ ?_|refine condK_ndec ?_ ?_|refine condK_nb ?_ ?_)|refine condK_b ?_ ?_)<;>intro c0)
  · cases c0
  simp(maxSteps:=999999)(disch:=omega)only[go_sem,zA,zM,zS,zE,zL]
 |true=>
  have e:ruleT r=ruleS r:=by unfold ruleT;rw[hv];rfl
  rw[e]
  obtain⟨hk,hl4,hc,hval⟩:=rule_txt hv
  ((first|(with_reducible first|refine condK_dec ?_ ?_|refine condK_ndec ?_ ?_|refine condK_nb ?_ ?_)|refine condK_b ?_ ?_)<;>intro c0)
  rotate_left
  · cases c0
  simp(maxSteps:=999999)(disch:=omega)only[go_sem,zA,zM,zS,zE,zL]
  intro g1
  have hch:chr [100,115,112,108,97] (r.kind -1)=((kindC r.kind).toNat:Int):=rfl
  rw[hch]
  refine loop_rule2 (fun(i g2:Nat)=>r.cells.length -i) (fun i g2=>i≤r.cells.length) (fun i g2=>[.a, .k, .a, .p (.c (.own 1 g2 0 (i+1) none)), .a, .a, .a, .a, .a, .a, .a, .a, .a, .a, .a, .k, .k, .p (int i), .a, .a, .a, .a, .a, .a, .a, .a, .a, .a, .a, .a, .a, .a, .a, .a, .a, .a, .a, .a, .a, .a, .a, .a, .a, .a, .a, .a, .a, .a, .a, .a]) (fun i g2=>[some ⟨g,1,cR r⟩,some ⟨g2,1,cl (eI .u8) (((kindC r.kind).toNat:Int)::(r.cells.take i).map fun c=>97+c)⟩]) 0 g1
   (Nat.zero_le _) (by simp(maxSteps:=999999)(disch:=omega)only[go_sem,zA,zM,zS,zE,zL];rfl) (HLe.refl _) ?_
  intro i g2 hi
  simp(maxSteps:=999999)(disch:=omega)only[go_sem,zA,zM,zS,zE,zL]
  ((first|(with_reducible first|refine condK_dec ?_ ?_|refine condK_ndec ?_ ?_|refine condK_nb ?_ ?_)|refine condK_b ?_ ?_)<;>intro c1)
  · have hv:=hc i (by omega)
    simp(maxSteps:=999999)(disch:=omega)only[go_sem,zA,zM,zS,zE,zL]
    intro g3 g4
    exact⟨i+1,g4,⟨by omega,by omega⟩,⟨⟨rfl,rfl⟩,rfl⟩,hle_eq rfl (hle_eq (by rw[take_succ_nth (by omega),List.map_append];simp) (hle_nil _))⟩
  have hke:i=r.cells.length:=by omega
  subst hke
  rw[List.take_length]
  have hfin:∀b:Bool,decide (r.kind=2∨r.kind=3∨r.kind=5)=b→ruleS r=kindC r.kind::(r.cells.map chA++bif b then 61::Go.Lib.decDigits r.val.toNat else[]):=fun b h=>by
   unfold ruleS valT
   cases b with
   |false=>rw[if_neg (of_decide_eq_false h)];rfl
   |true=>rw[if_pos (of_decide_eq_true h)];rfl
  have d12:decide ((1:Int)=2)=false:=rfl
  have d13:decide ((1:Int)=3)=false:=rfl
  have d15:decide ((1:Int)=5)=false:=rfl
  have d22:decide ((2:Int)=2)=true:=rfl
  have d32:decide ((3:Int)=2)=false:=rfl
  have d33:decide ((3:Int)=3)=true:=rfl
  have d42:decide ((4:Int)=2)=false:=rfl
  have d43:decide ((4:Int)=3)=false:=rfl
  have d45:decide ((4:Int)=5)=false:=rfl
  have d52:decide ((5:Int)=2)=false:=rfl
  have d53:decide ((5:Int)=3)=false:=rfl
  have d55:decide ((5:Int)=5)=true:=rfl
  have hm:List.map u8 (List.take r.cells.length (List.map (fun c=>97+c) r.cells))=r.cells.map chA:=by
   rw[List.take_of_length_le (by simp),List.map_map]
   rfl
  have hk8:∀k:Int,u8 ((kindC k).toNat:Int)=kindC k:=fun k=>by unfold u8;simp
  have hdl:(Go.Lib.decDigits r.val.toNat).length≤300:=by have:=dec_len r.val.toNat;omega
  have hnum:Reads Tryd.prog 47 [int r.val] (txt (Go.Lib.decDigits r.val.toNat)):=by
   rw[←itoa_nat hval.1]
   exact Itoa_run r.val (by omega) (by omega)
  rcases(by omega:r.kind=1∨r.kind=2∨r.kind=3∨r.kind=4∨r.kind=5)with e|e|e|e|e
  · have hf:=hfin false (by rw[e];rfl)
    rw[e]at hf
    simp only[cond_false,List.append_nil]at hf
    simp(maxSteps:=999999)(disch:=omega)only[go_sem,zA,zM,zS,zE,zL,e,d12,d13,d15,d22,d32,d33,d42,d43,d45,d52,d53,d55,hm,hk8]
    first|done|rw[hf]|trace_state
  · have hf:=hfin true (by rw[e];rfl)
    rw[e]at hf
    simp only[cond_true]at hf
    simp(maxSteps:=999999)(disch:=omega)only[go_sem,zA,zM,zS,zE,zL,e,d12,d13,d15,d22,d32,d33,d42,d43,d45,d52,d53,d55,hm,hk8]
    refine drawP_q foll (by kernel_rfl) ?_
    simp(maxSteps:=999999)(disch:=omega)only[go_sem,Nat.reduceBEq,Bool.true_or,zA,zM,zS,zE,zL]
    refine quietW.rd (hnum) (⟨_,Tryd.func47,rfl,rfl⟩:Enters Tryd.prog 47) rfl rfl rfl rfl ?_
    simp(maxSteps:=999999)(disch:=omega)only[go_sem,zA,zM,zS,zE,zL]
    rw[hm,hk8]
    simp[hf]
  · have hf:=hfin true (by rw[e];rfl)
    rw[e]at hf
    simp only[cond_true]at hf
    simp(maxSteps:=999999)(disch:=omega)only[go_sem,zA,zM,zS,zE,zL,e,d12,d13,d15,d22,d32,d33,d42,d43,d45,d52,d53,d55,hm,hk8]
    refine drawP_q foll (by kernel_rfl) ?_
    simp(maxSteps:=999999)(disch:=omega)only[go_sem,Nat.reduceBEq,Bool.true_or,zA,zM,zS,zE,zL]
    refine quietW.rd (hnum) (⟨_,Tryd.func47,rfl,rfl⟩:Enters Tryd.prog 47) rfl rfl rfl rfl ?_
    simp(maxSteps:=999999)(disch:=omega)only[go_sem,zA,zM,zS,zE,zL]
    rw[hm,hk8]
    simp[hf]
  · have hf:=hfin false (by rw[e];rfl)
    rw[e]at hf
    simp only[cond_false,List.append_nil]at hf
    simp(maxSteps:=999999)(disch:=omega)only[go_sem,zA,zM,zS,zE,zL,e,d12,d13,d15,d22,d32,d33,d42,d43,d45,d52,d53,d55,hm,hk8]
    first|done|rw[hf]|trace_state
  · have hf:=hfin true (by rw[e];rfl)
    rw[e]at hf
    simp only[cond_true]at hf
    simp(maxSteps:=999999)(disch:=omega)only[go_sem,zA,zM,zS,zE,zL,e,d12,d13,d15,d22,d32,d33,d42,d43,d45,d52,d53,d55,hm,hk8]
    refine drawP_q foll (by kernel_rfl) ?_
    simp(maxSteps:=999999)(disch:=omega)only[go_sem,Nat.reduceBEq,Bool.true_or,zA,zM,zS,zE,zL]
    refine quietW.rd (hnum) (⟨_,Tryd.func47,rfl,rfl⟩:Enters Tryd.prog 47) rfl rfl rfl rfl ?_
    simp(maxSteps:=999999)(disch:=omega)only[go_sem,zA,zM,zS,zE,zL]
    rw[hm,hk8]
    simp[hf]
end Go.Lg
