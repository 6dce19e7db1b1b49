/- GpGF, GpGG, GpVG, GpA, GpB, GpD, GpK, GpL, cut to what is needed. -/
import Derived.Test.YtiahmfdabpafoaaDoorIab9
import Derived.Test.YtiahmfdabpafoaaDoorIab6
import Derived.Test.YtiahmfdabpafoaaDoorIab2
import Derived.Test.YtiahmfdabpafoaaDoorIab3
import Derived.Test.YtiahmfdabpafoaaDoorIab4
import Derived.Test.YtiahmfdabpafoaaDoorIab7
open Nat renaming reduceAdd→zA,reduceMul→zM,reduceSub→zS,reduceEqDiff→zE,reduceLeDiff→zL
set_option linter.unusedSimpArgs false
set_option linter.unusedVariables false
set_option maxRecDepth 100000
namespace Go.Lg
open Go.Proofs
attribute [-go_sem] appendM lwF_cons
def LstO(H:Heap)(c:CV)(ls:List (List Int)):Prop:=∃oid og cs,c= .own oid og 0 ls.length none∧look H oid og=some ⟨og,1,cs⟩∧cs.length=ls.length∧∀i (h:i<ls.length),∃id g,cs[i]? =some (.own id g 0 ls[i].length none)∧look H id g=some ⟨g,1,cl (eI .i64) ls[i]⟩
theorem LstO.shift{H0 H:Heap}{c:CV}{ls:List (List Int)}(h:LstO H c ls):LstO (H0++shiftH H0.length H) (shiftC H0.length c) ls:=by
 obtain⟨oid,og,cs,rfl,k1,k2,k3⟩:=h
 refine⟨oid+H0.length,og,cs.map (shiftC H0.length),rfl,look_shiftH k1,by rw[List.length_map];exact k2,fun i hi=> ?_⟩
 obtain⟨id,g,q1,q2⟩:=k3 i hi
 refine⟨id+H0.length,g,by rw[List.getElem?_map,q1];rfl, ?_⟩
 rw[look_shiftH q2]
 simp only[shiftB,shift_cl]
section
variable{P:Program}{o:Oper}{st:St}{K:KV}{fo:Operand}{xs:Array Operand}{ts:Array TypeId}{f:FuncId}{args:List AV}
end
structure TrI(H HI:Heap)(id g:Nat)(B:Int)(g4 J g6:Nat)(p:Puz)(c:CV)(zs:List Int):Prop where
 out:look HI H.length g4=some ⟨g4,3,[.f (.int .i64 0), .f .nil, .f .nil]⟩
 puz:look HI J g6=some ⟨g6,3,cP p⟩
 grid:∃gid gg,c= .own gid gg 0 zs.length none∧look HI gid gg=some ⟨gg,1,cl (eI .i64) zs⟩∧H.length<gid∧gid≠J
 rd:RdAt HI id g B
 lt:id<H.length
 ln:H.length<J∧J<HI.length
 frm:∀k,k<H.length→k≠id→HI[k]? =H[k]?
section
variable{H HI H2:Heap}{id g g4 J g6:Nat}{B B':Int}{p:Puz}{c:CV}{zs:List Int}
theorem TrI.mono(h:TrI H HI id g B g4 J g6 p c zs)(hb:B≤B'):TrI H HI id g B' g4 J g6 p c zs:={h with rd:=h.rd.mono hb}
theorem TrI.step(h:TrI H HI id g B g4 J g6 p c zs)(hs:∀i,H.length≤i→i<HI.length→H2[i]? =HI[i]?)(hl:HI.length≤H2.length)(hr:RdAt H2 id g B')(hf:∀k,k<H.length→k≠id→H2[k]? =HI[k]?):TrI H H2 id g B' g4 J g6 p c zs:=by
 have hn:=h.ln
 have hL:∀i g,H.length≤i→i<HI.length→look H2 i g=look HI i g:=fun i g h1 h2=>by unfold look;rw[hs i h1 h2]
 obtain⟨gid,gg,g1,g2,g3,g4⟩:=h.grid
 have hgl:gid<HI.length:=(List.getElem?_eq_some_iff.1 (look_some g2).1).1
 exact{out:=by rw[hL _ _ (Nat.le_refl _) (by omega)];exact h.out
       puz:=by rw[hL _ _ (by omega) (by omega)];exact h.puz
       grid:=⟨gid,gg,g1,by rw[hL _ _ (by omega) hgl];exact g2,g3,g4⟩
       rd:=hr,lt:=h.lt,ln:=by omega
       frm:=fun k hk hne=>by rw[hf k hk hne];exact h.frm k hk hne}
theorem TrI.pick(h:TrI H HI id g B g4 J g6 p c zs)(hr:RdAt H2 id g B')(hf:Frm HI H2 [id]):TrI H H2 id g B' g4 J g6 p c zs:=by
 have hl:=h.lt
 exact h.step (fun i hi _=>hf.2 i (by simp;omega)) (by rw[hf.1];exact Nat.le_refl _) hr fun k hk hne=>hf.2 k (by simpa using hne)
theorem TrI.app{X:Heap}(h:TrI H HI id g B g4 J g6 p c zs):TrI H (HI++X) id g B g4 J g6 p c zs:=by
 have hn:=h.ln
 exact h.step (fun i _ hi=>List.getElem?_append_left hi) (by simp) h.rd.app fun k hk _=>List.getElem?_append_left (by omega)
theorem TrI.set(h:TrI H HI id g B g4 J g6 p c zs){gid gg:Nat}(hc:c= .own gid gg 0 zs.length none)(k:Nat)(v:Int):TrI H (HI.set gid (some ⟨gg,1,cl (eI .i64) (zs.set k v)⟩)) id g B g4 J g6 p c (zs.set k v):=by
 have hn:=h.ln
 have hl:=h.lt
 obtain⟨gid',gg',g1,g2,g3,g4⟩:=h.grid
 rw[hc]at g1
 cases g1
 have hgl:gid<HI.length:=(List.getElem?_eq_some_iff.1 (look_some g2).1).1
 exact{out:=by rw[look_set_ne' (by omega)];exact h.out
       puz:=by rw[look_set_ne' (by omega)];exact h.puz
       grid:=⟨gid,gg,by rw[hc,List.length_set],look_set_eq' hgl,g3,g4⟩
       rd:=h.rd.same (by rw[List.getElem?_set_ne (by omega)])
       lt:=hl,ln:=by rw[List.length_set];exact hn
       frm:=fun k hk hne=>by rw[List.getElem?_set_ne (by omega)];exact h.frm k hk hne}
end
theorem RdAt.shift{H0 H:Heap}{id g:Nat}{B:Int}(h:RdAt H id g B):RdAt (H0++shiftH H0.length H) (id+H0.length) g B:=by
 obtain⟨sz,b,p,h1,h2⟩:=h
 exact⟨sz,b,p,by rw[look_shiftH h1];rfl,h2⟩
end Go.Lg

namespace Go.Lg
open Go.Proofs
attribute [-go_sem] appendM lwF_cons
theorem resV_ctt(P:Program)(s:List AV)(H:Heap)(t u w:Nat)(ty:TypeId):resV P s H [.cell t ty, .tmp u, .tmp w]=(loadV P H ty (s.getD t .void)).map fun v=> .tup [v,s.getD u .void,s.getD w .void]:=by
 simp only[resV,resAll,resOne]
 cases loadV P H ty (s.getD t .void)<;>rfl
attribute [go_sem] resV_ctt
end Go.Lg

namespace Go.Lg
open Go.Proofs
def hintOk(h:Hnt):Prop:=(0≤h.tech∧h.tech≤4)∧(0≤h.cell∧h.cell≤15)∧(1≤h.val∧h.val≤4)
instance(h:Hnt):Decidable (hintOk h):=by unfold hintOk;infer_instance
end Go.Lg

namespace Go.Lg
open Go.Proofs
theorem markNil_run(k:Int):Reads Tryd.prog 35 [ints [],int k] (int k):=by
 refine RunCall.cw (c:=_) Tryd.func35 rfl (n:=19) Tryd.ntmps35 (rs:=[.tmp 4]) rfl ?_
 simp only[List.length_cons,List.length_nil,zA,zS,List.replicate,List.cons_append,List.nil_append]
 simp(maxSteps:=999999)(disch:=omega)only[go_sem,zA,zM,zS,zE,zL]
 refine loop_rule (fun _:Unit=>0) (fun _=>True) (fun _=>[.k, .p (int k), .a, .a, .a, .p (int 0), .a, .a, .a, .a, .a, .a, .a, .a, .a, .a, .a, .a, .a]) (fun _=>[]) () trivial (by simp(maxSteps:=999999)(disch:=omega)only[go_sem,zA,zM,zS,zE,zL]) (hle_nil _) ?_
 intro _ _
 simp(maxSteps:=999999)(disch:=omega)only[go_sem,zA,zM,zS,zE,zL]
 simp only[show decide ((0:Int)<((0:Nat):Int))=false from rfl]
 simp(maxSteps:=999999)(disch:=omega)only[go_sem,zA,zM,zS,zE,zL]
theorem heldIntS_run(n:Nat)(k:Int)(hk:0≤k∧k≤2^50)(hx:n≤2^40):Reads Tryd.prog 36 [ints (marks k n),int k] (int (k+n)):=by
 refine RunCall.cw (c:=_) Tryd.func36 rfl (n:=21) Tryd.ntmps36 (rs:=[.tmp 4]) rfl ?_
 simp only[List.length_cons,List.length_nil,zA,zS,List.replicate,List.cons_append,List.nil_append]
 simp(maxSteps:=999999)(disch:=omega)only[go_sem,zA,zM,zS,zE,zL]
 have hm:=marks_length k n
 refine loop_rule (fun(i:Nat)=>n -i) (fun i=>i≤n) (fun i=>[.k, .p (int (k+i)), .a, .a, .a, .p (int i), .a, .a, .a, .a, .a, .a, .a, .a, .a, .a, .a, .a, .a, .a, .a]) (fun _=>[]) 0
  (Nat.zero_le _) (by simp(maxSteps:=999999)(disch:=omega)only[go_sem,zA,zM,zS,zE,zL];simp) (hle_nil _) ?_
 intro i hi
 simp(maxSteps:=999999)(disch:=omega)only[go_sem,zA,zM,zS,zE,zL,marks_length]
 refine condK_split (fun h=> ?_) (fun h=> ?_)
 · have h:i<n:=by simpa using h
   simp(maxSteps:=999999)(disch:=omega)only[go_sem,zA,zM,zS,zE,zL,marks_length,marks_nth h]
   exact⟨i+1,⟨h,by omega⟩,⟨by push_cast;omega,by push_cast;omega⟩,hle_nil _⟩
 have h:i=n:=by have:¬i<n:=by simpa using h
                omega
 subst h
 simp(maxSteps:=999999)(disch:=omega)only[go_sem,zA,zM,zS,zE,zL]
end Go.Lg

namespace Go.Lg
open Go.Proofs
def invC(c:Int):Int:=if c=46 then 0 else c -48
def cellsIn(s:List UInt8):List Int:=(s.drop 2).map fun c=>invC c.toNat
def rdGrid(s:List UInt8):List Int×Int×Bool:=
 if 2≤s.length∧gridText (cellsIn s) (chr s 0 -48)=s then(cellsIn s,chr s 0 -48,true)else([],0,false)
theorem chr_bound(s:List UInt8)(e:Int):0≤chr s e∧chr s e≤255:=by
 unfold chr
 have:=(s.getD e.toNat 0).toNat_lt
 omega
theorem cellsIn_length(s:List UInt8):(cellsIn s).length=s.length -2:=by simp[cellsIn]
theorem cellsIn_nth{s:List UInt8}{i:Nat}(h:i+2<s.length):nth (cellsIn s) i=invC (chr s ((i:Int)+2)):=by
 rw[nth_eq (by rw[cellsIn_length];omega)]
 simp only[cellsIn,List.getElem_map,List.getElem_drop,chr]
 have e:((i:Int)+2).toNat=i+2:=by omega
 rw[e]
 simp[List.getD,List.getElem?_eq_getElem h,Nat.add_comm 2 i]
theorem gridText_length{xs:List Int}{n:Int}(h:gridValid xs n=true):(gridText xs n).length=xs.length+2:=by simp[gridText,h]
theorem gridText_eq{xs:List Int}{n:Int}{s:List UInt8}(hs:2≤s.length)(h:gridText xs n=s):gridValid xs n=true∧xs.length+2=s.length:=by
 cases hv:gridValid xs n with
 |false=>simp[gridText,hv]at h;subst h;simp at hs
 |true=>exact⟨rfl,by rw[←h,gridText_length hv]⟩
theorem sReadGrid_run(s:List UInt8)(hx:s.length≤2^40):Reads Tryd.prog 37 [txt s] (.tup [ints (rdGrid s).1,int (rdGrid s).2.1,bool (rdGrid s).2.2]):=by
 refine Reads.iced ?_
 refine RunCall.cw (c:=_) Tryd.func37 rfl (n:=45) Tryd.ntmps37 (rs:=[.tmp 2, .tmp 3, .tmp 4]) rfl ?_
 simp only[List.length_cons,List.length_nil,zA,zS,List.replicate,List.cons_append,List.nil_append]
 simp(maxSteps:=999999)(disch:=omega)only[go_sem,zA,zM,zS,zE,zL]
 refine condK_split (fun h=> ?_) (fun h=> ?_)
 · simp(maxSteps:=999999)(disch:=omega)only[go_sem,zA,zM,zS,zE,zL]
   intro g
   have h:¬2≤s.length:=by simp at h;omega
   simp only[rdGrid,h,false_and,if_false]
   exact lessQ_ice (by simp only[go_sem,List.mapM_cons,List.mapM_nil,frzA,frz1,frzC,frz,frz_cl,Option.pure_def,Option.bind_eq_bind,Option.bind_some]<;>rfl)
 have h:2≤s.length:=by simp at h;omega
 have hc:=chr_bound s 0
 simp(maxSteps:=999999)(disch:=omega)only[go_sem,zA,zM,zS,zE,zL]
 intro g
 refine loop_rule2 (fun(i g:Nat)=>s.length -i) (fun i g=>i+2≤s.length) (fun i g=>[.k, .a, .a, .a, .a, .k, .p (.c (.own 0 g 0 i none)), .p (int (i+2)), .a, .a, .a, .a, .a, .a, .a, .a, .a, .a, .a, .a, .a, .a, .a, .a, .a, .a, .a, .a, .a, .a, .a, .a, .a, .a, .a, .a, .a, .a, .a, .a, .a, .a, .a, .a, .a]) (fun i g=>[some ⟨g,1,cl (eI .i64) ((cellsIn s).take i)⟩]) 0 g
  (by omega) (by simp(maxSteps:=999999)(disch:=omega)only[go_sem,zA,zM,zS,zE,zL];rfl) (HLe.refl _) ?_
 intro i g hi
 simp(maxSteps:=999999)(disch:=omega)only[go_sem,zA,zM,zS,zE,zL]
 refine condK_split (fun h2=> ?_) (fun h2=> ?_)
 · have h2:i+2<s.length:=by simp at h2;omega
   have hc2:=chr_bound s (i+2)
   have hn:=cellsIn_nth h2
   have hl:=cellsIn_length s
   simp(maxSteps:=999999)(disch:=omega)only[go_sem,zA,zM,zS,zE,zL]
   refine condK_split (fun h3=> ?_) (fun h3=> ?_)<;>simp(maxSteps:=999999)(disch:=omega)only[go_sem,zA,zM,zS,zE,zL]<;>simp at h3<;>intro g1 g2
   · exact⟨i+1,g2,⟨by omega,by omega⟩,⟨⟨rfl,rfl⟩,by push_cast;omega⟩,hle_eq (by rw[take_succ_nth (by omega),hn];simp[invC,h3]) (hle_nil _)⟩
   · exact⟨i+1,g2,⟨by omega,by omega⟩,⟨⟨rfl,rfl⟩,by push_cast;omega⟩,hle_eq (by rw[take_succ_nth (by omega),hn];simp[invC,h3]) (hle_nil _)⟩
 have hl:=cellsIn_length s
 have hi:i=(cellsIn s).length:=by simp at h2;omega
 subst hi
 rw[List.take_length]
 simp(maxSteps:=999999)(disch:=omega)only[go_sem,zA,zM,zS,zE,zL]
 refine OpS.rd (sGridText_run (cellsIn s) (chr s 0 -48) (by omega)) (⟨_,Tryd.func58,rfl,rfl⟩:Enters Tryd.prog 58) rfl rfl (by simp only[go_sem,List.mapM_cons,List.mapM_nil,snapA,snapC,look_zero,look_succ,take_cl1,fvs_cl,Option.map_some,Option.pure_def,Option.bind_eq_bind,Option.bind_some]<;>simp only[ints,fints,rsl,fsl,marks_length,markS_length]) rfl ?_
 simp(maxSteps:=999999)(disch:=omega)only[go_sem,zA,zM,zS,zE,zL]
 refine condK_split (fun h3=> ?_) (fun h3=> ?_)<;>simp(maxSteps:=999999)(disch:=omega)only[go_sem,zA,zM,zS,zE,zL]<;>simp at h3
 · intro g2
   simp only[rdGrid,h3,and_false,if_false]
   exact lessQ_ice (by simp only[go_sem,List.mapM_cons,List.mapM_nil,frzA,frz1,frzC,frz,frz_cl,Option.pure_def,Option.bind_eq_bind,Option.bind_some]<;>rfl)
 · simp only[rdGrid,h3,h,and_self,if_true]
   exact lessQ_ice (by simp only[go_sem,List.mapM_cons,List.mapM_nil,frzA,frz1,frzC,frz,frz_cl,Option.pure_def,Option.bind_eq_bind,Option.bind_some]<;>rfl)
def rdQ(s:List UInt8):KV:=fun r H=>((rdGrid s).2.2=false→r= .tup [ints [],int 0,bool false]∧H=[])∧
 ((rdGrid s).2.2=true→∃g,r= .tup [.c (.own 0 g 0 (rdGrid s).1.length none),int (rdGrid s).2.1,bool true]∧H=[some ⟨g,1,cl (eI .i64) (rdGrid s).1⟩])
theorem rdQ_no{s:List UInt8}{H:Heap}(h:(rdGrid s).2.2=false):lessQ H (rdQ s) (.tup [.c (.f (.sl 0 [])),int 0,bool false]):=⟨[],hle_nil _,fun _=>⟨rfl,rfl⟩,fun h'=>by rw[h]at h';cases h'⟩
set_option maxHeartbeats 2000000 in
theorem ReadGrid_run(s:List UInt8)(hx:s.length≤2^40):RunCall Tryd.prog 39 [txt s] [] (rdQ s):=by
 refine RunCall.nz ?_
 refine RunCall.cw (c:=_) Tryd.func39 rfl (n:=60) Tryd.ntmps39 (rs:=[.tmp 2, .tmp 3, .tmp 4]) rfl ?_
 simp only[List.length_cons,List.length_nil,zA,zS,List.replicate,List.cons_append,List.nil_append]
 simp(maxSteps:=999999)(disch:=omega)only[go_sem,zA,zM,zS,zE,zL]
 refine guardK_split (fun h=> ?_) (fun h=> ?_)<;>simp(maxSteps:=999999)(disch:=omega)only[go_sem,zA,zM,zS,zE,zL,h]<;>simp at h
 · exact rdQ_no (by simp only[rdGrid];rw[if_neg (by omega)])
 have hc:=chr_bound s 0
 simp(maxSteps:=999999)(disch:=omega)only[go_sem,zA,zM,zS,zE,zL]
 refine OpS.rd (sizeOk_run _) (⟨_,Tryd.func50,rfl,rfl⟩:Enters Tryd.prog 50) rfl rfl rfl rfl ?_
 simp(maxSteps:=999999)(disch:=omega)only[go_sem,zA,zM,zS,zE,zL]
 refine condK_split (fun h2=> ?_) (fun h2=> ?_)<;>simp(maxSteps:=999999)(disch:=omega)only[go_sem,zA,zM,zS,zE,zL]<;>simp at h2
 · refine rdQ_no ?_
   simp only[rdGrid]
   rw[if_neg]
   rintro⟨h3,h4⟩
   have:=(gridText_eq h3 h4).1
   simp only[gridValid,decide_eq_true_eq]at this
   omega
 intro g
 have hw:4≤(chr s 0 -48)*(chr s 0 -48)∧(chr s 0 -48)*(chr s 0 -48)≤16:=by
  generalize chr s 0 -48=n at h2
  have:n=2∨n=3∨n=4:=by omega
  rcases this with rfl|rfl|rfl<;>decide
 have hl:=cellsIn_length s
 refine loop_rule2 (fun(i g:Nat)=>s.length -i) (fun i g=>i+2≤s.length∧i≤(chr s 0 -48)*(chr s 0 -48)) (fun i g=>[.k, .a, .a, .a, .a, .k, .p (.c (.own 0 g 0 i none)), .p (int (i+2)), .a, .a, .a, .a, .a, .a, .a, .a, .a, .a, .a, .a, .a, .a, .a, .a, .a, .a, .a, .a, .a, .a, .a, .a, .a, .a, .a, .a, .a, .a, .a, .a, .a, .a, .a, .a, .a, .a, .a, .a, .a, .a, .a, .a, .a, .a, .a, .a, .a, .a, .a, .a]) (fun i g=>[some ⟨g,1,cl (eI .i64) ((cellsIn s).take i)⟩]) 0 g
  ⟨by omega,by omega⟩ (by simp(maxSteps:=999999)(disch:=omega)only[go_sem,zA,zM,zS,zE,zL];rfl) (HLe.refl _) ?_
 rintro i g ⟨hi,hi2⟩
 simp(maxSteps:=999999)(disch:=omega)only[go_sem,zA,zM,zS,zE,zL]
 have out:(i+2=s.length∨(i:Int)=(chr s 0 -48)*(chr s 0 -48))→i=((cellsIn s).take i).length∧(gridText ((cellsIn s).take i) (chr s 0 -48)=s↔gridText (cellsIn s) (chr s 0 -48)=s)∧(gridText (cellsIn s) (chr s 0 -48)=s→(cellsIn s).take i=cellsIn s):=by
  intro ho
  refine⟨by simp;omega,⟨fun h3=> ?_,fun h3=> ?_⟩,fun h3=> ?_⟩
  · obtain⟨h4,h5⟩:=gridText_eq (by omega) h3
    rw[List.take_of_length_le (by simp at h5;omega)]at h3
    exact h3
  · obtain⟨h4,h5⟩:=gridText_eq (by omega) h3
    have:=(gridValid_bound h4).2.2.1
    rw[List.take_of_length_le (by omega)];exact h3
  · obtain⟨h4,h5⟩:=gridText_eq (by omega) h3
    have:=(gridValid_bound h4).2.2.1
    rw[List.take_of_length_le (by omega)]
 rcases(show(i+2=s.length∨(i:Int)=(chr s 0 -48)*(chr s 0 -48))∨(i+2<s.length∧(i:Int)<(chr s 0 -48)*(chr s 0 -48)) by omega)with ex|⟨e1,e2⟩
 · obtain⟨o1,o2,o3⟩:=out ex
   refine guardK_split (fun h3=> ?_) (fun h3=> ?_)<;>simp(maxSteps:=999999)(disch:=omega)only[go_sem,zA,zM,zS,zE,zL,h3]
   · refine condK_split (fun h4=>by simp at h3 h4;omega) (fun h4=> ?_)
     simp(maxSteps:=999999)(disch:=omega)only[go_sem,zA,zM,zS,zE,zL]
     generalize hz:(cellsIn s).take i=zs at*
     subst o1
     refine OpS.rd (GridText_run zs (chr s 0 -48) (by omega)) (⟨_,Tryd.func57,rfl,rfl⟩:Enters Tryd.prog 57) rfl rfl (by simp only[go_sem,List.mapM_cons,List.mapM_nil,snapA,snapC,look_zero,look_succ,take_cl1,fvs_cl,Option.map_some,Option.pure_def,Option.bind_eq_bind,Option.bind_some]<;>simp only[ints,fints,rsl,fsl,marks_length,markS_length]) rfl ?_
     simp(maxSteps:=999999)(disch:=omega)only[go_sem,zA,zM,zS,zE,zL]
     refine condK_split (fun h5=> ?_) (fun h5=> ?_)<;>simp(maxSteps:=999999)(disch:=omega)only[go_sem,zA,zM,zS,zE,zL]<;>simp at h5
     · exact rdQ_no (by simp only[rdGrid];rw[if_neg (fun h6=>h5 (o2.2 h6.2))])
     · have h6:=o2.1 h5
       have h7:=o3 h6
       subst h7
       have:rdGrid s=(cellsIn s,chr s 0 -48,true):=by simp only[rdGrid];rw[if_pos ⟨by omega,h6⟩]
       exact⟨_,HLe.refl _,fun h=>(by rw[this]at h;cases h),fun _=>by rw[this];exact⟨_,rfl,rfl⟩⟩
   · skip
     generalize hz:(cellsIn s).take i=zs at*
     subst o1
     refine OpS.rd (GridText_run zs (chr s 0 -48) (by omega)) (⟨_,Tryd.func57,rfl,rfl⟩:Enters Tryd.prog 57) rfl rfl (by simp only[go_sem,List.mapM_cons,List.mapM_nil,snapA,snapC,look_zero,look_succ,take_cl1,fvs_cl,Option.map_some,Option.pure_def,Option.bind_eq_bind,Option.bind_some]<;>simp only[ints,fints,rsl,fsl,marks_length,markS_length]) rfl ?_
     simp(maxSteps:=999999)(disch:=omega)only[go_sem,zA,zM,zS,zE,zL]
     refine condK_split (fun h5=> ?_) (fun h5=> ?_)<;>simp(maxSteps:=999999)(disch:=omega)only[go_sem,zA,zM,zS,zE,zL]<;>simp at h5
     · exact rdQ_no (by simp only[rdGrid];rw[if_neg (fun h6=>h5 (o2.2 h6.2))])
     · have h6:=o2.1 h5
       have h7:=o3 h6
       subst h7
       have:rdGrid s=(cellsIn s,chr s 0 -48,true):=by simp only[rdGrid];rw[if_pos ⟨by omega,h6⟩]
       exact⟨_,HLe.refl _,fun h=>(by rw[this]at h;cases h),fun _=>by rw[this];exact⟨_,rfl,rfl⟩⟩
 have hc2:=chr_bound s (i+2)
 have hn:=cellsIn_nth e1
 have d1:decide ((i:Int)+2<s.length)=true:=by simp;omega
 rw[d1]
 simp(maxSteps:=999999)(disch:=omega)only[go_sem,zA,zM,zS,zE,zL]
 have d2:decide ((i:Int)+2<2+(chr s 0 -48)*(chr s 0 -48))=true:=by simp;omega
 rw[d2]
 simp(maxSteps:=999999)(disch:=omega)only[go_sem,zA,zM,zS,zE,zL]
 refine condK_split (fun h3=> ?_) (fun h3=> ?_)<;>simp(maxSteps:=999999)(disch:=omega)only[go_sem,zA,zM,zS,zE,zL]<;>simp at h3<;>intro g1 g2
 · exact⟨i+1,g2,⟨⟨by omega,by push_cast;omega⟩,by omega⟩,⟨⟨rfl,rfl⟩,by push_cast;omega⟩,hle_eq (by rw[take_succ_nth (by omega),hn];simp[invC,h3]) (hle_nil _)⟩
 · exact⟨i+1,g2,⟨⟨by omega,by push_cast;omega⟩,by omega⟩,⟨⟨rfl,rfl⟩,by push_cast;omega⟩,hle_eq (by rw[take_succ_nth (by omega),hn];simp[invC,h3]) (hle_nil _)⟩
end Go.Lg

namespace Go.Lg
open Go.Proofs
theorem tmod10(m:Nat):(m:Int).tmod 10=((m%10:Nat):Int):=rfl
theorem tdiv10(m:Nat):(m:Int).tdiv 10=((m/10:Nat):Int):=rfl
end Go.Lg

namespace Go.Lg
open Go.Proofs
def filledAt(xs:List Int):List Int:=((List.range xs.length).filter fun i:Nat=>decide (0<nth xs i)).map fun i:Nat=>(i:Int)
def gameOk(g:Gam):Prop:=g.moves.Nodup∧(∀c∈g.moves,c∈filledAt g.put)∧∀c∈filledAt g.put,c∈g.moves∧nth g.task.given c≤0
instance(g:Gam):Decidable (gameOk g):=by unfold gameOk;infer_instance
def gameValid(g:Gam):Bool:=puzzleValid g.task&&(gridValid g.put g.task.size&&(decide (g.moves.length≤40)&&decide (gameOk g)))
def eBo(b:Bool):List FV:=[.bool b]
instance:HSz eBo 1:=⟨fun _=>rfl⟩
theorem eBo_0(b:Bool)(d:FV):(eBo b).getD 0 d= .bool b:=rfl
theorem zerosBo(n:Nat):zerosL (n*1) [.f (.bool false)]=cl eBo (List.replicate n false):=by
 simp only[zerosL,Nat.mul_one,List.length_singleton,Nat.mod_one]
 induction n with
 |zero=>rfl
 |succ n ih=>rw[List.range_succ,List.map_append,ih,List.replicate_succ',cl_append];rfl
theorem setBo{xs:List Bool}{e:Int}{v:Bool}(h:0≤e∧e<(xs.length:Int)):setRange (cl eBo xs) (0+e.toNat*1) [.f (.bool v)]=cl eBo (xs.set e.toNat v):=
 setRange_cl (E:=eBo) (by omega)
attribute [go_sem] eBo_0 zerosBo setBo
end Go.Lg

namespace Go.Lg
open Go.Proofs
theorem markIntS_view(H:Heap)(id g:Nat)(lim:Option Nat)(xs ys:List Int)(k:Int)(hl:look H id g=some ⟨g,1,cl (eI .i64) (xs++ys)⟩)(hk:0≤k∧k≤2^50)(hx:xs.length≤2^40):
 RunCall Tryd.prog 35 [.c (.own id g 0 xs.length lim),int k] H (fun r H'=>r=int (k+xs.length)∧H'=H.set id (some ⟨g,1,cl (eI .i64) (marks k xs.length++ys)⟩)):=by
 refine RunCall.cw (c:=_) Tryd.func35 rfl (n:=19) Tryd.ntmps35 (rs:=[.tmp 4]) rfl ?_
 simp only[List.length_cons,List.length_nil,zA,zS,List.replicate,List.cons_append,List.nil_append]
 simp(maxSteps:=999999)(disch:=omega)only[go_sem,zA,zM,zS,zE,zL]
 have hid:H[id]? =some (some ⟨g,1,cl (eI .i64) (xs++ys)⟩):=(look_some hl).1
 have hlt:id<H.length:=(List.getElem?_eq_some_iff.1 hid).1
 have hs:∀ys:List Int,look (H.set id (some ⟨g,1,cl (eI .i64) ys⟩)) id g=some ⟨g,1,cl (eI .i64) ys⟩:=fun ys=>look_of (b:=⟨g,1,cl (eI .i64) ys⟩) (by rw[List.getElem?_set_self hlt])
 refine loop_rule2 (fun(i:Nat) (zs:List Int)=>xs.length -i) (fun i zs=>i≤xs.length∧zs.length=xs.length+ys.length∧(∀j:Nat,j<i→nth zs j=k+j)∧∀j:Nat,xs.length≤j→nth zs j=nth (xs++ys) j) (fun i _=>[.k, .p (int (k+i)), .a, .a, .a, .p (int i), .a, .a, .a, .a, .a, .a, .a, .a, .a, .a, .a, .a, .a]) (fun _ zs=>H.set id (some ⟨g,1,cl (eI .i64) zs⟩)) 0 (xs++ys)
  ⟨Nat.zero_le _,by simp,fun j hj=>absurd hj (Nat.not_lt_zero _),fun j hj=>rfl⟩ (by simp(maxSteps:=999999)(disch:=omega)only[go_sem,zA,zM,zS,zE,zL];simp) (hle_set_same hid) ?_
 rintro i zs ⟨hi,hly,hall,hkeep⟩
 simp(maxSteps:=999999)(disch:=omega)only[go_sem,zA,zM,zS,zE,zL,hs]
 ((first|(with_reducible first|refine condK_dec ?_ ?_|refine condK_ndec ?_ ?_|refine condK_nb ?_ ?_)|refine condK_b ?_ ?_)<;>intro h)
 · have h:i<xs.length:=by omega
   simp(maxSteps:=999999)(disch:=omega)only[go_sem,zA,zM,zS,zE,zL,hs]
   refine⟨i+1,zs.set i (k+i),⟨⟨h,by simp[hly],fun j hj=> ?_,fun j hj=> ?_⟩,by omega⟩,⟨by push_cast;omega,by push_cast;omega⟩,by rw[List.set_set];exact HLe.refl _⟩
   · rw[nth_set _ _ _ _ (by omega) (by omega)]
     split
     · omega
     · exact hall j (by omega)
   · rw[nth_set _ _ _ _ (by omega) (by omega),if_neg (by omega)]
     exact hkeep j hj
 have h:i=xs.length:=by omega
 subst h
 simp(maxSteps:=999999)(disch:=omega)only[go_sem,zA,zM,zS,zE,zL]
 have:zs=marks k xs.length++ys:=ext_nth (by rw[hly,List.length_append,marks_length]) fun j hj=>by
  by_cases hj2:j<xs.length
  · rw[hall j hj2,nth_eq (xs:=marks k xs.length++ys) (by simp[marks_length];omega)]
    have:=marks_nth (k:=k) hj2
    rw[nth_eq (by rw[marks_length];omega)]at this
    rw[←this,List.getElem_append_left]
  · rw[hkeep j (by omega),nth_eq (by simp;omega),nth_eq (by simp[marks_length];omega)]
    simp only[Int.toNat_natCast]
    rw[List.getElem_append_right (by omega),List.getElem_append_right (by rw[marks_length];omega)]
    simp only[marks_length]
 subst this
 exact⟨_,HLe.refl _,rfl,rfl⟩
theorem markIntS_deep(H:Heap)(c:CV)(xs:List Int)(S:List Nat)(k:Int)(h:OwnI H c xs S)(hk:0≤k∧k≤2^50)(hx:xs.length≤2^40):
 RunCall Tryd.prog 35 [.c c,int k] H (fun r H'=>r=int (k+xs.length)∧OwnI H' c (marks k xs.length) S∧Frm H H' S):=by
 cases h with
 |e=>
  refine(RunCall.frame rfl (markNil_run k) fun r H' h=>by rw[h];rfl).weaker ?_
  rintro r H2 ⟨r',H',rfl,rfl,rfl⟩
  refine⟨H,HLe.app _ _, ?_, .e,Frm.refl _ _⟩
  simp[shiftA,shift1,shiftC]
 |o id g lim xs ys h=>
  refine(markIntS_view H id g lim xs ys k h hk hx).weaker ?_
  rintro r H2 ⟨rfl,rfl⟩
  have hlt:id<H.length:=(List.getElem?_eq_some_iff.1 (look_some h).1).1
  refine⟨_,HLe.refl _,rfl, ?_,Frm.set _ _ _⟩
  have:=OwnI.o (H:=H.set id (some ⟨g,1,cl (eI .i64) (marks k xs.length++ys)⟩)) id g lim (marks k xs.length) ys (look_of (b:=⟨g,1,cl (eI .i64) (marks k xs.length++ys)⟩) (by rw[List.getElem?_set_self hlt]))
  rw[marks_length]at this
  exact this
end Go.Lg
