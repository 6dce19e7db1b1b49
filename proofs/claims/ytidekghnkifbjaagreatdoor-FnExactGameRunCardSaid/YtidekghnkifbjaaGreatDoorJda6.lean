/- LgN, cut to what is needed. -/
import Derived.Test.YtidekghnkifbjaaGreatDoorJda5
open List renaming length_cons → Ja, cons_append → Jb, nil_append → Jd, length_nil → Je, length_append → Jq, take_of_length_le → Js, append_nil → Jt, length_take → JX, drop_zero → J1, mapM_cons → J3, mem_map → Qg, map_cons → Qh, getElem?_map → Qk, mem_cons → Qn, length_drop → Uc
open Nat renaming reduceAdd→zA,reduceMul→zM,reduceSub→zS,reduceEqDiff→zE,reduceLeDiff→zL
set_option linter.unusedSimpArgs false
set_option linter.unusedVariables false
namespace Go.Lg
def Ve:Op→Bool
 | .move _| .assign _| .pick .. | .nilCheck _| .binOp .. | .unOp .. | .convert .. | .fieldAddr .. | .field .. | .indexAddr .. | .index .. | .extract .. | .load .. | .slice .. | .makeFunc .. =>true
 | .call ⟨.builtin .len,_,_⟩| .call ⟨.builtin .min,_,_⟩| .call ⟨.builtin .max,_,_⟩=>true
 |_=>false
def KB(A B:Prop):Prop:=A∧B
theorem JhZ{B:Prop}:KB True B=B:=by simp[KB]
theorem Jlz{A B:Prop}(h:A):KB A B=B:=by simp[KB,h]
def QG{α:Type}(o:Option α)(F:α→Prop):Prop:=∃v,o=some v∧F v
theorem Jer{α:Type}(x:α)(F:α→Prop):QG (some x) F=F x:=by simp[QG]
theorem JgV{α:Type}{c:Prop}[Decidable c]{x:Option α}(F:α→Prop):QG (if c then x else none) F=KB c (QG x F):=by
 by_cases h:c<;>simp[QG,KB,h]
def JiK{α β:Type}(f:α→β)(F:β→Prop):α→Prop:=fun a=>F (f a)
theorem B1{α β:Type}{f:α→β}{x:Option α}(F:β→Prop):QG (x.map f) F=QG x (JiK f F):=by
 cases x<;>simp[QG,JiK]
theorem JiJ{α β:Type}(f:α→β)(F:β→Prop)(a:α):JiK f F a=F (f a):=propext Iff.rfl
def atH(F:KV)(H:Jn):AV→Prop:=fun v=>F v H
theorem Jl7(F:KV)(H:Jn)(v:AV):atH F H v=F v H:=propext Iff.rfl
theorem Jam{α β:Type}{P:Program}{w:World}{f:α→Sem β}{g:α→β}:∀(l:List α),(∀x∈l,(f x).run P w= .ok (g x) w)→(l.mapM f).run P w= .ok (l.map g) w
 |[],_=>by simp
 |x::l,h=>by
  rw[J3]
  simp only[Sem.run_bind,h x (by simp),Result.andThen_ok,Jam l fun y hy=>h y (by simp[hy]),Sem.run_pure,Qh]
theorem Jhx{α β:Type}{P:Program}{w:World}{f:α→Sem β}{g:α→β}(as:Array α)(hf:∀x∈as,(f x).run P w= .ok (g x) w):(as.mapM f).run P w= .ok (as.map g) w:=by
 rw[Array.mapM_eq_mapM_toList,Sem.run_map,Jam as.toList fun x hx=>hf x (by simpa using hx),Result.andThen_ok]
 congr 1
 apply Array.ext'
 simp
theorem JfF{d:TypeDesc}{fs:List (TypeId×Nat)}(h:KA d= .struct fs):∃l:Array Field,d= .struct l∧fs=l.toList.map fun f=>(f.type,f.offset):=by
 cases d<;>simp[KA]at h
 exact⟨_,rfl,h.symm⟩
def Jdz(P:Program)(t:TypeId):Nat:=match JP P t with|some i=>i.size|none=>0
theorem JU.build{P:Program}{o:Oper}{st:St}{K:AV→Jn→Prop}{t:TypeId}{ti:TI}{fs:List (TypeId×Nat)}{parts:Array (Nat×Operand)}{rs:List (Nat×List CV)}{cs:List CV}
 (ho:o.op= .build t parts) (ht:JP P t=some ti) (hk:ti.k= .struct fs) (hfs:∀f∈fs,(JP P f.1).isSome=true) (hp:Vc st.s parts.toList=some rs)
 (hf:WF (fun i=>(fs.map fun f=>(f.2,Jdz P f.1))[i]?) ti.zero rs=some cs) (hK:K (.agg cs) st.h):JU P o st K:=by
 intro w X a R next Q hn
 obtain⟨inf,d,z',h1,h2,h3,h4,h5,h6,h7⟩:=Qd ht
 rw[h5]at hk
 obtain⟨l,rfl,rfl⟩:=JfF hk
 obtain⟨z,hz1,hz2,hz3⟩:=V9 ht
 obtain⟨out,o1,o2,o3⟩:=Yp R parts.toList ti.zero z.cells rs cs hp hf hz2 (hz3 w X st.h)
 have hparts:(parts.map fun p=>(p.1,a.eval p.2)).toList=parts.toList.map fun p=>(p.1,a.eval p.2):=by simp
 have hmap:(l.mapM (m:=Sem) fun f=>do pure (f.offset,←sizeOf f.type)).run P w= .ok (l.map fun f=>(f.offset,Jdz P f.type)) w:=by
  refine Jhx l fun f hf'=> ?_
  have:=hfs (f.type,f.offset) (Qg.2 ⟨f,by simpa using hf',rfl⟩)
  obtain⟨i,hi⟩:=Option.isSome_iff_exists.1 this
  simp only[Sem.run_bind,QZ hi,Result.andThen_ok,Sem.run_pure,Jdz]
  simp only at hi
  rw[hi]
 have hplace:(fun i:Nat=>(((l.toList.map fun f=>(f.type,f.offset)).map fun f=>(f.2,Jdz P f.1)))[i]?)=fun i:Nat=>(l.map fun f=>(f.offset,Jdz P f.type))[i]? :=by
  funext i
  simp[Qk]
  rfl
 rw[hplace]at o1
 have hrun:(execOp a.eval o).run P w= .ok (.value (.agg out)) w:=by
  simp only[execOp,ho,Instr.build,Sem.run_bind,hz1,run_underlying h2,Result.andThen_ok,hmap]
  rw[hparts,o1]
  rfl
 refine ZW hrun (hn (.agg cs) _ X st.h w ?_ R.heap (Ev.refl _ _ _) hK)
 exact .agg _ _ o2 fun j hj=>o3 j hj
theorem JU.buildA{P:Program}{o:Oper}{st:St}{K:AV→Jn→Prop}{t e:TypeId}{ti ei:TI}{n:Nat}{parts:Array (Nat×Operand)}{rs:List (Nat×List CV)}{cs:List CV}
 (ho:o.op= .build t parts) (ht:JP P t=some ti) (hk:ti.k= .array n e) (he:JP P e=some ei) (hp:Vc st.s parts.toList=some rs)
 (hf:WF (fun i=>some (i*ei.size,ei.size)) ti.zero rs=some cs) (hK:K (.agg cs) st.h):JU P o st K:=by
 intro w X a R next Q hn
 obtain⟨inf,d,z',h1,h2,h3,h4,h5,h6,h7⟩:=Qd ht
 rw[h5]at hk
 obtain rfl:=Ga hk
 obtain⟨z,hz1,hz2,hz3⟩:=V9 ht
 obtain⟨out,o1,o2,o3⟩:=Yp R parts.toList ti.zero z.cells rs cs hp hf hz2 (hz3 w X st.h)
 have hparts:(parts.map fun p=>(p.1,a.eval p.2)).toList=parts.toList.map fun p=>(p.1,a.eval p.2):=by simp
 have hrun:(execOp a.eval o).run P w= .ok (.value (.agg out)) w:=by
  simp only[execOp,ho,Instr.build,Sem.run_bind,hz1,run_underlying h2,Result.andThen_ok,QZ he]
  rw[hparts,o1]
  rfl
 refine ZW hrun (hn (.agg cs) _ X st.h w ?_ R.heap (Ev.refl _ _ _) hK)
 exact .agg _ _ o2 fun j hj=>o3 j hj
def Ja0(P:Program)(H:Jn)(t:TypeId)(p x:AV)(K:KV):Prop:=
 match p,WP x,JP P t with
 | .c (.ptr id g off),some cs,some ti=>match look H id g with
   |some b=>KB (cs.length=ti.size∧off+cs.length≤b.cs.length)<|K .void (H.set id (some ⟨b.g,b.sz,J6 b.cs off cs⟩))
   |none=>False
 |_,_,_=>False
def BK(H:Jn)(n:Option Nat)(sz:Nat)(cs:List CV)(K:KV):Prop:=
 ∀g,K (match n with|some n=> .c (.own H.length g 0 n none)|none=> .c (.ptr H.length g 0)) (H++[some ⟨g,sz,cs⟩])
def JbO(P:Program)(H:Jn)(t:TypeId)(K:KV):Prop:=
 match JP P t with
 |some ti=>BK H none ti.size ti.zero K
 |none=>False
def JiT(H:Jn)(x:AV)(K:KV):Prop:=
 match WP x with
 |some cs=>BK H none 1 cs K
 |none=>False
def QT(P:Program)(t:TypeId):Option TI:=
 match JP P t with
 |some ti=>match ti.k with
  | .slice e=>JP P e
  |_=>none
 |none=>none
theorem Um{P:Program}{t:TypeId}{ei:TI}(h:QT P t=some ei):∃ti e,JP P t=some ti∧ti.k= .slice e∧JP P e=some ei:=by
 unfold QT at h
 split at h
 · rename_i ti ht
   split at h
   · rename_i e hk;exact⟨ti,e,ht,hk,h⟩
   · cases h
 · cases h
def RJ(sz:Nat):Nat→List (Nat×List CV)→Bool
 |_,[]=>true
 |i,(j,cs)::r=>decide (j=i)&&(decide (cs.length=sz)&&RJ sz (i+1) r)
def KD:List (Nat×List CV)→List CV
 |[]=>[]
 |(_,cs)::r=>cs++KD r
theorem Fy{sz:Nat}:∀(rs:List (Nat×List CV)) (i:Nat),RJ sz i rs=true→(KD rs).length=rs.length*sz
 |[],_,_=>by simp[KD]
 |(j,cs)::r,i,h=>by
  simp only[RJ,Bool.and_eq_true,decide_eq_true_eq]at h
  have:=Fy r (i+1) h.2.2
  simp only[KD,Jq,Ja,Nat.add_mul]
  omega
theorem Jc2{sz:Nat}:∀(rs:List (Nat×List CV)) (i:Nat) (l:List CV),RJ sz i rs=true→l.length=(i+rs.length)*sz→
 WF (fun i=>some (i*sz,sz)) l rs=some (l.take (i*sz)++KD rs)
 |[],i,l,_,hl=>by
  simp only[WF,KD,Jt,Option.some.injEq]
  rw[Js (by simp at hl;omega)]
 |(j,cs)::r,i,l,h,hl=>by
  simp only[RJ,Bool.and_eq_true,decide_eq_true_eq]at h
  obtain⟨rfl,h2,h3⟩:=h
  have e1:(j+(r.length+1))*sz=j*sz+sz+r.length*sz:=by rw[Nat.add_mul,Nat.add_mul];omega
  have e2:(j+1)*sz=j*sz+sz:=by rw[Nat.add_mul];omega
  simp only[Ja]at hl
  simp only[WF,h2]
  rw[if_pos ⟨trivial,by omega⟩,Jc2 r (j+1) _ h3 ?_]
  · have:(J6 l (j*sz) cs).take ((j+1)*sz)=l.take (j*sz)++cs:=by
     have hA:(l.take (j*sz)++cs).length=(j+1)*sz:=by
      rw[Jq,JX,Nat.min_eq_left (by omega),h2,e2]
     simp only[J6]
     rw[List.take_append_of_le_length (by omega),Js (by omega)]
    rw[this]
    simp[KD]
  · have e3:(j+1+r.length)*sz=j*sz+sz+r.length*sz:=by rw[Nat.add_mul,Nat.add_mul];omega
    simp only[J6,Jq,JX,Uc,h2]
    rw[e1]at hl
    rw[Nat.min_eq_left (by omega),e3]
    omega
theorem NE(n:Nat)(z:List CV):(QL n z).length=n:=by simp[QL]
theorem Jc3{sz n:Nat}{z:List CV}{rs:List (Nat×List CV)}(h:RJ sz 0 rs=true∧rs.length=n):WF (fun i=>some (i*sz,sz)) (QL (n*sz) z) rs=some (KD rs):=by
 rw[Jc2 rs 0 _ h.1 (by rw[NE,h.2,Nat.zero_add])]
 simp
def Nq(P:Program)(s:List AV)(H:Jn)(t:TypeId)(n:Nat)(ps:List (Nat×Operand))(K:KV):Prop:=
 match QT P t,Vc s ps with
 |some ei,some rs=>if RJ ei.size 0 rs=true∧rs.length=n then KB (ei.zero.length=ei.size∧n*ei.size≤16777216)<|BK H (some n) ei.size (KD rs) K
  else match WF (fun i=>some (i*ei.size,ei.size)) (QL (n*ei.size) ei.zero) rs with
  |some cs=>KB (ei.zero.length=ei.size∧n*ei.size≤16777216)<|BK H (some n) ei.size cs K
  |none=>False
 |_,_=>False
def cnt(l:Int):Nat:=l.toNat
theorem JkG(n:Nat):cnt (n:Int)=n:=rfl
theorem JiL:cnt 0=0:=rfl
def Je6(P:Program)(H:Jn)(t:TypeId)(l c:AV)(K:KV):Prop:=
 match QT P t,l,c with
 |some ei, .c (.f (.int _ l)), .c (.f (.int _ c))=>KB (ei.zero.length=ei.size∧(0≤l∧l≤c)∧c≤9223372036854775807∧ei.bytes*c≤281474976710656)<|
  BK H (some (cnt l)) ei.size (QL (cnt l*ei.size) ei.zero) K
 |_,_,_=>False
def YM(H:Jn)(ei:TI)(v:AV)(m:Nat)(k:List CV)(K:KV):Prop:=
 if m=0 then K v H else
 match v with
 | .c (.f .nil)=>KB (m≤9223372036854775807∧m*ei.bytes≤140737488355328)<|BK H (some m) ei.size k K
 | .c .emp=>KB (m≤9223372036854775807∧m*ei.bytes≤140737488355328)<|BK H (some m) ei.size k K
 | .c (.own id g off n lim)=>match look H id g with
   |some b=>
    match lim with
    |none=>if b.cs.length=n*ei.size then
      KB (b.sz=ei.size∧0<ei.size∧off=0∧n+m≤9223372036854775807∧(n+m)*ei.bytes≤140737488355328)<|∀g',K (.c (.own id g' 0 (n+m) none)) (H.set id (some ⟨g',ei.size,b.cs++k⟩))
     else KB (b.sz=ei.size∧0<ei.size∧off+(n+m)*ei.size≤b.cs.length)<|K (.c (.own id g off (n+m) none)) (H.set id (some ⟨b.g,b.sz,J6 b.cs (off+n*ei.size) k⟩))
    |some c=>if c<n+m then
      KB (b.sz=ei.size∧n+m≤9223372036854775807∧(n+m)*ei.bytes≤140737488355328)<|BK H (some (n+m)) ei.size ((b.cs.drop off).take (n*ei.size)++k) K
     else KB (b.sz=ei.size∧0<ei.size∧off+(n+m)*ei.size≤b.cs.length)<|K (.c (.own id g off (n+m) (some c))) (H.set id (some ⟨b.g,b.sz,J6 b.cs (off+n*ei.size) k⟩))
   |none=>False
 |_=>False
def Qf(P:Program)(H:Jn)(t:TypeId)(v x:AV)(K:KV):Prop:=
 match QT P t with
 |some ei=>if ei.zero.length=ei.size then(match elems H ei.size v,elems H ei.size x with
  |some _,some (m,k)=>YM H ei v m k K
  |_,_=>False)else False
 |none=>False
def Jji(P:Program)(s:List AV)(H:Jn)(t:TypeId)(ps:List (Nat×Operand))(K:KV):Prop:=
 match JP P t with
 |some ti=>match ti.k with
  | .struct fs=>match Vc s ps with
    |some rs=>match WF (fun i=>(fs.map fun f=>(f.2,Jdz P f.1))[i]?) ti.zero rs with
     |some cs=>KB (∀f∈fs,(JP P f.1).isSome=true)<|K (.agg cs) H
     |none=>False
    |none=>False
  | .array _ e=>match JP P e,Vc s ps with
    |some ei,some rs=>match WF (fun i=>some (i*ei.size,ei.size)) ti.zero rs with
     |some cs=>K (.agg cs) H
     |none=>False
    |_,_=>False
  |_=>False
 |none=>False
def opM(P:Program)(o:Oper)(s:List AV)(H:Jn)(K:KV):Prop:=
 match o.op with
 | .build t ps=>Jji P s H t ps.toList K
 | .store t p x=>Ja0 P H t (QO s p) (QO s x) K
 | .alloc t=>JbO P H t K
 | .box _ x=>JiT H (QO s x) K
 | .buildSlice t n ps=>Nq P s H t n ps.toList K
 | .makeSlice t l c=>Je6 P H t (QO s l) (QO s c) K
 | .call ⟨.builtin .append,⟨[v,x]⟩,⟨[t,u]⟩⟩=>if t=u then Qf P H t (QO s v) (QO s x) K else False
 |_=>JU P o ⟨s,H⟩ K
theorem JgF{H:Jn}{sz:Nat}{l:List CV}{n:Nat}(h:elems H sz (.c (.f .nil))=some (n,l)):n=0∧l=[]:=by cases h;exact⟨rfl,rfl⟩
theorem JgG{H:Jn}{sz:Nat}{l:List CV}{n:Nat}(h:elems H sz (.c .emp)=some (n,l)):n=0∧l=[]:=by cases h;exact⟨rfl,rfl⟩
theorem Jef{H:Jn}{sz:Nat}{v:AV}{k:List CV}(h:elems H sz v=some (0,k)):k=[]:=by
 unfold elems at h
 split at h
 · cases h;rfl
 · cases h;rfl
 · rename_i n cs
   split at h
   · rename_i hl
     cases h
     have:cs=[]:=List.eq_nil_of_length_eq_zero (by omega)
     simp[this]
   · cases h
 · rename_i id g off n' lim
   split at h
   · split at h
     · cases h;simp
     · cases h
   · cases h
 · cases h
theorem Jaw{P:Program}{o:Oper}{s:List AV}{H:Jn}{K:KV}(h:opM P o s H K):JU P o ⟨s,H⟩ K:=by
 unfold opM at h
 split at h
 · rename_i t ps ho
   unfold Jji at h
   split at h
   · rename_i ti ht
     split at h
     · rename_i fs hk
       split at h
       · rename_i rs hp
         split at h
         · rename_i cs hf
           exact JU.build ho ht hk h.1 hp hf h.2
         · exact h.elim
       · exact h.elim
     · rename_i n e hk
       split at h
       · rename_i ei rs he hp
         split at h
         · rename_i cs hf
           exact JU.buildA ho ht hk he hp hf h
         · exact h.elim
       · exact h.elim
     · exact h.elim
   · exact h.elim
 · rename_i t p x ho
   unfold Ja0 at h
   split at h
   · rename_i id g off cs ti hp hx ht
     split at h
     · rename_i b hl
       exact JU.store ho ht hp hl hx h.1.1 h.1.2 h.2
     · exact h.elim
   · exact h.elim
 · rename_i t ho
   unfold JbO at h
   split at h
   · rename_i ti ht;exact JU.alloc ho ht h
   · exact h.elim
 · rename_i t x ho
   unfold JiT at h
   split at h
   · rename_i cs hx;exact JU.box ho hx h
   · exact h.elim
 · rename_i t n ps ho
   unfold Nq at h
   split at h
   · rename_i ei rs h1 h2
     obtain⟨ti,e,k1,k2,k3⟩:=Um h1
     split at h
     · rename_i hq
       exact JU.buildSlice ho k1 k2 k3 h.1.1 h2 (Jc3 hq) h.1.2 h.2
     · split at h
       · rename_i cs hf
         exact JU.buildSlice ho k1 k2 k3 h.1.1 h2 hf h.1.2 h.2
       · exact h.elim
   · exact h.elim
 · rename_i t l c ho
   unfold Je6 at h
   split at h
   · rename_i ei _ l' _ c' h1 h2 h3
     obtain⟨ti,e,k1,k2,k3⟩:=Um h1
     obtain⟨⟨q1,⟨q2,q3⟩,q4,q5⟩,q6⟩:=h
     exact JU.makeSlice ho k1 k2 k3 q1 h2 h3 q2 q3 q4 q5 q6
   · exact h.elim
 · rename_i v x t u ho
   split at h
   · rename_i htu
     subst htu
     have ho:o.op= .call ⟨.builtin .append,#[v,x],#[t,t]⟩:=ho
     unfold Qf at h
     split at h
     · rename_i ei h1
       obtain⟨ti,e,k1,k2,k3⟩:=Um h1
       split at h
       · rename_i hz
         split at h
         · rename_i nl m k hev hex
           obtain⟨n0,l0⟩:=nl
           unfold YM at h
           split at h
           · rename_i hm
             subst hm
             have:=Jef hex
             subst this
             exact JU.append_zero ho k1 k2 k3 hev hex h
           · rename_i hm
             split at h
             · rename_i hv
               rw[hv]at hev
               obtain⟨rfl,rfl⟩:=JgF hev
               refine JU.append_new (n:=0) (l:=[]) ho k1 k2 k3 hz (by rw[hv];exact hev) hex (by rw[hv];rfl) (by omega) (by have:=h.1.1;omega) (by simpa using h.1.2) fun g=> ?_
               rw[Nat.zero_add];exact h.2 g
             · rename_i hv
               rw[hv]at hev
               obtain⟨rfl,rfl⟩:=JgG hev
               refine JU.append_new (n:=0) (l:=[]) ho k1 k2 k3 hz (by rw[hv];exact hev) hex (by rw[hv];rfl) (by omega) (by have:=h.1.1;omega) (by simpa using h.1.2) fun g=> ?_
               rw[Nat.zero_add];exact h.2 g
             · rename_i id g off n lim hv
               split at h
               · rename_i b hl
                 split at h
                 · split at h
                   · rename_i hbl
                     obtain⟨⟨hsz,hpos,rfl,h63,h47⟩,hK⟩:=h
                     exact JU.append_own ho k1 k2 k3 hz hv hl hsz hbl hex (by omega) h63 h47 hK
                   · obtain⟨⟨hsz,hpos,hle⟩,hK⟩:=h
                     exact JU.append_in ho k1 k2 k3 hpos hv hl hsz hle (by simp) hex (by omega) hK
                 · rename_i c
                   split at h
                   · rename_i hlim
                     obtain⟨⟨hsz,h63,h47⟩,hK⟩:=h
                     rw[hv]at hev
                     have hev':=hev
                     simp only[elems,hl,hsz,if_true]at hev
                     cases hev
                     refine JU.append_new ho k1 k2 k3 hz (by rw[hv];exact hev') hex ?_ (by omega) h63 h47 hK
                     rw[hv]
                     simpa[GF]using hlim
                   · rename_i hlim
                     obtain⟨⟨hsz,hpos,hle⟩,hK⟩:=h
                     exact JU.append_in ho k1 k2 k3 hpos hv hl hsz hle (by simp;omega) hex (by omega) hK
               · exact h.elim
             · exact h.elim
         · exact h.elim
       · exact h.elim
     · exact h.elim
   · exact h.elim
 · exact h
def opW(P:Program)(o:Oper)(s:List AV)(H:Jn)(K:KV):Prop:=
 if Ve o.op=true then QG (XF P s H o.op) (atH K H)else opM P o s H K
theorem Jav{P:Program}{o:Oper}{s:List AV}{H:Jn}{K:KV}(h:opW P o s H K):JU P o ⟨s,H⟩ K:=by
 unfold opW at h
 split at h
 · obtain⟨v,h1,h2⟩:=h
   exact JU.val h1 h2
 · exact Jaw h
def UJ(g:Option Bool)(want:Bool)(A B:Prop):Prop:=(g=some want→A)∧(g≠some want→B)
abbrev KS:=List AV→Jn→Prop
mutual
def vw(P:Program)(ops:Array Oper):List Oper→List AV→Jn→KS→Prop
 |[],s,H,K=>K s H
 |o::r,s,H,K=>match o.guard with
  |none=>opW P o s H (fun v H'=>vw P ops r (QK s o.dst v) H' K)
  |some (j,want)=>QG (Z8 ops s j) fun g=>UJ g want (opW P o s H (fun v H'=>vw P ops r (QK s o.dst v) H' K)) (vw P ops r (QK s o.dst .void) H K)
end
def vwK(P:Program)(ops:Array Oper)(r:List Oper)(s:List AV)(d:Option Tmp)(K:KS):KV:=fun v H'=>vw P ops r (QK s d v) H' K
def UK(P:Program)(ops:Array Oper)(o:Oper)(r:List Oper)(s:List AV)(H:Jn)(K:KS)(want:Bool):Option Bool→Prop:=
 fun g=>UJ g want (opW P o s H (vwK P ops r s o.dst K)) (vw P ops r (QK s o.dst .void) H K)
theorem YO{P:Program}{ops:Array Oper}:∀(l:List Oper) (s:List AV) (H:Jn) (K:KS),vw P ops l s H K→Nz P ops l ⟨s,H⟩ fun st=>K st.s st.h
 |[],s,H,K,h=>h
 |o::r,s,H,K,h=>by
  unfold vw at h
  unfold Nz
  split at h
  · rename_i hg
    rw[hg]
    exact(Jav h).mono fun v H' hv=>YO r _ _ K hv
  · rename_i j want hg
    obtain⟨g,h1,h2,h3⟩:=h
    rw[hg]
    exact⟨g,h1,fun he=>(Jav (h2 he)).mono fun v H' hv=>YO r _ _ K hv,fun he=>YO r _ _ K (h3 he)⟩
def Uy(P:Program)(s:List AV)(t:TypeId)(n:Nat)(ps:List (Nat×Operand))(K:AV→Prop):Prop:=
 match QT P t,Vc s ps with
 |some ei,some rs=>match Xu (KD rs)with
  |some xs=>KB (ei.zero.length=ei.size∧n*ei.size≤16777216)<|if RJ ei.size 0 rs=true∧rs.length=n then K (.c (.f (.sl n xs)))else False
  |none=>False
 |_,_=>False
theorem Jiw{a b:List CV}{xs:List FV}(h:Xu (a++b)=some xs):(∃ys,Xu a=some ys)∧∃zs,Xu b=some zs:=by
 induction a generalizing xs with
 |nil=>exact⟨⟨[],rfl⟩,xs,h⟩
 |cons c a ih=>
  cases c with
  |f x=>
   simp only[Jb,Xu,Option.map_eq_some_iff]at h
   obtain⟨ys,h1,_⟩:=h
   obtain⟨⟨y,hy⟩,hz⟩:=ih h1
   exact⟨⟨x::y,by simp[Xu,hy]⟩,hz⟩
  |_=>simp[Xu]at h
theorem JcS:∀{l:List CV} {xs:List FV},Xu l=some xs→l.all Xw=true
 |[],_,_=>rfl
 |c::l,xs,h=>by
  have:=BQ h
  rw[this]
  simp[Xw]
theorem RW{s:List AV}:∀(ps:List (Nat×Operand)) (rs:List (Nat×List CV)) (xs:List FV),Vc s ps=some rs→Xu (KD rs)=some xs→∀p∈ps,Q2 (QO s p.2)=true
 |[],_,_,_,_=>by simp
 |(i,x)::r,rs,xs,h,hx=>by
  simp only[Vc]at h
  split at h
  · rename_i cs r' h1 h2
    cases h
    simp only[KD]at hx
    obtain⟨⟨ys,hy⟩,zs,hz⟩:=Jiw hx
    intro p hp
    rcases Qn.1 hp with rfl|hp
    · have:=JcS hy
      simp only
      cases hv:QO s x with
      |c c=>
       rw[hv]at h1
       simp only[WP,Option.some.injEq]at h1
       subst h1
       simpa[Q2]using this
      |agg cs'=>
       rw[hv]at h1
       simp only[WP,Option.some.injEq]at h1
       subst h1
       exact this
      |_=>rw[hv]at h1;cases h1
    · exact RW r r' zs h2 hz p hp
  · cases h
theorem JcZ{H:Jn}{n:Nat}(l:List FV):(l.map CV.f).mapM (frz H n)=some l:=by
 induction l with
 |nil=>rfl
 |cons x l ih=>
  rw[Qh,J3,ih]
  cases n<;>rfl
theorem Yv{P:Program}{ops:Array Oper}{o:Oper}{s:List AV}{H:Jn}{K:AV→Prop}{t:TypeId}{n:Nat}{ps:Array (Nat×Operand)}(ho:o.op= .buildSlice t n ps)(h:Uy P s t n ps.toList K):∃v,Vm P ops o s H v∧K v:=by
 unfold Uy at h
 split at h
 · rename_i ei rs h1 h2
   obtain⟨ti,e,k1,k2,k3⟩:=Um h1
   split at h
   · rename_i xs h3
     obtain⟨⟨hz,h24⟩,hif⟩:=h
     split at hif
     · rename_i hq
       refine⟨_,Vm.ops (fun x hx=> ?_) rfl (fun s' hs'=> ?_),hif⟩
       · rw[ho]at hx
         simp only[Op.operands,List.mem_toArray,Qg]at hx
         obtain⟨p,hp,rfl⟩:=hx
         exact RW _ _ _ h2 h3 p hp
       · have e2:Vc s' ps.toList=some rs:=by
          rw[WI _ fun p hp=>hs' p.2 (by rw[ho];simp only[Op.operands,List.mem_toArray,Qg];exact⟨p,hp,rfl⟩)]
          exact h2
         refine JU.buildSlice ho k1 k2 k3 hz e2 (Jc3 hq) h24 fun g=> ?_
         have hl:(KD rs).length=n*ei.size:=by rw[Fy rs 0 hq.1,hq.2]
         simp only[Vu,XA,frzC,frz,Je,Jd]
         have:look [some ⟨g,ei.size,KD rs⟩] 0 g=some ⟨g,ei.size,KD rs⟩:=by simp[look]
         rw[this]
         simp only[J1]
         rw[Js (by omega),BQ h3,JcZ]
         rfl
     · exact hif.elim
   · exact h.elim
 · exact h.elim
def QM(P:Program)(ops:Array Oper)(o:Oper)(s:List AV)(H:Jn)(K:AV→Prop):Prop:=
 if Ve o.op=true then QG (XF P s H o.op) K else match o.op with
  | .buildSlice t n ps=>Uy P s t n ps.toList K
  |_=>∃v,Vm P ops o s H v∧K v
theorem RV{P:Program}{ops:Array Oper}{o:Oper}{s:List AV}{H:Jn}{K:AV→Prop}(h:QM P ops o s H K):∃v,Vm P ops o s H v∧K v:=by
 unfold QM at h
 split at h
 · obtain⟨v,h1,h2⟩:=h
   exact⟨v,Vm.val h1,h2⟩
 · split at h
   · rename_i ho;exact Yv ho h
   · exact h
def qw(P:Program)(ops:Array Oper):List Oper→List AV→Jn→KS→Prop
 |[],s,H,K=>K s H
 |o::r,s,H,K=>match o.guard with
  |none=>QM P ops o s H fun v=>qw P ops r (QK s o.dst v) H K
  |some (j,want)=>QG (Z8 ops s j) fun g=>UJ g want (QM P ops o s H fun v=>qw P ops r (QK s o.dst v) H K) (qw P ops r (QK s o.dst .void) H K)
def qwK(P:Program)(ops:Array Oper)(r:List Oper)(s:List AV)(d:Option Tmp)(H:Jn)(K:KS):AV→Prop:=fun v=>qw P ops r (QK s d v) H K
def UI(P:Program)(ops:Array Oper)(o:Oper)(r:List Oper)(s:List AV)(H:Jn)(K:KS)(want:Bool):Option Bool→Prop:=
 fun g=>UJ g want (QM P ops o s H (qwK P ops r s o.dst H K)) (qw P ops r (QK s o.dst .void) H K)
theorem RU{P:Program}{ops:Array Oper}:∀(l:List Oper) (s:List AV) (H:Jn) (K:KS),qw P ops l s H K→JbQ P ops l s H fun s'=>K s' H
 |[],s,H,K,h=>h
 |o::r,s,H,K,h=>by
  unfold qw at h
  unfold JbQ
  split at h
  · rename_i hg
    rw[hg]
    obtain⟨v,h1,h2⟩:=RV h
    exact⟨v,h1,RU r _ _ K h2⟩
  · rename_i j want hg
    obtain⟨g,h1,h2,h3⟩:=h
    rw[hg]
    exact⟨g,h1,fun he=>let⟨v,k1,k2⟩:=RV (h2 he);⟨v,k1,RU r _ _ K k2⟩,fun he=>RU r _ _ K (h3 he)⟩
end Go.Lg
