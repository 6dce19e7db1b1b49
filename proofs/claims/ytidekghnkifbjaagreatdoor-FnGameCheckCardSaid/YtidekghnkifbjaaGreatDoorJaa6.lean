/- LgN, cut to what is needed. -/
import Derived.Test.YtidekghnkifbjaaGreatDoorJaa5
open List renaming cons_append → Ja, nil_append → Jc, length_cons → Je, length_nil → Jf, length_append → Jk, take_of_length_le → Js, append_nil → Ju, length_take → JL, drop_zero → JQ, mapM_cons → J3, mem_map → Qh, map_cons → Qq, getElem?_map → Qu, mem_cons → Qx, length_drop → Uk
open Nat renaming reduceAdd→zA,reduceMul→zM,reduceSub→zS,reduceEqDiff→zE,reduceLeDiff→zL
set_option linter.unusedSimpArgs false
set_option linter.unusedVariables false
namespace Go.Lg
def Vf:Op→Bool
 | .move _| .assign _| .pick .. | .nilCheck _| .binOp .. | .unOp .. | .convert .. | .fieldAddr .. | .field .. | .indexAddr .. | .index .. | .extract .. | .load .. | .slice .. | .makeFunc .. =>true
 | .call ⟨.builtin .len,_,_⟩| .call ⟨.builtin .min,_,_⟩| .call ⟨.builtin .max,_,_⟩=>true
 |_=>false
def YD(A B:Prop):Prop:=A∧B
theorem Jh2{B:Prop}:YD True B=B:=by simp[YD]
theorem Jly{A B:Prop}(h:A):YD A B=B:=by simp[YD,h]
def QJ{α:Type}(o:Option α)(F:α→Prop):Prop:=∃v,o=some v∧F v
theorem Jev{α:Type}(x:α)(F:α→Prop):QJ (some x) F=F x:=by simp[QJ]
theorem Jg0{α:Type}{c:Prop}[Decidable c]{x:Option α}(F:α→Prop):QJ (if c then x else none) F=YD c (QJ x F):=by
 by_cases h:c<;>simp[QJ,YD,h]
def JiN{α β:Type}(f:α→β)(F:β→Prop):α→Prop:=fun a=>F (f a)
theorem B7{α β:Type}{f:α→β}{x:Option α}(F:β→Prop):QJ (x.map f) F=QJ x (JiN f F):=by
 cases x<;>simp[QJ,JiN]
theorem JiM{α β:Type}(f:α→β)(F:β→Prop)(a:α):JiN f F a=F (f a):=propext Iff.rfl
def atH(F:KV)(H:Jm):AV→Prop:=fun v=>F v H
theorem Jl7(F:KV)(H:Jm)(v:AV):atH F H v=F v H:=propext Iff.rfl
theorem Jam{α β:Type}{P:Program}{w:World}{f:α→Sem β}{g:α→β}:∀(l:List α),(∀x∈l,(f x).run P w= .ok (g x) w)→(l.mapM f).run P w= .ok (l.map g) w
 |[],_=>by simp
 |x::l,h=>by
  rw[J3]
  simp only[Sem.run_bind,h x (by simp),Result.andThen_ok,Jam l fun y hy=>h y (by simp[hy]),Sem.run_pure,Qq]
theorem JhD{α β:Type}{P:Program}{w:World}{f:α→Sem β}{g:α→β}(as:Array α)(hf:∀x∈as,(f x).run P w= .ok (g x) w):(as.mapM f).run P w= .ok (as.map g) w:=by
 rw[Array.mapM_eq_mapM_toList,Sem.run_map,Jam as.toList fun x hx=>hf x (by simpa using hx),Result.andThen_ok]
 congr 1
 apply Array.ext'
 simp
theorem JfC{d:TypeDesc}{fs:List (TypeId×Nat)}(h:KQ d= .struct fs):∃l:Array Field,d= .struct l∧fs=l.toList.map fun f=>(f.type,f.offset):=by
 cases d<;>simp[KQ]at h
 exact⟨_,rfl,h.symm⟩
def JdD(P:Program)(t:TypeId):Nat:=match JS P t with|some i=>i.size|none=>0
theorem JY.build{P:Program}{o:Oper}{st:St}{K:AV→Jm→Prop}{t:TypeId}{ti:TI}{fs:List (TypeId×Nat)}{parts:Array (Nat×Operand)}{rs:List (Nat×List CV)}{cs:List CV}
 (ho:o.op= .build t parts) (ht:JS P t=some ti) (hk:ti.k= .struct fs) (hfs:∀f∈fs,(JS P f.1).isSome=true) (hp:Vd st.s parts.toList=some rs)
 (hf:WM (fun i=>(fs.map fun f=>(f.2,JdD P f.1))[i]?) ti.zero rs=some cs) (hK:K (.agg cs) st.h):JY P o st K:=by
 intro w X a R next Q hn
 obtain⟨inf,d,z',h1,h2,h3,h4,h5,h6,h7⟩:=Qg ht
 rw[h5]at hk
 obtain⟨l,rfl,rfl⟩:=JfC hk
 obtain⟨z,hz1,hz2,hz3⟩:=Wc ht
 obtain⟨out,o1,o2,o3⟩:=Yp R parts.toList ti.zero z.cells rs cs hp hf hz2 (hz3 w X st.h)
 have hparts:(parts.map fun p=>(p.1,a.eval p.2)).toList=parts.toList.map fun p=>(p.1,a.eval p.2):=by simp
 have hmap:(l.mapM (m:=Sem) fun f=>do pure (f.offset,←sizeOf f.type)).run P w= .ok (l.map fun f=>(f.offset,JdD P f.type)) w:=by
  refine JhD l fun f hf'=> ?_
  have:=hfs (f.type,f.offset) (Qh.2 ⟨f,by simpa using hf',rfl⟩)
  obtain⟨i,hi⟩:=Option.isSome_iff_exists.1 this
  simp only[Sem.run_bind,Q7 hi,Result.andThen_ok,Sem.run_pure,JdD]
  simp only at hi
  rw[hi]
 have hplace:(fun i:Nat=>(((l.toList.map fun f=>(f.type,f.offset)).map fun f=>(f.2,JdD P f.1)))[i]?)=fun i:Nat=>(l.map fun f=>(f.offset,JdD P f.type))[i]? :=by
  funext i
  simp[Qu]
  rfl
 rw[hplace]at o1
 have hrun:(execOp a.eval o).run P w= .ok (.value (.agg out)) w:=by
  simp only[execOp,ho,Instr.build,Sem.run_bind,hz1,run_underlying h2,Result.andThen_ok,hmap]
  rw[hparts,o1]
  rfl
 refine Z0 hrun (hn (.agg cs) _ X st.h w ?_ R.heap (Ev.refl _ _ _) hK)
 exact .agg _ _ o2 fun j hj=>o3 j hj
theorem JY.buildA{P:Program}{o:Oper}{st:St}{K:AV→Jm→Prop}{t e:TypeId}{ti ei:TI}{n:Nat}{parts:Array (Nat×Operand)}{rs:List (Nat×List CV)}{cs:List CV}
 (ho:o.op= .build t parts) (ht:JS P t=some ti) (hk:ti.k= .array n e) (he:JS P e=some ei) (hp:Vd st.s parts.toList=some rs)
 (hf:WM (fun i=>some (i*ei.size,ei.size)) ti.zero rs=some cs) (hK:K (.agg cs) st.h):JY P o st K:=by
 intro w X a R next Q hn
 obtain⟨inf,d,z',h1,h2,h3,h4,h5,h6,h7⟩:=Qg ht
 rw[h5]at hk
 obtain rfl:=Gf hk
 obtain⟨z,hz1,hz2,hz3⟩:=Wc ht
 obtain⟨out,o1,o2,o3⟩:=Yp R parts.toList ti.zero z.cells rs cs hp hf hz2 (hz3 w X st.h)
 have hparts:(parts.map fun p=>(p.1,a.eval p.2)).toList=parts.toList.map fun p=>(p.1,a.eval p.2):=by simp
 have hrun:(execOp a.eval o).run P w= .ok (.value (.agg out)) w:=by
  simp only[execOp,ho,Instr.build,Sem.run_bind,hz1,run_underlying h2,Result.andThen_ok,Q7 he]
  rw[hparts,o1]
  rfl
 refine Z0 hrun (hn (.agg cs) _ X st.h w ?_ R.heap (Ev.refl _ _ _) hK)
 exact .agg _ _ o2 fun j hj=>o3 j hj
def JaV(P:Program)(H:Jm)(t:TypeId)(p x:AV)(K:KV):Prop:=
 match p,WU x,JS P t with
 | .c (.ptr id g off),some cs,some ti=>match look H id g with
   |some b=>YD (cs.length=ti.size∧off+cs.length≤b.cs.length)<|K .void (H.set id (some ⟨b.g,b.sz,Qj b.cs off cs⟩))
   |none=>False
 |_,_,_=>False
def KR(H:Jm)(n:Option Nat)(sz:Nat)(cs:List CV)(K:KV):Prop:=
 ∀g,K (match n with|some n=> .c (.own H.length g 0 n none)|none=> .c (.ptr H.length g 0)) (H++[some ⟨g,sz,cs⟩])
def JbI(P:Program)(H:Jm)(t:TypeId)(K:KV):Prop:=
 match JS P t with
 |some ti=>KR H none ti.size ti.zero K
 |none=>False
def JiX(H:Jm)(x:AV)(K:KV):Prop:=
 match WU x with
 |some cs=>KR H none 1 cs K
 |none=>False
def QR(P:Program)(t:TypeId):Option TI:=
 match JS P t with
 |some ti=>match ti.k with
  | .slice e=>JS P e
  |_=>none
 |none=>none
theorem Uw{P:Program}{t:TypeId}{ei:TI}(h:QR P t=some ei):∃ti e,JS P t=some ti∧ti.k= .slice e∧JS P e=some ei:=by
 unfold QR at h
 split at h
 · rename_i ti ht
   split at h
   · rename_i e hk;exact⟨ti,e,ht,hk,h⟩
   · cases h
 · cases h
def RP(sz:Nat):Nat→List (Nat×List CV)→Bool
 |_,[]=>true
 |i,(j,cs)::r=>decide (j=i)&&(decide (cs.length=sz)&&RP sz (i+1) r)
def KU:List (Nat×List CV)→List CV
 |[]=>[]
 |(_,cs)::r=>cs++KU r
theorem FG{sz:Nat}:∀(rs:List (Nat×List CV)) (i:Nat),RP sz i rs=true→(KU rs).length=rs.length*sz
 |[],_,_=>by simp[KU]
 |(j,cs)::r,i,h=>by
  simp only[RP,Bool.and_eq_true,decide_eq_true_eq]at h
  have:=FG r (i+1) h.2.2
  simp only[KU,Jk,Je,Nat.add_mul]
  omega
theorem Jc4{sz:Nat}:∀(rs:List (Nat×List CV)) (i:Nat) (l:List CV),RP sz i rs=true→l.length=(i+rs.length)*sz→
 WM (fun i=>some (i*sz,sz)) l rs=some (l.take (i*sz)++KU rs)
 |[],i,l,_,hl=>by
  simp only[WM,KU,Ju,Option.some.injEq]
  rw[Js (by simp at hl;omega)]
 |(j,cs)::r,i,l,h,hl=>by
  simp only[RP,Bool.and_eq_true,decide_eq_true_eq]at h
  obtain⟨rfl,h2,h3⟩:=h
  have e1:(j+(r.length+1))*sz=j*sz+sz+r.length*sz:=by rw[Nat.add_mul,Nat.add_mul];omega
  have e2:(j+1)*sz=j*sz+sz:=by rw[Nat.add_mul];omega
  simp only[Je]at hl
  simp only[WM,h2]
  rw[if_pos ⟨trivial,by omega⟩,Jc4 r (j+1) _ h3 ?_]
  · have:(Qj l (j*sz) cs).take ((j+1)*sz)=l.take (j*sz)++cs:=by
     have hA:(l.take (j*sz)++cs).length=(j+1)*sz:=by
      rw[Jk,JL,Nat.min_eq_left (by omega),h2,e2]
     simp only[Qj]
     rw[List.take_append_of_le_length (by omega),Js (by omega)]
    rw[this]
    simp[KU]
  · have e3:(j+1+r.length)*sz=j*sz+sz+r.length*sz:=by rw[Nat.add_mul,Nat.add_mul];omega
    simp only[Qj,Jk,JL,Uk,h2]
    rw[e1]at hl
    rw[Nat.min_eq_left (by omega),e3]
    omega
theorem NH(n:Nat)(z:List CV):(QS n z).length=n:=by simp[QS]
theorem Jc5{sz n:Nat}{z:List CV}{rs:List (Nat×List CV)}(h:RP sz 0 rs=true∧rs.length=n):WM (fun i=>some (i*sz,sz)) (QS (n*sz) z) rs=some (KU rs):=by
 rw[Jc4 rs 0 _ h.1 (by rw[NH,h.2,Nat.zero_add])]
 simp
def Nu(P:Program)(s:List AV)(H:Jm)(t:TypeId)(n:Nat)(ps:List (Nat×Operand))(K:KV):Prop:=
 match QR P t,Vd s ps with
 |some ei,some rs=>if RP ei.size 0 rs=true∧rs.length=n then YD (ei.zero.length=ei.size∧n*ei.size≤16777216)<|KR H (some n) ei.size (KU rs) K
  else match WM (fun i=>some (i*ei.size,ei.size)) (QS (n*ei.size) ei.zero) rs with
  |some cs=>YD (ei.zero.length=ei.size∧n*ei.size≤16777216)<|KR H (some n) ei.size cs K
  |none=>False
 |_,_=>False
def cnt(l:Int):Nat:=l.toNat
theorem JkE(n:Nat):cnt (n:Int)=n:=rfl
theorem JiO:cnt 0=0:=rfl
def Jfa(P:Program)(H:Jm)(t:TypeId)(l c:AV)(K:KV):Prop:=
 match QR P t,l,c with
 |some ei, .c (.f (.int _ l)), .c (.f (.int _ c))=>YD (ei.zero.length=ei.size∧(0≤l∧l≤c)∧c≤9223372036854775807∧ei.bytes*c≤281474976710656)<|
  KR H (some (cnt l)) ei.size (QS (cnt l*ei.size) ei.zero) K
 |_,_,_=>False
def WB(H:Jm)(ei:TI)(v:AV)(m:Nat)(k:List CV)(K:KV):Prop:=
 if m=0 then K v H else
 match v with
 | .c (.f .nil)=>YD (m≤9223372036854775807∧m*ei.bytes≤140737488355328)<|KR H (some m) ei.size k K
 | .c .emp=>YD (m≤9223372036854775807∧m*ei.bytes≤140737488355328)<|KR H (some m) ei.size k K
 | .c (.own id g off n lim)=>match look H id g with
   |some b=>
    match lim with
    |none=>if b.cs.length=n*ei.size then
      YD (b.sz=ei.size∧0<ei.size∧off=0∧n+m≤9223372036854775807∧(n+m)*ei.bytes≤140737488355328)<|∀g',K (.c (.own id g' 0 (n+m) none)) (H.set id (some ⟨g',ei.size,b.cs++k⟩))
     else YD (b.sz=ei.size∧0<ei.size∧off+(n+m)*ei.size≤b.cs.length)<|K (.c (.own id g off (n+m) none)) (H.set id (some ⟨b.g,b.sz,Qj b.cs (off+n*ei.size) k⟩))
    |some c=>if c<n+m then
      YD (b.sz=ei.size∧n+m≤9223372036854775807∧(n+m)*ei.bytes≤140737488355328)<|KR H (some (n+m)) ei.size ((b.cs.drop off).take (n*ei.size)++k) K
     else YD (b.sz=ei.size∧0<ei.size∧off+(n+m)*ei.size≤b.cs.length)<|K (.c (.own id g off (n+m) (some c))) (H.set id (some ⟨b.g,b.sz,Qj b.cs (off+n*ei.size) k⟩))
   |none=>False
 |_=>False
def J9(P:Program)(H:Jm)(t:TypeId)(v x:AV)(K:KV):Prop:=
 match QR P t with
 |some ei=>if ei.zero.length=ei.size then(match elems H ei.size v,elems H ei.size x with
  |some _,some (m,k)=>WB H ei v m k K
  |_,_=>False)else False
 |none=>False
def Jjn(P:Program)(s:List AV)(H:Jm)(t:TypeId)(ps:List (Nat×Operand))(K:KV):Prop:=
 match JS P t with
 |some ti=>match ti.k with
  | .struct fs=>match Vd s ps with
    |some rs=>match WM (fun i=>(fs.map fun f=>(f.2,JdD P f.1))[i]?) ti.zero rs with
     |some cs=>YD (∀f∈fs,(JS P f.1).isSome=true)<|K (.agg cs) H
     |none=>False
    |none=>False
  | .array _ e=>match JS P e,Vd s ps with
    |some ei,some rs=>match WM (fun i=>some (i*ei.size,ei.size)) ti.zero rs with
     |some cs=>K (.agg cs) H
     |none=>False
    |_,_=>False
  |_=>False
 |none=>False
def opM(P:Program)(o:Oper)(s:List AV)(H:Jm)(K:KV):Prop:=
 match o.op with
 | .build t ps=>Jjn P s H t ps.toList K
 | .store t p x=>JaV P H t (QU s p) (QU s x) K
 | .alloc t=>JbI P H t K
 | .box _ x=>JiX H (QU s x) K
 | .buildSlice t n ps=>Nu P s H t n ps.toList K
 | .makeSlice t l c=>Jfa P H t (QU s l) (QU s c) K
 | .call ⟨.builtin .append,⟨[v,x]⟩,⟨[t,u]⟩⟩=>if t=u then J9 P H t (QU s v) (QU s x) K else False
 |_=>JY P o ⟨s,H⟩ K
theorem JgL{H:Jm}{sz:Nat}{l:List CV}{n:Nat}(h:elems H sz (.c (.f .nil))=some (n,l)):n=0∧l=[]:=by cases h;exact⟨rfl,rfl⟩
theorem JgM{H:Jm}{sz:Nat}{l:List CV}{n:Nat}(h:elems H sz (.c .emp)=some (n,l)):n=0∧l=[]:=by cases h;exact⟨rfl,rfl⟩
theorem Jeh{H:Jm}{sz:Nat}{v:AV}{k:List CV}(h:elems H sz v=some (0,k)):k=[]:=by
 unfold elems at h
 split at h
 · cases h;rfl
 · cases h;rfl
 · rename_i n cs
   split at h
   · rename_i hl
     cases h
     have:cs=[]:=List.eq_nil_of_length_eq_zero (by omega)
     simp[this]
   · cases h
 · rename_i id g off n' lim
   split at h
   · split at h
     · cases h;simp
     · cases h
   · cases h
 · cases h
theorem Jav{P:Program}{o:Oper}{s:List AV}{H:Jm}{K:KV}(h:opM P o s H K):JY P o ⟨s,H⟩ K:=by
 unfold opM at h
 split at h
 · rename_i t ps ho
   unfold Jjn at h
   split at h
   · rename_i ti ht
     split at h
     · rename_i fs hk
       split at h
       · rename_i rs hp
         split at h
         · rename_i cs hf
           exact JY.build ho ht hk h.1 hp hf h.2
         · exact h.elim
       · exact h.elim
     · rename_i n e hk
       split at h
       · rename_i ei rs he hp
         split at h
         · rename_i cs hf
           exact JY.buildA ho ht hk he hp hf h
         · exact h.elim
       · exact h.elim
     · exact h.elim
   · exact h.elim
 · rename_i t p x ho
   unfold JaV at h
   split at h
   · rename_i id g off cs ti hp hx ht
     split at h
     · rename_i b hl
       exact JY.store ho ht hp hl hx h.1.1 h.1.2 h.2
     · exact h.elim
   · exact h.elim
 · rename_i t ho
   unfold JbI at h
   split at h
   · rename_i ti ht;exact JY.alloc ho ht h
   · exact h.elim
 · rename_i t x ho
   unfold JiX at h
   split at h
   · rename_i cs hx;exact JY.box ho hx h
   · exact h.elim
 · rename_i t n ps ho
   unfold Nu at h
   split at h
   · rename_i ei rs h1 h2
     obtain⟨ti,e,k1,k2,k3⟩:=Uw h1
     split at h
     · rename_i hq
       exact JY.buildSlice ho k1 k2 k3 h.1.1 h2 (Jc5 hq) h.1.2 h.2
     · split at h
       · rename_i cs hf
         exact JY.buildSlice ho k1 k2 k3 h.1.1 h2 hf h.1.2 h.2
       · exact h.elim
   · exact h.elim
 · rename_i t l c ho
   unfold Jfa at h
   split at h
   · rename_i ei _ l' _ c' h1 h2 h3
     obtain⟨ti,e,k1,k2,k3⟩:=Uw h1
     obtain⟨⟨q1,⟨q2,q3⟩,q4,q5⟩,q6⟩:=h
     exact JY.makeSlice ho k1 k2 k3 q1 h2 h3 q2 q3 q4 q5 q6
   · exact h.elim
 · rename_i v x t u ho
   split at h
   · rename_i htu
     subst htu
     have ho:o.op= .call ⟨.builtin .append,#[v,x],#[t,t]⟩:=ho
     unfold J9 at h
     split at h
     · rename_i ei h1
       obtain⟨ti,e,k1,k2,k3⟩:=Uw h1
       split at h
       · rename_i hz
         split at h
         · rename_i nl m k hev hex
           obtain⟨n0,l0⟩:=nl
           unfold WB at h
           split at h
           · rename_i hm
             subst hm
             have:=Jeh hex
             subst this
             exact JY.append_zero ho k1 k2 k3 hev hex h
           · rename_i hm
             split at h
             · rename_i hv
               rw[hv]at hev
               obtain⟨rfl,rfl⟩:=JgL hev
               refine JY.append_new (n:=0) (l:=[]) ho k1 k2 k3 hz (by rw[hv];exact hev) hex (by rw[hv];rfl) (by omega) (by have:=h.1.1;omega) (by simpa using h.1.2) fun g=> ?_
               rw[Nat.zero_add];exact h.2 g
             · rename_i hv
               rw[hv]at hev
               obtain⟨rfl,rfl⟩:=JgM hev
               refine JY.append_new (n:=0) (l:=[]) ho k1 k2 k3 hz (by rw[hv];exact hev) hex (by rw[hv];rfl) (by omega) (by have:=h.1.1;omega) (by simpa using h.1.2) fun g=> ?_
               rw[Nat.zero_add];exact h.2 g
             · rename_i id g off n lim hv
               split at h
               · rename_i b hl
                 split at h
                 · split at h
                   · rename_i hbl
                     obtain⟨⟨hsz,hpos,rfl,h63,h47⟩,hK⟩:=h
                     exact JY.append_own ho k1 k2 k3 hz hv hl hsz hbl hex (by omega) h63 h47 hK
                   · obtain⟨⟨hsz,hpos,hle⟩,hK⟩:=h
                     exact JY.append_in ho k1 k2 k3 hpos hv hl hsz hle (by simp) hex (by omega) hK
                 · rename_i c
                   split at h
                   · rename_i hlim
                     obtain⟨⟨hsz,h63,h47⟩,hK⟩:=h
                     rw[hv]at hev
                     have hev':=hev
                     simp only[elems,hl,hsz,if_true]at hev
                     cases hev
                     refine JY.append_new ho k1 k2 k3 hz (by rw[hv];exact hev') hex ?_ (by omega) h63 h47 hK
                     rw[hv]
                     simpa[GO]using hlim
                   · rename_i hlim
                     obtain⟨⟨hsz,hpos,hle⟩,hK⟩:=h
                     exact JY.append_in ho k1 k2 k3 hpos hv hl hsz hle (by simp;omega) hex (by omega) hK
               · exact h.elim
             · exact h.elim
         · exact h.elim
       · exact h.elim
     · exact h.elim
   · exact h.elim
 · exact h
def opW(P:Program)(o:Oper)(s:List AV)(H:Jm)(K:KV):Prop:=
 if Vf o.op=true then QJ (XG P s H o.op) (atH K H)else opM P o s H K
theorem Jau{P:Program}{o:Oper}{s:List AV}{H:Jm}{K:KV}(h:opW P o s H K):JY P o ⟨s,H⟩ K:=by
 unfold opW at h
 split at h
 · obtain⟨v,h1,h2⟩:=h
   exact JY.val h1 h2
 · exact Jav h
def UO(g:Option Bool)(want:Bool)(A B:Prop):Prop:=(g=some want→A)∧(g≠some want→B)
abbrev KS:=List AV→Jm→Prop
mutual
def vw(P:Program)(ops:Array Oper):List Oper→List AV→Jm→KS→Prop
 |[],s,H,K=>K s H
 |o::r,s,H,K=>match o.guard with
  |none=>opW P o s H (fun v H'=>vw P ops r (QQ s o.dst v) H' K)
  |some (j,want)=>QJ (Ue ops s j) fun g=>UO g want (opW P o s H (fun v H'=>vw P ops r (QQ s o.dst v) H' K)) (vw P ops r (QQ s o.dst .void) H K)
end
def vwK(P:Program)(ops:Array Oper)(r:List Oper)(s:List AV)(d:Option Tmp)(K:KS):KV:=fun v H'=>vw P ops r (QQ s d v) H' K
def UP(P:Program)(ops:Array Oper)(o:Oper)(r:List Oper)(s:List AV)(H:Jm)(K:KS)(want:Bool):Option Bool→Prop:=
 fun g=>UO g want (opW P o s H (vwK P ops r s o.dst K)) (vw P ops r (QQ s o.dst .void) H K)
theorem YU{P:Program}{ops:Array Oper}:∀(l:List Oper) (s:List AV) (H:Jm) (K:KS),vw P ops l s H K→ND P ops l ⟨s,H⟩ fun st=>K st.s st.h
 |[],s,H,K,h=>h
 |o::r,s,H,K,h=>by
  unfold vw at h
  unfold ND
  split at h
  · rename_i hg
    rw[hg]
    exact(Jau h).mono fun v H' hv=>YU r _ _ K hv
  · rename_i j want hg
    obtain⟨g,h1,h2,h3⟩:=h
    rw[hg]
    exact⟨g,h1,fun he=>(Jau (h2 he)).mono fun v H' hv=>YU r _ _ K hv,fun he=>YU r _ _ K (h3 he)⟩
def UD(P:Program)(s:List AV)(t:TypeId)(n:Nat)(ps:List (Nat×Operand))(K:AV→Prop):Prop:=
 match QR P t,Vd s ps with
 |some ei,some rs=>match Xq (KU rs)with
  |some xs=>YD (ei.zero.length=ei.size∧n*ei.size≤16777216)<|if RP ei.size 0 rs=true∧rs.length=n then K (.c (.f (.sl n xs)))else False
  |none=>False
 |_,_=>False
theorem JiB{a b:List CV}{xs:List FV}(h:Xq (a++b)=some xs):(∃ys,Xq a=some ys)∧∃zs,Xq b=some zs:=by
 induction a generalizing xs with
 |nil=>exact⟨⟨[],rfl⟩,xs,h⟩
 |cons c a ih=>
  cases c with
  |f x=>
   simp only[Ja,Xq,Option.map_eq_some_iff]at h
   obtain⟨ys,h1,_⟩:=h
   obtain⟨⟨y,hy⟩,hz⟩:=ih h1
   exact⟨⟨x::y,by simp[Xq,hy]⟩,hz⟩
  |_=>simp[Xq]at h
theorem JcS:∀{l:List CV} {xs:List FV},Xq l=some xs→l.all Xs=true
 |[],_,_=>rfl
 |c::l,xs,h=>by
  have:=BU h
  rw[this]
  simp[Xs]
theorem R3{s:List AV}:∀(ps:List (Nat×Operand)) (rs:List (Nat×List CV)) (xs:List FV),Vd s ps=some rs→Xq (KU rs)=some xs→∀p∈ps,Q0 (QU s p.2)=true
 |[],_,_,_,_=>by simp
 |(i,x)::r,rs,xs,h,hx=>by
  simp only[Vd]at h
  split at h
  · rename_i cs r' h1 h2
    cases h
    simp only[KU]at hx
    obtain⟨⟨ys,hy⟩,zs,hz⟩:=JiB hx
    intro p hp
    rcases Qx.1 hp with rfl|hp
    · have:=JcS hy
      simp only
      cases hv:QU s x with
      |c c=>
       rw[hv]at h1
       simp only[WU,Option.some.injEq]at h1
       subst h1
       simpa[Q0]using this
      |agg cs'=>
       rw[hv]at h1
       simp only[WU,Option.some.injEq]at h1
       subst h1
       exact this
      |_=>rw[hv]at h1;cases h1
    · exact R3 r r' zs h2 hz p hp
  · cases h
theorem Jc0{H:Jm}{n:Nat}(l:List FV):(l.map CV.f).mapM (frz H n)=some l:=by
 induction l with
 |nil=>rfl
 |cons x l ih=>
  rw[Qq,J3,ih]
  cases n<;>rfl
theorem Yy{P:Program}{ops:Array Oper}{o:Oper}{s:List AV}{H:Jm}{K:AV→Prop}{t:TypeId}{n:Nat}{ps:Array (Nat×Operand)}(ho:o.op= .buildSlice t n ps)(h:UD P s t n ps.toList K):∃v,Vl P ops o s H v∧K v:=by
 unfold UD at h
 split at h
 · rename_i ei rs h1 h2
   obtain⟨ti,e,k1,k2,k3⟩:=Uw h1
   split at h
   · rename_i xs h3
     obtain⟨⟨hz,h24⟩,hif⟩:=h
     split at hif
     · rename_i hq
       refine⟨_,Vl.ops (fun x hx=> ?_) rfl (fun s' hs'=> ?_),hif⟩
       · rw[ho]at hx
         simp only[Op.operands,List.mem_toArray,Qh]at hx
         obtain⟨p,hp,rfl⟩:=hx
         exact R3 _ _ _ h2 h3 p hp
       · have e2:Vd s' ps.toList=some rs:=by
          rw[WO _ fun p hp=>hs' p.2 (by rw[ho];simp only[Op.operands,List.mem_toArray,Qh];exact⟨p,hp,rfl⟩)]
          exact h2
         refine JY.buildSlice ho k1 k2 k3 hz e2 (Jc5 hq) h24 fun g=> ?_
         have hl:(KU rs).length=n*ei.size:=by rw[FG rs 0 hq.1,hq.2]
         simp only[VZ,XV,frzC,frz,Jf,Jc]
         have:look [some ⟨g,ei.size,KU rs⟩] 0 g=some ⟨g,ei.size,KU rs⟩:=by simp[look]
         rw[this]
         simp only[JQ]
         rw[Js (by omega),BU h3,Jc0]
         rfl
     · exact hif.elim
   · exact h.elim
 · exact h.elim
def QY(P:Program)(ops:Array Oper)(o:Oper)(s:List AV)(H:Jm)(K:AV→Prop):Prop:=
 if Vf o.op=true then QJ (XG P s H o.op) K else match o.op with
  | .buildSlice t n ps=>UD P s t n ps.toList K
  |_=>∃v,Vl P ops o s H v∧K v
theorem RZ{P:Program}{ops:Array Oper}{o:Oper}{s:List AV}{H:Jm}{K:AV→Prop}(h:QY P ops o s H K):∃v,Vl P ops o s H v∧K v:=by
 unfold QY at h
 split at h
 · obtain⟨v,h1,h2⟩:=h
   exact⟨v,Vl.val h1,h2⟩
 · split at h
   · rename_i ho;exact Yy ho h
   · exact h
def qw(P:Program)(ops:Array Oper):List Oper→List AV→Jm→KS→Prop
 |[],s,H,K=>K s H
 |o::r,s,H,K=>match o.guard with
  |none=>QY P ops o s H fun v=>qw P ops r (QQ s o.dst v) H K
  |some (j,want)=>QJ (Ue ops s j) fun g=>UO g want (QY P ops o s H fun v=>qw P ops r (QQ s o.dst v) H K) (qw P ops r (QQ s o.dst .void) H K)
def qwK(P:Program)(ops:Array Oper)(r:List Oper)(s:List AV)(d:Option Tmp)(H:Jm)(K:KS):AV→Prop:=fun v=>qw P ops r (QQ s d v) H K
def UN(P:Program)(ops:Array Oper)(o:Oper)(r:List Oper)(s:List AV)(H:Jm)(K:KS)(want:Bool):Option Bool→Prop:=
 fun g=>UO g want (QY P ops o s H (qwK P ops r s o.dst H K)) (qw P ops r (QQ s o.dst .void) H K)
theorem RY{P:Program}{ops:Array Oper}:∀(l:List Oper) (s:List AV) (H:Jm) (K:KS),qw P ops l s H K→JbK P ops l s H fun s'=>K s' H
 |[],s,H,K,h=>h
 |o::r,s,H,K,h=>by
  unfold qw at h
  unfold JbK
  split at h
  · rename_i hg
    rw[hg]
    obtain⟨v,h1,h2⟩:=RZ h
    exact⟨v,h1,RY r _ _ K h2⟩
  · rename_i j want hg
    obtain⟨g,h1,h2,h3⟩:=h
    rw[hg]
    exact⟨g,h1,fun he=>let⟨v,k1,k2⟩:=RZ (h2 he);⟨v,k1,RY r _ _ K k2⟩,fun he=>RY r _ _ K (h3 he)⟩
end Go.Lg
