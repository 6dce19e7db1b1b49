/- LgN, cut to what is needed. -/
import Derived.Test.YtiahmfdabpafoaaGreatDoorKaa6
open List renaming cons_append → Jc, nil_append → Jd, length_append → Je, length_cons → Jf, length_nil → Jl, take_of_length_le → Jn, append_nil → Jv, mapM_cons → Jz, length_take → JA, drop_zero → JB, mem_cons → JV, map_cons → Qf, getElem?_map → Qo, mem_map → Qs, length_drop → ZI
open Nat renaming reduceAdd→zA,reduceMul→zM,reduceSub→zS,reduceEqDiff→zE,reduceLeDiff→zL
set_option linter.unusedSimpArgs false
set_option linter.unusedVariables false
namespace Go.Lg
def UA:Op→Bool
 | .move _| .assign _| .pick .. | .nilCheck _| .binOp .. | .unOp .. | .convert .. | .fieldAddr .. | .field .. | .indexAddr .. | .index .. | .extract .. | .load .. | .slice .. | .makeFunc .. =>true
 | .call ⟨.builtin .len,_,_⟩| .call ⟨.builtin .min,_,_⟩| .call ⟨.builtin .max,_,_⟩=>true
 |_=>false
def W0(A B:Prop):Prop:=A∧B
theorem Jeu{B:Prop}:W0 True B=B:=by simp[W0]
theorem JhF{A B:Prop}(h:A):W0 A B=B:=by simp[W0,h]
def Qx{α:Type}(o:Option α)(F:α→Prop):Prop:=∃v,o=some v∧F v
theorem Jbs{α:Type}(x:α)(F:α→Prop):Qx (some x) F=F x:=by simp[Qx]
theorem Jdz{α:Type}{c:Prop}[Decidable c]{x:Option α}(F:α→Prop):Qx (if c then x else none) F=W0 c (Qx x F):=by
 by_cases h:c<;>simp[Qx,W0,h]
def Jfj{α β:Type}(f:α→β)(F:β→Prop):α→Prop:=fun a=>F (f a)
theorem KA{α β:Type}{f:α→β}{x:Option α}(F:β→Prop):Qx (x.map f) F=Qx x (Jfj f F):=by
 cases x<;>simp[Qx,Jfj]
theorem Jfi{α β:Type}(f:α→β)(F:β→Prop)(a:α):Jfj f F a=F (f a):=propext Iff.rfl
def FO(F:KV)(H:Ji):AV→Prop:=fun v=>F v H
theorem Jic(F:KV)(H:Ji)(v:AV):FO F H v=F v H:=propext Iff.rfl
theorem Fg{α β:Type}{P:Program}{w:World}{f:α→Sem β}{g:α→β}:∀(l:List α),(∀x∈l,(f x).run P w= .ok (g x) w)→(l.mapM f).run P w= .ok (l.map g) w
 |[],_=>by simp
 |x::l,h=>by
  rw[Jz]
  simp only[Sem.run_bind,h x (by simp),Result.andThen_ok,Fg l fun y hy=>h y (by simp[hy]),Sem.run_pure,Qf]
theorem Jd6{α β:Type}{P:Program}{w:World}{f:α→Sem β}{g:α→β}(as:Array α)(hf:∀x∈as,(f x).run P w= .ok (g x) w):(as.mapM f).run P w= .ok (as.map g) w:=by
 rw[Array.mapM_eq_mapM_toList,Sem.run_map,Fg as.toList fun x hx=>hf x (by simpa using hx),Result.andThen_ok]
 congr 1
 apply Array.ext'
 simp
theorem Jck{d:TypeDesc}{fs:List (TypeId×Nat)}(h:Xy d= .struct fs):∃l:Array Field,d= .struct l∧fs=l.toList.map fun f=>(f.type,f.offset):=by
 cases d<;>simp[Xy]at h
 exact⟨_,rfl,h.symm⟩
def Jaw(P:Program)(t:TypeId):Nat:=match Jy P t with|some i=>i.size|none=>0
theorem Qh.build{P:Program}{o:Oper}{st:St}{K:AV→Ji→Prop}{t:TypeId}{ti:TI}{fs:List (TypeId×Nat)}{parts:Array (Nat×Operand)}{rs:List (Nat×List CV)}{cs:List CV}
 (ho:o.op= .build t parts) (ht:Jy P t=some ti) (hk:ti.k= .struct fs) (hfs:∀f∈fs,(Jy P f.1).isSome=true) (hp:ZW st.s parts.toList=some rs)
 (hf:Vb (fun i=>(fs.map fun f=>(f.2,Jaw P f.1))[i]?) ti.zero rs=some cs) (hK:K (.agg cs) st.h):Qh P o st K:=by
 intro w X a R next Q hn
 obtain⟨inf,d,z',h1,h2,h3,h4,h5,h6,h7⟩:=J2 ht
 rw[h5]at hk
 obtain⟨l,rfl,rfl⟩:=Jck hk
 obtain⟨z,hz1,hz2,hz3⟩:=UK ht
 obtain⟨out,o1,o2,o3⟩:=Ww R parts.toList ti.zero z.cells rs cs hp hf hz2 (hz3 w X st.h)
 have hparts:(parts.map fun p=>(p.1,a.eval p.2)).toList=parts.toList.map fun p=>(p.1,a.eval p.2):=by simp
 have hmap:(l.mapM (m:=Sem) fun f=>do pure (f.offset,←sizeOf f.type)).run P w= .ok (l.map fun f=>(f.offset,Jaw P f.type)) w:=by
  refine Jd6 l fun f hf'=> ?_
  have:=hfs (f.type,f.offset) (Qs.2 ⟨f,by simpa using hf',rfl⟩)
  obtain⟨i,hi⟩:=Option.isSome_iff_exists.1 this
  simp only[Sem.run_bind,QL hi,Result.andThen_ok,Sem.run_pure,Jaw]
  simp only at hi
  rw[hi]
 have hplace:(fun i:Nat=>(((l.toList.map fun f=>(f.type,f.offset)).map fun f=>(f.2,Jaw P f.1)))[i]?)=fun i:Nat=>(l.map fun f=>(f.offset,Jaw P f.type))[i]? :=by
  funext i
  simp[Qo]
  rfl
 rw[hplace]at o1
 have hrun:(execOp a.eval o).run P w= .ok (.value (.agg out)) w:=by
  simp only[execOp,ho,Instr.build,Sem.run_bind,hz1,run_underlying h2,Result.andThen_ok,hmap]
  rw[hparts,o1]
  rfl
 refine Zn hrun (hn (.agg cs) _ X st.h w ?_ R.heap (Ev.refl _ _ _) hK)
 exact .agg _ _ o2 fun j hj=>o3 j hj
theorem Qh.buildA{P:Program}{o:Oper}{st:St}{K:AV→Ji→Prop}{t e:TypeId}{ti ei:TI}{n:Nat}{parts:Array (Nat×Operand)}{rs:List (Nat×List CV)}{cs:List CV}
 (ho:o.op= .build t parts) (ht:Jy P t=some ti) (hk:ti.k= .array n e) (he:Jy P e=some ei) (hp:ZW st.s parts.toList=some rs)
 (hf:Vb (fun i=>some (i*ei.size,ei.size)) ti.zero rs=some cs) (hK:K (.agg cs) st.h):Qh P o st K:=by
 intro w X a R next Q hn
 obtain⟨inf,d,z',h1,h2,h3,h4,h5,h6,h7⟩:=J2 ht
 rw[h5]at hk
 obtain rfl:=Rs hk
 obtain⟨z,hz1,hz2,hz3⟩:=UK ht
 obtain⟨out,o1,o2,o3⟩:=Ww R parts.toList ti.zero z.cells rs cs hp hf hz2 (hz3 w X st.h)
 have hparts:(parts.map fun p=>(p.1,a.eval p.2)).toList=parts.toList.map fun p=>(p.1,a.eval p.2):=by simp
 have hrun:(execOp a.eval o).run P w= .ok (.value (.agg out)) w:=by
  simp only[execOp,ho,Instr.build,Sem.run_bind,hz1,run_underlying h2,Result.andThen_ok,QL he]
  rw[hparts,o1]
  rfl
 refine Zn hrun (hn (.agg cs) _ X st.h w ?_ R.heap (Ev.refl _ _ _) hK)
 exact .agg _ _ o2 fun j hj=>o3 j hj
def FU(P:Program)(H:Ji)(t:TypeId)(p x:AV)(K:KV):Prop:=
 match p,Vf x,Jy P t with
 | .c (.ptr id g off),some cs,some ti=>match look H id g with
   |some b=>W0 (cs.length=ti.size∧off+cs.length≤b.cs.length)<|K .void (H.set id (some ⟨b.g,b.sz,Qm b.cs off cs⟩))
   |none=>False
 |_,_,_=>False
def Yz(H:Ji)(n:Option Nat)(sz:Nat)(cs:List CV)(K:KV):Prop:=
 ∀g,K (match n with|some n=> .c (.own H.length g 0 n none)|none=> .c (.ptr H.length g 0)) (H++[some ⟨g,sz,cs⟩])
def GK(P:Program)(H:Ji)(t:TypeId)(K:KV):Prop:=
 match Jy P t with
 |some ti=>Yz H none ti.size ti.zero K
 |none=>False
def Jfq(H:Ji)(x:AV)(K:KV):Prop:=
 match Vf x with
 |some cs=>Yz H none 1 cs K
 |none=>False
def QJ(P:Program)(t:TypeId):Option TI:=
 match Jy P t with
 |some ti=>match ti.k with
  | .slice e=>Jy P e
  |_=>none
 |none=>none
theorem ZM{P:Program}{t:TypeId}{ei:TI}(h:QJ P t=some ei):∃ti e,Jy P t=some ti∧ti.k= .slice e∧Jy P e=some ei:=by
 unfold QJ at h
 split at h
 · rename_i ti ht
   split at h
   · rename_i e hk;exact⟨ti,e,ht,hk,h⟩
   · cases h
 · cases h
def XC(sz:Nat):Nat→List (Nat×List CV)→Bool
 |_,[]=>true
 |i,(j,cs)::r=>decide (j=i)&&(decide (cs.length=sz)&&XC sz (i+1) r)
def Xa:List (Nat×List CV)→List CV
 |[]=>[]
 |(_,cs)::r=>cs++Xa r
theorem K4{sz:Nat}:∀(rs:List (Nat×List CV)) (i:Nat),XC sz i rs=true→(Xa rs).length=rs.length*sz
 |[],_,_=>by simp[Xa]
 |(j,cs)::r,i,h=>by
  simp only[XC,Bool.and_eq_true,decide_eq_true_eq]at h
  have:=K4 r (i+1) h.2.2
  simp only[Xa,Je,Jf,Nat.add_mul]
  omega
theorem N8{sz:Nat}:∀(rs:List (Nat×List CV)) (i:Nat) (l:List CV),XC sz i rs=true→l.length=(i+rs.length)*sz→
 Vb (fun i=>some (i*sz,sz)) l rs=some (l.take (i*sz)++Xa rs)
 |[],i,l,_,hl=>by
  simp only[Vb,Xa,Jv,Option.some.injEq]
  rw[Jn (by simp at hl;omega)]
 |(j,cs)::r,i,l,h,hl=>by
  simp only[XC,Bool.and_eq_true,decide_eq_true_eq]at h
  obtain⟨rfl,h2,h3⟩:=h
  have e1:(j+(r.length+1))*sz=j*sz+sz+r.length*sz:=by rw[Nat.add_mul,Nat.add_mul];omega
  have e2:(j+1)*sz=j*sz+sz:=by rw[Nat.add_mul];omega
  simp only[Jf]at hl
  simp only[Vb,h2]
  rw[if_pos ⟨trivial,by omega⟩,N8 r (j+1) _ h3 ?_]
  · have:(Qm l (j*sz) cs).take ((j+1)*sz)=l.take (j*sz)++cs:=by
     have hA:(l.take (j*sz)++cs).length=(j+1)*sz:=by
      rw[Je,JA,Nat.min_eq_left (by omega),h2,e2]
     simp only[Qm]
     rw[List.take_append_of_le_length (by omega),Jn (by omega)]
    rw[this]
    simp[Xa]
  · have e3:(j+1+r.length)*sz=j*sz+sz+r.length*sz:=by rw[Nat.add_mul,Nat.add_mul];omega
    simp only[Qm,Je,JA,ZI,h2]
    rw[e1]at hl
    rw[Nat.min_eq_left (by omega),e3]
    omega
theorem BE(n:Nat)(z:List CV):(QC n z).length=n:=by simp[QC]
theorem N9{sz n:Nat}{z:List CV}{rs:List (Nat×List CV)}(h:XC sz 0 rs=true∧rs.length=n):Vb (fun i=>some (i*sz,sz)) (QC (n*sz) z) rs=some (Xa rs):=by
 rw[N8 rs 0 _ h.1 (by rw[BE,h.2,Nat.zero_add])]
 simp
def Bp(P:Program)(s:List AV)(H:Ji)(t:TypeId)(n:Nat)(ps:List (Nat×Operand))(K:KV):Prop:=
 match QJ P t,ZW s ps with
 |some ei,some rs=>if XC ei.size 0 rs=true∧rs.length=n then W0 (ei.zero.length=ei.size∧n*ei.size≤16777216)<|Yz H (some n) ei.size (Xa rs) K
  else match Vb (fun i=>some (i*ei.size,ei.size)) (QC (n*ei.size) ei.zero) rs with
  |some cs=>W0 (ei.zero.length=ei.size∧n*ei.size≤16777216)<|Yz H (some n) ei.size cs K
  |none=>False
 |_,_=>False
def cnt(l:Int):Nat:=l.toNat
theorem Jg2(n:Nat):cnt (n:Int)=n:=rfl
theorem Jfk:cnt 0=0:=rfl
def JbY(P:Program)(H:Ji)(t:TypeId)(l c:AV)(K:KV):Prop:=
 match QJ P t,l,c with
 |some ei, .c (.f (.int _ l)), .c (.f (.int _ c))=>W0 (ei.zero.length=ei.size∧(0≤l∧l≤c)∧c≤9223372036854775807∧ei.bytes*c≤281474976710656)<|
  Yz H (some (cnt l)) ei.size (QC (cnt l*ei.size) ei.zero) K
 |_,_,_=>False
def VI(H:Ji)(ei:TI)(v:AV)(m:Nat)(k:List CV)(K:KV):Prop:=
 if m=0 then K v H else
 match v with
 | .c (.f .nil)=>W0 (m≤9223372036854775807∧m*ei.bytes≤140737488355328)<|Yz H (some m) ei.size k K
 | .c .emp=>W0 (m≤9223372036854775807∧m*ei.bytes≤140737488355328)<|Yz H (some m) ei.size k K
 | .c (.own id g off n lim)=>match look H id g with
   |some b=>
    match lim with
    |none=>if b.cs.length=n*ei.size then
      W0 (b.sz=ei.size∧0<ei.size∧off=0∧n+m≤9223372036854775807∧(n+m)*ei.bytes≤140737488355328)<|∀g',K (.c (.own id g' 0 (n+m) none)) (H.set id (some ⟨g',ei.size,b.cs++k⟩))
     else W0 (b.sz=ei.size∧0<ei.size∧off+(n+m)*ei.size≤b.cs.length)<|K (.c (.own id g off (n+m) none)) (H.set id (some ⟨b.g,b.sz,Qm b.cs (off+n*ei.size) k⟩))
    |some c=>if c<n+m then
      W0 (b.sz=ei.size∧n+m≤9223372036854775807∧(n+m)*ei.bytes≤140737488355328)<|Yz H (some (n+m)) ei.size ((b.cs.drop off).take (n*ei.size)++k) K
     else W0 (b.sz=ei.size∧0<ei.size∧off+(n+m)*ei.size≤b.cs.length)<|K (.c (.own id g off (n+m) (some c))) (H.set id (some ⟨b.g,b.sz,Qm b.cs (off+n*ei.size) k⟩))
   |none=>False
 |_=>False
def Qg(P:Program)(H:Ji)(t:TypeId)(v x:AV)(K:KV):Prop:=
 match QJ P t with
 |some ei=>if ei.zero.length=ei.size then(match elems H ei.size v,elems H ei.size x with
  |some _,some (m,k)=>VI H ei v m k K
  |_,_=>False)else False
 |none=>False
def JfN(P:Program)(s:List AV)(H:Ji)(t:TypeId)(ps:List (Nat×Operand))(K:KV):Prop:=
 match Jy P t with
 |some ti=>match ti.k with
  | .struct fs=>match ZW s ps with
    |some rs=>match Vb (fun i=>(fs.map fun f=>(f.2,Jaw P f.1))[i]?) ti.zero rs with
     |some cs=>W0 (∀f∈fs,(Jy P f.1).isSome=true)<|K (.agg cs) H
     |none=>False
    |none=>False
  | .array _ e=>match Jy P e,ZW s ps with
    |some ei,some rs=>match Vb (fun i=>some (i*ei.size,ei.size)) ti.zero rs with
     |some cs=>K (.agg cs) H
     |none=>False
    |_,_=>False
  |_=>False
 |none=>False
def opM(P:Program)(o:Oper)(s:List AV)(H:Ji)(K:KV):Prop:=
 match o.op with
 | .build t ps=>JfN P s H t ps.toList K
 | .store t p x=>FU P H t (QH s p) (QH s x) K
 | .alloc t=>GK P H t K
 | .box _ x=>Jfq H (QH s x) K
 | .buildSlice t n ps=>Bp P s H t n ps.toList K
 | .makeSlice t l c=>JbY P H t (QH s l) (QH s c) K
 | .call ⟨.builtin .append,⟨[v,x]⟩,⟨[t,u]⟩⟩=>if t=u then Qg P H t (QH s v) (QH s x) K else False
 |_=>Qh P o ⟨s,H⟩ K
theorem Jdo{H:Ji}{sz:Nat}{l:List CV}{n:Nat}(h:elems H sz (.c (.f .nil))=some (n,l)):n=0∧l=[]:=by cases h;exact⟨rfl,rfl⟩
theorem Jdp{H:Ji}{sz:Nat}{l:List CV}{n:Nat}(h:elems H sz (.c .emp)=some (n,l)):n=0∧l=[]:=by cases h;exact⟨rfl,rfl⟩
theorem Jbg{H:Ji}{sz:Nat}{v:AV}{k:List CV}(h:elems H sz v=some (0,k)):k=[]:=by
 unfold elems at h
 split at h
 · cases h;rfl
 · cases h;rfl
 · rename_i n cs
   split at h
   · rename_i hl
     cases h
     have:cs=[]:=List.eq_nil_of_length_eq_zero (by omega)
     simp[this]
   · cases h
 · rename_i id g off n' lim
   split at h
   · split at h
     · cases h;simp
     · cases h
   · cases h
 · cases h
theorem Fq{P:Program}{o:Oper}{s:List AV}{H:Ji}{K:KV}(h:opM P o s H K):Qh P o ⟨s,H⟩ K:=by
 unfold opM at h
 split at h
 · rename_i t ps ho
   unfold JfN at h
   split at h
   · rename_i ti ht
     split at h
     · rename_i fs hk
       split at h
       · rename_i rs hp
         split at h
         · rename_i cs hf
           exact Qh.build ho ht hk h.1 hp hf h.2
         · exact h.elim
       · exact h.elim
     · rename_i n e hk
       split at h
       · rename_i ei rs he hp
         split at h
         · rename_i cs hf
           exact Qh.buildA ho ht hk he hp hf h
         · exact h.elim
       · exact h.elim
     · exact h.elim
   · exact h.elim
 · rename_i t p x ho
   unfold FU at h
   split at h
   · rename_i id g off cs ti hp hx ht
     split at h
     · rename_i b hl
       exact Qh.store ho ht hp hl hx h.1.1 h.1.2 h.2
     · exact h.elim
   · exact h.elim
 · rename_i t ho
   unfold GK at h
   split at h
   · rename_i ti ht;exact Qh.alloc ho ht h
   · exact h.elim
 · rename_i t x ho
   unfold Jfq at h
   split at h
   · rename_i cs hx;exact Qh.box ho hx h
   · exact h.elim
 · rename_i t n ps ho
   unfold Bp at h
   split at h
   · rename_i ei rs h1 h2
     obtain⟨ti,e,k1,k2,k3⟩:=ZM h1
     split at h
     · rename_i hq
       exact Qh.buildSlice ho k1 k2 k3 h.1.1 h2 (N9 hq) h.1.2 h.2
     · split at h
       · rename_i cs hf
         exact Qh.buildSlice ho k1 k2 k3 h.1.1 h2 hf h.1.2 h.2
       · exact h.elim
   · exact h.elim
 · rename_i t l c ho
   unfold JbY at h
   split at h
   · rename_i ei _ l' _ c' h1 h2 h3
     obtain⟨ti,e,k1,k2,k3⟩:=ZM h1
     obtain⟨⟨q1,⟨q2,q3⟩,q4,q5⟩,q6⟩:=h
     exact Qh.makeSlice ho k1 k2 k3 q1 h2 h3 q2 q3 q4 q5 q6
   · exact h.elim
 · rename_i v x t u ho
   split at h
   · rename_i htu
     subst htu
     have ho:o.op= .call ⟨.builtin .append,#[v,x],#[t,t]⟩:=ho
     unfold Qg at h
     split at h
     · rename_i ei h1
       obtain⟨ti,e,k1,k2,k3⟩:=ZM h1
       split at h
       · rename_i hz
         split at h
         · rename_i nl m k hev hex
           obtain⟨n0,l0⟩:=nl
           unfold VI at h
           split at h
           · rename_i hm
             subst hm
             have:=Jbg hex
             subst this
             exact Qh.append_zero ho k1 k2 k3 hev hex h
           · rename_i hm
             split at h
             · rename_i hv
               rw[hv]at hev
               obtain⟨rfl,rfl⟩:=Jdo hev
               refine Qh.append_new (n:=0) (l:=[]) ho k1 k2 k3 hz (by rw[hv];exact hev) hex (by rw[hv];rfl) (by omega) (by have:=h.1.1;omega) (by simpa using h.1.2) fun g=> ?_
               rw[Nat.zero_add];exact h.2 g
             · rename_i hv
               rw[hv]at hev
               obtain⟨rfl,rfl⟩:=Jdp hev
               refine Qh.append_new (n:=0) (l:=[]) ho k1 k2 k3 hz (by rw[hv];exact hev) hex (by rw[hv];rfl) (by omega) (by have:=h.1.1;omega) (by simpa using h.1.2) fun g=> ?_
               rw[Nat.zero_add];exact h.2 g
             · rename_i id g off n lim hv
               split at h
               · rename_i b hl
                 split at h
                 · split at h
                   · rename_i hbl
                     obtain⟨⟨hsz,hpos,rfl,h63,h47⟩,hK⟩:=h
                     exact Qh.append_own ho k1 k2 k3 hz hv hl hsz hbl hex (by omega) h63 h47 hK
                   · obtain⟨⟨hsz,hpos,hle⟩,hK⟩:=h
                     exact Qh.append_in ho k1 k2 k3 hpos hv hl hsz hle (by simp) hex (by omega) hK
                 · rename_i c
                   split at h
                   · rename_i hlim
                     obtain⟨⟨hsz,h63,h47⟩,hK⟩:=h
                     rw[hv]at hev
                     have hev':=hev
                     simp only[elems,hl,hsz,if_true]at hev
                     cases hev
                     refine Qh.append_new ho k1 k2 k3 hz (by rw[hv];exact hev') hex ?_ (by omega) h63 h47 hK
                     rw[hv]
                     simpa[RT]using hlim
                   · rename_i hlim
                     obtain⟨⟨hsz,hpos,hle⟩,hK⟩:=h
                     exact Qh.append_in ho k1 k2 k3 hpos hv hl hsz hle (by simp;omega) hex (by omega) hK
               · exact h.elim
             · exact h.elim
         · exact h.elim
       · exact h.elim
     · exact h.elim
   · exact h.elim
 · exact h
def Va(P:Program)(o:Oper)(s:List AV)(H:Ji)(K:KV):Prop:=
 if UA o.op=true then Qx (WQ P s H o.op) (FO K H)else opM P o s H K
theorem Fo{P:Program}{o:Oper}{s:List AV}{H:Ji}{K:KV}(h:Va P o s H K):Qh P o ⟨s,H⟩ K:=by
 unfold Va at h
 split at h
 · obtain⟨v,h1,h2⟩:=h
   exact Qh.val h1 h2
 · exact Fq h
def ZP(g:Option Bool)(want:Bool)(A B:Prop):Prop:=(g=some want→A)∧(g≠some want→B)
abbrev KS:=List AV→Ji→Prop
mutual
def vw(P:Program)(ops:Array Oper):List Oper→List AV→Ji→KS→Prop
 |[],s,H,K=>K s H
 |o::r,s,H,K=>match o.guard with
  |none=>Va P o s H (fun v H'=>vw P ops r (QG s o.dst v) H' K)
  |some (j,want)=>Qx (Zh ops s j) fun g=>ZP g want (Va P o s H (fun v H'=>vw P ops r (QG s o.dst v) H' K)) (vw P ops r (QG s o.dst .void) H K)
end
def vwK(P:Program)(ops:Array Oper)(r:List Oper)(s:List AV)(d:Option Tmp)(K:KS):KV:=fun v H'=>vw P ops r (QG s d v) H' K
def ZQ(P:Program)(ops:Array Oper)(o:Oper)(r:List Oper)(s:List AV)(H:Ji)(K:KS)(want:Bool):Option Bool→Prop:=
 fun g=>ZP g want (Va P o s H (vwK P ops r s o.dst K)) (vw P ops r (QG s o.dst .void) H K)
theorem WS{P:Program}{ops:Array Oper}:∀(l:List Oper) (s:List AV) (H:Ji) (K:KS),vw P ops l s H K→By P ops l ⟨s,H⟩ fun st=>K st.s st.h
 |[],s,H,K,h=>h
 |o::r,s,H,K,h=>by
  unfold vw at h
  unfold By
  split at h
  · rename_i hg
    rw[hg]
    exact(Fo h).mono fun v H' hv=>WS r _ _ K hv
  · rename_i j want hg
    obtain⟨g,h1,h2,h3⟩:=h
    rw[hg]
    exact⟨g,h1,fun he=>(Fo (h2 he)).mono fun v H' hv=>WS r _ _ K hv,fun he=>WS r _ _ K (h3 he)⟩
def Zv(P:Program)(s:List AV)(t:TypeId)(n:Nat)(ps:List (Nat×Operand))(K:AV→Prop):Prop:=
 match QJ P t,ZW s ps with
 |some ei,some rs=>match Vz (Xa rs)with
  |some xs=>W0 (ei.zero.length=ei.size∧n*ei.size≤16777216)<|if XC ei.size 0 rs=true∧rs.length=n then K (.c (.f (.sl n xs)))else False
  |none=>False
 |_,_=>False
theorem Je6{a b:List CV}{xs:List FV}(h:Vz (a++b)=some xs):(∃ys,Vz a=some ys)∧∃zs,Vz b=some zs:=by
 induction a generalizing xs with
 |nil=>exact⟨⟨[],rfl⟩,xs,h⟩
 |cons c a ih=>
  cases c with
  |f x=>
   simp only[Jc,Vz,Option.map_eq_some_iff]at h
   obtain⟨ys,h1,_⟩:=h
   obtain⟨⟨y,hy⟩,hz⟩:=ih h1
   exact⟨⟨x::y,by simp[Vz,hy]⟩,hz⟩
  |_=>simp[Vz]at h
theorem NU:∀{l:List CV} {xs:List FV},Vz l=some xs→l.all VT=true
 |[],_,_=>rfl
 |c::l,xs,h=>by
  have:=Km h
  rw[this]
  simp[VT]
theorem Yy{s:List AV}:∀(ps:List (Nat×Operand)) (rs:List (Nat×List CV)) (xs:List FV),ZW s ps=some rs→Vz (Xa rs)=some xs→∀p∈ps,Zc (QH s p.2)=true
 |[],_,_,_,_=>by simp
 |(i,x)::r,rs,xs,h,hx=>by
  simp only[ZW]at h
  split at h
  · rename_i cs r' h1 h2
    cases h
    simp only[Xa]at hx
    obtain⟨⟨ys,hy⟩,zs,hz⟩:=Je6 hx
    intro p hp
    rcases JV.1 hp with rfl|hp
    · have:=NU hy
      simp only
      cases hv:QH s x with
      |c c=>
       rw[hv]at h1
       simp only[Vf,Option.some.injEq]at h1
       subst h1
       simpa[Zc]using this
      |agg cs'=>
       rw[hv]at h1
       simp only[Vf,Option.some.injEq]at h1
       subst h1
       exact this
      |_=>rw[hv]at h1;cases h1
    · exact Yy r r' zs h2 hz p hp
  · cases h
theorem N3{H:Ji}{n:Nat}(l:List FV):(l.map CV.f).mapM (frz H n)=some l:=by
 induction l with
 |nil=>rfl
 |cons x l ih=>
  rw[Qf,Jz,ih]
  cases n<;>rfl
theorem WF{P:Program}{ops:Array Oper}{o:Oper}{s:List AV}{H:Ji}{K:AV→Prop}{t:TypeId}{n:Nat}{ps:Array (Nat×Operand)}(ho:o.op= .buildSlice t n ps)(h:Zv P s t n ps.toList K):∃v,Z6 P ops o s H v∧K v:=by
 unfold Zv at h
 split at h
 · rename_i ei rs h1 h2
   obtain⟨ti,e,k1,k2,k3⟩:=ZM h1
   split at h
   · rename_i xs h3
     obtain⟨⟨hz,h24⟩,hif⟩:=h
     split at hif
     · rename_i hq
       refine⟨_,Z6.ops (fun x hx=> ?_) rfl (fun s' hs'=> ?_),hif⟩
       · rw[ho]at hx
         simp only[Op.operands,List.mem_toArray,Qs]at hx
         obtain⟨p,hp,rfl⟩:=hx
         exact Yy _ _ _ h2 h3 p hp
       · have e2:ZW s' ps.toList=some rs:=by
          rw[Vd _ fun p hp=>hs' p.2 (by rw[ho];simp only[Op.operands,List.mem_toArray,Qs];exact⟨p,hp,rfl⟩)]
          exact h2
         refine Qh.buildSlice ho k1 k2 k3 hz e2 (N9 hq) h24 fun g=> ?_
         have hl:(Xa rs).length=n*ei.size:=by rw[K4 rs 0 hq.1,hq.2]
         simp only[U7,Wf,frzC,frz,Jl,Jd]
         have:look [some ⟨g,ei.size,Xa rs⟩] 0 g=some ⟨g,ei.size,Xa rs⟩:=by simp[look]
         rw[this]
         simp only[JB]
         rw[Jn (by omega),Km h3,N3]
         rfl
     · exact hif.elim
   · exact h.elim
 · exact h.elim
def QI(P:Program)(ops:Array Oper)(o:Oper)(s:List AV)(H:Ji)(K:AV→Prop):Prop:=
 if UA o.op=true then Qx (WQ P s H o.op) K else match o.op with
  | .buildSlice t n ps=>Zv P s t n ps.toList K
  |_=>∃v,Z6 P ops o s H v∧K v
theorem Yx{P:Program}{ops:Array Oper}{o:Oper}{s:List AV}{H:Ji}{K:AV→Prop}(h:QI P ops o s H K):∃v,Z6 P ops o s H v∧K v:=by
 unfold QI at h
 split at h
 · obtain⟨v,h1,h2⟩:=h
   exact⟨v,Z6.val h1,h2⟩
 · split at h
   · rename_i ho;exact WF ho h
   · exact h
def qw(P:Program)(ops:Array Oper):List Oper→List AV→Ji→KS→Prop
 |[],s,H,K=>K s H
 |o::r,s,H,K=>match o.guard with
  |none=>QI P ops o s H fun v=>qw P ops r (QG s o.dst v) H K
  |some (j,want)=>Qx (Zh ops s j) fun g=>ZP g want (QI P ops o s H fun v=>qw P ops r (QG s o.dst v) H K) (qw P ops r (QG s o.dst .void) H K)
def qwK(P:Program)(ops:Array Oper)(r:List Oper)(s:List AV)(d:Option Tmp)(H:Ji)(K:KS):AV→Prop:=fun v=>qw P ops r (QG s d v) H K
def ZO(P:Program)(ops:Array Oper)(o:Oper)(r:List Oper)(s:List AV)(H:Ji)(K:KS)(want:Bool):Option Bool→Prop:=
 fun g=>ZP g want (QI P ops o s H (qwK P ops r s o.dst H K)) (qw P ops r (QG s o.dst .void) H K)
theorem Yw{P:Program}{ops:Array Oper}:∀(l:List Oper) (s:List AV) (H:Ji) (K:KS),qw P ops l s H K→GO P ops l s H fun s'=>K s' H
 |[],s,H,K,h=>h
 |o::r,s,H,K,h=>by
  unfold qw at h
  unfold GO
  split at h
  · rename_i hg
    rw[hg]
    obtain⟨v,h1,h2⟩:=Yx h
    exact⟨v,h1,Yw r _ _ K h2⟩
  · rename_i j want hg
    obtain⟨g,h1,h2,h3⟩:=h
    rw[hg]
    exact⟨g,h1,fun he=>let⟨v,k1,k2⟩:=Yx (h2 he);⟨v,k1,Yw r _ _ K k2⟩,fun he=>Yw r _ _ K (h3 he)⟩
end Go.Lg
