/- LgN, cut to what is needed. -/
import Derived.Test.YtidekghnkifbjaaGreatDoorJea5
open List renaming cons_append → Jb, nil_append → Jc, length_cons → Je, length_nil → Jf, length_append → Jk, take_of_length_le → Js, append_nil → Ju, length_take → JP, drop_zero → JR, mapM_cons → J4, mem_map → Qj, mem_cons → Qn, map_cons → Qr, getElem?_map → Qv, length_drop → Ut
open Nat renaming reduceAdd→zA,reduceMul→zM,reduceSub→zS,reduceEqDiff→zE,reduceLeDiff→zL
set_option linter.unusedSimpArgs false
set_option linter.unusedVariables false
namespace Go.Lg
def Vo:Op→Bool
 | .move _| .assign _| .pick .. | .nilCheck _| .binOp .. | .unOp .. | .convert .. | .fieldAddr .. | .field .. | .indexAddr .. | .index .. | .extract .. | .load .. | .slice .. | .makeFunc .. =>true
 | .call ⟨.builtin .len,_,_⟩| .call ⟨.builtin .min,_,_⟩| .call ⟨.builtin .max,_,_⟩=>true
 |_=>false
def Y4(A B:Prop):Prop:=A∧B
theorem Jiv{B:Prop}:Y4 True B=B:=by simp[Y4]
theorem Jl3{A B:Prop}(h:A):Y4 A B=B:=by simp[Y4,h]
def QP{α:Type}(o:Option α)(F:α→Prop):Prop:=∃v,o=some v∧F v
theorem JeY{α:Type}(x:α)(F:α→Prop):QP (some x) F=F x:=by simp[QP]
theorem Jhv{α:Type}{c:Prop}[Decidable c]{x:Option α}(F:α→Prop):QP (if c then x else none) F=Y4 c (QP x F):=by
 by_cases h:c<;>simp[QP,Y4,h]
def Jjg{α β:Type}(f:α→β)(F:β→Prop):α→Prop:=fun a=>F (f a)
theorem FA{α β:Type}{f:α→β}{x:Option α}(F:β→Prop):QP (x.map f) F=QP x (Jjg f F):=by
 cases x<;>simp[QP,Jjg]
theorem Jjf{α β:Type}(f:α→β)(F:β→Prop)(a:α):Jjg f F a=F (f a):=propext Iff.rfl
def atH(F:KV)(H:Jm):AV→Prop:=fun v=>F v H
theorem JmB(F:KV)(H:Jm)(v:AV):atH F H v=F v H:=propext Iff.rfl
theorem JaR{α β:Type}{P:Program}{w:World}{f:α→Sem β}{g:α→β}:∀(l:List α),(∀x∈l,(f x).run P w= .ok (g x) w)→(l.mapM f).run P w= .ok (l.map g) w
 |[],_=>by simp
 |x::l,h=>by
  rw[J4]
  simp only[Sem.run_bind,h x (by simp),Result.andThen_ok,JaR l fun y hy=>h y (by simp[hy]),Sem.run_pure,Qr]
theorem Jh6{α β:Type}{P:Program}{w:World}{f:α→Sem β}{g:α→β}(as:Array α)(hf:∀x∈as,(f x).run P w= .ok (g x) w):(as.mapM f).run P w= .ok (as.map g) w:=by
 rw[Array.mapM_eq_mapM_toList,Sem.run_map,JaR as.toList fun x hx=>hf x (by simpa using hx),Result.andThen_ok]
 congr 1
 apply Array.ext'
 simp
theorem Jf7{d:TypeDesc}{fs:List (TypeId×Nat)}(h:Re d= .struct fs):∃l:Array Field,d= .struct l∧fs=l.toList.map fun f=>(f.type,f.offset):=by
 cases d<;>simp[Re]at h
 exact⟨_,rfl,h.symm⟩
def Jd8(P:Program)(t:TypeId):Nat:=match JV P t with|some i=>i.size|none=>0
theorem JZ.build{P:Program}{o:Oper}{st:St}{K:AV→Jm→Prop}{t:TypeId}{ti:TI}{fs:List (TypeId×Nat)}{parts:Array (Nat×Operand)}{rs:List (Nat×List CV)}{cs:List CV}
 (ho:o.op= .build t parts) (ht:JV P t=some ti) (hk:ti.k= .struct fs) (hfs:∀f∈fs,(JV P f.1).isSome=true) (hp:Vm st.s parts.toList=some rs)
 (hf:WT (fun i=>(fs.map fun f=>(f.2,Jd8 P f.1))[i]?) ti.zero rs=some cs) (hK:K (.agg cs) st.h):JZ P o st K:=by
 intro w X a R next Q hn
 obtain⟨inf,d,z',h1,h2,h3,h4,h5,h6,h7⟩:=Qi ht
 rw[h5]at hk
 obtain⟨l,rfl,rfl⟩:=Jf7 hk
 obtain⟨z,hz1,hz2,hz3⟩:=Wj ht
 obtain⟨out,o1,o2,o3⟩:=YL R parts.toList ti.zero z.cells rs cs hp hf hz2 (hz3 w X st.h)
 have hparts:(parts.map fun p=>(p.1,a.eval p.2)).toList=parts.toList.map fun p=>(p.1,a.eval p.2):=by simp
 have hmap:(l.mapM (m:=Sem) fun f=>do pure (f.offset,←sizeOf f.type)).run P w= .ok (l.map fun f=>(f.offset,Jd8 P f.type)) w:=by
  refine Jh6 l fun f hf'=> ?_
  have:=hfs (f.type,f.offset) (Qj.2 ⟨f,by simpa using hf',rfl⟩)
  obtain⟨i,hi⟩:=Option.isSome_iff_exists.1 this
  simp only[Sem.run_bind,Zc hi,Result.andThen_ok,Sem.run_pure,Jd8]
  simp only at hi
  rw[hi]
 have hplace:(fun i:Nat=>(((l.toList.map fun f=>(f.type,f.offset)).map fun f=>(f.2,Jd8 P f.1)))[i]?)=fun i:Nat=>(l.map fun f=>(f.offset,Jd8 P f.type))[i]? :=by
  funext i
  simp[Qv]
  rfl
 rw[hplace]at o1
 have hrun:(execOp a.eval o).run P w= .ok (.value (.agg out)) w:=by
  simp only[execOp,ho,Instr.build,Sem.run_bind,hz1,run_underlying h2,Result.andThen_ok,hmap]
  rw[hparts,o1]
  rfl
 refine Z7 hrun (hn (.agg cs) _ X st.h w ?_ R.heap (Ev.refl _ _ _) hK)
 exact .agg _ _ o2 fun j hj=>o3 j hj
theorem JZ.buildA{P:Program}{o:Oper}{st:St}{K:AV→Jm→Prop}{t e:TypeId}{ti ei:TI}{n:Nat}{parts:Array (Nat×Operand)}{rs:List (Nat×List CV)}{cs:List CV}
 (ho:o.op= .build t parts) (ht:JV P t=some ti) (hk:ti.k= .array n e) (he:JV P e=some ei) (hp:Vm st.s parts.toList=some rs)
 (hf:WT (fun i=>some (i*ei.size,ei.size)) ti.zero rs=some cs) (hK:K (.agg cs) st.h):JZ P o st K:=by
 intro w X a R next Q hn
 obtain⟨inf,d,z',h1,h2,h3,h4,h5,h6,h7⟩:=Qi ht
 rw[h5]at hk
 obtain rfl:=GH hk
 obtain⟨z,hz1,hz2,hz3⟩:=Wj ht
 obtain⟨out,o1,o2,o3⟩:=YL R parts.toList ti.zero z.cells rs cs hp hf hz2 (hz3 w X st.h)
 have hparts:(parts.map fun p=>(p.1,a.eval p.2)).toList=parts.toList.map fun p=>(p.1,a.eval p.2):=by simp
 have hrun:(execOp a.eval o).run P w= .ok (.value (.agg out)) w:=by
  simp only[execOp,ho,Instr.build,Sem.run_bind,hz1,run_underlying h2,Result.andThen_ok,Zc he]
  rw[hparts,o1]
  rfl
 refine Z7 hrun (hn (.agg cs) _ X st.h w ?_ R.heap (Ev.refl _ _ _) hK)
 exact .agg _ _ o2 fun j hj=>o3 j hj
def Jbt(P:Program)(H:Jm)(t:TypeId)(p x:AV)(K:KV):Prop:=
 match p,W2 x,JV P t with
 | .c (.ptr id g off),some cs,some ti=>match look H id g with
   |some b=>Y4 (cs.length=ti.size∧off+cs.length≤b.cs.length)<|K .void (H.set id (some ⟨b.g,b.sz,Qk b.cs off cs⟩))
   |none=>False
 |_,_,_=>False
def Rh(H:Jm)(n:Option Nat)(sz:Nat)(cs:List CV)(K:KV):Prop:=
 ∀g,K (match n with|some n=> .c (.own H.length g 0 n none)|none=> .c (.ptr H.length g 0)) (H++[some ⟨g,sz,cs⟩])
def Jce(P:Program)(H:Jm)(t:TypeId)(K:KV):Prop:=
 match JV P t with
 |some ti=>Rh H none ti.size ti.zero K
 |none=>False
def Jjr(H:Jm)(x:AV)(K:KV):Prop:=
 match W2 x with
 |some cs=>Rh H none 1 cs K
 |none=>False
def QW(P:Program)(t:TypeId):Option TI:=
 match JV P t with
 |some ti=>match ti.k with
  | .slice e=>JV P e
  |_=>none
 |none=>none
theorem UF{P:Program}{t:TypeId}{ei:TI}(h:QW P t=some ei):∃ti e,JV P t=some ti∧ti.k= .slice e∧JV P e=some ei:=by
 unfold QW at h
 split at h
 · rename_i ti ht
   split at h
   · rename_i e hk;exact⟨ti,e,ht,hk,h⟩
   · cases h
 · cases h
def Bd(sz:Nat):Nat→List (Nat×List CV)→Bool
 |_,[]=>true
 |i,(j,cs)::r=>decide (j=i)&&(decide (cs.length=sz)&&Bd sz (i+1) r)
def Ri:List (Nat×List CV)→List CV
 |[]=>[]
 |(_,cs)::r=>cs++Ri r
theorem Gb{sz:Nat}:∀(rs:List (Nat×List CV)) (i:Nat),Bd sz i rs=true→(Ri rs).length=rs.length*sz
 |[],_,_=>by simp[Ri]
 |(j,cs)::r,i,h=>by
  simp only[Bd,Bool.and_eq_true,decide_eq_true_eq]at h
  have:=Gb r (i+1) h.2.2
  simp only[Ri,Jk,Je,Nat.add_mul]
  omega
theorem JdC{sz:Nat}:∀(rs:List (Nat×List CV)) (i:Nat) (l:List CV),Bd sz i rs=true→l.length=(i+rs.length)*sz→
 WT (fun i=>some (i*sz,sz)) l rs=some (l.take (i*sz)++Ri rs)
 |[],i,l,_,hl=>by
  simp only[WT,Ri,Ju,Option.some.injEq]
  rw[Js (by simp at hl;omega)]
 |(j,cs)::r,i,l,h,hl=>by
  simp only[Bd,Bool.and_eq_true,decide_eq_true_eq]at h
  obtain⟨rfl,h2,h3⟩:=h
  have e1:(j+(r.length+1))*sz=j*sz+sz+r.length*sz:=by rw[Nat.add_mul,Nat.add_mul];omega
  have e2:(j+1)*sz=j*sz+sz:=by rw[Nat.add_mul];omega
  simp only[Je]at hl
  simp only[WT,h2]
  rw[if_pos ⟨trivial,by omega⟩,JdC r (j+1) _ h3 ?_]
  · have:(Qk l (j*sz) cs).take ((j+1)*sz)=l.take (j*sz)++cs:=by
     have hA:(l.take (j*sz)++cs).length=(j+1)*sz:=by
      rw[Jk,JP,Nat.min_eq_left (by omega),h2,e2]
     simp only[Qk]
     rw[List.take_append_of_le_length (by omega),Js (by omega)]
    rw[this]
    simp[Ri]
  · have e3:(j+1+r.length)*sz=j*sz+sz+r.length*sz:=by rw[Nat.add_mul,Nat.add_mul];omega
    simp only[Qk,Jk,JP,Ut,h2]
    rw[e1]at hl
    rw[Nat.min_eq_left (by omega),e3]
    omega
theorem Jad(n:Nat)(z:List CV):(QX n z).length=n:=by simp[QX]
theorem JdD{sz n:Nat}{z:List CV}{rs:List (Nat×List CV)}(h:Bd sz 0 rs=true∧rs.length=n):WT (fun i=>some (i*sz,sz)) (QX (n*sz) z) rs=some (Ri rs):=by
 rw[JdC rs 0 _ h.1 (by rw[Jad,h.2,Nat.zero_add])]
 simp
def NY(P:Program)(s:List AV)(H:Jm)(t:TypeId)(n:Nat)(ps:List (Nat×Operand))(K:KV):Prop:=
 match QW P t,Vm s ps with
 |some ei,some rs=>if Bd ei.size 0 rs=true∧rs.length=n then Y4 (ei.zero.length=ei.size∧n*ei.size≤16777216)<|Rh H (some n) ei.size (Ri rs) K
  else match WT (fun i=>some (i*ei.size,ei.size)) (QX (n*ei.size) ei.zero) rs with
  |some cs=>Y4 (ei.zero.length=ei.size∧n*ei.size≤16777216)<|Rh H (some n) ei.size cs K
  |none=>False
 |_,_=>False
def cnt(l:Int):Nat:=l.toNat
theorem Jlc(n:Nat):cnt (n:Int)=n:=rfl
theorem Jjh:cnt 0=0:=rfl
def JfB(P:Program)(H:Jm)(t:TypeId)(l c:AV)(K:KV):Prop:=
 match QW P t,l,c with
 |some ei, .c (.f (.int _ l)), .c (.f (.int _ c))=>Y4 (ei.zero.length=ei.size∧(0≤l∧l≤c)∧c≤9223372036854775807∧ei.bytes*c≤281474976710656)<|
  Rh H (some (cnt l)) ei.size (QX (cnt l*ei.size) ei.zero) K
 |_,_,_=>False
def WJ(H:Jm)(ei:TI)(v:AV)(m:Nat)(k:List CV)(K:KV):Prop:=
 if m=0 then K v H else
 match v with
 | .c (.f .nil)=>Y4 (m≤9223372036854775807∧m*ei.bytes≤140737488355328)<|Rh H (some m) ei.size k K
 | .c .emp=>Y4 (m≤9223372036854775807∧m*ei.bytes≤140737488355328)<|Rh H (some m) ei.size k K
 | .c (.own id g off n lim)=>match look H id g with
   |some b=>
    match lim with
    |none=>if b.cs.length=n*ei.size then
      Y4 (b.sz=ei.size∧0<ei.size∧off=0∧n+m≤9223372036854775807∧(n+m)*ei.bytes≤140737488355328)<|∀g',K (.c (.own id g' 0 (n+m) none)) (H.set id (some ⟨g',ei.size,b.cs++k⟩))
     else Y4 (b.sz=ei.size∧0<ei.size∧off+(n+m)*ei.size≤b.cs.length)<|K (.c (.own id g off (n+m) none)) (H.set id (some ⟨b.g,b.sz,Qk b.cs (off+n*ei.size) k⟩))
    |some c=>if c<n+m then
      Y4 (b.sz=ei.size∧n+m≤9223372036854775807∧(n+m)*ei.bytes≤140737488355328)<|Rh H (some (n+m)) ei.size ((b.cs.drop off).take (n*ei.size)++k) K
     else Y4 (b.sz=ei.size∧0<ei.size∧off+(n+m)*ei.size≤b.cs.length)<|K (.c (.own id g off (n+m) (some c))) (H.set id (some ⟨b.g,b.sz,Qk b.cs (off+n*ei.size) k⟩))
   |none=>False
 |_=>False
def J9(P:Program)(H:Jm)(t:TypeId)(v x:AV)(K:KV):Prop:=
 match QW P t with
 |some ei=>if ei.zero.length=ei.size then(match elems H ei.size v,elems H ei.size x with
  |some _,some (m,k)=>WJ H ei v m k K
  |_,_=>False)else False
 |none=>False
def JjR(P:Program)(s:List AV)(H:Jm)(t:TypeId)(ps:List (Nat×Operand))(K:KV):Prop:=
 match JV P t with
 |some ti=>match ti.k with
  | .struct fs=>match Vm s ps with
    |some rs=>match WT (fun i=>(fs.map fun f=>(f.2,Jd8 P f.1))[i]?) ti.zero rs with
     |some cs=>Y4 (∀f∈fs,(JV P f.1).isSome=true)<|K (.agg cs) H
     |none=>False
    |none=>False
  | .array _ e=>match JV P e,Vm s ps with
    |some ei,some rs=>match WT (fun i=>some (i*ei.size,ei.size)) ti.zero rs with
     |some cs=>K (.agg cs) H
     |none=>False
    |_,_=>False
  |_=>False
 |none=>False
def opM(P:Program)(o:Oper)(s:List AV)(H:Jm)(K:KV):Prop:=
 match o.op with
 | .build t ps=>JjR P s H t ps.toList K
 | .store t p x=>Jbt P H t (QY s p) (QY s x) K
 | .alloc t=>Jce P H t K
 | .box _ x=>Jjr H (QY s x) K
 | .buildSlice t n ps=>NY P s H t n ps.toList K
 | .makeSlice t l c=>JfB P H t (QY s l) (QY s c) K
 | .call ⟨.builtin .append,⟨[v,x]⟩,⟨[t,u]⟩⟩=>if t=u then J9 P H t (QY s v) (QY s x) K else False
 |_=>JZ P o ⟨s,H⟩ K
theorem Jhh{H:Jm}{sz:Nat}{l:List CV}{n:Nat}(h:elems H sz (.c (.f .nil))=some (n,l)):n=0∧l=[]:=by cases h;exact⟨rfl,rfl⟩
theorem Jhi{H:Jm}{sz:Nat}{l:List CV}{n:Nat}(h:elems H sz (.c .emp)=some (n,l)):n=0∧l=[]:=by cases h;exact⟨rfl,rfl⟩
theorem JeM{H:Jm}{sz:Nat}{v:AV}{k:List CV}(h:elems H sz v=some (0,k)):k=[]:=by
 unfold elems at h
 split at h
 · cases h;rfl
 · cases h;rfl
 · rename_i n cs
   split at h
   · rename_i hl
     cases h
     have:cs=[]:=List.eq_nil_of_length_eq_zero (by omega)
     simp[this]
   · cases h
 · rename_i id g off n' lim
   split at h
   · split at h
     · cases h;simp
     · cases h
   · cases h
 · cases h
theorem Ja2{P:Program}{o:Oper}{s:List AV}{H:Jm}{K:KV}(h:opM P o s H K):JZ P o ⟨s,H⟩ K:=by
 unfold opM at h
 split at h
 · rename_i t ps ho
   unfold JjR at h
   split at h
   · rename_i ti ht
     split at h
     · rename_i fs hk
       split at h
       · rename_i rs hp
         split at h
         · rename_i cs hf
           exact JZ.build ho ht hk h.1 hp hf h.2
         · exact h.elim
       · exact h.elim
     · rename_i n e hk
       split at h
       · rename_i ei rs he hp
         split at h
         · rename_i cs hf
           exact JZ.buildA ho ht hk he hp hf h
         · exact h.elim
       · exact h.elim
     · exact h.elim
   · exact h.elim
 · rename_i t p x ho
   unfold Jbt at h
   split at h
   · rename_i id g off cs ti hp hx ht
     split at h
     · rename_i b hl
       exact JZ.store ho ht hp hl hx h.1.1 h.1.2 h.2
     · exact h.elim
   · exact h.elim
 · rename_i t ho
   unfold Jce at h
   split at h
   · rename_i ti ht;exact JZ.alloc ho ht h
   · exact h.elim
 · rename_i t x ho
   unfold Jjr at h
   split at h
   · rename_i cs hx;exact JZ.box ho hx h
   · exact h.elim
 · rename_i t n ps ho
   unfold NY at h
   split at h
   · rename_i ei rs h1 h2
     obtain⟨ti,e,k1,k2,k3⟩:=UF h1
     split at h
     · rename_i hq
       exact JZ.buildSlice ho k1 k2 k3 h.1.1 h2 (JdD hq) h.1.2 h.2
     · split at h
       · rename_i cs hf
         exact JZ.buildSlice ho k1 k2 k3 h.1.1 h2 hf h.1.2 h.2
       · exact h.elim
   · exact h.elim
 · rename_i t l c ho
   unfold JfB at h
   split at h
   · rename_i ei _ l' _ c' h1 h2 h3
     obtain⟨ti,e,k1,k2,k3⟩:=UF h1
     obtain⟨⟨q1,⟨q2,q3⟩,q4,q5⟩,q6⟩:=h
     exact JZ.makeSlice ho k1 k2 k3 q1 h2 h3 q2 q3 q4 q5 q6
   · exact h.elim
 · rename_i v x t u ho
   split at h
   · rename_i htu
     subst htu
     have ho:o.op= .call ⟨.builtin .append,#[v,x],#[t,t]⟩:=ho
     unfold J9 at h
     split at h
     · rename_i ei h1
       obtain⟨ti,e,k1,k2,k3⟩:=UF h1
       split at h
       · rename_i hz
         split at h
         · rename_i nl m k hev hex
           obtain⟨n0,l0⟩:=nl
           unfold WJ at h
           split at h
           · rename_i hm
             subst hm
             have:=JeM hex
             subst this
             exact JZ.append_zero ho k1 k2 k3 hev hex h
           · rename_i hm
             split at h
             · rename_i hv
               rw[hv]at hev
               obtain⟨rfl,rfl⟩:=Jhh hev
               refine JZ.append_new (n:=0) (l:=[]) ho k1 k2 k3 hz (by rw[hv];exact hev) hex (by rw[hv];rfl) (by omega) (by have:=h.1.1;omega) (by simpa using h.1.2) fun g=> ?_
               rw[Nat.zero_add];exact h.2 g
             · rename_i hv
               rw[hv]at hev
               obtain⟨rfl,rfl⟩:=Jhi hev
               refine JZ.append_new (n:=0) (l:=[]) ho k1 k2 k3 hz (by rw[hv];exact hev) hex (by rw[hv];rfl) (by omega) (by have:=h.1.1;omega) (by simpa using h.1.2) fun g=> ?_
               rw[Nat.zero_add];exact h.2 g
             · rename_i id g off n lim hv
               split at h
               · rename_i b hl
                 split at h
                 · split at h
                   · rename_i hbl
                     obtain⟨⟨hsz,hpos,rfl,h63,h47⟩,hK⟩:=h
                     exact JZ.append_own ho k1 k2 k3 hz hv hl hsz hbl hex (by omega) h63 h47 hK
                   · obtain⟨⟨hsz,hpos,hle⟩,hK⟩:=h
                     exact JZ.append_in ho k1 k2 k3 hpos hv hl hsz hle (by simp) hex (by omega) hK
                 · rename_i c
                   split at h
                   · rename_i hlim
                     obtain⟨⟨hsz,h63,h47⟩,hK⟩:=h
                     rw[hv]at hev
                     have hev':=hev
                     simp only[elems,hl,hsz,if_true]at hev
                     cases hev
                     refine JZ.append_new ho k1 k2 k3 hz (by rw[hv];exact hev') hex ?_ (by omega) h63 h47 hK
                     rw[hv]
                     simpa[Nh]using hlim
                   · rename_i hlim
                     obtain⟨⟨hsz,hpos,hle⟩,hK⟩:=h
                     exact JZ.append_in ho k1 k2 k3 hpos hv hl hsz hle (by simp;omega) hex (by omega) hK
               · exact h.elim
             · exact h.elim
         · exact h.elim
       · exact h.elim
     · exact h.elim
   · exact h.elim
 · exact h
def opW(P:Program)(o:Oper)(s:List AV)(H:Jm)(K:KV):Prop:=
 if Vo o.op=true then QP (X8 P s H o.op) (atH K H)else opM P o s H K
theorem Ja1{P:Program}{o:Oper}{s:List AV}{H:Jm}{K:KV}(h:opW P o s H K):JZ P o ⟨s,H⟩ K:=by
 unfold opW at h
 split at h
 · obtain⟨v,h1,h2⟩:=h
   exact JZ.val h1 h2
 · exact Ja2 h
def UY(g:Option Bool)(want:Bool)(A B:Prop):Prop:=(g=some want→A)∧(g≠some want→B)
abbrev KS:=List AV→Jm→Prop
mutual
def vw(P:Program)(ops:Array Oper):List Oper→List AV→Jm→KS→Prop
 |[],s,H,K=>K s H
 |o::r,s,H,K=>match o.guard with
  |none=>opW P o s H (fun v H'=>vw P ops r (QV s o.dst v) H' K)
  |some (j,want)=>QP (Um ops s j) fun g=>UY g want (opW P o s H (fun v H'=>vw P ops r (QV s o.dst v) H' K)) (vw P ops r (QV s o.dst .void) H K)
end
def vwK(P:Program)(ops:Array Oper)(r:List Oper)(s:List AV)(d:Option Tmp)(K:KS):KV:=fun v H'=>vw P ops r (QV s d v) H' K
def UZ(P:Program)(ops:Array Oper)(o:Oper)(r:List Oper)(s:List AV)(H:Jm)(K:KS)(want:Bool):Option Bool→Prop:=
 fun g=>UY g want (opW P o s H (vwK P ops r s o.dst K)) (vw P ops r (QV s o.dst .void) H K)
theorem Kk{P:Program}{ops:Array Oper}:∀(l:List Oper) (s:List AV) (H:Jm) (K:KS),vw P ops l s H K→N9 P ops l ⟨s,H⟩ fun st=>K st.s st.h
 |[],s,H,K,h=>h
 |o::r,s,H,K,h=>by
  unfold vw at h
  unfold N9
  split at h
  · rename_i hg
    rw[hg]
    exact(Ja1 h).mono fun v H' hv=>Kk r _ _ K hv
  · rename_i j want hg
    obtain⟨g,h1,h2,h3⟩:=h
    rw[hg]
    exact⟨g,h1,fun he=>(Ja1 (h2 he)).mono fun v H' hv=>Kk r _ _ K hv,fun he=>Kk r _ _ K (h3 he)⟩
def UN(P:Program)(s:List AV)(t:TypeId)(n:Nat)(ps:List (Nat×Operand))(K:AV→Prop):Prop:=
 match QW P t,Vm s ps with
 |some ei,some rs=>match XM (Ri rs)with
  |some xs=>Y4 (ei.zero.length=ei.size∧n*ei.size≤16777216)<|if Bd ei.size 0 rs=true∧rs.length=n then K (.c (.f (.sl n xs)))else False
  |none=>False
 |_,_=>False
theorem Ji3{a b:List CV}{xs:List FV}(h:XM (a++b)=some xs):(∃ys,XM a=some ys)∧∃zs,XM b=some zs:=by
 induction a generalizing xs with
 |nil=>exact⟨⟨[],rfl⟩,xs,h⟩
 |cons c a ih=>
  cases c with
  |f x=>
   simp only[Jb,XM,Option.map_eq_some_iff]at h
   obtain⟨ys,h1,_⟩:=h
   obtain⟨⟨y,hy⟩,hz⟩:=ih h1
   exact⟨⟨x::y,by simp[XM,hy]⟩,hz⟩
  |_=>simp[XM]at h
theorem Jdq:∀{l:List CV} {xs:List FV},XM l=some xs→l.all XP=true
 |[],_,_=>rfl
 |c::l,xs,h=>by
  have:=Fm h
  rw[this]
  simp[XP]
theorem Bq{s:List AV}:∀(ps:List (Nat×Operand)) (rs:List (Nat×List CV)) (xs:List FV),Vm s ps=some rs→XM (Ri rs)=some xs→∀p∈ps,Q2 (QY s p.2)=true
 |[],_,_,_,_=>by simp
 |(i,x)::r,rs,xs,h,hx=>by
  simp only[Vm]at h
  split at h
  · rename_i cs r' h1 h2
    cases h
    simp only[Ri]at hx
    obtain⟨⟨ys,hy⟩,zs,hz⟩:=Ji3 hx
    intro p hp
    rcases Qn.1 hp with rfl|hp
    · have:=Jdq hy
      simp only
      cases hv:QY s x with
      |c c=>
       rw[hv]at h1
       simp only[W2,Option.some.injEq]at h1
       subst h1
       simpa[Q2]using this
      |agg cs'=>
       rw[hv]at h1
       simp only[W2,Option.some.injEq]at h1
       subst h1
       exact this
      |_=>rw[hv]at h1;cases h1
    · exact Bq r r' zs h2 hz p hp
  · cases h
theorem Jdy{H:Jm}{n:Nat}(l:List FV):(l.map CV.f).mapM (frz H n)=some l:=by
 induction l with
 |nil=>rfl
 |cons x l ih=>
  rw[Qr,J4,ih]
  cases n<;>rfl
theorem YV{P:Program}{ops:Array Oper}{o:Oper}{s:List AV}{H:Jm}{K:AV→Prop}{t:TypeId}{n:Nat}{ps:Array (Nat×Operand)}(ho:o.op= .buildSlice t n ps)(h:UN P s t n ps.toList K):∃v,Vw P ops o s H v∧K v:=by
 unfold UN at h
 split at h
 · rename_i ei rs h1 h2
   obtain⟨ti,e,k1,k2,k3⟩:=UF h1
   split at h
   · rename_i xs h3
     obtain⟨⟨hz,h24⟩,hif⟩:=h
     split at hif
     · rename_i hq
       refine⟨_,Vw.ops (fun x hx=> ?_) rfl (fun s' hs'=> ?_),hif⟩
       · rw[ho]at hx
         simp only[Op.operands,List.mem_toArray,Qj]at hx
         obtain⟨p,hp,rfl⟩:=hx
         exact Bq _ _ _ h2 h3 p hp
       · have e2:Vm s' ps.toList=some rs:=by
          rw[WW _ fun p hp=>hs' p.2 (by rw[ho];simp only[Op.operands,List.mem_toArray,Qj];exact⟨p,hp,rfl⟩)]
          exact h2
         refine JZ.buildSlice ho k1 k2 k3 hz e2 (JdD hq) h24 fun g=> ?_
         have hl:(Ri rs).length=n*ei.size:=by rw[Gb rs 0 hq.1,hq.2]
         simp only[Vu,Xw,frzC,frz,Jf,Jc]
         have:look [some ⟨g,ei.size,Ri rs⟩] 0 g=some ⟨g,ei.size,Ri rs⟩:=by simp[look]
         rw[this]
         simp only[JR]
         rw[Js (by omega),Fm h3,Jdy]
         rfl
     · exact hif.elim
   · exact h.elim
 · exact h.elim
def Q0(P:Program)(ops:Array Oper)(o:Oper)(s:List AV)(H:Jm)(K:AV→Prop):Prop:=
 if Vo o.op=true then QP (X8 P s H o.op) K else match o.op with
  | .buildSlice t n ps=>UN P s t n ps.toList K
  |_=>∃v,Vw P ops o s H v∧K v
theorem Bp{P:Program}{ops:Array Oper}{o:Oper}{s:List AV}{H:Jm}{K:AV→Prop}(h:Q0 P ops o s H K):∃v,Vw P ops o s H v∧K v:=by
 unfold Q0 at h
 split at h
 · obtain⟨v,h1,h2⟩:=h
   exact⟨v,Vw.val h1,h2⟩
 · split at h
   · rename_i ho;exact YV ho h
   · exact h
def qw(P:Program)(ops:Array Oper):List Oper→List AV→Jm→KS→Prop
 |[],s,H,K=>K s H
 |o::r,s,H,K=>match o.guard with
  |none=>Q0 P ops o s H fun v=>qw P ops r (QV s o.dst v) H K
  |some (j,want)=>QP (Um ops s j) fun g=>UY g want (Q0 P ops o s H fun v=>qw P ops r (QV s o.dst v) H K) (qw P ops r (QV s o.dst .void) H K)
def qwK(P:Program)(ops:Array Oper)(r:List Oper)(s:List AV)(d:Option Tmp)(H:Jm)(K:KS):AV→Prop:=fun v=>qw P ops r (QV s d v) H K
def UX(P:Program)(ops:Array Oper)(o:Oper)(r:List Oper)(s:List AV)(H:Jm)(K:KS)(want:Bool):Option Bool→Prop:=
 fun g=>UY g want (Q0 P ops o s H (qwK P ops r s o.dst H K)) (qw P ops r (QV s o.dst .void) H K)
theorem Bo{P:Program}{ops:Array Oper}:∀(l:List Oper) (s:List AV) (H:Jm) (K:KS),qw P ops l s H K→Jcg P ops l s H fun s'=>K s' H
 |[],s,H,K,h=>h
 |o::r,s,H,K,h=>by
  unfold qw at h
  unfold Jcg
  split at h
  · rename_i hg
    rw[hg]
    obtain⟨v,h1,h2⟩:=Bp h
    exact⟨v,h1,Bo r _ _ K h2⟩
  · rename_i j want hg
    obtain⟨g,h1,h2,h3⟩:=h
    rw[hg]
    exact⟨g,h1,fun he=>let⟨v,k1,k2⟩:=Bp (h2 he);⟨v,k1,Bo r _ _ K k2⟩,fun he=>Bo r _ _ K (h3 he)⟩
end Go.Lg
