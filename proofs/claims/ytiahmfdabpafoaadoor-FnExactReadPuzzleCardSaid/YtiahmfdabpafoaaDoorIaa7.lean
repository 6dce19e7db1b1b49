/- LgN, cut to what is needed. -/
import Derived.Test.YtiahmfdabpafoaaDoorIaa6
open Nat renaming reduceAdd→zA,reduceMul→zM,reduceSub→zS,reduceEqDiff→zE,reduceLeDiff→zL
set_option linter.unusedSimpArgs false
set_option linter.unusedVariables false
namespace Go.Lg
def isVal:Op→Bool
 | .move _| .assign _| .pick .. | .nilCheck _| .binOp .. | .unOp .. | .convert .. | .fieldAddr .. | .field .. | .indexAddr .. | .index .. | .extract .. | .load .. | .slice .. | .makeFunc .. =>true
 | .call ⟨.builtin .len,_,_⟩| .call ⟨.builtin .min,_,_⟩| .call ⟨.builtin .max,_,_⟩=>true
 |_=>false
def okP(A B:Prop):Prop:=A∧B
theorem okP_true{B:Prop}:okP True B=B:=by simp[okP]
theorem okP_ok{A B:Prop}(h:A):okP A B=B:=by simp[okP,h]
def bindP{α:Type}(o:Option α)(F:α→Prop):Prop:=∃v,o=some v∧F v
theorem bindP_some{α:Type}(x:α)(F:α→Prop):bindP (some x) F=F x:=by simp[bindP]
theorem bindP_ite{α:Type}{c:Prop}[Decidable c]{x:Option α}(F:α→Prop):bindP (if c then x else none) F=okP c (bindP x F):=by
 by_cases h:c<;>simp[bindP,okP,h]
def compF{α β:Type}(f:α→β)(F:β→Prop):α→Prop:=fun a=>F (f a)
theorem bindP_map{α β:Type}{f:α→β}{x:Option α}(F:β→Prop):bindP (x.map f) F=bindP x (compF f F):=by
 cases x<;>simp[bindP,compF]
theorem compF_ap{α β:Type}(f:α→β)(F:β→Prop)(a:α):compF f F a=F (f a):=propext Iff.rfl
def atH(F:KV)(H:Heap):AV→Prop:=fun v=>F v H
theorem atH_ap(F:KV)(H:Heap)(v:AV):atH F H v=F v H:=propext Iff.rfl
theorem run_lmapM{α β:Type}{P:Program}{w:World}{f:α→Sem β}{g:α→β}:∀(l:List α),(∀x∈l,(f x).run P w= .ok (g x) w)→(l.mapM f).run P w= .ok (l.map g) w
 |[],_=>by simp
 |x::l,h=>by
  rw[List.mapM_cons]
  simp only[Sem.run_bind,h x (by simp),Result.andThen_ok,run_lmapM l fun y hy=>h y (by simp[hy]),Sem.run_pure,List.map_cons]
theorem run_mapM{α β:Type}{P:Program}{w:World}{f:α→Sem β}{g:α→β}(as:Array α)(hf:∀x∈as,(f x).run P w= .ok (g x) w):(as.mapM f).run P w= .ok (as.map g) w:=by
 rw[Array.mapM_eq_mapM_toList,Sem.run_map,run_lmapM as.toList fun x hx=>hf x (by simpa using hx),Result.andThen_ok]
 congr 1
 apply Array.ext'
 simp
theorem tk_struct{d:TypeDesc}{fs:List (TypeId×Nat)}(h:tkOf d= .struct fs):∃l:Array Field,d= .struct l∧fs=l.toList.map fun f=>(f.type,f.offset):=by
 cases d<;>simp[tkOf]at h
 exact⟨_,rfl,h.symm⟩
def szOf(P:Program)(t:TypeId):Nat:=match tinf P t with|some i=>i.size|none=>0
theorem OpS.build{P:Program}{o:Oper}{st:St}{K:AV→Heap→Prop}{t:TypeId}{ti:TI}{fs:List (TypeId×Nat)}{parts:Array (Nat×Operand)}{rs:List (Nat×List CV)}{cs:List CV}
 (ho:o.op= .build t parts) (ht:tinf P t=some ti) (hk:ti.k= .struct fs) (hfs:∀f∈fs,(tinf P f.1).isSome=true) (hp:partsV st.s parts.toList=some rs)
 (hf:fillG (fun i=>(fs.map fun f=>(f.2,szOf P f.1))[i]?) ti.zero rs=some cs) (hK:K (.agg cs) st.h):OpS P o st K:=by
 intro w X a R next Q hn
 obtain⟨inf,d,z',h1,h2,h3,h4,h5,h6,h7⟩:=tinf_some ht
 rw[h5]at hk
 obtain⟨l,rfl,rfl⟩:=tk_struct hk
 obtain⟨z,hz1,hz2,hz3⟩:=zero_sound ht
 obtain⟨out,o1,o2,o3⟩:=fill_sound R parts.toList ti.zero z.cells rs cs hp hf hz2 (hz3 w X st.h)
 have hparts:(parts.map fun p=>(p.1,a.eval p.2)).toList=parts.toList.map fun p=>(p.1,a.eval p.2):=by simp
 have hmap:(l.mapM (m:=Sem) fun f=>do pure (f.offset,←sizeOf f.type)).run P w= .ok (l.map fun f=>(f.offset,szOf P f.type)) w:=by
  refine run_mapM l fun f hf'=> ?_
  have:=hfs (f.type,f.offset) (List.mem_map.2 ⟨f,by simpa using hf',rfl⟩)
  obtain⟨i,hi⟩:=Option.isSome_iff_exists.1 this
  simp only[Sem.run_bind,run_sizeOf' hi,Result.andThen_ok,Sem.run_pure,szOf]
  simp only at hi
  rw[hi]
 have hplace:(fun i:Nat=>(((l.toList.map fun f=>(f.type,f.offset)).map fun f=>(f.2,szOf P f.1)))[i]?)=fun i:Nat=>(l.map fun f=>(f.offset,szOf P f.type))[i]? :=by
  funext i
  simp[List.getElem?_map]
  rfl
 rw[hplace]at o1
 have hrun:(execOp a.eval o).run P w= .ok (.value (.agg out)) w:=by
  simp only[execOp,ho,Instr.build,Sem.run_bind,hz1,run_underlying h2,Result.andThen_ok,hmap]
  rw[hparts,o1]
  rfl
 refine wp_value hrun (hn (.agg cs) _ X st.h w ?_ R.heap (Ev.refl _ _ _) hK)
 exact .agg _ _ o2 fun j hj=>o3 j hj
theorem OpS.buildA{P:Program}{o:Oper}{st:St}{K:AV→Heap→Prop}{t e:TypeId}{ti ei:TI}{n:Nat}{parts:Array (Nat×Operand)}{rs:List (Nat×List CV)}{cs:List CV}
 (ho:o.op= .build t parts) (ht:tinf P t=some ti) (hk:ti.k= .array n e) (he:tinf P e=some ei) (hp:partsV st.s parts.toList=some rs)
 (hf:fillG (fun i=>some (i*ei.size,ei.size)) ti.zero rs=some cs) (hK:K (.agg cs) st.h):OpS P o st K:=by
 intro w X a R next Q hn
 obtain⟨inf,d,z',h1,h2,h3,h4,h5,h6,h7⟩:=tinf_some ht
 rw[h5]at hk
 obtain rfl:=tk_array hk
 obtain⟨z,hz1,hz2,hz3⟩:=zero_sound ht
 obtain⟨out,o1,o2,o3⟩:=fill_sound R parts.toList ti.zero z.cells rs cs hp hf hz2 (hz3 w X st.h)
 have hparts:(parts.map fun p=>(p.1,a.eval p.2)).toList=parts.toList.map fun p=>(p.1,a.eval p.2):=by simp
 have hrun:(execOp a.eval o).run P w= .ok (.value (.agg out)) w:=by
  simp only[execOp,ho,Instr.build,Sem.run_bind,hz1,run_underlying h2,Result.andThen_ok,run_sizeOf' he]
  rw[hparts,o1]
  rfl
 refine wp_value hrun (hn (.agg cs) _ X st.h w ?_ R.heap (Ev.refl _ _ _) hK)
 exact .agg _ _ o2 fun j hj=>o3 j hj
def storeM(P:Program)(H:Heap)(t:TypeId)(p x:AV)(K:KV):Prop:=
 match p,avCells x,tinf P t with
 | .c (.ptr id g off),some cs,some ti=>match look H id g with
   |some b=>okP (cs.length=ti.size∧off+cs.length≤b.cs.length)<|K .void (H.set id (some ⟨b.g,b.sz,setRange b.cs off cs⟩))
   |none=>False
 |_,_,_=>False
def newM(H:Heap)(n:Option Nat)(sz:Nat)(cs:List CV)(K:KV):Prop:=
 ∀g,K (match n with|some n=> .c (.own H.length g 0 n none)|none=> .c (.ptr H.length g 0)) (H++[some ⟨g,sz,cs⟩])
def allocM(P:Program)(H:Heap)(t:TypeId)(K:KV):Prop:=
 match tinf P t with
 |some ti=>newM H none ti.size ti.zero K
 |none=>False
def boxM(H:Heap)(x:AV)(K:KV):Prop:=
 match avCells x with
 |some cs=>newM H none 1 cs K
 |none=>False
def sliceOf(P:Program)(t:TypeId):Option TI:=
 match tinf P t with
 |some ti=>match ti.k with
  | .slice e=>tinf P e
  |_=>none
 |none=>none
theorem sliceOf_some{P:Program}{t:TypeId}{ei:TI}(h:sliceOf P t=some ei):∃ti e,tinf P t=some ti∧ti.k= .slice e∧tinf P e=some ei:=by
 unfold sliceOf at h
 split at h
 · rename_i ti ht
   split at h
   · rename_i e hk;exact⟨ti,e,ht,hk,h⟩
   · cases h
 · cases h
def seqOk(sz:Nat):Nat→List (Nat×List CV)→Bool
 |_,[]=>true
 |i,(j,cs)::r=>decide (j=i)&&(decide (cs.length=sz)&&seqOk sz (i+1) r)
def catL:List (Nat×List CV)→List CV
 |[]=>[]
 |(_,cs)::r=>cs++catL r
theorem catL_length{sz:Nat}:∀(rs:List (Nat×List CV)) (i:Nat),seqOk sz i rs=true→(catL rs).length=rs.length*sz
 |[],_,_=>by simp[catL]
 |(j,cs)::r,i,h=>by
  simp only[seqOk,Bool.and_eq_true,decide_eq_true_eq]at h
  have:=catL_length r (i+1) h.2.2
  simp only[catL,List.length_append,List.length_cons,Nat.add_mul]
  omega
theorem fill_seq{sz:Nat}:∀(rs:List (Nat×List CV)) (i:Nat) (l:List CV),seqOk sz i rs=true→l.length=(i+rs.length)*sz→
 fillG (fun i=>some (i*sz,sz)) l rs=some (l.take (i*sz)++catL rs)
 |[],i,l,_,hl=>by
  simp only[fillG,catL,List.append_nil,Option.some.injEq]
  rw[List.take_of_length_le (by simp at hl;omega)]
 |(j,cs)::r,i,l,h,hl=>by
  simp only[seqOk,Bool.and_eq_true,decide_eq_true_eq]at h
  obtain⟨rfl,h2,h3⟩:=h
  have e1:(j+(r.length+1))*sz=j*sz+sz+r.length*sz:=by rw[Nat.add_mul,Nat.add_mul];omega
  have e2:(j+1)*sz=j*sz+sz:=by rw[Nat.add_mul];omega
  simp only[List.length_cons]at hl
  simp only[fillG,h2]
  rw[if_pos ⟨trivial,by omega⟩,fill_seq r (j+1) _ h3 ?_]
  · have:(setRange l (j*sz) cs).take ((j+1)*sz)=l.take (j*sz)++cs:=by
     have hA:(l.take (j*sz)++cs).length=(j+1)*sz:=by
      rw[List.length_append,List.length_take,Nat.min_eq_left (by omega),h2,e2]
     simp only[setRange]
     rw[List.take_append_of_le_length (by omega),List.take_of_length_le (by omega)]
    rw[this]
    simp[catL]
  · have e3:(j+1+r.length)*sz=j*sz+sz+r.length*sz:=by rw[Nat.add_mul,Nat.add_mul];omega
    simp only[setRange,List.length_append,List.length_take,List.length_drop,h2]
    rw[e1]at hl
    rw[Nat.min_eq_left (by omega),e3]
    omega
theorem zerosL_length(n:Nat)(z:List CV):(zerosL n z).length=n:=by simp[zerosL]
theorem fill_all{sz n:Nat}{z:List CV}{rs:List (Nat×List CV)}(h:seqOk sz 0 rs=true∧rs.length=n):fillG (fun i=>some (i*sz,sz)) (zerosL (n*sz) z) rs=some (catL rs):=by
 rw[fill_seq rs 0 _ h.1 (by rw[zerosL_length,h.2,Nat.zero_add])]
 simp
def buildM(P:Program)(s:List AV)(H:Heap)(t:TypeId)(n:Nat)(ps:List (Nat×Operand))(K:KV):Prop:=
 match sliceOf P t,partsV s ps with
 |some ei,some rs=>if seqOk ei.size 0 rs=true∧rs.length=n then okP (ei.zero.length=ei.size∧n*ei.size≤16777216)<|newM H (some n) ei.size (catL rs) K
  else match fillG (fun i=>some (i*ei.size,ei.size)) (zerosL (n*ei.size) ei.zero) rs with
  |some cs=>okP (ei.zero.length=ei.size∧n*ei.size≤16777216)<|newM H (some n) ei.size cs K
  |none=>False
 |_,_=>False
def cnt(l:Int):Nat:=l.toNat
theorem cnt_nat(n:Nat):cnt (n:Int)=n:=rfl
theorem cnt_zero:cnt 0=0:=rfl
def makeM(P:Program)(H:Heap)(t:TypeId)(l c:AV)(K:KV):Prop:=
 match sliceOf P t,l,c with
 |some ei, .c (.f (.int _ l)), .c (.f (.int _ c))=>okP (ei.zero.length=ei.size∧(0≤l∧l≤c)∧c≤9223372036854775807∧ei.bytes*c≤281474976710656)<|
  newM H (some (cnt l)) ei.size (zerosL (cnt l*ei.size) ei.zero) K
 |_,_,_=>False
def appM(H:Heap)(ei:TI)(v:AV)(m:Nat)(k:List CV)(K:KV):Prop:=
 if m=0 then K v H else
 match v with
 | .c (.f .nil)=>okP (m≤9223372036854775807∧m*ei.bytes≤140737488355328)<|newM H (some m) ei.size k K
 | .c .emp=>okP (m≤9223372036854775807∧m*ei.bytes≤140737488355328)<|newM H (some m) ei.size k K
 | .c (.own id g off n lim)=>match look H id g with
   |some b=>
    match lim with
    |none=>if b.cs.length=n*ei.size then
      okP (b.sz=ei.size∧0<ei.size∧off=0∧n+m≤9223372036854775807∧(n+m)*ei.bytes≤140737488355328)<|∀g',K (.c (.own id g' 0 (n+m) none)) (H.set id (some ⟨g',ei.size,b.cs++k⟩))
     else okP (b.sz=ei.size∧0<ei.size∧off+(n+m)*ei.size≤b.cs.length)<|K (.c (.own id g off (n+m) none)) (H.set id (some ⟨b.g,b.sz,setRange b.cs (off+n*ei.size) k⟩))
    |some c=>if c<n+m then
      okP (b.sz=ei.size∧n+m≤9223372036854775807∧(n+m)*ei.bytes≤140737488355328)<|newM H (some (n+m)) ei.size ((b.cs.drop off).take (n*ei.size)++k) K
     else okP (b.sz=ei.size∧0<ei.size∧off+(n+m)*ei.size≤b.cs.length)<|K (.c (.own id g off (n+m) (some c))) (H.set id (some ⟨b.g,b.sz,setRange b.cs (off+n*ei.size) k⟩))
   |none=>False
 |_=>False
def appendM(P:Program)(H:Heap)(t:TypeId)(v x:AV)(K:KV):Prop:=
 match sliceOf P t with
 |some ei=>if ei.zero.length=ei.size then(match elems H ei.size v,elems H ei.size x with
  |some _,some (m,k)=>appM H ei v m k K
  |_,_=>False)else False
 |none=>False
def aggM(P:Program)(s:List AV)(H:Heap)(t:TypeId)(ps:List (Nat×Operand))(K:KV):Prop:=
 match tinf P t with
 |some ti=>match ti.k with
  | .struct fs=>match partsV s ps with
    |some rs=>match fillG (fun i=>(fs.map fun f=>(f.2,szOf P f.1))[i]?) ti.zero rs with
     |some cs=>okP (∀f∈fs,(tinf P f.1).isSome=true)<|K (.agg cs) H
     |none=>False
    |none=>False
  | .array _ e=>match tinf P e,partsV s ps with
    |some ei,some rs=>match fillG (fun i=>some (i*ei.size,ei.size)) ti.zero rs with
     |some cs=>K (.agg cs) H
     |none=>False
    |_,_=>False
  |_=>False
 |none=>False
def opM(P:Program)(o:Oper)(s:List AV)(H:Heap)(K:KV):Prop:=
 match o.op with
 | .build t ps=>aggM P s H t ps.toList K
 | .store t p x=>storeM P H t (evO s p) (evO s x) K
 | .alloc t=>allocM P H t K
 | .box _ x=>boxM H (evO s x) K
 | .buildSlice t n ps=>buildM P s H t n ps.toList K
 | .makeSlice t l c=>makeM P H t (evO s l) (evO s c) K
 | .call ⟨.builtin .append,⟨[v,x]⟩,⟨[t,u]⟩⟩=>if t=u then appendM P H t (evO s v) (evO s x) K else False
 |_=>OpS P o ⟨s,H⟩ K
theorem elems_nil{H:Heap}{sz:Nat}{l:List CV}{n:Nat}(h:elems H sz (.c (.f .nil))=some (n,l)):n=0∧l=[]:=by cases h;exact⟨rfl,rfl⟩
theorem elems_emp{H:Heap}{sz:Nat}{l:List CV}{n:Nat}(h:elems H sz (.c .emp)=some (n,l)):n=0∧l=[]:=by cases h;exact⟨rfl,rfl⟩
theorem elems_zero{H:Heap}{sz:Nat}{v:AV}{k:List CV}(h:elems H sz v=some (0,k)):k=[]:=by
 unfold elems at h
 split at h
 · cases h;rfl
 · cases h;rfl
 · rename_i n cs
   split at h
   · rename_i hl
     cases h
     have:cs=[]:=List.eq_nil_of_length_eq_zero (by omega)
     simp[this]
   · cases h
 · rename_i id g off n' lim
   split at h
   · split at h
     · cases h;simp
     · cases h
   · cases h
 · cases h
theorem opM_sound{P:Program}{o:Oper}{s:List AV}{H:Heap}{K:KV}(h:opM P o s H K):OpS P o ⟨s,H⟩ K:=by
 unfold opM at h
 split at h
 · rename_i t ps ho
   unfold aggM at h
   split at h
   · rename_i ti ht
     split at h
     · rename_i fs hk
       split at h
       · rename_i rs hp
         split at h
         · rename_i cs hf
           exact OpS.build ho ht hk h.1 hp hf h.2
         · exact h.elim
       · exact h.elim
     · rename_i n e hk
       split at h
       · rename_i ei rs he hp
         split at h
         · rename_i cs hf
           exact OpS.buildA ho ht hk he hp hf h
         · exact h.elim
       · exact h.elim
     · exact h.elim
   · exact h.elim
 · rename_i t p x ho
   unfold storeM at h
   split at h
   · rename_i id g off cs ti hp hx ht
     split at h
     · rename_i b hl
       exact OpS.store ho ht hp hl hx h.1.1 h.1.2 h.2
     · exact h.elim
   · exact h.elim
 · rename_i t ho
   unfold allocM at h
   split at h
   · rename_i ti ht;exact OpS.alloc ho ht h
   · exact h.elim
 · rename_i t x ho
   unfold boxM at h
   split at h
   · rename_i cs hx;exact OpS.box ho hx h
   · exact h.elim
 · rename_i t n ps ho
   unfold buildM at h
   split at h
   · rename_i ei rs h1 h2
     obtain⟨ti,e,k1,k2,k3⟩:=sliceOf_some h1
     split at h
     · rename_i hq
       exact OpS.buildSlice ho k1 k2 k3 h.1.1 h2 (fill_all hq) h.1.2 h.2
     · split at h
       · rename_i cs hf
         exact OpS.buildSlice ho k1 k2 k3 h.1.1 h2 hf h.1.2 h.2
       · exact h.elim
   · exact h.elim
 · rename_i t l c ho
   unfold makeM at h
   split at h
   · rename_i ei _ l' _ c' h1 h2 h3
     obtain⟨ti,e,k1,k2,k3⟩:=sliceOf_some h1
     obtain⟨⟨q1,⟨q2,q3⟩,q4,q5⟩,q6⟩:=h
     exact OpS.makeSlice ho k1 k2 k3 q1 h2 h3 q2 q3 q4 q5 q6
   · exact h.elim
 · rename_i v x t u ho
   split at h
   · rename_i htu
     subst htu
     have ho:o.op= .call ⟨.builtin .append,#[v,x],#[t,t]⟩:=ho
     unfold appendM at h
     split at h
     · rename_i ei h1
       obtain⟨ti,e,k1,k2,k3⟩:=sliceOf_some h1
       split at h
       · rename_i hz
         split at h
         · rename_i nl m k hev hex
           obtain⟨n0,l0⟩:=nl
           unfold appM at h
           split at h
           · rename_i hm
             subst hm
             have:=elems_zero hex
             subst this
             exact OpS.append_zero ho k1 k2 k3 hev hex h
           · rename_i hm
             split at h
             · rename_i hv
               rw[hv]at hev
               obtain⟨rfl,rfl⟩:=elems_nil hev
               refine OpS.append_new (n:=0) (l:=[]) ho k1 k2 k3 hz (by rw[hv];exact hev) hex (by rw[hv];rfl) (by omega) (by have:=h.1.1;omega) (by simpa using h.1.2) fun g=> ?_
               rw[Nat.zero_add];exact h.2 g
             · rename_i hv
               rw[hv]at hev
               obtain⟨rfl,rfl⟩:=elems_emp hev
               refine OpS.append_new (n:=0) (l:=[]) ho k1 k2 k3 hz (by rw[hv];exact hev) hex (by rw[hv];rfl) (by omega) (by have:=h.1.1;omega) (by simpa using h.1.2) fun g=> ?_
               rw[Nat.zero_add];exact h.2 g
             · rename_i id g off n lim hv
               split at h
               · rename_i b hl
                 split at h
                 · split at h
                   · rename_i hbl
                     obtain⟨⟨hsz,hpos,rfl,h63,h47⟩,hK⟩:=h
                     exact OpS.append_own ho k1 k2 k3 hz hv hl hsz hbl hex (by omega) h63 h47 hK
                   · obtain⟨⟨hsz,hpos,hle⟩,hK⟩:=h
                     exact OpS.append_in ho k1 k2 k3 hpos hv hl hsz hle (by simp) hex (by omega) hK
                 · rename_i c
                   split at h
                   · rename_i hlim
                     obtain⟨⟨hsz,h63,h47⟩,hK⟩:=h
                     rw[hv]at hev
                     have hev':=hev
                     simp only[elems,hl,hsz,if_true]at hev
                     cases hev
                     refine OpS.append_new ho k1 k2 k3 hz (by rw[hv];exact hev') hex ?_ (by omega) h63 h47 hK
                     rw[hv]
                     simpa[noRoom]using hlim
                   · rename_i hlim
                     obtain⟨⟨hsz,hpos,hle⟩,hK⟩:=h
                     exact OpS.append_in ho k1 k2 k3 hpos hv hl hsz hle (by simp;omega) hex (by omega) hK
               · exact h.elim
             · exact h.elim
         · exact h.elim
       · exact h.elim
     · exact h.elim
   · exact h.elim
 · exact h
def opW(P:Program)(o:Oper)(s:List AV)(H:Heap)(K:KV):Prop:=
 if isVal o.op=true then bindP (opV P s H o.op) (atH K H)else opM P o s H K
theorem opW_sound{P:Program}{o:Oper}{s:List AV}{H:Heap}{K:KV}(h:opW P o s H K):OpS P o ⟨s,H⟩ K:=by
 unfold opW at h
 split at h
 · obtain⟨v,h1,h2⟩:=h
   exact OpS.val h1 h2
 · exact opM_sound h
def guardP(g:Option Bool)(want:Bool)(A B:Prop):Prop:=(g=some want→A)∧(g≠some want→B)
abbrev KS:=List AV→Heap→Prop
mutual
def vw(P:Program)(ops:Array Oper):List Oper→List AV→Heap→KS→Prop
 |[],s,H,K=>K s H
 |o::r,s,H,K=>match o.guard with
  |none=>opW P o s H (fun v H'=>vw P ops r (putS s o.dst v) H' K)
  |some (j,want)=>bindP (guardV ops s j) fun g=>guardP g want (opW P o s H (fun v H'=>vw P ops r (putS s o.dst v) H' K)) (vw P ops r (putS s o.dst .void) H K)
end
def vwK(P:Program)(ops:Array Oper)(r:List Oper)(s:List AV)(d:Option Tmp)(K:KS):KV:=fun v H'=>vw P ops r (putS s d v) H' K
def guardK(P:Program)(ops:Array Oper)(o:Oper)(r:List Oper)(s:List AV)(H:Heap)(K:KS)(want:Bool):Option Bool→Prop:=
 fun g=>guardP g want (opW P o s H (vwK P ops r s o.dst K)) (vw P ops r (putS s o.dst .void) H K)
theorem vw_sound{P:Program}{ops:Array Oper}:∀(l:List Oper) (s:List AV) (H:Heap) (K:KS),vw P ops l s H K→OpsS P ops l ⟨s,H⟩ fun st=>K st.s st.h
 |[],s,H,K,h=>h
 |o::r,s,H,K,h=>by
  unfold vw at h
  unfold OpsS
  split at h
  · rename_i hg
    rw[hg]
    exact(opW_sound h).mono fun v H' hv=>vw_sound r _ _ K hv
  · rename_i j want hg
    obtain⟨g,h1,h2,h3⟩:=h
    rw[hg]
    exact⟨g,h1,fun he=>(opW_sound (h2 he)).mono fun v H' hv=>vw_sound r _ _ K hv,fun he=>vw_sound r _ _ K (h3 he)⟩
def softBuild(P:Program)(s:List AV)(t:TypeId)(n:Nat)(ps:List (Nat×Operand))(K:AV→Prop):Prop:=
 match sliceOf P t,partsV s ps with
 |some ei,some rs=>match icedL (catL rs)with
  |some xs=>okP (ei.zero.length=ei.size∧n*ei.size≤16777216)<|if seqOk ei.size 0 rs=true∧rs.length=n then K (.c (.f (.sl n xs)))else False
  |none=>False
 |_,_=>False
theorem iced_app{a b:List CV}{xs:List FV}(h:icedL (a++b)=some xs):(∃ys,icedL a=some ys)∧∃zs,icedL b=some zs:=by
 induction a generalizing xs with
 |nil=>exact⟨⟨[],rfl⟩,xs,h⟩
 |cons c a ih=>
  cases c with
  |f x=>
   simp only[List.cons_append,icedL,Option.map_eq_some_iff]at h
   obtain⟨ys,h1,_⟩:=h
   obtain⟨⟨y,hy⟩,hz⟩:=ih h1
   exact⟨⟨x::y,by simp[icedL,hy]⟩,hz⟩
  |_=>simp[icedL]at h
theorem iced_frozen:∀{l:List CV} {xs:List FV},icedL l=some xs→l.all frozenC=true
 |[],_,_=>rfl
 |c::l,xs,h=>by
  have:=icedL_get h
  rw[this]
  simp[frozenC]
theorem parts_frozen{s:List AV}:∀(ps:List (Nat×Operand)) (rs:List (Nat×List CV)) (xs:List FV),partsV s ps=some rs→icedL (catL rs)=some xs→∀p∈ps,frozenA (evO s p.2)=true
 |[],_,_,_,_=>by simp
 |(i,x)::r,rs,xs,h,hx=>by
  simp only[partsV]at h
  split at h
  · rename_i cs r' h1 h2
    cases h
    simp only[catL]at hx
    obtain⟨⟨ys,hy⟩,zs,hz⟩:=iced_app hx
    intro p hp
    rcases List.mem_cons.1 hp with rfl|hp
    · have:=iced_frozen hy
      simp only
      cases hv:evO s x with
      |c c=>
       rw[hv]at h1
       simp only[avCells,Option.some.injEq]at h1
       subst h1
       simpa[frozenA]using this
      |agg cs'=>
       rw[hv]at h1
       simp only[avCells,Option.some.injEq]at h1
       subst h1
       exact this
      |_=>rw[hv]at h1;cases h1
    · exact parts_frozen r r' zs h2 hz p hp
  · cases h
theorem frz_list{H:Heap}{n:Nat}(l:List FV):(l.map CV.f).mapM (frz H n)=some l:=by
 induction l with
 |nil=>rfl
 |cons x l ih=>
  rw[List.map_cons,List.mapM_cons,ih]
  cases n<;>rfl
theorem softBuild_sound{P:Program}{ops:Array Oper}{o:Oper}{s:List AV}{H:Heap}{K:AV→Prop}{t:TypeId}{n:Nat}{ps:Array (Nat×Operand)}(ho:o.op= .buildSlice t n ps)(h:softBuild P s t n ps.toList K):∃v,Soft P ops o s H v∧K v:=by
 unfold softBuild at h
 split at h
 · rename_i ei rs h1 h2
   obtain⟨ti,e,k1,k2,k3⟩:=sliceOf_some h1
   split at h
   · rename_i xs h3
     obtain⟨⟨hz,h24⟩,hif⟩:=h
     split at hif
     · rename_i hq
       refine⟨_,Soft.ops (fun x hx=> ?_) rfl (fun s' hs'=> ?_),hif⟩
       · rw[ho]at hx
         simp only[Op.operands,List.mem_toArray,List.mem_map]at hx
         obtain⟨p,hp,rfl⟩:=hx
         exact parts_frozen _ _ _ h2 h3 p hp
       · have e2:partsV s' ps.toList=some rs:=by
          rw[partsV_congr _ fun p hp=>hs' p.2 (by rw[ho];simp only[Op.operands,List.mem_toArray,List.mem_map];exact⟨p,hp,rfl⟩)]
          exact h2
         refine OpS.buildSlice ho k1 k2 k3 hz e2 (fill_all hq) h24 fun g=> ?_
         have hl:(catL rs).length=n*ei.size:=by rw[catL_length rs 0 hq.1,hq.2]
         simp only[frzA,frz1,frzC,frz,List.length_nil,List.nil_append]
         have:look [some ⟨g,ei.size,catL rs⟩] 0 g=some ⟨g,ei.size,catL rs⟩:=by simp[look]
         rw[this]
         simp only[List.drop_zero]
         rw[List.take_of_length_le (by omega),icedL_get h3,frz_list]
         rfl
     · exact hif.elim
   · exact h.elim
 · exact h.elim
def quietW(P:Program)(ops:Array Oper)(o:Oper)(s:List AV)(H:Heap)(K:AV→Prop):Prop:=
 if isVal o.op=true then bindP (opV P s H o.op) K else match o.op with
  | .buildSlice t n ps=>softBuild P s t n ps.toList K
  |_=>∃v,Soft P ops o s H v∧K v
theorem quietW_sound{P:Program}{ops:Array Oper}{o:Oper}{s:List AV}{H:Heap}{K:AV→Prop}(h:quietW P ops o s H K):∃v,Soft P ops o s H v∧K v:=by
 unfold quietW at h
 split at h
 · obtain⟨v,h1,h2⟩:=h
   exact⟨v,Soft.val h1,h2⟩
 · split at h
   · rename_i ho;exact softBuild_sound ho h
   · exact h
def qw(P:Program)(ops:Array Oper):List Oper→List AV→Heap→KS→Prop
 |[],s,H,K=>K s H
 |o::r,s,H,K=>match o.guard with
  |none=>quietW P ops o s H fun v=>qw P ops r (putS s o.dst v) H K
  |some (j,want)=>bindP (guardV ops s j) fun g=>guardP g want (quietW P ops o s H fun v=>qw P ops r (putS s o.dst v) H K) (qw P ops r (putS s o.dst .void) H K)
def qwK(P:Program)(ops:Array Oper)(r:List Oper)(s:List AV)(d:Option Tmp)(H:Heap)(K:KS):AV→Prop:=fun v=>qw P ops r (putS s d v) H K
def guardQ(P:Program)(ops:Array Oper)(o:Oper)(r:List Oper)(s:List AV)(H:Heap)(K:KS)(want:Bool):Option Bool→Prop:=
 fun g=>guardP g want (quietW P ops o s H (qwK P ops r s o.dst H K)) (qw P ops r (putS s o.dst .void) H K)
theorem qw_sound{P:Program}{ops:Array Oper}:∀(l:List Oper) (s:List AV) (H:Heap) (K:KS),qw P ops l s H K→OpsF P ops l s H fun s'=>K s' H
 |[],s,H,K,h=>h
 |o::r,s,H,K,h=>by
  unfold qw at h
  unfold OpsF
  split at h
  · rename_i hg
    rw[hg]
    obtain⟨v,h1,h2⟩:=quietW_sound h
    exact⟨v,h1,qw_sound r _ _ K h2⟩
  · rename_i j want hg
    obtain⟨g,h1,h2,h3⟩:=h
    rw[hg]
    exact⟨g,h1,fun he=>let⟨v,k1,k2⟩:=quietW_sound (h2 he);⟨v,k1,qw_sound r _ _ K k2⟩,fun he=>qw_sound r _ _ K (h3 he)⟩
end Go.Lg
