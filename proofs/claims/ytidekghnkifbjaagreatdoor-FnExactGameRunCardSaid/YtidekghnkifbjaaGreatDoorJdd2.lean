/- GpHA, LgU2, cut to what is needed. -/
import Derived.Test.YtidekghnkifbjaaGreatDoorJdc2
import Derived.Test.YtidekghnkifbjaaGreatDoorJdb0
open List renaming length_cons → Ja, nil_append → Jd, getElem?_set_ne → Ji, length_set → Jp, length_take → JX, nodup_append → JZ, drop_zero → J1, mem_map → Qg, nodup_cons → Zx
open Nat renaming reduceAdd→zA,reduceMul→zM,reduceSub→zS,reduceEqDiff→zE,reduceLeDiff→zL
set_option linter.unusedSimpArgs false
set_option linter.unusedVariables false
set_option maxRecDepth 100000
namespace Go.Lg
open Go.Proofs
def JkP(n:Nat)(s:List Int):Prop:=Zd s n∧∀k:Nat,k<n*n→0<Jy s k
def X6(xs s:List Int):Prop:=∀k:Nat,0<Jy xs k→Jy s k=Jy xs k
instance(xs s:List Int):Decidable (X6 xs s):=decidable_of_iff (∀k,k<xs.length→0<Jy xs (k:Int)→Jy s (k:Int)=Jy xs (k:Int)) ⟨fun h k hk=>by
 by_cases hl:k<xs.length
 · exact h k hl hk
 · rw[W9 (by omega)]at hk;omega,fun h k _=>h k⟩
theorem X6.refl(xs:List Int):X6 xs xs:=fun _ _=>rfl
theorem X6.trans{a b c:List Int}(h:X6 a b)(k:X6 b c):X6 a c:=fun i hi=>by
 have:=h i hi
 rw[k i (by omega),this]
theorem X6.set{xs:List Int}{i:Nat}{v:Int}(hi:i<xs.length)(h0:¬0<Jy xs i):X6 xs (xs.set i v):=fun k hk=>by
 rw[Za _ _ _ _ hi,if_neg (fun h=>by subst h;exact h0 hk)]
theorem X6.of_set{xs s:List Int}{i:Nat}{v:Int}(hi:i<xs.length)(h:X6 xs s)(hv:Jy s i=v):X6 (xs.set i v) s:=fun k hk=>by
 rw[Za _ _ _ _ hi]at hk⊢
 split
 · rename_i hki;subst hki;exact hv
 · rename_i hki;rw[if_neg hki]at hk;exact h k hk
theorem RA(p:QR)(n:Nat):∀(m:Nat) (xs:List Int),QJ p xs n=true→∀s∈ZB p n m xs,QJ p s n=true
 |0,xs,hf,s,hs=>by rw[ZB,List.mem_singleton]at hs;subst hs;exact hf
 |m+1,xs,hf,s,hs=>by
  rw[WV p n m xs rfl]at hs
  split at hs
  · exact RA p n m xs hf s hs
  · obtain⟨v,hv,hs⟩:=List.mem_flatMap.1 hs
    split at hs
    · rename_i h;exact RA p n m _ h s hs
    · simp at hs
theorem Jia{n v:Nat}(h:1≤v∧v≤n):v∈vals n 1:=by
 unfold vals
 rw[Nat.sub_self,J1,Qg]
 exact⟨v -1,List.mem_range.2 (by omega),by omega⟩
theorem Jdu(n:Nat):(vals n 1).Nodup:=by
 unfold vals
 rw[Nat.sub_self,J1]
 exact List.pairwise_map.2 ((List.nodup_range (n:=n)).imp fun h=>by omega)
theorem Wl{p:QR}{n:Nat}(hp:Uq p n){s:List Int}(hs:JkP n s)(hf:QJ p s n=true):∀(m:Nat) (xs:List Int),m≤n*n→Zd xs n→(∀k:Nat,k<n*n -m→0<Jy xs k)→X6 xs s→s∈ZB p n m xs
 |0,xs,hm,hg,hk,he=>by
  rw[ZB,List.mem_singleton]
  refine V0 (by rw[hs.1.len,hg.len]) fun j hj=>he j (hk j (by rw[hs.1.len]at hj;omega))
 |m+1,xs,hm,hg,hk,he=>by
  have hxl:=hg.len
  obtain⟨i,hi⟩:∃i,i=xs.length -(m+1):=⟨_,rfl⟩
  have hil:i<xs.length:=by omega
  rw[WV p n m xs hi.symm]
  split
  · rename_i h0
    refine Wl hp hs hf m xs (by omega) hg (fun k hk'=> ?_) he
    by_cases hki:k=i
    · rw[hki];exact h0
    · exact hk k (by omega)
  · rename_i h0
    have hv:=hs.1.val i (by rw[hs.1.len];omega)
    have hv0:=hs.2 i (by omega)
    obtain⟨v,hvv⟩:∃v:Nat,Jy s i=v:=⟨(Jy s i).toNat,by omega⟩
    refine List.mem_flatMap.2 ⟨v,Jia (by omega), ?_⟩
    have hes:=X6.of_set (v:=(v:Int)) hil he hvv
    have hgs:=hg.set (v:=v) hil (by omega)
    rw[if_pos (XW hp hgs hs.1 hes hf)]
    refine Wl hp hs hf m _ (by omega) hgs (fun k hk'=> ?_) hes
    rw[Za _ _ _ _ hil]
    split
    · omega
    · exact hk k (by omega)
theorem Yd(p:QR){n:Nat}:∀(m:Nat) (xs:List Int),m≤n*n→Zd xs n→(∀k:Nat,k<n*n -m→0<Jy xs k)→(ZB p n m xs).Nodup
 |0,xs,_,_,_=>by rw[ZB];simp
 |m+1,xs,hm,hg,hk=>by
  have hxl:=hg.len
  obtain⟨i,hi⟩:∃i,i=xs.length -(m+1):=⟨_,rfl⟩
  have hil:i<xs.length:=by omega
  rw[WV p n m xs hi.symm]
  split
  · rename_i h0
    refine Yd p m xs (by omega) hg fun k hk'=> ?_
    by_cases hki:k=i
    · rw[hki];exact h0
    · exact hk k (by omega)
  · have hkv:∀v:Nat,1≤v→∀k:Nat,k<n*n -m→0<Jy (xs.set i (v:Int)) k:=fun v hv k hk'=>by
     rw[Za _ _ _ _ hil]
     split
     · omega
     · exact hk k (by omega)
    rw[List.Nodup,List.pairwise_flatMap]
    refine⟨fun v hv=> ?_,(Jdu n).imp_of_mem fun{a b} ha hb hab x hx y hy hxy=> ?_⟩
    · have hvb:=Rx hv
      split
      · exact Yd p m _ (by omega) (hg.set hil hvb.2) (hkv v hvb.1)
      · simp
    · subst hxy
      have hav:=Rx ha
      have hbv:=Rx hb
      split at hx
      · split at hy
        · have h1:=(WW p m _ (by omega) (hg.set hil hav.2) (hkv a hav.1) x hx).2.2 i (by rw[Za _ _ _ _ hil,if_pos rfl];omega)
          have h2:=(WW p m _ (by omega) (hg.set hil hbv.2) (hkv b hbv.1) x hy).2.2 i (by rw[Za _ _ _ _ hil,if_pos rfl];omega)
          rw[Za _ _ _ _ hil,if_pos rfl]at h1 h2
          omega
        · simp at hy
      · simp at hx
def JeA(p:QR):List (List Int):=if JA p=true∧QJ p p.given p.size.toNat=true then ZB p p.size.toNat (p.size.toNat*p.size.toNat) p.given else[]
def Jjn(p:QR)(s:List Int):Prop:=JkP p.size.toNat s∧X6 p.given s∧QJ p s p.size.toNat=true
theorem WX{p:QR}(hv:JA p=true):Uq p p.size.toNat∧Zd p.given p.size.toNat:=by
 obtain⟨hp,hz⟩:=Uq.of hv
 exact⟨hp,Zd.of hp.hn (xs:=p.given) (by rw[hz];exact U5 hv)⟩
theorem Nu{p:QR}(hv:JA p=true)(s:List Int):s∈JeA p↔Jjn p s:=by
 obtain⟨hp,hg⟩:=WX hv
 unfold JeA
 constructor
 · intro h
   split at h
   · rename_i hf
     obtain⟨q1,q2,q3⟩:=WW p _ _ (Nat.le_refl _) hg (fun k hk=>absurd hk (by omega)) s h
     exact⟨⟨q1,q2⟩,q3,RA p _ _ _ hf.2 s h⟩
   · simp at h
 · rintro⟨h1,h2,h3⟩
   rw[if_pos ⟨hv,XW hp hg h1.1 h2 h3⟩]
   exact Wl hp h1 h3 _ _ (Nat.le_refl _) hg (fun k hk=>absurd hk (by omega)) h2
theorem Jez(p:QR):(JeA p).Nodup:=by
 unfold JeA
 split
 · rename_i h
   exact Yd p _ _ (Nat.le_refl _) (WX h.1).2 (fun k hk=>absurd hk (by omega))
 · simp
theorem GD{α:Type}[DecidableEq α]:∀{a b:List α},a.Nodup→(∀x∈a,x∈b)→a.length≤b.length
 |[],_,_,_=>by simp
 |x::a,b,hn,hs=>by
  rw[Zx]at hn
  have hx:=hs x (by simp)
  have:=GD (a:=a) (b:=b.erase x) hn.2 fun y hy=>by
   have hyb:=hs y (by simp[hy])
   exact(List.mem_erase_of_ne (fun h=>hn.1 (by rw[←h];exact hy))).2 hyb
  rw[List.length_erase_of_mem hx]at this
  have:=List.length_pos_of_mem hx
  simp only[Ja]
  omega
theorem Jh3{α:Type}[DecidableEq α]{a b:List α}(ha:a.Nodup)(hb:b.Nodup)(h:∀x,x∈a↔x∈b):a.length=b.length:=
 Nat.le_antisymm (GD ha fun x hx=>(h x).1 hx) (GD hb fun x hx=>(h x).2 hx)
theorem Jkt{p:QR}(hv:JA p=true){xs:List Int}(hx:Zd xs p.size.toNat)(s:List Int):s∈(if QJ p (Zr p.given xs) p.size.toNat=true∧clear p xs=true then ZB p p.size.toNat (p.size.toNat*p.size.toNat) (Zr p.given xs)else[])↔Jjn p s∧X6 xs s:=by
 obtain⟨hp,hg⟩:=WX hv
 have hw:=WS hg hx
 have hlen:xs.length=p.given.length:=by rw[hx.len,hg.len]
 constructor
 · intro h
   split at h
   · rename_i hf
     obtain⟨q1,q2,q3⟩:=WW p _ _ (Nat.le_refl _) hw (fun k hk=>absurd hk (by omega)) s h
     have hhas:=No hg hx hf.2
     refine⟨⟨⟨q1,q2⟩,fun k hk=> ?_,RA p _ _ _ hf.1 s h⟩,fun k hk=> ?_⟩
     · have:=hhas k hk
       rw[q3 k (by omega),this]
     · have hkl:k<p.given.length:=by
        by_cases hkl:k<xs.length
        · omega
        · rw[W9 (by omega)]at hk;omega
       have e:=Vi (b:=xs) hkl
       rw[if_pos hk]at e
       rw[q3 k (by omega),e]
   · simp at h
 · rintro⟨⟨h1,h2,h3⟩,h4⟩
   have hc:clear p xs=true:=by
    simp only[clear,decide_eq_true_eq]
    rintro k hk ⟨a,b,c⟩
    have:=h2 k a
    have:=h4 k b
    omega
   have hew:X6 (Zr p.given xs) s:=fun k hk=>by
    by_cases hkl:k<p.given.length
    · rw[Vi hkl]at hk⊢
      split
      · rename_i h;exact h4 k h
      · rename_i h;rw[if_neg h]at hk;exact h2 k hk
    · rw[W9 (by rw[Zp];omega)]at hk;omega
   rw[if_pos ⟨XW hp hw h1.1 hew h3,hc⟩]
   exact Wl hp h1 h3 _ _ (Nat.le_refl _) hw (fun k hk=>absurd hk (by omega)) hew
theorem JgD{p:QR}(hv:JA p=true){xs:List Int}(hx:Zd xs p.size.toNat):(if QJ p (Zr p.given xs) p.size.toNat=true∧clear p xs=true then ZB p p.size.toNat (p.size.toNat*p.size.toNat) (Zr p.given xs)else[]).Nodup:=by
 obtain⟨hp,hg⟩:=WX hv
 split
 · exact Yd p _ _ (Nat.le_refl _) (WS hg hx) (fun k hk=>absurd hk (by omega))
 · simp
def JgE(p:QR)(xs:List Int):List (List Int):=(JeA p).filter fun s=>decide (X6 xs s)
theorem Jku{p:QR}(hv:JA p=true){xs:List Int}(hx:Zd xs p.size.toNat)(most:Nat):(Ni p p.size.toNat xs most).length=min most (JgE p xs).length:=by
 have h:=Jh3 (JgD hv hx) ((Jez p).filter _) (b:=JgE p xs) fun s=>by
  rw[Jkt hv hx,JgE,List.mem_filter,Nu hv,decide_eq_true_eq]
 rw[←h]
 unfold Ni
 split
 · rw[JX]
 · simp
end Go.Lg

namespace Go.Lg
def Jfe:Op→Bool
 | .extract _ _=>true
 |_=>false
def JeW(ops:Array Oper)(π:List Nat)(F:List Nat)(D:Option Nat)(σ:List Nat)(r:Nat):Bool:=
 ((List.range ops.size).all fun i=>match ops[i]? with|some o=>o.after.all fun e=> !Region.binds .any e||decide (e.on<i)|none=>true)&&
 ((List.range ops.size).all fun i=>π.contains i||σ.contains i)&&(π++σ).all (fun i=>decide (i<ops.size))&&decide (π++σ).Nodup&&
 V7.pairsB (fun i j=> !(QY ops ops.size i j)&&(!(UP ops i j||UP ops j i)||QY ops ops.size j i)&&(Ym ops F D i||QY ops ops.size j i)) π&&
 (match D with|some d=>(match ops[d]? with|some o=>o.guard.isNone&&(match o.op with| .alloc _=>true| .makeSlice .. =>true|_=>false)|none=>false)&&π.all (fun i=>decide (i=d)|| !UP ops i d)|none=>true)&&
 σ.all (fun i=>π.all fun j=>QY ops ops.size i j||(j==r&& !(UP ops i r||UP ops r i)))&&V7.pairsB (fun i j=>QY ops ops.size j i) σ&&
 (π.contains r&&(D !=some r&&(match ops[r]? with|some o=>o.guard.isNone&&(Jfe o.op&&o.dst.isSome)|none=>false)))&&σ.all (fun i=>match ops[i]? with|some o=>o.guard.isNone|none=>false)
structure Jk2(ops:Array Oper)(π:List Nat)(F:List Nat)(D:Option Nat)(σ:List Nat)(r:Nat):Prop where
 back:∀(i:Nat) (o:Oper),ops[i]? =some o→∀e∈o.after,Region.binds .any e=true→e.on<i
 cover:∀i,i<ops.size→i∈π∨i∈σ
 inb:∀i,i∈π++σ→i<ops.size
 nd:(π++σ).Nodup
 ord:∀(l1 l2 l3:List Nat) (i j:Nat),π=l1++i::l2++j::l3→QY ops ops.size i j=false∧(YF ops i j∨QY ops ops.size j i=true)∧(Ym ops F D i=true∨QY ops ops.size j i=true)
 gh:∀d,D=some d→(∃o,ops[d]? =some o∧o.guard=none∧Ve o.op=false)∧∀i∈π,i≠d→UP ops i d=false
 last:∀i∈σ,∀j∈π,QY ops ops.size i j=true∨(j=r∧YF ops i r)
 seq:∀(l1 l2 l3:List Nat) (i j:Nat),σ=l1++i::l2++j::l3→QY ops ops.size j i=true
 rp:r∈π∧D≠some r
 re:∃d x n t p e,ops[r]? =some ⟨some d, .extract x n,t,p,e,none⟩
 sg:∀i∈σ,∀o,ops[i]? =some o→o.guard=none
theorem JhN{ops:Array Oper}{π:List Nat}{F:List Nat}{D:Option Nat}{σ:List Nat}{r:Nat}(h:JeW ops π F D σ r=true):Jk2 ops π F D σ r:=by
 unfold JeW at h
 simp only[Bool.and_eq_true]at h
 obtain⟨⟨⟨⟨⟨⟨⟨⟨⟨h1,h2⟩,h3⟩,h4⟩,h5⟩,h6⟩,h7⟩,h8⟩,h9,h10,h11⟩,h12⟩:=h
 refine⟨fun i o ho e he hb=> ?_,fun i hi=> ?_,fun i hi=> ?_,of_decide_eq_true h4,fun l1 l2 l3 i j hp=> ?_,fun d hd=> ?_,fun i hi j hj=> ?_,fun l1 l2 l3 i j hp=> ?_,⟨by simpa using h9,by simpa using h10⟩, ?_,fun i hi o ho=> ?_⟩
 · have hi:i<ops.size:=(Array.getElem?_eq_some_iff.1 ho).1
   have:=List.all_eq_true.1 h1 i (List.mem_range.2 hi)
   simp only[ho]at this
   have h2:=Array.all_eq_true'.1 this e he
   simpa[hb]using h2
 · have:=List.all_eq_true.1 h2 i (List.mem_range.2 hi)
   simpa using this
 · simpa using List.all_eq_true.1 h3 i hi
 · have:=W8 h5 ⟨l3,hp⟩
   simp only[Bool.and_eq_true,Bool.or_eq_true,Bool.not_eq_true']at this
   refine⟨this.1.1,this.1.2.imp (fun h=> ?_) id,this.2⟩
   have h:=Bool.or_eq_false_iff.1 h
   exact⟨h.1,h.2⟩
 · subst hd
   simp only[Bool.and_eq_true]at h6
   refine⟨?_,fun i hi hne=> ?_⟩
   · cases ho:ops[d]? with
     |none=>rw[ho]at h6;cases h6.1
     |some o=>
      rw[ho]at h6
      simp only[Bool.and_eq_true,Option.isNone_iff_eq_none]at h6
      refine⟨o,rfl,h6.1.1, ?_⟩
      have:=h6.1.2
      split at this
      · rename_i q;rw[q];rfl
      · rename_i q;rw[q];rfl
      · cases this
   · have:=List.all_eq_true.1 h6.2 i hi
     simpa[hne]using this
 · have:=List.all_eq_true.1 (List.all_eq_true.1 h7 i hi) j hj
   simp only[Bool.or_eq_true,Bool.and_eq_true,Bool.not_eq_true',beq_iff_eq]at this
   refine this.imp id fun⟨e1,e2⟩=>⟨e1, ?_⟩
   have h:=Bool.or_eq_false_iff.1 e2
   exact⟨h.1,h.2⟩
 · exact W8 (f:=fun i j=>QY ops ops.size j i) h8 ⟨l3,hp⟩
 · cases ho:ops[r]? with
   |none=>rw[ho]at h11;cases h11
   |some o=>
    rw[ho]at h11
    simp only[Bool.and_eq_true,Option.isNone_iff_eq_none]at h11
    obtain⟨d,op,t,p,e,g⟩:=o
    obtain⟨g1,g2,g3⟩:=h11
    simp only at g1 g2 g3
    subst g1
    cases d with
    |none=>cases g3
    |some d=>
     cases op with
     |extract x n=>exact⟨d,x,n,t,p,e,rfl⟩
     |_=>cases g2
 · have:=List.all_eq_true.1 h12 i hi
   rw[ho]at this
   simpa using this
section
variable{P:Program}{ops:Array Oper}{m:List Bool}{π σ:List Nat}{F:List Nat}{D:Option Nat}{r:Nat}{w0:World}{X0:Cx}{H0:Jn}{K:KS}
def swL(P:Program)(ops:Array Oper):List Nat→List AV→Jn→KS→Prop
 |[],s,H,K=>K s H
 |i::l,s,H,K=>match ops[i]? with
  |none=>False
  |some o=>JG P ops o s H fun v H'=>swL P ops l (QK s o.dst v) H' K
def StR(P:Program)(ops:Array Oper)(m:List Bool)(π σ:List Nat)(F:List Nat)(D:Option Nat)(r:Nat)(w0:World)(X0:Cx)(H0:Jn)(K:KS)(L:Array Bool)(a:Act)(w:World):Prop:=
 ∃X H s,Ev w0 X0 H0 w X H∧Xk w X a ⟨s,H⟩∧
  ((ZM π L≠[]∧∃G,(∀e,G=some e→GhI w0 w X H a e∧∃d o,D=some d∧ops[d]? =some o∧o.dst=some e.d∧L.getD d false=true)∧lw P ops m F D (ZM π L) G s H (fun s H=>swL P ops σ s H K)∧ZM σ L=σ)∨
   (ZM π L=[]∧swL P ops (ZM σ L) s H K)∨
   (ZM π L=[r]∧∃o d v,ops[r]? =some o∧o.dst=some d∧Jfe o.op=true∧o.guard=none∧XF P s [] o.op=some v∧swL P ops (ZM σ L) (s.set d v) H K))
structure Jma(P:Program)(ops:Array Oper)(m:List Bool)(π σ:List Nat)(F:List Nat)(D:Option Nat)(r:Nat)(w0:World)(X0:Cx)(H0:Jn)(K:KS)(L:Array Bool)(a:Act)(w:World):Prop where
 size:L.size=ops.size
 closed:B6 ops L
 st:StR P ops m π σ F D r w0 X0 H0 K L a w
theorem Jc6{P:Program}{s:List AV}{H H':Jn}{op:Op}(h:Jfe op=true):XF P s H op=XF P s H' op:=by
 cases op<;>first|rfl|cases h
theorem Jfn{s:List AV}{d:Nat}{v:AV}{x:Operand}(h:∀t,x= .tmp t→t≠d):QO (s.set d v) x=QO s x:=by
 cases x with
 |tmp t=>
  have:=h t rfl
  show(s.set d v).getD t .void=s.getD t .void
  simp only[List.getD,Ji (Ne.symm this)]
 |_=>rfl
theorem Jex{Q:Exit→Act→World→Prop}(hB:Jk2 ops π F D σ r)(hQ:∀L a w,Jma P ops m π σ F D r w0 X0 H0 K L a w→(∀i,i<ops.size→L.getD i false=true)→Q .normal a w):
 ∀(fuel:Nat) (L:Array Bool) (a:Act) (w:World),((List.range ops.size).filter fun i=> !L.getD i false).length=fuel→Jma P ops m π σ F D r w0 X0 H0 K L a w→wpAny P .any ops Q fuel L a w:=by
 have hdone:∀L a w,Jma P ops m π σ F D r w0 X0 H0 K L a w→Region.ready .any ops L=[]→∀i,i<ops.size→L.getD i false=true:=by
  intro L a w inv hr i
  induction i using Nat.strongRecOn with
  |_ i ih=>
   intro hi
   cases hl:L.getD i false with
   |true=>rfl
   |false=>
    have:i∈Region.ready .any ops L:=mem_ready.2 ⟨by
     have hi':i<L.size:=by rw[inv.size];exact hi
     simp[hi']at hl⊢;exact hl,ops[i],Array.getElem?_eq_getElem hi,fun e he hb=>by
      have hlt:=hB.back i _ (Array.getElem?_eq_getElem hi) e he hb
      exact ih e.on hlt (by omega)⟩
    rw[hr]at this
    cases this
 intro fuel
 induction fuel with
 |zero=>
  intro L a w hn inv
  have hall:∀i,i<ops.size→L.getD i false=true:=by
   intro i hi
   have:=List.filter_eq_nil_iff.1 (List.eq_nil_of_length_eq_zero hn) i (List.mem_range.2 hi)
   simpa using this
  refine⟨?_,hQ L a w inv hall⟩
  cases hr:Region.ready .any ops L with
  |nil=>rfl
  |cons i r=>
   have hm:i∈Region.ready .any ops L:=by rw[hr];simp
   obtain⟨h1,o,h2,_⟩:=mem_ready.1 hm
   have hi:i<ops.size:=(Array.getElem?_eq_some_iff.1 h2).1
   have:=hall i hi
   have hi':i<L.size:=by rw[inv.size];exact hi
   simp[hi']at h1 this
   rw[h1]at this;cases this
 |succ fuel ih=>
  intro L a w hn inv
  refine⟨fun hr=>hQ L a w inv (hdone L a w inv hr),fun i hi=> ?_⟩
  obtain⟨hun,o,ho,hdeps⟩:=mem_ready.1 hi
  have hilt:i<ops.size:=(Array.getElem?_eq_some_iff.1 ho).1
  have hiL:i<L.size:=by rw[inv.size];exact hilt
  have hun':L.getD i false=false:=by simp[hiL]at hun⊢;exact hun
  have hwait:∀j,QY ops ops.size i j=true→L.getD j false=true:=fun j hj=>
   VP inv.closed _ _ _ hj fun o' ho' e he hb=>by
    have:o'=o:=Option.some.inj (ho'.symm.trans ho)
    subst this;exact hdeps e he hb
  have hcount:((List.range ops.size).filter fun k=> !(L.setIfInBounds i true).getD k false).length=fuel:=by
   have e:((List.range ops.size).filter fun k=> !(L.setIfInBounds i true).getD k false)=((List.range ops.size).filter fun k=> !L.getD k false).filter (fun k=>decide (k≠i)):=by
    rw[List.filter_filter]
    refine List.filter_congr fun k hk=> ?_
    by_cases hki:k=i
    · subst hki;simp[hiL]
    · rw[getD_set_ne false (Ne.symm hki)];simp[hki]
   rw[e]
   have hnd:((List.range ops.size).filter fun k=> !L.getD k false).Nodup:=List.Pairwise.filter _ List.nodup_range
   have hmem:i∈(List.range ops.size).filter fun k=> !L.getD k false:=List.mem_filter.2 ⟨List.mem_range.2 hilt,by simp[hun']⟩
   have:=hnd.erase_eq_filter i
   have h2:=List.length_erase_of_mem hmem
   rw[this]at h2
   have e2:(fun k=>decide (k≠i))=(fun x=>x !=i):=by funext k;by_cases hk:k=i<;>simp[hk]
   rw[e2,h2,hn];rfl
  have hclosed:B6 ops (L.setIfInBounds i true):=by
   intro j oj hoj hl e he hb
   by_cases hij:i=j
   · subst hij
     have:oj=o:=Option.some.inj (hoj.symm.trans ho)
     subst this
     exact getD_set_true (hdeps e he hb)
   · rw[getD_set_ne false hij]at hl
     exact getD_set_true (inv.closed j oj hoj hl e he hb)
  have hsize:(L.setIfInBounds i true).size=ops.size:=by simp[inv.size]
  have hnd:=JZ.1 hB.nd
  have fin:∀{a':Act} {w':World},StR P ops m π σ F D r w0 X0 H0 K (L.setIfInBounds i true) a' w'→wpAny P .any ops Q fuel (L.setIfInBounds i true) a' w':=
   fun h=>ih _ _ _ hcount ⟨hsize,hclosed,h⟩
  have hrσ:r∉σ:=fun h=>hnd.2.2 r hB.rp.1 r h rfl
  obtain⟨dr,xr,nr,tr,pr,er,hor⟩:=hB.re
  obtain⟨X,H,s,E,R,hcase⟩:=inv.st
  by_cases hiπ:i∈π
  · rcases hcase with⟨hrem,G,hG,hlw,hσ⟩|⟨hrem,_⟩|⟨hrem,o',d,v,ho',hd,hex,hgn,hv,hsw⟩
    · --the first part
      have hiσ:i∉σ:=fun h=>hnd.2.2 i hiπ i h rfl
      have hir:i∈ZM π L:=List.mem_filter.2 ⟨hiπ,by rw[hun'];rfl⟩
      obtain⟨l1,l2,hsplit⟩:=List.append_of_mem hir
      have hrem':=YX hiL hnd.1 hsplit
      rw[hsplit]at hlw
      have hl1:∀k∈l1,k≠i∧YF ops i k∧∃p,ops[k]? =some p∧(D=some k∨Xl F k p=true):=by
       intro k hk
       obtain⟨q1,q2,hq⟩:=List.append_of_mem hk
       have hsub:(k::q2++i::l2).Sublist π:=by
        have h1:(ZM π L).Sublist π:=List.filter_sublist
        rw[hsplit,hq]at h1
        refine List.Sublist.trans ?_ h1
        simp
       have hpos:∃r1 r2 r3,π=r1++k::r2++i::r3:=by
        have h2:([k,i]:List Nat).Sublist π:=by
         refine List.Sublist.trans ?_ hsub
         simp
        obtain⟨r1,r2,e,hk1,hi1⟩:∃r1 r2,π=r1++r2∧k∈r1∧[i].Sublist r2:=by
         have:=List.cons_sublist_iff.1 h2
         obtain⟨r1,r2,e1,e2,e3⟩:=this
         exact⟨r1,r2,e1,e2,e3⟩
        obtain⟨c1,c2,hc⟩:=List.append_of_mem hk1
        obtain⟨d1,d2,hd⟩:=List.append_of_mem (List.singleton_sublist.1 hi1)
        exact⟨c1,c2++d1,d2,by rw[e,hc,hd];simp⟩
       obtain⟨r1,r2,r3,hπ⟩:=hpos
       obtain⟨o1,o2,o3⟩:=hB.ord r1 r2 r3 k i hπ
       have hku:L.getD k false=false:=by
        have:k∈ZM π L:=by rw[hsplit];exact List.mem_append_left _ hk
        have:=(List.mem_filter.1 this).2
        simpa using this
       have hnw:¬QY ops ops.size i k=true:=fun h=>by rw[hwait k h]at hku;cases hku
       have hki:k≠i:=by
        rintro rfl
        have:=hnd.1
        rw[hπ]at this
        simp[JZ]at this
       have hq:=o3.resolve_right hnw
       have hkπ:k<ops.size:=hB.inb k (by rw[hπ];simp)
       refine⟨hki,(o2.resolve_right hnw).symm,ops[k],Array.getElem?_eq_getElem hkπ, ?_⟩
       unfold Ym at hq
       rw[Array.getElem?_eq_getElem hkπ]at hq
       simpa using hq
      --what comes behind a step of the first part
      have stay:∀{G':Option Gh} {s':List AV} {X':Cx} {H':Jn} {a':Act} {w':World},Ev w0 X0 H0 w' X' H'→Xk w' X' a' ⟨s',H'⟩→(∀e,G'=some e→GhI w0 w' X' H' a' e∧∃d o,D=some d∧ops[d]? =some o∧o.dst=some e.d∧(L.setIfInBounds i true).getD d false=true)→
       lw P ops m F D (l1++l2) G' s' H' (fun s H=>swL P ops σ s H K)→wpAny P .any ops Q fuel (L.setIfInBounds i true) a' w':=by
       intro G' s' X' H' a' w' E' R' hG' hlw'
       have hσ':ZM σ (L.setIfInBounds i true)=σ:=by rw[RS hiσ,hσ]
       by_cases he:l1++l2=[]
       · rw[he]at hlw'
         have hlw':Xq G' s' H' (fun s H=>swL P ops σ s H K):=hlw'
         refine fin ?_
         cases G' with
         |none=>exact⟨X',H',s',E',R', .inr (.inl ⟨by rw[hrem',he],by rw[hσ'];exact hlw'⟩)⟩
         |some e=>
          obtain⟨g,X2,E2,R2⟩:=(hG' e rfl).1.real E' R'
          exact⟨X2,_,_,E2,R2, .inr (.inl ⟨by rw[hrem',he],by rw[hσ'];exact hlw' g⟩)⟩
       · exact fin ⟨X',H',s',E',R', .inl ⟨by rw[hrem'];exact he,G',hG',by rw[hrem'];exact hlw',hσ'⟩⟩
      have hGd:∀e,G=some e→D≠some i∧o.dst≠some e.d:=by
       intro e he
       obtain⟨_,d,od,h1,h2,h3,h4⟩:=hG e he
       have hne:i≠d:=fun h=>by rw[←h,hun']at h4;cases h4
       refine⟨fun h=>hne (Option.some.inj (h.symm.trans h1)),fun h=> ?_⟩
       have:=(hB.gh d h1).2 i hiπ hne
       simp only[UP,ho,h2,h3,Bool.or_eq_false_iff]at this
       rw[h]at this
       simp at this
      have keepG:∀{w':World} {X':Cx} {H':Jn} {u:Value},Ev w X H w' X' H'→ZA w' X' H'→∀e,G=some e→GhI w0 w' X' H' (a.put o.dst u) e∧∃d o,D=some d∧ops[d]? =some o∧o.dst=some e.d∧(L.setIfInBounds i true).getD d false=true:=by
       intro w' X' H' u E' R' e he
       obtain⟨h0,d,od,h1,h2,h3,h4⟩:=hG e he
       exact⟨h0.mono R.heap E' R' (hGd e he).2,d,od,h1,h2,h3,getD_set_true h4⟩
      unfold wpOp
      simp only[ho]
      by_cases hD:D=some i
      · --the new block
        obtain⟨⟨o',ho',hgn,hnv⟩,hme⟩:=hB.gh i hD
        have:o'=o:=Option.some.inj (ho'.symm.trans ho)
        subst this
        obtain⟨v,G',hq,hlw'⟩:=R8 ho (.inl hD) l1 G s hl1 hlw
        rcases hq with⟨_,e,h1,h2,h3⟩|⟨h,_⟩
        · subst h2 h3
          obtain⟨hd,hc,hop⟩:=JaK (H:=H) h1.1
          rw[if_pos (by simp[Region.wanted,hgn])]
          refine .inl (hop w X a R _ _ fun v u X' H' w' k1 k2 k3 ⟨g,k4,k5⟩=> ?_)
          subst k4 k5
          have Eh:Ev w' X' (H++[some ⟨g,e.sz,e.cs⟩]) w' X' H:=(J5.app _ _).ev
          have E1:Ev w X H w' X' H:=k3.trans Eh
          have hdl:e.d<a.tmps.size:=by rw[R.size];exact h1.2
          refine stay (E.trans E1) (R.put E1 ((J5.app _ _).rel k2) (.any _)) (fun e' he'=> ?_) hlw'
          cases he'
          refine⟨?_,i,o',hD,ho,hd,by simp[hiL]⟩
          rw[hd]
          exact GhI.new E.size hdl hc R.heap k3 k2 k1
        · exact absurd hD h
      · by_cases hv:Xl F i o=true
        · obtain⟨v,G',hq,hlw'⟩:=R8 ho (.inr hv) l1 G s hl1 hlw
          rcases hq with⟨h,_⟩|⟨_,hGG,hq⟩
          · exact absurd h hD
          subst hGG
          have run:qv P ops m o s H v→o.wp P a w (wpAny P .any ops Q fuel (L.setIfInBounds i true)) Q:=by
           intro hov
           unfold qv at hov
           split at hov
           rotate_left
           · exact hov H w X a (R.toT _) _ _ fun u w' X' hg' hw' hv' hH'=>stay (E.trans (hw'.ev hg' R.heap)) (R.put (hw'.ev hg' R.heap) hH' hv') (keepG (hw'.ev hg' R.heap) hH') hlw'
           obtain⟨u,k1,k2⟩:=Wd (P:=P) R (GB (FW m H) hov)
           exact ZW (k1 w (ZV.refl w) o rfl) (stay E (R.put (Ev.refl _ _ _) R.heap k2) (keepG (Ev.refl _ _ _) R.heap) hlw')
          split at hq
          · rename_i hgd
            rw[if_pos (by simp[Region.wanted,hgd])]
            exact .inl (run hq.2)
          · rename_i j want hgd
            obtain⟨g,hg1,hg2,hg3⟩:=hq
            have hy:=UH R hg1
            by_cases he:g=some want
            · rw[if_pos (by simp[Region.wanted,hgd,hy,he])]
              exact .inl (run (hg2 he).2)
            · rw[if_neg (by simp only[Region.wanted,hgd,hy];simpa using he)]
              rw[hg3 he]at hlw'
              exact stay E (R.put (Ev.refl _ _ _) R.heap .void) (keepG (Ev.refl _ _ _) R.heap) hlw'
        · have hls:=GQ ho hD hv l1 G s hl1 hlw
          unfold Fn at hls
          have run:(JG P ops o s H fun v H'=>J5 (ZD m H') (ZD m H)∧lw P ops m F D (l1++l2) G (QK s o.dst v) H' (fun s H=>swL P ops σ s H K))→o.wp P a w (wpAny P .any ops Q fuel (L.setIfInBounds i true)) Q:=fun hop=>
           hop w X a (R.toT _) _ _ fun v u X' H' w' k1 k2 k3 ⟨_,k4⟩=>stay (E.trans k3) (R.put k3 k2 k1) (keepG k3 k2) k4
          split at hls
          · rename_i hgd
            rw[if_pos (by simp[Region.wanted,hgd])]
            exact .inl (run hls)
          · rename_i j want hgd
            obtain⟨g,hg1,hg2,hg3⟩:=hls
            have hy:=UH R hg1
            by_cases he:g=some want
            · rw[if_pos (by simp[Region.wanted,hgd,hy,he])]
              exact .inl (run (hg2 he))
            · rw[if_neg (by simp only[Region.wanted,hgd,hy];simpa using he)]
              exact stay E (R.put (Ev.refl _ _ _) R.heap .void) (keepG (Ev.refl _ _ _) R.heap) (hg3 he)
    · exfalso
      have:i∈ZM π L:=List.mem_filter.2 ⟨hiπ,by rw[hun'];rfl⟩
      rw[hrem]at this;cases this
    · --a part of the result is taken out
      have hir:i∈ZM π L:=List.mem_filter.2 ⟨hiπ,by rw[hun'];rfl⟩
      rw[hrem,List.mem_singleton]at hir
      subst hir
      obtain rfl:o'=o:=Option.some.inj (ho'.symm.trans ho)
      have hrem':ZM π (L.setIfInBounds i true)=[]:=by
       have:=YX (l1:=[]) (l2:=[]) hiL hnd.1 hrem
       exact this
      unfold wpOp
      simp only[ho]
      rw[if_pos (by simp[Region.wanted,hgn])]
      refine .inl ?_
      obtain⟨u,k1,k2⟩:=Wd (P:=P) (st:=⟨s,H⟩) R (by rw[Jc6 (H':=[]) hex];exact hv)
      have R':=R.put (Ev.refl _ _ _) R.heap k2 (d:=o'.dst)
      rw[hd]at R'
      refine ZW (k1 w (ZV.refl w) o' rfl) (fin ⟨X,H,_,E,by rw[hd];exact R', .inr (.inl ⟨hrem',by rw[RS hrσ];exact hsw⟩)⟩)
  · --the second part
    have hiσ:i∈σ:=(hB.cover i hilt).resolve_left hiπ
    have hlast:∀j∈ZM π L,j=r∧YF ops i r:=fun j hj=>by
     obtain⟨h1,h2⟩:=List.mem_filter.1 hj
     rcases hB.last i hiσ j h1 with h|h
     · rw[hwait j h]at h2;cases h2
     · exact h
    have hst:∃X H s,Ev w0 X0 H0 w X H∧Xk w X a ⟨s,H⟩∧((ZM π L=[]∧swL P ops (ZM σ L) s H K)∨
     (ZM π L=[r]∧∃o d v,ops[r]? =some o∧o.dst=some d∧Jfe o.op=true∧o.guard=none∧XF P s [] o.op=some v∧swL P ops (ZM σ L) (s.set d v) H K)):=by
     rcases hcase with⟨hrem,G,hG,hlw,hσ⟩|h|h
     · have hr1:ZM π L=[r]:=by
        have hn2:(ZM π L).Nodup:=List.Pairwise.filter _ hnd.1
        cases hc:ZM π L with
        |nil=>exact absurd hc hrem
        |cons k q=>
         rw[hc]at hlast hn2
         have hk:=(hlast k (by simp)).1
         cases q with
         |nil=>rw[hk]
         |cons k2 q2=>
          have hk2:=(hlast k2 (by simp)).1
          rw[hk,hk2]at hn2
          simp at hn2
       rw[hr1]at hlw
       obtain⟨v,G',hq,hlw'⟩:=Jkm hor (.inr rfl) hlw
       rcases hq with⟨h,_⟩|⟨_,hGG,hq⟩
       · exact absurd h hB.rp.2
       subst hGG
       have hq:=hq.2
       unfold qv at hq
       rw[if_pos (show Ve (Op.extract xr nr)=true from rfl),Jc6 (H':=[]) rfl]at hq
       have hlw':Xq G' (s.set dr v) H (fun s H=>swL P ops σ s H K):=hlw'
       cases G' with
       |none=>exact⟨X,H,s,E,R, .inr ⟨hr1,_,dr,v,hor,rfl,rfl,rfl,hq,by rw[hσ];exact hlw'⟩⟩
       |some e=>
        obtain⟨hgh,d,od,h1,h2,h3,h4⟩:=hG e rfl
        obtain⟨g,X2,E2,R2⟩:=hgh.real E R
        have hne:r≠d:=fun h=>hB.rp.2 (by rw[h];exact h1)
        have hm:=(hB.gh d h1).2 r hB.rp.1 hne
        simp only[UP,hor,h2,h3,Bool.or_eq_false_iff]at hm
        have hde:dr≠e.d:=fun h=>by
         have:=hm.2
         rw[h]at this
         simp at this
        refine⟨X2,_,_,E2,R2, .inr ⟨hr1,_,dr,v,hor,rfl,rfl,rfl, ?_, ?_⟩⟩
        · rw[←hq]
          refine XN fun x hx=>Jfn fun t ht he=> ?_
          have hl:=Vj (ops:=ops) (o:=⟨some dr, .extract xr nr,tr,pr,er,none⟩) hx t ht
          rw[he]at hl
          have:=hm.1
          simp[hl]at this
        · rw[hσ,List.set_comm _ _ (Ne.symm hde)]
          exact hlw' g
     · exact⟨X,H,s,E,R, .inl h⟩
     · exact⟨X,H,s,E,R, .inr h⟩
    clear hcase R E s H X
    obtain⟨X,H,s,E,R,hcase⟩:=hst
    have hgn:=hB.sg i hiσ o ho
    have hir:i∈ZM σ L:=List.mem_filter.2 ⟨hiσ,by rw[hun'];rfl⟩
    obtain⟨l1,l2,hsplit⟩:=List.append_of_mem hir
    have hl1:l1=[]:=by
     cases l1 with
     |nil=>rfl
     |cons k q=>
      exfalso
      have hsub:([k,i]:List Nat).Sublist σ:=by
       have h1:(ZM σ L).Sublist σ:=List.filter_sublist
       rw[hsplit]at h1
       refine List.Sublist.trans ?_ h1
       simp
      obtain⟨r1,r2,e1,hk1,hi1⟩:=List.cons_sublist_iff.1 hsub
      obtain⟨c1,c2,hc⟩:=List.append_of_mem hk1
      obtain⟨d1,d2,hd⟩:=List.append_of_mem (List.singleton_sublist.1 hi1)
      have hw:=hwait k (hB.seq c1 (c2++d1) d2 k i (by rw[e1,hc,hd];simp))
      have:k∈ZM σ L:=by rw[hsplit];simp
      have:=(List.mem_filter.1 this).2
      rw[hw]at this;cases this
    subst hl1
    have hrem':=YX hiL hnd.2.1 hsplit
    have hπ':=RS (L:=L) hiπ
    simp only[Jd]at hsplit hrem'
    unfold wpOp
    simp only[ho]
    rw[if_pos (by simp[Region.wanted,hgn])]
    rcases hcase with⟨hrem,hsw⟩|⟨hrem,o',d,v,ho',hd,hex,hgn',hv,hsw⟩
    · rw[hsplit]at hsw
      unfold swL at hsw
      rw[ho]at hsw
      exact .inl (hsw w X a (R.toT _) _ _ fun v u X' H' w' k1 k2 k3 k4=>fin ⟨X',H',_,E.trans k3,R.put k3 k2 k1, .inr (.inl ⟨by rw[hπ',hrem],by rw[hrem'];exact k4⟩)⟩)
    · have hap:=(hlast r (by rw[hrem];simp)).2
      have hmr:UP ops i r=false∧UP ops r i=false:=hap
      simp only[UP,ho,ho',hd,Bool.or_eq_false_iff]at hmr
      have hdl:d∉o.looksAt ops:=fun h=>by
       have:=hmr.1.1
       simp[h]at this
      have hdd:o.dst≠some d:=fun h=>by
       have:=hmr.1.2
       rw[h]at this
       simp at this
      rw[hsplit]at hsw
      unfold swL at hsw
      rw[ho]at hsw
      have RT:JeE w X a (s.set d v) H (o.looksAt ops):=by
       have R0:=R.toT (o.looksAt ops)
       refine⟨R0.defs,by rw[Jp];exact R0.size,fun t ht htl=> ?_,R0.heap⟩
       have hne:t≠d:=fun h=>hdl (h▸ht)
       rw[Jp]at htl
       have e:(s.set d v).getD t .void=s.getD t .void:=by simp only[List.getD,Ji (Ne.symm hne)]
       rw[e]
       exact R0.slot t ht htl
      refine .inl (hsw w X a RT _ _ fun v' u X' H' w' k1 k2 k3 k4=>fin ⟨X',H',_,E.trans k3,R.put k3 k2 k1, .inr (.inr ⟨by rw[hπ',hrem],o',d,v,ho',hd,hex,hgn', ?_, ?_⟩)⟩)
      · rw[←hv]
        refine XN fun x hx=> ?_
        cases hod:o.dst with
        |none=>rfl
        |some d'=>
         refine Jfn fun t ht he=> ?_
         have hl:=Vj (ops:=ops) hx t ht
         rw[he]at hl
         have:=hmr.2
         simp only[hod,Bool.or_eq_false_iff]at this
         have:=this.1
         simp[hl]at this
      · rw[hrem']
        cases hod:o.dst with
        |none=>rw[hod]at k4;exact k4
        |some d'=>
         rw[hod]at k4 hdd
         have hne:d'≠d:=fun h=>hdd (by rw[h])
         have k4:swL P ops l2 ((s.set d v).set d' v') H' K:=k4
         rw[List.set_comm _ _ (Ne.symm hne)]at k4
         exact k4
end
theorem QN.regionR{P:Program}{id:Nat}{ops:Array Oper}{st:St}{Q:Exit→St→Prop}(π:List Nat)(F:List Nat)(D:Option Nat)(σ:List Nat)(r:Nat)(m:List Bool)(hm:P.follows .mixedOrders=true)(hB:JeW ops π F D σ r=true)
 (h:lw P ops m F D π none st.s st.h fun s H=>swL P ops σ s H fun s H=>Q .normal ⟨s,H⟩):QN P (.region id ops true) st Q:=by
 intro w X a R
 have hd:ZV w {w with drawn:=w.drawn+1}:=⟨fun _ _=>rfl,Nat.le_refl _,rfl,rfl,rfl⟩
 have Rd:=hd.st R
 refine wp_region_any hm ?_
 have hrep:∀j,(Array.replicate ops.size false).getD j false=false:=fun j=>by
  rcases Nat.lt_or_ge j ops.size with h|h
  · simp[h]
  · simp[h]
 have hn:((List.range ops.size).filter fun i=> !(Array.replicate ops.size false).getD i false).length=ops.size:=by
  rw[List.filter_eq_self.2]
  · simp
  · intro i hi
    rw[hrep];rfl
 have hfull:∀l:List Nat,ZM l (Array.replicate ops.size false)=l:=fun l=>List.filter_eq_self.2 fun i _=>by rw[hrep];rfl
 have hB':=JhN hB
 refine Jex (P:=P) (m:=m) (w0:=w) (X0:=X) (H0:=st.h) (K:=fun s H=>Q .normal ⟨s,H⟩) hB' ?_ ops.size _ a _ hn ⟨by simp,(fun j o _ hl=>by rw[hrep]at hl;cases hl),X,st.h,st.s,hd.ev R.heap,Rd, ?_⟩
 · intro L a' w' inv hall
   obtain⟨X',H,s,E,R',hc⟩:=inv.st
   have h1:∀l:List Nat,(∀i∈l,i∈π++σ)→ZM l L=[]:=fun l hl=>List.filter_eq_nil_iff.2 fun i hi=>by rw[hall i (hB'.inb i (hl i hi))];simp
   have hπ0:=h1 π fun i hi=>List.mem_append_left _ hi
   rcases hc with⟨h2,_⟩|⟨_,h3⟩|⟨h2,_⟩
   · exact absurd hπ0 h2
   · rw[h1 σ fun i hi=>List.mem_append_right _ hi]at h3
     exact⟨X',⟨s,H⟩,R',E,h3⟩
   · rw[hπ0]at h2;cases h2
 · have hne:π≠[]:=fun h=>by have:=hB'.rp.1;rw[h]at this;cases this
   exact .inl ⟨by rw[hfull];exact hne,none,⟨fun e he=>(by cases he),by rw[hfull];exact h,hfull _⟩⟩
def JfJ(P:Program)(ops:Array Oper)(σ:List Nat)(K:KS):KS:=fun s H=>swL P ops σ s H K
theorem JbD{P:Program}{ops:Array Oper}{s:List AV}{H:Jn}{K:KS}(π:List Nat)(F:List Nat)(D:Option Nat)(σ:List Nat)(r:Nat)(m:List Bool)(hm:P.follows .mixedOrders=true)(hB:JeW ops π F D σ r=true)
 (h:KO P ops m F D π none s H (JfJ P ops σ K)):Kf P ops s H K:=
 Jfo hm fun _=>QN.regionR π F D σ r m hm hB (Jig P ops m F D _ π none s H h)
theorem JG.opW{P:Program}{ops:Array Oper}{o:Oper}{s:List AV}{H:Jn}{K:KV}(h:Lg.opW P o s H K)(hl:Ve o.op=true∨Xz o.op=true):JG P ops o s H K:=by
 unfold Lg.opW at h
 by_cases hv:Ve o.op=true
 · rw[if_pos hv]at h
   obtain⟨v,h1,h2⟩:=h
   refine JG.of (JU.val (v:=v) ?_ h2)
   show XF P (restr (o.looksAt ops) s) H o.op=some v
   rw[XN fun x hx=>XX (Vj hx)]
   exact h1
 · rw[if_neg hv]at h
   refine Fo ?_
   unfold Jfa
   rw[if_pos (hl.resolve_left hv)]
   exact h
def swV(P:Program)(ops:Array Oper)(σ:List Nat)(K:KS)(s:List AV)(d:Option Tmp):KV:=fun v H'=>JfJ P ops σ K (QK s d v) H'
theorem Jlj(P:Program)(ops:Array Oper)(σ:List Nat)(K:KS)(s:List AV)(d:Option Tmp)(v:AV)(H':Jn):swV P ops σ K s d v H'=JfJ P ops σ K (QK s d v) H':=propext Iff.rfl
theorem Kq{P:Program}{ops:Array Oper}{s:List AV}{H:Jn}{K:KS}{i:Nat}{σ:List Nat}{d:Option Tmp}{op:Op}{t:TypeId}{p:String}{e:Array Edge}{g:Option (Nat×Bool)}(ho:ops[i]? =some ⟨d,op,t,p,e,g⟩)(hl:Ve op=true∨Xz op=true)(h:Lg.opW P ⟨d,op,t,p,e,g⟩ s H (swV P ops σ K s d)):JfJ P ops (i::σ) K s H:=by
 unfold JfJ swL
 rw[ho]
 exact JG.opW h hl
theorem Jhl(P:Program)(ops:Array Oper)(K:KS)(s:List AV)(H:Jn):JfJ P ops [] K s H=K s H:=propext Iff.rfl
attribute [go_sem] Jhl Jlj
end Go.Lg
