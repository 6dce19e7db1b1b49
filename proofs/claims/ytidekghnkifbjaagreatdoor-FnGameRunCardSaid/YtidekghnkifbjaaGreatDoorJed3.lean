/- GpVG, GpHA, LgU2, cut to what is needed. -/
import Derived.Test.YtidekghnkifbjaaGreatDoorJeb1
import Derived.Test.YtidekghnkifbjaaGreatDoorJec4
import Derived.Test.YtidekghnkifbjaaGreatDoorJec3
import Derived.Test.YtidekghnkifbjaaGreatDoorJeb0
open List renaming cons_append → Jb, nil_append → Jc, replicate → Jd, length_cons → Je, length_nil → Jf, getElem?_set_ne → Jg, length_set → Jo, length_take → JP, drop_zero → JR, mem_map → Qj, nodup_append → Qo, nodup_cons → VK
open Nat renaming reduceAdd→zA,reduceMul→zM,reduceSub→zS,reduceEqDiff→zE,reduceLeDiff→zL
set_option linter.unusedSimpArgs false
set_option linter.unusedVariables false
set_option maxRecDepth 100000
namespace Go.Lg
open Go.Proofs
def JbU(h:Hnt):Prop:=(0≤h.tech∧h.tech≤4)∧(0≤h.cell∧h.cell≤15)∧(1≤h.val∧h.val≤4)
instance(h:Hnt):Decidable (JbU h):=by unfold JbU;infer_instance
def BL(h:Hnt):List UInt8:=[99,101,108,108,32]++[u8 (97+h.cell)]++[32,105,115,32]++[u8 (48+h.val)]++[32,98,121,32]++[u8 (48+h.tech)]
def VP(h:Hnt):List UInt8:=if JbU h then BL h else[]
theorem Rl(h:Hnt):JW Tryz.prog 75 [aH h] (WU (VP h)):=by
 refine Jn.cw (c:=_) Tryz.func75 rfl (n:=42) Tryz.ntmps75 (rs:=[.tmp 2]) rfl ?_
 simp only[Je,Jf,zA,zS,Jd,Jb,Jc]
 simp(maxSteps:=999999)(disch:=omega)only[go_sem,zA,zM,zS,zE,zL]
 intro g
 first|refine JZ.rd (Qz _ _ _) (⟨_,Tryz.func40,rfl,rfl⟩:Ji Tryz.prog 40) rfl rfl rfl rfl ?_|refine JK.rd (Qz _ _ _) (⟨_,Tryz.func40,rfl,rfl⟩:Ji Tryz.prog 40) rfl rfl rfl rfl ?_
 simp(maxSteps:=999999)(disch:=omega)only[go_sem,zA,zM,zS,zE,zL]
 by_cases k1:0≤h.tech∧h.tech≤4
 rotate_left
 · have e:VP h=[]:=by unfold VP;rw[if_neg (fun hk=>k1 hk.1)]
   have d1:decide (0≤h.tech∧h.tech≤4)=false:=decide_eq_false k1
   rw[e]
   simp(maxSteps:=999999)(disch:=omega)only[go_sem,zA,zM,zS,zE,zL,d1]
 have d1:decide (0≤h.tech∧h.tech≤4)=true:=decide_eq_true k1
 simp(maxSteps:=999999)(disch:=omega)only[go_sem,zA,zM,zS,zE,zL,d1]
 first|refine JZ.rd (Qz _ _ _) (⟨_,Tryz.func40,rfl,rfl⟩:Ji Tryz.prog 40) rfl rfl rfl rfl ?_|refine JK.rd (Qz _ _ _) (⟨_,Tryz.func40,rfl,rfl⟩:Ji Tryz.prog 40) rfl rfl rfl rfl ?_
 simp(maxSteps:=999999)(disch:=omega)only[go_sem,zA,zM,zS,zE,zL]
 by_cases k2:0≤h.cell∧h.cell≤15
 rotate_left
 · have e:VP h=[]:=by unfold VP;rw[if_neg (fun hk=>k2 hk.2.1)]
   have d1:decide (0≤h.cell∧h.cell≤15)=false:=decide_eq_false k2
   rw[e]
   simp(maxSteps:=999999)(disch:=omega)only[go_sem,zA,zM,zS,zE,zL,d1]
 have d2:decide (0≤h.cell∧h.cell≤15)=true:=decide_eq_true k2
 simp(maxSteps:=999999)(disch:=omega)only[go_sem,zA,zM,zS,zE,zL,d2]
 first|refine JZ.rd (Qz _ _ _) (⟨_,Tryz.func40,rfl,rfl⟩:Ji Tryz.prog 40) rfl rfl rfl rfl ?_|refine JK.rd (Qz _ _ _) (⟨_,Tryz.func40,rfl,rfl⟩:Ji Tryz.prog 40) rfl rfl rfl rfl ?_
 simp(maxSteps:=999999)(disch:=omega)only[go_sem,zA,zM,zS,zE,zL]
 by_cases k3:1≤h.val∧h.val≤4
 rotate_left
 · have e:VP h=[]:=by unfold VP;rw[if_neg (fun hk=>k3 hk.2.2)]
   have d1:decide (1≤h.val∧h.val≤4)=false:=decide_eq_false k3
   rw[e]
   simp(maxSteps:=999999)(disch:=omega)only[go_sem,zA,zM,zS,zE,zL,d1]
 have d3:decide (1≤h.val∧h.val≤4)=true:=decide_eq_true k3
 have e:VP h=BL h:=by unfold VP;rw[if_pos ⟨k1,k2,k3⟩]
 rw[e]
 unfold BL
 simp(maxSteps:=999999)(disch:=omega)only[go_sem,zA,zM,zS,zE,zL,d3]
 intro _ _ _
 trivial
end Go.Lg

namespace Go.Lg
open Go.Proofs
def Jll(n:Nat)(s:List Int):Prop:=Zk s n∧∀k:Nat,k<n*n→0<JA s k
def Yv(xs s:List Int):Prop:=∀k:Nat,0<JA xs k→JA s k=JA xs k
instance(xs s:List Int):Decidable (Yv xs s):=decidable_of_iff (∀k,k<xs.length→0<JA xs (k:Int)→JA s (k:Int)=JA xs (k:Int)) ⟨fun h k hk=>by
 by_cases hl:k<xs.length
 · exact h k hl hk
 · rw[Xp (by omega)]at hk;omega,fun h k _=>h k⟩
theorem Yv.refl(xs:List Int):Yv xs xs:=fun _ _=>rfl
theorem Yv.trans{a b c:List Int}(h:Yv a b)(k:Yv b c):Yv a c:=fun i hi=>by
 have:=h i hi
 rw[k i (by omega),this]
theorem Yv.set{xs:List Int}{i:Nat}{v:Int}(hi:i<xs.length)(h0:¬0<JA xs i):Yv xs (xs.set i v):=fun k hk=>by
 rw[Za _ _ _ _ hi,if_neg (fun h=>by subst h;exact h0 hk)]
theorem Yv.of_set{xs s:List Int}{i:Nat}{v:Int}(hi:i<xs.length)(h:Yv xs s)(hv:JA s i=v):Yv (xs.set i v) s:=fun k hk=>by
 rw[Za _ _ _ _ hi]at hk⊢
 split
 · rename_i hki;subst hki;exact hv
 · rename_i hki;rw[if_neg hki]at hk;exact h k hk
theorem R8(p:Q4)(n:Nat):∀(m:Nat) (xs:List Int),QT p xs n=true→∀s∈ZM p n m xs,QT p s n=true
 |0,xs,hf,s,hs=>by rw[ZM,List.mem_singleton]at hs;subst hs;exact hf
 |m+1,xs,hf,s,hs=>by
  rw[W8 p n m xs rfl]at hs
  split at hs
  · exact R8 p n m xs hf s hs
  · obtain⟨v,hv,hs⟩:=List.mem_flatMap.1 hs
    split at hs
    · rename_i h;exact R8 p n m _ h s hs
    · simp at hs
theorem JiH{n v:Nat}(h:1≤v∧v≤n):v∈vals n 1:=by
 unfold vals
 rw[Nat.sub_self,JR,Qj]
 exact⟨v -1,List.mem_range.2 (by omega),by omega⟩
theorem Jd3(n:Nat):(vals n 1).Nodup:=by
 unfold vals
 rw[Nat.sub_self,JR]
 exact List.pairwise_map.2 ((List.nodup_range (n:=n)).imp fun h=>by omega)
theorem Wu{p:Q4}{n:Nat}(hp:Ux p n){s:List Int}(hs:Jll n s)(hf:QT p s n=true):∀(m:Nat) (xs:List Int),m≤n*n→Zk xs n→(∀k:Nat,k<n*n -m→0<JA xs k)→Yv xs s→s∈ZM p n m xs
 |0,xs,hm,hg,hk,he=>by
  rw[ZM,List.mem_singleton]
  refine YN (by rw[hs.1.len,hg.len]) fun j hj=>he j (hk j (by rw[hs.1.len]at hj;omega))
 |m+1,xs,hm,hg,hk,he=>by
  have hxl:=hg.len
  obtain⟨i,hi⟩:∃i,i=xs.length -(m+1):=⟨_,rfl⟩
  have hil:i<xs.length:=by omega
  rw[W8 p n m xs hi.symm]
  split
  · rename_i h0
    refine Wu hp hs hf m xs (by omega) hg (fun k hk'=> ?_) he
    by_cases hki:k=i
    · rw[hki];exact h0
    · exact hk k (by omega)
  · rename_i h0
    have hv:=hs.1.val i (by rw[hs.1.len];omega)
    have hv0:=hs.2 i (by omega)
    obtain⟨v,hvv⟩:∃v:Nat,JA s i=v:=⟨(JA s i).toNat,by omega⟩
    refine List.mem_flatMap.2 ⟨v,JiH (by omega), ?_⟩
    have hes:=Yv.of_set (v:=(v:Int)) hil he hvv
    have hgs:=hg.set (v:=v) hil (by omega)
    rw[if_pos (Yl hp hgs hs.1 hes hf)]
    refine Wu hp hs hf m _ (by omega) hgs (fun k hk'=> ?_) hes
    rw[Za _ _ _ _ hil]
    split
    · omega
    · exact hk k (by omega)
theorem YA(p:Q4){n:Nat}:∀(m:Nat) (xs:List Int),m≤n*n→Zk xs n→(∀k:Nat,k<n*n -m→0<JA xs k)→(ZM p n m xs).Nodup
 |0,xs,_,_,_=>by rw[ZM];simp
 |m+1,xs,hm,hg,hk=>by
  have hxl:=hg.len
  obtain⟨i,hi⟩:∃i,i=xs.length -(m+1):=⟨_,rfl⟩
  have hil:i<xs.length:=by omega
  rw[W8 p n m xs hi.symm]
  split
  · rename_i h0
    refine YA p m xs (by omega) hg fun k hk'=> ?_
    by_cases hki:k=i
    · rw[hki];exact h0
    · exact hk k (by omega)
  · have hkv:∀v:Nat,1≤v→∀k:Nat,k<n*n -m→0<JA (xs.set i (v:Int)) k:=fun v hv k hk'=>by
     rw[Za _ _ _ _ hil]
     split
     · omega
     · exact hk k (by omega)
    rw[List.Nodup,List.pairwise_flatMap]
    refine⟨fun v hv=> ?_,(Jd3 n).imp_of_mem fun{a b} ha hb hab x hx y hy hxy=> ?_⟩
    · have hvb:=R6 hv
      split
      · exact YA p m _ (by omega) (hg.set hil hvb.2) (hkv v hvb.1)
      · simp
    · subst hxy
      have hav:=R6 ha
      have hbv:=R6 hb
      split at hx
      · split at hy
        · have h1:=(W9 p m _ (by omega) (hg.set hil hav.2) (hkv a hav.1) x hx).2.2 i (by rw[Za _ _ _ _ hil,if_pos rfl];omega)
          have h2:=(W9 p m _ (by omega) (hg.set hil hbv.2) (hkv b hbv.1) x hy).2.2 i (by rw[Za _ _ _ _ hil,if_pos rfl];omega)
          rw[Za _ _ _ _ hil,if_pos rfl]at h1 h2
          omega
        · simp at hy
      · simp at hx
def Je6(p:Q4):List (List Int):=if JB p=true∧QT p p.given p.size.toNat=true then ZM p p.size.toNat (p.size.toNat*p.size.toNat) p.given else[]
def JjW(p:Q4)(s:List Int):Prop:=Jll p.size.toNat s∧Yv p.given s∧QT p s p.size.toNat=true
theorem Xb{p:Q4}(hv:JB p=true):Ux p p.size.toNat∧Zk p.given p.size.toNat:=by
 obtain⟨hp,hz⟩:=Ux.of hv
 exact⟨hp,Zk.of hp.hn (xs:=p.given) (by rw[hz];exact UH hv)⟩
theorem N5{p:Q4}(hv:JB p=true)(s:List Int):s∈Je6 p↔JjW p s:=by
 obtain⟨hp,hg⟩:=Xb hv
 unfold Je6
 constructor
 · intro h
   split at h
   · rename_i hf
     obtain⟨q1,q2,q3⟩:=W9 p _ _ (Nat.le_refl _) hg (fun k hk=>absurd hk (by omega)) s h
     exact⟨⟨q1,q2⟩,q3,R8 p _ _ _ hf.2 s h⟩
   · simp at h
 · rintro⟨h1,h2,h3⟩
   rw[if_pos ⟨hv,Yl hp hg h1.1 h2 h3⟩]
   exact Wu hp h1 h3 _ _ (Nat.le_refl _) hg (fun k hk=>absurd hk (by omega)) h2
theorem Je5(p:Q4):(Je6 p).Nodup:=by
 unfold Je6
 split
 · rename_i h
   exact YA p _ _ (Nat.le_refl _) (Xb h.1).2 (fun k hk=>absurd hk (by omega))
 · simp
theorem Nf{α:Type}[DecidableEq α]:∀{a b:List α},a.Nodup→(∀x∈a,x∈b)→a.length≤b.length
 |[],_,_,_=>by simp
 |x::a,b,hn,hs=>by
  rw[VK]at hn
  have hx:=hs x (by simp)
  have:=Nf (a:=a) (b:=b.erase x) hn.2 fun y hy=>by
   have hyb:=hs y (by simp[hy])
   exact(List.mem_erase_of_ne (fun h=>hn.1 (by rw[←h];exact hy))).2 hyb
  rw[List.length_erase_of_mem hx]at this
  have:=List.length_pos_of_mem hx
  simp only[Je]
  omega
theorem Jiz{α:Type}[DecidableEq α]{a b:List α}(ha:a.Nodup)(hb:b.Nodup)(h:∀x,x∈a↔x∈b):a.length=b.length:=
 Nat.le_antisymm (Nf ha fun x hx=>(h x).1 hx) (Nf hb fun x hx=>(h x).2 hx)
theorem JkZ{p:Q4}(hv:JB p=true){xs:List Int}(hx:Zk xs p.size.toNat)(s:List Int):s∈(if QT p (Zw p.given xs) p.size.toNat=true∧clear p xs=true then ZM p p.size.toNat (p.size.toNat*p.size.toNat) (Zw p.given xs)else[])↔JjW p s∧Yv xs s:=by
 obtain⟨hp,hg⟩:=Xb hv
 have hw:=W4 hg hx
 have hlen:xs.length=p.given.length:=by rw[hx.len,hg.len]
 constructor
 · intro h
   split at h
   · rename_i hf
     obtain⟨q1,q2,q3⟩:=W9 p _ _ (Nat.le_refl _) hw (fun k hk=>absurd hk (by omega)) s h
     have hhas:=NW hg hx hf.2
     refine⟨⟨⟨q1,q2⟩,fun k hk=> ?_,R8 p _ _ _ hf.1 s h⟩,fun k hk=> ?_⟩
     · have:=hhas k hk
       rw[q3 k (by omega),this]
     · have hkl:k<p.given.length:=by
        by_cases hkl:k<xs.length
        · omega
        · rw[Xp (by omega)]at hk;omega
       have e:=U9 (b:=xs) hkl
       rw[if_pos hk]at e
       rw[q3 k (by omega),e]
   · simp at h
 · rintro⟨⟨h1,h2,h3⟩,h4⟩
   have hc:clear p xs=true:=by
    simp only[clear,decide_eq_true_eq]
    rintro k hk ⟨a,b,c⟩
    have:=h2 k a
    have:=h4 k b
    omega
   have hew:Yv (Zw p.given xs) s:=fun k hk=>by
    by_cases hkl:k<p.given.length
    · rw[U9 hkl]at hk⊢
      split
      · rename_i h;exact h4 k h
      · rename_i h;rw[if_neg h]at hk;exact h2 k hk
    · rw[Xp (by rw[ZB];omega)]at hk;omega
   rw[if_pos ⟨Yl hp hw h1.1 hew h3,hc⟩]
   exact Wu hp h1 h3 _ _ (Nat.le_refl _) hw (fun k hk=>absurd hk (by omega)) hew
theorem Jhe{p:Q4}(hv:JB p=true){xs:List Int}(hx:Zk xs p.size.toNat):(if QT p (Zw p.given xs) p.size.toNat=true∧clear p xs=true then ZM p p.size.toNat (p.size.toNat*p.size.toNat) (Zw p.given xs)else[]).Nodup:=by
 obtain⟨hp,hg⟩:=Xb hv
 split
 · exact YA p _ _ (Nat.le_refl _) (W4 hg hx) (fun k hk=>absurd hk (by omega))
 · simp
def Jhf(p:Q4)(xs:List Int):List (List Int):=(Je6 p).filter fun s=>decide (Yv xs s)
theorem Jk0{p:Q4}(hv:JB p=true){xs:List Int}(hx:Zk xs p.size.toNat)(most:Nat):(NQ p p.size.toNat xs most).length=min most (Jhf p xs).length:=by
 have h:=Jiz (Jhe hv hx) ((Je5 p).filter _) (b:=Jhf p xs) fun s=>by
  rw[JkZ hv hx,Jhf,List.mem_filter,N5 hv,decide_eq_true_eq]
 rw[←h]
 unfold NQ
 split
 · rw[JP]
 · simp
end Go.Lg

namespace Go.Lg
def JfI:Op→Bool
 | .extract _ _=>true
 |_=>false
def Jfr(ops:Array Oper)(π:List Nat)(F:List Nat)(D:Option Nat)(σ:List Nat)(r:Nat):Bool:=
 ((List.range ops.size).all fun i=>match ops[i]? with|some o=>o.after.all fun e=> !Region.binds .any e||decide (e.on<i)|none=>true)&&
 ((List.range ops.size).all fun i=>π.contains i||σ.contains i)&&(π++σ).all (fun i=>decide (i<ops.size))&&decide (π++σ).Nodup&&
 Wi.pairsB (fun i j=> !(Zb ops ops.size i j)&&(!(U6 ops i j||U6 ops j i)||Zb ops ops.size j i)&&(YJ ops F D i||Zb ops ops.size j i)) π&&
 (match D with|some d=>(match ops[d]? with|some o=>o.guard.isNone&&(match o.op with| .alloc _=>true| .makeSlice .. =>true|_=>false)|none=>false)&&π.all (fun i=>decide (i=d)|| !U6 ops i d)|none=>true)&&
 σ.all (fun i=>π.all fun j=>Zb ops ops.size i j||(j==r&& !(U6 ops i r||U6 ops r i)))&&Wi.pairsB (fun i j=>Zb ops ops.size j i) σ&&
 (π.contains r&&(D !=some r&&(match ops[r]? with|some o=>o.guard.isNone&&(JfI o.op&&o.dst.isSome)|none=>false)))&&σ.all (fun i=>match ops[i]? with|some o=>o.guard.isNone|none=>false)
structure JlB(ops:Array Oper)(π:List Nat)(F:List Nat)(D:Option Nat)(σ:List Nat)(r:Nat):Prop where
 back:∀(i:Nat) (o:Oper),ops[i]? =some o→∀e∈o.after,Region.binds .any e=true→e.on<i
 cover:∀i,i<ops.size→i∈π∨i∈σ
 inb:∀i,i∈π++σ→i<ops.size
 nd:(π++σ).Nodup
 ord:∀(l1 l2 l3:List Nat) (i j:Nat),π=l1++i::l2++j::l3→Zb ops ops.size i j=false∧(Kb ops i j∨Zb ops ops.size j i=true)∧(YJ ops F D i=true∨Zb ops ops.size j i=true)
 gh:∀d,D=some d→(∃o,ops[d]? =some o∧o.guard=none∧Vo o.op=false)∧∀i∈π,i≠d→U6 ops i d=false
 last:∀i∈σ,∀j∈π,Zb ops ops.size i j=true∨(j=r∧Kb ops i r)
 seq:∀(l1 l2 l3:List Nat) (i j:Nat),σ=l1++i::l2++j::l3→Zb ops ops.size j i=true
 rp:r∈π∧D≠some r
 re:∃d x n t p e,ops[r]? =some ⟨some d, .extract x n,t,p,e,none⟩
 sg:∀i∈σ,∀o,ops[i]? =some o→o.guard=none
theorem Jih{ops:Array Oper}{π:List Nat}{F:List Nat}{D:Option Nat}{σ:List Nat}{r:Nat}(h:Jfr ops π F D σ r=true):JlB ops π F D σ r:=by
 unfold Jfr at h
 simp only[Bool.and_eq_true]at h
 obtain⟨⟨⟨⟨⟨⟨⟨⟨⟨h1,h2⟩,h3⟩,h4⟩,h5⟩,h6⟩,h7⟩,h8⟩,h9,h10,h11⟩,h12⟩:=h
 refine⟨fun i o ho e he hb=> ?_,fun i hi=> ?_,fun i hi=> ?_,of_decide_eq_true h4,fun l1 l2 l3 i j hp=> ?_,fun d hd=> ?_,fun i hi j hj=> ?_,fun l1 l2 l3 i j hp=> ?_,⟨by simpa using h9,by simpa using h10⟩, ?_,fun i hi o ho=> ?_⟩
 · have hi:i<ops.size:=(Array.getElem?_eq_some_iff.1 ho).1
   have:=List.all_eq_true.1 h1 i (List.mem_range.2 hi)
   simp only[ho]at this
   have h2:=Array.all_eq_true'.1 this e he
   simpa[hb]using h2
 · have:=List.all_eq_true.1 h2 i (List.mem_range.2 hi)
   simpa using this
 · simpa using List.all_eq_true.1 h3 i hi
 · have:=Xo h5 ⟨l3,hp⟩
   simp only[Bool.and_eq_true,Bool.or_eq_true,Bool.not_eq_true']at this
   refine⟨this.1.1,this.1.2.imp (fun h=> ?_) id,this.2⟩
   have h:=Bool.or_eq_false_iff.1 h
   exact⟨h.1,h.2⟩
 · subst hd
   simp only[Bool.and_eq_true]at h6
   refine⟨?_,fun i hi hne=> ?_⟩
   · cases ho:ops[d]? with
     |none=>rw[ho]at h6;cases h6.1
     |some o=>
      rw[ho]at h6
      simp only[Bool.and_eq_true,Option.isNone_iff_eq_none]at h6
      refine⟨o,rfl,h6.1.1, ?_⟩
      have:=h6.1.2
      split at this
      · rename_i q;rw[q];rfl
      · rename_i q;rw[q];rfl
      · cases this
   · have:=List.all_eq_true.1 h6.2 i hi
     simpa[hne]using this
 · have:=List.all_eq_true.1 (List.all_eq_true.1 h7 i hi) j hj
   simp only[Bool.or_eq_true,Bool.and_eq_true,Bool.not_eq_true',beq_iff_eq]at this
   refine this.imp id fun⟨e1,e2⟩=>⟨e1, ?_⟩
   have h:=Bool.or_eq_false_iff.1 e2
   exact⟨h.1,h.2⟩
 · exact Xo (f:=fun i j=>Zb ops ops.size j i) h8 ⟨l3,hp⟩
 · cases ho:ops[r]? with
   |none=>rw[ho]at h11;cases h11
   |some o=>
    rw[ho]at h11
    simp only[Bool.and_eq_true,Option.isNone_iff_eq_none]at h11
    obtain⟨d,op,t,p,e,g⟩:=o
    obtain⟨g1,g2,g3⟩:=h11
    simp only at g1 g2 g3
    subst g1
    cases d with
    |none=>cases g3
    |some d=>
     cases op with
     |extract x n=>exact⟨d,x,n,t,p,e,rfl⟩
     |_=>cases g2
 · have:=List.all_eq_true.1 h12 i hi
   rw[ho]at this
   simpa using this
section
variable{P:Program}{ops:Array Oper}{m:List Bool}{π σ:List Nat}{F:List Nat}{D:Option Nat}{r:Nat}{w0:World}{X0:Cx}{H0:Jm}{K:KS}
def swL(P:Program)(ops:Array Oper):List Nat→List AV→Jm→KS→Prop
 |[],s,H,K=>K s H
 |i::l,s,H,K=>match ops[i]? with
  |none=>False
  |some o=>JK P ops o s H fun v H'=>swL P ops l (QV s o.dst v) H' K
def StR(P:Program)(ops:Array Oper)(m:List Bool)(π σ:List Nat)(F:List Nat)(D:Option Nat)(r:Nat)(w0:World)(X0:Cx)(H0:Jm)(K:KS)(L:Array Bool)(a:Act)(w:World):Prop:=
 ∃X H s,Ev w0 X0 H0 w X H∧XC w X a ⟨s,H⟩∧
  ((ZX π L≠[]∧∃G,(∀e,G=some e→GhI w0 w X H a e∧∃d o,D=some d∧ops[d]? =some o∧o.dst=some e.d∧L.getD d false=true)∧lw P ops m F D (ZX π L) G s H (fun s H=>swL P ops σ s H K)∧ZX σ L=σ)∨
   (ZX π L=[]∧swL P ops (ZX σ L) s H K)∨
   (ZX π L=[r]∧∃o d v,ops[r]? =some o∧o.dst=some d∧JfI o.op=true∧o.guard=none∧X8 P s [] o.op=some v∧swL P ops (ZX σ L) (s.set d v) H K))
structure JmE(P:Program)(ops:Array Oper)(m:List Bool)(π σ:List Nat)(F:List Nat)(D:Option Nat)(r:Nat)(w0:World)(X0:Cx)(H0:Jm)(K:KS)(L:Array Bool)(a:Act)(w:World):Prop where
 size:L.size=ops.size
 closed:FH ops L
 st:StR P ops m π σ F D r w0 X0 H0 K L a w
theorem JdG{P:Program}{s:List AV}{H H':Jm}{op:Op}(h:JfI op=true):X8 P s H op=X8 P s H' op:=by
 cases op<;>first|rfl|cases h
theorem JfP{s:List AV}{d:Nat}{v:AV}{x:Operand}(h:∀t,x= .tmp t→t≠d):QY (s.set d v) x=QY s x:=by
 cases x with
 |tmp t=>
  have:=h t rfl
  show(s.set d v).getD t .void=s.getD t .void
  simp only[List.getD,Jg (Ne.symm this)]
 |_=>rfl
theorem Je3{Q:Exit→Act→World→Prop}(hB:JlB ops π F D σ r)(hQ:∀L a w,JmE P ops m π σ F D r w0 X0 H0 K L a w→(∀i,i<ops.size→L.getD i false=true)→Q .normal a w):
 ∀(fuel:Nat) (L:Array Bool) (a:Act) (w:World),((List.range ops.size).filter fun i=> !L.getD i false).length=fuel→JmE P ops m π σ F D r w0 X0 H0 K L a w→wpAny P .any ops Q fuel L a w:=by
 have hdone:∀L a w,JmE P ops m π σ F D r w0 X0 H0 K L a w→Region.ready .any ops L=[]→∀i,i<ops.size→L.getD i false=true:=by
  intro L a w inv hr i
  induction i using Nat.strongRecOn with
  |_ i ih=>
   intro hi
   cases hl:L.getD i false with
   |true=>rfl
   |false=>
    have:i∈Region.ready .any ops L:=mem_ready.2 ⟨by
     have hi':i<L.size:=by rw[inv.size];exact hi
     simp[hi']at hl⊢;exact hl,ops[i],Array.getElem?_eq_getElem hi,fun e he hb=>by
      have hlt:=hB.back i _ (Array.getElem?_eq_getElem hi) e he hb
      exact ih e.on hlt (by omega)⟩
    rw[hr]at this
    cases this
 intro fuel
 induction fuel with
 |zero=>
  intro L a w hn inv
  have hall:∀i,i<ops.size→L.getD i false=true:=by
   intro i hi
   have:=List.filter_eq_nil_iff.1 (List.eq_nil_of_length_eq_zero hn) i (List.mem_range.2 hi)
   simpa using this
  refine⟨?_,hQ L a w inv hall⟩
  cases hr:Region.ready .any ops L with
  |nil=>rfl
  |cons i r=>
   have hm:i∈Region.ready .any ops L:=by rw[hr];simp
   obtain⟨h1,o,h2,_⟩:=mem_ready.1 hm
   have hi:i<ops.size:=(Array.getElem?_eq_some_iff.1 h2).1
   have:=hall i hi
   have hi':i<L.size:=by rw[inv.size];exact hi
   simp[hi']at h1 this
   rw[h1]at this;cases this
 |succ fuel ih=>
  intro L a w hn inv
  refine⟨fun hr=>hQ L a w inv (hdone L a w inv hr),fun i hi=> ?_⟩
  obtain⟨hun,o,ho,hdeps⟩:=mem_ready.1 hi
  have hilt:i<ops.size:=(Array.getElem?_eq_some_iff.1 ho).1
  have hiL:i<L.size:=by rw[inv.size];exact hilt
  have hun':L.getD i false=false:=by simp[hiL]at hun⊢;exact hun
  have hwait:∀j,Zb ops ops.size i j=true→L.getD j false=true:=fun j hj=>
   VV inv.closed _ _ _ hj fun o' ho' e he hb=>by
    have:o'=o:=Option.some.inj (ho'.symm.trans ho)
    subst this;exact hdeps e he hb
  have hcount:((List.range ops.size).filter fun k=> !(L.setIfInBounds i true).getD k false).length=fuel:=by
   have e:((List.range ops.size).filter fun k=> !(L.setIfInBounds i true).getD k false)=((List.range ops.size).filter fun k=> !L.getD k false).filter (fun k=>decide (k≠i)):=by
    rw[List.filter_filter]
    refine List.filter_congr fun k hk=> ?_
    by_cases hki:k=i
    · subst hki;simp[hiL]
    · rw[getD_set_ne false (Ne.symm hki)];simp[hki]
   rw[e]
   have hnd:((List.range ops.size).filter fun k=> !L.getD k false).Nodup:=List.Pairwise.filter _ List.nodup_range
   have hmem:i∈(List.range ops.size).filter fun k=> !L.getD k false:=List.mem_filter.2 ⟨List.mem_range.2 hilt,by simp[hun']⟩
   have:=hnd.erase_eq_filter i
   have h2:=List.length_erase_of_mem hmem
   rw[this]at h2
   have e2:(fun k=>decide (k≠i))=(fun x=>x !=i):=by funext k;by_cases hk:k=i<;>simp[hk]
   rw[e2,h2,hn];rfl
  have hclosed:FH ops (L.setIfInBounds i true):=by
   intro j oj hoj hl e he hb
   by_cases hij:i=j
   · subst hij
     have:oj=o:=Option.some.inj (hoj.symm.trans ho)
     subst this
     exact getD_set_true (hdeps e he hb)
   · rw[getD_set_ne false hij]at hl
     exact getD_set_true (inv.closed j oj hoj hl e he hb)
  have hsize:(L.setIfInBounds i true).size=ops.size:=by simp[inv.size]
  have hnd:=Qo.1 hB.nd
  have fin:∀{a':Act} {w':World},StR P ops m π σ F D r w0 X0 H0 K (L.setIfInBounds i true) a' w'→wpAny P .any ops Q fuel (L.setIfInBounds i true) a' w':=
   fun h=>ih _ _ _ hcount ⟨hsize,hclosed,h⟩
  have hrσ:r∉σ:=fun h=>hnd.2.2 r hB.rp.1 r h rfl
  obtain⟨dr,xr,nr,tr,pr,er,hor⟩:=hB.re
  obtain⟨X,H,s,E,R,hcase⟩:=inv.st
  by_cases hiπ:i∈π
  · rcases hcase with⟨hrem,G,hG,hlw,hσ⟩|⟨hrem,_⟩|⟨hrem,o',d,v,ho',hd,hex,hgn,hv,hsw⟩
    · --the first part
      have hiσ:i∉σ:=fun h=>hnd.2.2 i hiπ i h rfl
      have hir:i∈ZX π L:=List.mem_filter.2 ⟨hiπ,by rw[hun'];rfl⟩
      obtain⟨l1,l2,hsplit⟩:=List.append_of_mem hir
      have hrem':=Kt hiL hnd.1 hsplit
      rw[hsplit]at hlw
      have hl1:∀k∈l1,k≠i∧Kb ops i k∧∃p,ops[k]? =some p∧(D=some k∨XD F k p=true):=by
       intro k hk
       obtain⟨q1,q2,hq⟩:=List.append_of_mem hk
       have hsub:(k::q2++i::l2).Sublist π:=by
        have h1:(ZX π L).Sublist π:=List.filter_sublist
        rw[hsplit,hq]at h1
        refine List.Sublist.trans ?_ h1
        simp
       have hpos:∃r1 r2 r3,π=r1++k::r2++i::r3:=by
        have h2:([k,i]:List Nat).Sublist π:=by
         refine List.Sublist.trans ?_ hsub
         simp
        obtain⟨r1,r2,e,hk1,hi1⟩:∃r1 r2,π=r1++r2∧k∈r1∧[i].Sublist r2:=by
         have:=List.cons_sublist_iff.1 h2
         obtain⟨r1,r2,e1,e2,e3⟩:=this
         exact⟨r1,r2,e1,e2,e3⟩
        obtain⟨c1,c2,hc⟩:=List.append_of_mem hk1
        obtain⟨d1,d2,hd⟩:=List.append_of_mem (List.singleton_sublist.1 hi1)
        exact⟨c1,c2++d1,d2,by rw[e,hc,hd];simp⟩
       obtain⟨r1,r2,r3,hπ⟩:=hpos
       obtain⟨o1,o2,o3⟩:=hB.ord r1 r2 r3 k i hπ
       have hku:L.getD k false=false:=by
        have:k∈ZX π L:=by rw[hsplit];exact List.mem_append_left _ hk
        have:=(List.mem_filter.1 this).2
        simpa using this
       have hnw:¬Zb ops ops.size i k=true:=fun h=>by rw[hwait k h]at hku;cases hku
       have hki:k≠i:=by
        rintro rfl
        have:=hnd.1
        rw[hπ]at this
        simp[Qo]at this
       have hq:=o3.resolve_right hnw
       have hkπ:k<ops.size:=hB.inb k (by rw[hπ];simp)
       refine⟨hki,(o2.resolve_right hnw).symm,ops[k],Array.getElem?_eq_getElem hkπ, ?_⟩
       unfold YJ at hq
       rw[Array.getElem?_eq_getElem hkπ]at hq
       simpa using hq
      --what comes behind a step of the first part
      have stay:∀{G':Option Gh} {s':List AV} {X':Cx} {H':Jm} {a':Act} {w':World},Ev w0 X0 H0 w' X' H'→XC w' X' a' ⟨s',H'⟩→(∀e,G'=some e→GhI w0 w' X' H' a' e∧∃d o,D=some d∧ops[d]? =some o∧o.dst=some e.d∧(L.setIfInBounds i true).getD d false=true)→
       lw P ops m F D (l1++l2) G' s' H' (fun s H=>swL P ops σ s H K)→wpAny P .any ops Q fuel (L.setIfInBounds i true) a' w':=by
       intro G' s' X' H' a' w' E' R' hG' hlw'
       have hσ':ZX σ (L.setIfInBounds i true)=σ:=by rw[Bn hiσ,hσ]
       by_cases he:l1++l2=[]
       · rw[he]at hlw'
         have hlw':XH G' s' H' (fun s H=>swL P ops σ s H K):=hlw'
         refine fin ?_
         cases G' with
         |none=>exact⟨X',H',s',E',R', .inr (.inl ⟨by rw[hrem',he],by rw[hσ'];exact hlw'⟩)⟩
         |some e=>
          obtain⟨g,X2,E2,R2⟩:=(hG' e rfl).1.real E' R'
          exact⟨X2,_,_,E2,R2, .inr (.inl ⟨by rw[hrem',he],by rw[hσ'];exact hlw' g⟩)⟩
       · exact fin ⟨X',H',s',E',R', .inl ⟨by rw[hrem'];exact he,G',hG',by rw[hrem'];exact hlw',hσ'⟩⟩
      have hGd:∀e,G=some e→D≠some i∧o.dst≠some e.d:=by
       intro e he
       obtain⟨_,d,od,h1,h2,h3,h4⟩:=hG e he
       have hne:i≠d:=fun h=>by rw[←h,hun']at h4;cases h4
       refine⟨fun h=>hne (Option.some.inj (h.symm.trans h1)),fun h=> ?_⟩
       have:=(hB.gh d h1).2 i hiπ hne
       simp only[U6,ho,h2,h3,Bool.or_eq_false_iff]at this
       rw[h]at this
       simp at this
      have keepG:∀{w':World} {X':Cx} {H':Jm} {u:Value},Ev w X H w' X' H'→ZL w' X' H'→∀e,G=some e→GhI w0 w' X' H' (a.put o.dst u) e∧∃d o,D=some d∧ops[d]? =some o∧o.dst=some e.d∧(L.setIfInBounds i true).getD d false=true:=by
       intro w' X' H' u E' R' e he
       obtain⟨h0,d,od,h1,h2,h3,h4⟩:=hG e he
       exact⟨h0.mono R.heap E' R' (hGd e he).2,d,od,h1,h2,h3,getD_set_true h4⟩
      unfold wpOp
      simp only[ho]
      by_cases hD:D=some i
      · --the new block
        obtain⟨⟨o',ho',hgn,hnv⟩,hme⟩:=hB.gh i hD
        have:o'=o:=Option.some.inj (ho'.symm.trans ho)
        subst this
        obtain⟨v,G',hq,hlw'⟩:=Bz ho (.inl hD) l1 G s hl1 hlw
        rcases hq with⟨_,e,h1,h2,h3⟩|⟨h,_⟩
        · subst h2 h3
          obtain⟨hd,hc,hop⟩:=Jbf (H:=H) h1.1
          rw[if_pos (by simp[Region.wanted,hgn])]
          refine .inl (hop w X a R _ _ fun v u X' H' w' k1 k2 k3 ⟨g,k4,k5⟩=> ?_)
          subst k4 k5
          have Eh:Ev w' X' (H++[some ⟨g,e.sz,e.cs⟩]) w' X' H:=(J0.app _ _).ev
          have E1:Ev w X H w' X' H:=k3.trans Eh
          have hdl:e.d<a.tmps.size:=by rw[R.size];exact h1.2
          refine stay (E.trans E1) (R.put E1 ((J0.app _ _).rel k2) (.any _)) (fun e' he'=> ?_) hlw'
          cases he'
          refine⟨?_,i,o',hD,ho,hd,by simp[hiL]⟩
          rw[hd]
          exact GhI.new E.size hdl hc R.heap k3 k2 k1
        · exact absurd hD h
      · by_cases hv:XD F i o=true
        · obtain⟨v,G',hq,hlw'⟩:=Bz ho (.inr hv) l1 G s hl1 hlw
          rcases hq with⟨h,_⟩|⟨_,hGG,hq⟩
          · exact absurd h hD
          subst hGG
          have run:qv P ops m o s H v→o.wp P a w (wpAny P .any ops Q fuel (L.setIfInBounds i true)) Q:=by
           intro hov
           unfold qv at hov
           split at hov
           rotate_left
           · exact hov H w X a (R.toT _) _ _ fun u w' X' hg' hw' hv' hH'=>stay (E.trans (hw'.ev hg' R.heap)) (R.put (hw'.ev hg' R.heap) hH' hv') (keepG (hw'.ev hg' R.heap) hH') hlw'
           obtain⟨u,k1,k2⟩:=Wm (P:=P) R (Nc (Gv m H) hov)
           exact Z7 (k1 w (Z6.refl w) o rfl) (stay E (R.put (Ev.refl _ _ _) R.heap k2) (keepG (Ev.refl _ _ _) R.heap) hlw')
          split at hq
          · rename_i hgd
            rw[if_pos (by simp[Region.wanted,hgd])]
            exact .inl (run hq.2)
          · rename_i j want hgd
            obtain⟨g,hg1,hg2,hg3⟩:=hq
            have hy:=UW R hg1
            by_cases he:g=some want
            · rw[if_pos (by simp[Region.wanted,hgd,hy,he])]
              exact .inl (run (hg2 he).2)
            · rw[if_neg (by simp only[Region.wanted,hgd,hy];simpa using he)]
              rw[hg3 he]at hlw'
              exact stay E (R.put (Ev.refl _ _ _) R.heap .void) (keepG (Ev.refl _ _ _) R.heap) hlw'
        · have hls:=Np ho hD hv l1 G s hl1 hlw
          unfold FU at hls
          have run:(JK P ops o s H fun v H'=>J0 (Zg m H') (Zg m H)∧lw P ops m F D (l1++l2) G (QV s o.dst v) H' (fun s H=>swL P ops σ s H K))→o.wp P a w (wpAny P .any ops Q fuel (L.setIfInBounds i true)) Q:=fun hop=>
           hop w X a (R.toT _) _ _ fun v u X' H' w' k1 k2 k3 ⟨_,k4⟩=>stay (E.trans k3) (R.put k3 k2 k1) (keepG k3 k2) k4
          split at hls
          · rename_i hgd
            rw[if_pos (by simp[Region.wanted,hgd])]
            exact .inl (run hls)
          · rename_i j want hgd
            obtain⟨g,hg1,hg2,hg3⟩:=hls
            have hy:=UW R hg1
            by_cases he:g=some want
            · rw[if_pos (by simp[Region.wanted,hgd,hy,he])]
              exact .inl (run (hg2 he))
            · rw[if_neg (by simp only[Region.wanted,hgd,hy];simpa using he)]
              exact stay E (R.put (Ev.refl _ _ _) R.heap .void) (keepG (Ev.refl _ _ _) R.heap) (hg3 he)
    · exfalso
      have:i∈ZX π L:=List.mem_filter.2 ⟨hiπ,by rw[hun'];rfl⟩
      rw[hrem]at this;cases this
    · --a part of the result is taken out
      have hir:i∈ZX π L:=List.mem_filter.2 ⟨hiπ,by rw[hun'];rfl⟩
      rw[hrem,List.mem_singleton]at hir
      subst hir
      obtain rfl:o'=o:=Option.some.inj (ho'.symm.trans ho)
      have hrem':ZX π (L.setIfInBounds i true)=[]:=by
       have:=Kt (l1:=[]) (l2:=[]) hiL hnd.1 hrem
       exact this
      unfold wpOp
      simp only[ho]
      rw[if_pos (by simp[Region.wanted,hgn])]
      refine .inl ?_
      obtain⟨u,k1,k2⟩:=Wm (P:=P) (st:=⟨s,H⟩) R (by rw[JdG (H':=[]) hex];exact hv)
      have R':=R.put (Ev.refl _ _ _) R.heap k2 (d:=o'.dst)
      rw[hd]at R'
      refine Z7 (k1 w (Z6.refl w) o' rfl) (fin ⟨X,H,_,E,by rw[hd];exact R', .inr (.inl ⟨hrem',by rw[Bn hrσ];exact hsw⟩)⟩)
  · --the second part
    have hiσ:i∈σ:=(hB.cover i hilt).resolve_left hiπ
    have hlast:∀j∈ZX π L,j=r∧Kb ops i r:=fun j hj=>by
     obtain⟨h1,h2⟩:=List.mem_filter.1 hj
     rcases hB.last i hiσ j h1 with h|h
     · rw[hwait j h]at h2;cases h2
     · exact h
    have hst:∃X H s,Ev w0 X0 H0 w X H∧XC w X a ⟨s,H⟩∧((ZX π L=[]∧swL P ops (ZX σ L) s H K)∨
     (ZX π L=[r]∧∃o d v,ops[r]? =some o∧o.dst=some d∧JfI o.op=true∧o.guard=none∧X8 P s [] o.op=some v∧swL P ops (ZX σ L) (s.set d v) H K)):=by
     rcases hcase with⟨hrem,G,hG,hlw,hσ⟩|h|h
     · have hr1:ZX π L=[r]:=by
        have hn2:(ZX π L).Nodup:=List.Pairwise.filter _ hnd.1
        cases hc:ZX π L with
        |nil=>exact absurd hc hrem
        |cons k q=>
         rw[hc]at hlast hn2
         have hk:=(hlast k (by simp)).1
         cases q with
         |nil=>rw[hk]
         |cons k2 q2=>
          have hk2:=(hlast k2 (by simp)).1
          rw[hk,hk2]at hn2
          simp at hn2
       rw[hr1]at hlw
       obtain⟨v,G',hq,hlw'⟩:=JkQ hor (.inr rfl) hlw
       rcases hq with⟨h,_⟩|⟨_,hGG,hq⟩
       · exact absurd h hB.rp.2
       subst hGG
       have hq:=hq.2
       unfold qv at hq
       rw[if_pos (show Vo (Op.extract xr nr)=true from rfl),JdG (H':=[]) rfl]at hq
       have hlw':XH G' (s.set dr v) H (fun s H=>swL P ops σ s H K):=hlw'
       cases G' with
       |none=>exact⟨X,H,s,E,R, .inr ⟨hr1,_,dr,v,hor,rfl,rfl,rfl,hq,by rw[hσ];exact hlw'⟩⟩
       |some e=>
        obtain⟨hgh,d,od,h1,h2,h3,h4⟩:=hG e rfl
        obtain⟨g,X2,E2,R2⟩:=hgh.real E R
        have hne:r≠d:=fun h=>hB.rp.2 (by rw[h];exact h1)
        have hm:=(hB.gh d h1).2 r hB.rp.1 hne
        simp only[U6,hor,h2,h3,Bool.or_eq_false_iff]at hm
        have hde:dr≠e.d:=fun h=>by
         have:=hm.2
         rw[h]at this
         simp at this
        refine⟨X2,_,_,E2,R2, .inr ⟨hr1,_,dr,v,hor,rfl,rfl,rfl, ?_, ?_⟩⟩
        · rw[←hq]
          refine Ye fun x hx=>JfP fun t ht he=> ?_
          have hl:=Vr (ops:=ops) (o:=⟨some dr, .extract xr nr,tr,pr,er,none⟩) hx t ht
          rw[he]at hl
          have:=hm.1
          simp[hl]at this
        · rw[hσ,List.set_comm _ _ (Ne.symm hde)]
          exact hlw' g
     · exact⟨X,H,s,E,R, .inl h⟩
     · exact⟨X,H,s,E,R, .inr h⟩
    clear hcase R E s H X
    obtain⟨X,H,s,E,R,hcase⟩:=hst
    have hgn:=hB.sg i hiσ o ho
    have hir:i∈ZX σ L:=List.mem_filter.2 ⟨hiσ,by rw[hun'];rfl⟩
    obtain⟨l1,l2,hsplit⟩:=List.append_of_mem hir
    have hl1:l1=[]:=by
     cases l1 with
     |nil=>rfl
     |cons k q=>
      exfalso
      have hsub:([k,i]:List Nat).Sublist σ:=by
       have h1:(ZX σ L).Sublist σ:=List.filter_sublist
       rw[hsplit]at h1
       refine List.Sublist.trans ?_ h1
       simp
      obtain⟨r1,r2,e1,hk1,hi1⟩:=List.cons_sublist_iff.1 hsub
      obtain⟨c1,c2,hc⟩:=List.append_of_mem hk1
      obtain⟨d1,d2,hd⟩:=List.append_of_mem (List.singleton_sublist.1 hi1)
      have hw:=hwait k (hB.seq c1 (c2++d1) d2 k i (by rw[e1,hc,hd];simp))
      have:k∈ZX σ L:=by rw[hsplit];simp
      have:=(List.mem_filter.1 this).2
      rw[hw]at this;cases this
    subst hl1
    have hrem':=Kt hiL hnd.2.1 hsplit
    have hπ':=Bn (L:=L) hiπ
    simp only[Jc]at hsplit hrem'
    unfold wpOp
    simp only[ho]
    rw[if_pos (by simp[Region.wanted,hgn])]
    rcases hcase with⟨hrem,hsw⟩|⟨hrem,o',d,v,ho',hd,hex,hgn',hv,hsw⟩
    · rw[hsplit]at hsw
      unfold swL at hsw
      rw[ho]at hsw
      exact .inl (hsw w X a (R.toT _) _ _ fun v u X' H' w' k1 k2 k3 k4=>fin ⟨X',H',_,E.trans k3,R.put k3 k2 k1, .inr (.inl ⟨by rw[hπ',hrem],by rw[hrem'];exact k4⟩)⟩)
    · have hap:=(hlast r (by rw[hrem];simp)).2
      have hmr:U6 ops i r=false∧U6 ops r i=false:=hap
      simp only[U6,ho,ho',hd,Bool.or_eq_false_iff]at hmr
      have hdl:d∉o.looksAt ops:=fun h=>by
       have:=hmr.1.1
       simp[h]at this
      have hdd:o.dst≠some d:=fun h=>by
       have:=hmr.1.2
       rw[h]at this
       simp at this
      rw[hsplit]at hsw
      unfold swL at hsw
      rw[ho]at hsw
      have RT:Jfa w X a (s.set d v) H (o.looksAt ops):=by
       have R0:=R.toT (o.looksAt ops)
       refine⟨R0.defs,by rw[Jo];exact R0.size,fun t ht htl=> ?_,R0.heap⟩
       have hne:t≠d:=fun h=>hdl (h▸ht)
       rw[Jo]at htl
       have e:(s.set d v).getD t .void=s.getD t .void:=by simp only[List.getD,Jg (Ne.symm hne)]
       rw[e]
       exact R0.slot t ht htl
      refine .inl (hsw w X a RT _ _ fun v' u X' H' w' k1 k2 k3 k4=>fin ⟨X',H',_,E.trans k3,R.put k3 k2 k1, .inr (.inr ⟨by rw[hπ',hrem],o',d,v,ho',hd,hex,hgn', ?_, ?_⟩)⟩)
      · rw[←hv]
        refine Ye fun x hx=> ?_
        cases hod:o.dst with
        |none=>rfl
        |some d'=>
         refine JfP fun t ht he=> ?_
         have hl:=Vr (ops:=ops) hx t ht
         rw[he]at hl
         have:=hmr.2
         simp only[hod,Bool.or_eq_false_iff]at this
         have:=this.1
         simp[hl]at this
      · rw[hrem']
        cases hod:o.dst with
        |none=>rw[hod]at k4;exact k4
        |some d'=>
         rw[hod]at k4 hdd
         have hne:d'≠d:=fun h=>hdd (by rw[h])
         have k4:swL P ops l2 ((s.set d v).set d' v') H' K:=k4
         rw[List.set_comm _ _ (Ne.symm hne)]at k4
         exact k4
end
theorem QH.regionR{P:Program}{id:Nat}{ops:Array Oper}{st:St}{Q:Exit→St→Prop}(π:List Nat)(F:List Nat)(D:Option Nat)(σ:List Nat)(r:Nat)(m:List Bool)(hm:P.follows .mixedOrders=true)(hB:Jfr ops π F D σ r=true)
 (h:lw P ops m F D π none st.s st.h fun s H=>swL P ops σ s H fun s H=>Q .normal ⟨s,H⟩):QH P (.region id ops true) st Q:=by
 intro w X a R
 have hd:Z6 w {w with drawn:=w.drawn+1}:=⟨fun _ _=>rfl,Nat.le_refl _,rfl,rfl,rfl⟩
 have Rd:=hd.st R
 refine wp_region_any hm ?_
 have hrep:∀j,(Array.replicate ops.size false).getD j false=false:=fun j=>by
  rcases Nat.lt_or_ge j ops.size with h|h
  · simp[h]
  · simp[h]
 have hn:((List.range ops.size).filter fun i=> !(Array.replicate ops.size false).getD i false).length=ops.size:=by
  rw[List.filter_eq_self.2]
  · simp
  · intro i hi
    rw[hrep];rfl
 have hfull:∀l:List Nat,ZX l (Array.replicate ops.size false)=l:=fun l=>List.filter_eq_self.2 fun i _=>by rw[hrep];rfl
 have hB':=Jih hB
 refine Je3 (P:=P) (m:=m) (w0:=w) (X0:=X) (H0:=st.h) (K:=fun s H=>Q .normal ⟨s,H⟩) hB' ?_ ops.size _ a _ hn ⟨by simp,(fun j o _ hl=>by rw[hrep]at hl;cases hl),X,st.h,st.s,hd.ev R.heap,Rd, ?_⟩
 · intro L a' w' inv hall
   obtain⟨X',H,s,E,R',hc⟩:=inv.st
   have h1:∀l:List Nat,(∀i∈l,i∈π++σ)→ZX l L=[]:=fun l hl=>List.filter_eq_nil_iff.2 fun i hi=>by rw[hall i (hB'.inb i (hl i hi))];simp
   have hπ0:=h1 π fun i hi=>List.mem_append_left _ hi
   rcases hc with⟨h2,_⟩|⟨_,h3⟩|⟨h2,_⟩
   · exact absurd hπ0 h2
   · rw[h1 σ fun i hi=>List.mem_append_right _ hi]at h3
     exact⟨X',⟨s,H⟩,R',E,h3⟩
   · rw[hπ0]at h2;cases h2
 · have hne:π≠[]:=fun h=>by have:=hB'.rp.1;rw[h]at this;cases this
   exact .inl ⟨by rw[hfull];exact hne,none,⟨fun e he=>(by cases he),by rw[hfull];exact h,hfull _⟩⟩
def Jgc(P:Program)(ops:Array Oper)(σ:List Nat)(K:KS):KS:=fun s H=>swL P ops σ s H K
theorem YO{P:Program}{ops:Array Oper}{s:List AV}{H:Jm}{K:KS}(π:List Nat)(F:List Nat)(D:Option Nat)(σ:List Nat)(r:Nat)(m:List Bool)(hm:P.follows .mixedOrders=true)(hB:Jfr ops π F D σ r=true)
 (h:Rq P ops m F D π none s H (Jgc P ops σ K)):KJ P ops s H K:=
 JfR hm fun _=>QH.regionR π F D σ r m hm hB (JiN P ops m F D _ π none s H h)
theorem JK.opW{P:Program}{ops:Array Oper}{o:Oper}{s:List AV}{H:Jm}{K:KV}(h:Lg.opW P o s H K)(hl:Vo o.op=true∨X4 o.op=true):JK P ops o s H K:=by
 unfold Lg.opW at h
 by_cases hv:Vo o.op=true
 · rw[if_pos hv]at h
   obtain⟨v,h1,h2⟩:=h
   refine JK.of (JZ.val (v:=v) ?_ h2)
   show X8 P (restr (o.looksAt ops) s) H o.op=some v
   rw[Ye fun x hx=>Ym (Vr hx)]
   exact h1
 · rw[if_neg hv]at h
   refine FW ?_
   unfold JfF
   rw[if_pos (hl.resolve_left hv)]
   exact h
def swV(P:Program)(ops:Array Oper)(σ:List Nat)(K:KS)(s:List AV)(d:Option Tmp):KV:=fun v H'=>Jgc P ops σ K (QV s d v) H'
theorem JlM(P:Program)(ops:Array Oper)(σ:List Nat)(K:KS)(s:List AV)(d:Option Tmp)(v:AV)(H':Jm):swV P ops σ K s d v H'=Jgc P ops σ K (QV s d v) H':=propext Iff.rfl
theorem VJ{P:Program}{ops:Array Oper}{s:List AV}{H:Jm}{K:KS}{i:Nat}{σ:List Nat}{d:Option Tmp}{op:Op}{t:TypeId}{p:String}{e:Array Edge}{g:Option (Nat×Bool)}(ho:ops[i]? =some ⟨d,op,t,p,e,g⟩)(hl:Vo op=true∨X4 op=true)(h:Lg.opW P ⟨d,op,t,p,e,g⟩ s H (swV P ops σ K s d)):Jgc P ops (i::σ) K s H:=by
 unfold Jgc swL
 rw[ho]
 exact JK.opW h hl
theorem JhX(P:Program)(ops:Array Oper)(K:KS)(s:List AV)(H:Jm):Jgc P ops [] K s H=K s H:=propext Iff.rfl
attribute [go_sem] JhX JlM
end Go.Lg
