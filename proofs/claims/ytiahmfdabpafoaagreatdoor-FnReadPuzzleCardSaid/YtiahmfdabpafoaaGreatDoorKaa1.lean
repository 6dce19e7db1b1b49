/- LgD, LgE, cut to what is needed. -/
import Derived.Test.YtiahmfdabpafoaaGreatDoorKaa0
import Derived.Laws.StructEq
open List renaming getElem?_eq_some_iff → Ja, getElem?_eq_getElem → Jh, length_take → JA, length_drop → ZI
open Nat renaming reduceAdd→zA,reduceMul→zM,reduceSub→zS,reduceEqDiff→zE,reduceLeDiff→zL
set_option linter.unusedSimpArgs false
set_option linter.unusedVariables false
namespace Go.Lg
def UE(s:List AV):Option Operand→Option (Option Nat)
 |none=>some none
 |some x=>match QH s x with
  | .c (.f (.int _ i))=>if 0≤i then some (some i.toNat)else none
  |_=>none
def Uf(P:Program)(H:Ji)(t:TypeId)(x:AV)(lo hi mx:Option Nat):Option AV:=
 match Jy P t,x with
 |some ti, .c (.f (.str s))=>match ti.k,mx with
  | .str,none=>if lo.getD 0≤hi.getD s.size∧hi.getD s.size≤s.size then some (.c (.f (.str (s.extract (lo.getD 0) (hi.getD s.size)))))else none
  |_,_=>none
 |some ti, .c (.f (.sl n cs))=>match ti.k with
  | .slice e=>match Jy P e with
    |some ei=>
     let l:=lo.getD 0
     let h:=hi.getD n
     if l≤h∧h≤mx.getD h∧mx.getD h≤n∧(mx.isSome→hi.isSome)then(if mx=some l then some (.c .emp)else some (.c (.f (.sl (h -l) ((cs.drop (l*ei.size)).take ((h -l)*ei.size))))))else none
    |none=>none
  |_=>none
 |some ti, .c (.f .nil)=>match ti.k with
  | .slice e=>match Jy P e with
    |some _=>if lo.getD 0=0∧hi.getD 0=0∧mx.getD 0=0∧(mx.isSome→hi.isSome)then some (.c (.f .nil))else none
    |none=>none
  |_=>none
 |some ti, .c (.own id g off n lim)=>match ti.k with
  | .slice e=>match Jy P e,look H id g with
    |some ei,some b=>
     let l:=lo.getD 0
     let h:=hi.getD n
     let m:=mx.getD h
     if l≤h∧h≤m∧off+m*b.sz≤b.cs.length∧(mx.isSome→hi.isSome)∧b.sz=ei.size∧0<b.sz∧m≤lim.getD m then
      some (.c (.own id g (off+l*b.sz) (h -l) (match mx,lim with|some m,_=>some (m -l)|none,some c=>some (c -l)|none,none=>none)))
     else none
    |_,_=>none
  |_=>none
 |_,_=>none
theorem VU{w:World}{X:Cx}{a:Act}{st:St}(R:V2 w X a st){x:Option Operand}{r:Option Nat}(h:UE st.s x=some r):
 (x=none∧r=none)∨∃y k i,x=some y∧a.eval y= .int k i∧0≤i∧r=some i.toNat:=by
 cases x with
 |none=>simp[UE]at h;exact .inl ⟨rfl,h.symm⟩
 |some y=>
  simp only[UE]at h
  split at h
  · rename_i k i hy
    split at h
    · rename_i h0
      cases h
      have:=JO R y
      rw[hy]at this
      exact .inr ⟨y,k,i,rfl,ZL this,h0,rfl⟩
    · cases h
  · cases h
theorem WW{P:Program}{w:World}{k:IntKind}{i:Int}{y:Nat}{code:BoundsCode}(h0:0≤i)(h:i.toNat≤y):(Instr.sliceBound (.int k i) y code).run P w= .ok i.toNat w:=by
 have:0≤i∧i≤y:=⟨h0,by omega⟩
 simp[Instr.sliceBound,asIntOf,this]
theorem Zy{P:Program}{w:World}{X:Cx}{a:Act}{st:St}(R:V2 w X a st){isS:Bool}{n c:Nat}{lo hi mx:Option Operand}{l h m:Option Nat}(hl:UE st.s lo=some l)(hh:UE st.s hi=some h)(hm:UE st.s mx=some m)
 (h1:l.getD 0≤h.getD n) (h2:h.getD n≤m.getD c) (h3:m.getD c≤c) (h4:m.isSome→h.isSome):
 ∀w',(Instr.sliceBounds isS n c (lo.map a.eval) (hi.map a.eval) (mx.map a.eval)).run P w'= .ok (l.getD 0,h.getD n,m.getD c) w':=by
 intro w'
 rcases VU R hl with⟨rfl,rfl⟩|⟨yl,kl,il,rfl,el,pl,rfl⟩<;>rcases VU R hh with⟨rfl,rfl⟩|⟨yh,kh,ih,rfl,eh,ph,rfl⟩<;>
  rcases VU R hm with⟨rfl,rfl⟩|⟨ym,km,im,rfl,em,pm,rfl⟩<;>
  simp only[Option.getD_some,Option.getD_none,Option.map_some,Option.map_none]at* <;>
  first
   |(simp at h4;done)
   |(simp only[Instr.sliceBounds, *]
     first
      |rfl
      |(simp only[Sem.run_bind,Sem.run_pure,Result.andThen_ok,Option.isSome_some,Option.isSome_none,if_true,Bool.false_eq_true,if_false]
        (repeat rw[WW (by assumption) (by omega),Result.andThen_ok])
        try(first|rfl|(simp only[Result.andThen_ok,Sem.run_pure,Sem.run_bind];(repeat rw[WW (by assumption) (by omega),Result.andThen_ok]);try rfl))))
theorem Z8{P:Program}{w:World}{t e:TypeId}{ei:TI}{a:Option Addr}{n c l h m:Nat}{lo hi mx:Option Value}(hu:P.underlying t=some (.slice e))(he:Jy P e=some ei)
 (hb:(Instr.sliceBounds true n c lo hi mx).run P w= .ok (l,h,m) w):
 (Instr.sliceAt t (.slice a n c) lo hi mx).run P w= .ok (.slice (if m=l then a else a.map (·.add (l*ei.size))) (h -l) (m -l)) w:=by
 simp[Instr.sliceAt,Instr.slice,run_underlying hu,hb,QL he]
theorem BK{P:Program}{w:World}{t:TypeId}{s:ByteArray}{l h m:Nat}{lo hi:Option Value}(hu:P.underlying t=some .string)
 (hb:(Instr.sliceBounds false s.size s.size lo hi none).run P w= .ok (l,h,m) w):
 (Instr.sliceAt t (.string s) lo hi none).run P w= .ok (.string (s.extract l h)) w:=by
 simp[Instr.sliceAt,Instr.slice,run_underlying hu,hb]
theorem FZ{P:Program}{w:World}{X:Cx}{a:Act}{st:St}(R:V2 w X a st){t:TypeId}{x:AV}{xv:Value}{lo hi mx:Option Operand}{l h m:Option Nat}{v:AV}
 (hl:UE st.s lo=some l) (hh:UE st.s hi=some h) (hm:UE st.s mx=some m) (hx:VA w X st.h x xv) (hv:Uf P st.h t x l h m=some v):
 ∃u,(∀w',Za w w'→(Instr.sliceAt t xv (lo.map a.eval) (hi.map a.eval) (mx.map a.eval)).run P w'= .ok u w')∧VA w X st.h v u:=by
 unfold Uf at hv
 split at hv
 · rename_i ti s hti
   cases Vo hx
   obtain⟨inf,d,z',h1,h2,h3,h4,h5,h6,h7⟩:=J2 hti
   split at hv
   · rename_i hk
     rw[h5]at hk
     cases Rq hk
     split at hv
     · rename_i hb
       cases hv
       have hmx:mx=none:=by
        rcases VU R hm with⟨rfl,_⟩|⟨_,_,_,_,_,_,h⟩
        · rfl
        · cases h
       subst hmx
       exact⟨_,fun w' _=>BK h2 (Zy R hl hh hm hb.1 (by simpa using hb.2) (by simp) (by simp) w'), .c _ _ (VF.str _)⟩
     · cases hv
   · cases hv
 · rename_i ti n cs hti
   obtain⟨inf,d,z',h1,h2,h3,h4,h5,h6,h7⟩:=J2 hti
   split at hv
   · rename_i e hk
     rw[h5]at hk
     cases QW hk
     split at hv
     · rename_i ei hei
       simp only at hv
       split at hv
       · rename_i hb
         obtain⟨b1,b2,b3,b4⟩:=hb
         have hd:∀c,n≤c→h.getD n≤m.getD c∧m.getD c≤c:=fun c hc=>by
          cases m with
          |none=>simp at b2 b3⊢;omega
          |some m=>simp at b2 b3⊢;omega
         have hx':=ZB hx
         split at hv
         · rename_i hml
           cases hv
           subst hml
           have hhl:h.getD n=l.getD 0:=by simp at b2;omega
           have:∃a c,xv= .slice a n c∧n≤c:=by
            cases hx' with
            |sl0 a0 cap=>exact⟨_,_,rfl,Nat.zero_le _⟩
            |sl n cs b o cap u hc hI hu hvs=>exact⟨_,_,rfl,hc⟩
           obtain⟨a0,cap,rfl,hcap⟩:=this
           obtain⟨d1,d2⟩:=hd cap hcap
           refine⟨_,fun w' _=>Z8 h2 hei (Zy R hl hh hm b1 d1 d2 b4 w'), .c _ _ ?_⟩
           simp only[Option.getD_some,hhl,Nat.sub_self,if_true]
           exact⟨_,rfl⟩
         cases hv
         cases hx' with
         |sl0 a0 cap=>
          obtain⟨d1,d2⟩:=hd cap (Nat.zero_le _)
          refine⟨_,fun w' _=>Z8 h2 hei (Zy R hl hh hm b1 d1 d2 b4 w'), .c _ _ ?_⟩
          have e0:h.getD 0 -l.getD 0=0:=by
           have:h.getD 0≤0:=by
            cases m with
            |none=>simpa using b3
            |some m=>simp at b2 b3;omega
           omega
          rw[e0]
          simp only[Nat.zero_mul,List.drop_nil,List.take_nil]
          exact VF.sl0 _ _
         |sl n cs b o cap u hc hI hu hvs=>
          obtain⟨d1,d2⟩:=hd cap hc
          refine⟨_,fun w' _=>Z8 h2 hei (Zy R hl hh hm b1 d1 d2 b4 w'), .c _ _ ?_⟩
          by_cases e0:h.getD n -l.getD 0=0
          · rw[e0]
            simp only[Nat.zero_mul,List.take_zero]
            exact VF.sl0 _ _
          · rw[if_neg (by omega)]
            simp only[Option.map_some,Zm]
            refine VF.sl _ _ _ _ _ (fun j=>u (l.getD 0*ei.size+j)) (by omega) hI (fun j hj=> ?_) (fun j hj=> ?_)
            · simp only[JA,ZI]at hj
              rw[Nat.add_assoc]
              exact hu _ (by omega)
            · simp only[JA,ZI]at hj
              simp only[List.getElem_take,List.getElem_drop]
              exact hvs _ (by omega)
       · cases hv
     · cases hv
   · cases hv
 · rename_i ti hti
   obtain⟨inf,d,z',h1,h2,h3,h4,h5,h6,h7⟩:=J2 hti
   split at hv
   · rename_i e hk
     rw[h5]at hk
     cases QW hk
     split at hv
     · rename_i ei hei
       split at hv
       · rename_i hb
         cases hv
         obtain⟨b1,b2,b3,b4⟩:=hb
         have hx':=ZB hx
         cases hx' with
         |nil=>
          refine⟨_,fun w' _=>Z8 h2 hei (Zy R hl hh hm (by omega) (by omega) (by omega) b4 w'), .c _ _ ?_⟩
          rw[b1,b2,b3]
          exact VF.nil
       · cases hv
     · cases hv
   · cases hv
 · rename_i ti id g off n lim hti
   obtain⟨inf,d,z',h1,h2,h3,h4,h5,h6,h7⟩:=J2 hti
   split at hv
   · rename_i e hk
     rw[h5]at hk
     cases QW hk
     split at hv
     · rename_i ei b hei hlk
       simp only at hv
       split at hv
       · rename_i hb
         cases hv
         obtain⟨b1,b2,b3,b4,b5,b6,b7⟩:=hb
         obtain⟨hg,ho,hall⟩:=ZB hx
         obtain⟨c1,a0,cap,rfl,c2,c3,c4,c5⟩:=hall b hlk
         have hcap:m.getD (h.getD n)≤cap:=by
          cases lim with
          |none=>
           simp only at c5
           have:m.getD (h.getD n)*b.sz≤cap*b.sz:=by omega
           exact Nat.le_of_mul_le_mul_right this b6
          |some c=>
           simp only at c5
           simp at b7
           omega
         have d1:h.getD n≤m.getD cap∧m.getD cap≤cap:=by
          cases m with
          |none=>simp at b2 hcap⊢;omega
          |some m=>simp at b2 hcap⊢;omega
         refine⟨_,fun w' _=>Z8 h2 hei (Zy R hl hh hm b1 d1.1 d1.2 b4 w'), .c _ _ ⟨hg,rfl,fun blk hblk=> ?_⟩⟩
         rw[hlk]at hblk
         cases hblk
         have hcm:l.getD 0≤m.getD cap:=by omega
         have hsz:(h.getD n -l.getD 0)*b.sz+l.getD 0*b.sz=h.getD n*b.sz:=by rw[←Nat.add_mul];congr 1;omega
         have hle:h.getD n*b.sz≤m.getD (h.getD n)*b.sz:=Nat.mul_le_mul_right _ b2
         have hsz2:(m.getD cap -l.getD 0)*b.sz+l.getD 0*b.sz=m.getD cap*b.sz:=by rw[←Nat.add_mul];congr 1;omega
         have hle2:m.getD cap*b.sz≤cap*b.sz:=Nat.mul_le_mul_right _ d1.2
         refine⟨by omega, ?_⟩
         by_cases e0:m.getD cap=l.getD 0
         · rw[if_pos e0]
           refine⟨_,_,rfl,by omega,fun hne=>absurd (by omega) hne,by omega, ?_⟩
           cases m with
           |some m=>simp only;simp
           |none=>
            cases lim with
            |none=>simp only at c5⊢;simp at hsz2⊢;omega
            |some c=>simp only at c5⊢;simp;omega
         · rw[if_neg e0]
           refine⟨_,_,rfl,by omega,fun _=> ?_,by omega, ?_⟩
           · rw[c3 (by omega)]
             show Addr.add _ _=_
             rw[Zm,b5]
           · cases m with
             |some m=>simp only;simp
             |none=>
              cases lim with
              |none=>simp only at c5⊢;simp at hsz2⊢;omega
              |some c=>simp only at c5⊢;simp;omega
       · cases hv
     · cases hv
   · cases hv
 · cases hv
end Go.Lg

namespace Go.Lg
def Xz(P:Program)(H:Ji)(t:TypeId)(x:AV):Option AV:=
 match Jy P t,x with
 |some ti, .c (.f (.str s))=>match ti.k with| .str=>some (.c (.f (.int .i64 s.size)))|_=>none
 |some ti, .c (.f (.sl n _))=>match ti.k with| .slice _=>some (.c (.f (.int .i64 n)))|_=>none
 |some ti, .c (.f .nil)=>match ti.k with| .slice _=>some (.c (.f (.int .i64 0)))|_=>none
 |some ti, .c .emp=>match ti.k with| .slice _=>some (.c (.f (.int .i64 0)))|_=>none
 |some ti, .c (.own id g _ n _)=>match ti.k with| .slice _=>if(look H id g).isSome then some (.c (.f (.int .i64 n)))else none|_=>none
 |_,_=>none
theorem Ja6{P:Program}{w:World}{X:Cx}{H:Ji}{t ty:TypeId}{x v:AV}{xv:Value}(h:Xz P H t x=some v)(hx:VA w X H x xv):
 ∃u,(∀w',Za w w'→(Builtin.len_ #[t] ty #[xv]).run P w'= .ok u w')∧VA w X H v u:=by
 unfold Xz at h
 split at h
 · rename_i ti s hti
   cases Vo hx
   obtain⟨inf,d,z',h1,h2,h3,h4,h5,h6,h7⟩:=J2 hti
   split at h
   · rename_i hk
     rw[h5]at hk;cases Rq hk
     cases h
     exact⟨_,fun w' _=>by simp[Builtin.len_,run_underlying h2,goInt], .c _ _ (VF.int _ _)⟩
   · cases h
 · rename_i ti n cs hti
   obtain⟨inf,d,z',h1,h2,h3,h4,h5,h6,h7⟩:=J2 hti
   split at h
   · rename_i e hk
     rw[h5]at hk;cases QW hk
     cases h
     have hx':=ZB hx
     cases hx' with
     |sl0 a cap=>exact⟨_,fun w' _=>by simp[Builtin.len_,run_underlying h2,goInt]<;>rfl, .c _ _ (VF.int _ _)⟩
     |sl n cs b o cap u hc hI hu hvs=>exact⟨_,fun w' _=>by simp[Builtin.len_,run_underlying h2,goInt]<;>rfl, .c _ _ (VF.int _ _)⟩
   · cases h
 · rename_i ti hti
   obtain⟨inf,d,z',h1,h2,h3,h4,h5,h6,h7⟩:=J2 hti
   split at h
   · rename_i e hk
     rw[h5]at hk;cases QW hk
     cases h
     have hx':=ZB hx
     cases hx' with
     |nil=>exact⟨_,fun w' _=>by simp[Builtin.len_,run_underlying h2,goInt]<;>rfl, .c _ _ (VF.int _ _)⟩
   · cases h
 · rename_i ti hti
   obtain⟨inf,d,z',h1,h2,h3,h4,h5,h6,h7⟩:=J2 hti
   split at h
   · rename_i e hk
     rw[h5]at hk;cases QW hk
     cases h
     obtain⟨a0,rfl⟩:=ZB hx
     exact⟨_,fun w' _=>by simp[Builtin.len_,run_underlying h2,goInt]<;>rfl, .c _ _ (VF.int _ _)⟩
   · cases h
 · rename_i ti id g off n lim hti
   obtain⟨inf,d,z',h1,h2,h3,h4,h5,h6,h7⟩:=J2 hti
   split at h
   · rename_i e hk
     rw[h5]at hk;cases QW hk
     split at h
     · rename_i hl
       cases h
       obtain⟨b,hb⟩:=Option.isSome_iff_exists.1 hl
       obtain⟨_,a0,cap,rfl,_⟩:=(ZB hx).2.2 b hb
       exact⟨_,fun w' _=>by simp[Builtin.len_,run_underlying h2,goInt]<;>rfl, .c _ _ (VF.int _ _)⟩
     · cases h
   · cases h
 · cases h
def Kx(P:Program)(s:TypeId)(x:AV)(f:Nat):Option AV:=
 match x,Jy P s with
 | .agg cs,some ⟨.struct fs,_,_,_⟩=>match fs[f]? with
   |some (ft,off)=>match Jy P ft with
    |some i=>if X4 i.k then(if off+i.size≤cs.length then some (.agg ((cs.drop off).take i.size))else none)else(cs[off]?).map .c
    |none=>none
   |none=>none
 |_,_=>none
theorem Gz{P:Program}{w:World}{X:Cx}{H:Ji}{s:TypeId}{x v:AV}{f:Nat}{xv:Value}(h:Kx P s x f=some v)(hx:VA w X H x xv):
 ∃u,(∀w',Za w w'→(Instr.field s xv f).run P w'= .ok u w')∧VA w X H v u:=by
 unfold Kx at h
 split at h
 · rename_i cs fs sz by_ z hi
   split at h
   · rename_i ft off hf
     split at h
     · rename_i i hft
       obtain⟨inf,d,z',h1,h2,h3,h4,h5,h6,h7⟩:=J2 hi
       cases d<;>simp[Xy]at h5
       rename_i fields
       subst h5
       simp at hf
       obtain⟨fl,hf1,hf2,hf3⟩:=hf
       subst hf2 hf3
       cases hx with
       |agg cs vs hs hcs=>
        split at h
        · rename_i hk
          split at h
          · rename_i hlen
            cases h
            refine⟨.agg (vs.extract fl.offset (fl.offset+i.size)),fun w' _=> ?_, .agg _ _ (by simp;omega) fun j hj=> ?_⟩
            · simp only[Instr.field,Sem.run_bind,run_underlying h2,Result.andThen_ok]
              simp only[hf1,asAgg,Sem.run_bind,Sem.run_pure,Result.andThen_ok,part,Xk hft,hk,if_true,QL hft]
            · simp only[JA,ZI]at hj
              obtain⟨u,h8,h9⟩:=hcs (fl.offset+j) (by omega)
              refine⟨u, ?_,by simpa using h9⟩
              rw[Array.getElem?_extract_of_lt (by omega),←h8]
              exact(Array.getElem?_eq_getElem _).symm
          · cases h
        · rename_i hk
          cases hc:cs[fl.offset]? with
          |none=>simp[hc]at h
          |some c=>
           simp[hc]at h
           subst h
           obtain⟨hlt,he⟩:=Ja.1 hc
           obtain⟨u,h8,h9⟩:=hcs _ hlt
           rw[he]at h9
           refine⟨u,fun w' _=> ?_, .c _ _ h9⟩
           simp only[Instr.field,Sem.run_bind,run_underlying h2,Result.andThen_ok]
           simp only[hf1,asAgg,Sem.run_bind,Sem.run_pure,Result.andThen_ok]
           exact RJ hft (by simpa using hk) h8
     · cases h
   · cases h
 · cases h
def unV(op:UnOp)(x:AV):Option AV:=
 match op,x with
 | .neg, .c (.f (.int k n))=>some (.c (.f (.int k (k.wrap (0 -n)))))
 | .not, .c (.f (.bool b))=>some (.c (.f (.bool (!b))))
 | .xor, .c (.f (.int k n))=>some (.c (.f (.int k (U3 .xor k (if k.signed then-1 else k.max) n))))
 |_,_=>none
theorem Jcj{P:Program}{w:World}{X:Cx}{H:Ji}{op:UnOp}{x v:AV}{xv:Value}(h:unV op x=some v)(hx:VA w X H x xv):
 ∃u,(∀w',Za w w'→(Op.unary op xv).run P w'= .ok u w')∧VA w X H v u:=by
 unfold unV at h
 split at h<;>cases h
 · cases ZL hx;exact⟨_,fun w' _=>by simp[Op.unary,Op.intArith]<;>rfl, .c _ _ (VF.int _ _)⟩
 · cases Wl hx;exact⟨_,fun w' _=>by simp[Op.unary]<;>rfl, .c _ _ (VF.bool _)⟩
 · cases ZL hx;exact⟨_,fun w' _=>by simp[Op.unary,Op.intBits]<;>rfl, .c _ _ (VF.int _ _)⟩
def Vy(H:Ji):AV→Option Bool
 | .c (.f .nil)=>some true
 | .c (.f (.sl n _))=>if n=0 then none else some false
 | .c (.own id g _ _ _)=>if(look H id g).isSome then some false else none
 |_=>none
theorem YG{w:World}{X:Cx}{H:Ji}{x:AV}{b:Bool}{xv:Value}(h:Vy H x=some b)(hx:VA w X H x xv):∃a n c,xv= .slice a n c∧a.isNone=b:=by
 unfold Vy at h
 split at h
 · cases h;have:=ZB hx;cases this;exact⟨_,_,_,rfl,rfl⟩
 · split at h
   · cases h
   · rename_i hn
     cases h
     have:=ZB hx
     cases this with
     |sl0=>exact absurd rfl hn
     |sl=>exact⟨_,_,_,rfl,rfl⟩
 · split at h
   · rename_i hl
     cases h
     obtain⟨b,hb⟩:=Option.isSome_iff_exists.1 hl
     obtain⟨_,a0,cap,rfl,_⟩:=(ZB hx).2.2 b hb
     exact⟨_,_,_,rfl,rfl⟩
   · cases h
 · cases h
theorem RI{P:Program}{w:World}{t:TypeId}{ti:TI}{cs:Array Value}{off:Nat}{v:Value}(h:Jy P t=some ti)(hk:ti.k= .int .i64)(hv:cs[off]? =some v):(part t cs off).run P w= .ok v w:=
 RJ h (by rw[hk];rfl) hv
def R7:List CV→Option (List Int)
 |[]=>some []
 | .f (.int .i64 n)::l=>(R7 l).map (n::·)
 |_=>none
theorem FG:∀{l:List CV} {xs:List Int},R7 l=some xs→l=xs.map fun n=>CV.f (.int .i64 n)
 |[],xs,h=>by cases h;rfl
 |c::l,xs,h=>by
  unfold R7 at h
  split at h
  · rename_i heq;cases heq
  · rename_i n l' heq
    cases heq
    cases hl:R7 l with
    |none=>simp[hl]at h
    |some ys=>
     simp[hl]at h
     subst h
     simp[FG hl]
  · cases h
def Jb2(P:Program):Nat→List Field→Bool
 |_,[]=>true
 |i,f::fs=>f.name != "_" &&(f.offset==i&&((match P.underlying f.type with|some (.int .i64)=>true|_=>false)&&((Jy P f.type).isSome&&Jb2 P (i+1) fs)))
def Je5(P:Program)(t:TypeId)(n:Nat):Bool:=(match P.underlying t with|some (.struct _)=>true|_=>false)&&(!P.stoodInHeld t&&(!P.eqGuardType P.depth t&&(decide ((P.fieldsOf t).toList.length=n)&&Jb2 P 0 (P.fieldsOf t).toList)))
theorem RK{P:Program}{w:World}{xs ys:Array Value}:∀(fs:List Field) (i:Nat) (us vs:List Int),Jb2 P i fs=true→us.length=fs.length→vs.length=fs.length→(∀j (h:j<us.length),xs[i+j]? =some (.int .i64 us[j]))→(∀j (h:j<vs.length),ys[i+j]? =some (.int .i64 vs[j]))→(Op.eqFields 9999 xs ys fs).run P w= .ok (decide (us=vs)) w
 |[],i,us,vs,_,ha,hb,_,_=>by
  have e1:us=[]:=List.eq_nil_of_length_eq_zero ha
  have e2:vs=[]:=List.eq_nil_of_length_eq_zero hb
  subst e1 e2
  rfl
 |f::fs,i,us,vs,h,ha,hb,hx,hy=>by
  simp only[Jb2,Bool.and_eq_true,bne_iff_ne,ne_eq,beq_iff_eq,Option.isSome_iff_exists]at h
  obtain⟨h1,h2,h3,⟨ti,h4⟩,h5⟩:=h
  obtain⟨a,us,rfl⟩:∃a l,us=a::l:=by cases us with|nil=>simp at ha|cons a l=>exact⟨a,l,rfl⟩
  obtain⟨b,vs,rfl⟩:∃b l,vs=b::l:=by cases vs with|nil=>simp at hb|cons b l=>exact⟨b,l,rfl⟩
  have hu:P.underlying f.type=some (.int .i64):=by
   split at h3
   · assumption
   · cases h3
  have hk:ti.k= .int .i64:=by
   obtain⟨inf,d,z',k1,k2,k3,k4,k5,k6,k7⟩:=J2 h4
   rw[hu]at k2
   cases k2
   rw[k5]
   rfl
  have x0:=hx 0 (by simp)
  have y0:=hy 0 (by simp)
  rw[Nat.add_zero]at x0 y0
  simp only[List.getElem_cons_zero]at x0 y0
  have ih:=RK (P:=P) (w:=w) (xs:=xs) (ys:=ys) fs (i+1) us vs h5 (by simpa using ha) (by simpa using hb) (fun j hj=>by have:=hx (j+1) (by simp;omega);rw[show i+1+j=i+(j+1) by omega];simpa using this) (fun j hj=>by have:=hy (j+1) (by simp;omega);rw[show i+1+j=i+(j+1) by omega];simpa using this)
  simp only[Op.eqFields,h1,ne_eq,not_false_eq_true,if_true,Sem.run_bind,h2,RI h4 hk x0,RI h4 hk y0,Result.andThen_ok,run_equalIn_int _ 9998 _ _ _ _ _ hu,Sem.run_ite,ih]
  by_cases e:a=b
  · subst e
    simp
  · have e2:(a==b)=false:=by simpa using e
    have e3:decide (a::us=b::vs)=false:=by simp[e]
    rw[e2,e3]
    rfl
def Jg7(P:Program)(op:BinOp)(t:TypeId)(xs ys:List CV):Option AV:=
 match R7 xs,R7 ys with
 |some us,some vs=>if Je5 P t us.length=true∧us.length=vs.length then(match op with
  | .eql=>some (.c (.f (.bool (decide (us=vs)))))
  | .neq=>some (.c (.f (.bool (!decide (us=vs)))))
  |_=>none)else none
 |_,_=>none
theorem JbF{w:World}{X:Cx}{H:Ji}{cs:List CV}{us:List Int}{xv:Value}(hc:R7 cs=some us)(h:VA w X H (.agg cs) xv):∃xs:Array Value,xv= .agg xs∧∀j (h:j<us.length),xs[0+j]? =some (.int .i64 us[j]):=by
 have e:=FG hc
 subst e
 cases h with
 |agg cs vs hs hcs=>
  refine⟨vs,rfl,fun j hj=> ?_⟩
  obtain⟨u,e1,g1⟩:=hcs j (by simpa using hj)
  rw[Nat.zero_add,e1]
  rw[List.getElem_map]at g1
  have:u= .int .i64 us[j]:=by cases g1;rfl
  rw[this]
theorem Jby{P:Program}{w:World}{X:Cx}{H:Ji}{op:BinOp}{t:TypeId}{x y:Operand}{cs ds:List CV}{v:AV}{xv yv:Value}(h:Jg7 P op t cs ds=some v)(hx:VA w X H (.agg cs) xv)(hy:VA w X H (.agg ds) yv):
 ∃u,(∀w',(do eqGuard op t x y xv yv;binOp op t xv yv:Sem Value).run P w'= .ok u w')∧VA w X H v u:=by
 unfold Jg7 at h
 split at h
 · rename_i us vs h1 h2
   split at h
   · rename_i h3
     obtain⟨h3,h4⟩:=h3
     simp only[Je5,Bool.and_eq_true,Bool.not_eq_true',decide_eq_true_eq]at h3
     obtain⟨k1,k2,k3,k4,k5⟩:=h3
     obtain⟨xs,rfl,hxs⟩:=JbF h1 hx
     obtain⟨ys,rfl,hys⟩:=JbF h2 hy
     have hst:P.underlying t=some (.struct (P.fieldsOf t)):=by
      unfold Program.fieldsOf
      split at k1
      · rename_i fs hf;rw[hf]
      · cases k1
     have heq:∀w',(Op.equalIn 10000 t (.agg xs) (.agg ys)).run P w'= .ok (decide (us=vs)) w':=fun w'=>by
      rw[run_equalIn_agg (d:=9999) (w:=w') t xs ys hst k2]
      exact RK _ 0 us vs k5 k4.symm (by omega) hxs hys
     split at h
     · cases h
       exact⟨.bool _,fun w'=>by rw[Sem.run_bind,run_eqGuard_agg w' _ _ _ _ _ _ k3,Result.andThen_ok,run_eql_struct,heq,Result.andThen_ok], .c _ _ (VF.bool _)⟩
     · cases h
       exact⟨.bool _,fun w'=>by rw[Sem.run_bind,run_eqGuard_agg w' _ _ _ _ _ _ k3,Result.andThen_ok,run_neq_struct,heq,Result.andThen_ok], .c _ _ (VF.bool _)⟩
     · cases h
   · cases h
 · cases h
def BZ(P:Program)(s:List AV)(H:Ji)(op:BinOp)(t:TypeId)(x y:Operand):Option AV:=
 match QH s x,QH s y with
 | .c (.f (.int k a)), .c (.f (.int k' b))=>(ZJ op k a k' b).map fun r=> .c (.f r)
 | .c (.f (.str a)), .c (.f (.str b))=>match op with
   | .add=>if a.size+b.size≤9223372036854775807 then some (.c (.f (.str (a++b))))else none
   | .eql=>some (.c (.f (.bool (a.toList==b.toList))))
   | .neq=>some (.c (.f (.bool (!(a.toList==b.toList)))))
   |_=>none
 | .c (.f (.bool a)), .c (.f (.bool b))=>match Jy P t with
   |some ti=>match ti.k,op with
    | .bool, .eql=>some (.c (.f (.bool (a==b))))
    | .bool, .neq=>some (.c (.f (.bool (!(a==b)))))
    |_,_=>none
   |none=>none
 | .agg cs, .agg ds=>Jg7 P op t cs ds
 |vx,vy=>match Jy P t,Vy H vx,Vy H vy with
  |some ti,some nx,some ny=>match ti.k,op with
   | .slice _, .eql=>if ny=true then some (.c (.f (.bool nx)))else if nx=true then some (.c (.f (.bool ny)))else none
   | .slice _, .neq=>if ny=true then some (.c (.f (.bool (!nx))))else if nx=true then some (.c (.f (.bool (!ny))))else none
   |_,_=>none
  |_,_,_=>none
theorem Ur{P:Program}{w:World}{op:BinOp}{t:TypeId}{x y:Operand}{a b:Value}(h:(match a with| .nilIface| .agg _=>false|_=>true)=true):(eqGuard op t x y a b).run P w= .ok () w:=by
 unfold eqGuard
 cases a<;>first|(simp at h;done)|(split<;>simp)
theorem US{w:World}{X:Cx}{H:Ji}{x:AV}{xv:Value}(h:Vy H x=some true)(hx:VA w X H x xv):xv= .slice none 0 0:=by
 unfold Vy at h
 split at h
 · have:=ZB hx;cases this;rfl
 · split at h<;>simp at h
 · split at h<;>simp at h
 · cases h
theorem Jbt{P:Program}{w:World}{X:Cx}{a:Act}{st:St}(R:V2 w X a st){op:BinOp}{t:TypeId}{x y:Operand}{v:AV}(h:BZ P st.s st.h op t x y=some v):
 ∃u,(∀w',Za w w'→(do eqGuard op t x y (a.eval x) (a.eval y);binOp op t (a.eval x) (a.eval y):Sem Value).run P w'= .ok u w')∧VA w X st.h v u:=by
 have hx:=JO R x
 have hy:=JO R y
 unfold BZ at h
 split at h
 · rename_i k p k' q e1 e2
   rw[e1]at hx;rw[e2]at hy
   rw[ZL hx,ZL hy]
   cases hb:ZJ op k p k' q with
   |none=>simp[hb]at h
   |some r=>
    simp[hb]at h
    subst h
    exact⟨_,fun w' _=>by rw[Sem.run_bind,K9,Result.andThen_ok,(Bt (P:=P) (w:=w') (t:=t) hb).1], .c _ _ (RG (Bt (P:=P) (w:=w) (t:=t) hb).2)⟩
 · rename_i p q e1 e2
   rw[e1]at hx;rw[e2]at hy
   rw[Vo hx,Vo hy]
   have hgd:∀(w':World) (m:Sem Value),(do eqGuard op t x y (.string p) (.string q);m:Sem Value).run P w'=m.run P w':=fun w' m=>by rw[Sem.run_bind,Ur rfl,Result.andThen_ok]
   split at h
   · split at h
     · rename_i hs
       cases h
       have hs':¬(((p.size+q.size:Nat):Int)>IntKind.i64.max):=by
        have:IntKind.i64.max=9223372036854775807:=by decide
        omega
       exact⟨.string (p++q),fun w' _=>by rw[hgd];simp only[binOp,Op.stringOp];rw[if_neg hs'];rfl, .c _ _ (VF.str _)⟩
     · cases h
   · cases h;exact⟨.bool (p.toList==q.toList),fun w' _=>by rw[hgd];simp[binOp,Op.stringOp], .c _ _ (VF.bool _)⟩
   · cases h;exact⟨.bool (!(p.toList==q.toList)),fun w' _=>by rw[hgd];simp[binOp,Op.stringOp], .c _ _ (VF.bool _)⟩
   · cases h
 · rename_i p q e1 e2
   rw[e1]at hx;rw[e2]at hy
   rw[Wl hx,Wl hy]
   have hgd:∀(w':World) (m:Sem Value),(do eqGuard op t x y (.bool p) (.bool q);m:Sem Value).run P w'=m.run P w':=fun w' m=>by rw[Sem.run_bind,Ur rfl,Result.andThen_ok]
   split at h
   · rename_i ti hti
     obtain⟨inf,d,z',h1,h2,h3,h4,h5,h6,h7⟩:=J2 hti
     split at h
     · rename_i hk
       rw[h5]at hk;cases JbH hk
       cases h
       exact⟨_,fun w' _=>by rw[hgd];exact run_eql_bool w' t p q h2, .c _ _ (VF.bool _)⟩
     · rename_i hk
       rw[h5]at hk;cases JbH hk
       cases h
       refine⟨.bool (!(p==q)),fun w' _=> ?_, .c _ _ (VF.bool _)⟩
       rw[hgd]
       simp only[binOp]
       simp[run_equal_bool w' t p q h2]
     · cases h
   · cases h
 · rename_i cs ds e1 e2
   rw[e1]at hx;rw[e2]at hy
   obtain⟨u,h1,h2⟩:=Jby h hx hy
   exact⟨u,fun w' _=>h1 w',h2⟩
 · rename_i n1 n2 n3 n4
   split at h
   · rename_i ti nx ny hti hnx hny
     obtain⟨inf,d,z',h1,h2,h3,h4,h5,h6,h7⟩:=J2 hti
     obtain⟨ax,lx,cx,ex,hax⟩:=YG hnx hx
     obtain⟨ay,ly,cy,ey,hay⟩:=YG hny hy
     have hgd:∀(w':World) (m:Sem Value),(do eqGuard op t x y (a.eval x) (a.eval y);m:Sem Value).run P w'=m.run P w':=fun w' m=>by rw[Sem.run_bind,Ur (by rw[ex]),Result.andThen_ok]
     split at h
     · rename_i e hk
       rw[h5]at hk;cases QW hk
       split at h
       · rename_i hny'
         subst hny'
         cases h
         have e2:=US hny hy
         exact⟨_,fun w' _=>by rw[hgd,e2,ex,←hax];exact Lib.run_eql_slice_nil w' t e _ _ _ _ _ h2, .c _ _ (VF.bool _)⟩
       · split at h
         · rename_i hnx'
           subst hnx'
           cases h
           have e2:=US hnx hx
           exact⟨_,fun w' _=>by rw[hgd,e2,ey,←hay];exact run_eql_nil_slice w' t e _ _ _ _ _ h2, .c _ _ (VF.bool _)⟩
         · cases h
     · rename_i e hk
       rw[h5]at hk;cases QW hk
       split at h
       · rename_i hny'
         subst hny'
         cases h
         have e2:=US hny hy
         exact⟨_,fun w' _=>by rw[hgd,e2,ex,←hax];exact run_neq_slice_nil_any w' t e _ _ _ _ _ h2, .c _ _ (VF.bool _)⟩
       · split at h
         · rename_i hnx'
           subst hnx'
           cases h
           have e2:=US hnx hx
           exact⟨_,fun w' _=>by rw[hgd,e2,ey,←hay];exact run_neq_nil_slice w' t e _ _ _ _ _ h2, .c _ _ (VF.bool _)⟩
         · cases h
     · cases h
   · cases h
def u8s:List CV→Option (List Int)
 |[]=>some []
 | .f (.int .u8 n)::l=>(u8s l).map (n::·)
 |_=>none
theorem FS:∀{l:List CV} {xs:List Int},u8s l=some xs→l=xs.map fun n=>CV.f (.int .u8 n)
 |[],xs,h=>by cases h;rfl
 |c::l,xs,h=>by
  unfold u8s at h
  split at h
  · rename_i heq;cases heq
  · rename_i n l' heq
    cases heq
    cases hl:u8s l with
    |none=>simp[hl]at h
    |some ys=>
     simp[hl]at h
     subst h
     simp[FS hl]
  · cases h
theorem JbG(xs:List Int):u8s (xs.map fun n=>CV.f (.int .u8 n))=some xs:=by
 induction xs with
 |nil=>rfl
 |cons x xs ih=>simp[u8s,ih]
def YO(P:Program)(H:Ji)(src dst:TypeId)(x:AV):Option AV:=
 match Jy P src,Jy P dst,x with
 |some si,some di, .c (.f (.int _ n))=>match di.k with
  | .int k=>some (.c (.f (.int k (k.wrap n))))
  |_=>none
 |some si,some di, .c (.f (.sl n cs))=>match si.k,di.k with
  | .slice e, .str=>match Jy P e with
    |some ei=>match ei.k,u8s (cs.map .f)with
     | .int .u8,some xs=>if xs.length=n then some (.c (.f (.str (strOfNums xs))))else none
     |_,_=>none
    |none=>none
  |_,_=>none
 |some si,some di, .c (.own id g off n lim)=>match si.k,di.k,look H id g with
  | .slice e, .str,some b=>match Jy P e with
    |some ei=>match ei.k,u8s ((b.cs.drop off).take n)with
     | .int .u8,some xs=>if xs.length=n∧b.sz=1 then some (.c (.f (.str (strOfNums xs))))else none
     |_,_=>none
    |none=>none
  |_,_,_=>none
 |_,_,_=>none
theorem Vr{P:Program}{w:World}{src dst e:TypeId}{a:Addr}{n c:Nat}{xs:List Int}(hs:P.underlying src=some (.slice e))(he:P.underlying e=some (.int .u8))(hd:P.underlying dst=some .string)
 (hl:xs.length=n) (ha:n≠0→∃b o,a=⟨b,o,none⟩∧∀i,i<n→w.cell? ⟨b,o+i,none⟩=some (.int .u8 (xs.getD i 0))):
 (convert src dst (.slice (some a) n c)).run P w= .ok (.string (strOfNums xs)) w:=by
 by_cases h0:n=0
 · subst h0
   have:xs=[]:=List.eq_nil_of_length_eq_zero hl
   subst this
   have hld:(loadCells a 0).run P w= .ok #[] w:=by simp[loadCells,loadCellsFrom]
   simp[convert,run_underlying hs,run_underlying he,run_underlying hd,Conv.bytesToString,hld]
   rfl
 · obtain⟨b,o,rfl,hcell⟩:=ha h0
   exact run_convert_bytes_arg w src e hs he b o n c xs hl hcell dst hd
theorem Jad{P:Program}{w:World}{X:Cx}{H:Ji}(R:QZ w X H){src dst:TypeId}{x v:AV}{xv:Value}(h:YO P H src dst x=some v)(hx:VA w X H x xv):
 ∃u,(∀w',Za w w'→(convert src dst xv).run P w'= .ok u w')∧VA w X H v u:=by
 unfold YO at h
 split at h
 · rename_i si di k n hsi hdi
   cases ZL hx
   obtain⟨inf,d,z',h1,h2,h3,h4,h5,h6,h7⟩:=J2 hdi
   obtain⟨inf',d',z'',h1',h2',_⟩:=J2 hsi
   split at h
   · rename_i k' hk
     rw[h5]at hk;cases Jat hk
     cases h
     exact⟨_,fun w' _=>by simp[convert,run_underlying h2,run_underlying h2',Conv.intToInt]<;>rfl, .c _ _ (VF.int _ _)⟩
   · cases h
 · rename_i si di n cs hsi hdi
   obtain⟨inf,d,z',h1,h2,h3,h4,h5,h6,h7⟩:=J2 hdi
   obtain⟨inf',d',z'',h1',h2',h3',h4',h5',_⟩:=J2 hsi
   split at h
   · rename_i e hk1 hk2
     rw[h5']at hk1;cases QW hk1
     rw[h5]at hk2;cases Rq hk2
     split at h
     · rename_i ei hei
       obtain⟨inf'',d'',z''',h1'',h2'',h3'',h4'',h5'',_⟩:=J2 hei
       split at h
       · rename_i xs hk3 hu
         rw[h5'']at hk3;cases Jat hk3
         split at h
         · rename_i hl
           cases h
           have hcs:=FS hu
           have hx':=ZB hx
           refine⟨.string (strOfNums xs),fun w' hg=> ?_, .c _ _ (VF.str _)⟩
           cases hx' with
           |sl0 a cap=>
            cases a with
            |some a=>exact Vr h2' h2'' h2 hl (fun h=>absurd rfl h)
            |none=>
             have:xs=[]:=List.eq_nil_of_length_eq_zero hl
             subst this
             simp[convert,run_underlying h2',run_underlying h2'',run_underlying h2,Conv.bytesToString,strOfNums];rfl
           |sl n cs b o cap u hc hI hu' hvs=>
            refine Vr h2' h2'' h2 hl (fun _=>⟨b,o,rfl,fun i hi=> ?_⟩)
            have hlen:cs.length=xs.length:=by have:=congrArg List.length hcs;simpa using this
            have hi':i<cs.length:=by omega
            rw[hg.cell (hu' i hi')]
            have e1:cs[i]=FV.int .u8 (xs[i]'(by omega)):=by
             have:=congrArg (fun l=>l[i]?) hcs
             simp[hi',show i<xs.length by omega]at this
             exact this
            have:=hvs i hi'
            rw[e1]at this
            cases hq:u i with
            |int k m=>
             rw[hq]at this
             cases this
             simp[List.getD,Jh (show i<xs.length by omega)]
            |_=>rw[hq]at this;cases this
         · cases h
       · cases h
     · cases h
   · cases h
 · rename_i si di id g off n lim hsi hdi
   obtain⟨inf,d,z',h1,h2,h3,h4,h5,h6,h7⟩:=J2 hdi
   obtain⟨inf',d',z'',h1',h2',h3',h4',h5',_⟩:=J2 hsi
   split at h
   · rename_i e b hk1 hk2 hl
     rw[h5']at hk1;cases QW hk1
     rw[h5]at hk2;cases Rq hk2
     split at h
     · rename_i ei hei
       obtain⟨inf'',d'',z''',h1'',h2'',h3'',h4'',h5'',_⟩:=J2 hei
       split at h
       · rename_i xs hk3 hu
         rw[h5'']at hk3;cases Jat hk3
         split at h
         · rename_i hlen
           cases h
           obtain⟨hlen,hsz⟩:=hlen
           have hcs:=FS hu
           obtain⟨hg,_,hall⟩:=ZB hx
           obtain⟨c1,a0,cap,rfl,c2,c3,c4,c5⟩:=hall b hl
           refine⟨.string (strOfNums xs),fun w' hgw=>Vr h2' h2'' h2 hlen (fun h0=>⟨X.mu g,off,c3 (by omega),fun i hi=>hgw.cell ?_⟩), .c _ _ (VF.str _)⟩
           obtain⟨hid,hgg⟩:=Jw hl
           subst hgg
           obtain⟨_,_,cc,t,h8,h9,h10,h11⟩:=R.blk id b hid
           have hlt:off+i<b.cs.length:=by rw[hsz]at c1;omega
           obtain⟨u,h12,h13⟩:=h11 (off+i) hlt
           have e1:b.cs[off+i]=CV.f (.int .u8 (xs[i]'(by omega))):=by
            have:=congrArg (fun l=>l[i]?) hcs
            simp[hi,hlt,show i<xs.length by omega]at this
            exact this
           rw[e1]at h13
           have h13:VF w X.I (.int .u8 (xs[i]'(by omega))) u:=h13
           cases h13
           simp[World.cell?,h8,h12,List.getD,Jh (show i<xs.length by omega)]
         · cases h
       · cases h
     · cases h
   · cases h
 · cases h
end Go.Lg
