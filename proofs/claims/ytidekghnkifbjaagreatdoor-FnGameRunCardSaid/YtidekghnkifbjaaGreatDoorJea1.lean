/- LgE, LgF, LgG, cut to what is needed. -/
import Derived.Test.YtidekghnkifbjaaGreatDoorJea0
import Derived.Laws.StructEq
import Derived.ArgAppend
open List renaming getElem?_append_left → Ja, getElem?_set_ne → Jg, getElem?_eq_some_iff → Jh, getElem?_eq_getElem → Jq, getElem?_eq_none → Jx, length_take → JP, getElem?_set_self → JX, getElem?_append_right → J3, map_cons → Qr, length_map → Qs, map_nil → ZV, length_drop → Ut
open Nat renaming reduceAdd→zA,reduceMul→zM,reduceSub→zS,reduceEqDiff→zE,reduceLeDiff→zL
set_option linter.unusedSimpArgs false
set_option linter.unusedVariables false
namespace Go.Lg
def Kx(P:Program)(H:Jm)(t:TypeId)(x:AV):Option AV:=
 match JV P t,x with
 |some ti, .c (.f (.str s))=>match ti.k with| .str=>some (.c (.f (.int .i64 s.size)))|_=>none
 |some ti, .c (.f (.sl n _))=>match ti.k with| .slice _=>some (.c (.f (.int .i64 n)))|_=>none
 |some ti, .c (.f .nil)=>match ti.k with| .slice _=>some (.c (.f (.int .i64 0)))|_=>none
 |some ti, .c .emp=>match ti.k with| .slice _=>some (.c (.f (.int .i64 0)))|_=>none
 |some ti, .c (.own id g _ n _)=>match ti.k with| .slice _=>if(look H id g).isSome then some (.c (.f (.int .i64 n)))else none|_=>none
 |_,_=>none
theorem JeE{P:Program}{w:World}{X:Cx}{H:Jm}{t ty:TypeId}{x v:AV}{xv:Value}(h:Kx P H t x=some v)(hx:VA w X H x xv):
 ∃u,(∀w',Z6 w w'→(Builtin.len_ #[t] ty #[xv]).run P w'= .ok u w')∧VA w X H v u:=by
 unfold Kx at h
 split at h
 · rename_i ti s hti
   cases GF hx
   obtain⟨inf,d,z',h1,h2,h3,h4,h5,h6,h7⟩:=Qi hti
   split at h
   · rename_i hk
     rw[h5]at hk;cases GG hk
     cases h
     exact⟨_,fun w' _=>by simp[Builtin.len_,run_underlying h2,goInt], .c _ _ (VF.int _ _)⟩
   · cases h
 · rename_i ti n cs hti
   obtain⟨inf,d,z',h1,h2,h3,h4,h5,h6,h7⟩:=Qi hti
   split at h
   · rename_i e hk
     rw[h5]at hk;cases Zu hk
     cases h
     have hx':=Uy hx
     cases hx' with
     |sl0 a cap=>exact⟨_,fun w' _=>by simp[Builtin.len_,run_underlying h2,goInt]<;>rfl, .c _ _ (VF.int _ _)⟩
     |sl n cs b o cap u hc hI hu hvs=>exact⟨_,fun w' _=>by simp[Builtin.len_,run_underlying h2,goInt]<;>rfl, .c _ _ (VF.int _ _)⟩
   · cases h
 · rename_i ti hti
   obtain⟨inf,d,z',h1,h2,h3,h4,h5,h6,h7⟩:=Qi hti
   split at h
   · rename_i e hk
     rw[h5]at hk;cases Zu hk
     cases h
     have hx':=Uy hx
     cases hx' with
     |nil=>exact⟨_,fun w' _=>by simp[Builtin.len_,run_underlying h2,goInt]<;>rfl, .c _ _ (VF.int _ _)⟩
   · cases h
 · rename_i ti hti
   obtain⟨inf,d,z',h1,h2,h3,h4,h5,h6,h7⟩:=Qi hti
   split at h
   · rename_i e hk
     rw[h5]at hk;cases Zu hk
     cases h
     obtain⟨a0,rfl⟩:=Uy hx
     exact⟨_,fun w' _=>by simp[Builtin.len_,run_underlying h2,goInt]<;>rfl, .c _ _ (VF.int _ _)⟩
   · cases h
 · rename_i ti id g off n lim hti
   obtain⟨inf,d,z',h1,h2,h3,h4,h5,h6,h7⟩:=Qi hti
   split at h
   · rename_i e hk
     rw[h5]at hk;cases Zu hk
     split at h
     · rename_i hl
       cases h
       obtain⟨b,hb⟩:=Option.isSome_iff_exists.1 hl
       obtain⟨_,a0,cap,rfl,_⟩:=(Uy hx).2.2 b hb
       exact⟨_,fun w' _=>by simp[Builtin.len_,run_underlying h2,goInt]<;>rfl, .c _ _ (VF.int _ _)⟩
     · cases h
   · cases h
 · cases h
def Fv(P:Program)(s:TypeId)(x:AV)(f:Nat):Option AV:=
 match x,JV P s with
 | .agg cs,some ⟨.struct fs,_,_,_⟩=>match fs[f]? with
   |some (ft,off)=>match JV P ft with
    |some i=>if RU i.k then(if off+i.size≤cs.length then some (.agg ((cs.drop off).take i.size))else none)else(cs[off]?).map .c
    |none=>none
   |none=>none
 |_,_=>none
theorem Jb3{P:Program}{w:World}{X:Cx}{H:Jm}{s:TypeId}{x v:AV}{f:Nat}{xv:Value}(h:Fv P s x f=some v)(hx:VA w X H x xv):
 ∃u,(∀w',Z6 w w'→(Instr.field s xv f).run P w'= .ok u w')∧VA w X H v u:=by
 unfold Fv at h
 split at h
 · rename_i cs fs sz by_ z hi
   split at h
   · rename_i ft off hf
     split at h
     · rename_i i hft
       obtain⟨inf,d,z',h1,h2,h3,h4,h5,h6,h7⟩:=Qi hi
       cases d<;>simp[Re]at h5
       rename_i fields
       subst h5
       simp at hf
       obtain⟨fl,hf1,hf2,hf3⟩:=hf
       subst hf2 hf3
       cases hx with
       |agg cs vs hs hcs=>
        split at h
        · rename_i hk
          split at h
          · rename_i hlen
            cases h
            refine⟨.agg (vs.extract fl.offset (fl.offset+i.size)),fun w' _=> ?_, .agg _ _ (by simp;omega) fun j hj=> ?_⟩
            · simp only[Instr.field,Sem.run_bind,run_underlying h2,Result.andThen_ok]
              simp only[hf1,asAgg,Sem.run_bind,Sem.run_pure,Result.andThen_ok,part,K2 hft,hk,if_true,Zc hft]
            · simp only[JP,Ut]at hj
              obtain⟨u,h8,h9⟩:=hcs (fl.offset+j) (by omega)
              refine⟨u, ?_,by simpa using h9⟩
              rw[Array.getElem?_extract_of_lt (by omega),←h8]
              exact(Array.getElem?_eq_getElem _).symm
          · cases h
        · rename_i hk
          cases hc:cs[fl.offset]? with
          |none=>simp[hc]at h
          |some c=>
           simp[hc]at h
           subst h
           obtain⟨hlt,he⟩:=Jh.1 hc
           obtain⟨u,h8,h9⟩:=hcs _ hlt
           rw[he]at h9
           refine⟨u,fun w' _=> ?_, .c _ _ h9⟩
           simp only[Instr.field,Sem.run_bind,run_underlying h2,Result.andThen_ok]
           simp only[hf1,asAgg,Sem.run_bind,Sem.run_pure,Result.andThen_ok]
           exact GW hft (by simpa using hk) h8
     · cases h
   · cases h
 · cases h
def unV(op:UnOp)(x:AV):Option AV:=
 match op,x with
 | .neg, .c (.f (.int k n))=>some (.c (.f (.int k (k.wrap (0 -n)))))
 | .not, .c (.f (.bool b))=>some (.c (.f (.bool (!b))))
 | .xor, .c (.f (.int k n))=>some (.c (.f (.int k (Uq .xor k (if k.signed then-1 else k.max) n))))
 |_,_=>none
theorem Jf6{P:Program}{w:World}{X:Cx}{H:Jm}{op:UnOp}{x v:AV}{xv:Value}(h:unV op x=some v)(hx:VA w X H x xv):
 ∃u,(∀w',Z6 w w'→(Op.unary op xv).run P w'= .ok u w')∧VA w X H v u:=by
 unfold unV at h
 split at h<;>cases h
 · cases Vy hx;exact⟨_,fun w' _=>by simp[Op.unary,Op.intArith]<;>rfl, .c _ _ (VF.int _ _)⟩
 · cases Yz hx;exact⟨_,fun w' _=>by simp[Op.unary]<;>rfl, .c _ _ (VF.bool _)⟩
 · cases Vy hx;exact⟨_,fun w' _=>by simp[Op.unary,Op.intBits]<;>rfl, .c _ _ (VF.int _ _)⟩
def V4(H:Jm):AV→Option Bool
 | .c (.f .nil)=>some true
 | .c (.f (.sl n _))=>if n=0 then none else some false
 | .c (.own id g _ _ _)=>if(look H id g).isSome then some false else none
 |_=>none
theorem BH{w:World}{X:Cx}{H:Jm}{x:AV}{b:Bool}{xv:Value}(h:V4 H x=some b)(hx:VA w X H x xv):∃a n c,xv= .slice a n c∧a.isNone=b:=by
 unfold V4 at h
 split at h
 · cases h;have:=Uy hx;cases this;exact⟨_,_,_,rfl,rfl⟩
 · split at h
   · cases h
   · rename_i hn
     cases h
     have:=Uy hx
     cases this with
     |sl0=>exact absurd rfl hn
     |sl=>exact⟨_,_,_,rfl,rfl⟩
 · split at h
   · rename_i hl
     cases h
     obtain⟨b,hb⟩:=Option.isSome_iff_exists.1 hl
     obtain⟨_,a0,cap,rfl,_⟩:=(Uy hx).2.2 b hb
     exact⟨_,_,_,rfl,rfl⟩
   · cases h
 · cases h
theorem GV{P:Program}{w:World}{t:TypeId}{ti:TI}{cs:Array Value}{off:Nat}{v:Value}(h:JV P t=some ti)(hk:ti.k= .int .i64)(hv:cs[off]? =some v):(part t cs off).run P w= .ok v w:=
 GW h (by rw[hk];rfl) hv
def Nx:List CV→Option (List Int)
 |[]=>some []
 | .f (.int .i64 n)::l=>(Nx l).map (n::·)
 |_=>none
theorem Ja9:∀{l:List CV} {xs:List Int},Nx l=some xs→l=xs.map fun n=>CV.f (.int .i64 n)
 |[],xs,h=>by cases h;rfl
 |c::l,xs,h=>by
  unfold Nx at h
  split at h
  · rename_i heq;cases heq
  · rename_i n l' heq
    cases heq
    cases hl:Nx l with
    |none=>simp[hl]at h
    |some ys=>
     simp[hl]at h
     subst h
     simp[Ja9 hl]
  · cases h
def JfJ(P:Program):Nat→List Field→Bool
 |_,[]=>true
 |i,f::fs=>f.name != "_" &&(f.offset==i&&((match P.underlying f.type with|some (.int .i64)=>true|_=>false)&&((JV P f.type).isSome&&JfJ P (i+1) fs)))
def Ji2(P:Program)(t:TypeId)(n:Nat):Bool:=(match P.underlying t with|some (.struct _)=>true|_=>false)&&(!P.stoodInHeld t&&(!P.eqGuardType P.depth t&&(decide ((P.fieldsOf t).toList.length=n)&&JfJ P 0 (P.fieldsOf t).toList)))
theorem GX{P:Program}{w:World}{xs ys:Array Value}:∀(fs:List Field) (i:Nat) (us vs:List Int),JfJ P i fs=true→us.length=fs.length→vs.length=fs.length→(∀j (h:j<us.length),xs[i+j]? =some (.int .i64 us[j]))→(∀j (h:j<vs.length),ys[i+j]? =some (.int .i64 vs[j]))→(Op.eqFields 9999 xs ys fs).run P w= .ok (decide (us=vs)) w
 |[],i,us,vs,_,ha,hb,_,_=>by
  have e1:us=[]:=List.eq_nil_of_length_eq_zero ha
  have e2:vs=[]:=List.eq_nil_of_length_eq_zero hb
  subst e1 e2
  rfl
 |f::fs,i,us,vs,h,ha,hb,hx,hy=>by
  simp only[JfJ,Bool.and_eq_true,bne_iff_ne,ne_eq,beq_iff_eq,Option.isSome_iff_exists]at h
  obtain⟨h1,h2,h3,⟨ti,h4⟩,h5⟩:=h
  obtain⟨a,us,rfl⟩:∃a l,us=a::l:=by cases us with|nil=>simp at ha|cons a l=>exact⟨a,l,rfl⟩
  obtain⟨b,vs,rfl⟩:∃b l,vs=b::l:=by cases vs with|nil=>simp at hb|cons b l=>exact⟨b,l,rfl⟩
  have hu:P.underlying f.type=some (.int .i64):=by
   split at h3
   · assumption
   · cases h3
  have hk:ti.k= .int .i64:=by
   obtain⟨inf,d,z',k1,k2,k3,k4,k5,k6,k7⟩:=Qi h4
   rw[hu]at k2
   cases k2
   rw[k5]
   rfl
  have x0:=hx 0 (by simp)
  have y0:=hy 0 (by simp)
  rw[Nat.add_zero]at x0 y0
  simp only[List.getElem_cons_zero]at x0 y0
  have ih:=GX (P:=P) (w:=w) (xs:=xs) (ys:=ys) fs (i+1) us vs h5 (by simpa using ha) (by simpa using hb) (fun j hj=>by have:=hx (j+1) (by simp;omega);rw[show i+1+j=i+(j+1) by omega];simpa using this) (fun j hj=>by have:=hy (j+1) (by simp;omega);rw[show i+1+j=i+(j+1) by omega];simpa using this)
  simp only[Op.eqFields,h1,ne_eq,not_false_eq_true,if_true,Sem.run_bind,h2,GV h4 hk x0,GV h4 hk y0,Result.andThen_ok,run_equalIn_int _ 9998 _ _ _ _ _ hu,Sem.run_ite,ih]
  by_cases e:a=b
  · subst e
    simp
  · have e2:(a==b)=false:=by simpa using e
    have e3:decide (a::us=b::vs)=false:=by simp[e]
    rw[e2,e3]
    rfl
def Jlj(P:Program)(op:BinOp)(t:TypeId)(xs ys:List CV):Option AV:=
 match Nx xs,Nx ys with
 |some us,some vs=>if Ji2 P t us.length=true∧us.length=vs.length then(match op with
  | .eql=>some (.c (.f (.bool (decide (us=vs)))))
  | .neq=>some (.c (.f (.bool (!decide (us=vs)))))
  |_=>none)else none
 |_,_=>none
theorem Jfg{w:World}{X:Cx}{H:Jm}{cs:List CV}{us:List Int}{xv:Value}(hc:Nx cs=some us)(h:VA w X H (.agg cs) xv):∃xs:Array Value,xv= .agg xs∧∀j (h:j<us.length),xs[0+j]? =some (.int .i64 us[j]):=by
 have e:=Ja9 hc
 subst e
 cases h with
 |agg cs vs hs hcs=>
  refine⟨vs,rfl,fun j hj=> ?_⟩
  obtain⟨u,e1,g1⟩:=hcs j (by simpa using hj)
  rw[Nat.zero_add,e1]
  rw[List.getElem_map]at g1
  have:u= .int .i64 us[j]:=by cases g1;rfl
  rw[this]
theorem Je7{P:Program}{w:World}{X:Cx}{H:Jm}{op:BinOp}{t:TypeId}{x y:Operand}{cs ds:List CV}{v:AV}{xv yv:Value}(h:Jlj P op t cs ds=some v)(hx:VA w X H (.agg cs) xv)(hy:VA w X H (.agg ds) yv):
 ∃u,(∀w',(do eqGuard op t x y xv yv;binOp op t xv yv:Sem Value).run P w'= .ok u w')∧VA w X H v u:=by
 unfold Jlj at h
 split at h
 · rename_i us vs h1 h2
   split at h
   · rename_i h3
     obtain⟨h3,h4⟩:=h3
     simp only[Ji2,Bool.and_eq_true,Bool.not_eq_true',decide_eq_true_eq]at h3
     obtain⟨k1,k2,k3,k4,k5⟩:=h3
     obtain⟨xs,rfl,hxs⟩:=Jfg h1 hx
     obtain⟨ys,rfl,hys⟩:=Jfg h2 hy
     have hst:P.underlying t=some (.struct (P.fieldsOf t)):=by
      unfold Program.fieldsOf
      split at k1
      · rename_i fs hf;rw[hf]
      · cases k1
     have heq:∀w',(Op.equalIn 10000 t (.agg xs) (.agg ys)).run P w'= .ok (decide (us=vs)) w':=fun w'=>by
      rw[run_equalIn_agg (d:=9999) (w:=w') t xs ys hst k2]
      exact GX _ 0 us vs k5 k4.symm (by omega) hxs hys
     split at h
     · cases h
       exact⟨.bool _,fun w'=>by rw[Sem.run_bind,run_eqGuard_agg w' _ _ _ _ _ _ k3,Result.andThen_ok,run_eql_struct,heq,Result.andThen_ok], .c _ _ (VF.bool _)⟩
     · cases h
       exact⟨.bool _,fun w'=>by rw[Sem.run_bind,run_eqGuard_agg w' _ _ _ _ _ _ k3,Result.andThen_ok,run_neq_struct,heq,Result.andThen_ok], .c _ _ (VF.bool _)⟩
     · cases h
   · cases h
 · cases h
def JaE(P:Program)(s:List AV)(H:Jm)(op:BinOp)(t:TypeId)(x y:Operand):Option AV:=
 match QY s x,QY s y with
 | .c (.f (.int k a)), .c (.f (.int k' b))=>(UM op k a k' b).map fun r=> .c (.f r)
 | .c (.f (.str a)), .c (.f (.str b))=>match op with
   | .add=>if a.size+b.size≤9223372036854775807 then some (.c (.f (.str (a++b))))else none
   | .eql=>some (.c (.f (.bool (a.toList==b.toList))))
   | .neq=>some (.c (.f (.bool (!(a.toList==b.toList)))))
   |_=>none
 | .c (.f (.bool a)), .c (.f (.bool b))=>match JV P t with
   |some ti=>match ti.k,op with
    | .bool, .eql=>some (.c (.f (.bool (a==b))))
    | .bool, .neq=>some (.c (.f (.bool (!(a==b)))))
    |_,_=>none
   |none=>none
 | .agg cs, .agg ds=>Jlj P op t cs ds
 |vx,vy=>match JV P t,V4 H vx,V4 H vy with
  |some ti,some nx,some ny=>match ti.k,op with
   | .slice _, .eql=>if ny=true then some (.c (.f (.bool nx)))else if nx=true then some (.c (.f (.bool ny)))else none
   | .slice _, .neq=>if ny=true then some (.c (.f (.bool (!nx))))else if nx=true then some (.c (.f (.bool (!ny))))else none
   |_,_=>none
  |_,_,_=>none
theorem Vg{P:Program}{w:World}{op:BinOp}{t:TypeId}{x y:Operand}{a b:Value}(h:(match a with| .nilIface| .agg _=>false|_=>true)=true):(eqGuard op t x y a b).run P w= .ok () w:=by
 unfold eqGuard
 cases a<;>first|(simp at h;done)|(split<;>simp)
theorem VD{w:World}{X:Cx}{H:Jm}{x:AV}{xv:Value}(h:V4 H x=some true)(hx:VA w X H x xv):xv= .slice none 0 0:=by
 unfold V4 at h
 split at h
 · have:=Uy hx;cases this;rfl
 · split at h<;>simp at h
 · split at h<;>simp at h
 · cases h
theorem JeZ{P:Program}{w:World}{X:Cx}{a:Act}{st:St}(R:XC w X a st){op:BinOp}{t:TypeId}{x y:Operand}{v:AV}(h:JaE P st.s st.h op t x y=some v):
 ∃u,(∀w',Z6 w w'→(do eqGuard op t x y (a.eval x) (a.eval y);binOp op t (a.eval x) (a.eval y):Sem Value).run P w'= .ok u w')∧VA w X st.h v u:=by
 have hx:=J7 R x
 have hy:=J7 R y
 unfold JaE at h
 split at h
 · rename_i k p k' q e1 e2
   rw[e1]at hx;rw[e2]at hy
   rw[Vy hx,Vy hy]
   cases hb:UM op k p k' q with
   |none=>simp[hb]at h
   |some r=>
    simp[hb]at h
    subst h
    exact⟨_,fun w' _=>by rw[Sem.run_bind,Gj,Result.andThen_ok,(N1 (P:=P) (w:=w') (t:=t) hb).1], .c _ _ (GU (N1 (P:=P) (w:=w) (t:=t) hb).2)⟩
 · rename_i p q e1 e2
   rw[e1]at hx;rw[e2]at hy
   rw[GF hx,GF hy]
   have hgd:∀(w':World) (m:Sem Value),(do eqGuard op t x y (.string p) (.string q);m:Sem Value).run P w'=m.run P w':=fun w' m=>by rw[Sem.run_bind,Vg rfl,Result.andThen_ok]
   split at h
   · split at h
     · rename_i hs
       cases h
       have hs':¬(((p.size+q.size:Nat):Int)>IntKind.i64.max):=by
        have:IntKind.i64.max=9223372036854775807:=by decide
        omega
       exact⟨.string (p++q),fun w' _=>by rw[hgd];simp only[binOp,Op.stringOp];rw[if_neg hs'];rfl, .c _ _ (VF.str _)⟩
     · cases h
   · cases h;exact⟨.bool (p.toList==q.toList),fun w' _=>by rw[hgd];simp[binOp,Op.stringOp], .c _ _ (VF.bool _)⟩
   · cases h;exact⟨.bool (!(p.toList==q.toList)),fun w' _=>by rw[hgd];simp[binOp,Op.stringOp], .c _ _ (VF.bool _)⟩
   · cases h
 · rename_i p q e1 e2
   rw[e1]at hx;rw[e2]at hy
   rw[Yz hx,Yz hy]
   have hgd:∀(w':World) (m:Sem Value),(do eqGuard op t x y (.bool p) (.bool q);m:Sem Value).run P w'=m.run P w':=fun w' m=>by rw[Sem.run_bind,Vg rfl,Result.andThen_ok]
   split at h
   · rename_i ti hti
     obtain⟨inf,d,z',h1,h2,h3,h4,h5,h6,h7⟩:=Qi hti
     split at h
     · rename_i hk
       rw[h5]at hk;cases Jfi hk
       cases h
       exact⟨_,fun w' _=>by rw[hgd];exact run_eql_bool w' t p q h2, .c _ _ (VF.bool _)⟩
     · rename_i hk
       rw[h5]at hk;cases Jfi hk
       cases h
       refine⟨.bool (!(p==q)),fun w' _=> ?_, .c _ _ (VF.bool _)⟩
       rw[hgd]
       simp only[binOp]
       simp[run_equal_bool w' t p q h2]
     · cases h
   · cases h
 · rename_i cs ds e1 e2
   rw[e1]at hx;rw[e2]at hy
   obtain⟨u,h1,h2⟩:=Je7 h hx hy
   exact⟨u,fun w' _=>h1 w',h2⟩
 · rename_i n1 n2 n3 n4
   split at h
   · rename_i ti nx ny hti hnx hny
     obtain⟨inf,d,z',h1,h2,h3,h4,h5,h6,h7⟩:=Qi hti
     obtain⟨ax,lx,cx,ex,hax⟩:=BH hnx hx
     obtain⟨ay,ly,cy,ey,hay⟩:=BH hny hy
     have hgd:∀(w':World) (m:Sem Value),(do eqGuard op t x y (a.eval x) (a.eval y);m:Sem Value).run P w'=m.run P w':=fun w' m=>by rw[Sem.run_bind,Vg (by rw[ex]),Result.andThen_ok]
     split at h
     · rename_i e hk
       rw[h5]at hk;cases Zu hk
       split at h
       · rename_i hny'
         subst hny'
         cases h
         have e2:=VD hny hy
         exact⟨_,fun w' _=>by rw[hgd,e2,ex,←hax];exact Lib.run_eql_slice_nil w' t e _ _ _ _ _ h2, .c _ _ (VF.bool _)⟩
       · split at h
         · rename_i hnx'
           subst hnx'
           cases h
           have e2:=VD hnx hx
           exact⟨_,fun w' _=>by rw[hgd,e2,ey,←hay];exact run_eql_nil_slice w' t e _ _ _ _ _ h2, .c _ _ (VF.bool _)⟩
         · cases h
     · rename_i e hk
       rw[h5]at hk;cases Zu hk
       split at h
       · rename_i hny'
         subst hny'
         cases h
         have e2:=VD hny hy
         exact⟨_,fun w' _=>by rw[hgd,e2,ex,←hax];exact run_neq_slice_nil_any w' t e _ _ _ _ _ h2, .c _ _ (VF.bool _)⟩
       · split at h
         · rename_i hnx'
           subst hnx'
           cases h
           have e2:=VD hnx hx
           exact⟨_,fun w' _=>by rw[hgd,e2,ey,←hay];exact run_neq_nil_slice w' t e _ _ _ _ _ h2, .c _ _ (VF.bool _)⟩
         · cases h
     · cases h
   · cases h
def u8s:List CV→Option (List Int)
 |[]=>some []
 | .f (.int .u8 n)::l=>(u8s l).map (n::·)
 |_=>none
theorem Jbr:∀{l:List CV} {xs:List Int},u8s l=some xs→l=xs.map fun n=>CV.f (.int .u8 n)
 |[],xs,h=>by cases h;rfl
 |c::l,xs,h=>by
  unfold u8s at h
  split at h
  · rename_i heq;cases heq
  · rename_i n l' heq
    cases heq
    cases hl:u8s l with
    |none=>simp[hl]at h
    |some ys=>
     simp[hl]at h
     subst h
     simp[Jbr hl]
  · cases h
theorem Jfh(xs:List Int):u8s (xs.map fun n=>CV.f (.int .u8 n))=some xs:=by
 induction xs with
 |nil=>rfl
 |cons x xs ih=>simp[u8s,ih]
def BQ(P:Program)(H:Jm)(src dst:TypeId)(x:AV):Option AV:=
 match JV P src,JV P dst,x with
 |some si,some di, .c (.f (.int _ n))=>match di.k with
  | .int k=>some (.c (.f (.int k (k.wrap n))))
  |_=>none
 |some si,some di, .c (.f (.sl n cs))=>match si.k,di.k with
  | .slice e, .str=>match JV P e with
    |some ei=>match ei.k,u8s (cs.map .f)with
     | .int .u8,some xs=>if xs.length=n then some (.c (.f (.str (strOfNums xs))))else none
     |_,_=>none
    |none=>none
  |_,_=>none
 |some si,some di, .c (.own id g off n lim)=>match si.k,di.k,look H id g with
  | .slice e, .str,some b=>match JV P e with
    |some ei=>match ei.k,u8s ((b.cs.drop off).take n)with
     | .int .u8,some xs=>if xs.length=n∧b.sz=1 then some (.c (.f (.str (strOfNums xs))))else none
     |_,_=>none
    |none=>none
  |_,_,_=>none
 |_,_,_=>none
theorem Xl{P:Program}{w:World}{src dst e:TypeId}{a:Addr}{n c:Nat}{xs:List Int}(hs:P.underlying src=some (.slice e))(he:P.underlying e=some (.int .u8))(hd:P.underlying dst=some .string)
 (hl:xs.length=n) (ha:n≠0→∃b o,a=⟨b,o,none⟩∧∀i,i<n→w.cell? ⟨b,o+i,none⟩=some (.int .u8 (xs.getD i 0))):
 (convert src dst (.slice (some a) n c)).run P w= .ok (.string (strOfNums xs)) w:=by
 by_cases h0:n=0
 · subst h0
   have:xs=[]:=List.eq_nil_of_length_eq_zero hl
   subst this
   have hld:(loadCells a 0).run P w= .ok #[] w:=by simp[loadCells,loadCellsFrom]
   simp[convert,run_underlying hs,run_underlying he,run_underlying hd,Conv.bytesToString,hld]
   rfl
 · obtain⟨b,o,rfl,hcell⟩:=ha h0
   exact run_convert_bytes_arg w src e hs he b o n c xs hl hcell dst hd
theorem JdK{P:Program}{w:World}{X:Cx}{H:Jm}(R:ZL w X H){src dst:TypeId}{x v:AV}{xv:Value}(h:BQ P H src dst x=some v)(hx:VA w X H x xv):
 ∃u,(∀w',Z6 w w'→(convert src dst xv).run P w'= .ok u w')∧VA w X H v u:=by
 unfold BQ at h
 split at h
 · rename_i si di k n hsi hdi
   cases Vy hx
   obtain⟨inf,d,z',h1,h2,h3,h4,h5,h6,h7⟩:=Qi hdi
   obtain⟨inf',d',z'',h1',h2',_⟩:=Qi hsi
   split at h
   · rename_i k' hk
     rw[h5]at hk;cases Jd4 hk
     cases h
     exact⟨_,fun w' _=>by simp[convert,run_underlying h2,run_underlying h2',Conv.intToInt]<;>rfl, .c _ _ (VF.int _ _)⟩
   · cases h
 · rename_i si di n cs hsi hdi
   obtain⟨inf,d,z',h1,h2,h3,h4,h5,h6,h7⟩:=Qi hdi
   obtain⟨inf',d',z'',h1',h2',h3',h4',h5',_⟩:=Qi hsi
   split at h
   · rename_i e hk1 hk2
     rw[h5']at hk1;cases Zu hk1
     rw[h5]at hk2;cases GG hk2
     split at h
     · rename_i ei hei
       obtain⟨inf'',d'',z''',h1'',h2'',h3'',h4'',h5'',_⟩:=Qi hei
       split at h
       · rename_i xs hk3 hu
         rw[h5'']at hk3;cases Jd4 hk3
         split at h
         · rename_i hl
           cases h
           have hcs:=Jbr hu
           have hx':=Uy hx
           refine⟨.string (strOfNums xs),fun w' hg=> ?_, .c _ _ (VF.str _)⟩
           cases hx' with
           |sl0 a cap=>
            cases a with
            |some a=>exact Xl h2' h2'' h2 hl (fun h=>absurd rfl h)
            |none=>
             have:xs=[]:=List.eq_nil_of_length_eq_zero hl
             subst this
             simp[convert,run_underlying h2',run_underlying h2'',run_underlying h2,Conv.bytesToString,strOfNums];rfl
           |sl n cs b o cap u hc hI hu' hvs=>
            refine Xl h2' h2'' h2 hl (fun _=>⟨b,o,rfl,fun i hi=> ?_⟩)
            have hlen:cs.length=xs.length:=by have:=congrArg List.length hcs;simpa using this
            have hi':i<cs.length:=by omega
            rw[hg.cell (hu' i hi')]
            have e1:cs[i]=FV.int .u8 (xs[i]'(by omega)):=by
             have:=congrArg (fun l=>l[i]?) hcs
             simp[hi',show i<xs.length by omega]at this
             exact this
            have:=hvs i hi'
            rw[e1]at this
            cases hq:u i with
            |int k m=>
             rw[hq]at this
             cases this
             simp[List.getD,Jq (show i<xs.length by omega)]
            |_=>rw[hq]at this;cases this
         · cases h
       · cases h
     · cases h
   · cases h
 · rename_i si di id g off n lim hsi hdi
   obtain⟨inf,d,z',h1,h2,h3,h4,h5,h6,h7⟩:=Qi hdi
   obtain⟨inf',d',z'',h1',h2',h3',h4',h5',_⟩:=Qi hsi
   split at h
   · rename_i e b hk1 hk2 hl
     rw[h5']at hk1;cases Zu hk1
     rw[h5]at hk2;cases GG hk2
     split at h
     · rename_i ei hei
       obtain⟨inf'',d'',z''',h1'',h2'',h3'',h4'',h5'',_⟩:=Qi hei
       split at h
       · rename_i xs hk3 hu
         rw[h5'']at hk3;cases Jd4 hk3
         split at h
         · rename_i hlen
           cases h
           obtain⟨hlen,hsz⟩:=hlen
           have hcs:=Jbr hu
           obtain⟨hg,_,hall⟩:=Uy hx
           obtain⟨c1,a0,cap,rfl,c2,c3,c4,c5⟩:=hall b hl
           refine⟨.string (strOfNums xs),fun w' hgw=>Xl h2' h2'' h2 hlen (fun h0=>⟨X.mu g,off,c3 (by omega),fun i hi=>hgw.cell ?_⟩), .c _ _ (VF.str _)⟩
           obtain⟨hid,hgg⟩:=JG hl
           subst hgg
           obtain⟨_,_,cc,t,h8,h9,h10,h11⟩:=R.blk id b hid
           have hlt:off+i<b.cs.length:=by rw[hsz]at c1;omega
           obtain⟨u,h12,h13⟩:=h11 (off+i) hlt
           have e1:b.cs[off+i]=CV.f (.int .u8 (xs[i]'(by omega))):=by
            have:=congrArg (fun l=>l[i]?) hcs
            simp[hi,hlt,show i<xs.length by omega]at this
            exact this
           rw[e1]at h13
           have h13:VF w X.I (.int .u8 (xs[i]'(by omega))) u:=h13
           cases h13
           simp[World.cell?,h8,h12,List.getD,Jq (show i<xs.length by omega)]
         · cases h
       · cases h
     · cases h
   · cases h
 · cases h
end Go.Lg

namespace Go.Lg
def Ka(s:List AV)(o:Operand):Option (Nat×Nat):=
 match QY s o with
 | .c (.ptr id g 0)=>some (id,g)
 |_=>none
def Gn(mx:Bool)(x y:AV):Option AV:=
 match x,y with
 | .c (.f (.int k a)), .c (.f (.int _ b))=>some (.c (.f (.int k (if mx then(if a<b then b else a)else(if b<a then b else a)))))
 |_,_=>none
def XY(H:Jm)(x:AV):Option AV:=
 match x with
 | .c (.ptr id g o)=>if(look H id g).isSome then some (.c (.ptr id g o))else none
 | .c (.fp cs o)=>some (.c (.fp cs o))
 | .c (.fn f caps)=>if caps.all fun c=>(look H c.1 c.2).isSome then some (.c (.fn f caps))else none
 |_=>none
def Jca(P:Program)(s:List AV)(H:Jm)(b:Builtin)(args:List Operand)(ts:List TypeId):Option AV:=
 match b,args,ts with
 | .len,[x],[t]=>Kx P H t (QY s x)
 | .min,[x,y],_=>Gn false (QY s x) (QY s y)
 | .max,[x,y],_=>Gn true (QY s x) (QY s y)
 |_,_,_=>none
def X8(P:Program)(s:List AV)(H:Jm):Op→Option AV
 | .move x=>some (QY s x)
 | .assign x=>some (QY s x)
 | .pick c x y=>match QY s c with
   | .c (.f (.bool t))=>some (if t then QY s x else QY s y)
   |_=>none
 | .nilCheck x=>XY H (QY s x)
 | .binOp op t x y _=>JaE P s H op t x y
 | .unOp op _ x=>unV op (QY s x)
 | .convert src dst x=>BQ P H src dst (QY s x)
 | .fieldAddr t x f=>YM P H t (QY s x) f
 | .field t x f=>Fv P t (QY s x) f
 | .indexAddr t x i=>BO P H t (QY s x) (QY s i)
 | .index t x i=>Fl P t (QY s x) (QY s i)
 | .extract t i=>match QY s t with
   | .tup vs=>vs[i]?
   |_=>none
 | .load t p=>V3 P H t (QY s p)
 | .slice t x lo hi mx=>match Wb s lo,Wb s hi,Wb s mx with
   |some l,some h,some m=>UI P H t (QY s x) l h m
   |_,_,_=>none
 | .makeFunc (.func f) first caps=>if first.size=0 then(caps.toList.mapM (Ka s)).map fun l=> .c (.fn f l)else none
 | .call ⟨.builtin b,args,ts⟩=>Jca P s H b args.toList ts.toList
 |_=>none
theorem Jeu{P:Program}{w:World}{X:Cx}{a:Act}{st:St}(R:XC w X a st){x:Operand}{v:AV}(h:XY st.h (QY st.s x)=some v):
 (∀w',N6 P (.nilCheck x) a w' (a.eval x))∧VA w X st.h v (a.eval x):=by
 have hx:=J7 R x
 unfold XY at h
 split at h
 · rename_i id g o e
   rw[e]at hx
   split at h
   · rename_i hl
     cases h
     refine⟨fun w' oo ho=> ?_,hx⟩
     have:=(Uy hx).2.2 hl
     simp[execOp,ho,this]
   · cases h
 · rename_i cs o e
   rw[e]at hx
   cases h
   refine⟨fun w' oo ho=> ?_,hx⟩
   obtain⟨b,o',h1,_⟩:=Uy hx
   simp[execOp,ho,h1]
 · rename_i f caps e
   rw[e]at hx
   split at h
   · rename_i hl
     cases h
     refine⟨fun w' oo ho=> ?_,hx⟩
     have:=(Uy hx).2.2 (fun c hc=>List.all_eq_true.1 hl c hc)
     simp[execOp,ho,this]
   · cases h
 · cases h
theorem Gc{w:World}{X:Cx}{a:Act}{st:St}(R:XC w X a st){o:Operand}{c:Nat×Nat}(h:Ka st.s o=some c):
 c.2<X.t∧((look st.h c.1 c.2).isSome→a.eval o= .pointer (some ⟨X.mu c.2,0,none⟩)):=by
 unfold Ka at h
 have hx:=J7 R o
 split at h
 · rename_i id g e
   cases h
   rw[e]at hx
   exact⟨(Uy hx).1,(Uy hx).2.2⟩
 · cases h
theorem Wm{P:Program}{w:World}{X:Cx}{a:Act}{st:St}(R:XC w X a st){op:Op}{v:AV}(h:X8 P st.s st.h op=some v):
 ∃u,(∀w',Z6 w w'→N6 P op a w' u)∧VA w X st.h v u:=by
 unfold X8 at h
 split at h
 · rename_i x
   cases h;exact⟨_,fun w' _=>Jcq x,J7 R x⟩
 · rename_i x
   cases h;exact⟨_,fun w' _=>Jae x,J7 R x⟩
 · rename_i c x y
   split at h
   · rename_i t e
     cases h
     have hc:=J7 R c
     rw[e]at hc
     refine⟨_,fun w' _=>Jcp (Yz hc), ?_⟩
     cases t
     · exact J7 R y
     · exact J7 R x
   · cases h
 · rename_i x
   obtain⟨h1,h2⟩:=Jeu (P:=P) R h
   exact⟨_,fun w' _=>h1 w',h2⟩
 · rename_i op t x y yt
   obtain⟨u,h1,h2⟩:=JeZ R h
   exact⟨u,fun w' hg o ho=>by simp only[execOp,ho];rw[Sem.run_bind,h1 w' hg];rfl,h2⟩
 · rename_i op t x
   obtain⟨u,h1,h2⟩:=Jf6 (P:=P) h (J7 R x)
   exact⟨u,fun w' hg o ho=>by simp only[execOp,ho];rw[Sem.run_bind,h1 w' hg];rfl,h2⟩
 · rename_i src dst x
   obtain⟨u,h1,h2⟩:=JdK R.heap h (J7 R x)
   exact⟨u,fun w' hg o ho=>by simp only[execOp,ho];rw[Sem.run_bind,h1 w' hg];rfl,h2⟩
 · rename_i t x f
   obtain⟨u,h1,h2⟩:=Jb2 (P:=P) h (J7 R x)
   exact⟨u,fun w' hg o ho=>by simp only[execOp,ho];rw[Sem.run_bind,h1 w' hg];rfl,h2⟩
 · rename_i t x f
   obtain⟨u,h1,h2⟩:=Jb3 (P:=P) h (J7 R x)
   exact⟨u,fun w' hg o ho=>by simp only[execOp,ho];rw[Sem.run_bind,h1 w' hg];rfl,h2⟩
 · rename_i t x i
   obtain⟨u,h1,h2⟩:=JdH (P:=P) h (J7 R x) (J7 R i)
   exact⟨u,fun w' hg o ho=>by simp only[execOp,ho];rw[Sem.run_bind,h1 w' hg];rfl,h2⟩
 · rename_i t x i
   obtain⟨u,h1,h2⟩:=JbR (P:=P) h (J7 R x) (J7 R i)
   exact⟨u,fun w' hg o ho=>by simp only[execOp,ho];rw[Sem.run_bind,h1 w' hg];rfl,h2⟩
 · rename_i t i
   split at h
   · rename_i vs e
     have hx:=J7 R t
     rw[e]at hx
     generalize hq:a.eval t=q at hx
     cases hx with
     |tup vs us hus=>
      obtain⟨hlt,he⟩:=Jh.1 h
      have h9:=hus i hlt
      rw[he]at h9
      refine⟨us i,fun w' _ o ho=> ?_,h9⟩
      simp only[execOp,ho,hq]
      simp[Instr.extract,hlt]
   · cases h
 · rename_i t p
   obtain⟨u,h1,h2⟩:=FX (P:=P) R.heap h (J7 R p)
   exact⟨u,fun w' hg o ho=>by simp only[execOp,ho];rw[Sem.run_bind,h1 w' hg];rfl,h2⟩
 · rename_i t x lo hi mx
   split at h
   · rename_i l hh m e1 e2 e3
     obtain⟨u,h1,h2⟩:=Jbw (P:=P) R e1 e2 e3 (J7 R x) h
     exact⟨u,fun w' hg o ho=>by simp only[execOp,ho];rw[Sem.run_bind,h1 w' hg];rfl,h2⟩
   · cases h
 · rename_i f first caps
   split at h
   · rename_i h0
     cases hm:caps.toList.mapM (Ka st.s)with
     |none=>simp[hm]at h
     |some l=>
      simp[hm]at h
      subst h
      obtain⟨hl,hg⟩:=Uh hm
      have hg':∀j (hj:j<l.length),∃o,caps.toList[j]? =some o∧Ka st.s o=some l[j]:=fun j hj=>by
       obtain⟨y,h1,h2⟩:=hg j (by omega)
       have:l[j]=y:=by simpa[Jq hj]using h1
       exact⟨caps.toList[j]'(by omega),by simp[Jq (show j<caps.toList.length by omega)],by rw[this];exact h2⟩
      have hfirst:first= #[]:=Array.eq_empty_of_size_eq_zero h0
      subst hfirst
      refine⟨.func (.func f) #[] (caps.map a.eval),fun w' _ o ho=>by simp[execOp,ho,Instr.makeFunc], .c _ _ ⟨fun c hc=> ?_,rfl,fun hall=> ?_⟩⟩
      · obtain⟨j,hj,rfl⟩:=List.mem_iff_getElem.1 hc
        obtain⟨o,_,h2⟩:=hg' j hj
        exact(Gc R h2).1
      · congr 1
        apply Array.ext'
        rw[Array.toList_map]
        apply List.ext_getElem
        · simp;simpa using hl.symm
        · intro j h1 h2
          simp only[Qs]at h1 h2
          obtain⟨o,h3,h4⟩:=hg' j h2
          have h5:caps.toList[j]=o:=by simpa[Jq h1]using h3
          simp only[List.getElem_map]
          rw[h5]
          exact(Gc R h4).2 (hall _ (List.getElem_mem h2))
   · cases h
 · rename_i b args ts
   unfold Jca at h
   split at h
   · rename_i x t e1 e2
     have hlen:=fun ty=>JeE (P:=P) (ty:=ty) h (J7 R x)
     obtain⟨u,h1,h2⟩:=hlen 0
     have ea:args= #[x]:=by cases args;simp at e1;simp[e1]
     have et:ts= #[t]:=by cases ts;simp at e2;simp[e2]
     subst ea et
     refine⟨u,fun w' hg o ho=> ?_,h2⟩
     simp only[execOp,ho]
     simp only[resolve,Sem.run_bind,Sem.run_pure,Result.andThen_ok,invoke,builtin,List.map_toArray,Qr,ZV]
     have:(Builtin.len_ #[t] o.type #[a.eval x]).run P w'= .ok u w':=h1 w' hg
     rw[this]
     rfl
   · rename_i x y e1
     unfold Gn at h
     split at h
     · rename_i k p k' q e3 e4
       cases h
       have hx:=J7 R x
       have hy:=J7 R y
       rw[e3]at hx;rw[e4]at hy
       have ea:args= #[x,y]:=by cases args;simp at e1;simp[e1]
       subst ea
       refine⟨_,fun w' _ o ho=> ?_, .c _ _ (VF.int _ _)⟩
       simp[execOp,ho,resolve,invoke,builtin,Builtin.min_,Builtin.min2,Vy hx,Vy hy]
     · cases h
   · rename_i x y e1
     unfold Gn at h
     split at h
     · rename_i k p k' q e3 e4
       cases h
       have hx:=J7 R x
       have hy:=J7 R y
       rw[e3]at hx;rw[e4]at hy
       have ea:args= #[x,y]:=by cases args;simp at e1;simp[e1]
       subst ea
       refine⟨_,fun w' _ o ho=> ?_, .c _ _ (VF.int _ _)⟩
       simp[execOp,ho,resolve,invoke,builtin,Builtin.max_,Builtin.max2,Vy hx,Vy hy]
     · cases h
   · cases h
 · cases h
end Go.Lg

namespace Go.Lg
def Cx.new(X:Cx)(g c:Nat):Cx:=
 {mu:=fun k=>if k=X.t then g else X.mu k,sz:=fun k=>if k=X.t then c else X.sz k,I:=X.I,t:=X.t+1}
theorem Jdk{H:Jm}{b:Zv}{id g:Nat}{b':Zv}(h:look (H++[some b]) id g=some b'):look H id g=some b'∨(b'=b∧g=b.g∧id=H.length):=by
 obtain⟨h1,h2⟩:=JG h
 by_cases hlt:id<H.length
 · rw[Ja hlt]at h1
   left
   rw[←h2]
   exact J8 h1
 · right
   rw[J3 (by omega)]at h1
   by_cases he:id -H.length=0
   · rw[he]at h1
     simp at h1
     subst h1
     exact⟨rfl,h2.symm,by omega⟩
   · rw[Jx (by simp;omega)]at h1
     cases h1
theorem Xe{w w':World}{X:Cx}{H:Jm}(R:ZL w X H){sz t:Nat}{cs:List CV}{cc:Array Value}
 (hh:w'.heap=w.heap.push (.cells cc t (0,0))) (ho:w'.os=w.os) (ht:w'.tape=w.tape) (hout:w'.output=w.output)
 (hl:cs.length≤cc.size) (hc:∀j (h:j<cs.length),∃u,cc[j]? =some u∧VC w X H cs[j] u):
 ZL w' (X.new w.heap.size cc.size) (H++[some ⟨X.t,sz,cs⟩])∧Ev w X H w' (X.new w.heap.size cc.size) (H++[some ⟨X.t,sz,cs⟩]):=by
 have hold:∀b,b<w.heap.size→w'.heap[b]? =w.heap[b]? :=fun b hb=>by rw[hh,Array.getElem?_push,if_neg (by omega)]
 have hnew:w'.heap[w.heap.size]? =some (.cells cc t (0,0)):=by rw[hh];simp
 have E:Ev w X H w' (X.new w.heap.size cc.size) (H++[some ⟨X.t,sz,cs⟩]):=by
  refine⟨fun b hb=>⟨hb,hold b (R.imm b hb)⟩,Nat.le_succ _,fun g hg=> ?_,by rw[hh];simp,ho,ht,hout, ?_,fun b hb _=>hold b hb, ?_,fun b hb=> .inl hb⟩
  · simp only[Cx.new]
    rw[if_neg (by omega),if_neg (by omega)]
    exact⟨rfl,rfl⟩
  · intro id g b' hg hlk
    rcases Jdk hlk with h|⟨rfl,rfl,_⟩
    · exact⟨b',h,rfl,rfl⟩
    · exact absurd hg (Nat.lt_irrefl _)
  · rintro b ⟨id,blk,h1,h2⟩
    by_cases hlt:id<H.length
    · rw[Ja hlt]at h1
      refine .inl ⟨id,blk,h1, ?_⟩
      rw[←h2]
      simp only[Cx.new]
      rw[if_neg (by have:=(R.blk id blk h1).1;omega)]
    · rw[J3 (by omega)]at h1
      have he:id -H.length=0:=by
       by_cases he:id -H.length=0
       · exact he
       · rw[Jx (by simp;omega)]at h1;cases h1
      rw[he]at h1
      simp at h1
      subst h1
      right
      rw[←h2]
      simp[Cx.new]
 refine⟨⟨fun b hb=> ?_,fun id b hb=> ?_,fun id id' b b' hb hb' heq=> ?_,R.tab.mono E.imm⟩,E⟩
 · have:=R.imm b hb
   rw[hh];simp;omega
 · by_cases hlt:id<H.length
   · rw[Ja hlt]at hb
     obtain⟨h1,h2,cc',t',h3,h4,h5,h6⟩:=R.blk id b hb
     have hm:=E.mu b.g h1
     refine⟨Nat.lt_of_lt_of_le h1 E.t,by rw[hm.1];exact h2,cc',t', ?_,by rw[hm.2];exact h4,h5,fun j hj=> ?_⟩
     · rw[hm.1,hold _ ?_]
       · exact h3
       · exact(Array.getElem?_eq_some_iff.1 h3).1
     · obtain⟨u,h7,h8⟩:=h6 j hj
       exact⟨u,h7,h8.mono E⟩
   · rw[J3 (by omega)]at hb
     have he:id -H.length=0:=by
      by_cases he:id -H.length=0
      · exact he
      · rw[Jx (by simp;omega)]at hb;cases hb
     rw[he]at hb
     simp at hb
     subst hb
     refine⟨Nat.lt_succ_self _, ?_,cc,t, ?_, ?_,hl,fun j hj=> ?_⟩
     · simp only[Cx.new,if_true]
       intro hI
       exact absurd (R.imm _ hI) (Nat.lt_irrefl _)
     · simp only[Cx.new,if_true];exact hnew
     · simp only[Cx.new,if_true]
     · obtain⟨u,h7,h8⟩:=hc j hj
       exact⟨u,h7,h8.mono E⟩
 · have key:∀(i:Nat) (c:Zv),(H++[some ⟨X.t,sz,cs⟩])[i]? =some (some c)→(i<H.length∧H[i]? =some (some c)∧c.g<X.t∧(X.new w.heap.size cc.size).mu c.g=X.mu c.g∧X.mu c.g<w.heap.size)∨(i=H.length∧(X.new w.heap.size cc.size).mu c.g=w.heap.size):=by
    intro i c hi
    by_cases hlt:i<H.length
    · rw[Ja hlt]at hi
      obtain⟨h1,h2,cc',t',h3,_⟩:=R.blk i c hi
      exact .inl ⟨hlt,hi,h1,(E.mu c.g h1).1,(Array.getElem?_eq_some_iff.1 h3).1⟩
    · rw[J3 (by omega)]at hi
      have he:i -H.length=0:=by
       by_cases he:i -H.length=0
       · exact he
       · rw[Jx (by simp;omega)]at hi;cases hi
      rw[he]at hi
      simp at hi
      subst hi
      exact .inr ⟨by omega,by simp[Cx.new]⟩
   rcases key id b hb with⟨_,k1,k2,k3,k4⟩|⟨k1,k2⟩<;>rcases key id' b' hb' with⟨_,l1,l2,l3,l4⟩|⟨l1,l2⟩
   · exact R.inj id id' b b' k1 l1 (by rw[←k3,←l3];exact heq)
   · rw[k3,l2]at heq;omega
   · rw[k2,l3]at heq;omega
   · omega
theorem Jdi{H:Jm}{id:Nat}{b0 b:Zv}(h0:H[id]? =some (some b0)){i g:Nat}{b':Zv}(h:look (H.set id (some b)) i g=some b'):
 (i≠id∧look H i g=some b')∨(i=id∧b'=b∧g=b.g):=by
 obtain⟨h1,h2⟩:=JG h
 by_cases he:i=id
 · subst he
   have hlt:i<H.length:=(Jh.1 h0).1
   rw[JX hlt]at h1
   cases h1
   exact .inr ⟨rfl,rfl,h2.symm⟩
 · rw[Jg (fun h=>he h.symm)]at h1
   refine .inl ⟨he, ?_⟩
   rw[←h2]
   exact J8 h1
theorem Jf5{w w':World}{X:Cx}{H:Jm}(R:ZL w X H){id:Nat}{b:Zv}(hb:H[id]? =some (some b)){cs:List CV}{cc:Array Value}{t:TypeId}
 (hh:w'.heap[X.mu b.g]? =some (.cells cc t (0,0))) (hoth:∀k,k≠X.mu b.g→w'.heap[k]? =w.heap[k]?) (hsz:w'.heap.size=w.heap.size)
 (ho:w'.os=w.os) (ht:w'.tape=w.tape) (hout:w'.output=w.output) (hcc:cc.size=X.sz b.g) (hl:cs.length=b.cs.length)
 (hc:∀j (h:j<cs.length),∃u,cc[j]? =some u∧VC w X H cs[j] u):
 ZL w' X (H.set id (some ⟨b.g,b.sz,cs⟩))∧Ev w X H w' X (H.set id (some ⟨b.g,b.sz,cs⟩)):=by
 obtain⟨g1,g2,cc0,t0,g3,g4,g5,g6⟩:=R.blk id b hb
 have E:Ev w X H w' X (H.set id (some ⟨b.g,b.sz,cs⟩)):=by
  refine⟨fun k hk=>⟨hk,hoth k (fun he=>g2 (he▸hk))⟩,Nat.le_refl _,fun g hg=>⟨rfl,rfl⟩,by omega,ho,ht,hout, ?_,fun k hk hn=>hoth k fun he=>hn ⟨id,b,hb,he.symm⟩, ?_,fun k hk=> .inl hk⟩
  · intro i g b' hg hlk
    rcases Jdi hb hlk with⟨_,h⟩|⟨rfl,rfl,rfl⟩
    · exact⟨b',h,rfl,rfl⟩
    · exact⟨b,J8 hb,hl.symm,rfl⟩
  · rintro k ⟨i,blk,h1,h2⟩
    left
    by_cases he:i=id
    · subst he
      rw[JX (Jh.1 hb).1]at h1
      cases h1
      exact⟨i,b,hb,h2⟩
    · rw[Jg (fun h=>he h.symm)]at h1
      exact⟨i,blk,h1,h2⟩
 have hlt:id<H.length:=(Jh.1 hb).1
 have key:∀(i:Nat) (c:Zv),(H.set id (some ⟨b.g,b.sz,cs⟩))[i]? =some (some c)→(i≠id∧H[i]? =some (some c))∨(i=id∧c=⟨b.g,b.sz,cs⟩):=by
  intro i c hi
  by_cases he:i=id
  · subst he
    rw[JX hlt]at hi
    cases hi
    exact .inr ⟨rfl,rfl⟩
  · rw[Jg (fun h=>he h.symm)]at hi
    exact .inl ⟨he,hi⟩
 refine⟨⟨fun k hk=>by rw[hsz];exact R.imm k hk,fun i c hi=> ?_,fun i i' c c' hi hi' heq=> ?_,R.tab.mono E.imm⟩,E⟩
 · rcases key i c hi with⟨hne,hi⟩|⟨rfl,rfl⟩
   · obtain⟨h1,h2,cc',t',h3,h4,h5,h6⟩:=R.blk i c hi
     refine⟨h1,h2,cc',t', ?_,h4,h5,fun j hj=> ?_⟩
     · rw[hoth _ (fun he=>hne (R.inj i id c b hi hb he))];exact h3
     · obtain⟨u,h7,h8⟩:=h6 j hj
       exact⟨u,h7,h8.mono E⟩
   · refine⟨g1,g2,cc,t,hh,hcc,by simp only;omega,fun j hj=> ?_⟩
     obtain⟨u,h7,h8⟩:=hc j hj
     exact⟨u,h7,h8.mono E⟩
 · rcases key i c hi with⟨_,k1⟩|⟨e1,e2⟩<;>rcases key i' c' hi' with⟨_,k2⟩|⟨e3,e4⟩
   · exact R.inj _ _ _ _ k1 k2 heq
   · rw[e4]at heq
     rw[e3]
     exact R.inj _ _ c b k1 hb heq
   · rw[e2]at heq
     rw[e1]
     exact R.inj _ _ b c' hb k2 heq
   · rw[e1,e3]
theorem Fc{w w':World}{X:Cx}{H:Jm}(R:ZL w X H){id:Nat}{b:Zv}(hb:H[id]? =some (some b)){sz':Nat}{cs:List CV}{cc:Array Value}{t:TypeId}{p:Nat}
 (hp:p=X.mu b.g∨p=w.heap.size)
 (hh:w'.heap[p]? =some (.cells cc t (0,0))) (hoth:∀k,k<w.heap.size→k≠p→w'.heap[k]? =w.heap[k]?) (hsz:w.heap.size≤w'.heap.size)
 (ho:w'.os=w.os) (ht:w'.tape=w.tape) (hout:w'.output=w.output) (hl:cs.length≤cc.size)
 (hc:∀j (h:j<cs.length),∃u,cc[j]? =some u∧VC w X H cs[j] u):
 ZL w' (X.new p cc.size) (H.set id (some ⟨X.t,sz',cs⟩))∧Ev w X H w' (X.new p cc.size) (H.set id (some ⟨X.t,sz',cs⟩)):=by
 obtain⟨g1,g2,cc0,t0,g3,g4,g5,g6⟩:=R.blk id b hb
 have hpI:¬X.I p:=by
  rcases hp with rfl|rfl
  · exact g2
  · intro hI;exact absurd (R.imm _ hI) (Nat.lt_irrefl _)
 have E:Ev w X H w' (X.new p cc.size) (H.set id (some ⟨X.t,sz',cs⟩)):=by
  refine⟨fun k hk=>⟨hk,hoth k (R.imm k hk) (fun he=>hpI (he▸hk))⟩,Nat.le_succ _,fun g hg=> ?_,hsz,ho,ht,hout, ?_,fun k hk hn=>hoth k hk ?_, ?_,fun k hk=> .inl hk⟩
  · simp only[Cx.new]
    rw[if_neg (by omega),if_neg (by omega)]
    exact⟨rfl,rfl⟩
  · intro i g b' hg hlk
    rcases Jdi hb hlk with⟨_,h⟩|⟨rfl,rfl,rfl⟩
    · exact⟨b',h,rfl,rfl⟩
    · exact absurd hg (Nat.lt_irrefl _)
  · rintro rfl
    rcases hp with hp|hp
    · exact hn ⟨id,b,hb,hp.symm⟩
    · omega
  · rintro k ⟨i,blk,h1,h2⟩
    by_cases he:i=id
    · subst he
      rw[JX (Jh.1 hb).1]at h1
      cases h1
      simp only[Cx.new,if_true]at h2
      subst h2
      rcases hp with hp|hp
      · exact .inl ⟨i,b,hb,hp.symm⟩
      · exact .inr (by omega)
    · rw[Jg (fun h=>he h.symm)]at h1
      refine .inl ⟨i,blk,h1, ?_⟩
      rw[←h2]
      simp only[Cx.new]
      rw[if_neg (by have:=(R.blk i blk h1).1;omega)]
 have hlt:id<H.length:=(Jh.1 hb).1
 have key:∀(i:Nat) (c:Zv),(H.set id (some ⟨X.t,sz',cs⟩))[i]? =some (some c)→(i≠id∧H[i]? =some (some c)∧(X.new p cc.size).mu c.g=X.mu c.g∧X.mu c.g≠p)∨(i=id∧c=⟨X.t,sz',cs⟩):=by
  intro i c hi
  by_cases he:i=id
  · subst he
    rw[JX hlt]at hi
    cases hi
    exact .inr ⟨rfl,rfl⟩
  · rw[Jg (fun h=>he h.symm)]at hi
    obtain⟨h1,h2,cc',t',h3,_⟩:=R.blk i c hi
    refine .inl ⟨he,hi,(E.mu c.g h1).1,fun hq=> ?_⟩
    rcases hp with hp|hp
    · exact he (R.inj i id c b hi hb (hq.trans hp))
    · have:=(Array.getElem?_eq_some_iff.1 h3).1
      omega
 refine⟨⟨fun k hk=>Nat.lt_of_lt_of_le (R.imm k hk) hsz,fun i c hi=> ?_,fun i i' c c' hi hi' heq=> ?_,R.tab.mono E.imm⟩,E⟩
 · rcases key i c hi with⟨hne,hi,hm,hq⟩|⟨rfl,rfl⟩
   · obtain⟨h1,h2,cc',t',h3,h4,h5,h6⟩:=R.blk i c hi
     refine⟨Nat.lt_succ_of_lt h1,by rw[hm];exact h2,cc',t', ?_,by rw[(E.mu c.g h1).2];exact h4,h5,fun j hj=> ?_⟩
     · rw[hm,hoth _ (Array.getElem?_eq_some_iff.1 h3).1 hq];exact h3
     · obtain⟨u,h7,h8⟩:=h6 j hj
       exact⟨u,h7,h8.mono E⟩
   · refine⟨Nat.lt_succ_self _,by simp only[Cx.new,if_true];exact hpI,cc,t,by simp only[Cx.new,if_true];exact hh,by simp only[Cx.new,if_true],hl,fun j hj=> ?_⟩
     obtain⟨u,h7,h8⟩:=hc j hj
     exact⟨u,h7,h8.mono E⟩
 · rcases key i c hi with⟨_,hi,hm,hq⟩|⟨rfl,rfl⟩<;>rcases key i' c' hi' with⟨_,hi',hm',hq'⟩|⟨rfl,rfl⟩
   · rw[hm,hm']at heq
     exact R.inj _ _ _ _ hi hi' heq
   · rw[hm]at heq
     simp only[Cx.new,if_true]at heq
     exact absurd heq hq
   · rw[hm']at heq
     simp only[Cx.new,if_true]at heq
     exact absurd heq.symm hq'
   · rfl
end Go.Lg
