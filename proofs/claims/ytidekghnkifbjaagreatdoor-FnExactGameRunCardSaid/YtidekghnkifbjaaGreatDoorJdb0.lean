/- LgV, LgX, LgW, cut to what is needed. -/
import Derived.Test.YtidekghnkifbjaaGreatDoorJda9
open List renaming length_cons → Ja, cons_append → Jb, getElem?_append_left → Jc, nil_append → Jd, length_nil → Je, getElem?_eq_getElem → Jl, length_append → Jq, take_of_length_le → Js, append_nil → Jt, mem_append → JI, getElem?_append_right → JV, drop_zero → J1, getElem?_map → Qk, mem_cons → Qn, take_append_drop → QD, all_cons → UZ, all_nil → V6
open Nat renaming reduceAdd→zA,reduceMul→zM,reduceSub→zS,reduceEqDiff→zE,reduceLeDiff→zL
set_option linter.unusedSimpArgs false
set_option linter.unusedVariables false
namespace Go.Lg
open Go.ChangeShapes Go.WideShapes Go.ChangeAt Go.RowKit
def FF(w:World)(I:Nat→Prop)(ys:List FV)(cs:List Value):Prop:=
 ys.length=cs.length∧∀j (h:j<ys.length),∃u,cs[j]? =some u∧VF w I ys[j] u
section
variable{w:World}{I:Nat→Prop}
theorem FF.nil:FF w I [] []:=⟨rfl,fun j h=>absurd h (Nat.not_lt_zero _)⟩
theorem FF.one{y:FV}{v:Value}(h:VF w I y v):FF w I [y] [v]:=⟨rfl,fun j hj=>by
 have:j=0:=by simpa using hj
 subst this;exact⟨v,rfl,h⟩⟩
theorem FF.app{ys ys':List FV}{cs cs':List Value}(h:FF w I ys cs)(h':FF w I ys' cs'):FF w I (ys++ys') (cs++cs'):=by
 refine⟨by simp[h.1,h'.1],fun j hj=> ?_⟩
 by_cases hl:j<ys.length
 · obtain⟨u,h1,h2⟩:=h.2 j hl
   refine⟨u,by rw[Jc (by rw[←h.1];exact hl)];exact h1, ?_⟩
   rw[List.getElem_append_left hl];exact h2
 · have hj':j -ys.length<ys'.length:=by simp at hj;omega
   obtain⟨u,h1,h2⟩:=h'.2 _ hj'
   refine⟨u,by rw[JV (by rw[←h.1];omega),←h.1];exact h1, ?_⟩
   rw[List.getElem_append_right (by omega)];exact h2
end
def Rt(P:Program):Nat→TypeId→List FV→Prop
 |0,_,_=>False
 |n+1,t,ys=>match P.underlying t with
  |some (.int k)=>∃x,ys=[.int k x]∧(Lit.int k x).wf=true
  |some .bool=>∃b,ys=[.bool b]
  |some .string=>∃s:List UInt8,ys=[.str (bs s)]∧s.length≤9223372036854775807
  |some (.slice e)=>∃es:List (List FV),ys=[.sl es.length es.flatten]∧es.length≤9223372036854775807∧∀x∈es,Rt P n e x
  |some (.struct fs)=>∃es:List (List FV),ys=es.flatten∧es.length=fs.size∧∀(i:Nat) (f:Field),fs[i]? =some f→∃x,es[i]? =some x∧Rt P n f.type x
  |_=>False
def Bk(P:Program)(tot:Nat):Nat→List Field→Bool
 |o,[]=>o==tot
 |o,f::fs=>f.offset==o&&Bk P tot (o+P.cellsOf f.type) fs
def Rg(P:Program):Nat→TypeId→Bool
 |0,_=>false
 |n+1,t=>match P.underlying t with
  |some (.int _)=>true
  |some .bool=>true
  |some .string=>true
  |some (.slice e)=>decide (0<P.cellsOf e)&&Rg P n e
  |some (.struct fs)=>Bk P (P.cellsOf t) 0 fs.toList&&fs.toList.all fun f=>Rg P n f.type
  |_=>false
theorem Jem{W:World}{a:Addr}{i:Nat}(hi:i=0){u:Value}(h:W.cell? ((a.add i).add 0)=some u):a.spot=none:=by
 simp only[World.cell?]at h
 split at h
 · split at h
   · cases h
   · rename_i hsp
     have:((a.add i).add 0).spot=none:=by simpa using hsp
     obtain⟨b,o,sp⟩:=a
     cases sp with
     |none=>rfl
     |some s=>exfalso;revert this;unfold Addr.add;simp[hi]
 · cases h
section
variable{H:Type}{enc:TypeId×Value→H}{P:Program}{W:World}
theorem JhG:∀(n fuel:Nat) (t:TypeId) (cs:List Value) (x:DataW H×List MemPlace),Rg P n t=true→DataW.trod enc P W 0 (fun _=>true) true fuel t cs=some x→
 ∃ys,FF W (Cx.base W).I ys cs∧Rt P n t ys:=by
 intro n
 induction n with
 |zero=>intro fuel t cs x hp;simp[Rg]at hp
 |succ n ih=>
  intro fuel t cs x hp h
  unfold Rg at hp
  split at hp
  · rename_i k hu
    obtain⟨m,rfl,rfl,hw⟩:=DataW.trod_int hu h
    exact⟨[.int k m],FF.one (VF.int k m),by unfold Rt;rw[hu];exact⟨m,rfl,hw⟩⟩
  · rename_i hu
    obtain⟨b,rfl,rfl⟩:=DataW.trod_bool hu h
    exact⟨[.bool b],FF.one (VF.bool b),by unfold Rt;rw[hu];exact⟨b,rfl⟩⟩
  · rename_i hu
    obtain⟨s,rfl,rfl,hs⟩:=DataW.trod_string hu h
    have e:bs s.data.toList=s:=by simp[bs]
    exact⟨[.str s],FF.one (VF.str s),by unfold Rt;rw[hu];exact⟨s.data.toList,by rw[e],JeP hs⟩⟩
  · rename_i e hu
    simp only[Bool.and_eq_true,decide_eq_true_eq]at hp
    rcases DataW.trod_slice hu h with⟨rfl,rfl⟩|⟨a,len,cap,elems,rest,m,rfl,rfl,rfl,hb,hl,hm,hlen,hel,_,_⟩
    · exact⟨[.sl 0 []],FF.one (VF.sl0 none 0),by unfold Rt;rw[hu];exact⟨[],rfl,by simp,by simp⟩⟩
    · have each:∀i,i<len→∃cs',W.cells? 0 (a.add (i*P.cellsOf e)) (P.cellsOf e)=some cs'∧∃ys,FF W (Cx.base W).I ys cs'∧Rt P n e ys:=by
       intro i hi
       have h1:=hel i hi
       rw[Jl (by omega)]at h1
       obtain⟨cs',h2,h3⟩:=Option.bind_eq_some_iff.1 h1
       exact⟨cs',h2,ih _ _ _ _ hp.2 h3⟩
      have hml:len≤9223372036854775807:=by
       have:maxLen≤9223372036854775807:=by decide
       omega
      by_cases h0:len=0
      · subst h0
        exact⟨[.sl 0 []],FF.one (VF.sl0 _ _),by unfold Rt;rw[hu];exact⟨[],rfl,by simp,by simp⟩⟩
      obtain⟨b,o,sp⟩:=a
      have hsp:sp=none:=by
       obtain⟨cs',h2,ys,h3,h4⟩:=each 0 (by omega)
       obtain⟨_,h5,h6⟩:=World.cells?_some h2
       have h7:=h6 0 hp.1
       rw[Jl (by omega)]at h7
       exact Jem (a:=⟨b,o,sp⟩) (Nat.zero_mul _) h7
      subst hsp
      have build:∀k,k≤len→∃es:List (List FV),es.length=k∧(∀x∈es,Rt P n e x)∧es.flatten.length=k*P.cellsOf e∧
       ∀j (h:j<es.flatten.length),∃u,W.cell? ⟨b,o+j,none⟩=some u∧VF W (Cx.base W).I es.flatten[j] u:=by
       intro k
       induction k with
       |zero=>intro _;exact⟨[],rfl,by simp,by simp,fun j hj=>absurd hj (by simp)⟩
       |succ k ihk=>
        intro hk
        obtain⟨es,e1,e2,e3,e4⟩:=ihk (by omega)
        obtain⟨cs',h2,ys,h3,h4⟩:=each k (by omega)
        obtain⟨_,h5,h6⟩:=World.cells?_some h2
        have hys:ys.length=P.cellsOf e:=by rw[h3.1,h5]
        refine⟨es++[ys],by simp[e1],fun x hx=> ?_, ?_,fun j hj=> ?_⟩
        · rcases JI.1 hx with hx|hx
          · exact e2 x hx
          · have:x=ys:=by simpa using hx
            subst this;exact h4
        · simp only[List.flatten_append,Jq,e3,List.flatten_cons,List.flatten_nil,Jt,hys,Nat.add_mul,Nat.one_mul]
        · have hfl:(es++[ys]).flatten=es.flatten++ys:=by simp
          by_cases hjl:j<es.flatten.length
          · obtain⟨u,k1,k2⟩:=e4 j hjl
            refine⟨u,k1, ?_⟩
            have:(es++[ys]).flatten[j]=es.flatten[j]:=by simp only[hfl];exact List.getElem_append_left hjl
            rw[this];exact k2
          · have hj':j -es.flatten.length<ys.length:=by
             have:j<(es.flatten++ys).length:=by rw[←hfl];exact hj
             rw[Jq]at this;omega
            obtain⟨u,k1,k2⟩:=h3.2 _ hj'
            have h8:=h6 (j -es.flatten.length) (by omega)
            rw[Z1,Z1,k1]at h8
            refine⟨u, ?_, ?_⟩
            · rw[show o+k*P.cellsOf e+(j -es.flatten.length)=o+j by omega]at h8
              exact h8
            · have:(es++[ys]).flatten[j]=ys[j -es.flatten.length]:=by simp only[hfl];exact List.getElem_append_right (by omega)
              rw[this];exact k2
      obtain⟨es,e1,e2,e3,e4⟩:=build len (Nat.le_refl _)
      have hI:(Cx.base W).I b:=by
       obtain⟨u,k1,_⟩:=e4 0 (by rw[e3];exact Nat.mul_pos (by omega) hp.1)
       exact World.block_lt_of_cell? W _ k1
      refine⟨[.sl es.length es.flatten],FF.one ?_,by unfold Rt;rw[hu];exact⟨es,rfl,by omega,e2⟩⟩
      rw[e1]
      refine VF.sl len es.flatten b o cap (fun j=>(W.cell? ⟨b,o+j,none⟩).getD undef) hl hI (fun j hj=> ?_) (fun j hj=> ?_)
      · obtain⟨u,k1,_⟩:=e4 j hj
        rw[k1];rfl
      · obtain⟨u,k1,k2⟩:=e4 j hj
        simp only[k1,Option.getD_some];exact k2
  · rename_i fs hu
    simp only[Bool.and_eq_true,List.all_eq_true]at hp
    obtain⟨xs,m,rfl,rfl,hl,hlen,hf⟩:=DataW.trod_struct hu h
    have go:∀(l:List Field) (o:Nat),Bk P (P.cellsOf t) o l=true→(∀(i:Nat) (f:Field),l[i]? =some f→Rg P n f.type=true∧∃y,DataW.trod enc P W 0 (fun _=>true) true m f.type ((cs.drop f.offset).take (P.cellsOf f.type))=some y)→
     ∃es:List (List FV),FF W (Cx.base W).I es.flatten (cs.drop o)∧es.length=l.length∧∀(i:Nat) (f:Field),l[i]? =some f→∃x,es[i]? =some x∧Rt P n f.type x:=by
     intro l
     induction l with
     |nil=>
      intro o ho _
      simp only[Bk,beq_iff_eq]at ho
      refine⟨[], ?_,rfl,fun i f hi=>by simp at hi⟩
      rw[List.drop_eq_nil_of_le (by omega)];exact FF.nil
     |cons f l ihl=>
      intro o ho hall
      simp only[Bk,Bool.and_eq_true,beq_iff_eq]at ho
      obtain⟨es,k1,k2,k3⟩:=ihl _ ho.2 fun i f' hi=>hall (i+1) f' hi
      obtain⟨hp0,y,hy⟩:=hall 0 f rfl
      obtain⟨ys,q1,q2⟩:=ih _ _ _ _ hp0 hy
      rw[ho.1]at q1
      refine⟨ys::es, ?_,by simp[k2],fun i f' hi=> ?_⟩
      · have:cs.drop o=(cs.drop o).take (P.cellsOf f.type)++cs.drop (o+P.cellsOf f.type):=by
         rw[←List.drop_drop,QD]
        rw[this]
        exact q1.app k1
      · cases i with
        |zero=>
         have:f=f':=by simpa using hi
         subst this
         exact⟨ys,rfl,q2⟩
        |succ i=>exact k3 i f' hi
    obtain⟨es,k1,k2,k3⟩:=go fs.toList 0 hp.1 fun i f hi=>by
     have hi':fs[i]? =some f:=by simpa using hi
     refine⟨hp.2 f (List.mem_of_getElem? hi), ?_⟩
     have:=hf i f hi'
     have hlt:i<xs.length:=by rw[hlen];exact(Array.getElem?_eq_some_iff.1 hi').1
     rw[Jl hlt]at this
     exact⟨_,this⟩
    refine⟨es.flatten,by simpa using k1, ?_⟩
    unfold Rt;rw[hu]
    exact⟨es,rfl,by simpa using k2,fun i f hi=>k3 i f (by simpa using hi)⟩
  · cases hp
theorem Gs{t:TypeId}{v:Value}{d:DataW H}{ps:List MemPlace}(n:Nat)(hp:Rg P n t=true)(h:DataW.Trod enc P W 0 (fun _=>true) true t v d ps):
 ∃ys,FF W (Cx.base W).I ys v.cells.toList∧Rt P n t ys:=by
 obtain⟨fuel,hf⟩:=h
 exact JhG n fuel t _ _ hp hf
theorem FF.agg{ys:List FV}{cs:Array Value}(h:FF W (Cx.base W).I ys cs.toList):VA W (Cx.base W) [] (.agg (ys.map .f)) (.agg cs):=by
 refine .agg _ _ (by simpa using h.1.symm) fun j hj=> ?_
 have hj':j<ys.length:=by simpa using hj
 obtain⟨u,h1,h2⟩:=h.2 j hj'
 refine⟨u,by simpa using h1, ?_⟩
 rw[List.getElem_map];exact h2
theorem FF.val{y:FV}{v:Value}(h:FF W (Cx.base W).I [y] [v]):VA W (Cx.base W) [] (.c (.f y)) v:=by
 obtain⟨u,h1,h2⟩:=h.2 0 (by simp)
 have:v=u:=by simpa using h1
 subst this
 exact .c _ _ h2
theorem Jcb{α:Type}{E:α→List FV}{F:α→Prop}:∀{es:List (List FV)},(∀x∈es,∃a,x=E a∧F a)→∃xs:List α,es.length=xs.length∧es.flatten=fl E xs∧∀a∈xs,F a
 |[],_=>⟨[],rfl,rfl,by simp⟩
 |x::es,h=>by
  obtain⟨a,rfl,h1⟩:=h x (by simp)
  obtain⟨xs,h2,h3,h4⟩:=Jcb (es:=es) fun y hy=>h y (by simp[hy])
  exact⟨a::xs,by simp[h2],by simp[fl,h3],fun b hb=>by
   rcases Qn.1 hb with rfl|hb
   · exact h1
   · exact h4 b hb⟩
end
end Go.Lg

namespace Go.Lg
section
variable{P:Program}{ops r:Array Oper}{rl:List Oper}{s:List AV}{H:Jn}{K:KS}{Q:KT}{d:Option Tmp}{op:Op}{t:TypeId}{p:String}{e:Array Edge}{gd:Option (Nat×Bool)}{c x y:Code}{w:Bool}{q:Prop}[Decidable q]
theorem JL(h1:q→UK P ops ⟨d,op,t,p,e,gd⟩ rl s H K w (some true))(h2:¬q→UK P ops ⟨d,op,t,p,e,gd⟩ rl s H K w (some false)):UK P ops ⟨d,op,t,p,e,gd⟩ rl s H K w (some (decide q)):=by
 by_cases h:q
 · rw[decide_eq_true h];exact h1 h
 · rw[decide_eq_false h];exact h2 h
theorem JD(h1:q→UK P ops ⟨d,op,t,p,e,gd⟩ rl s H K w (some false))(h2:¬q→UK P ops ⟨d,op,t,p,e,gd⟩ rl s H K w (some true)):UK P ops ⟨d,op,t,p,e,gd⟩ rl s H K w (some (!decide q)):=by
 by_cases h:q
 · rw[decide_eq_true h];exact h1 h
 · rw[decide_eq_false h];exact h2 h
theorem JT{b:Bool}(h1:b=true→UK P ops ⟨d,op,t,p,e,gd⟩ rl s H K w (some false))(h2:b=false→UK P ops ⟨d,op,t,p,e,gd⟩ rl s H K w (some true)):UK P ops ⟨d,op,t,p,e,gd⟩ rl s H K w (some (!b)):=by
 cases b
 · exact h2 rfl
 · exact h1 rfl
theorem JJ{G:KS}(h1:q→UI P ops ⟨d,op,t,p,e,gd⟩ rl s H G w (some true))(h2:¬q→UI P ops ⟨d,op,t,p,e,gd⟩ rl s H G w (some false)):UI P ops ⟨d,op,t,p,e,gd⟩ rl s H G w (some (decide q)):=by
 by_cases h:q
 · rw[decide_eq_true h];exact h1 h
 · rw[decide_eq_false h];exact h2 h
theorem JB{G:KS}(h1:q→UI P ops ⟨d,op,t,p,e,gd⟩ rl s H G w (some false))(h2:¬q→UI P ops ⟨d,op,t,p,e,gd⟩ rl s H G w (some true)):UI P ops ⟨d,op,t,p,e,gd⟩ rl s H G w (some (!decide q)):=by
 by_cases h:q
 · rw[decide_eq_true h];exact h1 h
 · rw[decide_eq_false h];exact h2 h
theorem JR{b:Bool}{G:KS}(h1:b=true→UI P ops ⟨d,op,t,p,e,gd⟩ rl s H G w (some false))(h2:b=false→UI P ops ⟨d,op,t,p,e,gd⟩ rl s H G w (some true)):UI P ops ⟨d,op,t,p,e,gd⟩ rl s H G w (some (!b)):=by
 cases b
 · exact h2 rfl
 · exact h1 rfl
theorem Jm(h1:q→cw P x s H Q)(h2:¬q→cw P y s H Q):Kj P x y s H Q (decide q):=by
 by_cases h:q
 · rw[decide_eq_true h,Bl];exact h1 h
 · rw[decide_eq_false h,Bm];exact h2 h
theorem Jj(h1:q→cw P y s H Q)(h2:¬q→cw P x s H Q):Kj P x y s H Q (!decide q):=by
 by_cases h:q
 · rw[decide_eq_true h];exact Bm▸h1 h
 · rw[decide_eq_false h];exact Bl▸h2 h
theorem Jr{b:Bool}(h1:b=true→cw P x s H Q)(h2:b=false→cw P y s H Q):Kj P x y s H Q b:=by
 cases b
 · rw[Bm];exact h2 rfl
 · rw[Bl];exact h1 rfl
theorem Jo{b:Bool}(h1:b=true→cw P y s H Q)(h2:b=false→cw P x s H Q):Kj P x y s H Q (!b):=by
 cases b
 · exact Bl▸h2 rfl
 · exact Bm▸h1 rfl
end
def ND(m:List Bool)(H H':Jn):Prop:=J5 (ZD m H') (ZD m H)
theorem R5(H:Jn):ZD [] H=H:=by cases H<;>rfl
theorem Jib(m:List Bool)(x:Option Zo)(H:Jn):ZD (true::m) (x::H)=none::ZD m H:=rfl
theorem Jic(m:List Bool)(x:Option Zo)(H:Jn):ZD (false::m) (x::H)=x::ZD m H:=rfl
theorem Jid(m:List Bool):ZD m []=[]:=by cases m with
 |nil=>rfl
 |cons b m=>cases b<;>rfl
theorem Jh0(m:List Bool)(H:Jn):ND m H H=True:=eq_true (J5.refl _)
theorem Jkb(m:List Bool)(H:Jn):ND m [] H=True:=eq_true (by unfold ND;rw[Jid];exact J9 _)
theorem Jkc(H H':Jn):ND [] H (H++H')=True:=eq_true (by unfold ND;rw[R5,R5];exact J5.app _ _)
theorem Bd(x:Option Zo)(H H':Jn):J5 (x::H) (x::H')↔J5 H H':=
 ⟨fun h id b hb=>h (id+1) b hb,fun h=>JcT x H H' h⟩
theorem Jbs(x:Option Zo)(H H':Jn):J5 (x::H) (none::H')↔J5 H H':=
 ⟨fun h id b hb=>h (id+1) b hb,fun h=>Xc x H H' h⟩
theorem JlB(x:Option Zo)(H H':Jn):ND [] (x::H) (x::H')=ND [] H H':=by
 unfold ND;simp only[R5];exact propext (Bd x H' H)
theorem okM_t(m:List Bool)(x y:Option Zo)(H H':Jn):ND (true::m) (x::H) (y::H')=ND m H H':=by
 unfold ND;simp only[Jib];exact propext (Jbs none _ _)
theorem okM_f(m:List Bool)(x:Option Zo)(H H':Jn):ND (false::m) (x::H) (x::H')=ND m H H':=by
 unfold ND;simp only[Jic];exact propext (Bd x _ _)
theorem Vm.empty{P:Program}{ops:Array Oper}{o:Oper}{s:List AV}{t:TypeId}{ei:TI}(ho:o.op= .buildSlice t 0 #[]) (hs:QT P t=some ei) (H:Jn):Vm P ops o s H (.c .emp):=by
 intro w X a R next Q hn
 obtain⟨ti,e,ht,hk,he⟩:=Um hs
 obtain⟨inf,d,z',h1,h2,h3,h4,h5,h6,h7⟩:=Qd ht
 rw[h5]at hk;cases Zj hk
 have hrun:(execOp a.eval o).run P w= .ok (.value (.slice (some ⟨w.heap.size,0,none⟩) 0 0)) (w.alloc (.cells #[] e)):=by
  simp only[execOp,ho,Instr.buildSlice,Sem.run_bind,run_underlying h2,Result.andThen_ok,QZ he,Sem.run_ite,Sem.run_pure]
  simp[newRow,Instr.fill]
  rw[show Array.range 0= #[]from rfl,Array.map_empty]
 have R0:ZA w X []:=⟨R.heap.imm,fun id b hb=>by simp at hb,fun id id' b b' hb=>by simp at hb,R.heap.tab⟩
 obtain⟨_,k2⟩:=WY (w':=w.alloc (.cells #[] e)) R0 (sz:=1) (t:=e) (cs:=[]) (cc:= #[]) rfl rfl rfl rfl (Nat.le_refl _) (fun j hj=>absurd hj (Nat.not_lt_zero _))
 have no:∀b,¬YG X [] b:=fun b ⟨id,blk,h,_⟩=>by simp at h
 have hg:ZV w (w.alloc (.cells #[] e)):=⟨fun b hb=>k2.frame b hb (no b),k2.size,k2.os,k2.tape,k2.output⟩
 exact ZW hrun (hn _ _ X hg (V5.refl _ _) (.c _ _ ⟨_,rfl⟩) (hg.rel R.heap))
theorem NI{P:Program}{ops:Array Oper}{o:Oper}{s:List AV}{K:AV→Prop}{t:TypeId}{n:Nat}{ps:Array (Nat×Operand)}(ho:o.op= .buildSlice t n ps)(h:Uy P s t n ps.toList K):∃v,(∀H,Vm P ops o s H v)∧K v:=by
 have h0:=h
 unfold Uy at h
 split at h
 · rename_i ei rs h1 h2
   split at h
   · rename_i xs h3
     refine⟨.c (.f (.sl n xs)),fun H=> ?_, ?_⟩
     · have:Uy P s t n ps.toList (fun v=>v= .c (.f (.sl n xs))):=by
        unfold Uy
        simp only[h1,h2,h3]
        obtain⟨hz,hif⟩:=h
        refine⟨hz, ?_⟩
        split at hif
        · rename_i hq;rw[if_pos hq];trivial
        · exact hif.elim
       obtain⟨v,q1,q2⟩:=Yv (ops:=ops) (H:=H) ho this
       rw[←q2];exact q1
     · obtain⟨hz,hif⟩:=h
       split at hif
       · exact hif
       · exact hif.elim
   · exact h.elim
 · exact h.elim
def Kr(P:Program)(s:List AV)(t:TypeId)(v x:AV)(K:AV→Prop):Prop:=
 match QT P t,v,x with
 |some ei, .c .emp, .c (.f (.sl m cs))=>KB (ei.zero.length=ei.size∧cs.length=m*ei.size∧m≤9223372036854775807∧m*ei.bytes≤140737488355328) (K (.c (.f (.sl m cs))))
 |_,_,_=>False
theorem Jb5{P:Program}{ops:Array Oper}{o:Oper}{s:List AV}{K:AV→Prop}{t:TypeId}{v x:Operand}(ho:o.op= .call ⟨.builtin .append,#[v,x],#[t,t]⟩) (h:Kr P s t (QO s v) (QO s x) K):∃r,(∀H,Vm P ops o s H r)∧K r:=by
 unfold Kr at h
 split at h
 · rename_i ei m cs hs hv hx
   obtain⟨⟨hz,hl,h63,h47⟩,hK⟩:=h
   obtain⟨ti,e,k1,k2,k3⟩:=Um hs
   refine⟨_,fun H=>Vm.ops (fun y hy=> ?_) rfl (fun s' hs'=> ?_),hK⟩
   · rw[ho]at hy
     simp only[Op.operands,Call.operands]at hy
     have:y=v∨y=x:=by simpa using hy
     rcases this with rfl|rfl
     · rw[hv];rfl
     · rw[hx];rfl
   · have e1:QO s' v= .c .emp:=by rw[hs' v (by rw[ho];simp[Op.operands,Call.operands])];exact hv
     have e2:QO s' x= .c (.f (.sl m cs)):=by rw[hs' x (by rw[ho];simp[Op.operands,Call.operands])];exact hx
     by_cases hm:m=0
     · subst hm
       have hcs:cs=[]:=List.eq_nil_of_length_eq_zero (by omega)
       subst hcs
       refine JU.append_zero (n:=0) (l:=[]) ho k1 k2 k3 ?_ ?_ ?_
       · rw[e1];rfl
       · rw[e2];simp[elems]
       · rw[e1];rfl
     · refine JU.append_new (n:=0) (m:=m) (l:=[]) (k:=cs.map .f) ho k1 k2 k3 hz ?_ ?_ ?_ (by omega) (by omega) (by simpa using h47) fun g=> ?_
       · rw[e1];rfl
       · rw[e2];simp only[elems];rw[if_pos hl]
       · rw[e1];simp[GF]
       · have:look [some (⟨g,ei.size,([]:List CV)++cs.map .f⟩:Zo)] 0 g=some ⟨g,ei.size,cs.map .f⟩:=by simp[look]
         simp only[Je,Jd,Vu,XA,frzC,frz]
         have l0:look [some (⟨g,ei.size,cs.map .f⟩:Zo)] 0 g=some ⟨g,ei.size,cs.map .f⟩:=by simp[look]
         rw[l0]
         simp only[J1,Nat.zero_add]
         rw[Js (by simp[hl]),JcZ]
         rfl
 · exact h.elim
def Xm(P:Program)(ops:Array Oper)(o:Oper)(s:List AV)(K:AV→Prop):Prop:=
 match o.op with
 | .buildSlice t n ps=>if n=0∧ps= #[]then QG (QT P t) (fun _=>K (.c .emp))else Uy P s t n ps.toList K
 | .call ⟨.builtin .append,⟨[v,x]⟩,⟨[t,u]⟩⟩=>if t=u then Kr P s t (QO s v) (QO s x) K else False
 |_=>∃v,(∀H,Vm P ops o s H v)∧K v
theorem JfL{P:Program}{ops:Array Oper}{o:Oper}{s:List AV}{K:AV→Prop}(h:Xm P ops o s K):∃v,(∀H,Vm P ops o s H v)∧K v:=by
 unfold Xm at h
 split at h
 · rename_i t n ps ho
   split at h
   · rename_i hn
     obtain⟨rfl,rfl⟩:=hn
     obtain⟨ei,h1,h2⟩:=h
     exact⟨_,fun H=>Vm.empty ho h1 H,h2⟩
   · exact NI ho h
 · rename_i v x t u ho
   split at h
   · rename_i htu;subst htu
     exact Jb5 ho h
   · exact h.elim
 · exact h
theorem Ja1{P:Program}{ops:Array Oper}{s:List AV}{K:AV→Prop}{d:Option Tmp}{t t':TypeId}{p:String}{e:Array Edge}{g:Option (Nat×Bool)}:Xm P ops ⟨d, .buildSlice t 0 #[],t',p,e,g⟩ s K=QG (QT P t) (fun _=>K (.c .emp)):=by
 simp[Xm]
theorem Jb4{P:Program}{ops:Array Oper}{s:List AV}{K:AV→Prop}{d:Option Tmp}{t t':TypeId}{p:String}{e:Array Edge}{g:Option (Nat×Bool)}{n:Nat}{ps:List (Nat×Operand)}:Xm P ops ⟨d, .buildSlice t (n+1) ps.toArray,t',p,e,g⟩ s K=Uy P s t (n+1) ps K:=by
 simp[Xm]
theorem JfK{P:Program}{ops:Array Oper}{s:List AV}{K:AV→Prop}{d:Option Tmp}{t t':TypeId}{p:String}{e:Array Edge}{g:Option (Nat×Bool)}{v x:Operand}:Xm P ops ⟨d, .call ⟨.builtin .append,#[v,x],#[t,t]⟩,t',p,e,g⟩ s K=Kr P s t (QO s v) (QO s x) K:=by
 simp[Xm]
theorem JdG{P:Program}{s:List AV}{t:TypeId}{m:Nat}{cs:List FV}{K:AV→Prop}:Kr P s t (.c .emp) (.c (.f (.sl m cs))) K=QG (QT P t) (fun ei=>KB (ei.zero.length=ei.size∧cs.length=m*ei.size∧m≤9223372036854775807∧m*ei.bytes≤140737488355328) (K (.c (.f (.sl m cs))))):=by
 unfold Kr
 cases QT P t<;>simp[QG]
section
variable(P:Program)(ops:Array Oper)(m:List Bool)(F:List Nat)(D:Option Nat)(r:List Nat)(G:Option Gh)(s:List AV)(H:Jn)(K:KS)
def KO:List Nat→Option Gh→List AV→Jn→KS→Prop
 |[],G,s,H,K=>Xq G s H K
 |i::r,G,s,H,K=>match ops[i]? with
  |none=>False
  |some o=>if D=some i then QG (ghV P s o) (fun e=>e.d<s.length∧KO r (some e) (QK s o.dst .any) H K)else match o.guard with
   |none=>if Ve o.op=true then opW P o s (ZD m H) (fun v _=>KO r G (QK s o.dst v) H K)else if F.contains i=true then Xm P ops o s (fun v=>KO r G (QK s o.dst v) H K)else if Xz o.op=true then opW P o s H (fun v H'=>ND m H H'∧KO r G (QK s o.dst v) H' K)else JG P ops o s H (fun v H'=>ND m H H'∧KO r G (QK s o.dst v) H' K)
   |some (j,want)=>QG (Z8 ops s j) (fun g=>UJ g want (if Ve o.op=true then opW P o s (ZD m H) (fun v _=>KO r G (QK s o.dst v) H K)else if F.contains i=true then Xm P ops o s (fun v=>KO r G (QK s o.dst v) H K)else if Xz o.op=true then opW P o s H (fun v H'=>ND m H H'∧KO r G (QK s o.dst v) H' K)else JG P ops o s H (fun v H'=>ND m H H'∧KO r G (QK s o.dst v) H' K)) (KO r G (QK s o.dst .void) H K))
def lwV(d:Option Tmp):KV:=fun v _=>KO P ops m F D r G (QK s d v) H K
def lwL(d:Option Tmp):KV:=fun v H'=>ND m H H'∧KO P ops m F D r G (QK s d v) H' K
def lwG(d:Option Tmp):Gh→Prop:=fun e=>e.d<s.length∧KO P ops m F D r (some e) (QK s d .any) H K
def lwS(d:Option Tmp):AV→Prop:=fun v=>KO P ops m F D r G (QK s d v) H K
def R9(i:Nat)(o:Oper):Prop:=if Ve o.op=true then opW P o s (ZD m H) (lwV P ops m F D r G s H K o.dst)else if F.contains i=true then Xm P ops o s (lwS P ops m F D r G s H K o.dst)else if Xz o.op=true then opW P o s H (lwL P ops m F D r G s H K o.dst)else JG P ops o s H (lwL P ops m F D r G s H K o.dst)
def lwW(i:Nat)(o:Oper)(want:Bool):Option Bool→Prop:=fun g=>UJ g want (R9 P ops m F D r G s H K i o) (KO P ops m F D r G (QK s o.dst .void) H K)
def lwO(i:Nat):Option Oper→Prop
 |none=>False
 |some o=>if D=some i then QG (ghV P s o) (lwG P ops m F D r s H K o.dst)else match o.guard with
  |none=>R9 P ops m F D r G s H K i o
  |some (j,want)=>QG (Z8 ops s j) (lwW P ops m F D r G s H K i o want)
theorem J0(i:Nat):KO P ops m F D (i::r) G s H K=lwO P ops m F D r G s H K i ops[i]? :=by
 rw[KO]
 cases ops[i]? with
 |none=>rfl
 |some o=>rfl
theorem JaD(ih:∀G s H,KO P ops m F D r G s H K→lw P ops m F D r G s H K)(i:Nat)(o:Oper)(h:R9 P ops m F D r G s H K i o):(if Xl F i o=true then∃v,qv P ops m o s H v∧lw P ops m F D r G (QK s o.dst v) H K
         else JG P ops o s H fun v H'=>J5 (ZD m H') (ZD m H)∧lw P ops m F D r G (QK s o.dst v) H' K):=by
 unfold R9 at h
 split at h
 · rename_i hv
   rw[if_pos (by simp only[Xl,hv,Bool.true_or])]
   simp only[opW,hv,if_true,QG,atH,lwV]at h
   obtain⟨v,h1,h2⟩:=h
   exact⟨v,by unfold qv;rw[if_pos hv];exact h1,ih _ _ _ h2⟩
 · rename_i hv
   split at h
   · rename_i hc
     rw[if_pos (by unfold Xl;rw[hc];simp only[Bool.or_true])]
     obtain⟨v,h1,h2⟩:=JfL h
     exact⟨v,by unfold qv;rw[if_neg hv];exact h1,ih _ _ _ h2⟩
   · rename_i hc
     rw[if_neg (by simp only[Xl,Bool.or_eq_true];exact fun h=>h.elim hv hc)]
     have hL:JG P ops o s H (lwL P ops m F D r G s H K o.dst):=by
      split at h
      · rename_i hm
        refine Fo ?_
        unfold Jfa
        rw[if_pos hm]
        simp only[opW,if_neg hv]at h
        exact h
      · exact h
     exact hL.mono fun v H' hk=>⟨hk.1,ih _ _ _ hk.2⟩
theorem Je9:KO P ops m F D [] G s H K=Xq G s H K:=by rw[KO]
theorem Jig:∀(r:List Nat) (G:Option Gh) (s:List AV) (H:Jn),KO P ops m F D r G s H K→lw P ops m F D r G s H K
 |[],G,s,H,h=>by rw[Je9]at h;rw[lw];exact h
 |i::r,G,s,H,h=>by
  have ih:=Jig r
  rw[J0]at h
  unfold lw
  cases ho:ops[i]? with
  |none=>rw[ho]at h;exact h.elim
  |some o=>
   rw[ho]at h
   simp only[lwO]at h⊢
   split at h
   · rename_i hD
     rw[if_pos hD]
     obtain⟨e,h1,h2,h3⟩:=h
     exact⟨e,h1,h2,ih _ _ _ h3⟩
   · rename_i hD
     rw[if_neg hD]
     split at h
     · rename_i hg;simp only[hg];exact JaD P ops m F D r G s H K ih i o h
     · rename_i j want hg
       simp only[hg]
       obtain⟨g,h1,h2,h3⟩:=h
       exact⟨g,h1,fun he=>JaD P ops m F D r G s H K ih i o (h2 he),fun hn=>ih _ _ _ (h3 hn)⟩
theorem Ug{P:Program}{ops:Array Oper}{s:List AV}{H:Jn}{K:KS}(π:List Nat)(F:List Nat)(D:Option Nat)(σ:List Nat)(m:List Bool)(hm:P.follows .mixedOrders=true)(hB:V7 ops π F D σ=true)(h:KO P ops m F D π none s H (swK P ops σ K)):Kf P ops s H K:=
 Jkz π F D σ m hm hB (Jig P ops m F D _ π none s H h)
theorem Jii(i:Nat)(d:Option Tmp)(op:Op)(t:TypeId)(p:String)(e:Array Edge):
 lwO P ops m F D r G s H K i (some ⟨d,op,t,p,e,none⟩)=if D=some i then QG (ghV P s ⟨d,op,t,p,e,none⟩) (lwG P ops m F D r s H K d)else R9 P ops m F D r G s H K i ⟨d,op,t,p,e,none⟩:=propext Iff.rfl
theorem Jgb(i:Nat)(d:Option Tmp)(op:Op)(t:TypeId)(p:String)(e:Array Edge)(j:Nat)(want:Bool):
 lwO P ops m F D r G s H K i (some ⟨d,op,t,p,e,some (j,want)⟩)=if D=some i then QG (ghV P s ⟨d,op,t,p,e,some (j,want)⟩) (lwG P ops m F D r s H K d)else QG (Z8 ops s j) (lwW P ops m F D r G s H K i ⟨d,op,t,p,e,some (j,want)⟩ want):=propext Iff.rfl
theorem Jih(i:Nat)(d:Option Tmp)(op:Op)(t:TypeId)(p:String)(e:Array Edge)(g:Option (Nat×Bool)):
 R9 P ops m F D r G s H K i ⟨d,op,t,p,e,g⟩=if Ve op=true then opW P ⟨d,op,t,p,e,g⟩ s (ZD m H) (lwV P ops m F D r G s H K d)else if F.contains i=true then Xm P ops ⟨d,op,t,p,e,g⟩ s (lwS P ops m F D r G s H K d)else if Xz op=true then opW P ⟨d,op,t,p,e,g⟩ s H (lwL P ops m F D r G s H K d)else JG P ops ⟨d,op,t,p,e,g⟩ s H (lwL P ops m F D r G s H K d):=propext Iff.rfl
theorem JlK(d:Option Tmp)(v:AV)(H':Jn):lwV P ops m F D r G s H K d v H'=KO P ops m F D r G (QK s d v) H K:=propext Iff.rfl
theorem JlL(d:Option Tmp)(v:AV):lwS P ops m F D r G s H K d v=KO P ops m F D r G (QK s d v) H K:=propext Iff.rfl
theorem JlM(d:Option Tmp)(v:AV)(H':Jn):lwL P ops m F D r G s H K d v H'=KB (ND m H H') (KO P ops m F D r G (QK s d v) H' K):=propext Iff.rfl
theorem JlN(d:Option Tmp)(e:Gh):lwG P ops m F D r s H K d e=KB (e.d<s.length) (KO P ops m F D r (some e) (QK s d .any) H K):=propext Iff.rfl
theorem GR(i:Nat)(d:Option Tmp)(op:Op)(t:TypeId)(p:String)(e:Array Edge)(gd:Option (Nat×Bool))(want:Bool)(g:Option Bool):
 lwW P ops m F D r G s H K i ⟨d,op,t,p,e,gd⟩ want g=UJ g want (R9 P ops m F D r G s H K i ⟨d,op,t,p,e,gd⟩) (KO P ops m F D r G (QK s d .void) H K):=propext Iff.rfl
theorem Ja8:Xq none s H K=K s H:=propext Iff.rfl
theorem Ja7(d:Tmp)(n:Option Nat)(sz:Nat)(cs:List CV):Xq (some ⟨d,n,sz,cs⟩) s H K=∀g,K (s.set d (ghA H.length g n)) (H++[some ⟨g,sz,cs⟩]):=propext Iff.rfl
def swO:Option Oper→Prop
 |none=>False
 |some o=>vw P ops [o] s H (swK P ops r K)
theorem JjH(i:Nat):sw P ops (i::r) s H K=swO P ops r s H K ops[i]? :=by
 rw[sw]
 cases ops[i]? <;>rfl
theorem Jli:sw P ops [] s H K=K s H:=by rw[sw]
theorem Jhk(o:Oper):swO P ops r s H K (some o)=vw P ops [o] s H (swK P ops r K):=propext Iff.rfl
theorem Jlk:swK P ops r K s H=sw P ops r s H K:=propext Iff.rfl
end
theorem Jgy{P:Program}{s:List AV}{d:Tmp}{t:TypeId}{t':TypeId}{p:String}{e:Array Edge}{g:Option (Nat×Bool)}:ghV P s ⟨some d, .alloc t,t',p,e,g⟩=match JP P t with
 |some ti=>if ti.zero.all XB=true then some ⟨d,none,ti.size,ti.zero⟩else none
 |none=>none:=rfl
theorem JiA{P:Program}{s:List AV}{d:Tmp}{t:TypeId}{t':TypeId}{p:String}{e:Array Edge}{g:Option (Nat×Bool)}{l c:Operand}:ghV P s ⟨some d, .makeSlice t l c,t',p,e,g⟩=match QT P t,QO s l,QO s c with
 |some ei, .c (.f (.int _ l)), .c (.f (.int _ c))=>if ei.zero.all XB∧ei.zero.length=ei.size∧(0≤l∧l≤c)∧c≤9223372036854775807∧ei.bytes*c≤281474976710656 then some ⟨d,some (cnt l),ei.size,QL (cnt l*ei.size) ei.zero⟩else none
 |_,_,_=>none:=rfl
section
variable{P:Program}{ops:Array Oper}{m:List Bool}{F:List Nat}{D:Option Nat}{i:Nat}{rl:List Nat}{G:Option Gh}{s:List AV}{H:Jn}{K:KS}{d:Option Tmp}{op:Op}{t:TypeId}{p:String}{e:Array Edge}{gd:Option (Nat×Bool)}{b w:Bool}{q:Prop}[Decidable q]
theorem JlF:lwW P ops m F D rl G s H K i ⟨d,op,t,p,e,gd⟩ true (some true)=R9 P ops m F D rl G s H K i ⟨d,op,t,p,e,gd⟩:=by rw[GR,BR]
theorem JlJ:lwW P ops m F D rl G s H K i ⟨d,op,t,p,e,gd⟩ false (some false)=R9 P ops m F D rl G s H K i ⟨d,op,t,p,e,gd⟩:=by rw[GR,BU]
theorem JlG:lwW P ops m F D rl G s H K i ⟨d,op,t,p,e,gd⟩ true (some false)=KO P ops m F D rl G (QK s d .void) H K:=by rw[GR,BT]
theorem JlI:lwW P ops m F D rl G s H K i ⟨d,op,t,p,e,gd⟩ false (some true)=KO P ops m F D rl G (QK s d .void) H K:=by rw[GR,BS]
theorem JlH:lwW P ops m F D rl G s H K i ⟨d,op,t,p,e,gd⟩ w none=KO P ops m F D rl G (QK s d .void) H K:=by rw[GR,Y8]
theorem Jx(h1:b=true→lwW P ops m F D rl G s H K i ⟨d,op,t,p,e,gd⟩ w (some true))(h2:b=false→lwW P ops m F D rl G s H K i ⟨d,op,t,p,e,gd⟩ w (some false)):lwW P ops m F D rl G s H K i ⟨d,op,t,p,e,gd⟩ w (some b):=by
 cases b
 · exact h2 rfl
 · exact h1 rfl
theorem JS(h1:b=true→lwW P ops m F D rl G s H K i ⟨d,op,t,p,e,gd⟩ w (some false))(h2:b=false→lwW P ops m F D rl G s H K i ⟨d,op,t,p,e,gd⟩ w (some true)):lwW P ops m F D rl G s H K i ⟨d,op,t,p,e,gd⟩ w (some (!b)):=by
 cases b
 · exact h2 rfl
 · exact h1 rfl
theorem JK(h1:q→lwW P ops m F D rl G s H K i ⟨d,op,t,p,e,gd⟩ w (some true))(h2:¬q→lwW P ops m F D rl G s H K i ⟨d,op,t,p,e,gd⟩ w (some false)):lwW P ops m F D rl G s H K i ⟨d,op,t,p,e,gd⟩ w (some (decide q)):=by
 by_cases h:q
 · rw[decide_eq_true h];exact h1 h
 · rw[decide_eq_false h];exact h2 h
theorem JC(h1:q→lwW P ops m F D rl G s H K i ⟨d,op,t,p,e,gd⟩ w (some false))(h2:¬q→lwW P ops m F D rl G s H K i ⟨d,op,t,p,e,gd⟩ w (some true)):lwW P ops m F D rl G s H K i ⟨d,op,t,p,e,gd⟩ w (some (!decide q)):=by
 by_cases h:q
 · rw[decide_eq_true h];exact h1 h
 · rw[decide_eq_false h];exact h2 h
end
section
variable{P:Program}{ops:Array Oper}{o:Oper}{s:List AV}{H:Jn}{K:KV}{fo:Operand}{xs:Array Operand}{ts:Array TypeId}{f:FuncId}{args args':List AV}{v:AV}{u:Value}{Q:KV}
theorem JG.call(ho:o.op= .call ⟨.value fo,xs,ts⟩)(ha:Qb ⟨s,H⟩ fo xs=some (f,args))(h:∀s',Qb ⟨s',H⟩ fo xs=some (f,args)→JU P o ⟨s',H⟩ K):JG P ops o s H K:=
 JG.of (h _ (by rw[V3 (s:=s) (H:=H) ts fun x hx=>XX (Vj (by rw[ho];exact hx))];exact ha))
theorem JG.rd(hc:JM P f args' v)(he:Jg P f)(ho:o.op= .call ⟨.value fo,xs,ts⟩)(ha:Qb ⟨s,H⟩ fo xs=some (f,args))(hs:args.mapM (RB H)=some args')
 (hf:Ka v=some u) (hk:K v H):JG P ops o s H K:=JG.call ho ha fun s' ha'=>JU.rd hc he ho ha' hs hf hk
theorem JG.mk(hc:JM P f args v)(he:Jg P f)(ho:o.op= .call ⟨.value fo,xs,ts⟩)(ha:Qb ⟨s,H⟩ fo xs=some (f,args))(hf:args.all Q2=true)
 (ht:KF v=true) (hv:Wb H.length v=v) (hk:K v H):JG P ops o s H K:=JG.call ho ha fun s' ha'=>JU.mk hc he ho ha' hf ht hv hk
theorem JG.mkQ(hc:Jk P f args [] Q)(he:Jg P f)(ho:o.op= .call ⟨.value fo,xs,ts⟩)(ha:Qb ⟨s,H⟩ fo xs=some (f,args))(hf:args.all Q2=true)
 (hk:∀r H',Q r H'→KF r=true∧K (Wb H.length r) (H++Q1 H.length H')):JG P ops o s H K:=JG.call ho ha fun s' ha'=>JU.mkQ hc he ho ha' hf hk
theorem JG.run(hc:Jk P f args H Q)(he:Jg P f)(ho:o.op= .call ⟨.value fo,xs,ts⟩)(ha:Qb ⟨s,H⟩ fo xs=some (f,args))(hk:∀r H',Q r H'→K r H'):JG P ops o s H K:=
 JG.call ho ha fun s' ha'=>JU.run hc he ho ha' hk
end
theorem Jf1{P:Program}{s:List AV}{H:Jn}{F:KV}{d:Option Tmp}{t:TypeId}{p:String}{e:Array Edge}{g:Option (Nat×Bool)}(bt:TypeId)(ps:List (Nat×Operand)):opW P ⟨d, .build bt ps.toArray,t,p,e,g⟩ s H F=Jji P s H bt ps F:=propext Iff.rfl
theorem Nt{P:Program}:(∀f∈([]:List (TypeId×Nat)),(JP P f.1).isSome=true)=True:=eq_true (by simp)
theorem FP{P:Program}{t:TypeId}{n:Nat}{l:List (TypeId×Nat)}:(∀f∈(t,n)::l,(JP P f.1).isSome=true)=((JP P t).isSome=true∧∀f∈l,(JP P f.1).isSome=true):=by simp
theorem Jh8(k k':IntKind)(a b:Int):FJ true (.c (.f (.int k a))) (.c (.f (.int k' b)))=some (.c (.f (.int k (max a b)))):=by
 simp only[FJ,if_true]
 congr 4
 split<;>omega
theorem Jh7(k k':IntKind)(a b:Int):FJ false (.c (.f (.int k a))) (.c (.f (.int k' b)))=some (.c (.f (.int k (min a b)))):=by
 simp only[FJ,Bool.false_eq_true,if_false]
 congr 4
 split<;>omega
attribute [go_sem] J0 Jh8 Jh7 Option.map_none R5 Jib Jic Jid Jh0 Jkb Jkc JlB okM_t okM_f Je9 Jii Jgb Jih JlK JlL JlM Ja1 Jb4 JfK JdG List.contains_cons List.contains_nil Bool.or_false Bool.false_or Nat.reduceBEq JlN JlF JlJ JlG JlI JlH Ja8 Ja7 JjH Jli Jhk Jlk Jgy JiA ghA
 Ve Xz Option.some.injEq UZ V6 XB Bool.and_self Jf1 Jji Nt FP Jdz
theorem JfR(P:Program)(s:List AV)(H:Jn)(t:Nat)(ty:TypeId):Yg P s H [.cell t ty]=VV P H ty (s.getD t .void):=by
 simp only[Yg,Yh,BD]
 cases VV P H ty (s.getD t .void)<;>rfl
theorem Jio{g sz:Nat}{c:CV}{l:List CV}:ldP (some ⟨g,sz,c::l⟩) 0=some (.c c):=rfl
theorem Jip{g sz n:Nat}{c:CV}{l:List CV}:ldP (some ⟨g,sz,c::l⟩) (n+1)=ldP (some ⟨g,sz,l⟩) n:=rfl
def ldN(b:Option Zo)(off n:Nat):Option (List CV):=match b with
 |some b=>if off+n≤b.cs.length then some ((b.cs.drop off).take n)else none
 |none=>none
theorem Jdg{H:Jn}{id g off n:Nat}:Z9 H (.ptr id g off) n=ldN (look H id g) off n:=rfl
theorem Jiq{g sz n off:Nat}{c:CV}{l:List CV}:ldN (some ⟨g,sz,c::l⟩) (off+1) n=ldN (some ⟨g,sz,l⟩) off n:=by
 simp only[ldN,Ja,List.drop_succ_cons]
 by_cases h:off+n≤l.length
 · rw[if_pos h,if_pos (by omega)]
 · rw[if_neg h,if_neg (by omega)]
theorem ldN_z{g sz:Nat}{l:List CV}:ldN (some ⟨g,sz,l⟩) 0 0=some []:=by simp[ldN]
theorem JlR{g sz n:Nat}{c:CV}{l:List CV}:ldN (some ⟨g,sz,c::l⟩) 0 (n+1)=(ldN (some ⟨g,sz,l⟩) 0 n).map (c::·):=by
 simp only[ldN,Ja,J1,List.take_succ_cons]
 by_cases h:0+n≤l.length
 · rw[if_pos h,if_pos (by omega)];rfl
 · rw[if_neg h,if_neg (by omega)];rfl
theorem JdM{l:List CV}:J6 l 0 []=l:=by simp[J6]
theorem Jcf{c d:CV}{l m:List CV}:J6 (c::l) 0 (d::m)=d::J6 l 0 m:=by simp[J6]
theorem JdN{c:CV}{l m:List CV}{n:Nat}:J6 (c::l) (n+1) m=c::J6 l n m:=by
 simp only[J6,List.take_succ_cons,Jb,List.cons.injEq,true_and]
 rw[show n+1+m.length=n+m.length+1 by omega,List.drop_succ_cons]
theorem Jko{α:Type}{E:α→List FV}{n:Nat}[Inhabited α][hs:HSz E n]{g sz:Nat}{xs:List α}{e:Int}{j:Nat}(h:0≤e∧e<(xs.length:Int))(hj:j<n):
 ldP (some ⟨g,sz,cl E xs⟩) (0+e.toNat*n+j)=some (.c (.f ((E (Jy xs e)).getD j .nil))):=by
 have hi:e.toNat<xs.length:=by omega
 have:=Bf (E:=E) (xs:=xs) hi hj
 rw[GV,Nat.zero_add,Qe h]
 simp only[cl,Qk,this,Option.map_some]
theorem JlS{α:Type}{E:α→List FV}{n:Nat}[Inhabited α][hs:HSz E n]{g sz:Nat}{xs:List α}{e:Int}(h:0≤e∧e<(xs.length:Int)):
 ldN (some ⟨g,sz,cl E xs⟩) (0+e.toNat*n) n=some ((E (Jy xs e)).map .f):=by
 have hi:e.toNat<xs.length:=by omega
 have h2:=JiD (E:=E) xs hi
 simp only[ldN,Qu,Nat.zero_add]
 rw[if_pos (by rw[←Nat.succ_mul];exact Nat.mul_le_mul_right _ hi),Qe h]
 simp only[cl,←List.map_drop,←List.map_take,h2]
theorem RH{α:Type}{E:α→List FV}{n:Nat}[hs:HSz E n]{xs:List α}{e:Int}{v:α}{l:List CV}(hl:(E v).map .f=l)(h:0≤e∧e<(xs.length:Int)):
 J6 (cl E xs) (0+e.toNat*n) l=cl E (xs.set e.toNat v):=by
 subst hl
 exact VE (E:=E) (by omega)
theorem JiH{α:Type}{E:α→List FV}{sz:Nat}[h:HSz E sz]{xs:List α}{b:Int}(hb:0≤b∧b≤xs.length):JgN sz xs.length (fl E xs) 0 b.toNat=some (Yf E (sub xs 0 b)):=JbF (a:=0) (by omega)
theorem JiG{α:Type}{E:α→List FV}{sz:Nat}[h:HSz E sz]{xs:List α}{a:Int}(hb:0≤a∧a≤xs.length):JgN sz xs.length (fl E xs) a.toNat xs.length=some (Yf E (sub xs a xs.length)):=JbF (b:=xs.length) (by omega)
theorem JgL{l:List UInt8}{b:Int}(hb:0≤b∧b≤l.length):JgM l 0 b.toNat=some (W0 (sub l 0 b)):=Nm (a:=0) (by omega)
theorem JgK{l:List UInt8}{a:Int}(hb:0≤a∧a≤l.length):JgM l a.toNat l.length=some (W0 (sub l a l.length)):=Nm (b:=l.length) (by omega)
theorem Jfs{q:Prop}[Decidable q](h:¬q):false=decide q:=(decide_eq_false h).symm
theorem Jfq{q:Prop}[Decidable q](h:q):true=decide q:=(decide_eq_true h).symm
theorem Jfr{p q:Prop}[Decidable p][Decidable q](h:p↔q):decide p=decide q:=decide_eq_decide.2 h
structure Zq where
 kind:Int
 cells:List Int
 val:Int
 deriving DecidableEq,Inhabited
structure QR where
 size:Int
 given:List Int
 rules:List Zq
 deriving DecidableEq,Inhabited
structure QU where
 task:QR
 put:List Int
 moves:List Int
 deriving DecidableEq,Inhabited
structure Brn where
 tech:Int
 cell:Int
 deriving DecidableEq,Inhabited
structure Hnt where
 tech:Int
 cell:Int
 val:Int
 deriving DecidableEq,Inhabited
def eR(r:Zq):List FV:=[.int .i64 r.kind,Ql r.cells, .int .i64 r.val]
instance:HSz eR 3:=⟨fun _=>rfl⟩
def eB(b:Brn):List FV:=[.int .i64 b.tech, .int .i64 b.cell]
instance:HSz eB 2:=⟨fun _=>rfl⟩
def eL(l:List Int):List FV:=[Ql l]
instance:HSz eL 1:=⟨fun _=>rfl⟩
theorem eR_0(r:Zq):(eR r).getD 0 .nil= .int .i64 r.kind:=rfl
theorem eR_1(r:Zq):(eR r).getD 1 .nil=Ql r.cells:=rfl
theorem eR_2(r:Zq):(eR r).getD 2 .nil= .int .i64 r.val:=rfl
theorem eB_0(r:Brn):(eB r).getD 0 .nil= .int .i64 r.tech:=rfl
theorem eB_1(r:Brn):(eB r).getD 1 .nil= .int .i64 r.cell:=rfl
theorem eL_0(l:List Int):(eL l).getD 0 .nil=Ql l:=rfl
abbrev cR (r:Zq):List CV:=[.f (.int .i64 r.kind), .f (Ql r.cells), .f (.int .i64 r.val)]
abbrev cB (b:Brn):List CV:=[.f (.int .i64 b.tech), .f (.int .i64 b.cell)]
abbrev cP (p:QR):List CV:=[.f (.int .i64 p.size), .f (Ql p.given), .f (VN eR p.rules)]
abbrev cG (g:QU):List CV:=[.f (.int .i64 g.task.size), .f (Ql g.task.given), .f (VN eR g.task.rules), .f (Ql g.put), .f (Ql g.moves)]
abbrev cH (h:Hnt):List CV:=[.f (.int .i64 h.tech), .f (.int .i64 h.cell), .f (.int .i64 h.val)]
abbrev aR (r:Zq):AV:= .agg (cR r)
abbrev aP (p:QR):AV:= .agg (cP p)
abbrev aG (g:QU):AV:= .agg (cG g)
abbrev aH (h:Hnt):AV:= .agg (cH h)
theorem JlY(r:Zq):(eR r).map CV.f=cR r:=rfl
theorem Jl1(r:Brn):(eB r).map CV.f=cB r:=rfl
theorem JlZ(r:List Int):(eL r).map CV.f=[.f (Ql r)]:=rfl
attribute [go_sem] JiH JiG JgL JgK JfR Jio Jip Jdg Jiq ldN_z JlR JdM Jcf JdN Jko JlS eR_0 eR_1 eR_2 eB_0 eB_1 eL_0 JlY Jl1 JlZ XP Yq BZ JiT
end Go.Lg

set_option maxRecDepth 100000
namespace Go.Lg
open Go.Proofs
section
variable{P:Program}{n:Nat}{t e:TypeId}{ys:List FV}
theorem FU{k:IntKind}(hu:P.underlying t=some (.int k))(h:Rt P (n+1) t ys):∃x,ys=[.int k x]∧(Lit.int k x).wf=true:=by
 unfold Rt at h;rw[hu]at h;exact h
theorem JjM(hu:P.underlying t=some .string)(h:Rt P (n+1) t ys):∃s:List UInt8,ys=eS s∧s.length≤9223372036854775807:=by
 unfold Rt at h;rw[hu]at h;exact h
theorem By{α:Type}{E:α→List FV}{F:α→Prop}(hu:P.underlying t=some (.slice e))(he:∀x,Rt P n e x→∃a,x=E a∧F a)(h:Rt P (n+1) t ys):∃xs:List α,ys=[VN E xs]∧xs.length≤9223372036854775807∧∀a∈xs,F a:=by
 unfold Rt at h;rw[hu]at h
 obtain⟨es,rfl,h1,h2⟩:=h
 obtain⟨xs,h3,h4,h5⟩:=Jcb (E:=E) (F:=F) fun x hx=>he x (h2 x hx)
 exact⟨xs,by rw[h3,h4],by omega,h5⟩
theorem RD{k:IntKind}(hu:P.underlying t=some (.slice e))(he:P.underlying e=some (.int k))(h:Rt P (n+2) t ys):∃xs:List Int,ys=[VN (eI k) xs]∧xs.length≤9223372036854775807∧∀a∈xs,(Lit.int k a).wf=true:=
 By hu (fun x hx=>FU he hx) h
theorem YQ{f0 f1 f2:Field}(hu:P.underlying t=some (.struct #[f0,f1,f2])) (h:Rt P (n+1) t ys):∃a b c,ys=a++(b++c)∧Rt P n f0.type a∧Rt P n f1.type b∧Rt P n f2.type c:=by
 unfold Rt at h;rw[hu]at h
 obtain⟨es,rfl,h1,h2⟩:=h
 have h1:es.length=3:=h1
 match es,h1 with
 |[a,b,c],_=>
  obtain⟨_,q0,p0⟩:=h2 0 f0 rfl
  obtain⟨_,q1,p1⟩:=h2 1 f1 rfl
  obtain⟨_,q2,p2⟩:=h2 2 f2 rfl
  cases q0;cases q1;cases q2
  exact⟨a,b,c,by simp,p0,p1,p2⟩
end
def wRs(rs:List Zq):Nat:=rs.length+(rs.map fun r=>r.cells.length).sum
def okRs(rs:List Zq):Prop:=rs.length≤9223372036854775807∧∀r∈rs,r.cells.length≤9223372036854775807
def JlA(p:QR):Prop:=p.given.length≤9223372036854775807∧okRs p.rules
def okG(g:QU):Prop:=JlA g.task∧g.put.length≤9223372036854775807∧g.moves.length≤9223372036854775807
abbrev fP (p:QR):List FV:=[.int .i64 p.size,Ql p.given,VN eR p.rules]
abbrev fG (g:QU):List FV:=[.int .i64 g.task.size,Ql g.task.given,VN eR g.task.rules,Ql g.put,Ql g.moves]
theorem Jhs{n:Nat}{ys:List FV}(h:Rt Tryz.prog (n+3) 127 ys):∃r:Zq,ys=eR r∧r.cells.length≤9223372036854775807:=by
 obtain⟨a,b,c,rfl,ha,hb,hc⟩:=YQ Tryz.underlying127 h
 obtain⟨x,rfl,_⟩:=FU Tryz.underlying3 ha
 obtain⟨xs,rfl,h1,_⟩:=RD Tryz.underlying23 Tryz.underlying3 hb
 obtain⟨z,rfl,_⟩:=FU Tryz.underlying3 hc
 exact⟨⟨x,xs,z⟩,rfl,h1⟩
theorem JdK{n:Nat}{ys:List FV}(h:Rt Tryz.prog (n+5) 41 ys):∃p:QR,ys=fP p∧JlA p:=by
 obtain⟨a,b,c,rfl,ha,hb,hc⟩:=YQ Tryz.underlying41 h
 obtain⟨x,rfl,_⟩:=FU Tryz.underlying3 ha
 obtain⟨xs,rfl,h1,_⟩:=RD Tryz.underlying23 Tryz.underlying3 hb
 obtain⟨rs,rfl,h2,h3⟩:=By (E:=eR) (F:=fun r=>r.cells.length≤9223372036854775807) Tryz.underlying39 (fun x hx=>Jhs hx) hc
 exact⟨⟨x,xs,rs⟩,rfl,h1,h2,h3⟩
theorem Jcc{n:Nat}{ys:List FV}(h:Rt Tryz.prog (n+6) 43 ys):∃g:QU,ys=fG g∧okG g:=by
 obtain⟨a,b,c,rfl,ha,hb,hc⟩:=YQ Tryz.underlying43 h
 obtain⟨p,rfl,hp⟩:=JdK ha
 obtain⟨xs,rfl,h1,_⟩:=RD Tryz.underlying23 Tryz.underlying3 hb
 obtain⟨zs,rfl,h2,_⟩:=RD Tryz.underlying23 Tryz.underlying3 hc
 exact⟨⟨p,xs,zs⟩,rfl,hp,h1,h2⟩
theorem Jca{n:Nat}{ys:List FV}(h:Rt Tryz.prog (n+2) 44 ys):∃ss:List (List UInt8),ys=[VN eS ss]∧ss.length≤9223372036854775807∧∀s∈ss,s.length≤9223372036854775807:=by
 exact By (E:=eS) (F:=fun s=>s.length≤9223372036854775807) Tryz.underlying44 (fun x hx=>JjM Tryz.underlying9 hx) h
end Go.Lg
