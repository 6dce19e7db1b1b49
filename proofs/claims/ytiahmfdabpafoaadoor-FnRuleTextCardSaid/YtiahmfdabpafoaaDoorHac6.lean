/- GpEG, GpEI, GpHA, GpMA, GpMD, GpME, GpMG, GpQ, GpMK, GpTA, GpTG, GpTH, GpEK, cut to what is needed. -/
import Derived.Test.YtiahmfdabpafoaaDoorHac1
import Derived.Test.YtiahmfdabpafoaaDoorHac3
import Derived.Test.YtiahmfdabpafoaaDoorHab4
import Derived.Test.YtiahmfdabpafoaaDoorHab7
open Nat renaming reduceAdd→zA,reduceMul→zM,reduceSub→zS,reduceEqDiff→zE,reduceLeDiff→zL
set_option linter.unusedSimpArgs false
set_option linter.unusedVariables false
set_option maxRecDepth 100000
namespace Go.Lg
open Go.Proofs
attribute [-go_sem] appendM lwF_cons
structure Cap where
 gp:Nat
 gpg:Nat
 tb:Nat
 tbg:Nat
 ty:Nat
 tyg:Nat
 sz:Nat
 szg:Nat
 pb:Nat
 pbg:Nat
 mid:Nat
 mg:Nat
 pid:Nat
 pg:Nat
 gid:Nat
 gg:Nat
def Cap.ids(c:Cap):List Nat:=[c.gp,c.tb,c.ty,c.sz,c.pb,c.mid]
structure TryH(ft fy:FuncId)(p:Puz)(n most:Nat)(c:Cap)(H:Heap):Prop where
 g:look H c.gp c.gpg=some ⟨c.gpg,1,[.own c.gid c.gg 0 (n*n) none]⟩
 t:look H c.tb c.tbg=some ⟨c.tbg,1,[.fn ft [(c.pid,c.pg),(c.mid,c.mg)]]⟩
 y:look H c.ty c.tyg=some ⟨c.tyg,1,[.fn fy [(c.gp,c.gpg),(c.tb,c.tbg),(c.ty,c.tyg),(c.sz,c.szg),(c.pb,c.pbg)]]⟩
 z:look H c.sz c.szg=some ⟨c.szg,1,[.f (.int .i64 n)]⟩
 b:look H c.pb c.pbg=some ⟨c.pbg,1,cP p⟩
 m:look H c.mid c.mg=some ⟨c.mg,1,[.f (.int .i64 most)]⟩
theorem TryH.same{ft fy:FuncId}{p:Puz}{n most:Nat}{c:Cap}{H H':Heap}(h:TryH ft fy p n most c H)(hs:∀k∈c.ids,H'[k]? =H[k]?):TryH ft fy p n most c H':=by
 have k:∀i g b,i∈c.ids→look H i g=b→look H' i g=b:=fun i g b hi he=>by unfold look at*;rw[hs i hi];exact he
 exact⟨k _ _ _ (by simp[Cap.ids]) h.g,k _ _ _ (by simp[Cap.ids]) h.t,k _ _ _ (by simp[Cap.ids]) h.y,k _ _ _ (by simp[Cap.ids]) h.z,k _ _ _ (by simp[Cap.ids]) h.b,k _ _ _ (by simp[Cap.ids]) h.m⟩
theorem TryH.lt{ft fy:FuncId}{p:Puz}{n most:Nat}{c:Cap}{H:Heap}(h:TryH ft fy p n most c H):∀k∈c.ids,k<H.length:=by
 intro k hk
 have hl:∀{i g:Nat} {b:Blk},look H i g=some b→i<H.length:=fun h=>(List.getElem?_eq_some_iff.1 (look_some h).1).1
 simp only[Cap.ids,List.mem_cons,List.not_mem_nil,or_false]at hk
 rcases hk with rfl|rfl|rfl|rfl|rfl|rfl
 · exact hl h.g
 · exact hl h.t
 · exact hl h.y
 · exact hl h.z
 · exact hl h.b
 · exact hl h.m
end Go.Lg

namespace Go.Lg
open Go.Proofs
def Cap.idt(c:Cap):List Nat:=[c.gp,c.tb,c.ty,c.sz,c.pb]
structure TryT(ft fy:FuncId)(p:Puz)(n:Nat)(c:Cap)(H:Heap):Prop where
 g:look H c.gp c.gpg=some ⟨c.gpg,1,[.own c.gid c.gg 0 (n*n) none]⟩
 t:look H c.tb c.tbg=some ⟨c.tbg,1,[.fn ft [(c.pid,c.pg),(c.mid,c.mg)]]⟩
 y:look H c.ty c.tyg=some ⟨c.tyg,1,[.fn fy [(c.gp,c.gpg),(c.tb,c.tbg),(c.ty,c.tyg),(c.sz,c.szg),(c.pb,c.pbg)]]⟩
 z:look H c.sz c.szg=some ⟨c.szg,1,[.f (.int .i64 n)]⟩
 b:look H c.pb c.pbg=some ⟨c.pbg,1,cP p⟩
theorem TryT.same{ft fy:FuncId}{p:Puz}{n:Nat}{c:Cap}{H H':Heap}(h:TryT ft fy p n c H)(hs:∀k∈c.idt,H'[k]? =H[k]?):TryT ft fy p n c H':=by
 have k:∀i g b,i∈c.idt→look H i g=b→look H' i g=b:=fun i g b hi he=>by unfold look at*;rw[hs i hi];exact he
 exact⟨k _ _ _ (by simp[Cap.idt]) h.g,k _ _ _ (by simp[Cap.idt]) h.t,k _ _ _ (by simp[Cap.idt]) h.y,k _ _ _ (by simp[Cap.idt]) h.z,k _ _ _ (by simp[Cap.idt]) h.b⟩
theorem TryT.lt{ft fy:FuncId}{p:Puz}{n:Nat}{c:Cap}{H:Heap}(h:TryT ft fy p n c H):∀k∈c.idt,k<H.length:=by
 intro k hk
 have hl:∀{i g:Nat} {b:Blk},look H i g=some b→i<H.length:=fun h=>(List.getElem?_eq_some_iff.1 (look_some h).1).1
 simp only[Cap.idt,List.mem_cons,List.not_mem_nil,or_false]at hk
 rcases hk with rfl|rfl|rfl|rfl|rfl
 · exact hl h.g
 · exact hl h.t
 · exact hl h.y
 · exact hl h.z
 · exact hl h.b
attribute [-go_sem] appendM lwF_cons
end Go.Lg

namespace Go.Lg
open Go.Proofs
def ExtG(xs s:List Int):Prop:=∀k:Nat,0<nth xs k→nth s k=nth xs k
instance(xs s:List Int):Decidable (ExtG xs s):=decidable_of_iff (∀k,k<xs.length→0<nth xs (k:Int)→nth s (k:Int)=nth xs (k:Int)) ⟨fun h k hk=>by
 by_cases hl:k<xs.length
 · exact h k hl hk
 · rw[nth_over (by omega)]at hk;omega,fun h k _=>h k⟩
theorem ExtG.refl(xs:List Int):ExtG xs xs:=fun _ _=>rfl
theorem ExtG.trans{a b c:List Int}(h:ExtG a b)(k:ExtG b c):ExtG a c:=fun i hi=>by
 have:=h i hi
 rw[k i (by omega),this]
theorem ExtG.set{xs:List Int}{i:Nat}{v:Int}(hi:i<xs.length)(h0:¬0<nth xs i):ExtG xs (xs.set i v):=fun k hk=>by
 rw[nth_setN _ _ _ _ hi,if_neg (fun h=>by subst h;exact h0 hk)]
end Go.Lg

namespace Go.Lg
open Go.Proofs
def mAt(ms:List Nat)(k:Nat):Nat:=ms.getD k 0
theorem nth_nats(ms:List Nat)(k:Nat):nth (nats ms) k=((mAt ms k:Nat):Int):=by
 unfold nth nats mAt
 rw[Int.toNat_natCast]
 simp only[List.getD,List.getElem?_map]
 by_cases h:k<ms.length
 · rw[List.getElem?_eq_getElem h];rfl
 · rw[List.getElem?_eq_none (by omega)];rfl
theorem nats_len(ms:List Nat):(nats ms).length=ms.length:=by simp[nats]
theorem mAt_over{ms:List Nat}{k:Nat}(h:ms.length≤k):mAt ms k=0:=by
 unfold mAt
 simp[List.getD,List.getElem?_eq_none h]
theorem mAt_mem{ms:List Nat}{k:Nat}(h:k<ms.length):mAt ms k∈ms:=by
 unfold mAt
 simp[List.getD,List.getElem?_eq_getElem h]
structure MsN(ms:List Nat)(n:Nat):Prop where
 len:ms.length=n*n
 val:∀m∈ms,m≤2^(n+1) -2∧m%2=0
theorem MsN.at{ms:List Nat}{n:Nat}(h:MsN ms n)(k:Nat):mAt ms k≤2^(n+1) -2∧mAt ms k%2=0:=by
 by_cases hk:k<ms.length
 · exact h.val _ (mAt_mem hk)
 · rw[mAt_over (by omega)];exact⟨Nat.zero_le _,rfl⟩
theorem pow_n{n:Nat}(hn:n=2∨n=3∨n=4):8≤2^(n+1)∧2^(n+1)≤32:=by rcases hn with rfl|rfl|rfl<;>decide
theorem MsN.lt{ms:List Nat}{n:Nat}(hn:n=2∨n=3∨n=4)(h:MsN ms n)(k:Nat):mAt ms k≤30∧mAt ms k%2=0:=by
 have:=h.at k
 have:=pow_n hn
 omega
theorem MsN.ok{ms:List Nat}{n:Nat}(h:MsN ms n):MasksOk (nats ms) n:=by
 refine⟨by rw[nats_len];exact h.len,fun k hk=> ?_⟩
 have:=h.at k
 rw[nth_nats]
 omega
theorem MsN.set{ms:List Nat}{n k v:Nat}(h:MsN ms n)(hv:v≤2^(n+1) -2∧v%2=0):MsN (ms.set k v) n:=
 ⟨by rw[List.length_set];exact h.len,fun m hm=>by
   rcases List.mem_or_eq_of_mem_set hm with hm|rfl
   · exact h.val m hm
   · exact hv⟩
def onlyV(m:Nat):Nat:=if m=2 then 1 else if m=4 then 2 else if m=8 then 3 else if m=16 then 4 else 0
def clr(o m:Nat):Nat:=o&&&(31^^^m)
def clrL(R:List (Nat×Nat))(ms:List Nat):List Nat:=R.foldl (fun o q=>o.set q.1 (clr (mAt o q.1) q.2)) ms
def sglI(ms:List Nat)(n i:Nat)(c:Nat):List (Nat×Nat):=if c=i then[]else[(c,mAt ms i)]
def sglK(ms:List Nat)(n i k:Nat):List (Nat×Nat):=sglI ms n i (i/n*n+k)++sglI ms n i (k*n+i%n)
def sglA(ms:List Nat)(n i:Nat):List (Nat×Nat):=if onlyV (mAt ms i)=0 then[]else(List.range n).flatMap (sglK ms n i)
def sglM(ms:List Nat)(n:Nat):List Nat:=clrL ((List.range (n*n)).flatMap (sglA ms n)) ms
end Go.Lg

namespace Go.Lg
open Go.Proofs
def lnN(n line k:Nat):Nat:=(nth (lineC n line) k).toNat
def hcnt(ms:List Nat)(n line v:Nat):Nat→Nat×Nat
 |0=>(0,0)
 |k+1=>if(mAt ms (lnN n line k)).testBit v=true then((hcnt ms n line v k).1+1,lnN n line k)else hcnt ms n line v k
def hidV(ms:List Nat)(n line u:Nat):List (Nat×Nat):=if(hcnt ms n line (u+1) n).1=1 then[((hcnt ms n line (u+1) n).2,31^^^2^(u+1))]else[]
def hidA(ms:List Nat)(n line:Nat):List (Nat×Nat):=(List.range n).flatMap (hidV ms n line)
def hidM(ms:List Nat)(n:Nat):List Nat:=clrL ((List.range (2*n)).flatMap (hidA ms n)) ms
end Go.Lg

namespace Go.Lg
open Go.Proofs
def parK(ms:List Nat)(n line i j k:Nat):List (Nat×Nat):=if lnN n line k≠lnN n line i∧lnN n line k≠lnN n line j then[(lnN n line k,mAt ms (lnN n line i))]else[]
def parP(ms:List Nat)(n line i j:Nat):List (Nat×Nat):=if mAt ms (lnN n line i)=mAt ms (lnN n line j)∧(mvals (mAt ms (lnN n line i)) 4).length=2 then(List.range n).flatMap (parK ms n line i j)else[]
def parI(ms:List Nat)(n line i:Nat):List (Nat×Nat):=(List.range (n -(i+1))).flatMap fun t=>parP ms n line i (i+1+t)
def parA(ms:List Nat)(n line:Nat):List (Nat×Nat):=(List.range n).flatMap (parI ms n line)
def parM(ms:List Nat)(n:Nat):List Nat:=clrL ((List.range (2*n)).flatMap (parA ms n)) ms
end Go.Lg

namespace Go.Lg
open Go.Proofs
def putR(r:Rul)(fd:List Nat)(ms:List Nat)(j:Nat):List Nat:=(List.range j).foldl (fun(o:List Nat) (i:Nat)=>o.set (nth r.cells (i:Int)).toNat (fd.getD i 0)) ms
def rulS(ms:List Nat)(r:Rul):List Nat:=putR r (ruleM r (nats ms)) ms r.cells.length
def rulM(p:Puz)(ms:List Nat):List Nat:=p.rules.foldl rulS ms
def narM(p:Puz)(t:Nat)(ms:List Nat):List Nat:=
 if t=1 then sglM ms p.size.toNat else if t=2 then hidM ms p.size.toNat else if t=3 then parM ms p.size.toNat else rulM p ms
def nextM(p:Puz)(ms:List Nat):Nat:=if narM p 1 ms≠ms then 1 else if narM p 2 ms≠ms then 2 else if narM p 3 ms≠ms then 3 else if narM p 4 ms≠ms then 4 else 0
end Go.Lg

namespace Go.Lg
open Go.Proofs
section
variable{P:Program}{ops:Array Oper}{o:Oper}{s:List AV}{H:Heap}{K:KV}{fo:Operand}{xs:Array Operand}{ts:Array TypeId}{f:FuncId}{args args':List AV}{zs:List Int}
end
structure CpI(B:Heap)(j g:Nat)(size:Int)(given:List Int)(c r:CV)(l:List RO)(S I:List Nat):Prop where
 out:look B j g=some ⟨g,3,[.f (.int .i64 size),c,r]⟩
 rl:(l=[]∧r= .f .nil∧I=S)∨∃id g',r= .own id g' 0 l.length none∧look B id g'=some ⟨g',3,kl kR l⟩∧I=S++id::l.flatMap (·.i)
 cells:∀o∈l,OwnI B o.c o.r.cells o.i
 giv:OwnI B c given S
 nd:I.Nodup
 lt:∀x∈I,2≤x∧x<B.length∧x≠j
theorem CpI.next{B B3:Heap}{j g:Nat}{size:Int}{given:List Int}{c r:CV}{l:List RO}{S I:List Nat}(hC:CpI B j g size given c r l S I)(o:RO){id g':Nat}
 (hI:(l=[]∧I=S∧B.length≤id)∨I=S++id::l.flatMap (·.i)) (hs:∀k∈I,k≠id→B3[k]? =B[k]?) (hlen:B.length≤B3.length)
 (hout:look B3 j g=some ⟨g,3,[.f (.int .i64 size),c, .own id g' 0 (l.length+1) none]⟩) (hid:look B3 id g'=some ⟨g',3,kl kR (l++[o])⟩)
 (ho:OwnI B3 o.c o.r.cells o.i) (hoi:∀k∈o.i,B.length≤k∧k<B3.length∧k≠id∧k≠j) (hi:2≤id∧id<B3.length∧id≠j) (h2:2≤B.length):
 CpI B3 j g size given c (.own id g' 0 (l.length+1) none) (l++[o]) S (S++id::(l++[o]).flatMap (·.i)):=by
 have hJ:(S++id::l.flatMap (·.i)).Nodup∧(∀x∈S++l.flatMap (·.i),x∈I)∧(∀x∈S++l.flatMap (·.i),x≠id):=by
  rcases hI with⟨rfl,rfl,hb⟩|rfl
  · have hne:∀x∈I,x≠id:=fun x hx=>by have:=hC.lt x hx;omega
    refine⟨?_,by simp,by simpa using hne⟩
    simp only[List.flatMap_nil]
    rw[List.nodup_append]
    exact⟨hC.nd,by simp,fun a ha b hb=>by simp at hb;subst hb;exact hne a ha⟩
  · have hn:=hC.nd
    refine⟨hn,fun x hx=> ?_,fun x hx he=> ?_⟩
    · simp only[List.mem_append,List.mem_cons]at hx⊢
      rcases hx with hx|hx
      · exact .inl hx
      · exact .inr (.inr hx)
    · subst he
      rw[List.nodup_append]at hn
      obtain⟨n1,n2,n3⟩:=hn
      rcases List.mem_append.1 hx with hx|hx
      · exact n3 x hx x (by simp) rfl
      · exact(List.nodup_cons.1 n2).1 hx
 obtain⟨hn,hin,hne⟩:=hJ
 have hmem:∀x∈S++id::(l++[o]).flatMap (·.i),x∈S++l.flatMap (·.i)∨x=id∨x∈o.i:=fun x hx=>by
  simp only[List.flatMap_append,List.flatMap_cons,List.flatMap_nil,List.append_nil,List.mem_append,List.mem_cons]at hx⊢
  rcases hx with hx|rfl|hx|hx
  · exact .inl (.inl hx)
  · exact .inr (.inl rfl)
  · exact .inl (.inr hx)
  · exact .inr (.inr hx)
 refine⟨hout, .inr ⟨id,g',by simp,hid,rfl⟩,fun o' ho'=> ?_, ?_, ?_,fun x hx=> ?_⟩
 · rcases List.mem_append.1 ho' with ho'|ho'
   · refine(hC.cells o' ho').same fun k hk=> ?_
     have:k∈S++l.flatMap (·.i):=List.mem_append.2 (.inr (List.mem_flatMap.2 ⟨o',ho',hk⟩))
     exact hs k (hin k this) (hne k this)
   · simp at ho';subst ho';exact ho
 · refine hC.giv.same fun k hk=> ?_
   have:k∈S++l.flatMap (·.i):=List.mem_append.2 (.inl hk)
   exact hs k (hin k this) (hne k this)
 · have e:S++id::(l++[o]).flatMap (·.i)=(S++id::l.flatMap (·.i))++o.i:=by simp
   rw[e,List.nodup_append]
   refine⟨hn,ho.nd,fun a ha b hb he=> ?_⟩
   subst he
   have h4:=hoi a hb
   have:a∈S++l.flatMap (·.i):=by
    simp only[List.mem_append,List.mem_cons]at ha⊢
    rcases ha with ha|ha|ha
    · exact .inl ha
    · exact absurd ha h4.2.2.1
    · exact .inr ha
   have:=hC.lt a (hin a this)
   omega
 · rcases hmem x hx with hx|rfl|hx
   · have:=hC.lt x (hin x hx);omega
   · exact hi
   · have:=hoi x hx;omega
def limN:CV→Prop
 | .own _ _ _ _ lim=>lim=none
 | .f .nil=>True
 |_=>False
def puzQ1(p:Puz):KV:=fun v H=>∃c r S1 S2,v= .agg [.f (.int .i64 p.size),c,r]∧OwnI H c p.given S1∧((r= .f .nil∧p.rules=[]∧S2=[])∨OwnR H r p.rules S2)∧(S1++S2).Nodup∧limN r
theorem CpI.done{B B':Heap}{j g:Nat}{p:Puz}{c r:CV}{l:List RO}{S I:List Nat}(hC:CpI B j g p.size p.given c r l S I)(hm:l.map (·.r)=p.rules)(hs:∀k∈I,B'[k]? =B[k]?):
 puzQ1 p (.agg [.f (.int .i64 p.size),c,r]) B':=by
 rcases hC.rl with⟨rfl,rfl,rfl⟩|⟨id,g',rfl,hid,rfl⟩
 · exact⟨_,_,_,[],rfl,hC.giv.same hs, .inl ⟨rfl,hm.symm,rfl⟩,by rw[List.append_nil];exact hC.nd,trivial⟩
 · refine⟨_,_,_,_,rfl,hC.giv.same fun k hk=>hs k (List.mem_append.2 (.inl hk)), .inr ?_,hC.nd,rfl⟩
   rw[←hm]
   refine OwnR.same (.o id g' none l [] (by rw[List.append_nil];exact hid) hC.cells ?_ (by simp)) fun k hk=>hs k (List.mem_append.2 (.inr hk))
   have:=hC.nd
   rw[List.nodup_append]at this
   exact this.2.1
end Go.Lg

namespace Go.Lg
open Go.Proofs
theorem sum_le_mul:∀(l:List Nat) (b:Nat),(∀x∈l,x≤b)→l.sum≤b*l.length
 |[],b,_=>by simp
 |x::l,b,h=>by
  have h1:=sum_le_mul l b fun y hy=>h y (by simp[hy])
  have h2:=h x (by simp)
  simp only[List.sum_cons,List.length_cons,Nat.mul_add,Nat.mul_one]
  omega
theorem MsN.sum{ms:List Nat}{n:Nat}(hn:n=2∨n=3∨n=4)(h:MsN ms n):ms.sum≤480:=by
 have h1:=sum_le_mul ms 30 fun x hx=>by have:=(h.val x hx).1;have:=pow_n hn;omega
 have h2:ms.length≤16:=by rw[h.len];rcases hn with rfl|rfl|rfl<;>omega
 omega
end Go.Lg

namespace Go.Lg
open Go.Proofs
def onlyL(ms:List Nat):List Nat:=ms.map onlyV
def endM(p:Puz)(ms:List Nat):Option Nat:=
 if(∃m∈ms,m=0)then some 0 else if(∀m∈ms,onlyV m≠0)then some (if solvedV p (nats (onlyL ms))=true then 1 else 0)else none
end Go.Lg

namespace Go.Lg
open Go.Proofs
attribute [-go_sem] appendM lwF_cons
def openK(ms:List Nat):Nat:=((List.range ms.length).find? fun k=>decide (onlyV (mAt ms k)=0)).getD 0
def mkF(p:Puz):Nat→List Nat→List Brn→List Brn
 |0,_,out=>out
 |f+1,ms,out=>if 200<out.length then out else match endM p ms with
  |some _=>out
  |none=>if nextM p ms≠0 then mkF p f (narM p (nextM p ms) ms) (out++[⟨nextM p ms,0⟩])else(mvals (mAt ms (openK ms)) 4).foldl (fun o v=>mkF p f (ms.set (openK ms) (2^v.toNat)) o) (out++[⟨0,openK ms⟩])
abbrev brnH (g:Nat) (b:Brn):Heap:=[some ⟨g,2,cB b⟩]
def mkQ(H:Heap)(id:Nat)(R:List Brn):KV:=fun v H'=>∃g',v= .c (.own id g' 0 R.length none)∧look H' id g'=some ⟨g',2,cl eB R⟩∧Frm H H' [id]
structure MkI(H HI:Heap)(id g gb:Nat)(p:Puz)(out:List Brn):Prop where
 cells:look HI id g=some ⟨g,2,cl eB out⟩
 box:look HI H.length gb=some ⟨gb,1,cP p⟩
 lt:id<H.length
 ln:H.length+1≤HI.length
 frm:∀i,i<H.length→i≠id→HI[i]? =H[i]?
theorem MkI.done{H HI:Heap}{id g gb:Nat}{p:Puz}{out:List Brn}(h:MkI H HI id g gb p out):lessQ HI (mkQ H id out) (.c (.own id g 0 out.length none)):=by
 have hl:=h.lt
 have hn:=h.ln
 refine⟨HI.take H.length,fun i b hb=> ?_,g,rfl, ?_,by simp;omega,fun i hi=> ?_⟩
 · by_cases hi:i<H.length
   · rwa [List.getElem?_take_of_lt hi]at hb
   · rw[List.getElem?_take_eq_none (by omega)]at hb;cases hb
 · have hc:=h.cells
   unfold look at hc⊢
   rw[List.getElem?_take_of_lt hl]
   exact hc
 · by_cases h2:i<H.length
   · rw[List.getElem?_take_of_lt h2,h.frm i h2 (by simpa using hi)]
   · rw[List.getElem?_take_eq_none (by omega),List.getElem?_eq_none (by omega)]
theorem MkI.app{H HI H':Heap}{id g gb:Nat}{p:Puz}{out:List Brn}(h:MkI H HI id g gb p out):MkI H (HI++H') id g gb p out:=
 ⟨look_appL h.cells,look_appL h.box,h.lt,by have:=h.ln;simp;omega,fun i h1 h2=>by rw[List.getElem?_append_left (by have:=h.ln;omega)];exact h.frm i h1 h2⟩
theorem MkI.put{H HI:Heap}{id g gb:Nat}{p:Puz}{out R:List Brn}(h:MkI H HI id g gb p out)(g':Nat):MkI H (HI.set id (some ⟨g',2,cl eB R⟩)) id g' gb p R:=by
 have hl:=h.lt
 have hn:=h.ln
 refine⟨?_, ?_,hl,by simp;omega,fun i h1 h2=>by rw[List.getElem?_set_ne (Ne.symm h2)];exact h.frm i h1 h2⟩
 · unfold look
   rw[List.getElem?_set_self (by omega)]
   simp
 · have hb:=h.box
   unfold look at hb⊢
   rw[List.getElem?_set_ne (by omega)]
   exact hb
theorem MkI.step{H HI H':Heap}{id g g' gb:Nat}{p:Puz}{out R:List Brn}(h:MkI H HI id g gb p out)(hf:Frm HI H' [id])(hc:look H' id g'=some ⟨g',2,cl eB R⟩):MkI H H' id g' gb p R:=by
 have hl:=h.lt
 have hn:=h.ln
 refine⟨hc, ?_,hl,by rw[hf.1];exact hn,fun i h1 h2=>by rw[hf.2 i (by simpa using h2)];exact h.frm i h1 h2⟩
 have hb:=h.box
 unfold look at hb⊢
 rw[hf.2 _ (by simp;omega)]
 exact hb
end Go.Lg

namespace Go.Lg
open Go.Proofs
attribute [-go_sem] appendM lwF_cons
structure MkJ(H HI:Heap)(id pid g pg gb:Nat)(p:Puz)(out:List Brn):Prop where
 cells:look HI id g=some ⟨g,2,cl eB out⟩
 cell:look HI pid pg=some ⟨pg,1,[.own id g 0 out.length none]⟩
 box:look HI H.length gb=some ⟨gb,1,cP p⟩
 lt:id<H.length
 lt2:pid<H.length
 ne:id≠pid
 ln:H.length+1≤HI.length
 frm:∀i,i<H.length→i≠id→i≠pid→HI[i]? =H[i]?
def mkQ2(H:Heap)(id pid pg:Nat)(R:List Brn):KV:=fun v H'=>v= .tup []∧∃g',look H' id g'=some ⟨g',2,cl eB R⟩∧look H' pid pg=some ⟨pg,1,[.own id g' 0 R.length none]⟩∧Frm H H' [id,pid]
theorem MkJ.done{H HI:Heap}{id pid g pg gb:Nat}{p:Puz}{out:List Brn}(h:MkJ H HI id pid g pg gb p out):lessQ HI (mkQ2 H id pid pg out) (.tup []):=by
 have hl:=h.lt
 have hl2:=h.lt2
 have hn:=h.ln
 refine⟨HI.take H.length,fun i b hb=> ?_,rfl,g, ?_, ?_,by simp;omega,fun i hi=> ?_⟩
 · by_cases hi:i<H.length
   · rwa [List.getElem?_take_of_lt hi]at hb
   · rw[List.getElem?_take_eq_none (by omega)]at hb;cases hb
 · have hc:=h.cells
   unfold look at hc⊢
   rw[List.getElem?_take_of_lt hl]
   exact hc
 · have hc:=h.cell
   unfold look at hc⊢
   rw[List.getElem?_take_of_lt hl2]
   exact hc
 · simp only[List.mem_cons,List.not_mem_nil,or_false,not_or]at hi
   by_cases h2:i<H.length
   · rw[List.getElem?_take_of_lt h2,h.frm i h2 hi.1 hi.2]
   · rw[List.getElem?_take_eq_none (by omega),List.getElem?_eq_none (by omega)]
theorem MkJ.app{H HI H':Heap}{id pid g pg gb:Nat}{p:Puz}{out:List Brn}(h:MkJ H HI id pid g pg gb p out):MkJ H (HI++H') id pid g pg gb p out:=
 ⟨look_appL h.cells,look_appL h.cell,look_appL h.box,h.lt,h.lt2,h.ne,by have:=h.ln;simp;omega,fun i h1 h2 h3=>by rw[List.getElem?_append_left (by have:=h.ln;omega)];exact h.frm i h1 h2 h3⟩
theorem MkJ.step{H HI H':Heap}{id pid g g' pg gb:Nat}{p:Puz}{out R:List Brn}(h:MkJ H HI id pid g pg gb p out)(hf:∀i,i<HI.length→i≠id→i≠pid→i≤H.length→H'[i]? =HI[i]?)(hln:HI.length≤H'.length)(hc:look H' id g'=some ⟨g',2,cl eB R⟩)(hc2:look H' pid pg=some ⟨pg,1,[.own id g' 0 R.length none]⟩):MkJ H H' id pid g' pg gb p R:=by
 have hl:=h.lt
 have hl2:=h.lt2
 have hn:=h.ln
 refine⟨hc,hc2, ?_,hl,hl2,h.ne,by omega,fun i h1 h2 h3=>by rw[hf i (by omega) h2 h3 (by omega)];exact h.frm i h1 h2 h3⟩
 have hb:=h.box
 unfold look at hb⊢
 rw[hf _ (by omega) (by omega) (by omega) (Nat.le_refl _)]
 exact hb
theorem MkJ.push{H HI:Heap}{id pid g pg gb:Nat}{p:Puz}{out:List Brn}(h:MkJ H HI id pid g pg gb p out)(b:Brn)(g1 g':Nat):
 look ((HI++brnH g1 b).set id (some ⟨g',2,cl eB (out++[b])⟩)) pid pg=some ⟨pg,1,[.own id g 0 out.length none]⟩∧
 MkJ H (((HI++brnH g1 b).set id (some ⟨g',2,cl eB (out++[b])⟩)).set pid (some ⟨pg,1,[.own id g' 0 (out.length+1) none]⟩)) id pid g' pg gb p (out++[b]):=by
 have hl:=h.lt
 have hl2:=h.lt2
 have hn:=h.ln
 have hne:=h.ne
 have h1:=(h.app (H':=brnH g1 b)).cell
 have hlen:(HI++brnH g1 b).length=HI.length+1:=by simp
 refine⟨?_,(h.app (H':=brnH g1 b)).step (fun i h2 h3 h4 _=> ?_) (by simp) ?_ ?_⟩
 · unfold look at h1⊢
   rw[List.getElem?_set_ne hne]
   exact h1
 · rw[List.getElem?_set_ne (Ne.symm h4),List.getElem?_set_ne (Ne.symm h3)]
 · unfold look
   rw[List.getElem?_set_ne (Ne.symm hne),List.getElem?_set_self (by omega)]
   simp
 · unfold look
   rw[List.getElem?_set_self (by simp;omega)]
   simp
end Go.Lg

namespace Go.Lg
open Go.Proofs
theorem RunCall.iceIn{P:Program}{f:FuncId}{args args':List AV}{H H':Heap}{Q:KV}(S:Nat→Bool)(hh:IceH S H H')(hl:args'.length=args.length)(ha:∀j (h:j<args.length),∃y,args'[j]? =some y∧Ice1 S H args[j] y)
 (h:RunCall P f args' H' Q):RunCall P f args H Q:=by
 intro w X vs hH hvs
 have hvs':VAs w (X.iceS S H) H' args' vs:=by
  refine⟨by rw[hl];exact hvs.1,fun i hi=> ?_⟩
  obtain⟨u,h1,h2⟩:=hvs.2 i (by omega)
  obtain⟨y,h3,h4⟩:=ha i (by omega)
  have:args'[i]=y:=by simpa[List.getElem?_eq_getElem hi]using h3
  rw[this]
  exact⟨u,h1,ice1_sound hH hh h4 h2⟩
 exact(h w _ vs (iceS_rel hH hh) hvs').mono fun _ w' ⟨v,u,X',H',h1,h2,h3,h4,h5⟩=>⟨v,u,X',H',h1,h2,h3,(iceS_ev hh).trans h4,h5⟩
def CntO(number:Nat)(pn gn pf gf:Nat)(H:Heap)(ls:List (List Int))(S:List Nat):Prop:=
 look H pn gn=some ⟨gn,1,[.f (.int .i64 ((number -ls.length:Nat):Int))]⟩∧∃c,look H pf gf=some ⟨gf,1,[c]⟩∧
  ((ls.length≤number∧c= .f .nil∧S=[])∨(number<ls.length∧∃id g,c= .own id g 0 (ls.getD number []).length none∧S=[id]∧look H id g=some ⟨g,1,cl (eI .i64) (ls.getD number [])⟩))
theorem CntO.same{number pn gn pf gf:Nat}{H H':Heap}{ls:List (List Int)}{S:List Nat}(h:CntO number pn gn pf gf H ls S)(hs:∀k,k∈[pn,pf]∨k∈S→H'[k]? =H[k]?):CntO number pn gn pf gf H' ls S:=by
 have k:∀i g b,(i∈[pn,pf]∨i∈S)→look H i g=b→look H' i g=b:=fun i g b hi he=>by unfold look at*;rw[hs i hi];exact he
 obtain⟨h1,c,h2,h3⟩:=h
 refine⟨k _ _ _ (.inl (by simp)) h1,c,k _ _ _ (.inl (by simp)) h2, ?_⟩
 rcases h3 with h|⟨h4,id,g,h5,h6,h7⟩
 · exact .inl h
 · exact .inr ⟨h4,id,g,h5,h6,k _ _ _ (.inr (by rw[h6];simp)) h7⟩
end Go.Lg
