/- GpEG, GpDJ, GpEH, cut to what is needed. -/
import Derived.Test.YtiahmfdabpafoaaDoorGac6
open Nat renaming reduceAdd→zA,reduceMul→zM,reduceSub→zS,reduceEqDiff→zE,reduceLeDiff→zL
set_option linter.unusedSimpArgs false
set_option linter.unusedVariables false
set_option maxRecDepth 100000
namespace Go.Lg
open Go.Proofs
attribute [-go_sem] appendM lwF_cons
theorem setV{xs:List Int}{i:Nat}(h:i<xs.length)(w v:Int):setRange (cl (eI .i64) (xs.set i w)) (0+(i:Int).toNat*1) [.f (.int .i64 v)]=cl (eI .i64) (xs.set i v):=by
 have:=setRange_cl (E:=eI .i64) (n:=1) (xs:=xs.set i w) (i:=i) (v:=v) (by rw[List.length_set];exact h)
 rw[List.set_set]at this
 exact this
theorem GrdN.nn{xs:List Int}{n:Nat}(h:GrdN xs n)(c:Int):0≤nth xs c:=by
 rw[nth_toNat]
 by_cases hk:c.toNat<xs.length
 · exact(h.val _ hk).1
 · unfold nth
   rw[Int.toNat_natCast,List.getD_eq_getElem?_getD,List.getElem?_eq_none (by omega)]
   exact Int.le_refl _
theorem PuzN.cells0{p:Puz}{n:Nat}(h:PuzN p n):∀r∈p.rules,∀c∈r.cells,0≤c:=fun r hr c hc=>((ruleValid_facts (h.rv r hr)).2.2.1 c hc).1
structure Cap where
 gp:Nat
 gpg:Nat
 tb:Nat
 tbg:Nat
 ty:Nat
 tyg:Nat
 sz:Nat
 szg:Nat
 pb:Nat
 pbg:Nat
 mid:Nat
 mg:Nat
 pid:Nat
 pg:Nat
 gid:Nat
 gg:Nat
def Cap.ids(c:Cap):List Nat:=[c.gp,c.tb,c.ty,c.sz,c.pb,c.mid]
structure TryH(ft fy:FuncId)(p:Puz)(n most:Nat)(c:Cap)(H:Heap):Prop where
 g:look H c.gp c.gpg=some ⟨c.gpg,1,[.own c.gid c.gg 0 (n*n) none]⟩
 t:look H c.tb c.tbg=some ⟨c.tbg,1,[.fn ft [(c.pid,c.pg),(c.mid,c.mg)]]⟩
 y:look H c.ty c.tyg=some ⟨c.tyg,1,[.fn fy [(c.gp,c.gpg),(c.tb,c.tbg),(c.ty,c.tyg),(c.sz,c.szg),(c.pb,c.pbg)]]⟩
 z:look H c.sz c.szg=some ⟨c.szg,1,[.f (.int .i64 n)]⟩
 b:look H c.pb c.pbg=some ⟨c.pbg,1,cP p⟩
 m:look H c.mid c.mg=some ⟨c.mg,1,[.f (.int .i64 most)]⟩
theorem TryH.same{ft fy:FuncId}{p:Puz}{n most:Nat}{c:Cap}{H H':Heap}(h:TryH ft fy p n most c H)(hs:∀k∈c.ids,H'[k]? =H[k]?):TryH ft fy p n most c H':=by
 have k:∀i g b,i∈c.ids→look H i g=b→look H' i g=b:=fun i g b hi he=>by unfold look at*;rw[hs i hi];exact he
 exact⟨k _ _ _ (by simp[Cap.ids]) h.g,k _ _ _ (by simp[Cap.ids]) h.t,k _ _ _ (by simp[Cap.ids]) h.y,k _ _ _ (by simp[Cap.ids]) h.z,k _ _ _ (by simp[Cap.ids]) h.b,k _ _ _ (by simp[Cap.ids]) h.m⟩
theorem set_same{xs:List Int}{i:Nat}{x:Int}(h:nth xs i=x):xs.set i x=xs:=by
 refine List.ext_getElem (by simp) fun j h1 h2=> ?_
 rw[List.getElem_set]
 split
 · rename_i hij
   subst hij
   rw[←h,nth_eq (by simpa using h2)]
   simp
 · rfl
def Ext(p:Puz)(xs:List Int):Prop:=∀k:Nat,nth xs k=0→nth p.given k≤0
theorem target_all{H:Heap}{f:FuncId}{caps:List (Nat×Nat)}(h:∀c∈caps,(look H c.1 c.2).isSome=true):target H (.c (.fn f caps))=some (f,caps.map fun c=> .c (.ptr c.1 c.2 0)):=by
 unfold target
 exact if_pos (List.all_eq_true.2 h)
theorem TryH.lt{ft fy:FuncId}{p:Puz}{n most:Nat}{c:Cap}{H:Heap}(h:TryH ft fy p n most c H):∀k∈c.ids,k<H.length:=by
 intro k hk
 have hl:∀{i g:Nat} {b:Blk},look H i g=some b→i<H.length:=fun h=>(List.getElem?_eq_some_iff.1 (look_some h).1).1
 simp only[Cap.ids,List.mem_cons,List.not_mem_nil,or_false]at hk
 rcases hk with rfl|rfl|rfl|rfl|rfl|rfl
 · exact hl h.g
 · exact hl h.t
 · exact hl h.y
 · exact hl h.z
 · exact hl h.b
 · exact hl h.m
def tryQ(p:Puz)(n most:Nat)(c:Cap)(m:Nat)(xs:List Int)(ls:List (List Int))(S:List Nat)(H:Heap):KV:=fun v H'=>
 ∃l,l=ls++(sols p n m xs).take (most -ls.length)∧v=bool (decide (l.length<most))∧∃S' ys,OutL H' c.pid c.pg l S'∧(∀k∈S',k∈S∨H.length≤k)∧(∀k∈S',k<H'.length)∧H.length≤H'.length∧
  look H' c.gid c.gg=some ⟨c.gg,1,cl (eI .i64) ys⟩∧ys.length=xs.length∧(l.length<most→ys=xs)∧∀k,k<H.length→k≠c.pid→k∉S→k≠c.gid→H'[k]? =H[k]?
theorem try_run{p:Puz}{n:Nat}(hp:PuzN p n)(most:Nat)(hmo:most≤600)(c:Cap)(hcp:∀k∈c.ids,k≠c.pid∧k≠c.gid)(hgp:c.gid≠c.pid):
 ∀(m:Nat) (H:Heap) (xs:List Int) (ls:List (List Int)) (S:List Nat),m≤n*n→GrdN xs n→fitsL p xs n=true→Ext p xs→TryH 80 82 p n most c H→(∀k∈c.ids,k∉S)→look H c.gid c.gg=some ⟨c.gg,1,cl (eI .i64) xs⟩→c.gid∉S→ls.length<most→OutL H c.pid c.pg ls S→(∀k∈S,k<H.length)→
 RunCall Tryd.prog 82 [int ((n*n -m:Nat):Int), .c (.ptr c.gp c.gpg 0), .c (.ptr c.tb c.tbg 0), .c (.ptr c.ty c.tyg 0), .c (.ptr c.sz c.szg 0), .c (.ptr c.pb c.pbg 0)] H (tryQ p n most c m xs ls S H)
 |0,H,xs,ls,S,hm,hg,hfit,hext,hT,hcS,hgl,hgS,hls,hout,hSl=>by
  have hn:=hp.hn
  have hxl:=hg.len
  have hsq:4≤n*n∧n*n≤16:=by rcases hn with rfl|rfl|rfl<;>omega
  have kg:=hT.g
  have kt:=hT.t
  refine RunCall.cw (c:=_) Tryd.func82 rfl (n:=48) Tryd.ntmps82 (rs:=[.tmp 7]) rfl ?_
  simp only[List.length_cons,List.length_nil,zA,zS,List.replicate,List.cons_append,List.nil_append]
  simp(maxSteps:=999999)(disch:=omega)only[go_sem,zA,zM,zS,zE,zL,kg,kt,hgl]
  ((first|(with_reducible first|refine condK_dec ?_ ?_|refine condK_ndec ?_ ?_|refine condK_nb ?_ ?_)|refine condK_b ?_ ?_)<;>intro c1)
  rotate_left
  · exfalso;omega
  simp(maxSteps:=999999)(disch:=omega)only[go_sem,zA,zM,zS,zE,zL,kg,kt,hgl]
  have hrun:=tell_run most hmo H c.gid c.gg xs c.pid c.pg c.mid c.mg ls S (by omega) hgl hT.m (hcp c.mid (by simp[Cap.ids])).1 (hcS c.mid (by simp[Cap.ids])) hls hout hSl
  rw[hxl]at hrun
  have htg:target H (.c (.fn 80 [(c.pid,c.pg),(c.mid,c.mg)]))=some (80,[.c (.ptr c.pid c.pg 0), .c (.ptr c.mid c.mg 0)]):=by
   obtain⟨⟨oid,og,cs,o1,_⟩,_⟩:=hout
   exact target_all (caps:=[(c.pid,c.pg),(c.mid,c.mg)]) (by simp[o1,hT.m])
  refine OpS.runFn hrun (⟨_,Tryd.func80,rfl,rfl⟩:Enters Tryd.prog 80) rfl htg rfl ?_
  rintro _ H2 ⟨rfl,S2,o2,t1,t2,t3,t4⟩
  simp(maxSteps:=999999)(disch:=omega)only[go_sem,zA,zM,zS,zE,zL]
  have hs:sols p n 0 xs=[xs]:=rfl
  have ht:(sols p n 0 xs).take (most -ls.length)=[xs]:=by rw[hs,List.take_of_length_le (by simp;omega)]
  refine⟨H2,HLe.refl _,ls++[xs],by rw[ht], ?_,S2,xs,o2,t1,t2,t3, ?_,rfl,fun _=>rfl,fun k h1 h2 h3 _=>t4 k h1 h2 h3⟩
  · rw[List.length_append,List.length_singleton]
  · have hglt:=(List.getElem?_eq_some_iff.1 (look_some hgl).1).1
    unfold look
    rw[t4 c.gid hglt hgp hgS]
    exact hgl
 |m+1,H,xs,ls,S,hm,hg,hfit,hext,hT,hcS,hgl,hgS,hls,hout,hSl=>by
  have hn:=hp.hn
  have hxl:=hg.len
  have hsq:4≤n*n∧n*n≤16:=by rcases hn with rfl|rfl|rfl<;>omega
  have kg:=hT.g
  have ky:=hT.y
  have kz:=hT.z
  have kb:=hT.b
  obtain⟨i,hi⟩:∃i,i=n*n -(m+1):=⟨_,rfl⟩
  have him:n*n -m=i+1:=by omega
  have hil:i<xs.length:=by omega
  have hxi:=hg.val i hil
  have hss:sols p n (m+1) xs=if 0<nth xs i then sols p n m xs else(vals n 1).flatMap fun(v:Nat)=>if fitsL p (xs.set i (v:Int)) n=true then sols p n m (xs.set i (v:Int))else[]:=by
   have e:xs.length -(m+1)=i:=by omega
   conv=>lhs;rw[sols,e]
   rfl
  have hglt:=(List.getElem?_eq_some_iff.1 (look_some hgl).1).1
  rw[←hi]
  have htgt:∀{HI:Heap},TryH 80 82 p n most c HI→target HI (.c (.fn 82 [(c.gp,c.gpg),(c.tb,c.tbg),(c.ty,c.tyg),(c.sz,c.szg),(c.pb,c.pbg)]))=some (82,[.c (.ptr c.gp c.gpg 0), .c (.ptr c.tb c.tbg 0), .c (.ptr c.ty c.tyg 0), .c (.ptr c.sz c.szg 0), .c (.ptr c.pb c.pbg 0)]):=fun h=>
   target_all (caps:=[(c.gp,c.gpg),(c.tb,c.tbg),(c.ty,c.tyg),(c.sz,c.szg),(c.pb,c.pbg)]) (by simp[h.g,h.t,h.y,h.z,h.b])
  refine RunCall.cw (c:=_) Tryd.func82 rfl (n:=48) Tryd.ntmps82 (rs:=[.tmp 7]) rfl ?_
  simp only[List.length_cons,List.length_nil,zA,zS,List.replicate,List.cons_append,List.nil_append]
  simp(maxSteps:=999999)(disch:=omega)only[go_sem,zA,zM,zS,zE,zL,kg,hgl]
  ((first|(with_reducible first|refine condK_dec ?_ ?_|refine condK_ndec ?_ ?_|refine condK_nb ?_ ?_)|refine condK_b ?_ ?_)<;>intro c1)
  · exfalso;omega
  simp(maxSteps:=999999)(disch:=omega)only[go_sem,zA,zM,zS,zE,zL,kg,hgl]
  ((first|(with_reducible first|refine condK_dec ?_ ?_|refine condK_ndec ?_ ?_|refine condK_nb ?_ ?_)|refine condK_b ?_ ?_)<;>intro c2)
  · simp(maxSteps:=999999)(disch:=omega)only[go_sem,zA,zM,zS,zE,zL,ky]
    have hrec:=try_run hp most hmo c hcp hgp m H xs ls S (by omega) hg hfit hext hT hcS hgl hgS hls hout hSl
    rw[him,show int ((i+1:Nat):Int)=int ((i:Int)+1) by push_cast;rfl]at hrec
    refine OpS.runFn hrec (⟨_,Tryd.func82,rfl,rfl⟩:Enters Tryd.prog 82) rfl (htgt hT) rfl ?_
    rintro _ H2 ⟨l,hl,rfl,hrest⟩
    simp(maxSteps:=999999)(disch:=omega)only[go_sem,zA,zM,zS,zE,zL]
    exact⟨H2,HLe.refl _,l,by rw[hss,if_pos c2];exact hl,rfl,hrest⟩
  · have h0:nth xs i=0:=by omega
    simp(maxSteps:=999999)(disch:=omega)only[go_sem,zA,zM,zS,zE,zL]
    refine loop_rule3 (fun(v:Nat) (HI:Heap) (l:List (List Int))=>n+1 -v) (fun v HI l=>1≤v∧v≤n+1∧goV p n m xs i most (vals n v) l=goV p n m xs i most (vals n 1) ls∧l.length<most∧H.length≤HI.length∧∃S' w,OutL HI c.pid c.pg l S'∧(∀k∈S',k∈S∨H.length≤k)∧(∀k∈S',k<HI.length)∧look HI c.gid c.gg=some ⟨c.gg,1,cl (eI .i64) (xs.set i w)⟩∧∀k,k<H.length→k≠c.pid→k∉S→k≠c.gid→HI[k]? =H[k]?)
     (fun v _ _=>[.k, .k, .a, .k, .k, .k, .a, .a, .p (int v), .a, .a, .a, .a, .a, .a, .a, .a, .a, .a, .a, .a, .a, .a, .a, .a, .a, .a, .a, .a, .a, .a, .a, .a, .a, .a, .a, .a, .a, .a, .a, .a, .a, .a, .a, .a, .a, .a, .a]) (fun _ HI _=>HI) 1 H ls ⟨Nat.le_refl _,by omega,rfl,hls,Nat.le_refl _,S,0,hout,fun k hk=> .inl hk,hSl,by rw[set_same h0];exact hgl,fun _ _ _ _ _=>rfl⟩ (by simp(maxSteps:=999999)(disch:=omega)only[go_sem,zA,zM,zS,zE,zL];rfl) (HLe.refl _) ?_
    rintro v HI l ⟨hv1,hv2,hgo,hlm,hlI,S',w,oI,hS1,hS2,gI,hfI⟩
    have hlt:=hT.lt
    have hgoal:sols p n (m+1) xs=(vals n 1).flatMap fun(v:Nat)=>if fitsL p (xs.set i (v:Int)) n=true then sols p n m (xs.set i (v:Int))else[]:=by rw[hss,if_neg c2]
    have hTI:=hT.same (H':=HI) fun k hk=>hfI k (hlt k hk) (hcp k hk).1 (hcS k hk) (hcp k hk).2
    have hcS':∀k∈c.ids,k∉S':=fun k hk h=>by
     rcases hS1 k h with h|h
     · exact hcS k hk h
     · have:=hlt k hk;omega
    have hgS':c.gid∉S':=fun h=>by
     rcases hS1 _ h with h|h
     · exact hgS h
     · omega
    have kgI:=hTI.g
    have kzI:=hTI.z
    simp(maxSteps:=999999)(disch:=omega)only[go_sem,zA,zM,zS,zE,zL,kgI,kzI]
    ((first|(with_reducible first|refine condK_dec ?_ ?_|refine condK_ndec ?_ ?_|refine condK_nb ?_ ?_)|refine condK_b ?_ ?_)<;>intro d1)
    · have hvn:v≤n:=by omega
      have hset:=setV hil w (v:Int)
      simp(maxSteps:=999999)(disch:=omega)only[go_sem,zA,zM,zS,zE,zL,kgI,kzI,gI,hset]
      obtain⟨HN,hHN⟩:∃HN:Heap,HN=HI.set c.gid (some ⟨c.gg,1,cl (eI .i64) (xs.set i v)⟩):=⟨_,rfl⟩
      have hNl:HN.length=HI.length:=by rw[hHN,List.length_set]
      have hNg:∀k,k≠c.gid→HN[k]? =HI[k]? :=fun k hk=>by rw[hHN,List.getElem?_set_ne (Ne.symm hk)]
      have gN:look HN c.gid c.gg=some ⟨c.gg,1,cl (eI .i64) (xs.set i v)⟩:=by rw[hHN];exact look_set_eq' (by omega)
      have hTN:=hTI.same (H':=HN) fun k hk=>hNg k (hcp k hk).2
      have oN:OutL HN c.pid c.pg l S':=oI.same fun k hk=>hNg k (by rcases hk with rfl|hk;exact Ne.symm hgp;exact fun h=>hgS' (by rw[←h];exact hk))
      rw[←hHN]
      clear hHN
      have hgs:GrdN (xs.set i (v:Int)) n:=⟨by rw[List.length_set];exact hxl,fun k hk=>by
       rw[List.length_set]at hk
       rw[nth_setN _ _ _ _ hil]
       split
       · omega
       · exact hg.val k hk⟩
      have hown:OwnI HN (.own c.gid c.gg 0 (n*n) none) (xs.set i (v:Int)) [c.gid]:=by
       have:=OwnI.o (H:=HN) c.gid c.gg none (xs.set i (v:Int)) [] (by rw[List.append_nil];exact gN)
       rwa [List.length_set,hxl]at this
      have bN:=hTN.b
      have ggN:=hTN.g
      simp(maxSteps:=999999)(disch:=omega)only[go_sem,zA,zM,zS,zE,zL,bN,ggN,gN]
      refine OpS.rdD (cellFits_run hp (xs.set i (v:Int)) hgs i (by omega)) (⟨_,Tryd.func83,rfl,rfl⟩:Enters Tryd.prog 83) rfl rfl (snap_three rfl hown.snap snapD_int) rfl ?_
      have hstep:=fits_step hn (i:=i) (v:=v) hfit hxl hg.nn (by omega) hv1 h0 (hext i h0) hp.cells0
      rw[←hstep]
      have yN:=hTN.y
      simp(maxSteps:=999999)(disch:=omega)only[go_sem,zA,zM,zS,zE,zL,yN]
      ((with_reducible first|refine guardK_dec ?_ ?_|refine guardK_ndec ?_ ?_|refine guardK_nb ?_ ?_|refine guardK_split ?_ ?_|refine guardQ_dec ?_ ?_|refine guardL_dec ?_ ?_|refine guardQ_ndec ?_ ?_|refine guardL_ndec ?_ ?_|refine guardQ_nb ?_ ?_|refine guardL_nb ?_ ?_|refine guardQ_split ?_ ?_|refine guardL_split ?_ ?_)<;>intro c3<;>simp(maxSteps:=999999)(disch:=omega)only[go_sem,zA,zM,zS,zE,zL,c3])
      · simp(maxSteps:=999999)(disch:=omega)only[go_sem,zA,zM,zS,zE,zL,yN]
        have hexts:Ext p (xs.set i (v:Int)):=fun k hk=>by
         rw[nth_setN _ _ _ _ hil]at hk
         split at hk
         · omega
         · exact hext k hk
        have hrec:=try_run hp most hmo c hcp hgp m HN (xs.set i (v:Int)) l S' (by omega) hgs c3 hexts hTN hcS' gN hgS' hlm oN (fun k hk=>by have:=hS2 k hk;omega)
        rw[him,show int ((i+1:Nat):Int)=int ((i:Int)+1) by push_cast;rfl]at hrec
        refine OpS.runFn hrec (⟨_,Tryd.func82,rfl,rfl⟩:Enters Tryd.prog 82) rfl (htgt hTN) rfl ?_
        rintro _ H2 ⟨l2,hl2,rfl,S2,ys,o2,t1,t2,t3,t4,t5,t6,t7⟩
        have hgo2:goV p n m xs i most (vals n (v+1)) l2=goV p n m xs i most (vals n 1) ls:=by
         rw[←hgo,vals_cons ⟨hv1,hvn⟩]
         conv=>rhs;unfold goV
         rw[if_pos hlm,if_pos c3,hl2]
        have hS2':∀k∈S2,k∈S∨H.length≤k:=fun k hk=>by
         rcases t1 k hk with h|h
         · exact hS1 k h
         · exact .inr (by omega)
        have hf2:∀k,k<H.length→k≠c.pid→k∉S→k≠c.gid→H2[k]? =H[k]? :=fun k h1 h2 h3 h4=>by
         have hkS':k∉S':=fun h=>by
          rcases hS1 k h with h|h
          · exact h3 h
          · omega
         rw[t7 k (by omega) h2 hkS' h4,hNg k h4,hfI k h1 h2 h3 h4]
        simp(maxSteps:=999999)(disch:=omega)only[go_sem,zA,zM,zS,zE,zL]
        ((first|(with_reducible first|refine condK_dec ?_ ?_|refine condK_ndec ?_ ?_|refine condK_nb ?_ ?_)|refine condK_b ?_ ?_)<;>intro d2)
        · simp(maxSteps:=999999)(disch:=omega)only[go_sem,zA,zM,zS,zE,zL]
          refine⟨v+1,H2,l2,⟨⟨by omega,by omega,hgo2,d2,by omega,S2,(v:Int),o2,hS2',t2, ?_,hf2⟩,by omega⟩,by push_cast;omega,HLe.refl _⟩
          rw[t4,t6 d2]
        · simp(maxSteps:=999999)(disch:=omega)only[go_sem,zA,zM,zS,zE,zL]
          have hend:goV p n m xs i most (vals n 1) ls=l2:=by rw[←hgo2];exact goV_full d2
          rw[goV_eq _ _ _ _ _ _ _ _ (by omega),←hgoal]at hend
          exact⟨H2,HLe.refl _,l2,hend.symm,by rw[decide_eq_false d2],S2,ys,o2,hS2',t2,by omega,t4,by rw[t5,List.length_set],fun h=>absurd h d2,hf2⟩
      · refine⟨v+1,HN,l,⟨⟨by omega,by omega, ?_,hlm,by omega,S',(v:Int),oN,hS1,fun k hk=>by have:=hS2 k hk;omega,gN,fun k h1 h2 h3 h4=>by rw[hNg k h4];exact hfI k h1 h2 h3 h4⟩,by omega⟩,by push_cast;omega,HLe.refl _⟩
        rw[←hgo,vals_cons ⟨hv1,hvn⟩]
        conv=>rhs;unfold goV
        rw[if_pos hlm,if_neg (by rw[c3];simp)]
    · have hve:v=n+1:=by omega
      have hset:=setV hil w 0
      simp(maxSteps:=999999)(disch:=omega)only[go_sem,zA,zM,zS,zE,zL,kgI,gI,hset]
      have hend:goV p n m xs i most (vals n 1) ls=l:=by rw[←hgo,hve,vals_nil];rfl
      rw[goV_eq _ _ _ _ _ _ _ _ (by omega),←hgoal]at hend
      obtain⟨HN,hHN⟩:∃HN:Heap,HN=HI.set c.gid (some ⟨c.gg,1,cl (eI .i64) (xs.set i 0)⟩):=⟨_,rfl⟩
      have hNl:HN.length=HI.length:=by rw[hHN,List.length_set]
      have hNg:∀k,k≠c.gid→HN[k]? =HI[k]? :=fun k hk=>by rw[hHN,List.getElem?_set_ne (Ne.symm hk)]
      have gN:look HN c.gid c.gg=some ⟨c.gg,1,cl (eI .i64) xs⟩:=by rw[hHN,set_same h0];exact look_set_eq' (by omega)
      have oN:OutL HN c.pid c.pg l S':=oI.same fun k hk=>hNg k (by rcases hk with rfl|hk;exact Ne.symm hgp;exact fun h=>hgS' (by rw[←h];exact hk))
      rw[←hHN]
      exact⟨HN,HLe.refl _,l,hend.symm,by rw[decide_eq_true hlm],S',xs,oN,hS1,fun k hk=>by rw[hNl];exact hS2 k hk,by omega,gN,rfl,fun _=>rfl,fun k h1 h2 h3 h4=>by rw[hNg k h4];exact hfI k h1 h2 h3 h4⟩
end Go.Lg

namespace Go.Lg
open Go.Proofs
theorem mapM_of{α β:Type}{f:α→Option β}:∀(l:List α) (r:List β),l.length=r.length→(∀i (h:i<l.length) (h':i<r.length),f l[i]=some r[i])→l.mapM f=some r
 |[],[],_,_=>rfl
 |[],_::_,h,_=>by simp at h
 |_::_,[],h,_=>by simp at h
 |a::l,b::r,hl,h=>by
  have h0:=h 0 (by simp) (by simp)
  have ih:=mapM_of l r (by simpa using hl) fun i h1 h2=>h (i+1) (by simpa using h1) (by simpa using h2)
  simp only[List.getElem_cons_zero]at h0
  simp only[List.mapM_cons,h0,ih,Option.pure_def,Option.bind_eq_bind,Option.bind_some]
theorem OutL.frz{H:Heap}{pid pg:Nat}{ls:List (List Int)}{S:List Nat}(h:OutL H pid pg ls S):∃oid og,look H pid pg=some ⟨pg,1,[.own oid og 0 ls.length none]⟩∧frzC H (.own oid og 0 ls.length none)=some (.f (fsl eL ls)):=by
 obtain⟨⟨oid,og,cs,h1,h2,h3,h4,h5⟩,_⟩:=h
 refine⟨oid,og,h1, ?_⟩
 have hm:cs.mapM (Lg.frz H 5)=some (ls.map fints):=by
  refine mapM_of _ _ (by simp[h4]) fun i hi hi'=> ?_
  have hil:i<ls.length:=by omega
  obtain⟨id,g,k1,k2,k3,k4⟩:=h5 i hil
  have e:cs[i]= .own id g 0 ls[i].length none:=by
   rw[List.getElem?_eq_getElem hi]at k1
   exact Option.some.inj k1
  rw[e,List.getElem_map]
  exact(OwnI.o (H:=H) id g none ls[i] [] (by rw[List.append_nil];exact k2)).frz 4
 have et:(cs.drop 0).take (ls.length*1)=cs:=by rw[List.drop_zero,List.take_of_length_le (by omega)]
 have ef:ls.map fints=fl eL ls:=by
  have:∀l:List (List Int),l.map fints=fl eL l:=fun l=>by
   induction l with
   |nil=>rfl
   |cons x l ih=>simp only[List.map_cons,ih,fl,List.flatMap_cons,eL,List.cons_append,List.nil_append]
  exact this ls
 simp only[frzC,Lg.frz,h2,et,hm,Option.map_some,ef]
theorem puzzleValid_grid'{p:Puz}(h:puzzleValid p=true):gridValid p.given p.size=true:=by
 simp only[puzzleValid,Bool.and_eq_true]at h;exact h.1
def allS(p:Puz)(most:Nat):List (List Int):=if puzzleValid p=true∧fitsL p p.given p.size.toNat=true then(sols p p.size.toNat (p.size.toNat*p.size.toNat) p.given).take most else[]
theorem l5All_run(p:Puz)(most:Nat)(hmo:1≤most∧most≤600)(hx:smP p):Reads Tryd.prog 122 [aP p,int most] (rsl eL (allS p most)):=by
 have hgl:=hx.1
 refine Reads.iced ?_
 refine RunCall.cw (c:=_) Tryd.func122 rfl (n:=17) Tryd.ntmps122 (rs:=[.tmp 4]) rfl ?_
 simp only[List.length_cons,List.length_nil,zA,zS,List.replicate,List.cons_append,List.nil_append]
 simp(maxSteps:=999999)(disch:=omega)only[go_sem,zA,zM,zS,zE,zL]
 intro g1 g2 g3
 first|refine OpS.rd (sPuzzleFits_run p p.given hx hgl) (⟨_,Tryd.func98,rfl,rfl⟩:Enters Tryd.prog 98) rfl rfl rfl rfl ?_|refine Loud.rd (sPuzzleFits_run p p.given hx hgl) (⟨_,Tryd.func98,rfl,rfl⟩:Enters Tryd.prog 98) rfl rfl rfl rfl ?_
 simp(maxSteps:=999999)(disch:=omega)only[go_sem,zA,zM,zS,zE,zL]
 cases hc:(puzzleValid p&&(gridValid p.given p.size&&fitsL p p.given p.size.toNat))with
 |false=>
  simp(maxSteps:=999999)(disch:=omega)only[go_sem,zA,zM,zS,zE,zL]
  have:allS p most=[]:=by
   unfold allS
   rw[if_neg]
   rintro⟨h1,h2⟩
   rw[h1,puzzleValid_grid' h1,h2]at hc
   cases hc
  rw[this]
  exact lessQ_ice (by simp only[frzA,frz1,frzC,frz,go_sem];rfl)
 |true=>
  simp only[Bool.and_eq_true]at hc
  obtain⟨h1,h2,h3⟩:=hc
  obtain⟨hp,hs⟩:=PuzN.of h1
  have hg:=GrdN.of hp.hn (xs:=p.given) (by rw[hs];exact h2)
  have hall:allS p most=(sols p p.size.toNat (p.size.toNat*p.size.toNat) p.given).take most:=by unfold allS;rw[if_pos ⟨h1,h3⟩]
  generalize p.size.toNat=n at hp hs hg hall
  have hr:=l5Search_frz hp most hmo.2 (n*n) [some ⟨g1,1,cP p⟩,some ⟨g2,1,[]⟩,some ⟨g3,1,[CV.own 1 g2 0 0 none]⟩] p.given 2 g3 [] [1] (Nat.le_refl _) hg (by simp;omega)
   ⟨⟨1,g2,[],by simp only[go_sem],by simp only[go_sem],by simp,rfl,fun i hi=>by simp at hi⟩,by simp⟩ (by simp)
  rw[Nat.sub_self]at hr
  simp(maxSteps:=999999)(disch:=omega)only[go_sem,zA,zM,zS,zE,zL]
  refine OpS.run hr (⟨_,Tryd.func138,rfl,rfl⟩:Enters Tryd.prog 138) rfl rfl ?_
  rintro _ H2 ⟨rfl,S2,o2,_⟩
  rw[List.nil_append,List.length_nil,Nat.sub_zero,←hall]at o2
  obtain⟨oid,og,k1,k2⟩:=o2.frz
  simp(maxSteps:=999999)(disch:=omega)only[go_sem,zA,zM,zS,zE,zL,k1]
  exact lessQ_ice (by simp only[frzA,frz1,k2,Option.map_some])
end Go.Lg

namespace Go.Lg
open Go.Proofs
attribute [-go_sem] appendM lwF_cons
theorem solutions_run{p:Puz}{n:Nat}(hp:PuzN p n)(hv:puzzleValid p=true)(most:Nat)(hmo:1≤most∧most≤600)(H:Heap)(xs:List Int)(hg:GrdN xs n)(hext:Ext p xs)(pid pg mid mg:Nat)(S:List Nat)(hml:look H mid mg=some ⟨mg,1,[.f (.int .i64 most)]⟩)(hmp:mid≠pid)(hmS:mid∉S)(hout:OutL H pid pg [] S)(hSl:∀k∈S,k<H.length):
 RunCall Tryd.prog 61 [aP p,ints xs, .c (.fn 80 [(pid,pg),(mid,mg)])] H (fun v H'=>v= .tup []∧∃S',OutL H' pid pg (if fitsL p xs n=true then(sols p n (n*n) xs).take most else[]) S'):=by
 have hn:=hp.hn
 have hz:=hp.size
 have hxl:=hg.len
 have hsq:4≤n*n∧n*n≤16:=by rcases hn with rfl|rfl|rfl<;>omega
 have hplt:pid<H.length:=by
  obtain⟨⟨oid,og,cs,o1,_⟩,_⟩:=hout
  exact(List.getElem?_eq_some_iff.1 (look_some o1).1).1
 refine RunCall.cw (c:=_) Tryd.func61 rfl (n:=20) Tryd.ntmps61 (rs:=[]) rfl ?_
 simp only[List.length_cons,List.length_nil,zA,zS,List.replicate,List.cons_append,List.nil_append]
 simp(maxSteps:=999999)(disch:=omega)only[go_sem,zA,zM,zS,zE,zL]
 intro g0 g1
 refine OpS.mkDQ (Clone_q0 xs (by omega) (fun h=>by rw[h]at hxl;simp at hxl;omega)) (⟨_,Tryd.func63,rfl,rfl⟩:Enters Tryd.prog 63) rfl rfl rfl ?_
 intro g2
 obtain⟨HA,hHA⟩:∃HA:Heap,HA=H++[some ⟨g0,1,cP p⟩]++[some ⟨g1,1,[CV.fn 80 [(pid,pg),(mid,mg)]]⟩]++[some ⟨g2,1,cl (eI .i64) xs⟩]:=⟨_,rfl⟩
 have hAl:HA.length=H.length+3:=by rw[hHA];simp
 have hAg:∀k,k<H.length→HA[k]? =H[k]? :=fun k hk=>by rw[hHA,List.append_assoc,List.append_assoc,List.getElem?_append_left hk]
 have a0:look HA H.length g0=some ⟨g0,1,cP p⟩:=by rw[hHA];exact look_appL (look_appL look_last)
 have a1:look HA (H.length+1) g1=some ⟨g1,1,[CV.fn 80 [(pid,pg),(mid,mg)]]⟩:=by
  rw[hHA]
  refine look_appL ?_
  have:=look_last (H:=H++[some ⟨g0,1,cP p⟩]) (g:=g1) (sz:=1) (cs:=[CV.fn 80 [(pid,pg),(mid,mg)]])
  rwa [List.length_append,List.length_singleton]at this
 have a2:look HA (H.length+1+1) g2=some ⟨g2,1,cl (eI .i64) xs⟩:=by
  rw[hHA]
  have:=look_last (H:=H++[some ⟨g0,1,cP p⟩]++[some ⟨g1,1,[CV.fn 80 [(pid,pg),(mid,mg)]]⟩]) (g:=g2) (sz:=1) (cs:=cl (eI .i64) xs)
  rwa [List.length_append,List.length_append,List.length_singleton,List.length_singleton]at this
 show vwK _ _ _ _ _ _ (.c (.own (H++[some ⟨g0,1,cP p⟩]++[some ⟨g1,1,[CV.fn 80 [(pid,pg),(mid,mg)]]⟩]:Heap).length g2 0 xs.length none)) (H++[some ⟨g0,1,cP p⟩]++[some ⟨g1,1,[CV.fn 80 [(pid,pg),(mid,mg)]]⟩]++[some ⟨g2,1,cl (eI .i64) xs⟩]:Heap)
 rw[←hHA]
 clear hHA
 simp(maxSteps:=999999)(disch:=omega)only[go_sem,zA,zM,zS,zE,zL,look_last,set_last]
 intro g3
 obtain⟨HB,hHB⟩:∃HB:Heap,HB=HA++[some ⟨g3,1,[CV.own (H.length+1+1) g2 0 xs.length none]⟩]:=⟨_,rfl⟩
 have hBl:HB.length=HA.length+1:=by rw[hHB];simp
 have b0:look HB H.length g0=some ⟨g0,1,cP p⟩:=by rw[hHB];exact look_appL a0
 have b1:look HB (H.length+1) g1=some ⟨g1,1,[CV.fn 80 [(pid,pg),(mid,mg)]]⟩:=by rw[hHB];exact look_appL a1
 have b2:look HB (H.length+1+1) g2=some ⟨g2,1,cl (eI .i64) xs⟩:=by rw[hHB];exact look_appL a2
 have b3:look HB HA.length g3=some ⟨g3,1,[CV.own (H.length+1+1) g2 0 xs.length none]⟩:=by rw[hHB];exact look_last
 have hBg:∀k,k<H.length→HB[k]? =H[k]? :=fun k hk=>by rw[hHB,List.getElem?_append_left (by omega)];exact hAg k hk
 rw[←hHB]
 clear hHB
 have hown:OwnI HB (.own (H.length+1+1) g2 0 xs.length none) xs [H.length+1+1]:=OwnI.o (H:=HB) (H.length+1+1) g2 none xs [] (by rw[List.append_nil];exact b2)
 simp(maxSteps:=999999)(disch:=omega)only[go_sem,zA,zM,zS,zE,zL,b0,b3]
 refine OpS.rdD (PuzzleFits_run hp hv xs hg) (⟨_,Tryd.func81,rfl,rfl⟩:Enters Tryd.prog 81) rfl rfl (snap_two rfl hown.snap) rfl ?_
 simp(maxSteps:=999999)(disch:=omega)only[go_sem,zA,zM,zS,zE,zL]
 ((first|(with_reducible first|refine condK_dec ?_ ?_|refine condK_ndec ?_ ?_|refine condK_nb ?_ ?_)|refine condK_b ?_ ?_)<;>intro c1)
 rotate_left
 · simp(maxSteps:=999999)(disch:=omega)only[go_sem,zA,zM,zS,zE,zL]
   exact⟨HB,HLe.refl _,rfl,S,by rw[if_neg (by rw[c1];simp)];exact hout.same fun k hk=>hBg k (by rcases hk with rfl|hk;exact hplt;exact hSl k hk)⟩
 simp(maxSteps:=999999)(disch:=omega)only[go_sem,zA,zM,zS,zE,zL,b0,look_last,set_last]
 rw[hz]
 intro g4
 obtain⟨HC,hHC⟩:∃HC:Heap,HC=HB++[some ⟨g4,1,[CV.f (FV.int .i64 n)]⟩]:=⟨_,rfl⟩
 have hCl:HC.length=HB.length+1:=by rw[hHC];simp
 have lC:∀g sz cs,look (HC++[some ⟨g,sz,cs⟩]) (HB.length+1) g=some ⟨g,sz,cs⟩:=fun g sz cs=>by rw[←hCl];exact look_last
 have sC:∀x y,(HC++[x]).set (HB.length+1) y=HC++[y]:=fun x y=>by rw[←hCl];exact set_last
 have hC0:∀{k g:Nat} {b:Blk},look HB k g=some b→look HC k g=some b:=fun h=>by rw[hHC];exact look_appL h
 have c4:look HC HB.length g4=some ⟨g4,1,[CV.f (FV.int .i64 n)]⟩:=by rw[hHC];exact look_last
 have hCg:∀k,k<H.length→HC[k]? =H[k]? :=fun k hk=>by rw[hHC,List.getElem?_append_left (by omega)];exact hBg k hk
 rw[←hHC]
 clear hHC
 intro g5
 simp(maxSteps:=999999)(disch:=omega)only[go_sem,zA,zM,zS,zE,zL,lC,sC,List.mapM_cons,List.mapM_nil,capOf,Option.bind_eq_bind,Option.pure_def,Option.bind_some]
 refine⟨rfl, ?_⟩
 obtain⟨HD,hHD⟩:∃HD:Heap,HD=HC++[some ⟨g5,1,[CV.fn 82 [(HA.length,g3),(H.length+1,g1),(HB.length+1,g5),(HB.length,g4),(H.length,g0)]]⟩]:=⟨_,rfl⟩
 have d5:look HD (HB.length+1) g5=some ⟨g5,1,[CV.fn 82 [(HA.length,g3),(H.length+1,g1),(HB.length+1,g5),(HB.length,g4),(H.length,g0)]]⟩:=by rw[hHD];exact lC _ _ _
 have hD0:∀{k g:Nat} {b:Blk},look HC k g=some b→look HD k g=some b:=fun h=>by rw[hHD];exact look_appL h
 have hDg:∀k,k<H.length→HD[k]? =H[k]? :=fun k hk=>by rw[hHD,List.getElem?_append_left (by omega)];exact hCg k hk
 have hDl:HD.length=HC.length+1:=by rw[hHD];simp
 rw[←hHD]
 clear hHD
 have hmlt:=(List.getElem?_eq_some_iff.1 (look_some hml).1).1
 have hT:TryH 80 82 p n most ⟨HA.length,g3,H.length+1,g1,HB.length+1,g5,HB.length,g4,H.length,g0,mid,mg,pid,pg,H.length+1+1,g2⟩ HD:=
  ⟨by have:=hD0 (hC0 b3);rw[hxl]at this;exact this,hD0 (hC0 b1),d5,hD0 c4,hD0 (hC0 b0),by unfold look;rw[hDg mid hmlt];exact hml⟩
 have hrun:=try_run hp most hmo.2 _ (by
  intro k hk
  simp only[Cap.ids,List.mem_cons,List.not_mem_nil,or_false]at hk⊢
  rcases hk with rfl|rfl|rfl|rfl|rfl|rfl<;>omega) (by show H.length+1+1≠pid;omega) (n*n) HD xs [] S (Nat.le_refl _) hg c1 hext hT (by
  intro k hk hS
  have:=hSl k hS
  simp only[Cap.ids,List.mem_cons,List.not_mem_nil,or_false]at hk
  rcases hk with rfl|rfl|rfl|rfl|rfl|rfl
  · omega
  · omega
  · omega
  · omega
  · omega
  · exact hmS hS) (hD0 (hC0 b2)) (fun h=>by have:=hSl _ h;simp only at this;omega) (by simp;omega) (hout.same fun k hk=>hDg k (by rcases hk with rfl|hk;exact hplt;exact hSl k hk)) (fun k hk=>by have:=hSl k hk;omega)
 rw[Nat.sub_self]at hrun
 refine OpS.runFn hrun (⟨_,Tryd.func82,rfl,rfl⟩:Enters Tryd.prog 82) rfl (target_all (caps:=[(HA.length,g3),(H.length+1,g1),(HB.length+1,g5),(HB.length,g4),(H.length,g0)]) (by simp[hT.g,hT.t,hT.y,hT.z,hT.b])) rfl ?_
 rintro _ H2 ⟨l,hl,rfl,S2,ys,o2,_⟩
 simp(maxSteps:=999999)(disch:=omega)only[go_sem,zA,zM,zS,zE,zL]
 rw[List.nil_append,List.length_nil,Nat.sub_zero]at hl
 exact⟨H2,HLe.refl _,rfl,S2,by rw[if_pos c1,←hl];exact o2⟩
theorem firstSolutions_run{p:Puz}{n:Nat}(hp:PuzN p n)(hv:puzzleValid p=true)(most:Nat)(hmo:1≤most∧most≤600)(xs:List Int)(hg:GrdN xs n)(hext:Ext p xs):
 Reads Tryd.prog 60 [aP p,ints xs,int most] (rsl eL (if fitsL p xs n=true then(sols p n (n*n) xs).take most else[])):=by
 refine Reads.iced ?_
 refine RunCall.cw (c:=_) Tryd.func60 rfl (n:=14) Tryd.ntmps60 (rs:=[.tmp 6]) rfl ?_
 simp only[List.length_cons,List.length_nil,zA,zS,List.replicate,List.cons_append,List.nil_append]
 simp(maxSteps:=999999)(disch:=omega)only[go_sem,zA,zM,zS,zE,zL,List.mapM_cons,List.mapM_nil,capOf,Option.bind_eq_bind,Option.pure_def,Option.bind_some]
 intro g0 g1 g2 g3
 refine⟨rfl, ?_⟩
 have hr:=solutions_run hp hv most hmo [some ⟨g0,1,cP p⟩,some ⟨g1,1,[.f (.int .i64 most)]⟩,some ⟨g2,1,[]⟩,some ⟨g3,1,[CV.own 2 g2 0 0 none]⟩] xs hg hext 3 g3 1 g1 [2] (by simp only[go_sem]) (by omega) (by simp)
  ⟨⟨2,g2,[],by simp only[go_sem],by simp only[go_sem],by simp,rfl,fun i hi=>by simp at hi⟩,by simp⟩ (by simp)
 refine OpS.run hr (⟨_,Tryd.func61,rfl,rfl⟩:Enters Tryd.prog 61) rfl rfl ?_
 rintro _ H2 ⟨rfl,S2,o2⟩
 generalize(if fitsL p xs n=true then(sols p n (n*n) xs).take most else[])=R at o2
 obtain⟨oid,og,k1,k2⟩:=o2.frz
 simp(maxSteps:=999999)(disch:=omega)only[go_sem,zA,zM,zS,zE,zL,k1]
 exact lessQ_ice (by simp only[frzA,frz1,k2,Option.map_some])
end Go.Lg
