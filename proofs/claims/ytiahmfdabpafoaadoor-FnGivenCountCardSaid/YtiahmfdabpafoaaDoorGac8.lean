/- GpEI, cut to what is needed. -/
import Derived.Test.YtiahmfdabpafoaaDoorGac7
open Nat renaming reduceAdd→zA,reduceMul→zM,reduceSub→zS,reduceEqDiff→zE,reduceLeDiff→zL
set_option linter.unusedSimpArgs false
set_option linter.unusedVariables false
set_option maxRecDepth 100000
namespace Go.Lg
open Go.Proofs
def Cap.idt(c:Cap):List Nat:=[c.gp,c.tb,c.ty,c.sz,c.pb]
structure TryT(ft fy:FuncId)(p:Puz)(n:Nat)(c:Cap)(H:Heap):Prop where
 g:look H c.gp c.gpg=some ⟨c.gpg,1,[.own c.gid c.gg 0 (n*n) none]⟩
 t:look H c.tb c.tbg=some ⟨c.tbg,1,[.fn ft [(c.pid,c.pg),(c.mid,c.mg)]]⟩
 y:look H c.ty c.tyg=some ⟨c.tyg,1,[.fn fy [(c.gp,c.gpg),(c.tb,c.tbg),(c.ty,c.tyg),(c.sz,c.szg),(c.pb,c.pbg)]]⟩
 z:look H c.sz c.szg=some ⟨c.szg,1,[.f (.int .i64 n)]⟩
 b:look H c.pb c.pbg=some ⟨c.pbg,1,cP p⟩
theorem TryT.same{ft fy:FuncId}{p:Puz}{n:Nat}{c:Cap}{H H':Heap}(h:TryT ft fy p n c H)(hs:∀k∈c.idt,H'[k]? =H[k]?):TryT ft fy p n c H':=by
 have k:∀i g b,i∈c.idt→look H i g=b→look H' i g=b:=fun i g b hi he=>by unfold look at*;rw[hs i hi];exact he
 exact⟨k _ _ _ (by simp[Cap.idt]) h.g,k _ _ _ (by simp[Cap.idt]) h.t,k _ _ _ (by simp[Cap.idt]) h.y,k _ _ _ (by simp[Cap.idt]) h.z,k _ _ _ (by simp[Cap.idt]) h.b⟩
theorem TryT.lt{ft fy:FuncId}{p:Puz}{n:Nat}{c:Cap}{H:Heap}(h:TryT ft fy p n c H):∀k∈c.idt,k<H.length:=by
 intro k hk
 have hl:∀{i g:Nat} {b:Blk},look H i g=some b→i<H.length:=fun h=>(List.getElem?_eq_some_iff.1 (look_some h).1).1
 simp only[Cap.idt,List.mem_cons,List.not_mem_nil,or_false]at hk
 rcases hk with rfl|rfl|rfl|rfl|rfl
 · exact hl h.g
 · exact hl h.t
 · exact hl h.y
 · exact hl h.z
 · exact hl h.b
def tryTQ(F:List Nat)(O:Heap→List (List Int)→List Nat→Prop)(p:Puz)(n most:Nat)(c:Cap)(m:Nat)(xs:List Int)(ls:List (List Int))(S:List Nat)(H:Heap):KV:=fun v H'=>
 ∃l,l=ls++(sols p n m xs).take (most -ls.length)∧v=bool (decide (l.length<most))∧∃S' ys,O H' l S'∧(∀k∈S',k∈S∨H.length≤k)∧(∀k∈S',k<H'.length)∧H.length≤H'.length∧
  look H' c.gid c.gg=some ⟨c.gg,1,cl (eI .i64) ys⟩∧ys.length=xs.length∧(l.length<most→ys=xs)∧∀k,k<H.length→k∉F→k∉S→k≠c.gid→H'[k]? =H[k]?
theorem tryT_run{p:Puz}{n:Nat}(hp:PuzN p n)(most:Nat)(c:Cap)(ft:FuncId)(hft:Enters Tryd.prog ft)(F:List Nat)(O:Heap→List (List Int)→List Nat→Prop)(hcp:∀k∈c.idt,k∉F∧k≠c.gid)(hgp:c.gid∉F)
 (hO:∀{H H':Heap} {ls:List (List Int)} {S:List Nat},O H ls S→(∀k,k∈F∨k∈S→H'[k]? =H[k]?)→O H' ls S) (hL:∀{H:Heap} {ls:List (List Int)} {S:List Nat},O H ls S→(look H c.pid c.pg).isSome=true∧(look H c.mid c.mg).isSome=true)
 (htell:∀(H:Heap) (xs:List Int) (ls:List (List Int)) (S:List Nat),xs.length=n*n→look H c.gid c.gg=some ⟨c.gg,1,cl (eI .i64) xs⟩→c.gid∉S→ls.length<most→O H ls S→(∀k∈S,k<H.length)→RunCall Tryd.prog ft [.c (.own c.gid c.gg 0 (n*n) none), .c (.ptr c.pid c.pg 0), .c (.ptr c.mid c.mg 0)] H (fun v H'=>v=bool (decide (ls.length+1<most))∧∃S',O H' (ls++[xs]) S'∧(∀k∈S',k∈S∨H.length≤k)∧(∀k∈S',k<H'.length)∧H.length≤H'.length∧∀k,k<H.length→k∉F→k∉S→H'[k]? =H[k]?)):
 ∀(m:Nat) (H:Heap) (xs:List Int) (ls:List (List Int)) (S:List Nat),m≤n*n→GrdN xs n→fitsL p xs n=true→Ext p xs→TryT ft 82 p n c H→(∀k∈c.idt,k∉S)→look H c.gid c.gg=some ⟨c.gg,1,cl (eI .i64) xs⟩→c.gid∉S→ls.length<most→O H ls S→(∀k∈S,k<H.length)→
 RunCall Tryd.prog 82 [int ((n*n -m:Nat):Int), .c (.ptr c.gp c.gpg 0), .c (.ptr c.tb c.tbg 0), .c (.ptr c.ty c.tyg 0), .c (.ptr c.sz c.szg 0), .c (.ptr c.pb c.pbg 0)] H (tryTQ F O p n most c m xs ls S H)
 |0,H,xs,ls,S,hm,hg,hfit,hext,hT,hcS,hgl,hgS,hls,hout,hSl=>by
  have hn:=hp.hn
  have hxl:=hg.len
  have hsq:4≤n*n∧n*n≤16:=by rcases hn with rfl|rfl|rfl<;>omega
  have kg:=hT.g
  have kt:=hT.t
  refine RunCall.cw (c:=_) Tryd.func82 rfl (n:=48) Tryd.ntmps82 (rs:=[.tmp 7]) rfl ?_
  simp only[List.length_cons,List.length_nil,zA,zS,List.replicate,List.cons_append,List.nil_append]
  simp(maxSteps:=999999)(disch:=omega)only[go_sem,zA,zM,zS,zE,zL,kg,kt,hgl]
  ((first|(with_reducible first|refine condK_dec ?_ ?_|refine condK_ndec ?_ ?_|refine condK_nb ?_ ?_)|refine condK_b ?_ ?_)<;>intro c1)
  rotate_left
  · exfalso;omega
  simp(maxSteps:=999999)(disch:=omega)only[go_sem,zA,zM,zS,zE,zL,kg,kt,hgl]
  have hrun:=htell H xs ls S hxl hgl hgS hls hout hSl
  have htg:target H (.c (.fn ft [(c.pid,c.pg),(c.mid,c.mg)]))=some (ft,[.c (.ptr c.pid c.pg 0), .c (.ptr c.mid c.mg 0)]):=
   target_all (caps:=[(c.pid,c.pg),(c.mid,c.mg)]) (by simp[hL hout])
  refine OpS.runFn hrun hft rfl htg rfl ?_
  rintro _ H2 ⟨rfl,S2,o2,t1,t2,t3,t4⟩
  simp(maxSteps:=999999)(disch:=omega)only[go_sem,zA,zM,zS,zE,zL]
  have hs:sols p n 0 xs=[xs]:=rfl
  have ht:(sols p n 0 xs).take (most -ls.length)=[xs]:=by rw[hs,List.take_of_length_le (by simp;omega)]
  refine⟨H2,HLe.refl _,ls++[xs],by rw[ht], ?_,S2,xs,o2,t1,t2,t3, ?_,rfl,fun _=>rfl,fun k h1 h2 h3 _=>t4 k h1 h2 h3⟩
  · rw[List.length_append,List.length_singleton]
  · have hglt:=(List.getElem?_eq_some_iff.1 (look_some hgl).1).1
    unfold look
    rw[t4 c.gid hglt hgp hgS]
    exact hgl
 |m+1,H,xs,ls,S,hm,hg,hfit,hext,hT,hcS,hgl,hgS,hls,hout,hSl=>by
  have hn:=hp.hn
  have hxl:=hg.len
  have hsq:4≤n*n∧n*n≤16:=by rcases hn with rfl|rfl|rfl<;>omega
  have kg:=hT.g
  have ky:=hT.y
  have kz:=hT.z
  have kb:=hT.b
  obtain⟨i,hi⟩:∃i,i=n*n -(m+1):=⟨_,rfl⟩
  have him:n*n -m=i+1:=by omega
  have hil:i<xs.length:=by omega
  have hxi:=hg.val i hil
  have hss:sols p n (m+1) xs=if 0<nth xs i then sols p n m xs else(vals n 1).flatMap fun(v:Nat)=>if fitsL p (xs.set i (v:Int)) n=true then sols p n m (xs.set i (v:Int))else[]:=by
   have e:xs.length -(m+1)=i:=by omega
   conv=>lhs;rw[sols,e]
   rfl
  have hglt:=(List.getElem?_eq_some_iff.1 (look_some hgl).1).1
  rw[←hi]
  have htgt:∀{HI:Heap},TryT ft 82 p n c HI→target HI (.c (.fn 82 [(c.gp,c.gpg),(c.tb,c.tbg),(c.ty,c.tyg),(c.sz,c.szg),(c.pb,c.pbg)]))=some (82,[.c (.ptr c.gp c.gpg 0), .c (.ptr c.tb c.tbg 0), .c (.ptr c.ty c.tyg 0), .c (.ptr c.sz c.szg 0), .c (.ptr c.pb c.pbg 0)]):=fun h=>
   target_all (caps:=[(c.gp,c.gpg),(c.tb,c.tbg),(c.ty,c.tyg),(c.sz,c.szg),(c.pb,c.pbg)]) (by simp[h.g,h.t,h.y,h.z,h.b])
  refine RunCall.cw (c:=_) Tryd.func82 rfl (n:=48) Tryd.ntmps82 (rs:=[.tmp 7]) rfl ?_
  simp only[List.length_cons,List.length_nil,zA,zS,List.replicate,List.cons_append,List.nil_append]
  simp(maxSteps:=999999)(disch:=omega)only[go_sem,zA,zM,zS,zE,zL,kg,hgl]
  ((first|(with_reducible first|refine condK_dec ?_ ?_|refine condK_ndec ?_ ?_|refine condK_nb ?_ ?_)|refine condK_b ?_ ?_)<;>intro c1)
  · exfalso;omega
  simp(maxSteps:=999999)(disch:=omega)only[go_sem,zA,zM,zS,zE,zL,kg,hgl]
  ((first|(with_reducible first|refine condK_dec ?_ ?_|refine condK_ndec ?_ ?_|refine condK_nb ?_ ?_)|refine condK_b ?_ ?_)<;>intro c2)
  · simp(maxSteps:=999999)(disch:=omega)only[go_sem,zA,zM,zS,zE,zL,ky]
    have hrec:=tryT_run hp most c ft hft F O hcp hgp hO hL htell m H xs ls S (by omega) hg hfit hext hT hcS hgl hgS hls hout hSl
    rw[him,show int ((i+1:Nat):Int)=int ((i:Int)+1) by push_cast;rfl]at hrec
    refine OpS.runFn hrec (⟨_,Tryd.func82,rfl,rfl⟩:Enters Tryd.prog 82) rfl (htgt hT) rfl ?_
    rintro _ H2 ⟨l,hl,rfl,hrest⟩
    simp(maxSteps:=999999)(disch:=omega)only[go_sem,zA,zM,zS,zE,zL]
    exact⟨H2,HLe.refl _,l,by rw[hss,if_pos c2];exact hl,rfl,hrest⟩
  · have h0:nth xs i=0:=by omega
    simp(maxSteps:=999999)(disch:=omega)only[go_sem,zA,zM,zS,zE,zL]
    refine loop_rule3 (fun(v:Nat) (HI:Heap) (l:List (List Int))=>n+1 -v) (fun v HI l=>1≤v∧v≤n+1∧goV p n m xs i most (vals n v) l=goV p n m xs i most (vals n 1) ls∧l.length<most∧H.length≤HI.length∧∃S' w,O HI l S'∧(∀k∈S',k∈S∨H.length≤k)∧(∀k∈S',k<HI.length)∧look HI c.gid c.gg=some ⟨c.gg,1,cl (eI .i64) (xs.set i w)⟩∧∀k,k<H.length→k∉F→k∉S→k≠c.gid→HI[k]? =H[k]?)
     (fun v _ _=>[.k, .k, .a, .k, .k, .k, .a, .a, .p (int v), .a, .a, .a, .a, .a, .a, .a, .a, .a, .a, .a, .a, .a, .a, .a, .a, .a, .a, .a, .a, .a, .a, .a, .a, .a, .a, .a, .a, .a, .a, .a, .a, .a, .a, .a, .a, .a, .a, .a]) (fun _ HI _=>HI) 1 H ls ⟨Nat.le_refl _,by omega,rfl,hls,Nat.le_refl _,S,0,hout,fun k hk=> .inl hk,hSl,by rw[set_same h0];exact hgl,fun _ _ _ _ _=>rfl⟩ (by simp(maxSteps:=999999)(disch:=omega)only[go_sem,zA,zM,zS,zE,zL];rfl) (HLe.refl _) ?_
    rintro v HI l ⟨hv1,hv2,hgo,hlm,hlI,S',w,oI,hS1,hS2,gI,hfI⟩
    have hlt:=hT.lt
    have hgoal:sols p n (m+1) xs=(vals n 1).flatMap fun(v:Nat)=>if fitsL p (xs.set i (v:Int)) n=true then sols p n m (xs.set i (v:Int))else[]:=by rw[hss,if_neg c2]
    have hTI:=hT.same (H':=HI) fun k hk=>hfI k (hlt k hk) (hcp k hk).1 (hcS k hk) (hcp k hk).2
    have hcS':∀k∈c.idt,k∉S':=fun k hk h=>by
     rcases hS1 k h with h|h
     · exact hcS k hk h
     · have:=hlt k hk;omega
    have hgS':c.gid∉S':=fun h=>by
     rcases hS1 _ h with h|h
     · exact hgS h
     · omega
    have kgI:=hTI.g
    have kzI:=hTI.z
    simp(maxSteps:=999999)(disch:=omega)only[go_sem,zA,zM,zS,zE,zL,kgI,kzI]
    ((first|(with_reducible first|refine condK_dec ?_ ?_|refine condK_ndec ?_ ?_|refine condK_nb ?_ ?_)|refine condK_b ?_ ?_)<;>intro d1)
    · have hvn:v≤n:=by omega
      have hset:=setV hil w (v:Int)
      simp(maxSteps:=999999)(disch:=omega)only[go_sem,zA,zM,zS,zE,zL,kgI,kzI,gI,hset]
      obtain⟨HN,hHN⟩:∃HN:Heap,HN=HI.set c.gid (some ⟨c.gg,1,cl (eI .i64) (xs.set i v)⟩):=⟨_,rfl⟩
      have hNl:HN.length=HI.length:=by rw[hHN,List.length_set]
      have hNg:∀k,k≠c.gid→HN[k]? =HI[k]? :=fun k hk=>by rw[hHN,List.getElem?_set_ne (Ne.symm hk)]
      have gN:look HN c.gid c.gg=some ⟨c.gg,1,cl (eI .i64) (xs.set i v)⟩:=by rw[hHN];exact look_set_eq' (by omega)
      have hTN:=hTI.same (H':=HN) fun k hk=>hNg k (hcp k hk).2
      have oN:O HN l S':=hO oI fun k hk=>hNg k (by rintro rfl;rcases hk with hk|hk;exact hgp hk;exact hgS' hk)
      rw[←hHN]
      clear hHN
      have hgs:GrdN (xs.set i (v:Int)) n:=⟨by rw[List.length_set];exact hxl,fun k hk=>by
       rw[List.length_set]at hk
       rw[nth_setN _ _ _ _ hil]
       split
       · omega
       · exact hg.val k hk⟩
      have hown:OwnI HN (.own c.gid c.gg 0 (n*n) none) (xs.set i (v:Int)) [c.gid]:=by
       have:=OwnI.o (H:=HN) c.gid c.gg none (xs.set i (v:Int)) [] (by rw[List.append_nil];exact gN)
       rwa [List.length_set,hxl]at this
      have bN:=hTN.b
      have ggN:=hTN.g
      simp(maxSteps:=999999)(disch:=omega)only[go_sem,zA,zM,zS,zE,zL,bN,ggN,gN]
      refine OpS.rdD (cellFits_run hp (xs.set i (v:Int)) hgs i (by omega)) (⟨_,Tryd.func83,rfl,rfl⟩:Enters Tryd.prog 83) rfl rfl (snap_three rfl hown.snap snapD_int) rfl ?_
      have hstep:=fits_step hn (i:=i) (v:=v) hfit hxl hg.nn (by omega) hv1 h0 (hext i h0) hp.cells0
      rw[←hstep]
      have yN:=hTN.y
      simp(maxSteps:=999999)(disch:=omega)only[go_sem,zA,zM,zS,zE,zL,yN]
      ((with_reducible first|refine guardK_dec ?_ ?_|refine guardK_ndec ?_ ?_|refine guardK_nb ?_ ?_|refine guardK_split ?_ ?_|refine guardQ_dec ?_ ?_|refine guardL_dec ?_ ?_|refine guardQ_ndec ?_ ?_|refine guardL_ndec ?_ ?_|refine guardQ_nb ?_ ?_|refine guardL_nb ?_ ?_|refine guardQ_split ?_ ?_|refine guardL_split ?_ ?_)<;>intro c3<;>simp(maxSteps:=999999)(disch:=omega)only[go_sem,zA,zM,zS,zE,zL,c3])
      · simp(maxSteps:=999999)(disch:=omega)only[go_sem,zA,zM,zS,zE,zL,yN]
        have hexts:Ext p (xs.set i (v:Int)):=fun k hk=>by
         rw[nth_setN _ _ _ _ hil]at hk
         split at hk
         · omega
         · exact hext k hk
        have hrec:=tryT_run hp most c ft hft F O hcp hgp hO hL htell m HN (xs.set i (v:Int)) l S' (by omega) hgs c3 hexts hTN hcS' gN hgS' hlm oN (fun k hk=>by have:=hS2 k hk;omega)
        rw[him,show int ((i+1:Nat):Int)=int ((i:Int)+1) by push_cast;rfl]at hrec
        refine OpS.runFn hrec (⟨_,Tryd.func82,rfl,rfl⟩:Enters Tryd.prog 82) rfl (htgt hTN) rfl ?_
        rintro _ H2 ⟨l2,hl2,rfl,S2,ys,o2,t1,t2,t3,t4,t5,t6,t7⟩
        have hgo2:goV p n m xs i most (vals n (v+1)) l2=goV p n m xs i most (vals n 1) ls:=by
         rw[←hgo,vals_cons ⟨hv1,hvn⟩]
         conv=>rhs;unfold goV
         rw[if_pos hlm,if_pos c3,hl2]
        have hS2':∀k∈S2,k∈S∨H.length≤k:=fun k hk=>by
         rcases t1 k hk with h|h
         · exact hS1 k h
         · exact .inr (by omega)
        have hf2:∀k,k<H.length→k∉F→k∉S→k≠c.gid→H2[k]? =H[k]? :=fun k h1 h2 h3 h4=>by
         have hkS':k∉S':=fun h=>by
          rcases hS1 k h with h|h
          · exact h3 h
          · omega
         rw[t7 k (by omega) h2 hkS' h4,hNg k h4,hfI k h1 h2 h3 h4]
        simp(maxSteps:=999999)(disch:=omega)only[go_sem,zA,zM,zS,zE,zL]
        ((first|(with_reducible first|refine condK_dec ?_ ?_|refine condK_ndec ?_ ?_|refine condK_nb ?_ ?_)|refine condK_b ?_ ?_)<;>intro d2)
        · simp(maxSteps:=999999)(disch:=omega)only[go_sem,zA,zM,zS,zE,zL]
          refine⟨v+1,H2,l2,⟨⟨by omega,by omega,hgo2,d2,by omega,S2,(v:Int),o2,hS2',t2, ?_,hf2⟩,by omega⟩,by push_cast;omega,HLe.refl _⟩
          rw[t4,t6 d2]
        · simp(maxSteps:=999999)(disch:=omega)only[go_sem,zA,zM,zS,zE,zL]
          have hend:goV p n m xs i most (vals n 1) ls=l2:=by rw[←hgo2];exact goV_full d2
          rw[goV_eq _ _ _ _ _ _ _ _ (by omega),←hgoal]at hend
          exact⟨H2,HLe.refl _,l2,hend.symm,by rw[decide_eq_false d2],S2,ys,o2,hS2',t2,by omega,t4,by rw[t5,List.length_set],fun h=>absurd h d2,hf2⟩
      · refine⟨v+1,HN,l,⟨⟨by omega,by omega, ?_,hlm,by omega,S',(v:Int),oN,hS1,fun k hk=>by have:=hS2 k hk;omega,gN,fun k h1 h2 h3 h4=>by rw[hNg k h4];exact hfI k h1 h2 h3 h4⟩,by omega⟩,by push_cast;omega,HLe.refl _⟩
        rw[←hgo,vals_cons ⟨hv1,hvn⟩]
        conv=>rhs;unfold goV
        rw[if_pos hlm,if_neg (by rw[c3];simp)]
    · have hve:v=n+1:=by omega
      have hset:=setV hil w 0
      simp(maxSteps:=999999)(disch:=omega)only[go_sem,zA,zM,zS,zE,zL,kgI,gI,hset]
      have hend:goV p n m xs i most (vals n 1) ls=l:=by rw[←hgo,hve,vals_nil];rfl
      rw[goV_eq _ _ _ _ _ _ _ _ (by omega),←hgoal]at hend
      obtain⟨HN,hHN⟩:∃HN:Heap,HN=HI.set c.gid (some ⟨c.gg,1,cl (eI .i64) (xs.set i 0)⟩):=⟨_,rfl⟩
      have hNl:HN.length=HI.length:=by rw[hHN,List.length_set]
      have hNg:∀k,k≠c.gid→HN[k]? =HI[k]? :=fun k hk=>by rw[hHN,List.getElem?_set_ne (Ne.symm hk)]
      have gN:look HN c.gid c.gg=some ⟨c.gg,1,cl (eI .i64) xs⟩:=by rw[hHN,set_same h0];exact look_set_eq' (by omega)
      have oN:O HN l S':=hO oI fun k hk=>hNg k (by rintro rfl;rcases hk with hk|hk;exact hgp hk;exact hgS' hk)
      rw[←hHN]
      exact⟨HN,HLe.refl _,l,hend.symm,by rw[decide_eq_true hlm],S',xs,oN,hS1,fun k hk=>by rw[hNl];exact hS2 k hk,by omega,gN,rfl,fun _=>rfl,fun k h1 h2 h3 h4=>by rw[hNg k h4];exact hfI k h1 h2 h3 h4⟩
attribute [-go_sem] appendM lwF_cons
theorem solutionsT_run{p:Puz}{n:Nat}(hp:PuzN p n)(hv:puzzleValid p=true)(most:Nat)(hmo:1≤most)(H:Heap)(xs:List Int)(hg:GrdN xs n)(hext:Ext p xs)(ft:FuncId)(hft:Enters Tryd.prog ft)(pid pg mid mg:Nat)(F:List Nat)(O:Heap→List (List Int)→List Nat→Prop)(S:List Nat)(hF:∀k∈F,k<H.length)
 (hO:∀{H H':Heap} {ls:List (List Int)} {S:List Nat},O H ls S→(∀k,k∈F∨k∈S→H'[k]? =H[k]?)→O H' ls S) (hL:∀{H:Heap} {ls:List (List Int)} {S:List Nat},O H ls S→(look H pid pg).isSome=true∧(look H mid mg).isSome=true)
 (htell:∀(gid gg:Nat),gid∉F→∀(H:Heap) (xs:List Int) (ls:List (List Int)) (S:List Nat),xs.length=n*n→look H gid gg=some ⟨gg,1,cl (eI .i64) xs⟩→gid∉S→ls.length<most→O H ls S→(∀k∈S,k<H.length)→RunCall Tryd.prog ft [.c (.own gid gg 0 (n*n) none), .c (.ptr pid pg 0), .c (.ptr mid mg 0)] H (fun v H'=>v=bool (decide (ls.length+1<most))∧∃S',O H' (ls++[xs]) S'∧(∀k∈S',k∈S∨H.length≤k)∧(∀k∈S',k<H'.length)∧H.length≤H'.length∧∀k,k<H.length→k∉F→k∉S→H'[k]? =H[k]?)) (hout:O H [] S) (hSl:∀k∈S,k<H.length):
 RunCall Tryd.prog 61 [aP p,ints xs, .c (.fn ft [(pid,pg),(mid,mg)])] H (fun v H'=>v= .tup []∧∃S',O H' (if fitsL p xs n=true then(sols p n (n*n) xs).take most else[]) S'):=by
 have hn:=hp.hn
 have hz:=hp.size
 have hxl:=hg.len
 have hsq:4≤n*n∧n*n≤16:=by rcases hn with rfl|rfl|rfl<;>omega
 refine RunCall.cw (c:=_) Tryd.func61 rfl (n:=20) Tryd.ntmps61 (rs:=[]) rfl ?_
 simp only[List.length_cons,List.length_nil,zA,zS,List.replicate,List.cons_append,List.nil_append]
 simp(maxSteps:=999999)(disch:=omega)only[go_sem,zA,zM,zS,zE,zL]
 intro g0 g1
 refine OpS.mkDQ (Clone_q0 xs (by omega) (fun h=>by rw[h]at hxl;simp at hxl;omega)) (⟨_,Tryd.func63,rfl,rfl⟩:Enters Tryd.prog 63) rfl rfl rfl ?_
 intro g2
 obtain⟨HA,hHA⟩:∃HA:Heap,HA=H++[some ⟨g0,1,cP p⟩]++[some ⟨g1,1,[CV.fn ft [(pid,pg),(mid,mg)]]⟩]++[some ⟨g2,1,cl (eI .i64) xs⟩]:=⟨_,rfl⟩
 have hAl:HA.length=H.length+3:=by rw[hHA];simp
 have hAg:∀k,k<H.length→HA[k]? =H[k]? :=fun k hk=>by rw[hHA,List.append_assoc,List.append_assoc,List.getElem?_append_left hk]
 have a0:look HA H.length g0=some ⟨g0,1,cP p⟩:=by rw[hHA];exact look_appL (look_appL look_last)
 have a1:look HA (H.length+1) g1=some ⟨g1,1,[CV.fn ft [(pid,pg),(mid,mg)]]⟩:=by
  rw[hHA]
  refine look_appL ?_
  have:=look_last (H:=H++[some ⟨g0,1,cP p⟩]) (g:=g1) (sz:=1) (cs:=[CV.fn ft [(pid,pg),(mid,mg)]])
  rwa [List.length_append,List.length_singleton]at this
 have a2:look HA (H.length+1+1) g2=some ⟨g2,1,cl (eI .i64) xs⟩:=by
  rw[hHA]
  have:=look_last (H:=H++[some ⟨g0,1,cP p⟩]++[some ⟨g1,1,[CV.fn ft [(pid,pg),(mid,mg)]]⟩]) (g:=g2) (sz:=1) (cs:=cl (eI .i64) xs)
  rwa [List.length_append,List.length_append,List.length_singleton,List.length_singleton]at this
 show vwK _ _ _ _ _ _ (.c (.own (H++[some ⟨g0,1,cP p⟩]++[some ⟨g1,1,[CV.fn ft [(pid,pg),(mid,mg)]]⟩]:Heap).length g2 0 xs.length none)) (H++[some ⟨g0,1,cP p⟩]++[some ⟨g1,1,[CV.fn ft [(pid,pg),(mid,mg)]]⟩]++[some ⟨g2,1,cl (eI .i64) xs⟩]:Heap)
 rw[←hHA]
 clear hHA
 simp(maxSteps:=999999)(disch:=omega)only[go_sem,zA,zM,zS,zE,zL,look_last,set_last]
 intro g3
 obtain⟨HB,hHB⟩:∃HB:Heap,HB=HA++[some ⟨g3,1,[CV.own (H.length+1+1) g2 0 xs.length none]⟩]:=⟨_,rfl⟩
 have hBl:HB.length=HA.length+1:=by rw[hHB];simp
 have b0:look HB H.length g0=some ⟨g0,1,cP p⟩:=by rw[hHB];exact look_appL a0
 have b1:look HB (H.length+1) g1=some ⟨g1,1,[CV.fn ft [(pid,pg),(mid,mg)]]⟩:=by rw[hHB];exact look_appL a1
 have b2:look HB (H.length+1+1) g2=some ⟨g2,1,cl (eI .i64) xs⟩:=by rw[hHB];exact look_appL a2
 have b3:look HB HA.length g3=some ⟨g3,1,[CV.own (H.length+1+1) g2 0 xs.length none]⟩:=by rw[hHB];exact look_last
 have hBg:∀k,k<H.length→HB[k]? =H[k]? :=fun k hk=>by rw[hHB,List.getElem?_append_left (by omega)];exact hAg k hk
 rw[←hHB]
 clear hHB
 have hown:OwnI HB (.own (H.length+1+1) g2 0 xs.length none) xs [H.length+1+1]:=OwnI.o (H:=HB) (H.length+1+1) g2 none xs [] (by rw[List.append_nil];exact b2)
 simp(maxSteps:=999999)(disch:=omega)only[go_sem,zA,zM,zS,zE,zL,b0,b3]
 refine OpS.rdD (PuzzleFits_run hp hv xs hg) (⟨_,Tryd.func81,rfl,rfl⟩:Enters Tryd.prog 81) rfl rfl (snap_two rfl hown.snap) rfl ?_
 simp(maxSteps:=999999)(disch:=omega)only[go_sem,zA,zM,zS,zE,zL]
 ((first|(with_reducible first|refine condK_dec ?_ ?_|refine condK_ndec ?_ ?_|refine condK_nb ?_ ?_)|refine condK_b ?_ ?_)<;>intro c1)
 rotate_left
 · simp(maxSteps:=999999)(disch:=omega)only[go_sem,zA,zM,zS,zE,zL]
   exact⟨HB,HLe.refl _,rfl,S,by rw[if_neg (by rw[c1];simp)];exact hO hout fun k hk=>hBg k (by rcases hk with hk|hk;exact hF k hk;exact hSl k hk)⟩
 simp(maxSteps:=999999)(disch:=omega)only[go_sem,zA,zM,zS,zE,zL,b0,look_last,set_last]
 rw[hz]
 intro g4
 obtain⟨HC,hHC⟩:∃HC:Heap,HC=HB++[some ⟨g4,1,[CV.f (FV.int .i64 n)]⟩]:=⟨_,rfl⟩
 have hCl:HC.length=HB.length+1:=by rw[hHC];simp
 have lC:∀g sz cs,look (HC++[some ⟨g,sz,cs⟩]) (HB.length+1) g=some ⟨g,sz,cs⟩:=fun g sz cs=>by rw[←hCl];exact look_last
 have sC:∀x y,(HC++[x]).set (HB.length+1) y=HC++[y]:=fun x y=>by rw[←hCl];exact set_last
 have hC0:∀{k g:Nat} {b:Blk},look HB k g=some b→look HC k g=some b:=fun h=>by rw[hHC];exact look_appL h
 have c4:look HC HB.length g4=some ⟨g4,1,[CV.f (FV.int .i64 n)]⟩:=by rw[hHC];exact look_last
 have hCg:∀k,k<H.length→HC[k]? =H[k]? :=fun k hk=>by rw[hHC,List.getElem?_append_left (by omega)];exact hBg k hk
 rw[←hHC]
 clear hHC
 intro g5
 simp(maxSteps:=999999)(disch:=omega)only[go_sem,zA,zM,zS,zE,zL,lC,sC,List.mapM_cons,List.mapM_nil,capOf,Option.bind_eq_bind,Option.pure_def,Option.bind_some]
 refine⟨rfl, ?_⟩
 obtain⟨HD,hHD⟩:∃HD:Heap,HD=HC++[some ⟨g5,1,[CV.fn 82 [(HA.length,g3),(H.length+1,g1),(HB.length+1,g5),(HB.length,g4),(H.length,g0)]]⟩]:=⟨_,rfl⟩
 have d5:look HD (HB.length+1) g5=some ⟨g5,1,[CV.fn 82 [(HA.length,g3),(H.length+1,g1),(HB.length+1,g5),(HB.length,g4),(H.length,g0)]]⟩:=by rw[hHD];exact lC _ _ _
 have hD0:∀{k g:Nat} {b:Blk},look HC k g=some b→look HD k g=some b:=fun h=>by rw[hHD];exact look_appL h
 have hDg:∀k,k<H.length→HD[k]? =H[k]? :=fun k hk=>by rw[hHD,List.getElem?_append_left (by omega)];exact hCg k hk
 have hDl:HD.length=HC.length+1:=by rw[hHD];simp
 rw[←hHD]
 clear hHD
 have hT:TryT ft 82 p n ⟨HA.length,g3,H.length+1,g1,HB.length+1,g5,HB.length,g4,H.length,g0,mid,mg,pid,pg,H.length+1+1,g2⟩ HD:=
  ⟨by have:=hD0 (hC0 b3);rw[hxl]at this;exact this,hD0 (hC0 b1),d5,hD0 c4,hD0 (hC0 b0)⟩
 have hrun:=tryT_run hp most ⟨HA.length,g3,H.length+1,g1,HB.length+1,g5,HB.length,g4,H.length,g0,mid,mg,pid,pg,H.length+1+1,g2⟩ ft hft F O (by
  intro k hk
  simp only[Cap.idt,List.mem_cons,List.not_mem_nil,or_false]at hk⊢
  have h0:H.length≤k∧k≠H.length+1+1:=by rcases hk with rfl|rfl|rfl|rfl|rfl<;>omega
  exact⟨fun h=>by have:=hF k h;omega,h0.2⟩) (fun h=>by have:=hF _ h;simp only at this;omega) hO hL (htell _ _ (fun h=>by have:=hF _ h;simp only at this;omega)) (n*n) HD xs [] S (Nat.le_refl _) hg c1 hext hT (by
  intro k hk hS
  have:=hSl k hS
  simp only[Cap.idt,List.mem_cons,List.not_mem_nil,or_false]at hk
  rcases hk with rfl|rfl|rfl|rfl|rfl<;>omega) (hD0 (hC0 b2)) (fun h=>by have:=hSl _ h;simp only at this;omega) (by simp;omega) (hO hout fun k hk=>hDg k (by rcases hk with hk|hk;exact hF k hk;exact hSl k hk)) (fun k hk=>by have:=hSl k hk;omega)
 rw[Nat.sub_self]at hrun
 refine OpS.runFn hrun (⟨_,Tryd.func82,rfl,rfl⟩:Enters Tryd.prog 82) rfl (target_all (caps:=[(HA.length,g3),(H.length+1,g1),(HB.length+1,g5),(HB.length,g4),(H.length,g0)]) (by simp[hT.g,hT.t,hT.y,hT.z,hT.b])) rfl ?_
 rintro _ H2 ⟨l,hl,rfl,S2,ys,o2,_⟩
 simp(maxSteps:=999999)(disch:=omega)only[go_sem,zA,zM,zS,zE,zL]
 rw[List.nil_append,List.length_nil,Nat.sub_zero]at hl
 exact⟨H2,HLe.refl _,rfl,S2,by rw[if_pos c1,←hl];exact o2⟩
end Go.Lg
