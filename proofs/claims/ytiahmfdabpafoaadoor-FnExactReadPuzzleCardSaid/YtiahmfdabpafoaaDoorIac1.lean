/- GpM, GpVR, cut to what is needed. -/
import Derived.Test.YtiahmfdabpafoaaDoorIac0
import Derived.Test.YtiahmfdabpafoaaDoorIab3
import Derived.Test.YtiahmfdabpafoaaDoorIab5
open Nat renaming reduceAdd→zA,reduceMul→zM,reduceSub→zS,reduceEqDiff→zE,reduceLeDiff→zL
set_option linter.unusedSimpArgs false
set_option linter.unusedVariables false
set_option maxRecDepth 100000
namespace Go.Lg
open Go.Proofs
def mrk(k:Int):List Rul→List Rul
 |[]=>[]
 |r::rs=>⟨k,marks (k+1) r.cells.length,k+1+r.cells.length⟩::mrk (k+2+r.cells.length) rs
def wM(rs:List Rul):Nat:=(rs.map fun r=>2+r.cells.length).sum
theorem mrk_length(k:Int)(rs:List Rul):(mrk k rs).length=rs.length:=by
 induction rs generalizing k with
 |nil=>rfl
 |cons r rs ih=>simp[mrk,ih]
theorem wM_app(a b:List Rul):wM (a++b)=wM a+wM b:=by simp[wM]
theorem wM_one(r:Rul):wM [r]=2+r.cells.length:=by simp[wM]
theorem mrk_app(k:Int)(a b:List Rul):mrk k (a++b)=mrk k a++mrk (k+wM a) b:=by
 induction a generalizing k with
 |nil=>simp[mrk,wM]
 |cons r a ih=>
  simp only[List.cons_append,mrk,ih,wM,List.map_cons,List.sum_cons]
  congr 3
  push_cast
  omega
theorem wM_take_le(rs:List Rul)(i:Nat):wM (rs.take i)≤wM rs:=by
 conv=>rhs;rw[←List.take_append_drop i rs,wM_app]
 omega
theorem mrk_nth{k:Int}{rs:List Rul}{i:Nat}(h:i<rs.length):nth (mrk k rs) i=⟨k+wM (rs.take i),marks (k+wM (rs.take i)+1) (nth rs i).cells.length,k+wM (rs.take i)+1+(nth rs i).cells.length⟩:=by
 have e:rs=rs.take i++(nth rs i::rs.drop (i+1)):=by
  rw[nth_eq (by omega)]
  simp
 have e2:mrk k rs=mrk k (rs.take i)++mrk (k+wM (rs.take i)) (nth rs i::rs.drop (i+1)):=by
  conv=>lhs;rw[e]
  exact mrk_app _ _ _
 rw[e2,nth_eq (by simp[mrk_length];omega)]
 simp only[Int.toNat_natCast]
 rw[List.getElem_append_right (by rw[mrk_length];simp;omega)]
 simp[mrk,mrk_length,Nat.min_eq_left (Nat.le_of_lt h)]
theorem setRange_app{A ys m:List CV}{o:Nat}(h:o+m.length≤A.length):setRange (A++ys) o m=setRange A o m++ys:=by
 simp only[setRange]
 rw[List.take_append_of_le_length (by omega),List.drop_append_of_le_length (by omega)]
 simp
theorem ldP_kR{g:Nat}{l:List RO}{ys:List CV}{i:Nat}(h:i<l.length):ldP (some ⟨g,3,kl kR l++ys⟩) (0+((i:Int)).toNat*3+1)=some (.c l[i].c):=by
 have hl:=kl_length (E:=kR) l
 have hle:(i+1)*3≤l.length*3:=Nat.mul_le_mul_right _ h
 rw[ldP_some]
 simp only[Int.toNat_natCast,Nat.zero_add]
 rw[List.getElem?_append_left (by omega),kl_getAt h (by omega)]
 rfl
def RO.setK(o:RO)(k:Int):RO:={o with r:={o.r with kind:=k}}
def RO.setV(o:RO)(k:Int):RO:={o with r:={o.r with val:=k}}
def RO.setC(o:RO)(xs:List Int):RO:={o with r:={o.r with cells:=xs}}
theorem set_kind{l:List RO}{ys:List CV}{i:Nat}{k:Int}(h:i<l.length):setRange (kl kR l++ys) (0+((i:Int)).toNat*3+0) [.f (.int .i64 k)]=kl kR (l.set i (l[i].setK k))++ys:=by
 have hl:=kl_length (E:=kR) l
 have hle:(i+1)*3≤l.length*3:=Nat.mul_le_mul_right _ h
 simp only[Int.toNat_natCast]
 rw[setRange_app (by simp;omega),setRange_klj (v:=l[i].setK k) h (by omega) rfl]
theorem set_val{l:List RO}{ys:List CV}{i:Nat}{k:Int}(h:i<l.length):setRange (kl kR l++ys) (0+((i:Int)).toNat*3+2) [.f (.int .i64 k)]=kl kR (l.set i (l[i].setV k))++ys:=by
 have hl:=kl_length (E:=kR) l
 have hle:(i+1)*3≤l.length*3:=Nat.mul_le_mul_right _ h
 simp only[Int.toNat_natCast]
 rw[setRange_app (by simp;omega),setRange_klj (v:=l[i].setV k) h (by omega) rfl]
theorem kl_setC{l:List RO}{i:Nat}{xs:List Int}(h:i<l.length):kl kR (l.set i (l[i].setC xs))=kl kR l:=by
 have e:kl kR (l.set i (l[i].setC xs))=kl kR (l.set i l[i]):=by
  rw[List.set_eq_take_append_cons_drop,if_pos h,List.set_eq_take_append_cons_drop,if_pos h]
  rw[kl_append,kl_append]
  rfl
 rw[e,List.set_getElem_self]
theorem flat_disj{l:List RO}(hn:(l.flatMap (·.i)).Nodup){i j:Nat}(hi:i<l.length)(hj:j<l.length)(hij:i<j){x:Nat}(h1:x∈l[i].i)(h2:x∈l[j].i):False:=by
 rw[←List.take_append_drop j l,List.flatMap_append,List.nodup_append]at hn
 refine hn.2.2 x (List.mem_flatMap.2 ⟨l[i], ?_,h1⟩) x (List.mem_flatMap.2 ⟨l[j], ?_,h2⟩) rfl
 · rw[List.mem_take_iff_getElem]
   exact⟨i,by omega,rfl⟩
 · exact List.mem_iff_getElem.2 ⟨0,by simp;omega,by simp⟩
def mrkP(k:Int)(p:Puz):Puz:=⟨p.size,marks k p.given.length,mrk (k+p.given.length) p.rules⟩
def wMP(p:Puz):Nat:=p.given.length+wM p.rules
theorem markRuleNil_run(k:Int):Reads Tryd.prog 42 [rsl eR [],int k] (int k):=by
 refine RunCall.cw (c:=_) Tryd.func42 rfl (n:=34) Tryd.ntmps42 (rs:=[.tmp 4]) rfl ?_
 simp only[List.length_cons,List.length_nil,zA,zS,List.replicate,List.cons_append,List.nil_append]
 simp(maxSteps:=999999)(disch:=omega)only[go_sem,zA,zM,zS,zE,zL]
 refine loop_rule (fun _:Unit=>0) (fun _=>True) (fun _=>[.k, .p (int k), .a, .a, .a, .p (int 0), .a, .a, .a, .a, .a, .a, .a, .a, .a, .a, .a, .a, .a, .a, .a, .a, .a, .a, .a, .a, .a, .a, .a, .a, .a, .a, .a, .a]) (fun _=>[]) () trivial (by simp(maxSteps:=999999)(disch:=omega)only[go_sem,zA,zM,zS,zE,zL]) (hle_nil _) ?_
 intro _ _
 simp(maxSteps:=999999)(disch:=omega)only[go_sem,zA,zM,zS,zE,zL]
 simp only[show decide ((0:Int)<((0:Nat):Int))=false from rfl]
 simp(maxSteps:=999999)(disch:=omega)only[go_sem,zA,zM,zS,zE,zL]
theorem markRuleS_deep(H:Heap)(c:CV)(rs:List Rul)(S:List Nat)(k:Int)(h:OwnR H c rs S)(hk:0≤k∧k+wM rs≤2^50)(hx:smRs rs):
 RunCall Tryd.prog 42 [.c c,int k] H (fun r H'=>r=int (k+wM rs)∧OwnR H' c (mrk k rs) S∧Frm H H' S):=by
 cases h with
 |e=>
  refine(RunCall.frame rfl (markRuleNil_run k) fun r H' h=>by rw[h];rfl).weaker ?_
  rintro r H2 ⟨r',H',rfl,rfl,rfl⟩
  refine⟨H,HLe.app _ _, ?_, .e,Frm.refl _ _⟩
  simp[shiftA,shift1,shiftC,wM]
 |o id g lim l ys hlook ho hnd hy=>
  obtain⟨hn,hcl⟩:=hx
  simp only[List.length_map]at hn
  refine RunCall.cw (c:=_) Tryd.func42 rfl (n:=34) Tryd.ntmps42 (rs:=[.tmp 4]) rfl ?_
  simp only[List.length_cons,List.length_nil,zA,zS,List.replicate,List.cons_append,List.nil_append]
  simp(maxSteps:=999999)(disch:=omega)only[go_sem,zA,zM,zS,zE,zL]
  refine loop_rule3 (fun(i:Nat) (b:Heap×List RO) (kk:Int)=>l.length -i)
   (fun i b kk=>i≤l.length∧kk=k+wM ((l.map (·.r)).take i)∧Frm H b.1 (id::l.flatMap (·.i))∧look b.1 id g=some ⟨g,3,kl kR b.2++ys⟩∧b.2.length=l.length∧(∀j (h1:j<b.2.length) (h2:j<l.length),b.2[j].c=l[j].c∧b.2[j].i=l[j].i∧OwnI b.1 b.2[j].c b.2[j].r.cells b.2[j].i)∧
     (b.2.take i).map (·.r)=mrk k ((l.map (·.r)).take i)∧(b.2.drop i).map (·.r)=(l.map (·.r)).drop i)
   (fun i b kk=>[.k, .p (int kk), .a, .a, .a, .p (int i), .a, .a, .a, .a, .a, .a, .a, .a, .a, .a, .a, .a, .a, .a, .a, .a, .a, .a, .a, .a, .a, .a, .a, .a, .a, .a, .a, .a]) (fun _ b _=>b.1) 0 (H,l) k
   ⟨Nat.zero_le _,by simp[wM],Frm.refl _ _,hlook,rfl,fun j h1 h2=>⟨rfl,rfl,ho _ (List.getElem_mem h1)⟩,rfl,rfl⟩ (by simp(maxSteps:=999999)(disch:=omega)only[go_sem,zA,zM,zS,zE,zL];rfl) (HLe.refl _) ?_
  rintro i ⟨H1,l1⟩ kk ⟨hi,hkk,hf,hl1,hlen,hall,hm1,hm2⟩
  simp only at hf hl1 hlen hall hm1 hm2⊢
  have hle:=wM_take_le (l.map (·.r)) i
  have hidlt:id<H1.length:=(List.getElem?_eq_some_iff.1 (look_some hl1).1).1
  simp(maxSteps:=999999)(disch:=omega)only[go_sem,zA,zM,zS,zE,zL,hl1]
  ((first|(with_reducible first|refine condK_dec ?_ ?_|refine condK_ndec ?_ ?_|refine condK_nb ?_ ?_)|refine condK_b ?_ ?_)<;>intro h)
  · have h:i<l.length:=by omega
    have h':i<l1.length:=by omega
    have hkl:=kl_length (E:=kR) l1
    have hmul:(i+1)*3≤l1.length*3:=Nat.mul_le_mul_right _ h'
    obtain⟨q1,q2,q3⟩:=hall i h' h
    have hr:l1[i].r=l[i].r:=by
     have:=congrArg (fun q=>q[0]?) hm2
     simp only[List.getElem?_map,List.getElem?_drop,Nat.add_zero,List.getElem?_eq_getElem h',List.getElem?_eq_getElem h,Option.map_some,Option.some.injEq]at this
     exact this
    have hc40:l1[i].r.cells.length≤2^40:=by rw[hr];exact hcl _ (List.mem_map.2 ⟨l[i],List.getElem_mem h,rfl⟩)
    have htk:(l.map (·.r)).take (i+1)=(l.map (·.r)).take i++[l[i].r]:=by rw[List.take_succ_eq_append_getElem (by simpa using h)];simp
    have hw1:wM ((l.map (·.r)).take (i+1))=wM ((l.map (·.r)).take i)+(2+l1[i].r.cells.length):=by rw[htk,wM_app,wM_one,hr]
    have hle2:=wM_take_le (l.map (·.r)) (i+1)
    have hs:∀cs:List CV,look (H1.set id (some ⟨g,3,cs⟩)) id g=some ⟨g,3,cs⟩:=fun cs=>look_of (b:=⟨g,3,cs⟩) (by rw[List.getElem?_set_self hidlt])
    have e1:=set_kind (ys:=ys) (k:=kk) h'
    have hgi:(l1.set i (l1[i].setK kk))[i]'(by simp;exact h')=l1[i].setK kk:=by simp
    have e2:=ldP_kR (g:=g) (ys:=ys) (l:=l1.set i (l1[i].setK kk)) (i:=i) (by simpa using h')
    rw[hgi]at e2
    simp(maxSteps:=999999)(disch:=omega)only[go_sem,zA,zM,zS,zE,zL,hl1,e1,hs,e2,List.length_append]
    let H2:Heap:=H1.set id (some ⟨g,3,kl kR (l1.set i (l1[i].setK kk))++ys⟩)
    have hq3:OwnI H2 l1[i].c l1[i].r.cells l1[i].i:=q3.frm (Frm.set _ _ _) fun x hx=>by
     simp
     rintro rfl
     rw[q2]at hx
     exact(List.nodup_cons.1 hnd).1 (List.mem_flatMap.2 ⟨l[i],List.getElem_mem h,hx⟩)
    refine OpS.run (markIntS_deep H2 l1[i].c l1[i].r.cells l1[i].i (kk+1) hq3 (by omega) hc40) (⟨_,Tryd.func35,rfl,rfl⟩:Enters Tryd.prog 35) rfl rfl ?_
    rintro _ H3 ⟨rfl,hq4,hf3⟩
    have hid3:id∉l1[i].i:=by rw[q2];exact fun hx=>(List.nodup_cons.1 hnd).1 (List.mem_flatMap.2 ⟨l[i],List.getElem_mem h,hx⟩)
    have hl3:look H3 id g=some ⟨g,3,kl kR (l1.set i (l1[i].setK kk))++ys⟩:=by rw[hf3.look hid3];exact hs _
    have hid3lt:id<H3.length:=(List.getElem?_eq_some_iff.1 (look_some hl3).1).1
    have hlen3:i<(l1.set i (l1[i].setK kk)).length:=by simpa using h'
    have hkl3:=kl_length (E:=kR) (l1.set i (l1[i].setK kk))
    simp only[List.length_set]at hkl3
    have e3:=set_val (ys:=ys) (k:=kk+1+l1[i].r.cells.length) hlen3
    rw[hgi]at e3
    simp(maxSteps:=999999)(disch:=omega)only[go_sem,zA,zM,zS,zE,zL,hl3,e3,List.length_append]
    have e4:kl kR ((l1.set i (l1[i].setK kk)).set i ((l1[i].setK kk).setV (kk+1+l1[i].r.cells.length)))=kl kR (l1.set i ⟨⟨kk,marks (kk+1) l1[i].r.cells.length,kk+1+l1[i].r.cells.length⟩,l1[i].c,l1[i].i⟩):=by
     rw[List.set_set]
     have:=kl_setC (l:=l1.set i ((l1[i].setK kk).setV (kk+1+l1[i].r.cells.length))) (i:=i) (xs:=marks (kk+1) l1[i].r.cells.length) (by simpa using h')
     rw[List.set_set]at this
     rw[←this]
     simp only[List.getElem_set_self]
     rfl
    rw[e4]
    refine⟨i+1,(_,l1.set i ⟨⟨kk,marks (kk+1) l1[i].r.cells.length,kk+1+l1[i].r.cells.length⟩,l1[i].c,l1[i].i⟩),kk+1+l1[i].r.cells.length+1,⟨⟨h, ?_, ?_, ?_,by simp[hlen],fun j h1 h2=> ?_, ?_, ?_⟩,by omega⟩,⟨by omega,by omega⟩,HLe.refl _⟩
    · rw[hw1];push_cast;omega
    · refine(hf.trans ((Frm.set H1 id _).mono (by simp))).trans ((hf3.mono fun x hx=> ?_).trans ((Frm.set H3 id _).mono (by simp)))
      rw[q2]at hx
      exact List.mem_cons_of_mem _ (List.mem_flatMap.2 ⟨l[i],List.getElem_mem h,hx⟩)
    · exact look_of (b:=⟨g,3,kl kR (l1.set i ⟨⟨kk,marks (kk+1) l1[i].r.cells.length,kk+1+l1[i].r.cells.length⟩,l1[i].c,l1[i].i⟩)++ys⟩) (by simp only[List.getElem?_set_self hid3lt])
    · simp only[List.length_set]at h1
      obtain⟨p1,p2,p3⟩:=hall j h1 h2
      have hidj:id∉l[j].i:=fun hx=>(List.nodup_cons.1 hnd).1 (List.mem_flatMap.2 ⟨l[j],List.getElem_mem h2,hx⟩)
      by_cases hij:i=j
      · subst hij
        simp only[List.getElem_set_self]
        refine⟨q1,q2,hq4.frm (Frm.set _ _ _) fun x hx=> ?_⟩
        simp
        rintro rfl
        exact hid3 hx
      · simp only[List.getElem_set_ne hij]
        refine⟨p1,p2,((p3.frm (Frm.set _ _ _) fun x hx=> ?_).frm hf3 fun x hx=> ?_).frm (Frm.set _ _ _) fun x hx=> ?_⟩
        · simp
          rintro rfl
          rw[p2]at hx;exact hidj hx
        · rw[p2]at hx
          rw[q2]
          have hn2:=(List.nodup_cons.1 hnd).2
          rcases Nat.lt_or_gt_of_ne hij with hlt|hlt
          · exact fun hy=>flat_disj hn2 h h2 hlt hy hx
          · exact fun hy=>flat_disj hn2 h2 h hlt hx hy
        · simp
          rintro rfl
          rw[p2]at hx;exact hidj hx
    · rw[htk,mrk_app,←hm1,←hkk]
      rw[List.take_set,List.take_succ_eq_append_getElem h',List.set_append_right _ _ (by simp;omega)]
      simp[mrk,hr,Nat.min_eq_left (Nat.le_of_lt h')]
    · rw[List.drop_set_of_lt (by omega)]
      have:=congrArg (List.drop 1) hm2
      simp only[←List.map_drop,List.drop_drop]at this⊢
      exact this
  · have hil:i=l.length:=by omega
    subst hil
    simp(maxSteps:=999999)(disch:=omega)only[go_sem,zA,zM,zS,zE,zL]
    refine⟨H1,HLe.refl _, ?_, ?_,hf⟩
    · rw[hkk,List.take_of_length_le (by simp)]
    · rw[List.take_of_length_le (by omega),List.take_of_length_le (by simp)]at hm1
      have hii:l1.flatMap (·.i)=l.flatMap (·.i):=by
       have:l1.map (·.i)=l.map (·.i):=List.ext_getElem (by simp[hlen]) fun j h1 h2=>by
        simp at h1 h2⊢
        exact(hall j h1 h2).2.1
       simp only[List.flatMap_def,this]
      have:=OwnR.o id g lim l1 ys hl1 (fun o hm=>by
       obtain⟨j,hj,rfl⟩:=List.mem_iff_getElem.1 hm
       exact(hall j hj (by omega)).2.2) (by rw[hii];exact hnd) hy
      rw[hm1,hii,hlen]at this
      exact this
theorem markPuzzle_deep(H:Heap)(cs:List CV)(p:Puz)(S:List Nat)(k:Int)(h:OwnP H cs p S)(hk:0≤k∧k+wMP p≤2^50)(hx:smP p):
 RunCall Tryd.prog 16 [.agg cs,int k] H (fun r H'=>r=int (k+wMP p)∧OwnP H' cs (mrkP k p) S∧Frm H H' S):=by
 obtain⟨c1,c2,S1,S2,rfl,rfl,h1,h2⟩:=h.ex
 have hnd:=h.nd
 rw[List.nodup_append]at hnd
 obtain⟨hx1,hx2⟩:=hx
 unfold wMP at hk⊢
 refine RunCall.cw (c:=_) Tryd.func16 rfl (n:=14) Tryd.ntmps16 (rs:=[.tmp 4]) rfl ?_
 simp only[List.length_cons,List.length_nil,zA,zS,List.replicate,List.cons_append,List.nil_append]
 simp(maxSteps:=999999)(disch:=omega)only[go_sem,zA,zM,zS,zE,zL,look_last,look_app_lt]
 intro g
 have h1a:=h1.app (H':=[some ⟨g,1,[.f (.int .i64 p.size),c1,c2]⟩])
 have h2a:=h2.app (H':=[some ⟨g,1,[.f (.int .i64 p.size),c1,c2]⟩])
 refine OpS.run (markIntS_deep _ c1 p.given S1 k h1a (by omega) hx1) (⟨_,Tryd.func35,rfl,rfl⟩:Enters Tryd.prog 35) rfl rfl ?_
 rintro _ H1 ⟨rfl,q1,f1⟩
 have hb1:look H1 H.length g=some ⟨g,1,[.f (.int .i64 p.size),c1,c2]⟩:=by
  rw[f1.look fun hm=>Nat.lt_irrefl _ (h1.lt _ hm)];exact look_last
 simp(maxSteps:=999999)(disch:=omega)only[go_sem,zA,zM,zS,zE,zL,hb1]
 have h2b:=h2a.frm f1 fun i hi hm=>hnd.2.2 i hm i hi rfl
 refine OpS.run (markRuleS_deep H1 c2 p.rules S2 (k+p.given.length) h2b (by omega) hx2) (⟨_,Tryd.func42,rfl,rfl⟩:Enters Tryd.prog 42) rfl rfl ?_
 rintro _ H2 ⟨rfl,q2,f2⟩
 simp(maxSteps:=999999)(disch:=omega)only[go_sem,zA,zM,zS,zE,zL]
 refine⟨H2.take H.length, ?_,by simp only[AV.c.injEq,CV.f.injEq,FV.int.injEq,true_and];push_cast;omega,⟨⟨c1,c2,S1,S2,rfl,rfl, ?_, ?_⟩,h.nd⟩, ?_⟩
 · intro id b hb
   have:id<H.length:=by have:=(List.getElem?_eq_some_iff.1 hb).1;simp at this;omega
   rw[List.getElem?_take_of_lt this]at hb;exact hb
 · refine((q1.frm f2 fun i hi hm=>hnd.2.2 i hi i hm rfl)).same fun i hi=>List.getElem?_take_of_lt (h1.lt i hi)
 · have e:(mrkP k p).rules=mrk (k+p.given.length) p.rules:=rfl
   rw[e]
   exact q2.same fun i hi=>List.getElem?_take_of_lt (h2.lt i hi)
 · have hl2:=f2.1
   have hl1:=f1.1
   simp at hl1
   refine⟨by simp;omega,fun id hid=> ?_⟩
   simp only[List.mem_append,not_or]at hid
   by_cases hlt:id<H.length
   · rw[List.getElem?_take_of_lt hlt,f2.2 id hid.2,f1.2 id hid.1,List.getElem?_append_left hlt]
   · rw[List.getElem?_eq_none (by simp;omega),List.getElem?_eq_none (by omega)]
end Go.Lg

namespace Go.Lg
open Go.Proofs
def kindC(k:Int):UInt8:=([100,115,112,108,97]:List UInt8).getD (k -1).toNat 0
def chA(c:Int):UInt8:=u8 (97+c)
def valT(r:Rul):List UInt8:=if r.kind=2∨r.kind=3∨r.kind=5 then 61::Go.Lib.decDigits r.val.toNat else[]
def ruleS(r:Rul):List UInt8:=kindC r.kind::(r.cells.map chA++valT r)
def ruleT(r:Rul):List UInt8:=if ruleValid r 4=true then ruleS r else[]
theorem rule_txt{r:Rul}(h:ruleValid r 4=true):(1≤r.kind∧r.kind≤5)∧r.cells.length≤4∧(∀k:Nat,k<r.cells.length→0≤nth r.cells k∧nth r.cells k<16)∧0≤r.val∧r.val≤256:=by
 simp only[ruleValid,decide_eq_true_eq]at h
 obtain⟨_,h2,h3⟩:=h
 refine⟨?_, ?_,fun k hk=> ?_, ?_⟩
 · unfold ruleShape at h3;omega
 · unfold ruleShape at h3;omega
 · have:=(h2 k hk).1;omega
 · unfold ruleShape at h3;omega
def decPre(m:Nat):List UInt8:=if m<10 then[]else Go.Lib.decDigits (m/10)
theorem dec_pre(m:Nat):decPre m++[u8 (48+((m%10:Nat):Int))]=Go.Lib.decDigits m:=by
 unfold decPre
 conv=>rhs;rw[Go.Lib.decDigits]
 by_cases h:m<10
 · rw[if_pos h,dif_pos h,Nat.mod_eq_of_lt h]
   unfold u8
   rw[List.nil_append,show(48+((m:Nat):Int)).toNat=48+m by omega]
 · rw[if_neg h,dif_neg h]
   unfold u8
   rw[show(48+((m%10:Nat):Int)).toNat=48+m%10 by omega]
theorem dec_len:∀(m:Nat),(Go.Lib.decDigits m).length≤m+1:=by
 intro m
 induction m using Nat.strongRecOn with
 |ind m ih=>
  rw[Go.Lib.decDigits]
  by_cases h:m<10
  · rw[dif_pos h];simp
  · rw[dif_neg h]
    have:=ih (m/10) (by omega)
    simp only[List.length_append,List.length_cons,List.length_nil]
    omega
theorem itoa_nat{v:Int}(h:0≤v):Go.Lib.itoa v=Go.Lib.decDigits v.toNat:=by
 unfold Go.Lib.itoa
 rw[if_neg (by omega)]
theorem take_map_succ{xs:List Int}{f:Int→UInt8}{i:Nat}(h:i<xs.length):(xs.take (i+1)).map f=(xs.take i).map f++[f (nth xs i)]:=by
 rw[take_succ_nth h,List.map_append]
 rfl
theorem l22Number_run(n:Nat)(hn:n≤1000):Reads Tryd.prog 49 [int n] (txt (Go.Lib.decDigits n)):=by
 have hm0:n%10<10:=Nat.mod_lt _ (by omega)
 refine RunCall.cw (c:=_) Tryd.func49 rfl (n:=23) Tryd.ntmps49 (rs:=[.tmp 2]) rfl ?_
 simp only[List.length_cons,List.length_nil,zA,zS,List.replicate,List.cons_append,List.nil_append]
 simp(maxSteps:=999999)(disch:=omega)only[go_sem,zA,zM,zS,zE,zL,tmod10]
 intro g
 refine loop_rule2 (fun(m:Nat) (out:List UInt8)=>m) (fun m out=>m≤1000∧out.length+m≤2000∧decPre m++out=Go.Lib.decDigits n) (fun m out=>[.p (int m), .a, .a, .p (txt out), .a, .a, .a, .a, .a, .a, .a, .a, .a, .a, .a, .a, .a, .a, .a, .a, .a, .a, .a]) (fun _ _=>[]) n [u8 (48+((n%10:Nat):Int))]
  ⟨hn,by simp;omega,dec_pre n⟩ (by simp(maxSteps:=999999)(disch:=omega)only[go_sem,zA,zM,zS,zE,zL];first|rfl|trace_state) (hle_nil _) ?_
 rintro m out ⟨h1,h2,h3⟩
 simp(maxSteps:=999999)(disch:=omega)only[go_sem,zA,zM,zS,zE,zL]
 ((first|(with_reducible first|refine condK_dec ?_ ?_|refine condK_ndec ?_ ?_|refine condK_nb ?_ ?_)|refine condK_b ?_ ?_)<;>intro c1)
 · have c1:9<m:=by omega
   have hm:m/10%10<10:=Nat.mod_lt _ (by omega)
   have hd:m/10<m:=Nat.div_lt_self (by omega) (by omega)
   simp(maxSteps:=999999)(disch:=omega)only[go_sem,zA,zM,zS,zE,zL,tmod10,tdiv10]
   intro g
   refine⟨m/10,u8 (48+((m/10%10:Nat):Int))::out,⟨⟨by omega,by simp only[List.length_cons];omega, ?_⟩,hd⟩,⟨rfl,rfl⟩,hle_nil _⟩
   rw[←h3]
   have e:decPre m=Go.Lib.decDigits (m/10):=by unfold decPre;rw[if_neg (by omega)]
   rw[e,←dec_pre (m/10)]
   simp
 · have c1:m<10:=by omega
   have e:decPre m=[]:=by unfold decPre;rw[if_pos c1]
   rw[e,List.nil_append]at h3
   subst h3
   simp(maxSteps:=999999)(disch:=omega)only[go_sem,zA,zM,zS,zE,zL]
set_option maxHeartbeats 1000000 in
theorem sRuleText_run(r:Rul)(hx:r.cells.length≤2^40):Reads Tryd.prog 20 [aR r] (txt (ruleT r)):=by
 refine RunCall.cw (c:=_) Tryd.func20 rfl (n:=54) Tryd.ntmps20 (rs:=[.tmp 2]) rfl ?_
 simp only[List.length_cons,List.length_nil,zA,zS,List.replicate,List.cons_append,List.nil_append]
 simp(maxSteps:=999999)(disch:=omega)only[go_sem,zA,zM,zS,zE,zL]
 intro g
 first|refine OpS.rd (sRuleValid_run r 4 hx) (⟨_,Tryd.func48,rfl,rfl⟩:Enters Tryd.prog 48) rfl rfl rfl rfl ?_|refine Loud.rd (sRuleValid_run r 4 hx) (⟨_,Tryd.func48,rfl,rfl⟩:Enters Tryd.prog 48) rfl rfl rfl rfl ?_
 simp(maxSteps:=999999)(disch:=omega)only[go_sem,zA,zM,zS,zE,zL]
 cases hv:ruleValid r 4 with
 |false=>
  have e:ruleT r=[]:=by unfold ruleT;rw[hv];rfl
  rw[e]
  ((first|(with_reducible first|refine condK_dec ?_ ?_|refine condK_ndec ?_ ?_|refine condK_nb ?_ ?_)|refine condK_b ?_ ?_)<;>intro c0)
  · cases c0
  simp(maxSteps:=999999)(disch:=omega)only[go_sem,zA,zM,zS,zE,zL]
 |true=>
  have e:ruleT r=ruleS r:=by unfold ruleT;rw[hv];rfl
  rw[e]
  obtain⟨hk,hl4,hc,hval⟩:=rule_txt hv
  ((first|(with_reducible first|refine condK_dec ?_ ?_|refine condK_ndec ?_ ?_|refine condK_nb ?_ ?_)|refine condK_b ?_ ?_)<;>intro c0)
  rotate_left
  · cases c0
  have hcut:cutT [100,115,112,108,97] (r.kind -1).toNat r.kind.toNat=some (txt [kindC r.kind]):=by
   rcases(by omega:r.kind=1∨r.kind=2∨r.kind=3∨r.kind=4∨r.kind=5)with e|e|e|e|e<;>rw[e]<;>rfl
  simp(maxSteps:=999999)(disch:=omega)only[go_sem,zA,zM,zS,zE,zL,hcut]
  refine loop_rule2 (fun(k:Nat) (out:List UInt8)=>r.cells.length -k) (fun k out=>k≤r.cells.length∧out=kindC r.kind::(r.cells.take k).map chA) (fun k out=>[.a, .k, .a, .a, .p (txt out), .p (int k), .a, .a, .a, .a, .a, .a, .a, .a, .a, .a, .a, .a, .a, .a, .a, .a, .a, .a, .a, .a, .a, .a, .a, .a, .a, .a, .a, .a, .a, .a, .a, .a, .a, .a, .a, .a, .a, .a, .a, .a, .a, .a, .a, .a, .a, .a, .a, .a]) (fun _ _=>[some ⟨g,1,cR r⟩]) 0 [kindC r.kind]
   ⟨Nat.zero_le _,rfl⟩ (by simp(maxSteps:=999999)(disch:=omega)only[go_sem,zA,zM,zS,zE,zL];rfl) (HLe.refl _) ?_
  rintro k _ ⟨hi,rfl⟩
  have hlen:(kindC r.kind::(r.cells.take k).map chA).length≤100:=by simp only[List.length_cons,List.length_map,List.length_take];omega
  simp(maxSteps:=999999)(disch:=omega)only[go_sem,zA,zM,zS,zE,zL]
  ((first|(with_reducible first|refine condK_dec ?_ ?_|refine condK_ndec ?_ ?_|refine condK_nb ?_ ?_)|refine condK_b ?_ ?_)<;>intro c1)
  · have hv:=hc k (by omega)
    simp(maxSteps:=999999)(disch:=omega)only[go_sem,zA,zM,zS,zE,zL]
    intro g1
    refine⟨k+1,_,⟨⟨by omega, ?_⟩,by omega⟩,⟨rfl,rfl⟩,hle_eq rfl (hle_nil _)⟩
    rw[take_map_succ (by omega)]
    rfl
  have hke:k=r.cells.length:=by omega
  subst hke
  rw[List.take_length]at hlen⊢
  have hfin:∀b:Bool,decide (r.kind=2∨r.kind=3∨r.kind=5)=b→ruleS r=kindC r.kind::(r.cells.map chA++bif b then 61::Go.Lib.decDigits r.val.toNat else[]):=fun b h=>by
   unfold ruleS valT
   cases b with
   |false=>rw[if_neg (of_decide_eq_false h)];rfl
   |true=>rw[if_pos (of_decide_eq_true h)];rfl
  have d12:decide ((1:Int)=2)=false:=rfl
  have d13:decide ((1:Int)=3)=false:=rfl
  have d15:decide ((1:Int)=5)=false:=rfl
  have d22:decide ((2:Int)=2)=true:=rfl
  have d32:decide ((3:Int)=2)=false:=rfl
  have d33:decide ((3:Int)=3)=true:=rfl
  have d42:decide ((4:Int)=2)=false:=rfl
  have d43:decide ((4:Int)=3)=false:=rfl
  have d45:decide ((4:Int)=5)=false:=rfl
  have d52:decide ((5:Int)=2)=false:=rfl
  have d53:decide ((5:Int)=3)=false:=rfl
  have d55:decide ((5:Int)=5)=true:=rfl
  have hdl:(Go.Lib.decDigits r.val.toNat).length≤300:=by have:=dec_len r.val.toNat;omega
  have hnum:Reads Tryd.prog 49 [int r.val] (txt (Go.Lib.decDigits r.val.toNat)):=by
   have h:=l22Number_run r.val.toNat (by omega)
   rwa [Int.toNat_of_nonneg hval.1]at h
  rcases(by omega:r.kind=1∨r.kind=2∨r.kind=3∨r.kind=4∨r.kind=5)with e|e|e|e|e
  · have hf:=hfin false (by rw[e];rfl)
    rw[e]at hf
    simp only[cond_false,List.append_nil]at hf
    simp(maxSteps:=999999)(disch:=omega)only[go_sem,zA,zM,zS,zE,zL,e,d12,d13,d15,d22,d32,d33,d42,d43,d45,d52,d53,d55]
    first|done|rw[hf]|trace_state
  · have hf:=hfin true (by rw[e];rfl)
    rw[e]at hf
    simp only[cond_true]at hf
    simp(maxSteps:=999999)(disch:=omega)only[go_sem,zA,zM,zS,zE,zL,e,d12,d13,d15,d22,d32,d33,d42,d43,d45,d52,d53,d55]
    first|refine OpS.rd (hnum) (⟨_,Tryd.func49,rfl,rfl⟩:Enters Tryd.prog 49) rfl rfl rfl rfl ?_|refine Loud.rd (hnum) (⟨_,Tryd.func49,rfl,rfl⟩:Enters Tryd.prog 49) rfl rfl rfl rfl ?_
    simp(maxSteps:=999999)(disch:=omega)only[go_sem,zA,zM,zS,zE,zL]
    simp[hf]
  · have hf:=hfin true (by rw[e];rfl)
    rw[e]at hf
    simp only[cond_true]at hf
    simp(maxSteps:=999999)(disch:=omega)only[go_sem,zA,zM,zS,zE,zL,e,d12,d13,d15,d22,d32,d33,d42,d43,d45,d52,d53,d55]
    first|refine OpS.rd (hnum) (⟨_,Tryd.func49,rfl,rfl⟩:Enters Tryd.prog 49) rfl rfl rfl rfl ?_|refine Loud.rd (hnum) (⟨_,Tryd.func49,rfl,rfl⟩:Enters Tryd.prog 49) rfl rfl rfl rfl ?_
    simp(maxSteps:=999999)(disch:=omega)only[go_sem,zA,zM,zS,zE,zL]
    simp[hf]
  · have hf:=hfin false (by rw[e];rfl)
    rw[e]at hf
    simp only[cond_false,List.append_nil]at hf
    simp(maxSteps:=999999)(disch:=omega)only[go_sem,zA,zM,zS,zE,zL,e,d12,d13,d15,d22,d32,d33,d42,d43,d45,d52,d53,d55]
    first|done|rw[hf]|trace_state
  · have hf:=hfin true (by rw[e];rfl)
    rw[e]at hf
    simp only[cond_true]at hf
    simp(maxSteps:=999999)(disch:=omega)only[go_sem,zA,zM,zS,zE,zL,e,d12,d13,d15,d22,d32,d33,d42,d43,d45,d52,d53,d55]
    first|refine OpS.rd (hnum) (⟨_,Tryd.func49,rfl,rfl⟩:Enters Tryd.prog 49) rfl rfl rfl rfl ?_|refine Loud.rd (hnum) (⟨_,Tryd.func49,rfl,rfl⟩:Enters Tryd.prog 49) rfl rfl rfl rfl ?_
    simp(maxSteps:=999999)(disch:=omega)only[go_sem,zA,zM,zS,zE,zL]
    simp[hf]
set_option maxHeartbeats 1000000 in
theorem RuleText_run(r:Rul)(hx:r.cells.length≤2^40):Reads Tryd.prog 19 [aR r] (txt (ruleT r)):=by
 refine RunCall.cw (c:=_) Tryd.func19 rfl (n:=50) Tryd.ntmps19 (rs:=[.tmp 2]) rfl ?_
 simp only[List.length_cons,List.length_nil,zA,zS,List.replicate,List.cons_append,List.nil_append]
 simp(maxSteps:=999999)(disch:=omega)only[go_sem,zA,zM,zS,zE,zL]
 intro g
 first|refine OpS.rd (RuleValid_run r 4 hx) (⟨_,Tryd.func21,rfl,rfl⟩:Enters Tryd.prog 21) rfl rfl rfl rfl ?_|refine Loud.rd (RuleValid_run r 4 hx) (⟨_,Tryd.func21,rfl,rfl⟩:Enters Tryd.prog 21) rfl rfl rfl rfl ?_
 simp(maxSteps:=999999)(disch:=omega)only[go_sem,zA,zM,zS,zE,zL]
 cases hv:ruleValid r 4 with
 |false=>
  have e:ruleT r=[]:=by unfold ruleT;rw[hv];rfl
  rw[e]
  ((first|(with_reducible first|refine condK_dec ?_ ?_|refine condK_ndec ?_ ?_|refine condK_nb ?_ ?_)|refine condK_b ?_ ?_)<;>intro c0)
  · cases c0
  simp(maxSteps:=999999)(disch:=omega)only[go_sem,zA,zM,zS,zE,zL]
 |true=>
  have e:ruleT r=ruleS r:=by unfold ruleT;rw[hv];rfl
  rw[e]
  obtain⟨hk,hl4,hc,hval⟩:=rule_txt hv
  ((first|(with_reducible first|refine condK_dec ?_ ?_|refine condK_ndec ?_ ?_|refine condK_nb ?_ ?_)|refine condK_b ?_ ?_)<;>intro c0)
  rotate_left
  · cases c0
  simp(maxSteps:=999999)(disch:=omega)only[go_sem,zA,zM,zS,zE,zL]
  intro g1
  have hch:chr [100,115,112,108,97] (r.kind -1)=((kindC r.kind).toNat:Int):=rfl
  rw[hch]
  refine loop_rule2 (fun(i g2:Nat)=>r.cells.length -i) (fun i g2=>i≤r.cells.length) (fun i g2=>[.a, .k, .a, .p (.c (.own 1 g2 0 (i+1) none)), .a, .a, .a, .a, .a, .a, .a, .a, .a, .a, .a, .k, .k, .p (int i), .a, .a, .a, .a, .a, .a, .a, .a, .a, .a, .a, .a, .a, .a, .a, .a, .a, .a, .a, .a, .a, .a, .a, .a, .a, .a, .a, .a, .a, .a, .a, .a]) (fun i g2=>[some ⟨g,1,cR r⟩,some ⟨g2,1,cl (eI .u8) (((kindC r.kind).toNat:Int)::(r.cells.take i).map fun c=>97+c)⟩]) 0 g1
   (Nat.zero_le _) (by simp(maxSteps:=999999)(disch:=omega)only[go_sem,zA,zM,zS,zE,zL];rfl) (HLe.refl _) ?_
  intro i g2 hi
  simp(maxSteps:=999999)(disch:=omega)only[go_sem,zA,zM,zS,zE,zL]
  ((first|(with_reducible first|refine condK_dec ?_ ?_|refine condK_ndec ?_ ?_|refine condK_nb ?_ ?_)|refine condK_b ?_ ?_)<;>intro c1)
  · have hv:=hc i (by omega)
    simp(maxSteps:=999999)(disch:=omega)only[go_sem,zA,zM,zS,zE,zL]
    intro g3 g4
    exact⟨i+1,g4,⟨by omega,by omega⟩,⟨⟨rfl,rfl⟩,rfl⟩,hle_eq rfl (hle_eq (by rw[take_succ_nth (by omega),List.map_append];simp) (hle_nil _))⟩
  have hke:i=r.cells.length:=by omega
  subst hke
  rw[List.take_length]
  have hfin:∀b:Bool,decide (r.kind=2∨r.kind=3∨r.kind=5)=b→ruleS r=kindC r.kind::(r.cells.map chA++bif b then 61::Go.Lib.decDigits r.val.toNat else[]):=fun b h=>by
   unfold ruleS valT
   cases b with
   |false=>rw[if_neg (of_decide_eq_false h)];rfl
   |true=>rw[if_pos (of_decide_eq_true h)];rfl
  have d12:decide ((1:Int)=2)=false:=rfl
  have d13:decide ((1:Int)=3)=false:=rfl
  have d15:decide ((1:Int)=5)=false:=rfl
  have d22:decide ((2:Int)=2)=true:=rfl
  have d32:decide ((3:Int)=2)=false:=rfl
  have d33:decide ((3:Int)=3)=true:=rfl
  have d42:decide ((4:Int)=2)=false:=rfl
  have d43:decide ((4:Int)=3)=false:=rfl
  have d45:decide ((4:Int)=5)=false:=rfl
  have d52:decide ((5:Int)=2)=false:=rfl
  have d53:decide ((5:Int)=3)=false:=rfl
  have d55:decide ((5:Int)=5)=true:=rfl
  have hm:List.map u8 (List.take r.cells.length (List.map (fun c=>97+c) r.cells))=r.cells.map chA:=by
   rw[List.take_of_length_le (by simp),List.map_map]
   rfl
  have hk8:∀k:Int,u8 ((kindC k).toNat:Int)=kindC k:=fun k=>by unfold u8;simp
  have hdl:(Go.Lib.decDigits r.val.toNat).length≤300:=by have:=dec_len r.val.toNat;omega
  have hnum:Reads Tryd.prog 47 [int r.val] (txt (Go.Lib.decDigits r.val.toNat)):=by
   rw[←itoa_nat hval.1]
   exact Itoa_run r.val (by omega) (by omega)
  rcases(by omega:r.kind=1∨r.kind=2∨r.kind=3∨r.kind=4∨r.kind=5)with e|e|e|e|e
  · have hf:=hfin false (by rw[e];rfl)
    rw[e]at hf
    simp only[cond_false,List.append_nil]at hf
    simp(maxSteps:=999999)(disch:=omega)only[go_sem,zA,zM,zS,zE,zL,e,d12,d13,d15,d22,d32,d33,d42,d43,d45,d52,d53,d55,hm,hk8]
    first|done|rw[hf]|trace_state
  · have hf:=hfin true (by rw[e];rfl)
    rw[e]at hf
    simp only[cond_true]at hf
    simp(maxSteps:=999999)(disch:=omega)only[go_sem,zA,zM,zS,zE,zL,e,d12,d13,d15,d22,d32,d33,d42,d43,d45,d52,d53,d55,hm,hk8]
    refine drawP_q foll (by kernel_rfl) ?_
    simp(maxSteps:=999999)(disch:=omega)only[go_sem,Nat.reduceBEq,Bool.true_or,zA,zM,zS,zE,zL]
    refine quietW.rd (hnum) (⟨_,Tryd.func47,rfl,rfl⟩:Enters Tryd.prog 47) rfl rfl rfl rfl ?_
    simp(maxSteps:=999999)(disch:=omega)only[go_sem,zA,zM,zS,zE,zL]
    rw[hm,hk8]
    simp[hf]
  · have hf:=hfin true (by rw[e];rfl)
    rw[e]at hf
    simp only[cond_true]at hf
    simp(maxSteps:=999999)(disch:=omega)only[go_sem,zA,zM,zS,zE,zL,e,d12,d13,d15,d22,d32,d33,d42,d43,d45,d52,d53,d55,hm,hk8]
    refine drawP_q foll (by kernel_rfl) ?_
    simp(maxSteps:=999999)(disch:=omega)only[go_sem,Nat.reduceBEq,Bool.true_or,zA,zM,zS,zE,zL]
    refine quietW.rd (hnum) (⟨_,Tryd.func47,rfl,rfl⟩:Enters Tryd.prog 47) rfl rfl rfl rfl ?_
    simp(maxSteps:=999999)(disch:=omega)only[go_sem,zA,zM,zS,zE,zL]
    rw[hm,hk8]
    simp[hf]
  · have hf:=hfin false (by rw[e];rfl)
    rw[e]at hf
    simp only[cond_false,List.append_nil]at hf
    simp(maxSteps:=999999)(disch:=omega)only[go_sem,zA,zM,zS,zE,zL,e,d12,d13,d15,d22,d32,d33,d42,d43,d45,d52,d53,d55,hm,hk8]
    first|done|rw[hf]|trace_state
  · have hf:=hfin true (by rw[e];rfl)
    rw[e]at hf
    simp only[cond_true]at hf
    simp(maxSteps:=999999)(disch:=omega)only[go_sem,zA,zM,zS,zE,zL,e,d12,d13,d15,d22,d32,d33,d42,d43,d45,d52,d53,d55,hm,hk8]
    refine drawP_q foll (by kernel_rfl) ?_
    simp(maxSteps:=999999)(disch:=omega)only[go_sem,Nat.reduceBEq,Bool.true_or,zA,zM,zS,zE,zL]
    refine quietW.rd (hnum) (⟨_,Tryd.func47,rfl,rfl⟩:Enters Tryd.prog 47) rfl rfl rfl rfl ?_
    simp(maxSteps:=999999)(disch:=omega)only[go_sem,zA,zM,zS,zE,zL]
    rw[hm,hk8]
    simp[hf]
end Go.Lg
