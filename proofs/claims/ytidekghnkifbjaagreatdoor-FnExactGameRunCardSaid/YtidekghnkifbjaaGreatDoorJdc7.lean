/- GpME, GpMF, GpMG, cut to what is needed. -/
import Derived.Test.YtidekghnkifbjaaGreatDoorJdc6
open List renaming length_cons → Ja, cons_append → Jb, nil_append → Jd, length_nil → Je, replicate → Jf, getElem?_eq_getElem → Jl, length_set → Jp, length_append → Jq, append_nil → Jt, getElem?_eq_none → Ju, append_assoc → JW, drop_zero → J1, getElem?_map → Qk, sum_cons → Zw
open Nat renaming reduceAdd→zA,reduceMul→zM,reduceSub→zS,reduceEqDiff→zE,reduceLeDiff→zL
set_option linter.unusedSimpArgs false
set_option linter.unusedVariables false
set_option maxRecDepth 100000
namespace Go.Lg
open Go.Proofs
theorem JgX(k:IntKind)(a:Int)(k':IntKind)(b:Int)(h:0≤b):Uw .shr k a k' b=some (.int k (a.fdiv (2^min b.toNat k.bits))):=by
 simp only[Uw]
 rw[if_neg (by omega)]
theorem Jk7{m:Nat}(h:m<32):IntKind.u64.wrap (m:Int)=(m:Int):=by
 have key:∀m:Nat,m<32→IntKind.u64.wrap (m:Int)=(m:Int):=by decide+kernel
 exact key m h
theorem YI(m:Nat)(h:m≤30∧m%2=0):JM Tryz.prog 166 [.c (.f (.int .u64 (m:Int)))] (int (Z0 m 4).length):=by
 refine Jk.cw (c:=_) Tryz.func166 rfl (n:=35) Tryz.ntmps166 (rs:=[.tmp 2]) rfl ?_
 simp only[Ja,Je,zA,zS,Jf,Jb,Jd]
 simp(maxSteps:=999999)(disch:=omega)only[go_sem,zA,zM,zS,zE,zL,JgX]
 have hm:m=0∨m=2∨m=4∨m=6∨m=8∨m=10∨m=12∨m=14∨m=16∨m=18∨m=20∨m=22∨m=24∨m=26∨m=28∨m=30:=by omega
 clear h
 rcases hm with rfl|rfl|rfl|rfl|rfl|rfl|rfl|rfl|rfl|rfl|rfl|rfl|rfl|rfl|rfl|rfl<;>decide+kernel
theorem Jaa(m:Nat)(h:m≤30∧m%2=0):JM Tryz.prog 157 [.c (.f (.int .u64 (m:Int)))] (int (Z0 m 4).length):=by
 refine Jk.cw (c:=_) Tryz.func157 rfl (n:=8) Tryz.ntmps157 (rs:=[.tmp 2]) rfl ?_
 simp only[Ja,Je,zA,zS,Jf,Jb,Jd]
 simp(maxSteps:=999999)(disch:=omega)only[go_sem,zA,zM,zS,zE,zL]
 first|refine JU.rd (YI m h) (⟨_,Tryz.func166,rfl,rfl⟩:Jg Tryz.prog 166) rfl rfl rfl rfl ?_|refine JG.rd (YI m h) (⟨_,Tryz.func166,rfl,rfl⟩:Jg Tryz.prog 166) rfl rfl rfl rfl ?_
 simp(maxSteps:=999999)(disch:=omega)only[go_sem,zA,zM,zS,zE,zL]
def NQ(ms:List Nat)(n line i j k:Nat):List (Nat×Nat):=if Vs n line k≠Vs n line i∧Vs n line k≠Vs n line j then[(Vs n line k,QH ms (Vs n line i))]else[]
def JdU(ms:List Nat)(n line i j:Nat):List (Nat×Nat):=if QH ms (Vs n line i)=QH ms (Vs n line j)∧(Z0 (QH ms (Vs n line i)) 4).length=2 then(List.range n).flatMap (NQ ms n line i j)else[]
def Jbc(ms:List Nat)(n line i:Nat):List (Nat×Nat):=(List.range (n -(i+1))).flatMap fun t=>JdU ms n line i (i+1+t)
def JfW(ms:List Nat)(n line:Nat):List (Nat×Nat):=(List.range n).flatMap (Jbc ms n line)
def NP(ms:List Nat)(n:Nat):List Nat:=Q0 ((List.range (2*n)).flatMap (JfW ms n)) ms
def KN(ms:List Nat)(n line i j k:Nat):List (Nat×Nat):=if k≠i∧k≠j then[(Vs n line k,QH ms (Vs n line i))]else[]
def Gv(ms:List Nat)(n line i j:Nat):List (Nat×Nat):=if QH ms (Vs n line i)=QH ms (Vs n line j)∧(Z0 (QH ms (Vs n line i)) 4).length=2 then(List.range n).flatMap (KN ms n line i j)else[]
def Jat(ms:List Nat)(n line i:Nat):List (Nat×Nat):=(List.range i).flatMap fun j=>Gv ms n line i j
def Fi(ms:List Nat)(n line:Nat):List (Nat×Nat):=(List.range n).flatMap (Jat ms n line)
theorem Jbm{n line i j:Nat}(hn:n=2∨n=3∨n=4)(hl:line<2*n)(hi:i<n)(hj:j<n):Vs n line i=Vs n line j↔i=j:=by
 constructor
 · intro h
   unfold Vs at h
   rw[Wf hi,Wf hj]at h
   split at h
   · rcases hn with rfl|rfl|rfl<;>omega
   · rcases hn with rfl|rfl|rfl<;>omega
 · rintro rfl;rfl
theorem JeX{n:Nat}(hn:n=2∨n=3∨n=4)(ms:List Nat){line:Nat}(hl:line<2*n)(q:Nat×Nat):q∈JfW ms n line↔∃x y k:Nat,x<y∧y<n∧k<n∧(QH ms (Vs n line x)=QH ms (Vs n line y)∧(Z0 (QH ms (Vs n line x)) 4).length=2)∧(k≠x∧k≠y)∧q=(Vs n line k,QH ms (Vs n line x)):=by
 unfold JfW Jbc JdU
 rw[List.mem_flatMap]
 constructor
 · rintro⟨x,hx,hq⟩
   obtain⟨t,ht,hq⟩:=List.mem_flatMap.1 hq
   have hx:=List.mem_range.1 hx
   have ht:=List.mem_range.1 ht
   split at hq
   · rename_i hm
     obtain⟨k,hk,hq⟩:=List.mem_flatMap.1 hq
     have hk:=List.mem_range.1 hk
     unfold NQ at hq
     split at hq
     · rename_i hne
       exact⟨x,x+1+t,k,by omega,by omega,hk,hm,⟨fun h=>hne.1 (by rw[h]),fun h=>hne.2 (by rw[h])⟩,by simpa using hq⟩
     · cases hq
   · cases hq
 · rintro⟨x,y,k,h1,h2,h3,h4,h5,rfl⟩
   refine⟨x,List.mem_range.2 (by omega),List.mem_flatMap.2 ⟨y -(x+1),List.mem_range.2 (by omega), ?_⟩⟩
   rw[show x+1+(y -(x+1))=y by omega,if_pos h4]
   refine List.mem_flatMap.2 ⟨k,List.mem_range.2 h3, ?_⟩
   unfold NQ
   rw[if_pos ⟨fun h=>h5.1 ((Jbm hn hl h3 (by omega)).1 h),fun h=>h5.2 ((Jbm hn hl h3 h2).1 h)⟩]
   simp
theorem Jcw{n:Nat}(ms:List Nat){line:Nat}(q:Nat×Nat):q∈Fi ms n line↔∃x y k:Nat,x<y∧y<n∧k<n∧(QH ms (Vs n line x)=QH ms (Vs n line y)∧(Z0 (QH ms (Vs n line x)) 4).length=2)∧(k≠x∧k≠y)∧q=(Vs n line k,QH ms (Vs n line x)):=by
 unfold Fi Jat Gv
 rw[List.mem_flatMap]
 constructor
 · rintro⟨y,hy,hq⟩
   obtain⟨x,hx,hq⟩:=List.mem_flatMap.1 hq
   have hy:=List.mem_range.1 hy
   have hx:=List.mem_range.1 hx
   split at hq
   · rename_i hm
     obtain⟨k,hk,hq⟩:=List.mem_flatMap.1 hq
     have hk:=List.mem_range.1 hk
     unfold KN at hq
     split at hq
     · rename_i hne
       refine⟨x,y,k,hx,hy,hk,⟨hm.1.symm,by rw[←hm.1];exact hm.2⟩,⟨hne.2,hne.1⟩, ?_⟩
       rw[←hm.1];simpa using hq
     · cases hq
   · cases hq
 · rintro⟨x,y,k,h1,h2,h3,h4,h5,rfl⟩
   refine⟨y,List.mem_range.2 h2,List.mem_flatMap.2 ⟨x,List.mem_range.2 h1, ?_⟩⟩
   rw[if_pos ⟨h4.1.symm,by rw[←h4.1];exact h4.2⟩]
   refine List.mem_flatMap.2 ⟨k,List.mem_range.2 h3, ?_⟩
   unfold KN
   rw[if_pos ⟨h5.2,h5.1⟩,h4.1]
   simp
theorem JhR{n:Nat}(hn:n=2∨n=3∨n=4){ms:List Nat}(h:XG ms n):Q0 ((List.range (2*n)).flatMap (Fi ms n)) ms=NP ms n:=by
 refine Jdc (fun k=>by have:=h.lt hn k;omega) fun q=> ?_
 rw[List.mem_flatMap,List.mem_flatMap]
 constructor
 · rintro⟨i,hi,hq⟩;exact⟨i,hi,(JeX hn ms (List.mem_range.1 hi) q).2 ((Jcw ms q).1 hq)⟩
 · rintro⟨i,hi,hq⟩;exact⟨i,hi,(Jcw ms q).2 ((JeX hn ms (List.mem_range.1 hi) q).1 hq)⟩
end Go.Lg

namespace Go.Lg
open Go.Proofs
set_option maxHeartbeats 8000000 in
theorem FR{n:Nat}(hn:n=2∨n=3∨n=4)(ms:List Nat)(hm:XG ms n):JM Tryz.prog 139 [QF (JN ms),int n] (QF (JN (NP ms n))):=by
 have hsq:4≤n*n∧n*n≤16:=by rcases hn with rfl|rfl|rfl<;>omega
 have hl:(JN ms).length=n*n:=by rw[Qm];exact hm.len
 have hn4:2≤n∧n≤4:=by omega
 refine JM.own ?_
 refine Jk.cw (c:=_) Tryz.func139 rfl (n:=91) Tryz.ntmps139 (rs:=[.tmp 4]) rfl ?_
 simp only[Ja,Je,zA,zS,Jf,Jb,Jd]
 simp(maxSteps:=999999)(disch:=omega)only[go_sem,zA,zM,zS,zE,zL]
 first|refine JU.rd (ZI hn ms hm) (⟨_,Tryz.func156,rfl,rfl⟩:Jg Tryz.prog 156) rfl rfl rfl rfl ?_|refine JG.rd (ZI hn ms hm) (⟨_,Tryz.func156,rfl,rfl⟩:Jg Tryz.prog 156) rfl rfl rfl rfl ?_
 simp(maxSteps:=999999)(disch:=omega)only[go_sem,zA,zM,zS,zE,zL]
 refine JU.mkQ (F2 (JN ms) (by omega) (by intro h;rw[h]at hl;simp at hl;omega)) (⟨_,Tryz.func89,rfl,rfl⟩:Jg Tryz.prog 89) rfl rfl rfl ?_
 rintro _ _ ⟨g,rfl,rfl⟩
 refine⟨rfl, ?_⟩
 simp(maxSteps:=999999)(disch:=omega)only[go_sem,zA,zM,zS,zE,zL]
 rw[hl]
 refine JO (fun i:Nat=>2*n -i) (fun i=>i≤2*n) (fun i=>[.k, .k, .a, .a, .a, .k, .a, .a, .a, .a, .a, .a, .a, .a, .a, .a, .a, .a, .a, .a, .a, .k, .p (int i), .a, .a, .a, .a, .a, .a, .a, .a, .a, .a, .a, .a, .a, .a, .a, .a, .a, .a, .a, .a, .a, .a, .a, .a, .a, .a, .a, .a, .a, .a, .a, .a, .a, .a, .a, .a, .a, .a, .a, .a, .a, .a, .a, .a, .a, .a, .a, .a, .a, .a, .a, .a, .a, .a, .a, .a, .a, .a, .a, .a, .a, .a, .a, .a, .a, .a, .a, .a]) (fun i=>[some ⟨g,1,cl (eI .i64) (JN (Q0 ((List.range i).flatMap (JfW ms n)) ms))⟩]) 0 (Nat.zero_le _) (by simp(maxSteps:=999999)(disch:=omega)only[go_sem,zA,zM,zS,zE,zL];rfl) (J5.refl _) ?_
 intro i hi
 have hrs:=ZL (JfW ms n) i
 have hok:=fun R=>WN R hm
 have hlt:=fun R k=>(hok R).lt hn k
 have hll:=fun R:List (Nat×Nat)=>(V1 R ms).trans hm.len
 generalize hR:(List.range i).flatMap (JfW ms n)=R at hrs⊢
 simp(maxSteps:=999999)(disch:=omega)only[go_sem,zA,zM,zS,zE,zL]
 ((first|(with_reducible first|refine Jm ?_ ?_|refine Jj ?_ ?_|refine Jo ?_ ?_)|refine Jr ?_ ?_)<;>intro h1)
 · have h1:i<2*n:=by omega
   have hlc:=Z7 n i
   simp(maxSteps:=999999)(disch:=omega)only[go_sem,zA,zM,zS,zE,zL]
   first|refine JU.mk (UC hn h1) (⟨_,Tryz.func124,rfl,rfl⟩:Jg Tryz.prog 124) rfl rfl rfl rfl rfl ?_|refine JG.mk (UC hn h1) (⟨_,Tryz.func124,rfl,rfl⟩:Jg Tryz.prog 124) rfl rfl rfl rfl rfl ?_
   simp(maxSteps:=999999)(disch:=omega)only[go_sem,zA,zM,zS,zE,zL]
   refine JO (fun x:Nat=>n -x) (fun x=>x≤n) (fun x=>[.k, .k, .a, .a, .a, .k, .a, .k, .a, .a, .a, .a, .a, .a, .a, .a, .a, .a, .a, .a, .a, .k, .k, .a, .a, .a, .a, .a, .k, .k, .p (int x), .a, .a, .a, .a, .a, .a, .a, .a, .a, .a, .a, .a, .a, .a, .a, .a, .a, .a, .a, .a, .a, .a, .a, .a, .a, .a, .a, .a, .a, .a, .a, .a, .a, .a, .a, .a, .a, .a, .a, .a, .a, .a, .a, .a, .a, .a, .a, .a, .a, .a, .a, .a, .a, .a, .a, .a, .a, .a, .a, .a]) (fun x=>[some ⟨g,1,cl (eI .i64) (JN (Q0 (R++(List.range x).flatMap (Jbc ms n i)) ms))⟩]) 0 (Nat.zero_le _) (by simp(maxSteps:=999999)(disch:=omega)only[go_sem,zA,zM,zS,zE,zL];rfl) (by simp only[List.range_zero,List.flatMap_nil,Jt];exact J5.refl _) ?_
   intro x hx
   have hks:=ZL (Jbc ms n i) x
   generalize hS:(List.range x).flatMap (Jbc ms n i)=S at hks⊢
   simp(maxSteps:=999999)(disch:=omega)only[go_sem,zA,zM,zS,zE,zL]
   ((first|(with_reducible first|refine Jm ?_ ?_|refine Jj ?_ ?_|refine Jo ?_ ?_)|refine Jr ?_ ?_)<;>intro h2)
   · have h2:x<n:=by omega
     obtain⟨ha1,ha2⟩:=Xb hn h1 h2
     have hI:Jbc ms n i x=(List.range (n -(x+1))).flatMap fun t=>JdU ms n i x (x+1+t):=rfl
     simp(maxSteps:=999999)(disch:=omega)only[go_sem,zA,zM,zS,zE,zL,ha2]
     have hsl:(sub (Zb n i) ((x:Int)+1) ((Zb n i).length:Nat)).length=n -(x+1):=by have:=Ge (xs:=Zb n i) (a:=(x:Int)+1) (b:=((Zb n i).length:Nat)) (by omega);omega
     have hsn:∀t:Nat,t<n -(x+1)→Jy (sub (Zb n i) ((x:Int)+1) ((Zb n i).length:Nat)) t=Jy (Zb n i) ((x+1+t:Nat):Int):=fun t ht=>by rw[Jke (by omega) (by omega)];congr 1
     generalize sub (Zb n i) ((x:Int)+1) ((Zb n i).length:Nat)=L at hsl hsn⊢
     refine JO (fun t:Nat=>n -(x+1) -t) (fun t=>t≤n -(x+1)) (fun t=>[.k, .k, .a, .a, .a, .k, .a, .k, .a, .k, .a, .a, .a, .a, .a, .a, .a, .a, .a, .a, .a, .k, .k, .a, .a, .a, .a, .a, .k, .k, .k, .a, .a, .a, .a, .a, .a, .a, .k, .k, .p (int t), .a, .a, .a, .a, .a, .a, .a, .a, .a, .a, .a, .a, .a, .a, .a, .a, .a, .a, .a, .a, .a, .a, .a, .a, .a, .a, .a, .a, .a, .a, .a, .a, .a, .a, .a, .a, .a, .a, .a, .a, .a, .a, .a, .a, .a, .a, .a, .a, .a, .a]) (fun t=>[some ⟨g,1,cl (eI .i64) (JN (Q0 (R++(S++(List.range t).flatMap fun t=>JdU ms n i x (x+1+t))) ms))⟩]) 0 (Nat.zero_le _) (by simp(maxSteps:=999999)(disch:=omega)only[go_sem,zA,zM,zS,zE,zL];rfl) (by simp only[List.range_zero,List.flatMap_nil,Jt];exact J5.refl _) ?_
     intro t ht
     have hts:=ZL (fun t=>JdU ms n i x (x+1+t)) t
     generalize hT:((List.range t).flatMap fun t=>JdU ms n i x (x+1+t))=T at hts⊢
     simp(maxSteps:=999999)(disch:=omega)only[go_sem,zA,zM,zS,zE,zL]
     ((first|(with_reducible first|refine Jm ?_ ?_|refine Jj ?_ ?_|refine Jo ?_ ?_)|refine Jr ?_ ?_)<;>intro h3)
     · have h3:t<n -(x+1):=by omega
       have hbn:=hsn t h3
       obtain⟨hb1,hb2⟩:=Xb hn h1 (k:=x+1+t) (by omega)
       rw[hb2]at hbn
       have hP:JdU ms n i x (x+1+t)=if QH ms (Vs n i x)=QH ms (Vs n i (x+1+t))∧(Z0 (QH ms (Vs n i x)) 4).length=2 then(List.range n).flatMap (NQ ms n i x (x+1+t))else[]:=rfl
       have hK:∀k,NQ ms n i x (x+1+t) k=if Vs n i k≠Vs n i x∧Vs n i k≠Vs n i (x+1+t)then[(Vs n i k,QH ms (Vs n i x))]else[]:=fun k=>rfl
       generalize Vs n i (x+1+t)=b at hbn hb1 hP hK
       generalize Vs n i x=a at ha1 ha2 hP hK
       have hma:=Q4 ms a
       have hmb:=Q4 ms b
       have hma2:=hm.lt hn a
       simp(maxSteps:=999999)(disch:=omega)only[go_sem,zA,zM,zS,zE,zL,hbn]
       refine Zi ZE (by kernel_rfl) ?_
       simp(maxSteps:=999999)(disch:=omega)only[go_sem,Nat.reduceBEq,Bool.true_or,zA,zM,zS,zE,zL]
       simp(maxSteps:=999999)(disch:=omega)only[go_sem,zA,zM,zS,zE,zL,hma,hmb]
       ((with_reducible first|refine JL ?_ ?_|refine JD ?_ ?_|refine JT ?_ ?_|refine Jv ?_ ?_|refine JJ ?_ ?_|refine JK ?_ ?_|refine JB ?_ ?_|refine JC ?_ ?_|refine JR ?_ ?_|refine JS ?_ ?_|refine Jw ?_ ?_|refine Jx ?_ ?_)<;>intro h4<;>simp(maxSteps:=999999)(disch:=omega)only[go_sem,zA,zM,zS,zE,zL,h4])
       rotate_left
       · rw[if_neg (fun h=>h4 (by rw[h.1]))]at hP
         exact⟨t+1,⟨by omega,by omega⟩,by push_cast;rfl,by rw[hts,hP,Jt];exact J5.refl _⟩
       have h4:QH ms a=QH ms b:=by omega
       have hwu:=Jk7 (m:=QH ms a) (by omega)
       simp(maxSteps:=999999)(disch:=omega)only[go_sem,zA,zM,zS,zE,zL,hma,hwu]
       refine QM.rd (Jaa (QH ms a) hma2) (⟨_,Tryz.func157,rfl,rfl⟩:Jg Tryz.prog 157) rfl rfl rfl rfl ?_
       simp(maxSteps:=999999)(disch:=omega)only[go_sem,zA,zM,zS,zE,zL]
       ((first|(with_reducible first|refine Jm ?_ ?_|refine Jj ?_ ?_|refine Jo ?_ ?_)|refine Jr ?_ ?_)<;>intro h5)
       rotate_left
       · rw[if_neg (fun h=>h5 (by rw[h.2];rfl))]at hP
         simp(maxSteps:=999999)(disch:=omega)only[go_sem,zA,zM,zS,zE,zL]
         exact⟨t+1,⟨by omega,by omega⟩,by push_cast;rfl,by rw[hts,hP,Jt];exact J5.refl _⟩
       have h5:(Z0 (QH ms a) 4).length=2:=by omega
       rw[if_pos ⟨h4,h5⟩]at hP
       simp(maxSteps:=999999)(disch:=omega)only[go_sem,zA,zM,zS,zE,zL]
       refine JO (fun k:Nat=>n -k) (fun k=>k≤n) (fun k=>[.k, .k, .a, .a, .a, .k, .a, .k, .a, .k, .a, .k, .a, .a, .a, .a, .a, .a, .a, .a, .a, .k, .k, .a, .a, .a, .a, .a, .k, .k, .k, .a, .a, .a, .a, .a, .a, .a, .k, .k, .k, .a, .a, .a, .a, .a, .a, .a, .a, .a, .a, .a, .a, .a, .a, .a, .a, .a, .a, .a, .a, .a, .k, .k, .p (int k), .a, .a, .a, .a, .a, .a, .a, .a, .a, .a, .a, .a, .a, .a, .a, .a, .a, .a, .a, .a, .a, .a, .a, .a, .a, .a]) (fun k=>[some ⟨g,1,cl (eI .i64) (JN (Q0 (R++(S++(T++(List.range k).flatMap (NQ ms n i x (x+1+t))))) ms))⟩]) 0 (Nat.zero_le _) (by simp(maxSteps:=999999)(disch:=omega)only[go_sem,zA,zM,zS,zE,zL];rfl) (by simp only[List.range_zero,List.flatMap_nil,Jt];exact J5.refl _) ?_
       intro k hk
       have hus:=ZL (NQ ms n i x (x+1+t)) k
       generalize hU:(List.range k).flatMap (NQ ms n i x (x+1+t))=U at hus⊢
       simp(maxSteps:=999999)(disch:=omega)only[go_sem,zA,zM,zS,zE,zL]
       ((first|(with_reducible first|refine Jm ?_ ?_|refine Jj ?_ ?_|refine Jo ?_ ?_)|refine Jr ?_ ?_)<;>intro h6)
       · have h6:k<n:=by omega
         have hK:=hK k
         obtain⟨hc1,hc2⟩:=Xb hn h1 h6
         generalize Vs n i k=c at hc1 hc2 hK
         generalize hQ:R++(S++(T++U))=Q
         have hQn:=Q4 (Q0 Q ms) c
         have hQl:(JN (Q0 Q ms)).length=n*n:=by rw[Qm];exact hll Q
         have hQc:Uv .andNot .i64 ((QH (Q0 Q ms) c:Nat):Int) ((QH ms a:Nat):Int)=((Bv (QH (Q0 Q ms) c) (QH ms a):Nat):Int):=Vl (by have:=(hlt Q c).1;omega) (by omega)
         have hyes:(c≠a∧c≠b)→R++(S++(T++(List.range (k+1)).flatMap (NQ ms n i x (x+1+t))))=Q++[(c,QH ms a)]:=fun h=>by rw[hus,hK,if_pos h,←hQ];simp only[JW]
         have hnot:¬(c≠a∧c≠b)→R++(S++(T++(List.range (k+1)).flatMap (NQ ms n i x (x+1+t))))=Q:=fun h=>by rw[hus,hK,if_neg h,Jt,hQ]
         simp(maxSteps:=999999)(disch:=omega)only[go_sem,zA,zM,zS,zE,zL,hc2]
         ((with_reducible first|refine JL ?_ ?_|refine JD ?_ ?_|refine JT ?_ ?_|refine Jv ?_ ?_|refine JJ ?_ ?_|refine JK ?_ ?_|refine JB ?_ ?_|refine JC ?_ ?_|refine JR ?_ ?_|refine JS ?_ ?_|refine Jw ?_ ?_|refine Jx ?_ ?_)<;>intro h7<;>simp(maxSteps:=999999)(disch:=omega)only[go_sem,zA,zM,zS,zE,zL,h7])
         · exact⟨k+1,⟨by omega,by omega⟩,by push_cast;rfl,by rw[hnot (by omega)];exact J5.refl _⟩
         ((first|(with_reducible first|refine Jm ?_ ?_|refine Jj ?_ ?_|refine Jo ?_ ?_)|refine Jr ?_ ?_)<;>intro h8)
         · simp(maxSteps:=999999)(disch:=omega)only[go_sem,zA,zM,zS,zE,zL]
           exact⟨k+1,⟨by omega,by omega⟩,by push_cast;rfl,by rw[hnot (by omega)];exact J5.refl _⟩
         · simp(maxSteps:=999999)(disch:=omega)only[go_sem,zA,zM,zS,zE,zL]
           refine Ug [0,1,2,3,4,5,6,7] [] none [8,9,10] [] ZE (by kernel_rfl) ?_
           simp(maxSteps:=999999)(disch:=omega)only[go_sem,Nat.reduceBEq,Bool.true_or,zA,zM,zS,zE,zL]
           simp(maxSteps:=999999)(disch:=omega)only[go_sem,zA,zM,zS,zE,zL,hQn,hQl,hQc,hma]
           exact⟨k+1,⟨by omega,by omega⟩,by push_cast;rfl,by rw[hyes (by omega),Wx,←Vr,←hQc];exact J5.refl _⟩
       · have hke:k=n:=by omega
         rw[hke]at hU
         simp(maxSteps:=999999)(disch:=omega)only[go_sem,zA,zM,zS,zE,zL]
         exact⟨t+1,⟨by omega,by omega⟩,by push_cast;rfl,by rw[hts,hP,hU];exact J5.refl _⟩
     · have hte:t=n -(x+1):=by omega
       rw[hte]at hT
       simp(maxSteps:=999999)(disch:=omega)only[go_sem,zA,zM,zS,zE,zL]
       exact⟨x+1,⟨by omega,by omega⟩,by push_cast;rfl,by rw[hks,hI,hT];exact J5.refl _⟩
   · have hke:x=n:=by omega
     rw[hke]at hS
     simp(maxSteps:=999999)(disch:=omega)only[go_sem,zA,zM,zS,zE,zL]
     exact⟨i+1,⟨by omega,by omega⟩,by push_cast;rfl,by rw[hrs,←hS];exact J5.refl _⟩
 · skip
   have hie:i=2*n:=by omega
   rw[hie]at hR
   have hM:Q0 R ms=NP ms n:=by rw[←hR]<;>rfl
   have hl2:(JN (NP ms n)).length=n*n:=by rw[Qm,←hM];exact hll R
   rw[hM]
   simp(maxSteps:=999999)(disch:=omega)only[go_sem,zA,zM,zS,zE,zL]
   rw[←hl2]
   exact ZK (E:=eI .i64) (n:=1) (J5.refl _)
set_option maxHeartbeats 8000000 in
theorem BA{n:Nat}(hn:n=2∨n=3∨n=4)(ms:List Nat)(hm:XG ms n):JM Tryz.prog 134 [QF (JN ms),int n] (QF (JN (NP ms n))):=by
 have hsq:4≤n*n∧n*n≤16:=by rcases hn with rfl|rfl|rfl<;>omega
 have hl:(JN ms).length=n*n:=by rw[Qm];exact hm.len
 have hn4:2≤n∧n≤4:=by omega
 rw[←JhR hn hm]
 refine JM.own ?_
 refine Jk.cw (c:=_) Tryz.func134 rfl (n:=89) Tryz.ntmps134 (rs:=[.tmp 4]) rfl ?_
 simp only[Ja,Je,zA,zS,Jf,Jb,Jd]
 simp(maxSteps:=999999)(disch:=omega)only[go_sem,zA,zM,zS,zE,zL]
 first|refine JU.rd (Ze hn (JN ms) hm.ok) (⟨_,Tryz.func131,rfl,rfl⟩:Jg Tryz.prog 131) rfl rfl rfl rfl ?_|refine JG.rd (Ze hn (JN ms) hm.ok) (⟨_,Tryz.func131,rfl,rfl⟩:Jg Tryz.prog 131) rfl rfl rfl rfl ?_
 simp(maxSteps:=999999)(disch:=omega)only[go_sem,zA,zM,zS,zE,zL]
 refine JU.mkQ (Yk (JN ms) (by omega) (by intro h;rw[h]at hl;simp at hl;omega)) (⟨_,Tryz.func153,rfl,rfl⟩:Jg Tryz.prog 153) rfl rfl rfl ?_
 rintro _ _ ⟨g,rfl,rfl⟩
 refine⟨rfl, ?_⟩
 simp(maxSteps:=999999)(disch:=omega)only[go_sem,zA,zM,zS,zE,zL]
 rw[hl]
 refine JO (fun i:Nat=>2*n -i) (fun i=>i≤2*n) (fun i=>[.k, .k, .a, .a, .a, .k, .p (int i), .a, .a, .a, .a, .a, .a, .a, .a, .a, .a, .a, .a, .a, .a, .a, .a, .a, .a, .a, .a, .a, .a, .a, .a, .a, .a, .a, .a, .a, .a, .a, .a, .a, .a, .a, .a, .a, .a, .a, .a, .a, .a, .a, .a, .a, .a, .a, .a, .a, .a, .a, .a, .a, .a, .a, .a, .a, .a, .a, .a, .a, .a, .a, .a, .a, .a, .a, .a, .a, .a, .a, .a, .a, .a, .a, .a, .a, .a, .a, .a, .a, .a]) (fun i=>[some ⟨g,1,cl (eI .i64) (JN (Q0 ((List.range i).flatMap (Fi ms n)) ms))⟩]) 0 (Nat.zero_le _) (by simp(maxSteps:=999999)(disch:=omega)only[go_sem,zA,zM,zS,zE,zL];rfl) (J5.refl _) ?_
 intro i hi
 have hrs:=ZL (Fi ms n) i
 have hok:=fun R=>WN R hm
 have hlt:=fun R k=>(hok R).lt hn k
 have hll:=fun R:List (Nat×Nat)=>(V1 R ms).trans hm.len
 generalize hR:(List.range i).flatMap (Fi ms n)=R at hrs⊢
 simp(maxSteps:=999999)(disch:=omega)only[go_sem,zA,zM,zS,zE,zL]
 ((first|(with_reducible first|refine Jm ?_ ?_|refine Jj ?_ ?_|refine Jo ?_ ?_)|refine Jr ?_ ?_)<;>intro h1)
 · have h1:i<2*n:=by omega
   have hlc:=Z7 n i
   simp(maxSteps:=999999)(disch:=omega)only[go_sem,zA,zM,zS,zE,zL]
   first|refine JU.mk (UY hn h1) (⟨_,Tryz.func154,rfl,rfl⟩:Jg Tryz.prog 154) rfl rfl rfl rfl rfl ?_|refine JG.mk (UY hn h1) (⟨_,Tryz.func154,rfl,rfl⟩:Jg Tryz.prog 154) rfl rfl rfl rfl rfl ?_
   simp(maxSteps:=999999)(disch:=omega)only[go_sem,zA,zM,zS,zE,zL]
   refine JO (fun y:Nat=>n -y) (fun y=>y≤n) (fun y=>[.k, .k, .a, .a, .a, .k, .k, .k, .p (int y), .a, .a, .a, .a, .a, .a, .a, .a, .a, .a, .a, .a, .a, .a, .a, .a, .a, .a, .a, .a, .a, .a, .a, .a, .a, .a, .a, .a, .a, .a, .a, .a, .a, .a, .a, .a, .a, .a, .a, .a, .a, .a, .a, .a, .a, .a, .a, .a, .a, .a, .a, .a, .a, .a, .a, .a, .a, .a, .a, .a, .a, .a, .a, .a, .a, .a, .a, .a, .a, .a, .a, .a, .a, .a, .a, .a, .a, .a, .a, .a]) (fun y=>[some ⟨g,1,cl (eI .i64) (JN (Q0 (R++(List.range y).flatMap (Jat ms n i)) ms))⟩]) 0 (Nat.zero_le _) (by simp(maxSteps:=999999)(disch:=omega)only[go_sem,zA,zM,zS,zE,zL];rfl) (by simp only[List.range_zero,List.flatMap_nil,Jt];exact J5.refl _) ?_
   intro y hy
   have hks:=ZL (Jat ms n i) y
   generalize hS:(List.range y).flatMap (Jat ms n i)=S at hks⊢
   simp(maxSteps:=999999)(disch:=omega)only[go_sem,zA,zM,zS,zE,zL]
   ((first|(with_reducible first|refine Jm ?_ ?_|refine Jj ?_ ?_|refine Jo ?_ ?_)|refine Jr ?_ ?_)<;>intro h2)
   · have h2:y<n:=by omega
     obtain⟨ha1,ha2⟩:=Xb hn h1 h2
     have hI:Jat ms n i y=(List.range y).flatMap fun x=>Gv ms n i y x:=rfl
     simp(maxSteps:=999999)(disch:=omega)only[go_sem,zA,zM,zS,zE,zL]
     refine JO (fun x:Nat=>y -x) (fun x=>x≤y) (fun x=>[.k, .k, .a, .a, .a, .k, .k, .k, .k, .p (int x), .a, .a, .a, .a, .a, .a, .a, .a, .a, .a, .a, .a, .a, .a, .a, .a, .a, .a, .a, .a, .a, .a, .a, .a, .a, .a, .a, .a, .a, .a, .a, .a, .a, .a, .a, .a, .a, .a, .a, .a, .a, .a, .a, .a, .a, .a, .a, .a, .a, .a, .a, .a, .a, .a, .a, .a, .a, .a, .a, .a, .a, .a, .a, .a, .a, .a, .a, .a, .a, .a, .a, .a, .a, .a, .a, .a, .a, .a, .a]) (fun x=>[some ⟨g,1,cl (eI .i64) (JN (Q0 (R++(S++(List.range x).flatMap fun x=>Gv ms n i y x)) ms))⟩]) 0 (Nat.zero_le _) (by simp(maxSteps:=999999)(disch:=omega)only[go_sem,zA,zM,zS,zE,zL];rfl) (by simp only[List.range_zero,List.flatMap_nil,Jt];exact J5.refl _) ?_
     intro x hx
     have hts:=ZL (fun x=>Gv ms n i y x) x
     generalize hT:((List.range x).flatMap fun x=>Gv ms n i y x)=T at hts⊢
     simp(maxSteps:=999999)(disch:=omega)only[go_sem,zA,zM,zS,zE,zL]
     ((first|(with_reducible first|refine Jm ?_ ?_|refine Jj ?_ ?_|refine Jo ?_ ?_)|refine Jr ?_ ?_)<;>intro h3)
     · have h3:x<y:=by omega
       obtain⟨hb1,hb2⟩:=Xb hn h1 (k:=x) (by omega)
       have hP:Gv ms n i y x=if QH ms (Vs n i y)=QH ms (Vs n i x)∧(Z0 (QH ms (Vs n i y)) 4).length=2 then(List.range n).flatMap (KN ms n i y x)else[]:=rfl
       have hK:∀k,KN ms n i y x k=if k≠y∧k≠x then[(Vs n i k,QH ms (Vs n i y))]else[]:=fun k=>rfl
       generalize Vs n i x=b at hb1 hb2 hP hK
       generalize Vs n i y=a at ha1 ha2 hP hK
       have hma:=Q4 ms a
       have hmb:=Q4 ms b
       have hma2:=hm.lt hn a
       simp(maxSteps:=999999)(disch:=omega)only[go_sem,zA,zM,zS,zE,zL,ha2,hb2,hma,hmb]
       ((with_reducible first|refine JL ?_ ?_|refine JD ?_ ?_|refine JT ?_ ?_|refine Jv ?_ ?_|refine JJ ?_ ?_|refine JK ?_ ?_|refine JB ?_ ?_|refine JC ?_ ?_|refine JR ?_ ?_|refine JS ?_ ?_|refine Jw ?_ ?_|refine Jx ?_ ?_)<;>intro h4<;>simp(maxSteps:=999999)(disch:=omega)only[go_sem,zA,zM,zS,zE,zL,h4])
       rotate_left
       · rw[if_neg (fun h=>h4 (by rw[h.1]))]at hP
         exact⟨x+1,⟨by omega,by omega⟩,by push_cast;rfl,by rw[hts,hP,Jt];exact J5.refl _⟩
       have h4:QH ms a=QH ms b:=by omega
       first|refine JU.mk (ZZ (QH ms b) (hm.lt hn b)) (⟨_,Tryz.func106,rfl,rfl⟩:Jg Tryz.prog 106) rfl rfl rfl rfl rfl ?_|refine JG.mk (ZZ (QH ms b) (hm.lt hn b)) (⟨_,Tryz.func106,rfl,rfl⟩:Jg Tryz.prog 106) rfl rfl rfl rfl rfl ?_
       simp(maxSteps:=999999)(disch:=omega)only[go_sem,zA,zM,zS,zE,zL]
       ((first|(with_reducible first|refine Jm ?_ ?_|refine Jj ?_ ?_|refine Jo ?_ ?_)|refine Jr ?_ ?_)<;>intro h5)
       rotate_left
       · rw[if_neg (fun h=>h5 (by rw[←h4,h.2];rfl))]at hP
         simp(maxSteps:=999999)(disch:=omega)only[go_sem,zA,zM,zS,zE,zL]
         exact⟨x+1,⟨by omega,by omega⟩,by push_cast;rfl,by rw[hts,hP,Jt];exact J5.refl _⟩
       have h5:(Z0 (QH ms a) 4).length=2:=by rw[h4];omega
       rw[if_pos ⟨h4,h5⟩]at hP
       simp(maxSteps:=999999)(disch:=omega)only[go_sem,zA,zM,zS,zE,zL]
       refine JO (fun k:Nat=>n -k) (fun k=>k≤n) (fun k=>[.k, .k, .a, .a, .a, .k, .k, .k, .k, .k, .k, .p (int k), .a, .a, .a, .a, .a, .a, .a, .a, .a, .a, .a, .a, .a, .a, .a, .a, .a, .a, .a, .a, .a, .a, .a, .a, .a, .a, .a, .a, .a, .a, .a, .a, .a, .a, .a, .a, .a, .a, .a, .a, .a, .a, .a, .a, .a, .a, .a, .a, .a, .a, .a, .a, .a, .a, .a, .a, .a, .a, .a, .a, .a, .a, .a, .a, .a, .a, .a, .a, .a, .a, .a, .a, .a, .a, .a, .a, .a]) (fun k=>[some ⟨g,1,cl (eI .i64) (JN (Q0 (R++(S++(T++(List.range k).flatMap (KN ms n i y x)))) ms))⟩]) 0 (Nat.zero_le _) (by simp(maxSteps:=999999)(disch:=omega)only[go_sem,zA,zM,zS,zE,zL];rfl) (by simp only[List.range_zero,List.flatMap_nil,Jt];exact J5.refl _) ?_
       intro k hk
       have hus:=ZL (KN ms n i y x) k
       generalize hU:(List.range k).flatMap (KN ms n i y x)=U at hus⊢
       simp(maxSteps:=999999)(disch:=omega)only[go_sem,zA,zM,zS,zE,zL]
       ((first|(with_reducible first|refine Jm ?_ ?_|refine Jj ?_ ?_|refine Jo ?_ ?_)|refine Jr ?_ ?_)<;>intro h6)
       · have h6:k<n:=by omega
         have hK:=hK k
         obtain⟨hc1,hc2⟩:=Xb hn h1 h6
         generalize Vs n i k=c at hc1 hc2 hK
         generalize hQ:R++(S++(T++U))=Q
         have hQn:=Q4 (Q0 Q ms) c
         have hQl:(JN (Q0 Q ms)).length=n*n:=by rw[Qm];exact hll Q
         have hQc:Uv .andNot .i64 ((QH (Q0 Q ms) c:Nat):Int) ((QH ms a:Nat):Int)=((Bv (QH (Q0 Q ms) c) (QH ms a):Nat):Int):=Vl (by have:=(hlt Q c).1;omega) (by omega)
         have hyes:(k≠y∧k≠x)→R++(S++(T++(List.range (k+1)).flatMap (KN ms n i y x)))=Q++[(c,QH ms a)]:=fun h=>by rw[hus,hK,if_pos h,←hQ];simp only[JW]
         have hnot:¬(k≠y∧k≠x)→R++(S++(T++(List.range (k+1)).flatMap (KN ms n i y x)))=Q:=fun h=>by rw[hus,hK,if_neg h,Jt,hQ]
         simp(maxSteps:=999999)(disch:=omega)only[go_sem,zA,zM,zS,zE,zL]
         ((with_reducible first|refine JL ?_ ?_|refine JD ?_ ?_|refine JT ?_ ?_|refine Jv ?_ ?_|refine JJ ?_ ?_|refine JK ?_ ?_|refine JB ?_ ?_|refine JC ?_ ?_|refine JR ?_ ?_|refine JS ?_ ?_|refine Jw ?_ ?_|refine Jx ?_ ?_)<;>intro h7<;>simp(maxSteps:=999999)(disch:=omega)only[go_sem,zA,zM,zS,zE,zL,h7])
         · exact⟨k+1,⟨by omega,by omega⟩,by push_cast;omega,by rw[hnot (by omega)];exact J5.refl _⟩
         ((first|(with_reducible first|refine Jm ?_ ?_|refine Jj ?_ ?_|refine Jo ?_ ?_)|refine Jr ?_ ?_)<;>intro h8)
         · simp(maxSteps:=999999)(disch:=omega)only[go_sem,zA,zM,zS,zE,zL]
           exact⟨k+1,⟨by omega,by omega⟩,by push_cast;omega,by rw[hnot (by omega)];exact J5.refl _⟩
         · simp(maxSteps:=999999)(disch:=omega)only[go_sem,zA,zM,zS,zE,zL]
           refine Ug [0,1,2,3,4,5,6,7,8,9,10,11,12,13] [] none [14,15] [] ZE (by kernel_rfl) ?_
           simp(maxSteps:=999999)(disch:=omega)only[go_sem,Nat.reduceBEq,Bool.true_or,zA,zM,zS,zE,zL]
           simp(maxSteps:=999999)(disch:=omega)only[go_sem,zA,zM,zS,zE,zL,hc2,hQn,hQl,hQc]
           exact⟨k+1,⟨by omega,by omega⟩,by push_cast;rfl,by rw[hyes (by omega),Wx,←Vr,←hQc,h4];exact J5.refl _⟩
       · have hke:k=n:=by omega
         rw[hke]at hU
         simp(maxSteps:=999999)(disch:=omega)only[go_sem,zA,zM,zS,zE,zL]
         exact⟨x+1,⟨by omega,by omega⟩,by push_cast;rfl,by rw[hts,hP,hU];exact J5.refl _⟩
     · have hte:x=y:=by omega
       rw[hte]at hT
       simp(maxSteps:=999999)(disch:=omega)only[go_sem,zA,zM,zS,zE,zL]
       exact⟨y+1,⟨by omega,by omega⟩,by push_cast;rfl,by rw[hks,hI,hT];exact J5.refl _⟩
   · have hke:y=n:=by omega
     rw[hke]at hS
     simp(maxSteps:=999999)(disch:=omega)only[go_sem,zA,zM,zS,zE,zL]
     exact⟨i+1,⟨by omega,by omega⟩,by push_cast;rfl,by rw[hrs,←hS];exact J5.refl _⟩
 · skip
   have hie:i=2*n:=by omega
   rw[hie]at hR
   have hM:Q0 R ms=Q0 ((List.range (2*n)).flatMap (Fi ms n)) ms:=by rw[←hR]<;>rfl
   have hl2:(JN (Q0 ((List.range (2*n)).flatMap (Fi ms n)) ms)).length=n*n:=by rw[Qm,←hM];exact hll R
   rw[hM]
   simp(maxSteps:=999999)(disch:=omega)only[go_sem,zA,zM,zS,zE,zL]
   rw[←hl2]
   exact ZK (E:=eI .i64) (n:=1) (J5.refl _)
end Go.Lg

namespace Go.Lg
open Go.Proofs
theorem Jj4{o:List Nat}{vs:List Int}(hl:vs.length=o.length){k b:Nat}(h:((orV o vs).getD k 0).testBit b=true):(o.getD k 0).testBit b=true∨(k<vs.length∧b=(Jy vs k).toNat):=by
 unfold orV at h
 simp only[List.getD,List.getElem?_zipWith]at h
 by_cases hk:k<o.length
 · have hk2:k<vs.length:=by omega
   have e:Jy vs k=vs[k]:=by rw[Qe (by omega)];rfl
   simp only[Jl hk,Jl hk2,Option.getD_some,Nat.testBit_or,Bool.or_eq_true,Nat.testBit_two_pow,decide_eq_true_eq]at h
   rcases h with h|h
   · left;simpa[List.getD,Jl hk]using h
   · right;exact⟨hk2,by rw[e];exact h.symm⟩
 · simp[Ju (show o.length≤k by omega)]at h
theorem JbX(r:Zq):∀(ms:List Nat) (pre:List Int) (o:List Nat),pre.length+ms.length=o.length→∀k b:Nat,((ZS r ms pre o).getD k 0).testBit b=true→
 (o.getD k 0).testBit b=true∨(k<pre.length∧b=(Jy pre k).toNat)∨(pre.length≤k∧1≤b∧b≤4∧(ms.getD (k -pre.length) 0).testBit b=true)
 |[],pre,o,hl,k,b,h=>by
  unfold ZS at h
  split at h
  · rcases Jj4 (by simpa using hl) h with h|h
    · exact .inl h
    · exact .inr (.inl h)
  · exact .inl h
 |m::ms,pre,o,hl,k,b,h=>by
  rw[WT]at h
  have hl':pre.length+ms.length+1=o.length:=by simp at hl;omega
  have gen:∀(vs:List Int),(∀v∈vs,v∈Z0 m 4)→∀o':List Nat,o'.length=o.length→((vs.foldl (fun o v=>ZS r ms (pre++[v]) o) o').getD k 0).testBit b=true→
   (o'.getD k 0).testBit b=true∨(k<pre.length∧b=(Jy pre k).toNat)∨(pre.length≤k∧1≤b∧b≤4∧((m::ms).getD (k -pre.length) 0).testBit b=true):=by
   intro vs
   induction vs with
   |nil=>intro _ o' _ h;exact .inl h
   |cons v vs ih=>
    intro hv o' ho h
    rw[List.foldl_cons]at h
    have hlw:(ZS r ms (pre++[v]) o').length=o'.length:=VO r ms _ _ (by simp;omega)
    rcases ih (fun u hu=>hv u (by simp[hu])) _ (by rw[hlw];exact ho) h with h|h
    · rcases JbX r ms (pre++[v]) o' (by simp;omega) k b h with h|⟨h1,h2⟩|⟨h1,h2,h3,h4⟩
      · exact .inl h
      · by_cases hk:k<pre.length
        · refine .inr (.inl ⟨hk, ?_⟩)
          rw[h2,Qe (by simp;omega),Qe (by omega)]
          simp only[Int.toNat_natCast,List.getElem_append_left hk]
        · have hk:k=pre.length:=by simp at h1;omega
          refine .inr (.inr ⟨by omega, ?_⟩)
          have e:Jy (pre++[v]) k=v:=by
           rw[Qe (by simp;omega)]
           simp[hk]
          rw[e]at h2
          have hm:=hv v (by simp)
          have hb:=Kw hm
          refine⟨by omega,by omega, ?_⟩
          rw[hk,Nat.sub_self,List.getD_cons_zero,h2]
          unfold Z0 at hm
          obtain⟨u,_,hu⟩:=List.mem_flatMap.1 hm
          split at hu
          · rename_i ht
            have:v=u:=by simpa using hu
            rw[this,Int.toNat_natCast];exact ht
          · cases hu
      · simp only[Jq,Ja,Je]at h1 h4
        refine .inr (.inr ⟨by omega,h2,h3, ?_⟩)
        rw[show k -pre.length=(k -(pre.length+1))+1 by omega,List.getD_cons_succ]
        exact h4
    · exact .inr h
  exact gen _ (fun v hv=>hv) o rfl h
theorem Jd8{a b:Nat}(h:∀i,a.testBit i=true→b.testBit i=true):a≤b:=by
 have:a&&&b=a:=by
  refine Nat.eq_of_testBit_eq fun i=> ?_
  rw[Nat.testBit_and]
  cases ha:a.testBit i
  · rfl
  · rw[h i ha];rfl
 rw[←this]
 exact Nat.and_le_right
theorem Jcn{r:Zq}{ms:List Nat}{k:Nat}(hk:k<r.cells.length){b:Nat}(h:((Zy r (JN ms)).getD k 0).testBit b=true):1≤b∧(QH ms (Jy r.cells k).toNat).testBit b=true:=by
 unfold Zy at h
 have hl:(WH r (JN ms) 0).length=r.cells.length:=by unfold WH;simp
 rcases JbX r _ [] _ (by simp[hl]) k b h with h|h|⟨_,h1,_,h2⟩
 · simp[List.getD,hk]at h
 · simp at h
 · refine⟨h1, ?_⟩
   have e:(WH r (JN ms) 0).getD (k -([]:List Int).length) 0=QH ms (Jy r.cells k).toNat:=by
    have e1:Jy r.cells k=r.cells[k]:=by rw[Qe (by omega)];rfl
    unfold WH
    simp only[J1,Je,Nat.sub_zero,List.getD,Qk,Jl hk,Option.map_some,Option.getD_some]
    rw[VH,Q4,e1,Int.toNat_natCast]
   rw[e]at h2
   exact h2
def BG(r:Zq)(fd:List Nat)(ms:List Nat)(j:Nat):List Nat:=(List.range j).foldl (fun(o:List Nat) (i:Nat)=>o.set (Jy r.cells (i:Int)).toNat (fd.getD i 0)) ms
theorem XM(r:Zq)(fd ms:List Nat)(j:Nat):BG r fd ms (j+1)=(BG r fd ms j).set (Jy r.cells j).toNat (fd.getD j 0):=by
 unfold BG
 rw[List.range_succ,List.foldl_append]
 rfl
theorem Gt(r:Zq)(fd ms:List Nat):∀j,(BG r fd ms j).length=ms.length
 |0=>rfl
 |j+1=>by rw[XM,Jp,Gt r fd ms j]
theorem GP{o ms:List Nat}{c v:Nat}(h:∀k,QH o k≤QH ms k)(hv:v≤QH ms c)(k:Nat):QH (o.set c v) k≤QH ms k:=by
 by_cases hc:c<o.length
 · rw[WJ hc]
   split
   · rename_i hk;rw[hk];exact hv
   · exact h k
 · rw[List.set_eq_of_length_le (by omega)];exact h k
theorem Jcm{r:Zq}{ms:List Nat}{k:Nat}(hk:k<r.cells.length):(Zy r (JN ms)).getD k 0≤QH ms (Jy r.cells k).toNat:=Jd8 fun b hb=>(Jcn hk hb).2
theorem JdO{r:Zq}{ms:List Nat}{k:Nat}(hk:k<r.cells.length):(Zy r (JN ms)).getD k 0%2=0:=by
 have h1:((Zy r (JN ms)).getD k 0).testBit 0=false:=by
  cases h:((Zy r (JN ms)).getD k 0).testBit 0
  · rfl
  · have:=(Jcn hk h).1;omega
 rw[Nat.testBit_zero,decide_eq_false_iff_not]at h1
 omega
theorem JeV(r:Zq)(ms:List Nat):∀j,j≤r.cells.length→∀k,QH (BG r (Zy r (JN ms)) ms j) k≤QH ms k
 |0,_,_=>Nat.le_refl _
 |j+1,hj,k=>by
  rw[XM]
  exact GP (JeV r ms j (by omega)) (Jcm (by omega)) k
theorem JeU{n:Nat}(r:Zq){ms:List Nat}(h:XG ms n):∀j,j≤r.cells.length→XG (BG r (Zy r (JN ms)) ms j) n
 |0,_=>h
 |j+1,hj=>by
  rw[XM]
  refine(JeU r h j (by omega)).set ⟨?_,JdO (by omega)⟩
  have:=Jcm (r:=r) (ms:=ms) (k:=j) (by omega)
  have:=h.at (Jy r.cells j).toNat
  omega
def Jco(ms:List Nat)(r:Zq):List Nat:=BG r (Zy r (JN ms)) ms r.cells.length
def BB(p:QR)(ms:List Nat)(k:Nat):List Nat:=(p.rules.take k).foldl Jco ms
def Ye(p:QR)(ms:List Nat):List Nat:=p.rules.foldl Jco ms
theorem Jar{p:QR}{ms:List Nat}{k:Nat}(h:k<p.rules.length):BB p ms (k+1)=Jco (BB p ms k) (Jy p.rules k):=by
 unfold BB
 rw[Qa h,List.foldl_append]
 rfl
theorem Be{n:Nat}:∀(rs:List Zq) {ms:List Nat},XG ms n→XG (rs.foldl Jco ms) n
 |[],_,h=>h
 |r::rs,_,h=>Be rs (JeU r h _ (Nat.le_refl _))
theorem Jc0:∀(rs:List Zq) (ms:List Nat) (k:Nat),QH (rs.foldl Jco ms) k≤QH ms k
 |[],_,_=>Nat.le_refl _
 |r::rs,ms,k=>Nat.le_trans (Jc0 rs (Jco ms r) k) (JeV r ms _ (Nat.le_refl _) k)
theorem JbG(R:List (Nat×Nat)):∀(ms:List Nat) (k:Nat),QH (Q0 R ms) k≤QH ms k:=by
 induction R with
 |nil=>intro ms k;exact Nat.le_refl _
 |cons q R ih=>
  intro ms k
  refine Nat.le_trans (ih (ms.set q.1 (Bv (QH ms q.1) q.2)) k) ?_
  exact GP (fun _=>Nat.le_refl _) (Jel _ _) k
def Ue(p:QR)(t:Nat)(ms:List Nat):List Nat:=
 if t=1 then NJ ms p.size.toNat else if t=2 then G6 ms p.size.toNat else if t=3 then NP ms p.size.toNat else Ye p ms
theorem R3{p:QR}{n t:Nat}{ms:List Nat}(h:XG ms n):XG (Ue p t ms) n:=by
 unfold Ue NJ G6 NP Ye
 split
 · exact WN _ h
 split
 · exact WN _ h
 split
 · exact WN _ h
 · exact Be _ h
theorem Jkg(p:QR)(t:Nat)(ms:List Nat)(k:Nat):QH (Ue p t ms) k≤QH ms k:=by
 unfold Ue NJ G6 NP Ye
 split
 · exact JbG _ _ _
 split
 · exact JbG _ _ _
 split
 · exact JbG _ _ _
 · exact Jc0 _ _ _
theorem Jag:∀{a b:List Nat},a.length=b.length→(∀k,QH a k≤QH b k)→a.sum≤b.sum∧(a≠b→a.sum<b.sum)
 |[],[],_,_=>⟨Nat.le_refl _,fun h=>absurd rfl h⟩
 |x::a,y::b,hl,h=>by
  have h0:x≤y:=h 0
  obtain⟨h1,h2⟩:=Jag (a:=a) (b:=b) (by simpa using hl) fun k=>h (k+1)
  simp only[Zw]
  refine⟨by omega,fun hne=> ?_⟩
  by_cases hxy:x=y
  · have:a≠b:=fun hab=>hne (by rw[hxy,hab])
    have:=h2 this
    omega
  · omega
 |[],_::_,h,_=>by simp at h
 |_::_,[],h,_=>by simp at h
theorem JcE{p:QR}{n t:Nat}{ms:List Nat}(h:XG ms n)(hne:Ue p t ms≠ms):(Ue p t ms).sum<ms.sum:=
 (Jag ((R3 h).len.trans h.len.symm) (Jkg p t ms)).2 hne
def Z3(p:QR)(ms:List Nat):Nat:=if Ue p 1 ms≠ms then 1 else if Ue p 2 ms≠ms then 2 else if Ue p 3 ms≠ms then 3 else if Ue p 4 ms≠ms then 4 else 0
theorem Jh6(p:QR)(ms:List Nat):Z3 p ms≤4:=by
 unfold Z3
 repeat' split
 all_goals omega
theorem JcC{p:QR}{ms:List Nat}{t:Nat}(ht:1≤t∧t≤4)(hlt:∀u,1≤u→u<t→Ue p u ms=ms)(hne:Ue p t ms≠ms):Z3 p ms=t:=by
 unfold Z3
 have h4:t=1∨t=2∨t=3∨t=4:=by omega
 rcases h4 with rfl|rfl|rfl|rfl
 · rw[if_pos hne]
 · rw[if_neg (fun h=>h (hlt 1 (by omega) (by omega))),if_pos hne]
 · rw[if_neg (fun h=>h (hlt 1 (by omega) (by omega))),if_neg (fun h=>h (hlt 2 (by omega) (by omega))),if_pos hne]
 · rw[if_neg (fun h=>h (hlt 1 (by omega) (by omega))),if_neg (fun h=>h (hlt 2 (by omega) (by omega))),if_neg (fun h=>h (hlt 3 (by omega) (by omega))),if_pos hne]
theorem JcB{p:QR}{ms:List Nat}(h:∀u,1≤u→u<5→Ue p u ms=ms):Z3 p ms=0:=by
 unfold Z3
 rw[if_neg (fun k=>k (h 1 (by omega) (by omega))),if_neg (fun k=>k (h 2 (by omega) (by omega))),if_neg (fun k=>k (h 3 (by omega) (by omega))),if_neg (fun k=>k (h 4 (by omega) (by omega)))]
theorem Jh5{p:QR}{ms:List Nat}(h:Z3 p ms≠0):Ue p (Z3 p ms) ms≠ms:=by
 unfold Z3 at h⊢
 by_cases h1:Ue p 1 ms≠ms
 · rw[if_pos h1];exact h1
 rw[if_neg h1]at h⊢
 by_cases h2:Ue p 2 ms≠ms
 · rw[if_pos h2];exact h2
 rw[if_neg h2]at h⊢
 by_cases h3:Ue p 3 ms≠ms
 · rw[if_pos h3];exact h3
 rw[if_neg h3]at h⊢
 by_cases h4:Ue p 4 ms≠ms
 · rw[if_pos h4];exact h4
 rw[if_neg h4]at h
 exact absurd rfl h
end Go.Lg
