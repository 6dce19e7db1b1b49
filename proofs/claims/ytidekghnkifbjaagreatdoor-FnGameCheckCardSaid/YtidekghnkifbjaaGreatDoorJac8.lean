/- GpME, GpMF, GpMG, cut to what is needed. -/
import Derived.Test.YtidekghnkifbjaaGreatDoorJac7
open List renaming cons_append → Ja, nil_append → Jc, replicate → Jd, length_cons → Je, length_nil → Jf, length_append → Jk, length_set → Jo, getElem?_eq_getElem → Jq, append_assoc → Jt, append_nil → Ju, getElem?_eq_none → Jz, drop_zero → JQ, getElem?_map → Qu, sum_cons → Vy
open Nat renaming reduceAdd→zA,reduceMul→zM,reduceSub→zS,reduceEqDiff→zE,reduceLeDiff→zL
set_option linter.unusedSimpArgs false
set_option linter.unusedVariables false
set_option maxRecDepth 100000
namespace Go.Lg
open Go.Proofs
theorem Jg2(k:IntKind)(a:Int)(k':IntKind)(b:Int)(h:0≤b):UC .shr k a k' b=some (.int k (a.fdiv (2^min b.toNat k.bits))):=by
 simp only[UC]
 rw[if_neg (by omega)]
theorem Jk9{m:Nat}(h:m<32):IntKind.u64.wrap (m:Int)=(m:Int):=by
 have key:∀m:Nat,m<32→IntKind.u64.wrap (m:Int)=(m:Int):=by decide+kernel
 exact key m h
theorem YN(m:Nat)(h:m≤30∧m%2=0):JW Tryz.prog 166 [.c (.f (.int .u64 (m:Int)))] (int (Z5 m 4).length):=by
 refine Jn.cw (c:=_) Tryz.func166 rfl (n:=35) Tryz.ntmps166 (rs:=[.tmp 2]) rfl ?_
 simp only[Je,Jf,zA,zS,Jd,Ja,Jc]
 simp(maxSteps:=999999)(disch:=omega)only[go_sem,zA,zM,zS,zE,zL,Jg2]
 have hm:m=0∨m=2∨m=4∨m=6∨m=8∨m=10∨m=12∨m=14∨m=16∨m=18∨m=20∨m=22∨m=24∨m=26∨m=28∨m=30:=by omega
 clear h
 rcases hm with rfl|rfl|rfl|rfl|rfl|rfl|rfl|rfl|rfl|rfl|rfl|rfl|rfl|rfl|rfl|rfl<;>decide+kernel
theorem Jab(m:Nat)(h:m≤30∧m%2=0):JW Tryz.prog 157 [.c (.f (.int .u64 (m:Int)))] (int (Z5 m 4).length):=by
 refine Jn.cw (c:=_) Tryz.func157 rfl (n:=8) Tryz.ntmps157 (rs:=[.tmp 2]) rfl ?_
 simp only[Je,Jf,zA,zS,Jd,Ja,Jc]
 simp(maxSteps:=999999)(disch:=omega)only[go_sem,zA,zM,zS,zE,zL]
 first|refine JY.rd (YN m h) (⟨_,Tryz.func166,rfl,rfl⟩:Jh Tryz.prog 166) rfl rfl rfl rfl ?_|refine JM.rd (YN m h) (⟨_,Tryz.func166,rfl,rfl⟩:Jh Tryz.prog 166) rfl rfl rfl rfl ?_
 simp(maxSteps:=999999)(disch:=omega)only[go_sem,zA,zM,zS,zE,zL]
def NS(ms:List Nat)(n line i j k:Nat):List (Nat×Nat):=if Vw n line k≠Vw n line i∧Vw n line k≠Vw n line j then[(Vw n line k,QH ms (Vw n line i))]else[]
def JdU(ms:List Nat)(n line i j:Nat):List (Nat×Nat):=if QH ms (Vw n line i)=QH ms (Vw n line j)∧(Z5 (QH ms (Vw n line i)) 4).length=2 then(List.range n).flatMap (NS ms n line i j)else[]
def JfV(ms:List Nat)(n line i:Nat):List (Nat×Nat):=(List.range (n -(i+1))).flatMap fun t=>JdU ms n line i (i+1+t)
def JfW(ms:List Nat)(n line:Nat):List (Nat×Nat):=(List.range n).flatMap (JfV ms n line)
def NR(ms:List Nat)(n:Nat):List Nat:=Q8 ((List.range (2*n)).flatMap (JfW ms n)) ms
def K1(ms:List Nat)(n line i j k:Nat):List (Nat×Nat):=if k≠i∧k≠j then[(Vw n line k,QH ms (Vw n line i))]else[]
def GD(ms:List Nat)(n line i j:Nat):List (Nat×Nat):=if QH ms (Vw n line i)=QH ms (Vw n line j)∧(Z5 (QH ms (Vw n line i)) 4).length=2 then(List.range n).flatMap (K1 ms n line i j)else[]
def Jas(ms:List Nat)(n line i:Nat):List (Nat×Nat):=(List.range i).flatMap fun j=>GD ms n line i j
def Fl(ms:List Nat)(n line:Nat):List (Nat×Nat):=(List.range n).flatMap (Jas ms n line)
theorem Jbg{n line i j:Nat}(hn:n=2∨n=3∨n=4)(hl:line<2*n)(hi:i<n)(hj:j<n):Vw n line i=Vw n line j↔i=j:=by
 constructor
 · intro h
   unfold Vw at h
   rw[Wi hi,Wi hj]at h
   split at h
   · rcases hn with rfl|rfl|rfl<;>omega
   · rcases hn with rfl|rfl|rfl<;>omega
 · rintro rfl;rfl
theorem Je0{n:Nat}(hn:n=2∨n=3∨n=4)(ms:List Nat){line:Nat}(hl:line<2*n)(q:Nat×Nat):q∈JfW ms n line↔∃x y k:Nat,x<y∧y<n∧k<n∧(QH ms (Vw n line x)=QH ms (Vw n line y)∧(Z5 (QH ms (Vw n line x)) 4).length=2)∧(k≠x∧k≠y)∧q=(Vw n line k,QH ms (Vw n line x)):=by
 unfold JfW JfV JdU
 rw[List.mem_flatMap]
 constructor
 · rintro⟨x,hx,hq⟩
   obtain⟨t,ht,hq⟩:=List.mem_flatMap.1 hq
   have hx:=List.mem_range.1 hx
   have ht:=List.mem_range.1 ht
   split at hq
   · rename_i hm
     obtain⟨k,hk,hq⟩:=List.mem_flatMap.1 hq
     have hk:=List.mem_range.1 hk
     unfold NS at hq
     split at hq
     · rename_i hne
       exact⟨x,x+1+t,k,by omega,by omega,hk,hm,⟨fun h=>hne.1 (by rw[h]),fun h=>hne.2 (by rw[h])⟩,by simpa using hq⟩
     · cases hq
   · cases hq
 · rintro⟨x,y,k,h1,h2,h3,h4,h5,rfl⟩
   refine⟨x,List.mem_range.2 (by omega),List.mem_flatMap.2 ⟨y -(x+1),List.mem_range.2 (by omega), ?_⟩⟩
   rw[show x+1+(y -(x+1))=y by omega,if_pos h4]
   refine List.mem_flatMap.2 ⟨k,List.mem_range.2 h3, ?_⟩
   unfold NS
   rw[if_pos ⟨fun h=>h5.1 ((Jbg hn hl h3 (by omega)).1 h),fun h=>h5.2 ((Jbg hn hl h3 h2).1 h)⟩]
   simp
theorem Jcu{n:Nat}(ms:List Nat){line:Nat}(q:Nat×Nat):q∈Fl ms n line↔∃x y k:Nat,x<y∧y<n∧k<n∧(QH ms (Vw n line x)=QH ms (Vw n line y)∧(Z5 (QH ms (Vw n line x)) 4).length=2)∧(k≠x∧k≠y)∧q=(Vw n line k,QH ms (Vw n line x)):=by
 unfold Fl Jas GD
 rw[List.mem_flatMap]
 constructor
 · rintro⟨y,hy,hq⟩
   obtain⟨x,hx,hq⟩:=List.mem_flatMap.1 hq
   have hy:=List.mem_range.1 hy
   have hx:=List.mem_range.1 hx
   split at hq
   · rename_i hm
     obtain⟨k,hk,hq⟩:=List.mem_flatMap.1 hq
     have hk:=List.mem_range.1 hk
     unfold K1 at hq
     split at hq
     · rename_i hne
       refine⟨x,y,k,hx,hy,hk,⟨hm.1.symm,by rw[←hm.1];exact hm.2⟩,⟨hne.2,hne.1⟩, ?_⟩
       rw[←hm.1];simpa using hq
     · cases hq
   · cases hq
 · rintro⟨x,y,k,h1,h2,h3,h4,h5,rfl⟩
   refine⟨y,List.mem_range.2 h2,List.mem_flatMap.2 ⟨x,List.mem_range.2 h1, ?_⟩⟩
   rw[if_pos ⟨h4.1.symm,by rw[←h4.1];exact h4.2⟩]
   refine List.mem_flatMap.2 ⟨k,List.mem_range.2 h3, ?_⟩
   unfold K1
   rw[if_pos ⟨h5.2,h5.1⟩,h4.1]
   simp
theorem JhT{n:Nat}(hn:n=2∨n=3∨n=4){ms:List Nat}(h:Xv ms n):Q8 ((List.range (2*n)).flatMap (Fl ms n)) ms=NR ms n:=by
 refine Jdg (fun k=>by have:=h.lt hn k;omega) fun q=> ?_
 rw[List.mem_flatMap,List.mem_flatMap]
 constructor
 · rintro⟨i,hi,hq⟩;exact⟨i,hi,(Je0 hn ms (List.mem_range.1 hi) q).2 ((Jcu ms q).1 hq)⟩
 · rintro⟨i,hi,hq⟩;exact⟨i,hi,(Jcu ms q).2 ((Je0 hn ms (List.mem_range.1 hi) q).1 hq)⟩
end Go.Lg

namespace Go.Lg
open Go.Proofs
set_option maxHeartbeats 8000000 in
theorem FX{n:Nat}(hn:n=2∨n=3∨n=4)(ms:List Nat)(hm:Xv ms n):JW Tryz.prog 139 [QG (JR ms),int n] (QG (JR (NR ms n))):=by
 have hsq:4≤n*n∧n*n≤16:=by rcases hn with rfl|rfl|rfl<;>omega
 have hl:(JR ms).length=n*n:=by rw[Qp];exact hm.len
 have hn4:2≤n∧n≤4:=by omega
 refine JW.own ?_
 refine Jn.cw (c:=_) Tryz.func139 rfl (n:=91) Tryz.ntmps139 (rs:=[.tmp 4]) rfl ?_
 simp only[Je,Jf,zA,zS,Jd,Ja,Jc]
 simp(maxSteps:=999999)(disch:=omega)only[go_sem,zA,zM,zS,zE,zL]
 first|refine JY.rd (ZN hn ms hm) (⟨_,Tryz.func156,rfl,rfl⟩:Jh Tryz.prog 156) rfl rfl rfl rfl ?_|refine JM.rd (ZN hn ms hm) (⟨_,Tryz.func156,rfl,rfl⟩:Jh Tryz.prog 156) rfl rfl rfl rfl ?_
 simp(maxSteps:=999999)(disch:=omega)only[go_sem,zA,zM,zS,zE,zL]
 refine JY.mkQ (F8 (JR ms) (by omega) (by intro h;rw[h]at hl;simp at hl;omega)) (⟨_,Tryz.func89,rfl,rfl⟩:Jh Tryz.prog 89) rfl rfl rfl ?_
 rintro _ _ ⟨g,rfl,rfl⟩
 refine⟨rfl, ?_⟩
 simp(maxSteps:=999999)(disch:=omega)only[go_sem,zA,zM,zS,zE,zL]
 rw[hl]
 refine JT (fun i:Nat=>2*n -i) (fun i=>i≤2*n) (fun i=>[.k, .k, .a, .a, .a, .k, .a, .a, .a, .a, .a, .a, .a, .a, .a, .a, .a, .a, .a, .a, .a, .k, .p (int i), .a, .a, .a, .a, .a, .a, .a, .a, .a, .a, .a, .a, .a, .a, .a, .a, .a, .a, .a, .a, .a, .a, .a, .a, .a, .a, .a, .a, .a, .a, .a, .a, .a, .a, .a, .a, .a, .a, .a, .a, .a, .a, .a, .a, .a, .a, .a, .a, .a, .a, .a, .a, .a, .a, .a, .a, .a, .a, .a, .a, .a, .a, .a, .a, .a, .a, .a, .a]) (fun i=>[some ⟨g,1,cl (eI .i64) (JR (Q8 ((List.range i).flatMap (JfW ms n)) ms))⟩]) 0 (Nat.zero_le _) (by simp(maxSteps:=999999)(disch:=omega)only[go_sem,zA,zM,zS,zE,zL];rfl) (J0.refl _) ?_
 intro i hi
 have hrs:=ZO (JfW ms n) i
 have hok:=fun R=>WS R hm
 have hlt:=fun R k=>(hok R).lt hn k
 have hll:=fun R:List (Nat×Nat)=>(V0 R ms).trans hm.len
 generalize hR:(List.range i).flatMap (JfW ms n)=R at hrs⊢
 simp(maxSteps:=999999)(disch:=omega)only[go_sem,zA,zM,zS,zE,zL]
 ((first|(with_reducible first|refine Jl ?_ ?_|refine Jj ?_ ?_|refine Jp ?_ ?_)|refine Jr ?_ ?_)<;>intro h1)
 · have h1:i<2*n:=by omega
   have hlc:=Ud n i
   simp(maxSteps:=999999)(disch:=omega)only[go_sem,zA,zM,zS,zE,zL]
   first|refine JY.mk (UH hn h1) (⟨_,Tryz.func124,rfl,rfl⟩:Jh Tryz.prog 124) rfl rfl rfl rfl rfl ?_|refine JM.mk (UH hn h1) (⟨_,Tryz.func124,rfl,rfl⟩:Jh Tryz.prog 124) rfl rfl rfl rfl rfl ?_
   simp(maxSteps:=999999)(disch:=omega)only[go_sem,zA,zM,zS,zE,zL]
   refine JT (fun x:Nat=>n -x) (fun x=>x≤n) (fun x=>[.k, .k, .a, .a, .a, .k, .a, .k, .a, .a, .a, .a, .a, .a, .a, .a, .a, .a, .a, .a, .a, .k, .k, .a, .a, .a, .a, .a, .k, .k, .p (int x), .a, .a, .a, .a, .a, .a, .a, .a, .a, .a, .a, .a, .a, .a, .a, .a, .a, .a, .a, .a, .a, .a, .a, .a, .a, .a, .a, .a, .a, .a, .a, .a, .a, .a, .a, .a, .a, .a, .a, .a, .a, .a, .a, .a, .a, .a, .a, .a, .a, .a, .a, .a, .a, .a, .a, .a, .a, .a, .a, .a]) (fun x=>[some ⟨g,1,cl (eI .i64) (JR (Q8 (R++(List.range x).flatMap (JfV ms n i)) ms))⟩]) 0 (Nat.zero_le _) (by simp(maxSteps:=999999)(disch:=omega)only[go_sem,zA,zM,zS,zE,zL];rfl) (by simp only[List.range_zero,List.flatMap_nil,Ju];exact J0.refl _) ?_
   intro x hx
   have hks:=ZO (JfV ms n i) x
   generalize hS:(List.range x).flatMap (JfV ms n i)=S at hks⊢
   simp(maxSteps:=999999)(disch:=omega)only[go_sem,zA,zM,zS,zE,zL]
   ((first|(with_reducible first|refine Jl ?_ ?_|refine Jj ?_ ?_|refine Jp ?_ ?_)|refine Jr ?_ ?_)<;>intro h2)
   · have h2:x<n:=by omega
     obtain⟨ha1,ha2⟩:=Xc hn h1 h2
     have hI:JfV ms n i x=(List.range (n -(x+1))).flatMap fun t=>JdU ms n i x (x+1+t):=rfl
     simp(maxSteps:=999999)(disch:=omega)only[go_sem,zA,zM,zS,zE,zL,ha2]
     have hsl:(sub (Zf n i) ((x:Int)+1) ((Zf n i).length:Nat)).length=n -(x+1):=by have:=Gn (xs:=Zf n i) (a:=(x:Int)+1) (b:=((Zf n i).length:Nat)) (by omega);omega
     have hsn:∀t:Nat,t<n -(x+1)→JA (sub (Zf n i) ((x:Int)+1) ((Zf n i).length:Nat)) t=JA (Zf n i) ((x+1+t:Nat):Int):=fun t ht=>by rw[Jkc (by omega) (by omega)];congr 1
     generalize sub (Zf n i) ((x:Int)+1) ((Zf n i).length:Nat)=L at hsl hsn⊢
     refine JT (fun t:Nat=>n -(x+1) -t) (fun t=>t≤n -(x+1)) (fun t=>[.k, .k, .a, .a, .a, .k, .a, .k, .a, .k, .a, .a, .a, .a, .a, .a, .a, .a, .a, .a, .a, .k, .k, .a, .a, .a, .a, .a, .k, .k, .k, .a, .a, .a, .a, .a, .a, .a, .k, .k, .p (int t), .a, .a, .a, .a, .a, .a, .a, .a, .a, .a, .a, .a, .a, .a, .a, .a, .a, .a, .a, .a, .a, .a, .a, .a, .a, .a, .a, .a, .a, .a, .a, .a, .a, .a, .a, .a, .a, .a, .a, .a, .a, .a, .a, .a, .a, .a, .a, .a, .a, .a]) (fun t=>[some ⟨g,1,cl (eI .i64) (JR (Q8 (R++(S++(List.range t).flatMap fun t=>JdU ms n i x (x+1+t))) ms))⟩]) 0 (Nat.zero_le _) (by simp(maxSteps:=999999)(disch:=omega)only[go_sem,zA,zM,zS,zE,zL];rfl) (by simp only[List.range_zero,List.flatMap_nil,Ju];exact J0.refl _) ?_
     intro t ht
     have hts:=ZO (fun t=>JdU ms n i x (x+1+t)) t
     generalize hT:((List.range t).flatMap fun t=>JdU ms n i x (x+1+t))=T at hts⊢
     simp(maxSteps:=999999)(disch:=omega)only[go_sem,zA,zM,zS,zE,zL]
     ((first|(with_reducible first|refine Jl ?_ ?_|refine Jj ?_ ?_|refine Jp ?_ ?_)|refine Jr ?_ ?_)<;>intro h3)
     · have h3:t<n -(x+1):=by omega
       have hbn:=hsn t h3
       obtain⟨hb1,hb2⟩:=Xc hn h1 (k:=x+1+t) (by omega)
       rw[hb2]at hbn
       have hP:JdU ms n i x (x+1+t)=if QH ms (Vw n i x)=QH ms (Vw n i (x+1+t))∧(Z5 (QH ms (Vw n i x)) 4).length=2 then(List.range n).flatMap (NS ms n i x (x+1+t))else[]:=rfl
       have hK:∀k,NS ms n i x (x+1+t) k=if Vw n i k≠Vw n i x∧Vw n i k≠Vw n i (x+1+t)then[(Vw n i k,QH ms (Vw n i x))]else[]:=fun k=>rfl
       generalize Vw n i (x+1+t)=b at hbn hb1 hP hK
       generalize Vw n i x=a at ha1 ha2 hP hK
       have hma:=Za ms a
       have hmb:=Za ms b
       have hma2:=hm.lt hn a
       simp(maxSteps:=999999)(disch:=omega)only[go_sem,zA,zM,zS,zE,zL,hbn]
       refine Zj Zd (by kernel_rfl) ?_
       simp(maxSteps:=999999)(disch:=omega)only[go_sem,Nat.reduceBEq,Bool.true_or,zA,zM,zS,zE,zL]
       simp(maxSteps:=999999)(disch:=omega)only[go_sem,zA,zM,zS,zE,zL,hma,hmb]
       ((with_reducible first|refine JH ?_ ?_|refine JD ?_ ?_|refine JP ?_ ?_|refine Jv ?_ ?_|refine JF ?_ ?_|refine JG ?_ ?_|refine JB ?_ ?_|refine JC ?_ ?_|refine JN ?_ ?_|refine JO ?_ ?_|refine Jw ?_ ?_|refine Jx ?_ ?_)<;>intro h4<;>simp(maxSteps:=999999)(disch:=omega)only[go_sem,zA,zM,zS,zE,zL,h4])
       rotate_left
       · rw[if_neg (fun h=>h4 (by rw[h.1]))]at hP
         exact⟨t+1,⟨by omega,by omega⟩,by push_cast;rfl,by rw[hts,hP,Ju];exact J0.refl _⟩
       have h4:QH ms a=QH ms b:=by omega
       have hwu:=Jk9 (m:=QH ms a) (by omega)
       simp(maxSteps:=999999)(disch:=omega)only[go_sem,zA,zM,zS,zE,zL,hma,hwu]
       refine QY.rd (Jab (QH ms a) hma2) (⟨_,Tryz.func157,rfl,rfl⟩:Jh Tryz.prog 157) rfl rfl rfl rfl ?_
       simp(maxSteps:=999999)(disch:=omega)only[go_sem,zA,zM,zS,zE,zL]
       ((first|(with_reducible first|refine Jl ?_ ?_|refine Jj ?_ ?_|refine Jp ?_ ?_)|refine Jr ?_ ?_)<;>intro h5)
       rotate_left
       · rw[if_neg (fun h=>h5 (by rw[h.2];rfl))]at hP
         simp(maxSteps:=999999)(disch:=omega)only[go_sem,zA,zM,zS,zE,zL]
         exact⟨t+1,⟨by omega,by omega⟩,by push_cast;rfl,by rw[hts,hP,Ju];exact J0.refl _⟩
       have h5:(Z5 (QH ms a) 4).length=2:=by omega
       rw[if_pos ⟨h4,h5⟩]at hP
       simp(maxSteps:=999999)(disch:=omega)only[go_sem,zA,zM,zS,zE,zL]
       refine JT (fun k:Nat=>n -k) (fun k=>k≤n) (fun k=>[.k, .k, .a, .a, .a, .k, .a, .k, .a, .k, .a, .k, .a, .a, .a, .a, .a, .a, .a, .a, .a, .k, .k, .a, .a, .a, .a, .a, .k, .k, .k, .a, .a, .a, .a, .a, .a, .a, .k, .k, .k, .a, .a, .a, .a, .a, .a, .a, .a, .a, .a, .a, .a, .a, .a, .a, .a, .a, .a, .a, .a, .a, .k, .k, .p (int k), .a, .a, .a, .a, .a, .a, .a, .a, .a, .a, .a, .a, .a, .a, .a, .a, .a, .a, .a, .a, .a, .a, .a, .a, .a, .a]) (fun k=>[some ⟨g,1,cl (eI .i64) (JR (Q8 (R++(S++(T++(List.range k).flatMap (NS ms n i x (x+1+t))))) ms))⟩]) 0 (Nat.zero_le _) (by simp(maxSteps:=999999)(disch:=omega)only[go_sem,zA,zM,zS,zE,zL];rfl) (by simp only[List.range_zero,List.flatMap_nil,Ju];exact J0.refl _) ?_
       intro k hk
       have hus:=ZO (NS ms n i x (x+1+t)) k
       generalize hU:(List.range k).flatMap (NS ms n i x (x+1+t))=U at hus⊢
       simp(maxSteps:=999999)(disch:=omega)only[go_sem,zA,zM,zS,zE,zL]
       ((first|(with_reducible first|refine Jl ?_ ?_|refine Jj ?_ ?_|refine Jp ?_ ?_)|refine Jr ?_ ?_)<;>intro h6)
       · have h6:k<n:=by omega
         have hK:=hK k
         obtain⟨hc1,hc2⟩:=Xc hn h1 h6
         generalize Vw n i k=c at hc1 hc2 hK
         generalize hQ:R++(S++(T++U))=Q
         have hQn:=Za (Q8 Q ms) c
         have hQl:(JR (Q8 Q ms)).length=n*n:=by rw[Qp];exact hll Q
         have hQc:Ug .andNot .i64 ((QH (Q8 Q ms) c:Nat):Int) ((QH ms a:Nat):Int)=((BC (QH (Q8 Q ms) c) (QH ms a):Nat):Int):=Vk (by have:=(hlt Q c).1;omega) (by omega)
         have hyes:(c≠a∧c≠b)→R++(S++(T++(List.range (k+1)).flatMap (NS ms n i x (x+1+t))))=Q++[(c,QH ms a)]:=fun h=>by rw[hus,hK,if_pos h,←hQ];simp only[Jt]
         have hnot:¬(c≠a∧c≠b)→R++(S++(T++(List.range (k+1)).flatMap (NS ms n i x (x+1+t))))=Q:=fun h=>by rw[hus,hK,if_neg h,Ju,hQ]
         simp(maxSteps:=999999)(disch:=omega)only[go_sem,zA,zM,zS,zE,zL,hc2]
         ((with_reducible first|refine JH ?_ ?_|refine JD ?_ ?_|refine JP ?_ ?_|refine Jv ?_ ?_|refine JF ?_ ?_|refine JG ?_ ?_|refine JB ?_ ?_|refine JC ?_ ?_|refine JN ?_ ?_|refine JO ?_ ?_|refine Jw ?_ ?_|refine Jx ?_ ?_)<;>intro h7<;>simp(maxSteps:=999999)(disch:=omega)only[go_sem,zA,zM,zS,zE,zL,h7])
         · exact⟨k+1,⟨by omega,by omega⟩,by push_cast;rfl,by rw[hnot (by omega)];exact J0.refl _⟩
         ((first|(with_reducible first|refine Jl ?_ ?_|refine Jj ?_ ?_|refine Jp ?_ ?_)|refine Jr ?_ ?_)<;>intro h8)
         · simp(maxSteps:=999999)(disch:=omega)only[go_sem,zA,zM,zS,zE,zL]
           exact⟨k+1,⟨by omega,by omega⟩,by push_cast;rfl,by rw[hnot (by omega)];exact J0.refl _⟩
         · simp(maxSteps:=999999)(disch:=omega)only[go_sem,zA,zM,zS,zE,zL]
           refine Z9 [0,1,2,3,4,5,6,7] [] none [8,9,10] [] Zd (by kernel_rfl) ?_
           simp(maxSteps:=999999)(disch:=omega)only[go_sem,Nat.reduceBEq,Bool.true_or,zA,zM,zS,zE,zL]
           simp(maxSteps:=999999)(disch:=omega)only[go_sem,zA,zM,zS,zE,zL,hQn,hQl,hQc,hma]
           exact⟨k+1,⟨by omega,by omega⟩,by push_cast;rfl,by rw[hyes (by omega),WA,←Vv,←hQc];exact J0.refl _⟩
       · have hke:k=n:=by omega
         rw[hke]at hU
         simp(maxSteps:=999999)(disch:=omega)only[go_sem,zA,zM,zS,zE,zL]
         exact⟨t+1,⟨by omega,by omega⟩,by push_cast;rfl,by rw[hts,hP,hU];exact J0.refl _⟩
     · have hte:t=n -(x+1):=by omega
       rw[hte]at hT
       simp(maxSteps:=999999)(disch:=omega)only[go_sem,zA,zM,zS,zE,zL]
       exact⟨x+1,⟨by omega,by omega⟩,by push_cast;rfl,by rw[hks,hI,hT];exact J0.refl _⟩
   · have hke:x=n:=by omega
     rw[hke]at hS
     simp(maxSteps:=999999)(disch:=omega)only[go_sem,zA,zM,zS,zE,zL]
     exact⟨i+1,⟨by omega,by omega⟩,by push_cast;rfl,by rw[hrs,←hS];exact J0.refl _⟩
 · skip
   have hie:i=2*n:=by omega
   rw[hie]at hR
   have hM:Q8 R ms=NR ms n:=by rw[←hR]<;>rfl
   have hl2:(JR (NR ms n)).length=n*n:=by rw[Qp,←hM];exact hll R
   rw[hM]
   simp(maxSteps:=999999)(disch:=omega)only[go_sem,zA,zM,zS,zE,zL]
   rw[←hl2]
   exact ZD (E:=eI .i64) (n:=1) (J0.refl _)
set_option maxHeartbeats 8000000 in
theorem BI{n:Nat}(hn:n=2∨n=3∨n=4)(ms:List Nat)(hm:Xv ms n):JW Tryz.prog 134 [QG (JR ms),int n] (QG (JR (NR ms n))):=by
 have hsq:4≤n*n∧n*n≤16:=by rcases hn with rfl|rfl|rfl<;>omega
 have hl:(JR ms).length=n*n:=by rw[Qp];exact hm.len
 have hn4:2≤n∧n≤4:=by omega
 rw[←JhT hn hm]
 refine JW.own ?_
 refine Jn.cw (c:=_) Tryz.func134 rfl (n:=89) Tryz.ntmps134 (rs:=[.tmp 4]) rfl ?_
 simp only[Je,Jf,zA,zS,Jd,Ja,Jc]
 simp(maxSteps:=999999)(disch:=omega)only[go_sem,zA,zM,zS,zE,zL]
 first|refine JY.rd (Zh hn (JR ms) hm.ok) (⟨_,Tryz.func131,rfl,rfl⟩:Jh Tryz.prog 131) rfl rfl rfl rfl ?_|refine JM.rd (Zh hn (JR ms) hm.ok) (⟨_,Tryz.func131,rfl,rfl⟩:Jh Tryz.prog 131) rfl rfl rfl rfl ?_
 simp(maxSteps:=999999)(disch:=omega)only[go_sem,zA,zM,zS,zE,zL]
 refine JY.mkQ (Yl (JR ms) (by omega) (by intro h;rw[h]at hl;simp at hl;omega)) (⟨_,Tryz.func153,rfl,rfl⟩:Jh Tryz.prog 153) rfl rfl rfl ?_
 rintro _ _ ⟨g,rfl,rfl⟩
 refine⟨rfl, ?_⟩
 simp(maxSteps:=999999)(disch:=omega)only[go_sem,zA,zM,zS,zE,zL]
 rw[hl]
 refine JT (fun i:Nat=>2*n -i) (fun i=>i≤2*n) (fun i=>[.k, .k, .a, .a, .a, .k, .p (int i), .a, .a, .a, .a, .a, .a, .a, .a, .a, .a, .a, .a, .a, .a, .a, .a, .a, .a, .a, .a, .a, .a, .a, .a, .a, .a, .a, .a, .a, .a, .a, .a, .a, .a, .a, .a, .a, .a, .a, .a, .a, .a, .a, .a, .a, .a, .a, .a, .a, .a, .a, .a, .a, .a, .a, .a, .a, .a, .a, .a, .a, .a, .a, .a, .a, .a, .a, .a, .a, .a, .a, .a, .a, .a, .a, .a, .a, .a, .a, .a, .a, .a]) (fun i=>[some ⟨g,1,cl (eI .i64) (JR (Q8 ((List.range i).flatMap (Fl ms n)) ms))⟩]) 0 (Nat.zero_le _) (by simp(maxSteps:=999999)(disch:=omega)only[go_sem,zA,zM,zS,zE,zL];rfl) (J0.refl _) ?_
 intro i hi
 have hrs:=ZO (Fl ms n) i
 have hok:=fun R=>WS R hm
 have hlt:=fun R k=>(hok R).lt hn k
 have hll:=fun R:List (Nat×Nat)=>(V0 R ms).trans hm.len
 generalize hR:(List.range i).flatMap (Fl ms n)=R at hrs⊢
 simp(maxSteps:=999999)(disch:=omega)only[go_sem,zA,zM,zS,zE,zL]
 ((first|(with_reducible first|refine Jl ?_ ?_|refine Jj ?_ ?_|refine Jp ?_ ?_)|refine Jr ?_ ?_)<;>intro h1)
 · have h1:i<2*n:=by omega
   have hlc:=Ud n i
   simp(maxSteps:=999999)(disch:=omega)only[go_sem,zA,zM,zS,zE,zL]
   first|refine JY.mk (U6 hn h1) (⟨_,Tryz.func154,rfl,rfl⟩:Jh Tryz.prog 154) rfl rfl rfl rfl rfl ?_|refine JM.mk (U6 hn h1) (⟨_,Tryz.func154,rfl,rfl⟩:Jh Tryz.prog 154) rfl rfl rfl rfl rfl ?_
   simp(maxSteps:=999999)(disch:=omega)only[go_sem,zA,zM,zS,zE,zL]
   refine JT (fun y:Nat=>n -y) (fun y=>y≤n) (fun y=>[.k, .k, .a, .a, .a, .k, .k, .k, .p (int y), .a, .a, .a, .a, .a, .a, .a, .a, .a, .a, .a, .a, .a, .a, .a, .a, .a, .a, .a, .a, .a, .a, .a, .a, .a, .a, .a, .a, .a, .a, .a, .a, .a, .a, .a, .a, .a, .a, .a, .a, .a, .a, .a, .a, .a, .a, .a, .a, .a, .a, .a, .a, .a, .a, .a, .a, .a, .a, .a, .a, .a, .a, .a, .a, .a, .a, .a, .a, .a, .a, .a, .a, .a, .a, .a, .a, .a, .a, .a, .a]) (fun y=>[some ⟨g,1,cl (eI .i64) (JR (Q8 (R++(List.range y).flatMap (Jas ms n i)) ms))⟩]) 0 (Nat.zero_le _) (by simp(maxSteps:=999999)(disch:=omega)only[go_sem,zA,zM,zS,zE,zL];rfl) (by simp only[List.range_zero,List.flatMap_nil,Ju];exact J0.refl _) ?_
   intro y hy
   have hks:=ZO (Jas ms n i) y
   generalize hS:(List.range y).flatMap (Jas ms n i)=S at hks⊢
   simp(maxSteps:=999999)(disch:=omega)only[go_sem,zA,zM,zS,zE,zL]
   ((first|(with_reducible first|refine Jl ?_ ?_|refine Jj ?_ ?_|refine Jp ?_ ?_)|refine Jr ?_ ?_)<;>intro h2)
   · have h2:y<n:=by omega
     obtain⟨ha1,ha2⟩:=Xc hn h1 h2
     have hI:Jas ms n i y=(List.range y).flatMap fun x=>GD ms n i y x:=rfl
     simp(maxSteps:=999999)(disch:=omega)only[go_sem,zA,zM,zS,zE,zL]
     refine JT (fun x:Nat=>y -x) (fun x=>x≤y) (fun x=>[.k, .k, .a, .a, .a, .k, .k, .k, .k, .p (int x), .a, .a, .a, .a, .a, .a, .a, .a, .a, .a, .a, .a, .a, .a, .a, .a, .a, .a, .a, .a, .a, .a, .a, .a, .a, .a, .a, .a, .a, .a, .a, .a, .a, .a, .a, .a, .a, .a, .a, .a, .a, .a, .a, .a, .a, .a, .a, .a, .a, .a, .a, .a, .a, .a, .a, .a, .a, .a, .a, .a, .a, .a, .a, .a, .a, .a, .a, .a, .a, .a, .a, .a, .a, .a, .a, .a, .a, .a, .a]) (fun x=>[some ⟨g,1,cl (eI .i64) (JR (Q8 (R++(S++(List.range x).flatMap fun x=>GD ms n i y x)) ms))⟩]) 0 (Nat.zero_le _) (by simp(maxSteps:=999999)(disch:=omega)only[go_sem,zA,zM,zS,zE,zL];rfl) (by simp only[List.range_zero,List.flatMap_nil,Ju];exact J0.refl _) ?_
     intro x hx
     have hts:=ZO (fun x=>GD ms n i y x) x
     generalize hT:((List.range x).flatMap fun x=>GD ms n i y x)=T at hts⊢
     simp(maxSteps:=999999)(disch:=omega)only[go_sem,zA,zM,zS,zE,zL]
     ((first|(with_reducible first|refine Jl ?_ ?_|refine Jj ?_ ?_|refine Jp ?_ ?_)|refine Jr ?_ ?_)<;>intro h3)
     · have h3:x<y:=by omega
       obtain⟨hb1,hb2⟩:=Xc hn h1 (k:=x) (by omega)
       have hP:GD ms n i y x=if QH ms (Vw n i y)=QH ms (Vw n i x)∧(Z5 (QH ms (Vw n i y)) 4).length=2 then(List.range n).flatMap (K1 ms n i y x)else[]:=rfl
       have hK:∀k,K1 ms n i y x k=if k≠y∧k≠x then[(Vw n i k,QH ms (Vw n i y))]else[]:=fun k=>rfl
       generalize Vw n i x=b at hb1 hb2 hP hK
       generalize Vw n i y=a at ha1 ha2 hP hK
       have hma:=Za ms a
       have hmb:=Za ms b
       have hma2:=hm.lt hn a
       simp(maxSteps:=999999)(disch:=omega)only[go_sem,zA,zM,zS,zE,zL,ha2,hb2,hma,hmb]
       ((with_reducible first|refine JH ?_ ?_|refine JD ?_ ?_|refine JP ?_ ?_|refine Jv ?_ ?_|refine JF ?_ ?_|refine JG ?_ ?_|refine JB ?_ ?_|refine JC ?_ ?_|refine JN ?_ ?_|refine JO ?_ ?_|refine Jw ?_ ?_|refine Jx ?_ ?_)<;>intro h4<;>simp(maxSteps:=999999)(disch:=omega)only[go_sem,zA,zM,zS,zE,zL,h4])
       rotate_left
       · rw[if_neg (fun h=>h4 (by rw[h.1]))]at hP
         exact⟨x+1,⟨by omega,by omega⟩,by push_cast;rfl,by rw[hts,hP,Ju];exact J0.refl _⟩
       have h4:QH ms a=QH ms b:=by omega
       first|refine JY.mk (Z3 (QH ms b) (hm.lt hn b)) (⟨_,Tryz.func106,rfl,rfl⟩:Jh Tryz.prog 106) rfl rfl rfl rfl rfl ?_|refine JM.mk (Z3 (QH ms b) (hm.lt hn b)) (⟨_,Tryz.func106,rfl,rfl⟩:Jh Tryz.prog 106) rfl rfl rfl rfl rfl ?_
       simp(maxSteps:=999999)(disch:=omega)only[go_sem,zA,zM,zS,zE,zL]
       ((first|(with_reducible first|refine Jl ?_ ?_|refine Jj ?_ ?_|refine Jp ?_ ?_)|refine Jr ?_ ?_)<;>intro h5)
       rotate_left
       · rw[if_neg (fun h=>h5 (by rw[←h4,h.2];rfl))]at hP
         simp(maxSteps:=999999)(disch:=omega)only[go_sem,zA,zM,zS,zE,zL]
         exact⟨x+1,⟨by omega,by omega⟩,by push_cast;rfl,by rw[hts,hP,Ju];exact J0.refl _⟩
       have h5:(Z5 (QH ms a) 4).length=2:=by rw[h4];omega
       rw[if_pos ⟨h4,h5⟩]at hP
       simp(maxSteps:=999999)(disch:=omega)only[go_sem,zA,zM,zS,zE,zL]
       refine JT (fun k:Nat=>n -k) (fun k=>k≤n) (fun k=>[.k, .k, .a, .a, .a, .k, .k, .k, .k, .k, .k, .p (int k), .a, .a, .a, .a, .a, .a, .a, .a, .a, .a, .a, .a, .a, .a, .a, .a, .a, .a, .a, .a, .a, .a, .a, .a, .a, .a, .a, .a, .a, .a, .a, .a, .a, .a, .a, .a, .a, .a, .a, .a, .a, .a, .a, .a, .a, .a, .a, .a, .a, .a, .a, .a, .a, .a, .a, .a, .a, .a, .a, .a, .a, .a, .a, .a, .a, .a, .a, .a, .a, .a, .a, .a, .a, .a, .a, .a, .a]) (fun k=>[some ⟨g,1,cl (eI .i64) (JR (Q8 (R++(S++(T++(List.range k).flatMap (K1 ms n i y x)))) ms))⟩]) 0 (Nat.zero_le _) (by simp(maxSteps:=999999)(disch:=omega)only[go_sem,zA,zM,zS,zE,zL];rfl) (by simp only[List.range_zero,List.flatMap_nil,Ju];exact J0.refl _) ?_
       intro k hk
       have hus:=ZO (K1 ms n i y x) k
       generalize hU:(List.range k).flatMap (K1 ms n i y x)=U at hus⊢
       simp(maxSteps:=999999)(disch:=omega)only[go_sem,zA,zM,zS,zE,zL]
       ((first|(with_reducible first|refine Jl ?_ ?_|refine Jj ?_ ?_|refine Jp ?_ ?_)|refine Jr ?_ ?_)<;>intro h6)
       · have h6:k<n:=by omega
         have hK:=hK k
         obtain⟨hc1,hc2⟩:=Xc hn h1 h6
         generalize Vw n i k=c at hc1 hc2 hK
         generalize hQ:R++(S++(T++U))=Q
         have hQn:=Za (Q8 Q ms) c
         have hQl:(JR (Q8 Q ms)).length=n*n:=by rw[Qp];exact hll Q
         have hQc:Ug .andNot .i64 ((QH (Q8 Q ms) c:Nat):Int) ((QH ms a:Nat):Int)=((BC (QH (Q8 Q ms) c) (QH ms a):Nat):Int):=Vk (by have:=(hlt Q c).1;omega) (by omega)
         have hyes:(k≠y∧k≠x)→R++(S++(T++(List.range (k+1)).flatMap (K1 ms n i y x)))=Q++[(c,QH ms a)]:=fun h=>by rw[hus,hK,if_pos h,←hQ];simp only[Jt]
         have hnot:¬(k≠y∧k≠x)→R++(S++(T++(List.range (k+1)).flatMap (K1 ms n i y x)))=Q:=fun h=>by rw[hus,hK,if_neg h,Ju,hQ]
         simp(maxSteps:=999999)(disch:=omega)only[go_sem,zA,zM,zS,zE,zL]
         ((with_reducible first|refine JH ?_ ?_|refine JD ?_ ?_|refine JP ?_ ?_|refine Jv ?_ ?_|refine JF ?_ ?_|refine JG ?_ ?_|refine JB ?_ ?_|refine JC ?_ ?_|refine JN ?_ ?_|refine JO ?_ ?_|refine Jw ?_ ?_|refine Jx ?_ ?_)<;>intro h7<;>simp(maxSteps:=999999)(disch:=omega)only[go_sem,zA,zM,zS,zE,zL,h7])
         · exact⟨k+1,⟨by omega,by omega⟩,by push_cast;omega,by rw[hnot (by omega)];exact J0.refl _⟩
         ((first|(with_reducible first|refine Jl ?_ ?_|refine Jj ?_ ?_|refine Jp ?_ ?_)|refine Jr ?_ ?_)<;>intro h8)
         · simp(maxSteps:=999999)(disch:=omega)only[go_sem,zA,zM,zS,zE,zL]
           exact⟨k+1,⟨by omega,by omega⟩,by push_cast;omega,by rw[hnot (by omega)];exact J0.refl _⟩
         · simp(maxSteps:=999999)(disch:=omega)only[go_sem,zA,zM,zS,zE,zL]
           refine Z9 [0,1,2,3,4,5,6,7,8,9,10,11,12,13] [] none [14,15] [] Zd (by kernel_rfl) ?_
           simp(maxSteps:=999999)(disch:=omega)only[go_sem,Nat.reduceBEq,Bool.true_or,zA,zM,zS,zE,zL]
           simp(maxSteps:=999999)(disch:=omega)only[go_sem,zA,zM,zS,zE,zL,hc2,hQn,hQl,hQc]
           exact⟨k+1,⟨by omega,by omega⟩,by push_cast;rfl,by rw[hyes (by omega),WA,←Vv,←hQc,h4];exact J0.refl _⟩
       · have hke:k=n:=by omega
         rw[hke]at hU
         simp(maxSteps:=999999)(disch:=omega)only[go_sem,zA,zM,zS,zE,zL]
         exact⟨x+1,⟨by omega,by omega⟩,by push_cast;rfl,by rw[hts,hP,hU];exact J0.refl _⟩
     · have hte:x=y:=by omega
       rw[hte]at hT
       simp(maxSteps:=999999)(disch:=omega)only[go_sem,zA,zM,zS,zE,zL]
       exact⟨y+1,⟨by omega,by omega⟩,by push_cast;rfl,by rw[hks,hI,hT];exact J0.refl _⟩
   · have hke:y=n:=by omega
     rw[hke]at hS
     simp(maxSteps:=999999)(disch:=omega)only[go_sem,zA,zM,zS,zE,zL]
     exact⟨i+1,⟨by omega,by omega⟩,by push_cast;rfl,by rw[hrs,←hS];exact J0.refl _⟩
 · skip
   have hie:i=2*n:=by omega
   rw[hie]at hR
   have hM:Q8 R ms=Q8 ((List.range (2*n)).flatMap (Fl ms n)) ms:=by rw[←hR]<;>rfl
   have hl2:(JR (Q8 ((List.range (2*n)).flatMap (Fl ms n)) ms)).length=n*n:=by rw[Qp,←hM];exact hll R
   rw[hM]
   simp(maxSteps:=999999)(disch:=omega)only[go_sem,zA,zM,zS,zE,zL]
   rw[←hl2]
   exact ZD (E:=eI .i64) (n:=1) (J0.refl _)
end Go.Lg

namespace Go.Lg
open Go.Proofs
theorem Jj1{o:List Nat}{vs:List Int}(hl:vs.length=o.length){k b:Nat}(h:((orV o vs).getD k 0).testBit b=true):(o.getD k 0).testBit b=true∨(k<vs.length∧b=(JA vs k).toNat):=by
 unfold orV at h
 simp only[List.getD,List.getElem?_zipWith]at h
 by_cases hk:k<o.length
 · have hk2:k<vs.length:=by omega
   have e:JA vs k=vs[k]:=by rw[Qs (by omega)];rfl
   simp only[Jq hk,Jq hk2,Option.getD_some,Nat.testBit_or,Bool.or_eq_true,Nat.testBit_two_pow,decide_eq_true_eq]at h
   rcases h with h|h
   · left;simpa[List.getD,Jq hk]using h
   · right;exact⟨hk2,by rw[e];exact h.symm⟩
 · simp[Jz (show o.length≤k by omega)]at h
theorem JbV(r:ZS):∀(ms:List Nat) (pre:List Int) (o:List Nat),pre.length+ms.length=o.length→∀k b:Nat,((ZT r ms pre o).getD k 0).testBit b=true→
 (o.getD k 0).testBit b=true∨(k<pre.length∧b=(JA pre k).toNat)∨(pre.length≤k∧1≤b∧b≤4∧(ms.getD (k -pre.length) 0).testBit b=true)
 |[],pre,o,hl,k,b,h=>by
  unfold ZT at h
  split at h
  · rcases Jj1 (by simpa using hl) h with h|h
    · exact .inl h
    · exact .inr (.inl h)
  · exact .inl h
 |m::ms,pre,o,hl,k,b,h=>by
  rw[WW]at h
  have hl':pre.length+ms.length+1=o.length:=by simp at hl;omega
  have gen:∀(vs:List Int),(∀v∈vs,v∈Z5 m 4)→∀o':List Nat,o'.length=o.length→((vs.foldl (fun o v=>ZT r ms (pre++[v]) o) o').getD k 0).testBit b=true→
   (o'.getD k 0).testBit b=true∨(k<pre.length∧b=(JA pre k).toNat)∨(pre.length≤k∧1≤b∧b≤4∧((m::ms).getD (k -pre.length) 0).testBit b=true):=by
   intro vs
   induction vs with
   |nil=>intro _ o' _ h;exact .inl h
   |cons v vs ih=>
    intro hv o' ho h
    rw[List.foldl_cons]at h
    have hlw:(ZT r ms (pre++[v]) o').length=o'.length:=VO r ms _ _ (by simp;omega)
    rcases ih (fun u hu=>hv u (by simp[hu])) _ (by rw[hlw];exact ho) h with h|h
    · rcases JbV r ms (pre++[v]) o' (by simp;omega) k b h with h|⟨h1,h2⟩|⟨h1,h2,h3,h4⟩
      · exact .inl h
      · by_cases hk:k<pre.length
        · refine .inr (.inl ⟨hk, ?_⟩)
          rw[h2,Qs (by simp;omega),Qs (by omega)]
          simp only[Int.toNat_natCast,List.getElem_append_left hk]
        · have hk:k=pre.length:=by simp at h1;omega
          refine .inr (.inr ⟨by omega, ?_⟩)
          have e:JA (pre++[v]) k=v:=by
           rw[Qs (by simp;omega)]
           simp[hk]
          rw[e]at h2
          have hm:=hv v (by simp)
          have hb:=KI hm
          refine⟨by omega,by omega, ?_⟩
          rw[hk,Nat.sub_self,List.getD_cons_zero,h2]
          unfold Z5 at hm
          obtain⟨u,_,hu⟩:=List.mem_flatMap.1 hm
          split at hu
          · rename_i ht
            have:v=u:=by simpa using hu
            rw[this,Int.toNat_natCast];exact ht
          · cases hu
      · simp only[Jk,Je,Jf]at h1 h4
        refine .inr (.inr ⟨by omega,h2,h3, ?_⟩)
        rw[show k -pre.length=(k -(pre.length+1))+1 by omega,List.getD_cons_succ]
        exact h4
    · exact .inr h
  exact gen _ (fun v hv=>hv) o rfl h
theorem Jd8{a b:Nat}(h:∀i,a.testBit i=true→b.testBit i=true):a≤b:=by
 have:a&&&b=a:=by
  refine Nat.eq_of_testBit_eq fun i=> ?_
  rw[Nat.testBit_and]
  cases ha:a.testBit i
  · rfl
  · rw[h i ha];rfl
 rw[←this]
 exact Nat.and_le_right
theorem Jcj{r:ZS}{ms:List Nat}{k:Nat}(hk:k<r.cells.length){b:Nat}(h:((Zy r (JR ms)).getD k 0).testBit b=true):1≤b∧(QH ms (JA r.cells k).toNat).testBit b=true:=by
 unfold Zy at h
 have hl:(WN r (JR ms) 0).length=r.cells.length:=by unfold WN;simp
 rcases JbV r _ [] _ (by simp[hl]) k b h with h|h|⟨_,h1,_,h2⟩
 · simp[List.getD,hk]at h
 · simp at h
 · refine⟨h1, ?_⟩
   have e:(WN r (JR ms) 0).getD (k -([]:List Int).length) 0=QH ms (JA r.cells k).toNat:=by
    have e1:JA r.cells k=r.cells[k]:=by rw[Qs (by omega)];rfl
    unfold WN
    simp only[JQ,Jf,Nat.sub_zero,List.getD,Qu,Jq hk,Option.map_some,Option.getD_some]
    rw[UZ,Za,e1,Int.toNat_natCast]
   rw[e]at h2
   exact h2
def BO(r:ZS)(fd:List Nat)(ms:List Nat)(j:Nat):List Nat:=(List.range j).foldl (fun(o:List Nat) (i:Nat)=>o.set (JA r.cells (i:Int)).toNat (fd.getD i 0)) ms
theorem XM(r:ZS)(fd ms:List Nat)(j:Nat):BO r fd ms (j+1)=(BO r fd ms j).set (JA r.cells j).toNat (fd.getD j 0):=by
 unfold BO
 rw[List.range_succ,List.foldl_append]
 rfl
theorem GB(r:ZS)(fd ms:List Nat):∀j,(BO r fd ms j).length=ms.length
 |0=>rfl
 |j+1=>by rw[XM,Jo,GB r fd ms j]
theorem GV{o ms:List Nat}{c v:Nat}(h:∀k,QH o k≤QH ms k)(hv:v≤QH ms c)(k:Nat):QH (o.set c v) k≤QH ms k:=by
 by_cases hc:c<o.length
 · rw[WP hc]
   split
   · rename_i hk;rw[hk];exact hv
   · exact h k
 · rw[List.set_eq_of_length_le (by omega)];exact h k
theorem Jci{r:ZS}{ms:List Nat}{k:Nat}(hk:k<r.cells.length):(Zy r (JR ms)).getD k 0≤QH ms (JA r.cells k).toNat:=Jd8 fun b hb=>(Jcj hk hb).2
theorem JdO{r:ZS}{ms:List Nat}{k:Nat}(hk:k<r.cells.length):(Zy r (JR ms)).getD k 0%2=0:=by
 have h1:((Zy r (JR ms)).getD k 0).testBit 0=false:=by
  cases h:((Zy r (JR ms)).getD k 0).testBit 0
  · rfl
  · have:=(Jcj hk h).1;omega
 rw[Nat.testBit_zero,decide_eq_false_iff_not]at h1
 omega
theorem JeY(r:ZS)(ms:List Nat):∀j,j≤r.cells.length→∀k,QH (BO r (Zy r (JR ms)) ms j) k≤QH ms k
 |0,_,_=>Nat.le_refl _
 |j+1,hj,k=>by
  rw[XM]
  exact GV (JeY r ms j (by omega)) (Jci (by omega)) k
theorem JeX{n:Nat}(r:ZS){ms:List Nat}(h:Xv ms n):∀j,j≤r.cells.length→Xv (BO r (Zy r (JR ms)) ms j) n
 |0,_=>h
 |j+1,hj=>by
  rw[XM]
  refine(JeX r h j (by omega)).set ⟨?_,JdO (by omega)⟩
  have:=Jci (r:=r) (ms:=ms) (k:=j) (by omega)
  have:=h.at (JA r.cells j).toNat
  omega
def Jck(ms:List Nat)(r:ZS):List Nat:=BO r (Zy r (JR ms)) ms r.cells.length
def BJ(p:QV)(ms:List Nat)(k:Nat):List Nat:=(p.rules.take k).foldl Jck ms
def Yg(p:QV)(ms:List Nat):List Nat:=p.rules.foldl Jck ms
theorem Jao{p:QV}{ms:List Nat}{k:Nat}(h:k<p.rules.length):BJ p ms (k+1)=Jck (BJ p ms k) (JA p.rules k):=by
 unfold BJ
 rw[Ql h,List.foldl_append]
 rfl
theorem Bm{n:Nat}:∀(rs:List ZS) {ms:List Nat},Xv ms n→Xv (rs.foldl Jck ms) n
 |[],_,h=>h
 |r::rs,_,h=>Bm rs (JeX r h _ (Nat.le_refl _))
theorem Jc2:∀(rs:List ZS) (ms:List Nat) (k:Nat),QH (rs.foldl Jck ms) k≤QH ms k
 |[],_,_=>Nat.le_refl _
 |r::rs,ms,k=>Nat.le_trans (Jc2 rs (Jck ms r) k) (JeY r ms _ (Nat.le_refl _) k)
theorem JbA(R:List (Nat×Nat)):∀(ms:List Nat) (k:Nat),QH (Q8 R ms) k≤QH ms k:=by
 induction R with
 |nil=>intro ms k;exact Nat.le_refl _
 |cons q R ih=>
  intro ms k
  refine Nat.le_trans (ih (ms.set q.1 (BC (QH ms q.1) q.2)) k) ?_
  exact GV (fun _=>Nat.le_refl _) (Jep _ _) k
def Uh(p:QV)(t:Nat)(ms:List Nat):List Nat:=
 if t=1 then NL ms p.size.toNat else if t=2 then Nb ms p.size.toNat else if t=3 then NR ms p.size.toNat else Yg p ms
theorem KH{p:QV}{n t:Nat}{ms:List Nat}(h:Xv ms n):Xv (Uh p t ms) n:=by
 unfold Uh NL Nb NR Yg
 split
 · exact WS _ h
 split
 · exact WS _ h
 split
 · exact WS _ h
 · exact Bm _ h
theorem Jkf(p:QV)(t:Nat)(ms:List Nat)(k:Nat):QH (Uh p t ms) k≤QH ms k:=by
 unfold Uh NL Nb NR Yg
 split
 · exact JbA _ _ _
 split
 · exact JbA _ _ _
 split
 · exact JbA _ _ _
 · exact Jc2 _ _ _
theorem Jah:∀{a b:List Nat},a.length=b.length→(∀k,QH a k≤QH b k)→a.sum≤b.sum∧(a≠b→a.sum<b.sum)
 |[],[],_,_=>⟨Nat.le_refl _,fun h=>absurd rfl h⟩
 |x::a,y::b,hl,h=>by
  have h0:x≤y:=h 0
  obtain⟨h1,h2⟩:=Jah (a:=a) (b:=b) (by simpa using hl) fun k=>h (k+1)
  simp only[Vy]
  refine⟨by omega,fun hne=> ?_⟩
  by_cases hxy:x=y
  · have:a≠b:=fun hab=>hne (by rw[hxy,hab])
    have:=h2 this
    omega
  · omega
 |[],_::_,h,_=>by simp at h
 |_::_,[],h,_=>by simp at h
theorem JcC{p:QV}{n t:Nat}{ms:List Nat}(h:Xv ms n)(hne:Uh p t ms≠ms):(Uh p t ms).sum<ms.sum:=
 (Jah ((KH h).len.trans h.len.symm) (Jkf p t ms)).2 hne
def Z1(p:QV)(ms:List Nat):Nat:=if Uh p 1 ms≠ms then 1 else if Uh p 2 ms≠ms then 2 else if Uh p 3 ms≠ms then 3 else if Uh p 4 ms≠ms then 4 else 0
theorem Jia(p:QV)(ms:List Nat):Z1 p ms≤4:=by
 unfold Z1
 repeat' split
 all_goals omega
theorem JcA{p:QV}{ms:List Nat}{t:Nat}(ht:1≤t∧t≤4)(hlt:∀u,1≤u→u<t→Uh p u ms=ms)(hne:Uh p t ms≠ms):Z1 p ms=t:=by
 unfold Z1
 have h4:t=1∨t=2∨t=3∨t=4:=by omega
 rcases h4 with rfl|rfl|rfl|rfl
 · rw[if_pos hne]
 · rw[if_neg (fun h=>h (hlt 1 (by omega) (by omega))),if_pos hne]
 · rw[if_neg (fun h=>h (hlt 1 (by omega) (by omega))),if_neg (fun h=>h (hlt 2 (by omega) (by omega))),if_pos hne]
 · rw[if_neg (fun h=>h (hlt 1 (by omega) (by omega))),if_neg (fun h=>h (hlt 2 (by omega) (by omega))),if_neg (fun h=>h (hlt 3 (by omega) (by omega))),if_pos hne]
theorem Jcz{p:QV}{ms:List Nat}(h:∀u,1≤u→u<5→Uh p u ms=ms):Z1 p ms=0:=by
 unfold Z1
 rw[if_neg (fun k=>k (h 1 (by omega) (by omega))),if_neg (fun k=>k (h 2 (by omega) (by omega))),if_neg (fun k=>k (h 3 (by omega) (by omega))),if_neg (fun k=>k (h 4 (by omega) (by omega)))]
theorem Jh9{p:QV}{ms:List Nat}(h:Z1 p ms≠0):Uh p (Z1 p ms) ms≠ms:=by
 unfold Z1 at h⊢
 by_cases h1:Uh p 1 ms≠ms
 · rw[if_pos h1];exact h1
 rw[if_neg h1]at h⊢
 by_cases h2:Uh p 2 ms≠ms
 · rw[if_pos h2];exact h2
 rw[if_neg h2]at h⊢
 by_cases h3:Uh p 3 ms≠ms
 · rw[if_pos h3];exact h3
 rw[if_neg h3]at h⊢
 by_cases h4:Uh p 4 ms≠ms
 · rw[if_pos h4];exact h4
 rw[if_neg h4]at h
 exact absurd rfl h
end Go.Lg
