/- GpME, GpMF, GpMG, cut to what is needed. -/
import Derived.Test.YtidekghnkifbjaaGreatDoorJec7
open List renaming cons_append → Jb, nil_append → Jc, replicate → Jd, length_cons → Je, length_nil → Jf, length_append → Jk, length_set → Jo, getElem?_eq_getElem → Jq, append_assoc → Jt, append_nil → Ju, getElem?_eq_none → Jx, drop_zero → JR, getElem?_map → Qv, sum_cons → Wz
open Nat renaming reduceAdd→zA,reduceMul→zM,reduceSub→zS,reduceEqDiff→zE,reduceLeDiff→zL
set_option linter.unusedSimpArgs false
set_option linter.unusedVariables false
set_option maxRecDepth 100000
namespace Go.Lg
open Go.Proofs
theorem Jhx(k:IntKind)(a:Int)(k':IntKind)(b:Int)(h:0≤b):UM .shr k a k' b=some (.int k (a.fdiv (2^min b.toNat k.bits))):=by
 simp only[UM]
 rw[if_neg (by omega)]
theorem JlG{m:Nat}(h:m<32):IntKind.u64.wrap (m:Int)=(m:Int):=by
 have key:∀m:Nat,m<32→IntKind.u64.wrap (m:Int)=(m:Int):=by decide+kernel
 exact key m h
theorem Ke(m:Nat)(h:m≤30∧m%2=0):JW Tryz.prog 166 [.c (.f (.int .u64 (m:Int)))] (int (Z9 m 4).length):=by
 refine Jn.cw (c:=_) Tryz.func166 rfl (n:=35) Tryz.ntmps166 (rs:=[.tmp 2]) rfl ?_
 simp only[Je,Jf,zA,zS,Jd,Jb,Jc]
 simp(maxSteps:=999999)(disch:=omega)only[go_sem,zA,zM,zS,zE,zL,Jhx]
 have hm:m=0∨m=2∨m=4∨m=6∨m=8∨m=10∨m=12∨m=14∨m=16∨m=18∨m=20∨m=22∨m=24∨m=26∨m=28∨m=30:=by omega
 clear h
 rcases hm with rfl|rfl|rfl|rfl|rfl|rfl|rfl|rfl|rfl|rfl|rfl|rfl|rfl|rfl|rfl|rfl<;>decide+kernel
theorem JaG(m:Nat)(h:m≤30∧m%2=0):JW Tryz.prog 157 [.c (.f (.int .u64 (m:Int)))] (int (Z9 m 4).length):=by
 refine Jn.cw (c:=_) Tryz.func157 rfl (n:=8) Tryz.ntmps157 (rs:=[.tmp 2]) rfl ?_
 simp only[Je,Jf,zA,zS,Jd,Jb,Jc]
 simp(maxSteps:=999999)(disch:=omega)only[go_sem,zA,zM,zS,zE,zL]
 first|refine JZ.rd (Ke m h) (⟨_,Tryz.func166,rfl,rfl⟩:Ji Tryz.prog 166) rfl rfl rfl rfl ?_|refine JK.rd (Ke m h) (⟨_,Tryz.func166,rfl,rfl⟩:Ji Tryz.prog 166) rfl rfl rfl rfl ?_
 simp(maxSteps:=999999)(disch:=omega)only[go_sem,zA,zM,zS,zE,zL]
def Jan(ms:List Nat)(n line i j k:Nat):List (Nat×Nat):=if VG n line k≠VG n line i∧VG n line k≠VG n line j then[(VG n line k,QL ms (VG n line i))]else[]
def Jeq(ms:List Nat)(n line i j:Nat):List (Nat×Nat):=if QL ms (VG n line i)=QL ms (VG n line j)∧(Z9 (QL ms (VG n line i)) 4).length=2 then(List.range n).flatMap (Jan ms n line i j)else[]
def JbE(ms:List Nat)(n line i:Nat):List (Nat×Nat):=(List.range (n -(i+1))).flatMap fun t=>Jeq ms n line i (i+1+t)
def Jgs(ms:List Nat)(n line:Nat):List (Nat×Nat):=(List.range n).flatMap (JbE ms n line)
def Jam(ms:List Nat)(n:Nat):List Nat:=Ze ((List.range (2*n)).flatMap (Jgs ms n)) ms
def Rp(ms:List Nat)(n line i j k:Nat):List (Nat×Nat):=if k≠i∧k≠j then[(VG n line k,QL ms (VG n line i))]else[]
def G5(ms:List Nat)(n line i j:Nat):List (Nat×Nat):=if QL ms (VG n line i)=QL ms (VG n line j)∧(Z9 (QL ms (VG n line i)) 4).length=2 then(List.range n).flatMap (Rp ms n line i j)else[]
def JaZ(ms:List Nat)(n line i:Nat):List (Nat×Nat):=(List.range i).flatMap fun j=>G5 ms n line i j
def FP(ms:List Nat)(n line:Nat):List (Nat×Nat):=(List.range n).flatMap (JaZ ms n line)
theorem JbN{n line i j:Nat}(hn:n=2∨n=3∨n=4)(hl:line<2*n)(hi:i<n)(hj:j<n):VG n line i=VG n line j↔i=j:=by
 constructor
 · intro h
   unfold VG at h
   rw[Wo hi,Wo hj]at h
   split at h
   · rcases hn with rfl|rfl|rfl<;>omega
   · rcases hn with rfl|rfl|rfl<;>omega
 · rintro rfl;rfl
theorem Jfs{n:Nat}(hn:n=2∨n=3∨n=4)(ms:List Nat){line:Nat}(hl:line<2*n)(q:Nat×Nat):q∈Jgs ms n line↔∃x y k:Nat,x<y∧y<n∧k<n∧(QL ms (VG n line x)=QL ms (VG n line y)∧(Z9 (QL ms (VG n line x)) 4).length=2)∧(k≠x∧k≠y)∧q=(VG n line k,QL ms (VG n line x)):=by
 unfold Jgs JbE Jeq
 rw[List.mem_flatMap]
 constructor
 · rintro⟨x,hx,hq⟩
   obtain⟨t,ht,hq⟩:=List.mem_flatMap.1 hq
   have hx:=List.mem_range.1 hx
   have ht:=List.mem_range.1 ht
   split at hq
   · rename_i hm
     obtain⟨k,hk,hq⟩:=List.mem_flatMap.1 hq
     have hk:=List.mem_range.1 hk
     unfold Jan at hq
     split at hq
     · rename_i hne
       exact⟨x,x+1+t,k,by omega,by omega,hk,hm,⟨fun h=>hne.1 (by rw[h]),fun h=>hne.2 (by rw[h])⟩,by simpa using hq⟩
     · cases hq
   · cases hq
 · rintro⟨x,y,k,h1,h2,h3,h4,h5,rfl⟩
   refine⟨x,List.mem_range.2 (by omega),List.mem_flatMap.2 ⟨y -(x+1),List.mem_range.2 (by omega), ?_⟩⟩
   rw[show x+1+(y -(x+1))=y by omega,if_pos h4]
   refine List.mem_flatMap.2 ⟨k,List.mem_range.2 h3, ?_⟩
   unfold Jan
   rw[if_pos ⟨fun h=>h5.1 ((JbN hn hl h3 (by omega)).1 h),fun h=>h5.2 ((JbN hn hl h3 h2).1 h)⟩]
   simp
theorem Jc3{n:Nat}(ms:List Nat){line:Nat}(q:Nat×Nat):q∈FP ms n line↔∃x y k:Nat,x<y∧y<n∧k<n∧(QL ms (VG n line x)=QL ms (VG n line y)∧(Z9 (QL ms (VG n line x)) 4).length=2)∧(k≠x∧k≠y)∧q=(VG n line k,QL ms (VG n line x)):=by
 unfold FP JaZ G5
 rw[List.mem_flatMap]
 constructor
 · rintro⟨y,hy,hq⟩
   obtain⟨x,hx,hq⟩:=List.mem_flatMap.1 hq
   have hy:=List.mem_range.1 hy
   have hx:=List.mem_range.1 hx
   split at hq
   · rename_i hm
     obtain⟨k,hk,hq⟩:=List.mem_flatMap.1 hq
     have hk:=List.mem_range.1 hk
     unfold Rp at hq
     split at hq
     · rename_i hne
       refine⟨x,y,k,hx,hy,hk,⟨hm.1.symm,by rw[←hm.1];exact hm.2⟩,⟨hne.2,hne.1⟩, ?_⟩
       rw[←hm.1];simpa using hq
     · cases hq
   · cases hq
 · rintro⟨x,y,k,h1,h2,h3,h4,h5,rfl⟩
   refine⟨y,List.mem_range.2 h2,List.mem_flatMap.2 ⟨x,List.mem_range.2 h1, ?_⟩⟩
   rw[if_pos ⟨h4.1.symm,by rw[←h4.1];exact h4.2⟩]
   refine List.mem_flatMap.2 ⟨k,List.mem_range.2 h3, ?_⟩
   unfold Rp
   rw[if_pos ⟨h5.2,h5.1⟩,h4.1]
   simp
theorem Jil{n:Nat}(hn:n=2∨n=3∨n=4){ms:List Nat}(h:XT ms n):Ze ((List.range (2*n)).flatMap (FP ms n)) ms=Jam ms n:=by
 refine JdO (fun k=>by have:=h.lt hn k;omega) fun q=> ?_
 rw[List.mem_flatMap,List.mem_flatMap]
 constructor
 · rintro⟨i,hi,hq⟩;exact⟨i,hi,(Jfs hn ms (List.mem_range.1 hi) q).2 ((Jc3 ms q).1 hq)⟩
 · rintro⟨i,hi,hq⟩;exact⟨i,hi,(Jc3 ms q).2 ((Jfs hn ms (List.mem_range.1 hi) q).1 hq)⟩
end Go.Lg

namespace Go.Lg
open Go.Proofs
set_option maxHeartbeats 8000000 in
theorem Gt{n:Nat}(hn:n=2∨n=3∨n=4)(ms:List Nat)(hm:XT ms n):JW Tryz.prog 139 [QO (JQ ms),int n] (QO (JQ (Jam ms n))):=by
 have hsq:4≤n*n∧n*n≤16:=by rcases hn with rfl|rfl|rfl<;>omega
 have hl:(JQ ms).length=n*n:=by rw[Qq];exact hm.len
 have hn4:2≤n∧n≤4:=by omega
 refine JW.own ?_
 refine Jn.cw (c:=_) Tryz.func139 rfl (n:=91) Tryz.ntmps139 (rs:=[.tmp 4]) rfl ?_
 simp only[Je,Jf,zA,zS,Jd,Jb,Jc]
 simp(maxSteps:=999999)(disch:=omega)only[go_sem,zA,zM,zS,zE,zL]
 first|refine JZ.rd (ZU hn ms hm) (⟨_,Tryz.func156,rfl,rfl⟩:Ji Tryz.prog 156) rfl rfl rfl rfl ?_|refine JK.rd (ZU hn ms hm) (⟨_,Tryz.func156,rfl,rfl⟩:Ji Tryz.prog 156) rfl rfl rfl rfl ?_
 simp(maxSteps:=999999)(disch:=omega)only[go_sem,zA,zM,zS,zE,zL]
 refine JZ.mkQ (GB (JQ ms) (by omega) (by intro h;rw[h]at hl;simp at hl;omega)) (⟨_,Tryz.func89,rfl,rfl⟩:Ji Tryz.prog 89) rfl rfl rfl ?_
 rintro _ _ ⟨g,rfl,rfl⟩
 refine⟨rfl, ?_⟩
 simp(maxSteps:=999999)(disch:=omega)only[go_sem,zA,zM,zS,zE,zL]
 rw[hl]
 refine JY (fun i:Nat=>2*n -i) (fun i=>i≤2*n) (fun i=>[.k, .k, .a, .a, .a, .k, .a, .a, .a, .a, .a, .a, .a, .a, .a, .a, .a, .a, .a, .a, .a, .k, .p (int i), .a, .a, .a, .a, .a, .a, .a, .a, .a, .a, .a, .a, .a, .a, .a, .a, .a, .a, .a, .a, .a, .a, .a, .a, .a, .a, .a, .a, .a, .a, .a, .a, .a, .a, .a, .a, .a, .a, .a, .a, .a, .a, .a, .a, .a, .a, .a, .a, .a, .a, .a, .a, .a, .a, .a, .a, .a, .a, .a, .a, .a, .a, .a, .a, .a, .a, .a, .a]) (fun i=>[some ⟨g,1,cl (eI .i64) (JQ (Ze ((List.range i).flatMap (Jgs ms n)) ms))⟩]) 0 (Nat.zero_le _) (by simp(maxSteps:=999999)(disch:=omega)only[go_sem,zA,zM,zS,zE,zL];rfl) (J0.refl _) ?_
 intro i hi
 have hrs:=ZW (Jgs ms n) i
 have hok:=fun R=>W0 R hm
 have hlt:=fun R k=>(hok R).lt hn k
 have hll:=fun R:List (Nat×Nat)=>(V7 R ms).trans hm.len
 generalize hR:(List.range i).flatMap (Jgs ms n)=R at hrs⊢
 simp(maxSteps:=999999)(disch:=omega)only[go_sem,zA,zM,zS,zE,zL]
 ((first|(with_reducible first|refine Jl ?_ ?_|refine Jj ?_ ?_|refine Jp ?_ ?_)|refine Jr ?_ ?_)<;>intro h1)
 · have h1:i<2*n:=by omega
   have hlc:=Ul n i
   simp(maxSteps:=999999)(disch:=omega)only[go_sem,zA,zM,zS,zE,zL]
   first|refine JZ.mk (UT hn h1) (⟨_,Tryz.func124,rfl,rfl⟩:Ji Tryz.prog 124) rfl rfl rfl rfl rfl ?_|refine JK.mk (UT hn h1) (⟨_,Tryz.func124,rfl,rfl⟩:Ji Tryz.prog 124) rfl rfl rfl rfl rfl ?_
   simp(maxSteps:=999999)(disch:=omega)only[go_sem,zA,zM,zS,zE,zL]
   refine JY (fun x:Nat=>n -x) (fun x=>x≤n) (fun x=>[.k, .k, .a, .a, .a, .k, .a, .k, .a, .a, .a, .a, .a, .a, .a, .a, .a, .a, .a, .a, .a, .k, .k, .a, .a, .a, .a, .a, .k, .k, .p (int x), .a, .a, .a, .a, .a, .a, .a, .a, .a, .a, .a, .a, .a, .a, .a, .a, .a, .a, .a, .a, .a, .a, .a, .a, .a, .a, .a, .a, .a, .a, .a, .a, .a, .a, .a, .a, .a, .a, .a, .a, .a, .a, .a, .a, .a, .a, .a, .a, .a, .a, .a, .a, .a, .a, .a, .a, .a, .a, .a, .a]) (fun x=>[some ⟨g,1,cl (eI .i64) (JQ (Ze (R++(List.range x).flatMap (JbE ms n i)) ms))⟩]) 0 (Nat.zero_le _) (by simp(maxSteps:=999999)(disch:=omega)only[go_sem,zA,zM,zS,zE,zL];rfl) (by simp only[List.range_zero,List.flatMap_nil,Ju];exact J0.refl _) ?_
   intro x hx
   have hks:=ZW (JbE ms n i) x
   generalize hS:(List.range x).flatMap (JbE ms n i)=S at hks⊢
   simp(maxSteps:=999999)(disch:=omega)only[go_sem,zA,zM,zS,zE,zL]
   ((first|(with_reducible first|refine Jl ?_ ?_|refine Jj ?_ ?_|refine Jp ?_ ?_)|refine Jr ?_ ?_)<;>intro h2)
   · have h2:x<n:=by omega
     obtain⟨ha1,ha2⟩:=Xr hn h1 h2
     have hI:JbE ms n i x=(List.range (n -(x+1))).flatMap fun t=>Jeq ms n i x (x+1+t):=rfl
     simp(maxSteps:=999999)(disch:=omega)only[go_sem,zA,zM,zS,zE,zL,ha2]
     have hsl:(sub (Zo n i) ((x:Int)+1) ((Zo n i).length:Nat)).length=n -(x+1):=by have:=GN (xs:=Zo n i) (a:=(x:Int)+1) (b:=((Zo n i).length:Nat)) (by omega);omega
     have hsn:∀t:Nat,t<n -(x+1)→JA (sub (Zo n i) ((x:Int)+1) ((Zo n i).length:Nat)) t=JA (Zo n i) ((x+1+t:Nat):Int):=fun t ht=>by rw[JkJ (by omega) (by omega)];congr 1
     generalize sub (Zo n i) ((x:Int)+1) ((Zo n i).length:Nat)=L at hsl hsn⊢
     refine JY (fun t:Nat=>n -(x+1) -t) (fun t=>t≤n -(x+1)) (fun t=>[.k, .k, .a, .a, .a, .k, .a, .k, .a, .k, .a, .a, .a, .a, .a, .a, .a, .a, .a, .a, .a, .k, .k, .a, .a, .a, .a, .a, .k, .k, .k, .a, .a, .a, .a, .a, .a, .a, .k, .k, .p (int t), .a, .a, .a, .a, .a, .a, .a, .a, .a, .a, .a, .a, .a, .a, .a, .a, .a, .a, .a, .a, .a, .a, .a, .a, .a, .a, .a, .a, .a, .a, .a, .a, .a, .a, .a, .a, .a, .a, .a, .a, .a, .a, .a, .a, .a, .a, .a, .a, .a, .a]) (fun t=>[some ⟨g,1,cl (eI .i64) (JQ (Ze (R++(S++(List.range t).flatMap fun t=>Jeq ms n i x (x+1+t))) ms))⟩]) 0 (Nat.zero_le _) (by simp(maxSteps:=999999)(disch:=omega)only[go_sem,zA,zM,zS,zE,zL];rfl) (by simp only[List.range_zero,List.flatMap_nil,Ju];exact J0.refl _) ?_
     intro t ht
     have hts:=ZW (fun t=>Jeq ms n i x (x+1+t)) t
     generalize hT:((List.range t).flatMap fun t=>Jeq ms n i x (x+1+t))=T at hts⊢
     simp(maxSteps:=999999)(disch:=omega)only[go_sem,zA,zM,zS,zE,zL]
     ((first|(with_reducible first|refine Jl ?_ ?_|refine Jj ?_ ?_|refine Jp ?_ ?_)|refine Jr ?_ ?_)<;>intro h3)
     · have h3:t<n -(x+1):=by omega
       have hbn:=hsn t h3
       obtain⟨hb1,hb2⟩:=Xr hn h1 (k:=x+1+t) (by omega)
       rw[hb2]at hbn
       have hP:Jeq ms n i x (x+1+t)=if QL ms (VG n i x)=QL ms (VG n i (x+1+t))∧(Z9 (QL ms (VG n i x)) 4).length=2 then(List.range n).flatMap (Jan ms n i x (x+1+t))else[]:=rfl
       have hK:∀k,Jan ms n i x (x+1+t) k=if VG n i k≠VG n i x∧VG n i k≠VG n i (x+1+t)then[(VG n i k,QL ms (VG n i x))]else[]:=fun k=>rfl
       generalize VG n i (x+1+t)=b at hbn hb1 hP hK
       generalize VG n i x=a at ha1 ha2 hP hK
       have hma:=Zf ms a
       have hmb:=Zf ms b
       have hma2:=hm.lt hn a
       simp(maxSteps:=999999)(disch:=omega)only[go_sem,zA,zM,zS,zE,zL,hbn]
       refine Zj Zd (by kernel_rfl) ?_
       simp(maxSteps:=999999)(disch:=omega)only[go_sem,Nat.reduceBEq,Bool.true_or,zA,zM,zS,zE,zL]
       simp(maxSteps:=999999)(disch:=omega)only[go_sem,zA,zM,zS,zE,zL,hma,hmb]
       ((with_reducible first|refine JJ ?_ ?_|refine JF ?_ ?_|refine JU ?_ ?_|refine Jw ?_ ?_|refine JH ?_ ?_|refine JI ?_ ?_|refine JD ?_ ?_|refine JE ?_ ?_|refine JS ?_ ?_|refine JT ?_ ?_|refine Jy ?_ ?_|refine Jz ?_ ?_)<;>intro h4<;>simp(maxSteps:=999999)(disch:=omega)only[go_sem,zA,zM,zS,zE,zL,h4])
       rotate_left
       · rw[if_neg (fun h=>h4 (by rw[h.1]))]at hP
         exact⟨t+1,⟨by omega,by omega⟩,by push_cast;rfl,by rw[hts,hP,Ju];exact J0.refl _⟩
       have h4:QL ms a=QL ms b:=by omega
       have hwu:=JlG (m:=QL ms a) (by omega)
       simp(maxSteps:=999999)(disch:=omega)only[go_sem,zA,zM,zS,zE,zL,hma,hwu]
       refine Q0.rd (JaG (QL ms a) hma2) (⟨_,Tryz.func157,rfl,rfl⟩:Ji Tryz.prog 157) rfl rfl rfl rfl ?_
       simp(maxSteps:=999999)(disch:=omega)only[go_sem,zA,zM,zS,zE,zL]
       ((first|(with_reducible first|refine Jl ?_ ?_|refine Jj ?_ ?_|refine Jp ?_ ?_)|refine Jr ?_ ?_)<;>intro h5)
       rotate_left
       · rw[if_neg (fun h=>h5 (by rw[h.2];rfl))]at hP
         simp(maxSteps:=999999)(disch:=omega)only[go_sem,zA,zM,zS,zE,zL]
         exact⟨t+1,⟨by omega,by omega⟩,by push_cast;rfl,by rw[hts,hP,Ju];exact J0.refl _⟩
       have h5:(Z9 (QL ms a) 4).length=2:=by omega
       rw[if_pos ⟨h4,h5⟩]at hP
       simp(maxSteps:=999999)(disch:=omega)only[go_sem,zA,zM,zS,zE,zL]
       refine JY (fun k:Nat=>n -k) (fun k=>k≤n) (fun k=>[.k, .k, .a, .a, .a, .k, .a, .k, .a, .k, .a, .k, .a, .a, .a, .a, .a, .a, .a, .a, .a, .k, .k, .a, .a, .a, .a, .a, .k, .k, .k, .a, .a, .a, .a, .a, .a, .a, .k, .k, .k, .a, .a, .a, .a, .a, .a, .a, .a, .a, .a, .a, .a, .a, .a, .a, .a, .a, .a, .a, .a, .a, .k, .k, .p (int k), .a, .a, .a, .a, .a, .a, .a, .a, .a, .a, .a, .a, .a, .a, .a, .a, .a, .a, .a, .a, .a, .a, .a, .a, .a, .a]) (fun k=>[some ⟨g,1,cl (eI .i64) (JQ (Ze (R++(S++(T++(List.range k).flatMap (Jan ms n i x (x+1+t))))) ms))⟩]) 0 (Nat.zero_le _) (by simp(maxSteps:=999999)(disch:=omega)only[go_sem,zA,zM,zS,zE,zL];rfl) (by simp only[List.range_zero,List.flatMap_nil,Ju];exact J0.refl _) ?_
       intro k hk
       have hus:=ZW (Jan ms n i x (x+1+t)) k
       generalize hU:(List.range k).flatMap (Jan ms n i x (x+1+t))=U at hus⊢
       simp(maxSteps:=999999)(disch:=omega)only[go_sem,zA,zM,zS,zE,zL]
       ((first|(with_reducible first|refine Jl ?_ ?_|refine Jj ?_ ?_|refine Jp ?_ ?_)|refine Jr ?_ ?_)<;>intro h6)
       · have h6:k<n:=by omega
         have hK:=hK k
         obtain⟨hc1,hc2⟩:=Xr hn h1 h6
         generalize VG n i k=c at hc1 hc2 hK
         generalize hQ:R++(S++(T++U))=Q
         have hQn:=Zf (Ze Q ms) c
         have hQl:(JQ (Ze Q ms)).length=n*n:=by rw[Qq];exact hll Q
         have hQc:Uq .andNot .i64 ((QL (Ze Q ms) c:Nat):Int) ((QL ms a:Nat):Int)=((B1 (QL (Ze Q ms) c) (QL ms a):Nat):Int):=Vv (by have:=(hlt Q c).1;omega) (by omega)
         have hyes:(c≠a∧c≠b)→R++(S++(T++(List.range (k+1)).flatMap (Jan ms n i x (x+1+t))))=Q++[(c,QL ms a)]:=fun h=>by rw[hus,hK,if_pos h,←hQ];simp only[Jt]
         have hnot:¬(c≠a∧c≠b)→R++(S++(T++(List.range (k+1)).flatMap (Jan ms n i x (x+1+t))))=Q:=fun h=>by rw[hus,hK,if_neg h,Ju,hQ]
         simp(maxSteps:=999999)(disch:=omega)only[go_sem,zA,zM,zS,zE,zL,hc2]
         ((with_reducible first|refine JJ ?_ ?_|refine JF ?_ ?_|refine JU ?_ ?_|refine Jw ?_ ?_|refine JH ?_ ?_|refine JI ?_ ?_|refine JD ?_ ?_|refine JE ?_ ?_|refine JS ?_ ?_|refine JT ?_ ?_|refine Jy ?_ ?_|refine Jz ?_ ?_)<;>intro h7<;>simp(maxSteps:=999999)(disch:=omega)only[go_sem,zA,zM,zS,zE,zL,h7])
         · exact⟨k+1,⟨by omega,by omega⟩,by push_cast;rfl,by rw[hnot (by omega)];exact J0.refl _⟩
         ((first|(with_reducible first|refine Jl ?_ ?_|refine Jj ?_ ?_|refine Jp ?_ ?_)|refine Jr ?_ ?_)<;>intro h8)
         · simp(maxSteps:=999999)(disch:=omega)only[go_sem,zA,zM,zS,zE,zL]
           exact⟨k+1,⟨by omega,by omega⟩,by push_cast;rfl,by rw[hnot (by omega)];exact J0.refl _⟩
         · simp(maxSteps:=999999)(disch:=omega)only[go_sem,zA,zM,zS,zE,zL]
           refine Ui [0,1,2,3,4,5,6,7] [] none [8,9,10] [] Zd (by kernel_rfl) ?_
           simp(maxSteps:=999999)(disch:=omega)only[go_sem,Nat.reduceBEq,Bool.true_or,zA,zM,zS,zE,zL]
           simp(maxSteps:=999999)(disch:=omega)only[go_sem,zA,zM,zS,zE,zL,hQn,hQl,hQc,hma]
           exact⟨k+1,⟨by omega,by omega⟩,by push_cast;rfl,by rw[hyes (by omega),WI,←VE,←hQc];exact J0.refl _⟩
       · have hke:k=n:=by omega
         rw[hke]at hU
         simp(maxSteps:=999999)(disch:=omega)only[go_sem,zA,zM,zS,zE,zL]
         exact⟨t+1,⟨by omega,by omega⟩,by push_cast;rfl,by rw[hts,hP,hU];exact J0.refl _⟩
     · have hte:t=n -(x+1):=by omega
       rw[hte]at hT
       simp(maxSteps:=999999)(disch:=omega)only[go_sem,zA,zM,zS,zE,zL]
       exact⟨x+1,⟨by omega,by omega⟩,by push_cast;rfl,by rw[hks,hI,hT];exact J0.refl _⟩
   · have hke:x=n:=by omega
     rw[hke]at hS
     simp(maxSteps:=999999)(disch:=omega)only[go_sem,zA,zM,zS,zE,zL]
     exact⟨i+1,⟨by omega,by omega⟩,by push_cast;rfl,by rw[hrs,←hS];exact J0.refl _⟩
 · skip
   have hie:i=2*n:=by omega
   rw[hie]at hR
   have hM:Ze R ms=Jam ms n:=by rw[←hR]<;>rfl
   have hl2:(JQ (Jam ms n)).length=n*n:=by rw[Qq,←hM];exact hll R
   rw[hM]
   simp(maxSteps:=999999)(disch:=omega)only[go_sem,zA,zM,zS,zE,zL]
   rw[←hl2]
   exact ZO (E:=eI .i64) (n:=1) (J0.refl _)
set_option maxHeartbeats 8000000 in
theorem B8{n:Nat}(hn:n=2∨n=3∨n=4)(ms:List Nat)(hm:XT ms n):JW Tryz.prog 134 [QO (JQ ms),int n] (QO (JQ (Jam ms n))):=by
 have hsq:4≤n*n∧n*n≤16:=by rcases hn with rfl|rfl|rfl<;>omega
 have hl:(JQ ms).length=n*n:=by rw[Qq];exact hm.len
 have hn4:2≤n∧n≤4:=by omega
 rw[←Jil hn hm]
 refine JW.own ?_
 refine Jn.cw (c:=_) Tryz.func134 rfl (n:=89) Tryz.ntmps134 (rs:=[.tmp 4]) rfl ?_
 simp only[Je,Jf,zA,zS,Jd,Jb,Jc]
 simp(maxSteps:=999999)(disch:=omega)only[go_sem,zA,zM,zS,zE,zL]
 first|refine JZ.rd (Zr hn (JQ ms) hm.ok) (⟨_,Tryz.func131,rfl,rfl⟩:Ji Tryz.prog 131) rfl rfl rfl rfl ?_|refine JK.rd (Zr hn (JQ ms) hm.ok) (⟨_,Tryz.func131,rfl,rfl⟩:Ji Tryz.prog 131) rfl rfl rfl rfl ?_
 simp(maxSteps:=999999)(disch:=omega)only[go_sem,zA,zM,zS,zE,zL]
 refine JZ.mkQ (YH (JQ ms) (by omega) (by intro h;rw[h]at hl;simp at hl;omega)) (⟨_,Tryz.func153,rfl,rfl⟩:Ji Tryz.prog 153) rfl rfl rfl ?_
 rintro _ _ ⟨g,rfl,rfl⟩
 refine⟨rfl, ?_⟩
 simp(maxSteps:=999999)(disch:=omega)only[go_sem,zA,zM,zS,zE,zL]
 rw[hl]
 refine JY (fun i:Nat=>2*n -i) (fun i=>i≤2*n) (fun i=>[.k, .k, .a, .a, .a, .k, .p (int i), .a, .a, .a, .a, .a, .a, .a, .a, .a, .a, .a, .a, .a, .a, .a, .a, .a, .a, .a, .a, .a, .a, .a, .a, .a, .a, .a, .a, .a, .a, .a, .a, .a, .a, .a, .a, .a, .a, .a, .a, .a, .a, .a, .a, .a, .a, .a, .a, .a, .a, .a, .a, .a, .a, .a, .a, .a, .a, .a, .a, .a, .a, .a, .a, .a, .a, .a, .a, .a, .a, .a, .a, .a, .a, .a, .a, .a, .a, .a, .a, .a, .a]) (fun i=>[some ⟨g,1,cl (eI .i64) (JQ (Ze ((List.range i).flatMap (FP ms n)) ms))⟩]) 0 (Nat.zero_le _) (by simp(maxSteps:=999999)(disch:=omega)only[go_sem,zA,zM,zS,zE,zL];rfl) (J0.refl _) ?_
 intro i hi
 have hrs:=ZW (FP ms n) i
 have hok:=fun R=>W0 R hm
 have hlt:=fun R k=>(hok R).lt hn k
 have hll:=fun R:List (Nat×Nat)=>(V7 R ms).trans hm.len
 generalize hR:(List.range i).flatMap (FP ms n)=R at hrs⊢
 simp(maxSteps:=999999)(disch:=omega)only[go_sem,zA,zM,zS,zE,zL]
 ((first|(with_reducible first|refine Jl ?_ ?_|refine Jj ?_ ?_|refine Jp ?_ ?_)|refine Jr ?_ ?_)<;>intro h1)
 · have h1:i<2*n:=by omega
   have hlc:=Ul n i
   simp(maxSteps:=999999)(disch:=omega)only[go_sem,zA,zM,zS,zE,zL]
   first|refine JZ.mk (Vf hn h1) (⟨_,Tryz.func154,rfl,rfl⟩:Ji Tryz.prog 154) rfl rfl rfl rfl rfl ?_|refine JK.mk (Vf hn h1) (⟨_,Tryz.func154,rfl,rfl⟩:Ji Tryz.prog 154) rfl rfl rfl rfl rfl ?_
   simp(maxSteps:=999999)(disch:=omega)only[go_sem,zA,zM,zS,zE,zL]
   refine JY (fun y:Nat=>n -y) (fun y=>y≤n) (fun y=>[.k, .k, .a, .a, .a, .k, .k, .k, .p (int y), .a, .a, .a, .a, .a, .a, .a, .a, .a, .a, .a, .a, .a, .a, .a, .a, .a, .a, .a, .a, .a, .a, .a, .a, .a, .a, .a, .a, .a, .a, .a, .a, .a, .a, .a, .a, .a, .a, .a, .a, .a, .a, .a, .a, .a, .a, .a, .a, .a, .a, .a, .a, .a, .a, .a, .a, .a, .a, .a, .a, .a, .a, .a, .a, .a, .a, .a, .a, .a, .a, .a, .a, .a, .a, .a, .a, .a, .a, .a, .a]) (fun y=>[some ⟨g,1,cl (eI .i64) (JQ (Ze (R++(List.range y).flatMap (JaZ ms n i)) ms))⟩]) 0 (Nat.zero_le _) (by simp(maxSteps:=999999)(disch:=omega)only[go_sem,zA,zM,zS,zE,zL];rfl) (by simp only[List.range_zero,List.flatMap_nil,Ju];exact J0.refl _) ?_
   intro y hy
   have hks:=ZW (JaZ ms n i) y
   generalize hS:(List.range y).flatMap (JaZ ms n i)=S at hks⊢
   simp(maxSteps:=999999)(disch:=omega)only[go_sem,zA,zM,zS,zE,zL]
   ((first|(with_reducible first|refine Jl ?_ ?_|refine Jj ?_ ?_|refine Jp ?_ ?_)|refine Jr ?_ ?_)<;>intro h2)
   · have h2:y<n:=by omega
     obtain⟨ha1,ha2⟩:=Xr hn h1 h2
     have hI:JaZ ms n i y=(List.range y).flatMap fun x=>G5 ms n i y x:=rfl
     simp(maxSteps:=999999)(disch:=omega)only[go_sem,zA,zM,zS,zE,zL]
     refine JY (fun x:Nat=>y -x) (fun x=>x≤y) (fun x=>[.k, .k, .a, .a, .a, .k, .k, .k, .k, .p (int x), .a, .a, .a, .a, .a, .a, .a, .a, .a, .a, .a, .a, .a, .a, .a, .a, .a, .a, .a, .a, .a, .a, .a, .a, .a, .a, .a, .a, .a, .a, .a, .a, .a, .a, .a, .a, .a, .a, .a, .a, .a, .a, .a, .a, .a, .a, .a, .a, .a, .a, .a, .a, .a, .a, .a, .a, .a, .a, .a, .a, .a, .a, .a, .a, .a, .a, .a, .a, .a, .a, .a, .a, .a, .a, .a, .a, .a, .a, .a]) (fun x=>[some ⟨g,1,cl (eI .i64) (JQ (Ze (R++(S++(List.range x).flatMap fun x=>G5 ms n i y x)) ms))⟩]) 0 (Nat.zero_le _) (by simp(maxSteps:=999999)(disch:=omega)only[go_sem,zA,zM,zS,zE,zL];rfl) (by simp only[List.range_zero,List.flatMap_nil,Ju];exact J0.refl _) ?_
     intro x hx
     have hts:=ZW (fun x=>G5 ms n i y x) x
     generalize hT:((List.range x).flatMap fun x=>G5 ms n i y x)=T at hts⊢
     simp(maxSteps:=999999)(disch:=omega)only[go_sem,zA,zM,zS,zE,zL]
     ((first|(with_reducible first|refine Jl ?_ ?_|refine Jj ?_ ?_|refine Jp ?_ ?_)|refine Jr ?_ ?_)<;>intro h3)
     · have h3:x<y:=by omega
       obtain⟨hb1,hb2⟩:=Xr hn h1 (k:=x) (by omega)
       have hP:G5 ms n i y x=if QL ms (VG n i y)=QL ms (VG n i x)∧(Z9 (QL ms (VG n i y)) 4).length=2 then(List.range n).flatMap (Rp ms n i y x)else[]:=rfl
       have hK:∀k,Rp ms n i y x k=if k≠y∧k≠x then[(VG n i k,QL ms (VG n i y))]else[]:=fun k=>rfl
       generalize VG n i x=b at hb1 hb2 hP hK
       generalize VG n i y=a at ha1 ha2 hP hK
       have hma:=Zf ms a
       have hmb:=Zf ms b
       have hma2:=hm.lt hn a
       simp(maxSteps:=999999)(disch:=omega)only[go_sem,zA,zM,zS,zE,zL,ha2,hb2,hma,hmb]
       ((with_reducible first|refine JJ ?_ ?_|refine JF ?_ ?_|refine JU ?_ ?_|refine Jw ?_ ?_|refine JH ?_ ?_|refine JI ?_ ?_|refine JD ?_ ?_|refine JE ?_ ?_|refine JS ?_ ?_|refine JT ?_ ?_|refine Jy ?_ ?_|refine Jz ?_ ?_)<;>intro h4<;>simp(maxSteps:=999999)(disch:=omega)only[go_sem,zA,zM,zS,zE,zL,h4])
       rotate_left
       · rw[if_neg (fun h=>h4 (by rw[h.1]))]at hP
         exact⟨x+1,⟨by omega,by omega⟩,by push_cast;rfl,by rw[hts,hP,Ju];exact J0.refl _⟩
       have h4:QL ms a=QL ms b:=by omega
       first|refine JZ.mk (Uc (QL ms b) (hm.lt hn b)) (⟨_,Tryz.func106,rfl,rfl⟩:Ji Tryz.prog 106) rfl rfl rfl rfl rfl ?_|refine JK.mk (Uc (QL ms b) (hm.lt hn b)) (⟨_,Tryz.func106,rfl,rfl⟩:Ji Tryz.prog 106) rfl rfl rfl rfl rfl ?_
       simp(maxSteps:=999999)(disch:=omega)only[go_sem,zA,zM,zS,zE,zL]
       ((first|(with_reducible first|refine Jl ?_ ?_|refine Jj ?_ ?_|refine Jp ?_ ?_)|refine Jr ?_ ?_)<;>intro h5)
       rotate_left
       · rw[if_neg (fun h=>h5 (by rw[←h4,h.2];rfl))]at hP
         simp(maxSteps:=999999)(disch:=omega)only[go_sem,zA,zM,zS,zE,zL]
         exact⟨x+1,⟨by omega,by omega⟩,by push_cast;rfl,by rw[hts,hP,Ju];exact J0.refl _⟩
       have h5:(Z9 (QL ms a) 4).length=2:=by rw[h4];omega
       rw[if_pos ⟨h4,h5⟩]at hP
       simp(maxSteps:=999999)(disch:=omega)only[go_sem,zA,zM,zS,zE,zL]
       refine JY (fun k:Nat=>n -k) (fun k=>k≤n) (fun k=>[.k, .k, .a, .a, .a, .k, .k, .k, .k, .k, .k, .p (int k), .a, .a, .a, .a, .a, .a, .a, .a, .a, .a, .a, .a, .a, .a, .a, .a, .a, .a, .a, .a, .a, .a, .a, .a, .a, .a, .a, .a, .a, .a, .a, .a, .a, .a, .a, .a, .a, .a, .a, .a, .a, .a, .a, .a, .a, .a, .a, .a, .a, .a, .a, .a, .a, .a, .a, .a, .a, .a, .a, .a, .a, .a, .a, .a, .a, .a, .a, .a, .a, .a, .a, .a, .a, .a, .a, .a, .a]) (fun k=>[some ⟨g,1,cl (eI .i64) (JQ (Ze (R++(S++(T++(List.range k).flatMap (Rp ms n i y x)))) ms))⟩]) 0 (Nat.zero_le _) (by simp(maxSteps:=999999)(disch:=omega)only[go_sem,zA,zM,zS,zE,zL];rfl) (by simp only[List.range_zero,List.flatMap_nil,Ju];exact J0.refl _) ?_
       intro k hk
       have hus:=ZW (Rp ms n i y x) k
       generalize hU:(List.range k).flatMap (Rp ms n i y x)=U at hus⊢
       simp(maxSteps:=999999)(disch:=omega)only[go_sem,zA,zM,zS,zE,zL]
       ((first|(with_reducible first|refine Jl ?_ ?_|refine Jj ?_ ?_|refine Jp ?_ ?_)|refine Jr ?_ ?_)<;>intro h6)
       · have h6:k<n:=by omega
         have hK:=hK k
         obtain⟨hc1,hc2⟩:=Xr hn h1 h6
         generalize VG n i k=c at hc1 hc2 hK
         generalize hQ:R++(S++(T++U))=Q
         have hQn:=Zf (Ze Q ms) c
         have hQl:(JQ (Ze Q ms)).length=n*n:=by rw[Qq];exact hll Q
         have hQc:Uq .andNot .i64 ((QL (Ze Q ms) c:Nat):Int) ((QL ms a:Nat):Int)=((B1 (QL (Ze Q ms) c) (QL ms a):Nat):Int):=Vv (by have:=(hlt Q c).1;omega) (by omega)
         have hyes:(k≠y∧k≠x)→R++(S++(T++(List.range (k+1)).flatMap (Rp ms n i y x)))=Q++[(c,QL ms a)]:=fun h=>by rw[hus,hK,if_pos h,←hQ];simp only[Jt]
         have hnot:¬(k≠y∧k≠x)→R++(S++(T++(List.range (k+1)).flatMap (Rp ms n i y x)))=Q:=fun h=>by rw[hus,hK,if_neg h,Ju,hQ]
         simp(maxSteps:=999999)(disch:=omega)only[go_sem,zA,zM,zS,zE,zL]
         ((with_reducible first|refine JJ ?_ ?_|refine JF ?_ ?_|refine JU ?_ ?_|refine Jw ?_ ?_|refine JH ?_ ?_|refine JI ?_ ?_|refine JD ?_ ?_|refine JE ?_ ?_|refine JS ?_ ?_|refine JT ?_ ?_|refine Jy ?_ ?_|refine Jz ?_ ?_)<;>intro h7<;>simp(maxSteps:=999999)(disch:=omega)only[go_sem,zA,zM,zS,zE,zL,h7])
         · exact⟨k+1,⟨by omega,by omega⟩,by push_cast;omega,by rw[hnot (by omega)];exact J0.refl _⟩
         ((first|(with_reducible first|refine Jl ?_ ?_|refine Jj ?_ ?_|refine Jp ?_ ?_)|refine Jr ?_ ?_)<;>intro h8)
         · simp(maxSteps:=999999)(disch:=omega)only[go_sem,zA,zM,zS,zE,zL]
           exact⟨k+1,⟨by omega,by omega⟩,by push_cast;omega,by rw[hnot (by omega)];exact J0.refl _⟩
         · simp(maxSteps:=999999)(disch:=omega)only[go_sem,zA,zM,zS,zE,zL]
           refine Ui [0,1,2,3,4,5,6,7,8,9,10,11,12,13] [] none [14,15] [] Zd (by kernel_rfl) ?_
           simp(maxSteps:=999999)(disch:=omega)only[go_sem,Nat.reduceBEq,Bool.true_or,zA,zM,zS,zE,zL]
           simp(maxSteps:=999999)(disch:=omega)only[go_sem,zA,zM,zS,zE,zL,hc2,hQn,hQl,hQc]
           exact⟨k+1,⟨by omega,by omega⟩,by push_cast;rfl,by rw[hyes (by omega),WI,←VE,←hQc,h4];exact J0.refl _⟩
       · have hke:k=n:=by omega
         rw[hke]at hU
         simp(maxSteps:=999999)(disch:=omega)only[go_sem,zA,zM,zS,zE,zL]
         exact⟨x+1,⟨by omega,by omega⟩,by push_cast;rfl,by rw[hts,hP,hU];exact J0.refl _⟩
     · have hte:x=y:=by omega
       rw[hte]at hT
       simp(maxSteps:=999999)(disch:=omega)only[go_sem,zA,zM,zS,zE,zL]
       exact⟨y+1,⟨by omega,by omega⟩,by push_cast;rfl,by rw[hks,hI,hT];exact J0.refl _⟩
   · have hke:y=n:=by omega
     rw[hke]at hS
     simp(maxSteps:=999999)(disch:=omega)only[go_sem,zA,zM,zS,zE,zL]
     exact⟨i+1,⟨by omega,by omega⟩,by push_cast;rfl,by rw[hrs,←hS];exact J0.refl _⟩
 · skip
   have hie:i=2*n:=by omega
   rw[hie]at hR
   have hM:Ze R ms=Ze ((List.range (2*n)).flatMap (FP ms n)) ms:=by rw[←hR]<;>rfl
   have hl2:(JQ (Ze ((List.range (2*n)).flatMap (FP ms n)) ms)).length=n*n:=by rw[Qq,←hM];exact hll R
   rw[hM]
   simp(maxSteps:=999999)(disch:=omega)only[go_sem,zA,zM,zS,zE,zL]
   rw[←hl2]
   exact ZO (E:=eI .i64) (n:=1) (J0.refl _)
end Go.Lg

namespace Go.Lg
open Go.Proofs
theorem Jkx{o:List Nat}{vs:List Int}(hl:vs.length=o.length){k b:Nat}(h:((orV o vs).getD k 0).testBit b=true):(o.getD k 0).testBit b=true∨(k<vs.length∧b=(JA vs k).toNat):=by
 unfold orV at h
 simp only[List.getD,List.getElem?_zipWith]at h
 by_cases hk:k<o.length
 · have hk2:k<vs.length:=by omega
   have e:JA vs k=vs[k]:=by rw[Qt (by omega)];rfl
   simp only[Jq hk,Jq hk2,Option.getD_some,Nat.testBit_or,Bool.or_eq_true,Nat.testBit_two_pow,decide_eq_true_eq]at h
   rcases h with h|h
   · left;simpa[List.getD,Jq hk]using h
   · right;exact⟨hk2,by rw[e];exact h.symm⟩
 · simp[Jx (show o.length≤k by omega)]at h
theorem Jcs(r:Z0):∀(ms:List Nat) (pre:List Int) (o:List Nat),pre.length+ms.length=o.length→∀k b:Nat,((Z3 r ms pre o).getD k 0).testBit b=true→
 (o.getD k 0).testBit b=true∨(k<pre.length∧b=(JA pre k).toNat)∨(pre.length≤k∧1≤b∧b≤4∧(ms.getD (k -pre.length) 0).testBit b=true)
 |[],pre,o,hl,k,b,h=>by
  unfold Z3 at h
  split at h
  · rcases Jkx (by simpa using hl) h with h|h
    · exact .inl h
    · exact .inr (.inl h)
  · exact .inl h
 |m::ms,pre,o,hl,k,b,h=>by
  rw[W5]at h
  have hl':pre.length+ms.length+1=o.length:=by simp at hl;omega
  have gen:∀(vs:List Int),(∀v∈vs,v∈Z9 m 4)→∀o':List Nat,o'.length=o.length→((vs.foldl (fun o v=>Z3 r ms (pre++[v]) o) o').getD k 0).testBit b=true→
   (o'.getD k 0).testBit b=true∨(k<pre.length∧b=(JA pre k).toNat)∨(pre.length≤k∧1≤b∧b≤4∧((m::ms).getD (k -pre.length) 0).testBit b=true):=by
   intro vs
   induction vs with
   |nil=>intro _ o' _ h;exact .inl h
   |cons v vs ih=>
    intro hv o' ho h
    rw[List.foldl_cons]at h
    have hlw:(Z3 r ms (pre++[v]) o').length=o'.length:=VU r ms _ _ (by simp;omega)
    rcases ih (fun u hu=>hv u (by simp[hu])) _ (by rw[hlw];exact ho) h with h|h
    · rcases Jcs r ms (pre++[v]) o' (by simp;omega) k b h with h|⟨h1,h2⟩|⟨h1,h2,h3,h4⟩
      · exact .inl h
      · by_cases hk:k<pre.length
        · refine .inr (.inl ⟨hk, ?_⟩)
          rw[h2,Qt (by simp;omega),Qt (by omega)]
          simp only[Int.toNat_natCast,List.getElem_append_left hk]
        · have hk:k=pre.length:=by simp at h1;omega
          refine .inr (.inr ⟨by omega, ?_⟩)
          have e:JA (pre++[v]) k=v:=by
           rw[Qt (by simp;omega)]
           simp[hk]
          rw[e]at h2
          have hm:=hv v (by simp)
          have hb:=K7 hm
          refine⟨by omega,by omega, ?_⟩
          rw[hk,Nat.sub_self,List.getD_cons_zero,h2]
          unfold Z9 at hm
          obtain⟨u,_,hu⟩:=List.mem_flatMap.1 hm
          split at hu
          · rename_i ht
            have:v=u:=by simpa using hu
            rw[this,Int.toNat_natCast];exact ht
          · cases hu
      · simp only[Jk,Je,Jf]at h1 h4
        refine .inr (.inr ⟨by omega,h2,h3, ?_⟩)
        rw[show k -pre.length=(k -(pre.length+1))+1 by omega,List.getD_cons_succ]
        exact h4
    · exact .inr h
  exact gen _ (fun v hv=>hv) o rfl h
theorem JeF{a b:Nat}(h:∀i,a.testBit i=true→b.testBit i=true):a≤b:=by
 have:a&&&b=a:=by
  refine Nat.eq_of_testBit_eq fun i=> ?_
  rw[Nat.testBit_and]
  cases ha:a.testBit i
  · rfl
  · rw[h i ha];rfl
 rw[←this]
 exact Nat.and_le_right
theorem JcR{r:Z0}{ms:List Nat}{k:Nat}(hk:k<r.cells.length){b:Nat}(h:((ZH r (JQ ms)).getD k 0).testBit b=true):1≤b∧(QL ms (JA r.cells k).toNat).testBit b=true:=by
 unfold ZH at h
 have hl:(WV r (JQ ms) 0).length=r.cells.length:=by unfold WV;simp
 rcases Jcs r _ [] _ (by simp[hl]) k b h with h|h|⟨_,h1,_,h2⟩
 · simp[List.getD,hk]at h
 · simp at h
 · refine⟨h1, ?_⟩
   have e:(WV r (JQ ms) 0).getD (k -([]:List Int).length) 0=QL ms (JA r.cells k).toNat:=by
    have e1:JA r.cells k=r.cells[k]:=by rw[Qt (by omega)];rfl
    unfold WV
    simp only[JR,Jf,Nat.sub_zero,List.getD,Qv,Jq hk,Option.map_some,Option.getD_some]
    rw[Vb,Zf,e1,Int.toNat_natCast]
   rw[e]at h2
   exact h2
def Fe(r:Z0)(fd:List Nat)(ms:List Nat)(j:Nat):List Nat:=(List.range j).foldl (fun(o:List Nat) (i:Nat)=>o.set (JA r.cells (i:Int)).toNat (fd.getD i 0)) ms
theorem Yd(r:Z0)(fd ms:List Nat)(j:Nat):Fe r fd ms (j+1)=(Fe r fd ms j).set (JA r.cells j).toNat (fd.getD j 0):=by
 unfold Fe
 rw[List.range_succ,List.foldl_append]
 rfl
theorem G1(r:Z0)(fd ms:List Nat):∀j,(Fe r fd ms j).length=ms.length
 |0=>rfl
 |j+1=>by rw[Yd,Jo,G1 r fd ms j]
theorem No{o ms:List Nat}{c v:Nat}(h:∀k,QL o k≤QL ms k)(hv:v≤QL ms c)(k:Nat):QL (o.set c v) k≤QL ms k:=by
 by_cases hc:c<o.length
 · rw[WX hc]
   split
   · rename_i hk;rw[hk];exact hv
   · exact h k
 · rw[List.set_eq_of_length_le (by omega)];exact h k
theorem JcQ{r:Z0}{ms:List Nat}{k:Nat}(hk:k<r.cells.length):(ZH r (JQ ms)).getD k 0≤QL ms (JA r.cells k).toNat:=JeF fun b hb=>(JcR hk hb).2
theorem Jej{r:Z0}{ms:List Nat}{k:Nat}(hk:k<r.cells.length):(ZH r (JQ ms)).getD k 0%2=0:=by
 have h1:((ZH r (JQ ms)).getD k 0).testBit 0=false:=by
  cases h:((ZH r (JQ ms)).getD k 0).testBit 0
  · rfl
  · have:=(JcR hk h).1;omega
 rw[Nat.testBit_zero,decide_eq_false_iff_not]at h1
 omega
theorem Jfq(r:Z0)(ms:List Nat):∀j,j≤r.cells.length→∀k,QL (Fe r (ZH r (JQ ms)) ms j) k≤QL ms k
 |0,_,_=>Nat.le_refl _
 |j+1,hj,k=>by
  rw[Yd]
  exact No (Jfq r ms j (by omega)) (JcQ (by omega)) k
theorem Jfp{n:Nat}(r:Z0){ms:List Nat}(h:XT ms n):∀j,j≤r.cells.length→XT (Fe r (ZH r (JQ ms)) ms j) n
 |0,_=>h
 |j+1,hj=>by
  rw[Yd]
  refine(Jfp r h j (by omega)).set ⟨?_,Jej (by omega)⟩
  have:=JcQ (r:=r) (ms:=ms) (k:=j) (by omega)
  have:=h.at (JA r.cells j).toNat
  omega
def JcS(ms:List Nat)(r:Z0):List Nat:=Fe r (ZH r (JQ ms)) ms r.cells.length
def B9(p:Q4)(ms:List Nat)(k:Nat):List Nat:=(p.rules.take k).foldl JcS ms
def YC(p:Q4)(ms:List Nat):List Nat:=p.rules.foldl JcS ms
theorem JaV{p:Q4}{ms:List Nat}{k:Nat}(h:k<p.rules.length):B9 p ms (k+1)=JcS (B9 p ms k) (JA p.rules k):=by
 unfold B9
 rw[Qg h,List.foldl_append]
 rfl
theorem BM{n:Nat}:∀(rs:List Z0) {ms:List Nat},XT ms n→XT (rs.foldl JcS ms) n
 |[],_,h=>h
 |r::rs,_,h=>BM rs (Jfp r h _ (Nat.le_refl _))
theorem JdA:∀(rs:List Z0) (ms:List Nat) (k:Nat),QL (rs.foldl JcS ms) k≤QL ms k
 |[],_,_=>Nat.le_refl _
 |r::rs,ms,k=>Nat.le_trans (JdA rs (JcS ms r) k) (Jfq r ms _ (Nat.le_refl _) k)
theorem Jb7(R:List (Nat×Nat)):∀(ms:List Nat) (k:Nat),QL (Ze R ms) k≤QL ms k:=by
 induction R with
 |nil=>intro ms k;exact Nat.le_refl _
 |cons q R ih=>
  intro ms k
  refine Nat.le_trans (ih (ms.set q.1 (B1 (QL ms q.1) q.2)) k) ?_
  exact No (fun _=>Nat.le_refl _) (JeS _ _) k
def Uk(p:Q4)(t:Nat)(ms:List Nat):List Nat:=
 if t=1 then Jah ms p.size.toNat else if t=2 then ND ms p.size.toNat else if t=3 then Jam ms p.size.toNat else YC p ms
theorem K6{p:Q4}{n t:Nat}{ms:List Nat}(h:XT ms n):XT (Uk p t ms) n:=by
 unfold Uk Jah ND Jam YC
 split
 · exact W0 _ h
 split
 · exact W0 _ h
 split
 · exact W0 _ h
 · exact BM _ h
theorem JkL(p:Q4)(t:Nat)(ms:List Nat)(k:Nat):QL (Uk p t ms) k≤QL ms k:=by
 unfold Uk Jah ND Jam YC
 split
 · exact Jb7 _ _ _
 split
 · exact Jb7 _ _ _
 split
 · exact Jb7 _ _ _
 · exact JdA _ _ _
theorem JaL:∀{a b:List Nat},a.length=b.length→(∀k,QL a k≤QL b k)→a.sum≤b.sum∧(a≠b→a.sum<b.sum)
 |[],[],_,_=>⟨Nat.le_refl _,fun h=>absurd rfl h⟩
 |x::a,y::b,hl,h=>by
  have h0:x≤y:=h 0
  obtain⟨h1,h2⟩:=JaL (a:=a) (b:=b) (by simpa using hl) fun k=>h (k+1)
  simp only[Wz]
  refine⟨by omega,fun hne=> ?_⟩
  by_cases hxy:x=y
  · have:a≠b:=fun hab=>hne (by rw[hxy,hab])
    have:=h2 this
    omega
  · omega
 |[],_::_,h,_=>by simp at h
 |_::_,[],h,_=>by simp at h
theorem Jdc{p:Q4}{n t:Nat}{ms:List Nat}(h:XT ms n)(hne:Uk p t ms≠ms):(Uk p t ms).sum<ms.sum:=
 (JaL ((K6 h).len.trans h.len.symm) (JkL p t ms)).2 hne
def ZZ(p:Q4)(ms:List Nat):Nat:=if Uk p 1 ms≠ms then 1 else if Uk p 2 ms≠ms then 2 else if Uk p 3 ms≠ms then 3 else if Uk p 4 ms≠ms then 4 else 0
theorem Jc9(p:Q4)(ms:List Nat):ZZ p ms≤4:=by
 unfold ZZ
 repeat' split
 all_goals omega
theorem Jda{p:Q4}{ms:List Nat}{t:Nat}(ht:1≤t∧t≤4)(hlt:∀u,1≤u→u<t→Uk p u ms=ms)(hne:Uk p t ms≠ms):ZZ p ms=t:=by
 unfold ZZ
 have h4:t=1∨t=2∨t=3∨t=4:=by omega
 rcases h4 with rfl|rfl|rfl|rfl
 · rw[if_pos hne]
 · rw[if_neg (fun h=>h (hlt 1 (by omega) (by omega))),if_pos hne]
 · rw[if_neg (fun h=>h (hlt 1 (by omega) (by omega))),if_neg (fun h=>h (hlt 2 (by omega) (by omega))),if_pos hne]
 · rw[if_neg (fun h=>h (hlt 1 (by omega) (by omega))),if_neg (fun h=>h (hlt 2 (by omega) (by omega))),if_neg (fun h=>h (hlt 3 (by omega) (by omega))),if_pos hne]
theorem Jc8{p:Q4}{ms:List Nat}(h:∀u,1≤u→u<5→Uk p u ms=ms):ZZ p ms=0:=by
 unfold ZZ
 rw[if_neg (fun k=>k (h 1 (by omega) (by omega))),if_neg (fun k=>k (h 2 (by omega) (by omega))),if_neg (fun k=>k (h 3 (by omega) (by omega))),if_neg (fun k=>k (h 4 (by omega) (by omega)))]
theorem JiC{p:Q4}{ms:List Nat}(h:ZZ p ms≠0):Uk p (ZZ p ms) ms≠ms:=by
 unfold ZZ at h⊢
 by_cases h1:Uk p 1 ms≠ms
 · rw[if_pos h1];exact h1
 rw[if_neg h1]at h⊢
 by_cases h2:Uk p 2 ms≠ms
 · rw[if_pos h2];exact h2
 rw[if_neg h2]at h⊢
 by_cases h3:Uk p 3 ms≠ms
 · rw[if_pos h3];exact h3
 rw[if_neg h3]at h⊢
 by_cases h4:Uk p 4 ms≠ms
 · rw[if_pos h4];exact h4
 rw[if_neg h4]at h
 exact absurd rfl h
end Go.Lg
