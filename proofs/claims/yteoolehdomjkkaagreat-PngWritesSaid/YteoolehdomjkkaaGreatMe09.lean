/- XSort5 XSort6 -/
import Derived.Test.YteoolehdomjkkaaGreatMe08
namespace Go.Proofs.YteoolehdomjkkaaGreat
set_option linter.all false
open Go.RowKit
abbrev mw:MP→Int:=fun x=>x.2.w
theorem rotate_int (w0 W:World) (base g n c:Nat) (P U V R:List MP) (f:Value) (h:SortW w0 base g n c (P ++ U ++ V ++ R) W) (hU:0 < U.length) (hV:0 < V.length) (hn:n≤1099511627776) (a m b:Int)
  (ha:a=P.length) (hm:m=P.length+U.length) (hb:b=P.length+U.length+V.length) :
  Calls Tryz.prog 197 #[.slice (some ⟨g,0,none⟩) n c,.int .i64 a,.int .i64 m,.int .i64 b,f] W fun e w' =>
   e=.returned (.tuple #[])∧SortW w0 base g n c (P ++ V ++ U ++ R) w':=by
 have hm':m=((P.length+U.length:Nat):Int):=by omega
 have hb':b=((P.length+U.length+V.length:Nat):Int):=by omega
 subst ha hm' hb'
 exact rotate_any w0 W base g n c P U V R f h hU hV hn _ _ _ rfl rfl rfl
theorem sym_pure {A1 U V B2:List MP} (hA:Srt mw (A1 ++ U)) (hB:Srt mw (V ++ B2)) (hUV:∀ u ∈ U,∀ v ∈ V,mw v < mw u) (hAB:∀ x ∈ A1,∀ y ∈ B2,mw x≤mw y) :
  stab mw ((A1 ++ U) ++ (V ++ B2))=stab mw (A1 ++ V) ++ stab mw (U ++ B2):=by
 have h1:FEq mw ((A1 ++ U) ++ (V ++ B2)) ((A1 ++ V) ++ (U ++ B2)):=by
  have:=(FEq.refl A1).append ((FEq.swap hUV).append (FEq.refl B2))
  simpa using this
 obtain ⟨a1,a2,a3⟩:=Srt.append.1 hA
 obtain ⟨b1,b2,b3⟩:=Srt.append.1 hB
 refine (SS.eq_stab (SS.feq h1 (SS.join (stab_ss _) (stab_ss _) ?_))).symm
 intro x hx y hy
 rcases List.mem_append.1 hx with hx | hx <;> rcases List.mem_append.1 hy with hy | hy
 ·exact a3 x hx y hy
 ·exact hAB x hx y hy
 ·have:=hUV y hy x hx;omega
 ·exact b3 x hx y hy
theorem stab_one_nil {A B:List MP} (hA:Srt mw A) (hB:Srt mw B) (h:A=[]∨B=[]):stab mw (A ++ B)=A ++ B:=by
 rcases h with rfl | rfl
 ·simpa using (SS.of hB).eq_stab.symm
 ·simpa using (SS.of hA).eq_stab.symm
/-- What the search found. -/
theorem sym_found {P A B R:List MP} {a m b mid s0 r0 s:Nat} (ha:a=P.length) (hm:m=a+A.length) (hb:b=m+B.length) (hA:Srt mw A) (hB:Srt mw B)
  (h1:a≤s0) (h2:s0≤s) (h3:s≤r0) (h4:r0≤m) (h5:r0≤mid) (h6:mid+m≤b+s0) (h7:s0=a∨mid+m=b+s0) (h8:r0=m∨r0=mid)
  (g1:∀ k,s0≤k→k < s→wd (P ++ (A ++ (B ++ R))) k≤wd (P ++ (A ++ (B ++ R))) (mid+m - 1 - k)) (g2:∀ k,s≤k→k < r0→wd (P ++ (A ++ (B ++ R))) (mid+m - 1 - k) < wd (P ++ (A ++ (B ++ R))) k) :
  stab mw (A ++ B)=stab mw (A.take (s - a) ++ B.take (mid - s)) ++ stab mw (A.drop (s - a) ++ B.drop (mid - s)):=by
 have wA:∀ t (ht:t < A.length),wd (P ++ (A ++ (B ++ R))) (a+t)=mw A[t]:=fun t ht=>wd_mid (by omega) ht
 have wB:∀ t (ht:t < B.length),wd (P ++ (A ++ (B ++ R))) (m+t)=mw B[t]:=fun t ht=>by
  have:=wd_mid (P:=P ++ A) (M:=B) (R:=R) (k:=m+t) (t:=t) (by simp;omega) ht
  rwa [List.append_assoc] at this
 have mA:∀ t1 t2 (h:t1≤t2) (ht:t2 < A.length),mw (A[t1]'(by omega))≤mw A[t2]:=fun t1 t2 h ht=>by
  rcases Nat.lt_or_eq_of_le h with h | rfl
  ·exact (List.pairwise_iff_getElem.1 hA) t1 t2 (by omega) ht h
  ·exact Int.le_refl _
 have mB:∀ t1 t2 (h:t1≤t2) (ht:t2 < B.length),mw (B[t1]'(by omega))≤mw B[t2]:=fun t1 t2 h ht=>by
  rcases Nat.lt_or_eq_of_le h with h | rfl
  ·exact (List.pairwise_iff_getElem.1 hB) t1 t2 (by omega) ht h
  ·exact Int.le_refl _
 have:=sym_pure (A1:=A.take (s - a)) (U:=A.drop (s - a)) (V:=B.take (mid - s)) (B2:=B.drop (mid - s)) (by rw [List.take_append_drop];exact hA) (by rw [List.take_append_drop];exact hB) ?_ ?_
 ·rwa [List.take_append_drop,List.take_append_drop] at this
 ·intro u hu v hv
  obtain ⟨t,t1,t2,rfl⟩:=mem_drop_at hu
  obtain ⟨q,q1,q2,rfl⟩:=mem_take_at hv
  have hs:s < r0:=by omega
  have e:=g2 s (Nat.le_refl _) hs
  have e1:=wA (s - a) (by omega)
  have e2:=wB (mid - 1 - s) (by omega)
  rw [show a+(s - a)=s by omega] at e1
  rw [show m+(mid - 1 - s)=mid+m - 1 - s by omega] at e2
  have e3:=mA (s - a) t t1 t2
  have e4:=mB q (mid - 1 - s) (by omega) (by omega)
  omega
 ·intro x hx y hy
  obtain ⟨t,t1,t2,rfl⟩:=mem_take_at hx
  obtain ⟨q,q1,q2,rfl⟩:=mem_drop_at hy
  have hs:s0 < s:=by omega
  have e:=g1 (s - 1) (by omega) (by omega)
  have e1:=wA (s - 1 - a) (by omega)
  have e2:=wB (mid - s) (by omega)
  rw [show a+(s - 1 - a)=s - 1 by omega] at e1
  rw [show m+(mid - s)=mid+m - 1 - (s - 1) by omega] at e2
  have e3:=mA t (s - 1 - a) (by omega) (by omega)
  have e4:=mB (mid - s) q q1 q2
  omega
set_option maxRecDepth 100000 in
set_option maxHeartbeats 6400000 in
theorem sym_gen (w0 W:World) (base g n c:Nat) (P A B R:List MP) (h:SortW w0 base g n c (P ++ (A ++ (B ++ R))) W) (hn:n≤1099511627776) (a m b:Nat)
  (ha:a=P.length) (hm:m=a+A.length) (hb:b=m+B.length) (h1:2≤A.length) (h2:2≤B.length) (hA:Srt mw A) (hB:Srt mw B)
  (ih:∀ (W:World) (P A' B' R:List MP) (a m b:Int),SortW w0 base g n c (P ++ (A' ++ (B' ++ R))) W→a=P.length→m=a+A'.length→b=m+B'.length→0 < A'.length→0 < B'.length→A'.length+B'.length < A.length+B.length→Srt mw A'→Srt mw B' →
   Calls Tryz.prog 196 #[.slice (some ⟨g,0,none⟩) n c,.int .i64 a,.int .i64 m,.int .i64 b,.func (.func 183) #[] #[]] W fun e w' =>
    e=.returned (.tuple #[])∧SortW w0 base g n c (P ++ (stab mw (A' ++ B') ++ R)) w') :
  Calls Tryz.prog 196 #[.slice (some ⟨g,0,none⟩) n c,.int .i64 a,.int .i64 m,.int .i64 b,.func (.func 183) #[] #[]] W fun e w' =>
   e=.returned (.tuple #[])∧SortW w0 base g n c (P ++ (stab mw (A ++ B) ++ R)) w':=by
 have hlen:=h.len
 simp only [List.length_append,List.length_cons] at hlen
 have HS:=Lib.hid h
 have b1:b≤n:=by omega
 have b2:a+2≤m:=by omega
 have b3:m+2≤b:=by omega
 have HA:=Lib.hid ha
 have HM:=Lib.hid hm
 have HB:=Lib.hid hb
 have HIH:=Lib.hid ih
 have e1:¬ ((m:Int) - a=1):=by omega
 have e1':(((m:Int) - a) == 1)=false:=by simpa using e1
 have e2:¬ ((b:Int) - m=1):=by omega
 have e2':(((b:Int) - m) == 1)=false:=by simpa using e2
 clear h ha hb hlen hm h1 h2 ih
 go_enter Tryz.func196,Tryz.ntmps196
 go_upto_if 140 with (fail)
 have eh:((a:Int)+b) / 2=(((a+b) / 2:Nat):Int):=by omega
 rw [eh]
 clear eh
 have hmid1:a+b≤(a+b) / 2 * 2+1:=by omega
 have hmid2:(a+b) / 2 * 2≤a+b:=by omega
 generalize (a+b) / 2=mid at *
 obtain ⟨s0,r0,q0,q1,q2,q3,q4,q5,q6⟩:∃ s0 r0:Nat,(m > mid→s0=mid+m - b∧r0=mid)∧(¬ m > mid→s0=a∧r0=m)∧a≤s0∧s0≤r0∧r0≤m∧r0≤mid∧mid+m≤b+s0:=by
  by_cases hq:m > mid
  ·exact ⟨mid+m - b,mid,fun _=>⟨rfl,rfl⟩,fun h=>absurd hq h,by omega,by omega,by omega,by omega,by omega⟩
  ·exact ⟨a,m,fun h=>absurd h hq,fun _=>⟨rfl,rfl⟩,by omega,by omega,by omega,by omega,by omega⟩
 have q7:(s0=a∨mid+m=b+s0)∧(r0=m∨r0=mid):=by
  by_cases hq:m > mid
  ·obtain ⟨rfl,rfl⟩:=q0 hq;omega
  ·obtain ⟨rfl,rfl⟩:=q1 hq;omega
 have HQ0:=Lib.hid q0
 have HQ1:=Lib.hid q1
 have HQ7:=Lib.hid q7
 clear q0 q1 q7
 go_cut [20,21] (fun u v wc=>u=.int .i64 s0∧v=.int .i64 r0∧wc=W)
 case first =>
  by_cases hq:mid < m
  ·obtain ⟨z1,z2⟩:=HQ0.out hq
   have z3:(mid:Int)+m - b=(s0:Int):=by omega
   have Z3:=Lib.hid z3
   have Z2:=Lib.hid z2
   clear z1 z2 z3
   have hq':decide ((mid:Int) < (m:Int))=true:=decide_eq_true (by omega)
   go_wp2_with fail
   go_meet
   case rel=>exact ⟨by rw [Z3.out],by rw [Z2.out],rfl⟩
  ·obtain ⟨z1,z2⟩:=HQ1.out (by omega)
   have Z1:=Lib.hid z1
   have Z2:=Lib.hid z2
   clear z1 z2
   have hq':decide ((mid:Int) < (m:Int))=false:=decide_eq_false (by omega)
   go_wp2_with fail
   go_meet
   case rel=>exact ⟨by rw [Z1.out],by rw [Z2.out],rfl⟩
 case rest =>
  obtain ⟨rfl,rfl,rfl⟩:=hcut
  go_wp2_with fail
  go_loopw [20,21] (fun vi vj wr=>∃ i j:Nat,vi=.int .i64 i∧vj=.int .i64 j∧s0≤i∧i≤j∧j≤r0∧Hid (∀ k,s0≤k→k < i→wd (P ++ (A ++ (B ++ R))) k≤wd (P ++ (A ++ (B ++ R))) (mid+m - 1 - k))∧Hid (∀ k,j≤k→k < r0→wd (P ++ (A ++ (B ++ R))) (mid+m - 1 - k) < wd (P ++ (A ++ (B ++ R))) k)∧Hid (SortW w0 base g n c (P ++ (A ++ (B ++ R))) wr))
   (fun vi vj _=>(intOf vj).toNat - (intOf vi).toNat)
  case atStart=>exact ⟨s0,r0,rfl,rfl,by omega,by omega,by omega,(show ∀ k,_ by intro k;omega),(show ∀ k,_ by intro k;omega),HS⟩
  case round =>
   clear HS
   obtain ⟨i,j,rfl,rfl,hmi,hij,hjb,H1,H2,HS⟩:=hrel
   by_cases hlt:i < j
   ·go_wp2_with fail
    have eh:((i:Int)+j) / 2=(((i+j) / 2:Nat):Int):=by omega
    rw [eh]
    clear eh
    have hh1:i≤(i+j) / 2:=by omega
    have hh2:(i+j) / 2 < j:=by omega
    obtain ⟨z,hz,cz,cwz,ewz⟩:=HS.out.gt (k:=(i+j) / 2) (by omega)
    obtain ⟨y,hy,cy,cwy,ewy⟩:=HS.out.gt (k:=mid+m - 1 - (i+j) / 2) (by omega)
    have HW:=Lib.hid (fun q=>Calls.quiet_of (n:=q) (w:=wr) (less_any y z (wr.drewN q) cwy cwz))
    have HE:=Lib.hid ewz
    have HF:=Lib.hid ewy
    clear hz ewz hy ewy cwz cwy
    generalize (i+j) / 2=k at *
    have g1:(k:Int).toNat=k:=by omega
    have p3:(k:Int) < n:=by omega
    have g2:((mid:Int)+m - 1 - k).toNat=mid+m - 1 - k:=by omega
    have r1:IntKind.i64.wrap ((mid:Int)+m - 1 - k)=(mid:Int)+m - 1 - k:=by rw [IntKind.wrap_i64];omega
    have p4:(mid:Int)+m - 1 - k < n:=by omega
    have p5:(0:Int)≤(mid:Int)+m - 1 - k:=by omega
    have hmono:∀ k1 k2,s0≤k1→k1≤k2→k2 < r0→wd (P ++ (A ++ (B ++ R))) k1≤wd (P ++ (A ++ (B ++ R))) k2∧wd (P ++ (A ++ (B ++ R))) (mid+m - 1 - k2)≤wd (P ++ (A ++ (B ++ R))) (mid+m - 1 - k1):=by
     intro k1 k2 x1 x2 x3
     have l1:=HA.out
     have l2:=HB.out
     have l3:=HM.out
     have w1:=wd_mid (P:=P) (M:=A) (R:=B ++ R) (k:=k1) (t:=k1 - a) (by omega) (by omega)
     have w2:=wd_mid (P:=P) (M:=A) (R:=B ++ R) (k:=k2) (t:=k2 - a) (by omega) (by omega)
     have w3:=wd_mid (P:=P ++ A) (M:=B) (R:=R) (k:=mid+m - 1 - k1) (t:=mid - 1 - k1) (by simp;omega) (by omega)
     have w4:=wd_mid (P:=P ++ A) (M:=B) (R:=R) (k:=mid+m - 1 - k2) (t:=mid - 1 - k2) (by simp;omega) (by omega)
     rw [List.append_assoc] at w3 w4
     rw [w1,w2,w3,w4]
     rcases Nat.lt_or_eq_of_le x2 with x2 | rfl
     ·exact ⟨(List.pairwise_iff_getElem.1 hA) (k1 - a) (k2 - a) (by omega) (by omega) (by omega),(List.pairwise_iff_getElem.1 hB) (mid - 1 - k2) (mid - 1 - k1) (by omega) (by omega) (by omega)⟩
     ·exact ⟨Int.le_refl _,Int.le_refl _⟩
    have HMO:=Lib.hid hmono
    clear hmono
    by_cases hc:y.2.w < z.2.w
    ·have v1:cmpI y.2.w z.2.w < 0:=(cmpI_neg _ _).2 hc
     have hc':wd (P ++ (A ++ (B ++ R))) (mid+m - 1 - k) < wd (P ++ (A ++ (B ++ R))) k:=by rw [← HE.out,← HF.out];exact hc
     generalize cmpI y.2.w z.2.w=r at HW v1
     have v2:decide (r < 0)=true:=decide_eq_true v1
     have HC:=Lib.hid hc'
     have HS1:=Lib.hid (fun m=>HS.out.drewN m)
     clear hc hc' HS
     go_quiet ((go_at_call 183;exact HW.out _))
     have HS:=Lib.hid (HS1.out nq)
     clear HS1 HW r1 g2
     go_wp2_with fail
     go_roundw
     case rel=>exact ⟨i,k,rfl,rfl,by omega,by omega,by omega,H1,(show ∀ q,_ from fun q q1 q2=>by have:=HMO.out k q (by omega) q1 q2;have:=HC.out;omega),HS⟩
     case measure=>simp [intOf];omega
    ·have v1:¬ cmpI y.2.w z.2.w < 0:=fun h=>hc ((cmpI_neg _ _).1 h)
     have hc':wd (P ++ (A ++ (B ++ R))) k≤wd (P ++ (A ++ (B ++ R))) (mid+m - 1 - k):=by rw [← HE.out,← HF.out];omega
     generalize cmpI y.2.w z.2.w=r at HW v1
     have v2:decide (r < 0)=false:=decide_eq_false v1
     have HC:=Lib.hid hc'
     have HS1:=Lib.hid (fun m=>HS.out.drewN m)
     clear hc hc' HS
     go_quiet ((go_at_call 183;exact HW.out _))
     have HS:=Lib.hid (HS1.out nq)
     clear HS1 HW r1 g2
     go_wp2_with fail
     go_roundw
     case rel=>exact ⟨k+1,j,by go_num,rfl,by omega,by omega,by omega,(show ∀ q,_ from fun q q1 q2=>by have:=HMO.out q k q1 (by omega) (by omega);have:=HC.out;omega),H2,HS⟩
     case measure=>simp [intOf];omega
   ·obtain rfl:i=j:=by omega
    clear hlt hij
    have e9:=sym_found HA.out HM.out HB.out hA hB q2 hmi hjb q4 q5 q6 HQ7.out.1 HQ7.out.2 H1.out H2.out
    have HE9:=Lib.hid e9
    have lA1:(A.take (i - a)).length=i - a:=by have:=HM.out;simp;omega
    have lU:(A.drop (i - a)).length=m - i:=by have:=HM.out;simp;omega
    have lV:(B.take (mid - i)).length=mid - i:=by have:=HB.out;simp;omega
    have lB2:(B.drop (mid - i)).length=b+i - mid - m:=by have:=HB.out;simp;omega
    have sA:Srt mw (A.take (i - a))∧Srt mw (A.drop (i - a)):=by
     have:=hA
     rw [← List.take_append_drop (i - a) A] at this
     exact ⟨(Srt.append.1 this).1,(Srt.append.1 this).2.1⟩
    have sB:Srt mw (B.take (mid - i))∧Srt mw (B.drop (mid - i)):=by
     have:=hB
     rw [← List.take_append_drop (mid - i) B] at this
     exact ⟨(Srt.append.1 this).1,(Srt.append.1 this).2.1⟩
    have h7:SortW w0 base g n c (P ++ A.take (i - a) ++ A.drop (i - a) ++ B.take (mid - i) ++ (B.drop (mid - i) ++ R)) wr:=by
     refine HS.out.same ?_
     conv=>lhs;rw [← List.take_append_drop (i - a) A,← List.take_append_drop (mid - i) B]
     simp only [List.append_assoc]
    clear e9 H1 H2 HS
    generalize A.take (i - a)=A1 at *
    generalize A.drop (i - a)=U at *
    generalize B.take (mid - i)=V at *
    generalize B.drop (mid - i)=B2 at *
    have HL1:=Lib.hid lA1
    have HL2:=Lib.hid lU
    have HL3:=Lib.hid lV
    have HL4:=Lib.hid lB2
    have LP:=Lib.hid (show P.length=a from HA.out.symm)
    have LAB:=Lib.hid (show A.length+B.length=A1.length+U.length+(V.length+B2.length) by have:=HM.out;have:=HB.out;omega)
    clear lA1 lU lV lB2
    have HROT:=Lib.hid (fun (h1:i < m) (h2:i < mid)=>rotate_int w0 wr base g n c (P ++ A1) U V (B2 ++ R) (.func (.func 183) #[] #[]) (h7.same (by simp)) (by have:=HL2.out;omega) (by have:=HL3.out;omega) hn (i:Int) (m:Int) ((mid:Int)+m - i)
     (by have:=LP.out;have:=HL1.out;simp;omega) (by have:=LP.out;have:=HL1.out;have:=HL2.out;simp;omega) (by have:=LP.out;have:=HL1.out;have:=HL2.out;have:=HL3.out;simp;omega))
    have HNO:=Lib.hid (fun (h:¬ (i < m∧i < mid))=>show SortW w0 base g n c (P ++ (A1 ++ (V ++ (U ++ B2 ++ R)))) wr from h7.same (by
     have l2:=HL2.out
     have l3:=HL3.out
     by_cases hh:i < m
     ·have:V=[]:=List.eq_nil_of_length_eq_zero (by omega)
      subst this;simp
     ·have:U=[]:=List.eq_nil_of_length_eq_zero (by omega)
      subst this;simp))
    have HLF:=Lib.hid (fun (W':World) (hW:SortW w0 base g n c (P ++ (A1 ++ (V ++ (U ++ B2 ++ R)))) W') (h1:a < i) (h2:i < mid) =>
     HIH.out W' P A1 V (U ++ B2 ++ R) (a:Int) (i:Int) (mid:Int) hW (by have:=LP.out;omega) (by have:=HL1.out;omega) (by have:=HL3.out;omega) (by have:=HL1.out;omega) (by have:=HL3.out;omega) (by have:=LAB.out;have:=HL2.out;have:=HL4.out;omega) sA.1 sB.1)
    have HLN:=Lib.hid (fun (h:¬ (a < i∧i < mid))=>stab_one_nil sA.1 sB.1 (by
     have l1:=HL1.out
     have l3:=HL3.out
     by_cases hh:a < i
     ·exact .inr (List.eq_nil_of_length_eq_zero (by omega))
     ·exact .inl (List.eq_nil_of_length_eq_zero (by omega))))
    have HRT:=Lib.hid (fun (W':World) (hW:SortW w0 base g n c ((P ++ stab mw (A1 ++ V)) ++ (U ++ (B2 ++ R))) W') (h1:i < m) (h2:(mid:Int)+m - i < b) =>
     HIH.out W' (P ++ stab mw (A1 ++ V)) U B2 R (mid:Int) ((mid:Int)+m - i) (b:Int) hW (by
      have:=(stab_ss (wt:=mw) (A1 ++ V)).2.length
      have:=LP.out;have:=HL1.out;have:=HL3.out;simp at *;omega) (by have:=HL2.out;omega) (by have:=HL4.out;omega) (by have:=HL2.out;omega) (by have:=HL4.out;omega) (by have:=LAB.out;have:=HL2.out;have:=HL4.out;have:=HL3.out;have:=HL1.out;omega) sA.2 sB.2)
    have HRN:=Lib.hid (fun (h:¬ (i < m∧(mid:Int)+m - i < b))=>stab_one_nil sA.2 sB.2 (by
     have l1:=HL2.out
     have l3:=HL4.out
     by_cases hh:i < m
     ·exact .inr (List.eq_nil_of_length_eq_zero (by omega))
     ·exact .inl (List.eq_nil_of_length_eq_zero (by omega))))
    clear h7 HQ0 HQ1 HQ7 hA hB
    have x1:((mid:Int)+m - i)≤b:=by omega
    by_cases hU:i < m <;> by_cases hV:i < mid <;> by_cases hA1:a < i <;> by_cases hB2:(mid:Int)+m - i < b <;> (first | (exfalso;omega) | skip)
    all_goals
     (try (have HS:=Lib.hid (HNO.out (by omega))))
     (first | (have t1:(m:Int) < (mid:Int)+m - i:=by omega) | (have t1:¬ (m:Int) < (mid:Int)+m - i:=by omega))
     (first | (have t2:(mid:Int) < (mid:Int)+m - i:=by omega) | (have t2:¬ (mid:Int) < (mid:Int)+m - i:=by omega))
     go_wp2_with (first
      | (go_at_call 197;(with_reducible refine (HROT.out hU hV).mono ?_);go_must (rintro e w1 ⟨rfl,hS1⟩;have HS:=Lib.hid (SortW.same (d':=P ++ (A1 ++ (V ++ (U ++ B2 ++ R)))) hS1 (by simp only [List.append_assoc]));clear hS1))
      | (go_at_call 196;(with_reducible refine (HLF.out _ HS.out hA1 hV).mono ?_);go_must (rintro e w2 ⟨rfl,hS2⟩;have HS3:=Lib.hid (SortW.same (d':=(P ++ stab mw (A1 ++ V)) ++ (U ++ (B2 ++ R))) hS2 (by simp only [List.append_assoc]));clear hS2))
      | (go_at_call 196;(with_reducible refine (HRT.out _ HS3.out hU hB2).mono ?_);go_must (rintro e w3 ⟨rfl,hS4⟩;have HS5:=Lib.hid hS4;clear hS4))
      | (go_at_call 196;(with_reducible refine (HRT.out _ (SortW.same HS.out (by rw [HLN.out (by omega)];simp only [List.append_assoc])) hU hB2).mono ?_);go_must (rintro e w3 ⟨rfl,hS4⟩;have HS5:=Lib.hid hS4;clear hS4)))
     refine bodyPost_end (results_none rfl _ _ _) rfl ?_
     refine ⟨rfl,?_⟩
     rw [HE9.out]
     first
      | (refine HS5.out.same ?_;simp only [List.append_assoc])
      | (refine HS3.out.same ?_;rw [HRN.out (by omega)];simp only [List.append_assoc])
      | (refine HS.out.same ?_;rw [HRN.out (by omega),HLN.out (by omega)];simp only [List.append_assoc])
theorem sym_any (w0:World) (base g n c:Nat) (hn:n≤1099511627776):∀ (N:Nat) (W:World) (P A B R:List MP) (a m b:Int),A.length+B.length=N→SortW w0 base g n c (P ++ (A ++ (B ++ R))) W→a=P.length→m=a+A.length→b=m+B.length→0 < A.length→0 < B.length→Srt mw A→Srt mw B →
   Calls Tryz.prog 196 #[.slice (some ⟨g,0,none⟩) n c,.int .i64 a,.int .i64 m,.int .i64 b,.func (.func 183) #[] #[]] W fun e w' =>
    e=.returned (.tuple #[])∧SortW w0 base g n c (P ++ (stab mw (A ++ B) ++ R)) w':=by
 intro N
 induction N using Nat.strongRecOn with
 | ind N ih =>
  intro W P A B R a m b hN h ha hm hb h1 h2 hA hB
  have em:m=((P.length+A.length:Nat):Int):=by omega
  have eb:b=((P.length+A.length+B.length:Nat):Int):=by omega
  subst ha em eb
  by_cases c1:A.length=1
  ·obtain ⟨x,rfl⟩:=List.length_eq_one_iff.1 c1
   have:=sym_first w0 W base g n c P x B R h hn P.length (P.length+1) (P.length+1+B.length) rfl rfl rfl hB
   simpa using this
  ·by_cases c2:B.length=1
   ·obtain ⟨x,rfl⟩:=List.length_eq_one_iff.1 c2
    have:=sym_last w0 W base g n c P x A R h hn P.length (P.length+A.length) (P.length+A.length+1) rfl rfl rfl c1 hA
    simpa using this
   ·exact sym_gen w0 W base g n c P A B R h hn P.length (P.length+A.length) (P.length+A.length+B.length) rfl rfl rfl (by omega) (by omega) hA hB
     (fun W P' A' B' R' a m b k1 k2 k3 k4 k5 k6 k7 k8 k9=>ih (A'.length+B'.length) (by omega) W P' A' B' R' a m b rfl k1 k2 k3 k4 k5 k6 k8 k9)
end Go.Proofs.YteoolehdomjkkaaGreat

/- slices.SortStableFunc over rows of members: whole. -/
namespace Go.Proofs.YteoolehdomjkkaaGreat
set_option linter.all false
open Go.RowKit
theorem stab_len (l:List MP):(stab mw l).length=l.length:=(stab_ss l).2.length
theorem stab_srt (l:List MP):Srt mw (stab mw l):=(stab_ss l).1
theorem stab_stab (a b:List MP):stab mw (stab mw a ++ stab mw b)=stab mw (a ++ b) :=
 (SS.eq_stab (SS.feq ((stab_ss a).2.append (stab_ss b).2) (stab_ss _)))
/-- Runs of so many, each sorted. -/
def cs (bs:Nat) (l:List MP):List MP :=
 if h:0 < bs∧bs < l.length then stab mw (l.take bs) ++ cs bs (l.drop bs) else stab mw l
termination_by l.length
decreasing_by simp;omega
theorem cs_small {bs:Nat} {l:List MP} (h:l.length≤bs):cs bs l=stab mw l:=by
 rw [cs,dif_neg (by omega)]
theorem cs_app {bs:Nat} {U V:List MP} (h0:0 < bs) (hU:U.length=bs):cs bs (U ++ V)=stab mw U ++ cs bs V:=by
 by_cases hV:V=[]
 ·subst hV
  rw [List.append_nil,cs_small (by omega),cs_small (by simp)]
  simp [stab]
 ·have:0 < V.length:=List.length_pos_iff.2 hV
  rw [cs,dif_pos (by simp;omega),← hU,List.take_left,List.drop_left]
theorem cs_two {bs:Nat} {U V R:List MP} (h0:0 < bs) (hU:U.length=bs) (hV:V.length=bs):cs (2 * bs) (U ++ (V ++ R))=stab mw (U ++ V) ++ cs (2 * bs) R:=by
 rw [← List.append_assoc]
 exact cs_app (by omega) (by simp;omega)
set_option maxRecDepth 100000 in
set_option maxHeartbeats 3200000 in
theorem stable_any (w0 W:World) (base g n c:Nat) (d:List MP) (h:SortW w0 base g n c d W) (hn:n≤1099511627776) :
  Calls Tryz.prog 191 #[.slice (some ⟨g,0,none⟩) n c,.int .i64 n,.func (.func 183) #[] #[]] W fun e w' =>
   e=.returned (.tuple #[])∧SortW w0 base g n c (stab mw d) w':=by
 have HN:=Lib.hid h.len
 have HS:=Lib.hid h
 have HINS:=Lib.hid (fun (W:World) (P S R:List MP) (a b:Int) (h:SortW w0 base g n c (P ++ S ++ R) W) (ha:a=(P.length:Int)) (hb:b=((P.length+S.length:Nat):Int))=>(show Calls Tryz.prog 195 #[.slice (some ⟨g,0,none⟩) n c,.int .i64 a,.int .i64 b,.func (.func 183) #[] #[]] W fun e w'=>e=.returned (.tuple #[])∧SortW w0 base g n c (P ++ stab (fun x:MP=>x.2.w) S ++ R) w' by subst ha hb;exact insertion_any w0 W base g n c P S R h hn _ _ rfl rfl))
 clear h
 go_enter Tryz.func191,Tryz.ntmps191
 go_wp2
 go_loopw [7,8] (fun va vb wr=>∃ (a:Nat) (M V:List MP),va=.int .i64 a∧vb=.int .i64 ((a:Int)+20)∧a≤n∧Hid (M.length=a)∧Hid (a+V.length=n)∧Hid (M ++ cs 20 V=cs 20 d)∧Hid (SortW w0 base g n c (M ++ V) wr))
  (fun va _ _=>n - (intOf va).toNat)
 case atStart=>exact ⟨0,[],d,rfl,rfl,Nat.zero_le _,rfl,(show _=_ by have:=HN.out;omega),rfl,HS⟩
 case round =>
  clear HS
  obtain ⟨a,M,V,rfl,rfl,han,HM,HV,HC,HS⟩:=hrel
  by_cases hlt:(a:Int)+20≤n
  ·have hVl:20≤V.length:=by have:=HV.out;omega
   have HX:=Lib.hid (HINS.out wr M (V.take 20) (V.drop 20) (a:Int) ((a:Int)+20) (HS.out.same (by simp)) (by rw [HM.out]) (by rw [HM.out];simp;omega))
   go_wp2_with (go_at_call 195;(with_reducible refine HX.out.mono ?_);go_must (rintro e w1 ⟨rfl,hS1⟩;have HS1:=Lib.hid hS1;clear hS1))
   go_roundw
   case rel =>
    refine ⟨a+20,M ++ stab mw (V.take 20),V.drop 20,by go_num,by first | go_num | (congr 1;omega),by omega,(show _=_ by rw [List.length_append,stab_len,HM.out];simp;omega),(show _=_ by have:=HV.out;simp;omega),?_,HS1⟩
    show _=_
    rw [← HC.out,List.append_assoc,← cs_app (by omega) (by simp;omega),List.take_append_drop]
   case measure=>simp [intOf];omega
  ·have HX:=Lib.hid (HINS.out wr M V [] (a:Int) (n:Int) (HS.out.same (by simp)) (by rw [HM.out]) (by rw [HM.out,HV.out]))
   have HD:Hid (M ++ stab mw V ++ []=cs 20 d):=(show _=_ by rw [← HC.out,cs_small (by have:=HV.out;omega),List.append_nil])
   clear HC HS HINS HM HV
   go_wp2_with (go_at_call 195;(with_reducible refine HX.out.mono ?_);go_must (rintro e w1 ⟨rfl,hS1⟩;have HS1:=Lib.hid (hS1.same HD.out);clear hS1))
   clear HD HX
   go_loopw [6,7,8,9] (fun vs va vb vm wr=>∃ (bs:Nat),vs=.int .i64 bs∧20≤bs∧bs≤2 * n+20∧Hid (SortW w0 base g n c (cs bs d) wr))
    (fun vs _ _ _ _=>n - (intOf vs).toNat)
   case atStart=>exact ⟨20,rfl,by omega,by omega,HS1⟩
   case round =>
    clear HS1
    obtain ⟨bs,rfl,hb1,hb2,HS⟩:=hrel
    by_cases hlt:bs < n
    ·obtain ⟨wo,rfl⟩:∃ wo:World,wo=wr:=⟨_,rfl⟩
     go_wp2_with fail
     go_loopw [7,8] (fun va vb wr=>∃ (a:Nat) (M V:List MP),va=.int .i64 a∧vb=.int .i64 ((a:Int)+2 * bs)∧a≤n∧Hid (M.length=a)∧Hid (a+V.length=n)∧Hid (M ++ cs (2 * bs) V=cs (2 * bs) d)∧Hid (SortW w0 base g n c (M ++ cs bs V) wr))
      (fun va _ _=>n - (intOf va).toNat)
     case atStart=>exact ⟨0,[],d,rfl,by first | go_num | (congr 1;omega),Nat.zero_le _,rfl,(show _=_ by have:=HN.out;omega),rfl,HS⟩
     case round =>
      clear HS
      obtain ⟨a,M,V,rfl,rfl,han,HM,HV,HC,HS⟩:=hrel
      by_cases hlt2:(a:Int)+2 * bs≤n
      ·have hVl:2 * bs≤V.length:=by have:=HV.out;omega
       have l1:(V.take bs).length=bs:=by simp;omega
       have l2:((V.drop bs).take bs).length=bs:=by simp;omega
       have hV:V=V.take bs ++ ((V.drop bs).take bs ++ (V.drop bs).drop bs):=by rw [List.take_append_drop,List.take_append_drop]
       have l3:((V.drop bs).drop bs).length=V.length - 2 * bs:=by simp;omega
       generalize V.take bs=V1 at *
       generalize (V.drop bs).take bs=V2 at *
       generalize (V.drop bs).drop bs=V3 at *
       subst hV
       have hS:SortW w0 base g n c (M ++ (stab mw V1 ++ (stab mw V2 ++ cs bs V3))) wr:=HS.out.same (by rw [cs_app (by omega) l1,cs_app (by omega) l2])
       have HX:=Lib.hid (sym_any w0 base g n c hn _ wr M (stab mw V1) (stab mw V2) (cs bs V3) (a:Int) ((a:Int)+bs) ((a:Int)+2 * bs) rfl hS (by rw [HM.out]) (by rw [stab_len];omega) (by rw [stab_len];omega) (by rw [stab_len];omega) (by rw [stab_len];omega) (stab_srt _) (stab_srt _))
       have L1:=Lib.hid l1
       have L2:=Lib.hid l2
       have L3:=Lib.hid l3
       clear hS HS l1 l2 l3
       go_wp2_with (go_at_call 196;(with_reducible refine HX.out.mono ?_);go_must (rintro e w1 ⟨rfl,hS1⟩;have HS1:=Lib.hid hS1;clear hS1))
       go_roundw
       case rel =>
        refine ⟨a+2 * bs,M ++ stab mw (V1 ++ V2),V3,by go_num,by first | go_num | (congr 1;omega),by omega,(show _=_ by rw [List.length_append,stab_len,HM.out,List.length_append,L1.out,L2.out];omega),(show _=_ by have:=HV.out;have:=L1.out;have:=L2.out;simp at *;omega),?_,HS1.out.same ?_⟩
        ·show _=_
         rw [← HC.out,cs_two (by omega) L1.out L2.out,List.append_assoc]
        ·rw [stab_stab,List.append_assoc]
       case measure=>simp [intOf];omega
      ·by_cases hlt3:(a:Int)+bs < n
       ·have hVl:bs < V.length:=by have:=HV.out;omega
        have hVm:V.length≤2 * bs:=by have:=HV.out;omega
        have l1:(V.take bs).length=bs:=by simp;omega
        have hV:V=V.take bs ++ V.drop bs:=by rw [List.take_append_drop]
        have l3:(V.drop bs).length=V.length - bs:=by simp
        have hVV:cs (2 * bs) V=stab mw V:=cs_small hVm
        generalize V.take bs=V1 at *
        generalize V.drop bs=V2 at *
        have hVn:=HV.out
        subst hV
        have hS:SortW w0 base g n c (M ++ (stab mw V1 ++ (stab mw V2 ++ []))) wr:=HS.out.same (by rw [cs_app (by omega) l1,cs_small (l:=V2) (by omega),List.append_nil])
        have HX:=Lib.hid (sym_any w0 base g n c hn _ wr M (stab mw V1) (stab mw V2) [] (a:Int) ((a:Int)+bs) (n:Int) rfl hS (by rw [HM.out]) (by rw [stab_len];omega) (by rw [stab_len];omega) (by rw [stab_len];omega) (by rw [stab_len];omega) (stab_srt _) (stab_srt _))
        have HE:Hid (M ++ (stab mw (stab mw V1 ++ stab mw V2) ++ [])=cs (2 * bs) d):=(show _=_ by rw [← HC.out,hVV,stab_stab,List.append_nil])
        clear hS HS l1 l3 hVV hVn
        go_wp2_with (go_at_call 196;(with_reducible refine HX.out.mono ?_);go_must (rintro e w1 ⟨rfl,hS1⟩;have HS1:=Lib.hid (hS1.same HE.out);clear hS1))
        go_roundw
        case rel=>exact ⟨2 * bs,by first | go_num | (congr 1;omega),by omega,by omega,HS1⟩
        case measure=>simp [intOf];omega
       ·have hVm:V.length≤bs:=by have:=HV.out;omega
        have HE:Hid (M ++ cs bs V=cs (2 * bs) d):=(show _=_ by rw [← HC.out,cs_small hVm,cs_small (by omega)])
        clear hVm
        go_wp2_with fail
        go_roundw
        case rel=>exact ⟨2 * bs,by first | go_num | (congr 1;omega),by omega,by omega,HS.out.same HE.out⟩
        case measure=>simp [intOf];omega
    ·go_wp2_with fail
     go_end0
     exact ⟨rfl,HS.out.same (by rw [cs_small];have:=HN.out;omega)⟩
theorem sort_any (w0 W:World) (base g n c:Nat) (d:List MP) (h:SortW w0 base g n c d W) (hn:n≤1099511627776) :
  Calls Tryz.prog 182 #[.slice (some ⟨g,0,none⟩) n c,.func (.func 183) #[] #[]] W fun e w' =>
   e=.returned (.tuple #[])∧SortW w0 base g n c (stab mw d) w':=by
 have HC:=Lib.hid (stable_any w0 W base g n c d h hn)
 clear h
 go_enter Tryz.func182,Tryz.ntmps182
 go_wp2_with (go_at_call 191;(with_reducible refine HC.out.mono ?_);go_must (rintro e w1 ⟨rfl,hS1⟩))
 go_end0
 exact ⟨rfl,hS1⟩
theorem insertion_nil (f:Value) (W:World) :
  Calls Tryz.prog 195 #[.slice none 0 0,.int .i64 0,.int .i64 0,f] W fun e w'=>e=.returned (.tuple #[])∧W=w':=by
 go_enter Tryz.func195,Tryz.ntmps195
 go_wp2
 refine wp_loop_rounds 1 ?_
 rw [rounds_succ]
 go_wp2
 go_end0
 exact ⟨rfl,rfl⟩
theorem stable_nil (f:Value) (W:World) :
  Calls Tryz.prog 191 #[.slice none 0 0,.int .i64 0,f] W fun e w'=>e=.returned (.tuple #[])∧W=w':=by
 go_enter Tryz.func191,Tryz.ntmps191
 go_wp2
 refine wp_loop_rounds 1 ?_
 rw [rounds_succ]
 go_wp2_with (go_at_call 195;(with_reducible refine (insertion_nil _ _).mono ?_);go_must (rintro e w1 ⟨rfl,rfl⟩))
 refine wp_loop_rounds 1 ?_
 rw [rounds_succ]
 go_wp2
 go_end0
 exact ⟨rfl,rfl⟩
theorem sort_nil (f:Value) (W:World) :
  Calls Tryz.prog 182 #[.slice none 0 0,f] W fun e w'=>e=.returned (.tuple #[])∧W=w':=by
 go_enter Tryz.func182,Tryz.ntmps182
 go_wp2_with (go_at_call 191;(with_reducible refine (stable_nil _ _).mono ?_);go_must (rintro e w1 ⟨rfl,rfl⟩))
 go_end0
 exact ⟨rfl,rfl⟩
end Go.Proofs.YteoolehdomjkkaaGreat

