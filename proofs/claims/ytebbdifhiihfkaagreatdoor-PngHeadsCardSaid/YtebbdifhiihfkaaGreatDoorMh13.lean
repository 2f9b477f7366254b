/- XSort2 XSort3 XSort4 XSort5 XSort6 -/
import Derived.Test.YtebbdifhiihfkaaGreatDoorMh12
namespace Go.Proofs.YtebbdifhiihfkaaGreatDoor
set_option linter.all false
open Go.RowKit
theorem swapRange_int (w0 W:World) (base g n c:Nat) (P X M Y R:List MP) (f:Value) (h:SortW w0 base g n c (P ++ X ++ M ++ Y ++ R) W) (hl:X.length=Y.length) (hn:n≤1099511627776) (a b k:Int)
  (ha:a=P.length) (hb:b=P.length+X.length+M.length) (hk:k=X.length) :
  Calls Tryz.prog 192 #[.slice (some ⟨g,0,none⟩) n c,.int .i64 a,.int .i64 b,.int .i64 k,f] W fun e w' =>
   e=.returned (.tuple #[])∧SortW w0 base g n c (P ++ Y ++ M ++ X ++ R) w':=by
 subst ha hk
 have hb':b=((P.length+X.length+M.length:Nat):Int):=by omega
 subst hb'
 exact swapRange_any w0 W base g n c P X M Y R f h hl hn _ _ _ rfl rfl rfl
set_option maxRecDepth 100000 in
set_option maxHeartbeats 1600000 in
theorem rotate_any (w0 W:World) (base g n c:Nat) (P U V R:List MP) (f:Value) (h:SortW w0 base g n c (P ++ U ++ V ++ R) W) (hU:0 < U.length) (hV:0 < V.length) (hn:n≤1099511627776) (a m b:Nat)
  (ha:a=P.length) (hm:m=P.length+U.length) (hb:b=P.length+U.length+V.length) :
  Calls Tryz.prog 191 #[.slice (some ⟨g,0,none⟩) n c,.int .i64 a,.int .i64 m,.int .i64 b,f] W fun e w' =>
   e=.returned (.tuple #[])∧SortW w0 base g n c (P ++ V ++ U ++ R) w':=by
 have hlen:=h.len
 simp only [List.length_append] at hlen
 have HS:=Lib.hid h
 have e1:(m:Int) - a=(U.length:Int):=by omega
 have e2:(b:Int) - m=(V.length:Int):=by omega
 have zm:m=P.length+U.length:=hm
 have b1:b≤n:=by omega
 have b2:a≤m:=by omega
 have b3:m≤b:=by omega
 have E1:=Lib.hid e1
 have E2:=Lib.hid e2
 have ZM:=Lib.hid zm
 clear h ha hm hb hlen e1 e2 zm
 go_enter Tryz.func191,Tryz.ntmps191
 go_wp2
 go_loopw [10,11] (fun vi vj wr=>∃ (i j:Nat) (P' U' V' R':List MP),vi=.int .i64 i∧vj=.int .i64 j∧0 < i∧0 < j∧i≤m∧m+j≤n∧Hid (i=U'.length)∧Hid (j=V'.length)∧Hid (m=P'.length+i)∧Hid (SortW w0 base g n c (P' ++ U' ++ V' ++ R') wr)∧Hid (P' ++ V' ++ U' ++ R'=P ++ V ++ U ++ R))
  (fun vi vj _=>(intOf vi).toNat+(intOf vj).toNat)
 case atStart=>exact ⟨U.length,V.length,P,U,V,R,by rw [E1.out],by rw [E2.out],hU,hV,by have:=E1.out;omega,by have:=E2.out;omega,rfl,rfl,ZM.out,HS.out,rfl⟩
 case round =>
  clear HS E1 E2 ZM
  obtain ⟨i,j,P',U',V',R',rfl,rfl,hi,hj,him,hjn,HI,HJ,HM,HS,HE⟩:=hrel
  by_cases hij:i=j
  ·subst hij
   have HC:=Lib.hid (swapRange_int w0 wr base g n c P' U' [] V' R' f (by simpa using HS.out) (by rw [← HI.out,← HJ.out]) hn ((m:Int) - i) m i (by have:=HM.out;omega) (by have:=HM.out;have:=HI.out;simp;omega) (by have:=HI.out;omega))
   go_wp2_with (go_at_call 192;(with_reducible refine HC.out.mono ?_);go_must (rintro e w1 ⟨rfl,hS1⟩;have HS1:=Lib.hid hS1;clear hS1))
   go_end0
   refine ⟨rfl,HS1.out.same ?_⟩
   rw [← HE.out]
   simp
  ·by_cases hgt:j < i
   ·have e3:U'=U'.take j ++ U'.drop j:=(List.take_append_drop j U').symm
    have HC:=Lib.hid (swapRange_int w0 wr base g n c P' (U'.take j) (U'.drop j) V' R' f (by have:=HS.out;rw [e3] at this;simpa using this) (by have:=HI.out;have:=HJ.out;simp;omega) hn ((m:Int) - i) m j (by have:=HM.out;omega) (by have:=HM.out;have:=HI.out;simp;omega) (by have:=HI.out;simp;omega))
    clear e3
    go_wp2_with (go_at_call 192;(with_reducible refine HC.out.mono ?_);go_must (rintro e w1 ⟨rfl,hS1⟩;have HS1:=Lib.hid hS1;clear hS1))
    go_roundw
    case rel =>
     refine ⟨i - j,j,P' ++ V',U'.drop j,U'.take j,R',by go_num,rfl,by omega,by omega,by omega,by omega,?_,?_,?_,?_,?_⟩
     ·exact show _=_ by have:=HI.out;simp;omega
     ·exact show _=_ by have:=HI.out;simp;omega
     ·exact show _=_ by have:=HM.out;have:=HJ.out;simp;omega
     ·exact HS1.out
     ·exact show _=_ by rw [← HE.out];simp
    case measure=>simp [intOf];omega
   ·have hlt:i < j:=by omega
    have e3:V'=V'.take (j - i) ++ V'.drop (j - i):=(List.take_append_drop _ V').symm
    have HC:=Lib.hid (swapRange_int w0 wr base g n c P' U' (V'.take (j - i)) (V'.drop (j - i)) R' f (by have:=HS.out;rw [e3] at this;simpa using this) (by have:=HI.out;have:=HJ.out;simp;omega) hn ((m:Int) - i) ((m:Int)+j - i) i (by have:=HM.out;omega) (by have:=HM.out;have:=HI.out;have:=HJ.out;simp;omega) (by have:=HI.out;omega))
    clear e3
    go_wp2_with (go_at_call 192;(with_reducible refine HC.out.mono ?_);go_must (rintro e w1 ⟨rfl,hS1⟩;have HS1:=Lib.hid hS1;clear hS1))
    go_roundw
    case rel =>
     refine ⟨i,j - i,P',V'.drop (j - i),V'.take (j - i),U' ++ R',rfl,by go_num,by omega,by omega,by omega,by omega,?_,?_,?_,?_,?_⟩
     ·exact show _=_ by have:=HJ.out;simp;omega
     ·exact show _=_ by have:=HJ.out;simp;omega
     ·exact HM
     ·exact HS1.out.same (by simp)
     ·exact show _=_ by rw [← HE.out];simp
    case measure=>simp [intOf];omega
/-- The row while one element goes down: insertionSort. -/
theorem ins_split {S:List MP} {i:Nat} (h:i < S.length):stab (fun x:MP=>x.2.w) (S.take i) ++ S.drop i=stab (fun x:MP=>x.2.w) (S.take i) ++ S[i] :: S.drop (i+1):=by
 rw [List.drop_eq_getElem_cons h]
theorem gt_cons {x y:MP} {B:List MP} (h:x.2.w < y.2.w) (k:∀ z ∈ B,x.2.w < z.2.w):∀ z ∈ y :: B,x.2.w < z.2.w:=fun z hz=>by
 rcases List.mem_cons.1 hz with rfl | hz
 ·exact h
 ·exact k z hz
set_option maxRecDepth 100000 in
set_option maxHeartbeats 3200000 in
theorem insertion_any (w0 W:World) (base g n c:Nat) (P S R:List MP) (h:SortW w0 base g n c (P ++ S ++ R) W) (hn:n≤1099511627776) (a b:Nat)
  (ha:a=P.length) (hb:b=P.length+S.length) :
  Calls Tryz.prog 189 #[.slice (some ⟨g,0,none⟩) n c,.int .i64 a,.int .i64 b,.func (.func 185) #[] #[]] W fun e w' =>
   e=.returned (.tuple #[])∧SortW w0 base g n c (P ++ stab (fun x:MP=>x.2.w) S ++ R) w':=by
 have hlen:=h.len
 simp only [List.length_append] at hlen
 have h0:SortW w0 base g n c (P ++ (stab (fun x:MP=>x.2.w) (S.take 1) ++ S.drop 1) ++ R) W:=by
  refine h.same ?_
  cases S with
  | nil=>rfl
  | cons x t=>rfl
 have HS:=Lib.hid h0
 have b1:b≤n:=by omega
 have b2:a≤b:=by omega
 have HA:=Lib.hid ha
 have HB:=Lib.hid hb
 clear h h0 ha hb hlen
 go_enter Tryz.func189,Tryz.ntmps189
 go_wp2
 go_loopw [8] (fun vi wr=>∃ i:Nat,vi=.int .i64 ((a:Int)+i)∧1≤i∧a+i≤b+1∧Hid (SortW w0 base g n c (P ++ (stab (fun x:MP=>x.2.w) (S.take i) ++ S.drop i) ++ R) wr))
  (fun vi _=>b+1 - (intOf vi).toNat)
 case atStart=>exact ⟨1,rfl,by omega,by omega,HS⟩
 case round =>
  clear HS
  obtain ⟨i,rfl,hi1,hib,HS⟩:=hrel
  by_cases hlt:a+i < b
  ·have hiS:i < S.length:=by have:=HA.out;have:=HB.out;omega
   have hltz:(a:Int)+i < b:=by omega
   go_wp2
   go_loopw [9] (fun vj wr=>∃ (j:Nat) (A B:List MP),vj=.int .i64 j∧a≤j∧j≤a+i∧Hid (j=P.length+A.length)∧Hid (stab (fun x:MP=>x.2.w) (S.take i)=A ++ B)∧Hid (∀ y ∈ B,S[i].2.w < y.2.w)∧Hid (SortW w0 base g n c (P ++ (A ++ S[i] :: B ++ S.drop (i+1)) ++ R) wr))
    (fun vj _=>(intOf vj).toNat)
   case atStart =>
    have e0:=HS.out
    rw [ins_split hiS] at e0
    refine ⟨a+i,stab (fun x:MP=>x.2.w) (S.take i),[],by go_num,by omega,by omega,?_,(show _=_ by simp),(show ∀ y ∈ _,_ by simp),e0.same (by simp)⟩
    exact show _=_ by rw [(stab_ss (wt:=fun x:MP=>x.2.w) (S.take i)).2.length];have:=HA.out;simp;omega
   case round =>
    clear HS
    obtain ⟨j,A,B,rfl,haj,hji,HJ,HT,HG,HS⟩:=hrel
    have hsrt:Srt (fun x:MP=>x.2.w) (A ++ B):=by rw [← HT.out];exact (stab_ss _).1
    by_cases hja:a < j
    ·-- a lower neighbour stands there
     have hA:A ≠ []:=by
      rintro rfl
      have:=HJ.out;have:=HA.out;simp at *;omega
     obtain ⟨A',y,rfl⟩:∃ A' y,A=A' ++ [y]:=⟨A.dropLast,A.getLast hA,(List.dropLast_concat_getLast hA).symm⟩
     obtain ⟨q,rfl⟩:∃ q,j=q+1:=⟨j - 1,by omega⟩
     have lq:(P ++ A').length=q:=by have:=HJ.out;simp at *;omega
     have hS:SortW w0 base g n c ((P ++ A') ++ y :: S[i] :: (B ++ S.drop (i+1) ++ R)) wr:=HS.out.same (by simp)
     generalize hx:S[i]=x at *
     have hGx:∀ z ∈ B,x.2.w < z.2.w:=fun z hz=>HG.out z hz
     have HW:=Lib.hid (fun m=>Calls.quiet_of (n:=m) (w:=wr) (less_any x y (wr.drewN m) (hS.wt (by simp)) (hS.wt (by simp))))
     have c1:=hS.at_
     have c2:=hS.nx
     have f1:=hS.fr q
     have f2:=hS.fr (q+1)
     rw [lq] at c1 c2
     have r1:IntKind.i64.wrap ((q:Int)+1)=(q:Int)+1:=by rw [IntKind.wrap_i64];omega
     have r2:IntKind.i64.wrap (q:Int)=(q:Int):=by rw [IntKind.wrap_i64];omega
     have g1:((q:Int)+1).toNat=q+1:=by omega
     have g2:(q:Int).toNat=q:=by omega
     have p1:(0:Int)≤(q:Int)+1:=by omega
     have p2:(0:Int)≤(q:Int):=by omega
     have p3:(q:Int)+1 < n:=by omega
     have p4:(q:Int) < n:=by omega
     have t1:(a:Int) < (q:Int)+1:=by omega
     have t2:decide ((q:Int)+1 > (a:Int))=true:=decide_eq_true t1
     by_cases hlt2:x.2.w < y.2.w
     ·have v1:cmpI x.2.w y.2.w < 0:=(cmpI_neg _ _).2 hlt2
      generalize cmpI x.2.w y.2.w=r at HW v1
      have v2:decide (r < 0)=true:=decide_eq_true v1
      have HS1:=Lib.hid (fun m=>(hS.drewN (m+1)).pws)
      have HC3:=Lib.hid (fun m=>(hS.drewN m).at3' (.pointer (some ⟨y.1,0,none⟩)))
      rw [lq] at HS1 HC3
      clear hS hx HS HG hsrt
      go_wp2_with fail
      go_quiet ((go_at_call 185;exact HW.out _))
      have c3:=HC3.out nq
      have S3:=Lib.hid (HS1.out nq)
      clear HC3 HS1 HW
      go_wp2_with fail
      go_region
      go_wp2_with fail
      go_roundw
      case rel=>exact ⟨q,A',y :: B,rfl,by omega,by omega,(show _=_ by rw [← lq];simp),(show _=_ by rw [HT.out];simp),gt_cons hlt2 hGx,S3.out.same (by simp)⟩
      case measure=>simp [intOf]
     ·have v1:¬ cmpI x.2.w y.2.w < 0:=fun h=>hlt2 ((cmpI_neg _ _).1 h)
      generalize cmpI x.2.w y.2.w=r at HW v1
      have v2:decide (r < 0)=false:=decide_eq_false v1
      have e9:stab (fun x:MP=>x.2.w) (S.take (i+1))=(A' ++ [y]) ++ x :: B:=by
       rw [List.take_succ_eq_append_getElem hiS,hx]
       refine stab_snoc HT.out (fun z hz=>?_) hGx
       have h2:=(Srt.append.1 hsrt).1
       rcases List.mem_append.1 hz with hz | hz
       ·have:=(Srt.append.1 h2).2.2 z hz y (by simp)
        omega
       ·have:z=y:=by simpa using hz
        subst this
        omega
      have HE9:=Lib.hid e9
      have HS1:=Lib.hid (fun m=>hS.drewN m)
      clear hS hx HS HG hsrt e9 hGx
      go_wp2_with fail
      go_quiet ((go_at_call 185;exact HW.out _))
      have S3:=Lib.hid (HS1.out nq)
      clear HS1 HW
      go_wp2_with fail
      go_roundw
      case rel=>exact ⟨i+1,by first | go_num | (congr 1;omega),by omega,by omega,S3.out.same (by rw [HE9.out] <;> simp)⟩
      case measure=>simp [intOf];omega
    ·obtain rfl:j=a:=by omega
     have hA:A=[]:=by
      have:=HJ.out;have:=HA.out;exact List.eq_nil_of_length_eq_zero (by omega)
     subst hA
     have e9:stab (fun x:MP=>x.2.w) (S.take (i+1))=[] ++ S[i] :: B:=by
      rw [List.take_succ_eq_append_getElem hiS]
      exact stab_snoc HT.out (fun z hz=>by cases hz) HG.out
     have HE9:=Lib.hid e9
     have t2:decide ((j:Int) > (j:Int))=false:=decide_eq_false (by omega)
     have HS1:=Lib.hid (fun m=>HS.out.drewN m)
     clear HS HG hsrt e9
     go_wp2_with fail
     go_quiet (fail)
     have S3:=Lib.hid (HS1.out nq)
     clear HS1
     go_wp2_with fail
     go_roundw
     case rel=>exact ⟨i+1,by first | go_num | (congr 1;omega),by omega,by omega,S3.out.same (by rw [HE9.out] <;> simp)⟩
     case measure=>simp [intOf];omega
  ·have hltz:¬ (a:Int)+i < b:=by omega
   go_wp2
   go_end0
   refine ⟨rfl,HS.out.same ?_⟩
   have:=HA.out
   have:=HB.out
   rw [List.take_of_length_le (by omega),List.drop_eq_nil_of_le (by omega),List.append_nil,List.append_assoc]
end Go.Proofs.YtebbdifhiihfkaaGreatDoor

/- slices.SortStableFunc over rows of members: symMerge. -/
namespace Go.Proofs.YtebbdifhiihfkaaGreatDoor
set_option linter.all false
open Go.RowKit
/-- The weight at a place. -/
def wd (d:List MP) (k:Nat):Int:=(d.getD k default).2.w
section
variable {w0 W : World} {base g n c : Nat} {d : List MP}
theorem SortW.gt (h:SortW w0 base g n c d W) {k:Nat} (hk:k < n):∃ z:MP,Hid (d[k]?=some z)∧W.cell? ⟨g,k,none⟩=some (.pointer (some ⟨z.1,0,none⟩))∧W.cell? ⟨z.1,0,none⟩=some (.int .i64 z.2.w)∧z.2.w=wd d k:=by
 have hl:=h.len
 have hk':k < d.length:=by omega
 refine ⟨d[k],List.getElem?_eq_getElem hk',?_,h.wt (List.getElem_mem hk'),?_⟩
 ·have:=h.own.cell h.len hk'
  exact this
 ·unfold wd
  rw [List.getD_eq_getElem?_getD,List.getElem?_eq_getElem hk']
  rfl
theorem SortW.swp0 {L1 L3:List MP} {x y:MP} (h:SortW w0 base g n c (L1 ++ x :: y :: L3) W) :
  SortW w0 base g n c (L1 ++ y :: x :: L3) ((W.setCell ⟨g,L1.length,none⟩ (.pointer (some ⟨y.1,0,none⟩))).setCell ⟨g,L1.length+1,none⟩ (.pointer (some ⟨x.1,0,none⟩))):=SortW.swp (L2:=[]) h
end
theorem stab_cons {α:Type} {wt:α→Int} {x:α} {B1 B2:List α} (h:Srt wt (B1 ++ B2)) (h1:∀ y ∈ B1,wt y < wt x) (h2:∀ y ∈ B2,wt x≤wt y):stab wt (x :: (B1 ++ B2))=B1 ++ x :: B2:=by
 refine (SS.eq_stab ⟨?_,?_⟩).symm
 ·obtain ⟨a1,a2,a3⟩:=Srt.append.1 h
  refine Srt.append.2 ⟨a1,?_,?_⟩
  ·unfold Srt
   rw [List.pairwise_cons]
   exact ⟨h2,a2⟩
  ·intro y hy z hz
   rcases List.mem_cons.1 hz with rfl | hz
   ·have:=h1 y hy;omega
   ·exact a3 y hy z hz
 ·have e:FEq wt ([x] ++ B1 ++ B2) (B1 ++ [x] ++ B2):=(FEq.swap (fun y hy z hz=>by
   have:y=x:=by simpa using hy
   subst this
   exact h1 z hz)).append (FEq.refl _)
  simpa using e
theorem wd_mid {P M R:List MP} {k t:Nat} (hk:k=P.length+t) (ht:t < M.length):wd (P ++ (M ++ R)) k=M[t].2.w:=by
 subst hk
 unfold wd
 rw [List.getD_eq_getElem?_getD,List.getElem?_append_right (by omega),Nat.add_sub_cancel_left,List.getElem?_append_left ht,List.getElem?_eq_getElem ht]
 rfl
theorem mem_take_at {α:Type} {l:List α} {n:Nat} {y:α} (h:y ∈ l.take n):∃ t,t < n∧∃ ht:t < l.length,l[t]=y:=by
 obtain ⟨t,ht,e⟩:=List.getElem_of_mem h
 rw [List.length_take] at ht
 exact ⟨t,by omega,by omega,by rw [List.getElem_take] at e;exact e⟩
theorem mem_drop_at {α:Type} {l:List α} {n:Nat} {y:α} (h:y ∈ l.drop n):∃ t,n≤t∧∃ ht:t < l.length,l[t]=y:=by
 obtain ⟨t,ht,e⟩:=List.getElem_of_mem h
 rw [List.length_drop] at ht
 exact ⟨n+t,by omega,by omega,by rw [List.getElem_drop] at e;exact e⟩
set_option maxRecDepth 100000 in
set_option maxHeartbeats 3200000 in
theorem sym_first (w0 W:World) (base g n c:Nat) (P:List MP) (x:MP) (B R:List MP) (h:SortW w0 base g n c (P ++ x :: (B ++ R)) W) (hn:n≤1099511627776) (a m b:Nat)
  (ha:a=P.length) (hm:m=a+1) (hb:b=a+1+B.length) (hB:Srt (fun x:MP=>x.2.w) B) :
  Calls Tryz.prog 190 #[.slice (some ⟨g,0,none⟩) n c,.int .i64 a,.int .i64 m,.int .i64 b,.func (.func 185) #[] #[]] W fun e w' =>
   e=.returned (.tuple #[])∧SortW w0 base g n c (P ++ stab (fun x:MP=>x.2.w) (x :: B) ++ R) w':=by
 have hlen:=h.len
 simp only [List.length_append,List.length_cons] at hlen
 have HS:=Lib.hid h
 have b1:b≤n:=by omega
 have b2:a < b:=by omega
 have b3:m≤b:=by omega
 have b4:a < n:=by omega
 have HA:=Lib.hid ha
 have HB:=Lib.hid hb
 have e1:(m:Int) - a=1:=by omega
 have HM:=Lib.hid hm
 clear h ha hb hlen hm
 go_enter Tryz.func190,Tryz.ntmps190
 go_wp2
 go_loopw [10,11] (fun vi vj wr=>∃ i j:Nat,vi=.int .i64 i∧vj=.int .i64 j∧m≤i∧i≤j∧j≤b∧Hid (∀ k,m≤k→k < i→wd (P ++ x :: (B ++ R)) k < x.2.w)∧Hid (∀ k,j≤k→k < b→x.2.w≤wd (P ++ x :: (B ++ R)) k)∧Hid (SortW w0 base g n c (P ++ x :: (B ++ R)) wr))
  (fun vi vj _=>(intOf vj).toNat - (intOf vi).toNat)
 case atStart=>exact ⟨m,b,rfl,rfl,by omega,by omega,by omega,(show ∀ k,_ by intro k;omega),(show ∀ k,_ by intro k;omega),HS⟩
 case round =>
  clear HS
  obtain ⟨i,j,rfl,rfl,hmi,hij,hjb,H1,H2,HS⟩:=hrel
  by_cases hlt:i < j
  ·go_wp2_with fail
   have eh:((i:Int)+j) / 2=(((i+j) / 2:Nat):Int):=by omega
   rw [eh]
   clear eh
   obtain ⟨z,hz,cz,cwz,ewz⟩:=HS.out.gt (k:=(i+j) / 2) (by omega)
   have hh1:i≤(i+j) / 2:=by omega
   have hh2:(i+j) / 2 < j:=by omega
   have ca:=HS.out.at_
   have cwa:=HS.out.wt (x:=x) (by simp)
   rw [← HA.out] at ca
   have HW:=Lib.hid (fun q=>Calls.quiet_of (n:=q) (w:=wr) (less_any z x (wr.drewN q) cwz cwa))
   have HE:=Lib.hid ewz
   clear hz ewz cwz cwa
   generalize (i+j) / 2=k at *
   have g1:(k:Int).toNat=k:=by omega
   have p3:(k:Int) < n:=by omega
   have p4:(a:Int) < n:=by omega
   have hmono:∀ k1 k2,m≤k1→k1≤k2→k2 < b→wd (P ++ x :: (B ++ R)) k1≤wd (P ++ x :: (B ++ R)) k2:=by
    intro k1 k2 q1 q2 q3
    have l1:=HA.out
    have l2:=HB.out
    have l3:=HM.out
    have w1:=wd_mid (P:=P ++ [x]) (M:=B) (R:=R) (k:=k1) (t:=k1 - m) (by simp;omega) (by omega)
    have w2:=wd_mid (P:=P ++ [x]) (M:=B) (R:=R) (k:=k2) (t:=k2 - m) (by simp;omega) (by omega)
    simp only [List.append_assoc,List.cons_append,List.nil_append] at w1 w2
    rw [w1,w2]
    rcases Nat.lt_or_eq_of_le q2 with q2 | rfl
    ·exact (List.pairwise_iff_getElem.1 hB) (k1 - m) (k2 - m) (by omega) (by omega) (by omega)
    ·exact Int.le_refl _
   have HMO:=Lib.hid hmono
   clear hmono
   by_cases hc:z.2.w < x.2.w
   ·have v1:cmpI z.2.w x.2.w < 0:=(cmpI_neg _ _).2 hc
    have hc':wd (P ++ x :: (B ++ R)) k < x.2.w:=by rw [← HE.out];exact hc
    generalize cmpI z.2.w x.2.w=r at HW v1
    have v2:decide (r < 0)=true:=decide_eq_true v1
    have HC:=Lib.hid hc'
    have HS1:=Lib.hid (fun m=>HS.out.drewN m)
    clear hc hc' HS
    go_quiet ((go_at_call 185;exact HW.out _))
    have HS:=Lib.hid (HS1.out nq)
    clear HS1 HW
    go_wp2_with fail
    go_roundw
    case rel=>exact ⟨k+1,j,by go_num,rfl,by omega,by omega,by omega,(show ∀ q,_ from fun q q1 q2=>by have:=HMO.out q k q1 (by omega) (by omega);have:=HC.out;omega),H2,HS⟩
    case measure=>simp [intOf];omega
   ·have v1:¬ cmpI z.2.w x.2.w < 0:=fun h=>hc ((cmpI_neg _ _).1 h)
    have hc':x.2.w≤wd (P ++ x :: (B ++ R)) k:=by rw [← HE.out];omega
    generalize cmpI z.2.w x.2.w=r at HW v1
    have v2:decide (r < 0)=false:=decide_eq_false v1
    have HC:=Lib.hid hc'
    have HS1:=Lib.hid (fun m=>HS.out.drewN m)
    clear hc hc' HS
    go_quiet ((go_at_call 185;exact HW.out _))
    have HS:=Lib.hid (HS1.out nq)
    clear HS1 HW
    go_wp2_with fail
    go_roundw
    case rel=>exact ⟨i,k,rfl,rfl,by omega,by omega,by omega,H1,(show ∀ q,_ from fun q q1 q2=>by have:=HMO.out k q (by omega) q1 q2;have:=HC.out;omega),HS⟩
    case measure=>simp [intOf];omega
  ·obtain rfl:i=j:=by omega
   clear hlt hij
   have e9:stab (fun x:MP=>x.2.w) (x :: B)=B.take (i - m) ++ x :: B.drop (i - m):=by
    have l1:=HA.out
    have l2:=HB.out
    have l3:=HM.out
    have:=stab_cons (wt:=fun x:MP=>x.2.w) (x:=x) (B1:=B.take (i - m)) (B2:=B.drop (i - m)) (by rw [List.take_append_drop];exact hB) ?_ ?_
    ·rwa [List.take_append_drop] at this
    ·intro y hy
     obtain ⟨t,t1,t2,rfl⟩:=mem_take_at hy
     have w1:=wd_mid (P:=P ++ [x]) (M:=B) (R:=R) (k:=m+t) (t:=t) (by simp;omega) t2
     simp only [List.append_assoc,List.cons_append,List.nil_append] at w1
     have:=H1.out (m+t) (by omega) (by omega)
     omega
    ·intro y hy
     obtain ⟨t,t1,t2,rfl⟩:=mem_drop_at hy
     have w1:=wd_mid (P:=P ++ [x]) (M:=B) (R:=R) (k:=m+t) (t:=t) (by simp;omega) t2
     simp only [List.append_assoc,List.cons_append,List.nil_append] at w1
     have:=H2.out (m+t) (by omega) (by omega)
     omega
   have HE9:=Lib.hid e9
   clear e9 H1 H2
   obtain ⟨s,hs⟩:∃ s,i=m+s:=⟨i - m,by omega⟩
   have hsB:s≤B.length:=by have:=HB.out;have:=HM.out;omega
   rw [show i - m=s by omega] at HE9
   have hs2:=HM.out
   have hi:i=a+1+s:=by omega
   clear hs hs2
   subst hi
   go_wp2
   go_loopw [13] (fun vk wr=>∃ t:Nat,vk=.int .i64 ((a+t:Nat):Int)∧t≤s∧Hid (SortW w0 base g n c (P ++ (B.take t ++ x :: (B.drop t ++ R))) wr))
    (fun vk _=>a+s - (intOf vk).toNat)
   case atStart=>exact ⟨0,rfl,by omega,HS⟩
   case round =>
    clear HS
    obtain ⟨t,rfl,hts,HS⟩:=hrel
    by_cases hlt:t < s
    ·have ht:t < B.length:=by omega
     have hS:=HS.out
     rw [List.drop_eq_getElem_cons ht] at hS
     have hS2:SortW w0 base g n c ((P ++ B.take t) ++ x :: B[t] :: (B.drop (t+1) ++ R)) wr:=hS.same (by simp only [List.append_assoc,List.cons_append])
     have lq:(P ++ B.take t).length=a+t:=by have:=HA.out;simp;omega
     have eT:P ++ (B.take (t+1) ++ x :: (B.drop (t+1) ++ R))=(P ++ B.take t) ++ B[t] :: x :: (B.drop (t+1) ++ R):=by
      rw [List.take_succ_eq_append_getElem ht];simp only [List.append_assoc,List.cons_append,List.nil_append]
     generalize B[t]=y at hS2 eT
     have ET:=Lib.hid eT
     have c1:=hS2.at_
     have c2:=hS2.nx
     have c3:=SortW.at3 (L2:=[]) hS2 (.pointer (some ⟨y.1,0,none⟩))
     have S1:=hS2.swp0.drew
     have f1:=hS2.fr (a+t)
     have f2:=hS2.fr (a+t+1)
     rw [List.length_nil,Nat.add_zero] at c3
     rw [lq] at c1 c2 c3 S1
     have HS1:=Lib.hid S1
     clear S1 hS hS2 HS lq eT
     have hti:((a+t:Nat):Int) < (a+1+s:Nat) - 1:=by omega
     generalize hk:a+t=k at *
     have r1:IntKind.i64.wrap ((k:Int)+1)=(k:Int)+1:=by rw [IntKind.wrap_i64];omega
     have g1:((k:Int)+1).toNat=k+1:=by omega
     have g2:(k:Int).toNat=k:=by omega
     have p1:(0:Int)≤(k:Int)+1:=by omega
     have p3:(k:Int)+1 < n:=by omega
     have p4:(k:Int) < n:=by omega
     have HK:=Lib.hid hk
     clear hk
     go_wp2_with fail
     go_region
     go_wp2_with fail
     go_roundw
     case rel=>exact ⟨t+1,by rw [← HK.out];go_num,by omega,HS1.out.same ET.out.symm⟩
     case measure=>have:=HK.out;simp [intOf];omega
    ·obtain rfl:t=s:=by omega
     have hti:¬ ((a:Int)+t < (a:Int)+1+t - 1):=by omega
     go_wp2
     refine bodyPost_ret (v:=.tuple #[]) (results_none rfl _ _ _) rfl ?_
     exact ⟨rfl,HS.out.same (by rw [HE9.out];simp)⟩
end Go.Proofs.YtebbdifhiihfkaaGreatDoor

/- slices.SortStableFunc over rows of members: symMerge, one element behind. -/
namespace Go.Proofs.YtebbdifhiihfkaaGreatDoor
set_option linter.all false
open Go.RowKit
theorem stab_last {α:Type} {wt:α→Int} {x:α} {A1 A2:List α} (h:Srt wt (A1 ++ A2)) (h1:∀ y ∈ A1,wt y≤wt x) (h2:∀ y ∈ A2,wt x < wt y):stab wt ((A1 ++ A2) ++ [x])=A1 ++ x :: A2 :=
 stab_snoc (SS.of h).eq_stab.symm h1 h2
set_option maxRecDepth 100000 in
set_option maxHeartbeats 3200000 in
theorem sym_last (w0 W:World) (base g n c:Nat) (P:List MP) (x:MP) (A R:List MP) (h:SortW w0 base g n c (P ++ (A ++ x :: R)) W) (hn:n≤1099511627776) (a m b:Nat)
  (ha:a=P.length) (hm:m=a+A.length) (hb:b=m+1) (h1:A.length ≠ 1) (hB:Srt (fun x:MP=>x.2.w) A) :
  Calls Tryz.prog 190 #[.slice (some ⟨g,0,none⟩) n c,.int .i64 a,.int .i64 m,.int .i64 b,.func (.func 185) #[] #[]] W fun e w' =>
   e=.returned (.tuple #[])∧SortW w0 base g n c (P ++ stab (fun x:MP=>x.2.w) (A ++ [x]) ++ R) w':=by
 have hlen:=h.len
 simp only [List.length_append,List.length_cons] at hlen
 have HS:=Lib.hid h
 have b1:b≤n:=by omega
 have b2:a≤m:=by omega
 have b3:m < b:=by omega
 have b4:m < n:=by omega
 have HA:=Lib.hid ha
 have HM:=Lib.hid hm
 have e1:¬ ((m:Int) - a=1):=by omega
 have e1':(((m:Int) - a) == 1)=false:=by simpa using e1
 have e2:(b:Int) - m=1:=by omega
 have HB:=Lib.hid hb
 clear h ha hb hlen hm h1
 go_enter Tryz.func190,Tryz.ntmps190
 go_wp2
 go_loopw [14,15] (fun vi vj wr=>∃ i j:Nat,vi=.int .i64 i∧vj=.int .i64 j∧a≤i∧i≤j∧j≤m∧Hid (∀ k,a≤k→k < i→wd (P ++ (A ++ x :: R)) k≤x.2.w)∧Hid (∀ k,j≤k→k < m→x.2.w < wd (P ++ (A ++ x :: R)) k)∧Hid (SortW w0 base g n c (P ++ (A ++ x :: R)) wr))
  (fun vi vj _=>(intOf vj).toNat - (intOf vi).toNat)
 case atStart=>exact ⟨a,m,rfl,rfl,by omega,by omega,by omega,(show ∀ k,_ by intro k;omega),(show ∀ k,_ by intro k;omega),HS⟩
 case round =>
  clear HS
  obtain ⟨i,j,rfl,rfl,hmi,hij,hjb,H1,H2,HS⟩:=hrel
  by_cases hlt:i < j
  ·go_wp2_with fail
   have eh:((i:Int)+j) / 2=(((i+j) / 2:Nat):Int):=by omega
   rw [eh]
   clear eh
   obtain ⟨z,hz,cz,cwz,ewz⟩:=HS.out.gt (k:=(i+j) / 2) (by omega)
   have hh1:i≤(i+j) / 2:=by omega
   have hh2:(i+j) / 2 < j:=by omega
   have ca:=SortW.at_ (L1:=P ++ A) (x:=x) (L2:=R) (HS.out.same (by simp))
   have cwa:=HS.out.wt (x:=x) (by simp)
   rw [show (P ++ A).length=m by have:=HA.out;have:=HM.out;simp;omega] at ca
   have HW:=Lib.hid (fun q=>Calls.quiet_of (n:=q) (w:=wr) (less_any x z (wr.drewN q) cwa cwz))
   have HE:=Lib.hid ewz
   clear hz ewz cwz cwa
   generalize (i+j) / 2=k at *
   have g1:(k:Int).toNat=k:=by omega
   have p3:(k:Int) < n:=by omega
   have p4:(m:Int) < n:=by omega
   have hmono:∀ k1 k2,a≤k1→k1≤k2→k2 < m→wd (P ++ (A ++ x :: R)) k1≤wd (P ++ (A ++ x :: R)) k2:=by
    intro k1 k2 q1 q2 q3
    have l1:=HA.out
    have l2:=HB.out
    have l3:=HM.out
    have w1:=wd_mid (P:=P) (M:=A) (R:=x :: R) (k:=k1) (t:=k1 - a) (by omega) (by omega)
    have w2:=wd_mid (P:=P) (M:=A) (R:=x :: R) (k:=k2) (t:=k2 - a) (by omega) (by omega)
    rw [w1,w2]
    rcases Nat.lt_or_eq_of_le q2 with q2 | rfl
    ·exact (List.pairwise_iff_getElem.1 hB) (k1 - a) (k2 - a) (by omega) (by omega) (by omega)
    ·exact Int.le_refl _
   have HMO:=Lib.hid hmono
   clear hmono
   by_cases hc:x.2.w < z.2.w
   ·have v1:cmpI x.2.w z.2.w < 0:=(cmpI_neg _ _).2 hc
    have hc':x.2.w < wd (P ++ (A ++ x :: R)) k:=by rw [← HE.out];exact hc
    generalize cmpI x.2.w z.2.w=r at HW v1
    have v2:decide (r < 0)=true:=decide_eq_true v1
    have HC:=Lib.hid hc'
    have HS1:=Lib.hid (fun m=>HS.out.drewN m)
    clear hc hc' HS
    go_quiet ((go_at_call 185;exact HW.out _))
    have HS:=Lib.hid (HS1.out nq)
    clear HS1 HW
    go_wp2_with fail
    go_roundw
    case rel=>exact ⟨i,k,rfl,rfl,by omega,by omega,by omega,H1,(show ∀ q,_ from fun q q1 q2=>by have:=HMO.out k q (by omega) q1 q2;have:=HC.out;omega),HS⟩
    case measure=>simp [intOf];omega
   ·have v1:¬ cmpI x.2.w z.2.w < 0:=fun h=>hc ((cmpI_neg _ _).1 h)
    have hc':wd (P ++ (A ++ x :: R)) k≤x.2.w:=by rw [← HE.out];omega
    generalize cmpI x.2.w z.2.w=r at HW v1
    have v2:decide (r < 0)=false:=decide_eq_false v1
    have HC:=Lib.hid hc'
    have HS1:=Lib.hid (fun m=>HS.out.drewN m)
    clear hc hc' HS
    go_quiet ((go_at_call 185;exact HW.out _))
    have HS:=Lib.hid (HS1.out nq)
    clear HS1 HW
    go_wp2_with fail
    go_roundw
    case rel=>exact ⟨k+1,j,by go_num,rfl,by omega,by omega,by omega,(show ∀ q,_ from fun q q1 q2=>by have:=HMO.out q k q1 (by omega) (by omega);have:=HC.out;omega),H2,HS⟩
    case measure=>simp [intOf];omega
  ·obtain rfl:i=j:=by omega
   clear hlt hij
   have e9:stab (fun x:MP=>x.2.w) (A ++ [x])=A.take (i - a) ++ x :: A.drop (i - a):=by
    have l1:=HA.out
    have l2:=HB.out
    have l3:=HM.out
    have:=stab_last (wt:=fun x:MP=>x.2.w) (x:=x) (A1:=A.take (i - a)) (A2:=A.drop (i - a)) (by rw [List.take_append_drop];exact hB) ?_ ?_
    ·rwa [List.take_append_drop] at this
    ·intro y hy
     obtain ⟨t,t1,t2,rfl⟩:=mem_take_at hy
     have w1:=wd_mid (P:=P) (M:=A) (R:=x :: R) (k:=a+t) (t:=t) (by omega) t2
     have:=H1.out (a+t) (by omega) (by omega)
     omega
    ·intro y hy
     obtain ⟨t,t1,t2,rfl⟩:=mem_drop_at hy
     have w1:=wd_mid (P:=P) (M:=A) (R:=x :: R) (k:=a+t) (t:=t) (by omega) t2
     have:=H2.out (a+t) (by omega) (by omega)
     omega
   have HE9:=Lib.hid e9
   have h7:SortW w0 base g n c (P ++ (A.take (i - a) ++ (A.drop (i - a)).take (m - i) ++ x :: ((A.drop (i - a)).drop (m - i) ++ R))) wr:=by
    refine HS.out.same ?_
    have:=HM.out
    rw [List.take_of_length_le (l:=A.drop (i - a)) (by simp;omega),List.drop_eq_nil_of_le (show (A.drop (i - a)).length≤m - i by simp;omega),List.take_append_drop]
    rfl
   have lA2:(A.drop (i - a)).length=m - i:=by have:=HM.out;simp;omega
   have lA1:(A.take (i - a)).length=i - a:=by have:=HM.out;simp;omega
   clear e9 H1 H2 HS
   generalize A.drop (i - a)=A2 at *
   generalize A.take (i - a)=A1 at *
   have HS:=Lib.hid h7
   clear h7
   obtain ⟨u,hu⟩:∃ u,m=i+u:=⟨m - i,by omega⟩
   have LA2:=Lib.hid (show A2.length=u by omega)
   have LA1:=Lib.hid (show P.length+A1.length=i by have:=HA.out;omega)
   rw [show m - i=u by omega] at HS
   clear lA1 lA2 HM
   subst hu
   go_wp2
   go_loopw [17] (fun vk wr=>∃ t:Nat,vk=.int .i64 ((i+t:Nat):Int)∧t≤u∧Hid (SortW w0 base g n c (P ++ (A1 ++ A2.take t ++ x :: (A2.drop t ++ R))) wr))
    (fun vk _=>(intOf vk).toNat)
   case atStart=>exact ⟨u,rfl,by omega,HS⟩
   case round =>
    clear HS
    obtain ⟨t,rfl,hts,HS⟩:=hrel
    by_cases hlt:0 < t
    ·obtain ⟨s,rfl⟩:∃ s,t=s+1:=⟨t - 1,by omega⟩
     have ht:s < A2.length:=by have:=LA2.out;omega
     have hS:=HS.out
     rw [List.take_succ_eq_append_getElem ht] at hS
     have hS2:SortW w0 base g n c ((P ++ A1 ++ A2.take s) ++ A2[s] :: x :: (A2.drop (s+1) ++ R)) wr:=hS.same (by simp only [List.append_assoc,List.cons_append,List.nil_append])
     have lq:(P ++ A1 ++ A2.take s).length=i+s:=by have:=LA1.out;simp;omega
     have eT:P ++ (A1 ++ A2.take s ++ x :: (A2.drop s ++ R))=(P ++ A1 ++ A2.take s) ++ x :: A2[s] :: (A2.drop (s+1) ++ R):=by
      rw [List.drop_eq_getElem_cons ht];simp only [List.append_assoc,List.cons_append,List.nil_append]
     generalize A2[s]=y at hS2 eT
     have ET:=Lib.hid eT
     have c1:=hS2.at_
     have c2:=hS2.nx
     have c3:=hS2.at3' (.pointer (some ⟨y.1,0,none⟩))
     have S1:=hS2.pws.drew
     have f1:=hS2.fr (i+s)
     have f2:=hS2.fr (i+s+1)
     rw [lq] at c1 c2 c3 S1
     have HS1:=Lib.hid S1
     clear S1 hS hS2 HS lq eT
     have hti:(i:Int) < (i:Int)+s+1:=by omega
     have hk:i+(s+1)=i+s+1:=by omega
     rw [hk]
     clear hk
     have hin:i≤i+s:=by omega
     generalize hk:i+s=k at *
     have r1:IntKind.i64.wrap ((k:Int)+1)=(k:Int)+1:=by rw [IntKind.wrap_i64];omega
     have r2:IntKind.i64.wrap (k:Int)=(k:Int):=by rw [IntKind.wrap_i64];omega
     have g1:((k:Int)+1).toNat=k+1:=by omega
     have g2:(k:Int).toNat=k:=by omega
     have p1:(0:Int)≤(k:Int)+1:=by omega
     have p3:(k:Int)+1 < n:=by omega
     have p4:(k:Int) < n:=by omega
     have p5:(i:Int) < (k:Int)+1:=by omega
     have HK:=Lib.hid hk
     clear hk hti
     go_wp2_with fail
     go_region
     go_wp2_with fail
     go_roundw
     case rel=>exact ⟨s,by rw [HK.out],by omega,HS1.out.same ET.out.symm⟩
     case measure=>simp [intOf]
    ·obtain rfl:t=0:=by omega
     go_wp2
     refine bodyPost_ret (v:=.tuple #[]) (results_none rfl _ _ _) rfl ?_
     exact ⟨rfl,HS.out.same (by rw [HE9.out];simp)⟩
end Go.Proofs.YtebbdifhiihfkaaGreatDoor

/- slices.SortStableFunc over rows of members: symMerge, whole. -/
namespace Go.Proofs.YtebbdifhiihfkaaGreatDoor
set_option linter.all false
open Go.RowKit
abbrev mw:MP→Int:=fun x=>x.2.w
theorem rotate_int (w0 W:World) (base g n c:Nat) (P U V R:List MP) (f:Value) (h:SortW w0 base g n c (P ++ U ++ V ++ R) W) (hU:0 < U.length) (hV:0 < V.length) (hn:n≤1099511627776) (a m b:Int)
  (ha:a=P.length) (hm:m=P.length+U.length) (hb:b=P.length+U.length+V.length) :
  Calls Tryz.prog 191 #[.slice (some ⟨g,0,none⟩) n c,.int .i64 a,.int .i64 m,.int .i64 b,f] W fun e w' =>
   e=.returned (.tuple #[])∧SortW w0 base g n c (P ++ V ++ U ++ R) w':=by
 have hm':m=((P.length+U.length:Nat):Int):=by omega
 have hb':b=((P.length+U.length+V.length:Nat):Int):=by omega
 subst ha hm' hb'
 exact rotate_any w0 W base g n c P U V R f h hU hV hn _ _ _ rfl rfl rfl
theorem sym_pure {A1 U V B2:List MP} (hA:Srt mw (A1 ++ U)) (hB:Srt mw (V ++ B2)) (hUV:∀ u ∈ U,∀ v ∈ V,mw v < mw u) (hAB:∀ x ∈ A1,∀ y ∈ B2,mw x≤mw y) :
  stab mw ((A1 ++ U) ++ (V ++ B2))=stab mw (A1 ++ V) ++ stab mw (U ++ B2):=by
 have h1:FEq mw ((A1 ++ U) ++ (V ++ B2)) ((A1 ++ V) ++ (U ++ B2)):=by
  have:=(FEq.refl A1).append ((FEq.swap hUV).append (FEq.refl B2))
  simpa using this
 obtain ⟨a1,a2,a3⟩:=Srt.append.1 hA
 obtain ⟨b1,b2,b3⟩:=Srt.append.1 hB
 refine (SS.eq_stab (SS.feq h1 (SS.join (stab_ss _) (stab_ss _) ?_))).symm
 intro x hx y hy
 rcases List.mem_append.1 hx with hx | hx <;> rcases List.mem_append.1 hy with hy | hy
 ·exact a3 x hx y hy
 ·exact hAB x hx y hy
 ·have:=hUV y hy x hx;omega
 ·exact b3 x hx y hy
theorem stab_one_nil {A B:List MP} (hA:Srt mw A) (hB:Srt mw B) (h:A=[]∨B=[]):stab mw (A ++ B)=A ++ B:=by
 rcases h with rfl | rfl
 ·simpa using (SS.of hB).eq_stab.symm
 ·simpa using (SS.of hA).eq_stab.symm
/-- What the search found. -/
theorem sym_found {P A B R:List MP} {a m b mid s0 r0 s:Nat} (ha:a=P.length) (hm:m=a+A.length) (hb:b=m+B.length) (hA:Srt mw A) (hB:Srt mw B)
  (h1:a≤s0) (h2:s0≤s) (h3:s≤r0) (h4:r0≤m) (h5:r0≤mid) (h6:mid+m≤b+s0) (h7:s0=a∨mid+m=b+s0) (h8:r0=m∨r0=mid)
  (g1:∀ k,s0≤k→k < s→wd (P ++ (A ++ (B ++ R))) k≤wd (P ++ (A ++ (B ++ R))) (mid+m - 1 - k)) (g2:∀ k,s≤k→k < r0→wd (P ++ (A ++ (B ++ R))) (mid+m - 1 - k) < wd (P ++ (A ++ (B ++ R))) k) :
  stab mw (A ++ B)=stab mw (A.take (s - a) ++ B.take (mid - s)) ++ stab mw (A.drop (s - a) ++ B.drop (mid - s)):=by
 have wA:∀ t (ht:t < A.length),wd (P ++ (A ++ (B ++ R))) (a+t)=mw A[t]:=fun t ht=>wd_mid (by omega) ht
 have wB:∀ t (ht:t < B.length),wd (P ++ (A ++ (B ++ R))) (m+t)=mw B[t]:=fun t ht=>by
  have:=wd_mid (P:=P ++ A) (M:=B) (R:=R) (k:=m+t) (t:=t) (by simp;omega) ht
  rwa [List.append_assoc] at this
 have mA:∀ t1 t2 (h:t1≤t2) (ht:t2 < A.length),mw (A[t1]'(by omega))≤mw A[t2]:=fun t1 t2 h ht=>by
  rcases Nat.lt_or_eq_of_le h with h | rfl
  ·exact (List.pairwise_iff_getElem.1 hA) t1 t2 (by omega) ht h
  ·exact Int.le_refl _
 have mB:∀ t1 t2 (h:t1≤t2) (ht:t2 < B.length),mw (B[t1]'(by omega))≤mw B[t2]:=fun t1 t2 h ht=>by
  rcases Nat.lt_or_eq_of_le h with h | rfl
  ·exact (List.pairwise_iff_getElem.1 hB) t1 t2 (by omega) ht h
  ·exact Int.le_refl _
 have:=sym_pure (A1:=A.take (s - a)) (U:=A.drop (s - a)) (V:=B.take (mid - s)) (B2:=B.drop (mid - s)) (by rw [List.take_append_drop];exact hA) (by rw [List.take_append_drop];exact hB) ?_ ?_
 ·rwa [List.take_append_drop,List.take_append_drop] at this
 ·intro u hu v hv
  obtain ⟨t,t1,t2,rfl⟩:=mem_drop_at hu
  obtain ⟨q,q1,q2,rfl⟩:=mem_take_at hv
  have hs:s < r0:=by omega
  have e:=g2 s (Nat.le_refl _) hs
  have e1:=wA (s - a) (by omega)
  have e2:=wB (mid - 1 - s) (by omega)
  rw [show a+(s - a)=s by omega] at e1
  rw [show m+(mid - 1 - s)=mid+m - 1 - s by omega] at e2
  have e3:=mA (s - a) t t1 t2
  have e4:=mB q (mid - 1 - s) (by omega) (by omega)
  omega
 ·intro x hx y hy
  obtain ⟨t,t1,t2,rfl⟩:=mem_take_at hx
  obtain ⟨q,q1,q2,rfl⟩:=mem_drop_at hy
  have hs:s0 < s:=by omega
  have e:=g1 (s - 1) (by omega) (by omega)
  have e1:=wA (s - 1 - a) (by omega)
  have e2:=wB (mid - s) (by omega)
  rw [show a+(s - 1 - a)=s - 1 by omega] at e1
  rw [show m+(mid - s)=mid+m - 1 - (s - 1) by omega] at e2
  have e3:=mA t (s - 1 - a) (by omega) (by omega)
  have e4:=mB (mid - s) q q1 q2
  omega
set_option maxRecDepth 100000 in
set_option maxHeartbeats 6400000 in
theorem sym_gen (w0 W:World) (base g n c:Nat) (P A B R:List MP) (h:SortW w0 base g n c (P ++ (A ++ (B ++ R))) W) (hn:n≤1099511627776) (a m b:Nat)
  (ha:a=P.length) (hm:m=a+A.length) (hb:b=m+B.length) (h1:2≤A.length) (h2:2≤B.length) (hA:Srt mw A) (hB:Srt mw B)
  (ih:∀ (W:World) (P A' B' R:List MP) (a m b:Int),SortW w0 base g n c (P ++ (A' ++ (B' ++ R))) W→a=P.length→m=a+A'.length→b=m+B'.length→0 < A'.length→0 < B'.length→A'.length+B'.length < A.length+B.length→Srt mw A'→Srt mw B' →
   Calls Tryz.prog 190 #[.slice (some ⟨g,0,none⟩) n c,.int .i64 a,.int .i64 m,.int .i64 b,.func (.func 185) #[] #[]] W fun e w' =>
    e=.returned (.tuple #[])∧SortW w0 base g n c (P ++ (stab mw (A' ++ B') ++ R)) w') :
  Calls Tryz.prog 190 #[.slice (some ⟨g,0,none⟩) n c,.int .i64 a,.int .i64 m,.int .i64 b,.func (.func 185) #[] #[]] W fun e w' =>
   e=.returned (.tuple #[])∧SortW w0 base g n c (P ++ (stab mw (A ++ B) ++ R)) w':=by
 have hlen:=h.len
 simp only [List.length_append,List.length_cons] at hlen
 have HS:=Lib.hid h
 have b1:b≤n:=by omega
 have b2:a+2≤m:=by omega
 have b3:m+2≤b:=by omega
 have HA:=Lib.hid ha
 have HM:=Lib.hid hm
 have HB:=Lib.hid hb
 have HIH:=Lib.hid ih
 have e1:¬ ((m:Int) - a=1):=by omega
 have e1':(((m:Int) - a) == 1)=false:=by simpa using e1
 have e2:¬ ((b:Int) - m=1):=by omega
 have e2':(((b:Int) - m) == 1)=false:=by simpa using e2
 clear h ha hb hlen hm h1 h2 ih
 go_enter Tryz.func190,Tryz.ntmps190
 go_upto_if 140 with (fail)
 have eh:((a:Int)+b) / 2=(((a+b) / 2:Nat):Int):=by omega
 rw [eh]
 clear eh
 have hmid1:a+b≤(a+b) / 2 * 2+1:=by omega
 have hmid2:(a+b) / 2 * 2≤a+b:=by omega
 generalize (a+b) / 2=mid at *
 obtain ⟨s0,r0,q0,q1,q2,q3,q4,q5,q6⟩:∃ s0 r0:Nat,(m > mid→s0=mid+m - b∧r0=mid)∧(¬ m > mid→s0=a∧r0=m)∧a≤s0∧s0≤r0∧r0≤m∧r0≤mid∧mid+m≤b+s0:=by
  by_cases hq:m > mid
  ·exact ⟨mid+m - b,mid,fun _=>⟨rfl,rfl⟩,fun h=>absurd hq h,by omega,by omega,by omega,by omega,by omega⟩
  ·exact ⟨a,m,fun h=>absurd h hq,fun _=>⟨rfl,rfl⟩,by omega,by omega,by omega,by omega,by omega⟩
 have q7:(s0=a∨mid+m=b+s0)∧(r0=m∨r0=mid):=by
  by_cases hq:m > mid
  ·obtain ⟨rfl,rfl⟩:=q0 hq;omega
  ·obtain ⟨rfl,rfl⟩:=q1 hq;omega
 have HQ0:=Lib.hid q0
 have HQ1:=Lib.hid q1
 have HQ7:=Lib.hid q7
 clear q0 q1 q7
 go_cut [20,21] (fun u v wc=>u=.int .i64 s0∧v=.int .i64 r0∧wc=W)
 case first =>
  by_cases hq:mid < m
  ·obtain ⟨z1,z2⟩:=HQ0.out hq
   have z3:(mid:Int)+m - b=(s0:Int):=by omega
   have Z3:=Lib.hid z3
   have Z2:=Lib.hid z2
   clear z1 z2 z3
   have hq':decide ((mid:Int) < (m:Int))=true:=decide_eq_true (by omega)
   go_wp2_with fail
   go_meet
   case rel=>exact ⟨by rw [Z3.out],by rw [Z2.out],rfl⟩
  ·obtain ⟨z1,z2⟩:=HQ1.out (by omega)
   have Z1:=Lib.hid z1
   have Z2:=Lib.hid z2
   clear z1 z2
   have hq':decide ((mid:Int) < (m:Int))=false:=decide_eq_false (by omega)
   go_wp2_with fail
   go_meet
   case rel=>exact ⟨by rw [Z1.out],by rw [Z2.out],rfl⟩
 case rest =>
  obtain ⟨rfl,rfl,rfl⟩:=hcut
  go_wp2_with fail
  go_loopw [20,21] (fun vi vj wr=>∃ i j:Nat,vi=.int .i64 i∧vj=.int .i64 j∧s0≤i∧i≤j∧j≤r0∧Hid (∀ k,s0≤k→k < i→wd (P ++ (A ++ (B ++ R))) k≤wd (P ++ (A ++ (B ++ R))) (mid+m - 1 - k))∧Hid (∀ k,j≤k→k < r0→wd (P ++ (A ++ (B ++ R))) (mid+m - 1 - k) < wd (P ++ (A ++ (B ++ R))) k)∧Hid (SortW w0 base g n c (P ++ (A ++ (B ++ R))) wr))
   (fun vi vj _=>(intOf vj).toNat - (intOf vi).toNat)
  case atStart=>exact ⟨s0,r0,rfl,rfl,by omega,by omega,by omega,(show ∀ k,_ by intro k;omega),(show ∀ k,_ by intro k;omega),HS⟩
  case round =>
   clear HS
   obtain ⟨i,j,rfl,rfl,hmi,hij,hjb,H1,H2,HS⟩:=hrel
   by_cases hlt:i < j
   ·go_wp2_with fail
    have eh:((i:Int)+j) / 2=(((i+j) / 2:Nat):Int):=by omega
    rw [eh]
    clear eh
    have hh1:i≤(i+j) / 2:=by omega
    have hh2:(i+j) / 2 < j:=by omega
    obtain ⟨z,hz,cz,cwz,ewz⟩:=HS.out.gt (k:=(i+j) / 2) (by omega)
    obtain ⟨y,hy,cy,cwy,ewy⟩:=HS.out.gt (k:=mid+m - 1 - (i+j) / 2) (by omega)
    have HW:=Lib.hid (fun q=>Calls.quiet_of (n:=q) (w:=wr) (less_any y z (wr.drewN q) cwy cwz))
    have HE:=Lib.hid ewz
    have HF:=Lib.hid ewy
    clear hz ewz hy ewy cwz cwy
    generalize (i+j) / 2=k at *
    have g1:(k:Int).toNat=k:=by omega
    have p3:(k:Int) < n:=by omega
    have g2:((mid:Int)+m - 1 - k).toNat=mid+m - 1 - k:=by omega
    have r1:IntKind.i64.wrap ((mid:Int)+m - 1 - k)=(mid:Int)+m - 1 - k:=by rw [IntKind.wrap_i64];omega
    have p4:(mid:Int)+m - 1 - k < n:=by omega
    have p5:(0:Int)≤(mid:Int)+m - 1 - k:=by omega
    have hmono:∀ k1 k2,s0≤k1→k1≤k2→k2 < r0→wd (P ++ (A ++ (B ++ R))) k1≤wd (P ++ (A ++ (B ++ R))) k2∧wd (P ++ (A ++ (B ++ R))) (mid+m - 1 - k2)≤wd (P ++ (A ++ (B ++ R))) (mid+m - 1 - k1):=by
     intro k1 k2 x1 x2 x3
     have l1:=HA.out
     have l2:=HB.out
     have l3:=HM.out
     have w1:=wd_mid (P:=P) (M:=A) (R:=B ++ R) (k:=k1) (t:=k1 - a) (by omega) (by omega)
     have w2:=wd_mid (P:=P) (M:=A) (R:=B ++ R) (k:=k2) (t:=k2 - a) (by omega) (by omega)
     have w3:=wd_mid (P:=P ++ A) (M:=B) (R:=R) (k:=mid+m - 1 - k1) (t:=mid - 1 - k1) (by simp;omega) (by omega)
     have w4:=wd_mid (P:=P ++ A) (M:=B) (R:=R) (k:=mid+m - 1 - k2) (t:=mid - 1 - k2) (by simp;omega) (by omega)
     rw [List.append_assoc] at w3 w4
     rw [w1,w2,w3,w4]
     rcases Nat.lt_or_eq_of_le x2 with x2 | rfl
     ·exact ⟨(List.pairwise_iff_getElem.1 hA) (k1 - a) (k2 - a) (by omega) (by omega) (by omega),(List.pairwise_iff_getElem.1 hB) (mid - 1 - k2) (mid - 1 - k1) (by omega) (by omega) (by omega)⟩
     ·exact ⟨Int.le_refl _,Int.le_refl _⟩
    have HMO:=Lib.hid hmono
    clear hmono
    by_cases hc:y.2.w < z.2.w
    ·have v1:cmpI y.2.w z.2.w < 0:=(cmpI_neg _ _).2 hc
     have hc':wd (P ++ (A ++ (B ++ R))) (mid+m - 1 - k) < wd (P ++ (A ++ (B ++ R))) k:=by rw [← HE.out,← HF.out];exact hc
     generalize cmpI y.2.w z.2.w=r at HW v1
     have v2:decide (r < 0)=true:=decide_eq_true v1
     have HC:=Lib.hid hc'
     have HS1:=Lib.hid (fun m=>HS.out.drewN m)
     clear hc hc' HS
     go_quiet ((go_at_call 185;exact HW.out _))
     have HS:=Lib.hid (HS1.out nq)
     clear HS1 HW r1 g2
     go_wp2_with fail
     go_roundw
     case rel=>exact ⟨i,k,rfl,rfl,by omega,by omega,by omega,H1,(show ∀ q,_ from fun q q1 q2=>by have:=HMO.out k q (by omega) q1 q2;have:=HC.out;omega),HS⟩
     case measure=>simp [intOf];omega
    ·have v1:¬ cmpI y.2.w z.2.w < 0:=fun h=>hc ((cmpI_neg _ _).1 h)
     have hc':wd (P ++ (A ++ (B ++ R))) k≤wd (P ++ (A ++ (B ++ R))) (mid+m - 1 - k):=by rw [← HE.out,← HF.out];omega
     generalize cmpI y.2.w z.2.w=r at HW v1
     have v2:decide (r < 0)=false:=decide_eq_false v1
     have HC:=Lib.hid hc'
     have HS1:=Lib.hid (fun m=>HS.out.drewN m)
     clear hc hc' HS
     go_quiet ((go_at_call 185;exact HW.out _))
     have HS:=Lib.hid (HS1.out nq)
     clear HS1 HW r1 g2
     go_wp2_with fail
     go_roundw
     case rel=>exact ⟨k+1,j,by go_num,rfl,by omega,by omega,by omega,(show ∀ q,_ from fun q q1 q2=>by have:=HMO.out q k q1 (by omega) (by omega);have:=HC.out;omega),H2,HS⟩
     case measure=>simp [intOf];omega
   ·obtain rfl:i=j:=by omega
    clear hlt hij
    have e9:=sym_found HA.out HM.out HB.out hA hB q2 hmi hjb q4 q5 q6 HQ7.out.1 HQ7.out.2 H1.out H2.out
    have HE9:=Lib.hid e9
    have lA1:(A.take (i - a)).length=i - a:=by have:=HM.out;simp;omega
    have lU:(A.drop (i - a)).length=m - i:=by have:=HM.out;simp;omega
    have lV:(B.take (mid - i)).length=mid - i:=by have:=HB.out;simp;omega
    have lB2:(B.drop (mid - i)).length=b+i - mid - m:=by have:=HB.out;simp;omega
    have sA:Srt mw (A.take (i - a))∧Srt mw (A.drop (i - a)):=by
     have:=hA
     rw [← List.take_append_drop (i - a) A] at this
     exact ⟨(Srt.append.1 this).1,(Srt.append.1 this).2.1⟩
    have sB:Srt mw (B.take (mid - i))∧Srt mw (B.drop (mid - i)):=by
     have:=hB
     rw [← List.take_append_drop (mid - i) B] at this
     exact ⟨(Srt.append.1 this).1,(Srt.append.1 this).2.1⟩
    have h7:SortW w0 base g n c (P ++ A.take (i - a) ++ A.drop (i - a) ++ B.take (mid - i) ++ (B.drop (mid - i) ++ R)) wr:=by
     refine HS.out.same ?_
     conv=>lhs;rw [← List.take_append_drop (i - a) A,← List.take_append_drop (mid - i) B]
     simp only [List.append_assoc]
    clear e9 H1 H2 HS
    generalize A.take (i - a)=A1 at *
    generalize A.drop (i - a)=U at *
    generalize B.take (mid - i)=V at *
    generalize B.drop (mid - i)=B2 at *
    have HL1:=Lib.hid lA1
    have HL2:=Lib.hid lU
    have HL3:=Lib.hid lV
    have HL4:=Lib.hid lB2
    have LP:=Lib.hid (show P.length=a from HA.out.symm)
    have LAB:=Lib.hid (show A.length+B.length=A1.length+U.length+(V.length+B2.length) by have:=HM.out;have:=HB.out;omega)
    clear lA1 lU lV lB2
    have HROT:=Lib.hid (fun (h1:i < m) (h2:i < mid)=>rotate_int w0 wr base g n c (P ++ A1) U V (B2 ++ R) (.func (.func 185) #[] #[]) (h7.same (by simp)) (by have:=HL2.out;omega) (by have:=HL3.out;omega) hn (i:Int) (m:Int) ((mid:Int)+m - i)
     (by have:=LP.out;have:=HL1.out;simp;omega) (by have:=LP.out;have:=HL1.out;have:=HL2.out;simp;omega) (by have:=LP.out;have:=HL1.out;have:=HL2.out;have:=HL3.out;simp;omega))
    have HNO:=Lib.hid (fun (h:¬ (i < m∧i < mid))=>show SortW w0 base g n c (P ++ (A1 ++ (V ++ (U ++ B2 ++ R)))) wr from h7.same (by
     have l2:=HL2.out
     have l3:=HL3.out
     by_cases hh:i < m
     ·have:V=[]:=List.eq_nil_of_length_eq_zero (by omega)
      subst this;simp
     ·have:U=[]:=List.eq_nil_of_length_eq_zero (by omega)
      subst this;simp))
    have HLF:=Lib.hid (fun (W':World) (hW:SortW w0 base g n c (P ++ (A1 ++ (V ++ (U ++ B2 ++ R)))) W') (h1:a < i) (h2:i < mid) =>
     HIH.out W' P A1 V (U ++ B2 ++ R) (a:Int) (i:Int) (mid:Int) hW (by have:=LP.out;omega) (by have:=HL1.out;omega) (by have:=HL3.out;omega) (by have:=HL1.out;omega) (by have:=HL3.out;omega) (by have:=LAB.out;have:=HL2.out;have:=HL4.out;omega) sA.1 sB.1)
    have HLN:=Lib.hid (fun (h:¬ (a < i∧i < mid))=>stab_one_nil sA.1 sB.1 (by
     have l1:=HL1.out
     have l3:=HL3.out
     by_cases hh:a < i
     ·exact .inr (List.eq_nil_of_length_eq_zero (by omega))
     ·exact .inl (List.eq_nil_of_length_eq_zero (by omega))))
    have HRT:=Lib.hid (fun (W':World) (hW:SortW w0 base g n c ((P ++ stab mw (A1 ++ V)) ++ (U ++ (B2 ++ R))) W') (h1:i < m) (h2:(mid:Int)+m - i < b) =>
     HIH.out W' (P ++ stab mw (A1 ++ V)) U B2 R (mid:Int) ((mid:Int)+m - i) (b:Int) hW (by
      have:=(stab_ss (wt:=mw) (A1 ++ V)).2.length
      have:=LP.out;have:=HL1.out;have:=HL3.out;simp at *;omega) (by have:=HL2.out;omega) (by have:=HL4.out;omega) (by have:=HL2.out;omega) (by have:=HL4.out;omega) (by have:=LAB.out;have:=HL2.out;have:=HL4.out;have:=HL3.out;have:=HL1.out;omega) sA.2 sB.2)
    have HRN:=Lib.hid (fun (h:¬ (i < m∧(mid:Int)+m - i < b))=>stab_one_nil sA.2 sB.2 (by
     have l1:=HL2.out
     have l3:=HL4.out
     by_cases hh:i < m
     ·exact .inr (List.eq_nil_of_length_eq_zero (by omega))
     ·exact .inl (List.eq_nil_of_length_eq_zero (by omega))))
    clear h7 HQ0 HQ1 HQ7 hA hB
    have x1:((mid:Int)+m - i)≤b:=by omega
    by_cases hU:i < m <;> by_cases hV:i < mid <;> by_cases hA1:a < i <;> by_cases hB2:(mid:Int)+m - i < b <;> (first | (exfalso;omega) | skip)
    all_goals
     (try (have HS:=Lib.hid (HNO.out (by omega))))
     (first | (have t1:(m:Int) < (mid:Int)+m - i:=by omega) | (have t1:¬ (m:Int) < (mid:Int)+m - i:=by omega))
     (first | (have t2:(mid:Int) < (mid:Int)+m - i:=by omega) | (have t2:¬ (mid:Int) < (mid:Int)+m - i:=by omega))
     go_wp2_with (first
      | (go_at_call 191;(with_reducible refine (HROT.out hU hV).mono ?_);go_must (rintro e w1 ⟨rfl,hS1⟩;have HS:=Lib.hid (SortW.same (d':=P ++ (A1 ++ (V ++ (U ++ B2 ++ R)))) hS1 (by simp only [List.append_assoc]));clear hS1))
      | (go_at_call 190;(with_reducible refine (HLF.out _ HS.out hA1 hV).mono ?_);go_must (rintro e w2 ⟨rfl,hS2⟩;have HS3:=Lib.hid (SortW.same (d':=(P ++ stab mw (A1 ++ V)) ++ (U ++ (B2 ++ R))) hS2 (by simp only [List.append_assoc]));clear hS2))
      | (go_at_call 190;(with_reducible refine (HRT.out _ HS3.out hU hB2).mono ?_);go_must (rintro e w3 ⟨rfl,hS4⟩;have HS5:=Lib.hid hS4;clear hS4))
      | (go_at_call 190;(with_reducible refine (HRT.out _ (SortW.same HS.out (by rw [HLN.out (by omega)];simp only [List.append_assoc])) hU hB2).mono ?_);go_must (rintro e w3 ⟨rfl,hS4⟩;have HS5:=Lib.hid hS4;clear hS4)))
     refine bodyPost_end (results_none rfl _ _ _) rfl ?_
     refine ⟨rfl,?_⟩
     rw [HE9.out]
     first
      | (refine HS5.out.same ?_;simp only [List.append_assoc])
      | (refine HS3.out.same ?_;rw [HRN.out (by omega)];simp only [List.append_assoc])
      | (refine HS.out.same ?_;rw [HRN.out (by omega),HLN.out (by omega)];simp only [List.append_assoc])
theorem sym_any (w0:World) (base g n c:Nat) (hn:n≤1099511627776):∀ (N:Nat) (W:World) (P A B R:List MP) (a m b:Int),A.length+B.length=N→SortW w0 base g n c (P ++ (A ++ (B ++ R))) W→a=P.length→m=a+A.length→b=m+B.length→0 < A.length→0 < B.length→Srt mw A→Srt mw B →
   Calls Tryz.prog 190 #[.slice (some ⟨g,0,none⟩) n c,.int .i64 a,.int .i64 m,.int .i64 b,.func (.func 185) #[] #[]] W fun e w' =>
    e=.returned (.tuple #[])∧SortW w0 base g n c (P ++ (stab mw (A ++ B) ++ R)) w':=by
 intro N
 induction N using Nat.strongRecOn with
 | ind N ih =>
  intro W P A B R a m b hN h ha hm hb h1 h2 hA hB
  have em:m=((P.length+A.length:Nat):Int):=by omega
  have eb:b=((P.length+A.length+B.length:Nat):Int):=by omega
  subst ha em eb
  by_cases c1:A.length=1
  ·obtain ⟨x,rfl⟩:=List.length_eq_one_iff.1 c1
   have:=sym_first w0 W base g n c P x B R h hn P.length (P.length+1) (P.length+1+B.length) rfl rfl rfl hB
   simpa using this
  ·by_cases c2:B.length=1
   ·obtain ⟨x,rfl⟩:=List.length_eq_one_iff.1 c2
    have:=sym_last w0 W base g n c P x A R h hn P.length (P.length+A.length) (P.length+A.length+1) rfl rfl rfl c1 hA
    simpa using this
   ·exact sym_gen w0 W base g n c P A B R h hn P.length (P.length+A.length) (P.length+A.length+B.length) rfl rfl rfl (by omega) (by omega) hA hB
     (fun W P' A' B' R' a m b k1 k2 k3 k4 k5 k6 k7 k8 k9=>ih (A'.length+B'.length) (by omega) W P' A' B' R' a m b rfl k1 k2 k3 k4 k5 k6 k8 k9)
end Go.Proofs.YtebbdifhiihfkaaGreatDoor

/- slices.SortStableFunc over rows of members: whole. -/
namespace Go.Proofs.YtebbdifhiihfkaaGreatDoor
set_option linter.all false
open Go.RowKit
theorem stab_len (l:List MP):(stab mw l).length=l.length:=(stab_ss l).2.length
theorem stab_srt (l:List MP):Srt mw (stab mw l):=(stab_ss l).1
theorem stab_stab (a b:List MP):stab mw (stab mw a ++ stab mw b)=stab mw (a ++ b) :=
 (SS.eq_stab (SS.feq ((stab_ss a).2.append (stab_ss b).2) (stab_ss _)))
/-- Runs of so many, each sorted. -/
def cs (bs:Nat) (l:List MP):List MP :=
 if h:0 < bs∧bs < l.length then stab mw (l.take bs) ++ cs bs (l.drop bs) else stab mw l
termination_by l.length
decreasing_by simp;omega
theorem cs_small {bs:Nat} {l:List MP} (h:l.length≤bs):cs bs l=stab mw l:=by
 rw [cs,dif_neg (by omega)]
theorem cs_app {bs:Nat} {U V:List MP} (h0:0 < bs) (hU:U.length=bs):cs bs (U ++ V)=stab mw U ++ cs bs V:=by
 by_cases hV:V=[]
 ·subst hV
  rw [List.append_nil,cs_small (by omega),cs_small (by simp)]
  simp [stab]
 ·have:0 < V.length:=List.length_pos_iff.2 hV
  rw [cs,dif_pos (by simp;omega),← hU,List.take_left,List.drop_left]
theorem cs_two {bs:Nat} {U V R:List MP} (h0:0 < bs) (hU:U.length=bs) (hV:V.length=bs):cs (2 * bs) (U ++ (V ++ R))=stab mw (U ++ V) ++ cs (2 * bs) R:=by
 rw [← List.append_assoc]
 exact cs_app (by omega) (by simp;omega)
set_option maxRecDepth 100000 in
set_option maxHeartbeats 3200000 in
theorem stable_any (w0 W:World) (base g n c:Nat) (d:List MP) (h:SortW w0 base g n c d W) (hn:n≤1099511627776) :
  Calls Tryz.prog 187 #[.slice (some ⟨g,0,none⟩) n c,.int .i64 n,.func (.func 185) #[] #[]] W fun e w' =>
   e=.returned (.tuple #[])∧SortW w0 base g n c (stab mw d) w':=by
 have HN:=Lib.hid h.len
 have HS:=Lib.hid h
 have HINS:=Lib.hid (fun (W:World) (P S R:List MP) (a b:Int) (h:SortW w0 base g n c (P ++ S ++ R) W) (ha:a=(P.length:Int)) (hb:b=((P.length+S.length:Nat):Int))=>(show Calls Tryz.prog 189 #[.slice (some ⟨g,0,none⟩) n c,.int .i64 a,.int .i64 b,.func (.func 185) #[] #[]] W fun e w'=>e=.returned (.tuple #[])∧SortW w0 base g n c (P ++ stab (fun x:MP=>x.2.w) S ++ R) w' by subst ha hb;exact insertion_any w0 W base g n c P S R h hn _ _ rfl rfl))
 clear h
 go_enter Tryz.func187,Tryz.ntmps187
 go_wp2
 go_loopw [7,8] (fun va vb wr=>∃ (a:Nat) (M V:List MP),va=.int .i64 a∧vb=.int .i64 ((a:Int)+20)∧a≤n∧Hid (M.length=a)∧Hid (a+V.length=n)∧Hid (M ++ cs 20 V=cs 20 d)∧Hid (SortW w0 base g n c (M ++ V) wr))
  (fun va _ _=>n - (intOf va).toNat)
 case atStart=>exact ⟨0,[],d,rfl,rfl,Nat.zero_le _,rfl,(show _=_ by have:=HN.out;omega),rfl,HS⟩
 case round =>
  clear HS
  obtain ⟨a,M,V,rfl,rfl,han,HM,HV,HC,HS⟩:=hrel
  by_cases hlt:(a:Int)+20≤n
  ·have hVl:20≤V.length:=by have:=HV.out;omega
   have HX:=Lib.hid (HINS.out wr M (V.take 20) (V.drop 20) (a:Int) ((a:Int)+20) (HS.out.same (by simp)) (by rw [HM.out]) (by rw [HM.out];simp;omega))
   go_wp2_with (go_at_call 189;(with_reducible refine HX.out.mono ?_);go_must (rintro e w1 ⟨rfl,hS1⟩;have HS1:=Lib.hid hS1;clear hS1))
   go_roundw
   case rel =>
    refine ⟨a+20,M ++ stab mw (V.take 20),V.drop 20,by go_num,by first | go_num | (congr 1;omega),by omega,(show _=_ by rw [List.length_append,stab_len,HM.out];simp;omega),(show _=_ by have:=HV.out;simp;omega),?_,HS1⟩
    show _=_
    rw [← HC.out,List.append_assoc,← cs_app (by omega) (by simp;omega),List.take_append_drop]
   case measure=>simp [intOf];omega
  ·have HX:=Lib.hid (HINS.out wr M V [] (a:Int) (n:Int) (HS.out.same (by simp)) (by rw [HM.out]) (by rw [HM.out,HV.out]))
   have HD:Hid (M ++ stab mw V ++ []=cs 20 d):=(show _=_ by rw [← HC.out,cs_small (by have:=HV.out;omega),List.append_nil])
   clear HC HS HINS HM HV
   go_wp2_with (go_at_call 189;(with_reducible refine HX.out.mono ?_);go_must (rintro e w1 ⟨rfl,hS1⟩;have HS1:=Lib.hid (hS1.same HD.out);clear hS1))
   clear HD HX
   go_loopw [6,7,8,9] (fun vs va vb vm wr=>∃ (bs:Nat),vs=.int .i64 bs∧20≤bs∧bs≤2 * n+20∧Hid (SortW w0 base g n c (cs bs d) wr))
    (fun vs _ _ _ _=>n - (intOf vs).toNat)
   case atStart=>exact ⟨20,rfl,by omega,by omega,HS1⟩
   case round =>
    clear HS1
    obtain ⟨bs,rfl,hb1,hb2,HS⟩:=hrel
    by_cases hlt:bs < n
    ·obtain ⟨wo,rfl⟩:∃ wo:World,wo=wr:=⟨_,rfl⟩
     go_wp2_with fail
     go_loopw [7,8] (fun va vb wr=>∃ (a:Nat) (M V:List MP),va=.int .i64 a∧vb=.int .i64 ((a:Int)+2 * bs)∧a≤n∧Hid (M.length=a)∧Hid (a+V.length=n)∧Hid (M ++ cs (2 * bs) V=cs (2 * bs) d)∧Hid (SortW w0 base g n c (M ++ cs bs V) wr))
      (fun va _ _=>n - (intOf va).toNat)
     case atStart=>exact ⟨0,[],d,rfl,by first | go_num | (congr 1;omega),Nat.zero_le _,rfl,(show _=_ by have:=HN.out;omega),rfl,HS⟩
     case round =>
      clear HS
      obtain ⟨a,M,V,rfl,rfl,han,HM,HV,HC,HS⟩:=hrel
      by_cases hlt2:(a:Int)+2 * bs≤n
      ·have hVl:2 * bs≤V.length:=by have:=HV.out;omega
       have l1:(V.take bs).length=bs:=by simp;omega
       have l2:((V.drop bs).take bs).length=bs:=by simp;omega
       have hV:V=V.take bs ++ ((V.drop bs).take bs ++ (V.drop bs).drop bs):=by rw [List.take_append_drop,List.take_append_drop]
       have l3:((V.drop bs).drop bs).length=V.length - 2 * bs:=by simp;omega
       generalize V.take bs=V1 at *
       generalize (V.drop bs).take bs=V2 at *
       generalize (V.drop bs).drop bs=V3 at *
       subst hV
       have hS:SortW w0 base g n c (M ++ (stab mw V1 ++ (stab mw V2 ++ cs bs V3))) wr:=HS.out.same (by rw [cs_app (by omega) l1,cs_app (by omega) l2])
       have HX:=Lib.hid (sym_any w0 base g n c hn _ wr M (stab mw V1) (stab mw V2) (cs bs V3) (a:Int) ((a:Int)+bs) ((a:Int)+2 * bs) rfl hS (by rw [HM.out]) (by rw [stab_len];omega) (by rw [stab_len];omega) (by rw [stab_len];omega) (by rw [stab_len];omega) (stab_srt _) (stab_srt _))
       have L1:=Lib.hid l1
       have L2:=Lib.hid l2
       have L3:=Lib.hid l3
       clear hS HS l1 l2 l3
       go_wp2_with (go_at_call 190;(with_reducible refine HX.out.mono ?_);go_must (rintro e w1 ⟨rfl,hS1⟩;have HS1:=Lib.hid hS1;clear hS1))
       go_roundw
       case rel =>
        refine ⟨a+2 * bs,M ++ stab mw (V1 ++ V2),V3,by go_num,by first | go_num | (congr 1;omega),by omega,(show _=_ by rw [List.length_append,stab_len,HM.out,List.length_append,L1.out,L2.out];omega),(show _=_ by have:=HV.out;have:=L1.out;have:=L2.out;simp at *;omega),?_,HS1.out.same ?_⟩
        ·show _=_
         rw [← HC.out,cs_two (by omega) L1.out L2.out,List.append_assoc]
        ·rw [stab_stab,List.append_assoc]
       case measure=>simp [intOf];omega
      ·by_cases hlt3:(a:Int)+bs < n
       ·have hVl:bs < V.length:=by have:=HV.out;omega
        have hVm:V.length≤2 * bs:=by have:=HV.out;omega
        have l1:(V.take bs).length=bs:=by simp;omega
        have hV:V=V.take bs ++ V.drop bs:=by rw [List.take_append_drop]
        have l3:(V.drop bs).length=V.length - bs:=by simp
        have hVV:cs (2 * bs) V=stab mw V:=cs_small hVm
        generalize V.take bs=V1 at *
        generalize V.drop bs=V2 at *
        have hVn:=HV.out
        subst hV
        have hS:SortW w0 base g n c (M ++ (stab mw V1 ++ (stab mw V2 ++ []))) wr:=HS.out.same (by rw [cs_app (by omega) l1,cs_small (l:=V2) (by omega),List.append_nil])
        have HX:=Lib.hid (sym_any w0 base g n c hn _ wr M (stab mw V1) (stab mw V2) [] (a:Int) ((a:Int)+bs) (n:Int) rfl hS (by rw [HM.out]) (by rw [stab_len];omega) (by rw [stab_len];omega) (by rw [stab_len];omega) (by rw [stab_len];omega) (stab_srt _) (stab_srt _))
        have HE:Hid (M ++ (stab mw (stab mw V1 ++ stab mw V2) ++ [])=cs (2 * bs) d):=(show _=_ by rw [← HC.out,hVV,stab_stab,List.append_nil])
        clear hS HS l1 l3 hVV hVn
        go_wp2_with (go_at_call 190;(with_reducible refine HX.out.mono ?_);go_must (rintro e w1 ⟨rfl,hS1⟩;have HS1:=Lib.hid (hS1.same HE.out);clear hS1))
        go_roundw
        case rel=>exact ⟨2 * bs,by first | go_num | (congr 1;omega),by omega,by omega,HS1⟩
        case measure=>simp [intOf];omega
       ·have hVm:V.length≤bs:=by have:=HV.out;omega
        have HE:Hid (M ++ cs bs V=cs (2 * bs) d):=(show _=_ by rw [← HC.out,cs_small hVm,cs_small (by omega)])
        clear hVm
        go_wp2_with fail
        go_roundw
        case rel=>exact ⟨2 * bs,by first | go_num | (congr 1;omega),by omega,by omega,HS.out.same HE.out⟩
        case measure=>simp [intOf];omega
    ·go_wp2_with fail
     go_end0
     exact ⟨rfl,HS.out.same (by rw [cs_small];have:=HN.out;omega)⟩
theorem sort_any (w0 W:World) (base g n c:Nat) (d:List MP) (h:SortW w0 base g n c d W) (hn:n≤1099511627776) :
  Calls Tryz.prog 184 #[.slice (some ⟨g,0,none⟩) n c,.func (.func 185) #[] #[]] W fun e w' =>
   e=.returned (.tuple #[])∧SortW w0 base g n c (stab mw d) w':=by
 have HC:=Lib.hid (stable_any w0 W base g n c d h hn)
 clear h
 go_enter Tryz.func184,Tryz.ntmps184
 go_wp2_with (go_at_call 187;(with_reducible refine HC.out.mono ?_);go_must (rintro e w1 ⟨rfl,hS1⟩))
 go_end0
 exact ⟨rfl,hS1⟩
theorem insertion_nil (f:Value) (W:World) :
  Calls Tryz.prog 189 #[.slice none 0 0,.int .i64 0,.int .i64 0,f] W fun e w'=>e=.returned (.tuple #[])∧W=w':=by
 go_enter Tryz.func189,Tryz.ntmps189
 go_wp2
 refine wp_loop_rounds 1 ?_
 rw [rounds_succ]
 go_wp2
 go_end0
 exact ⟨rfl,rfl⟩
theorem stable_nil (f:Value) (W:World) :
  Calls Tryz.prog 187 #[.slice none 0 0,.int .i64 0,f] W fun e w'=>e=.returned (.tuple #[])∧W=w':=by
 go_enter Tryz.func187,Tryz.ntmps187
 go_wp2
 refine wp_loop_rounds 1 ?_
 rw [rounds_succ]
 go_wp2_with (go_at_call 189;(with_reducible refine (insertion_nil _ _).mono ?_);go_must (rintro e w1 ⟨rfl,rfl⟩))
 refine wp_loop_rounds 1 ?_
 rw [rounds_succ]
 go_wp2
 go_end0
 exact ⟨rfl,rfl⟩
theorem sort_nil (f:Value) (W:World) :
  Calls Tryz.prog 184 #[.slice none 0 0,f] W fun e w'=>e=.returned (.tuple #[])∧W=w':=by
 go_enter Tryz.func184,Tryz.ntmps184
 go_wp2_with (go_at_call 187;(with_reducible refine (stable_nil _ _).mono ?_);go_must (rintro e w1 ⟨rfl,rfl⟩))
 go_end0
 exact ⟨rfl,rfl⟩
end Go.Proofs.YtebbdifhiihfkaaGreatDoor

