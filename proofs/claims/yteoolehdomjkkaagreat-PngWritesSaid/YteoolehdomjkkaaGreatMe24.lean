/- XFl3 XFl4 -/
import Derived.Test.YteoolehdomjkkaaGreatMe23
import Derived.Test.YteoolehdomjkkaaGreatMe05
namespace Go.Proofs.YteoolehdomjkkaaGreat
set_option linter.all false
open Go.RowKit
abbrev Sgn:=Nat × Nat × Nat
def zTail (n:Nat):List Sgn:=if 3≤n then [(17,n - 3,3)] else List.replicate n (0,0,0)
def zerosF:Nat→Nat→List Sgn
 | 0,n=>zTail n
 | f+1,n=>if 11≤n then (18,min n 138 - 11,7) :: zerosF f (n - min n 138) else zTail n
/-- Lengths of 0. -/
def zerosP (n:Nat):List Sgn:=zerosF n n
def othersF (x:Nat):Nat→Nat→List Sgn
 | 0,n=>List.replicate n (x,0,0)
 | f+1,n=>if 3≤n then (16,min n 6 - 3,2) :: othersF x f (n - min n 6) else List.replicate n (x,0,0)
/-- Lengths above 0. -/
def othersP (x n:Nat):List Sgn:=(x,0,0) :: othersF x (n - 1) (n - 1)
theorem zerosF_big {f n:Nat} (h:11≤n):zerosF (f+1) n=(18,min n 138 - 11,7) :: zerosF f (n - min n 138):=if_pos h
theorem zerosF_small {f n:Nat} (h:¬ 11≤n):zerosF f n=zTail n:=by
 cases f with
 | zero=>rfl
 | succ f=>exact if_neg h
theorem othersF_big {x f n:Nat} (h:3≤n):othersF x (f+1) n=(16,min n 6 - 3,2) :: othersF x f (n - min n 6):=if_pos h
theorem othersF_small {x f n:Nat} (h:¬ 3≤n):othersF x f n=List.replicate n (x,0,0):=by
 cases f with
 | zero=>rfl
 | succ f=>exact if_neg h
theorem replG_snoc (k:Nat) (x:Sgn):List.replicate (k+1) x=List.replicate k x ++ [x]:=List.replicate_succ'
set_option maxRecDepth 100000 in
set_option maxHeartbeats 3200000 in
theorem zeros_any (base n:Nat) (v:Value) (l:List Sgn) (w:World) (h:ownG w base v l) (hbase:base≤w.heap.size) (hl:l.length≤1000000) (hn:n≤1000) :
  Calls Tryz.prog 160 #[v,.int .i64 (n:Int)] w fun e w'=>∃ v',e=.returned v'∧ownG w' base v' (l ++ zerosP n)∧Below base w w':=by
 have HO0:Hid (ownG w base v (l ++ [])):=(show ownG _ _ _ _ by rw [List.append_nil];exact h)
 have HB0:=Lib.hid (Below.refl base w)
 obtain ⟨A0,c0,rfl,-⟩:=h.form
 clear h
 go_enter Tryz.func160,Tryz.ntmps160
 go_wp2_with fail
 go_loopw [1,0] (fun vi vl wr=>∃ (m f:Nat) (D:List Sgn),vi=.int .i64 m∧m≤f∧D.length+m≤n∧Hid (D ++ zerosF f m=zerosP n)∧Hid (ownG wr base vl (l ++ D))∧Hid (Below base w wr)) (fun vi _ _=>(intOf vi).toNat)
 case atStart=>exact ⟨n,n,[],rfl,Nat.le_refl _,by simp,(show _=_ from rfl),HO0,HB0⟩
 case round =>
  clear HO0 HB0
  obtain ⟨m,f,D,rfl,hmf,hDn,HE,HO,HB⟩:=hrel
  obtain ⟨Av,nv,rfl,-⟩:=HO.out.form
  have hlD:(l ++ D).length=l.length+D.length:=List.length_append
  by_cases hbig:11≤m
  ·have hbi:(11:Int)≤(m:Int):=by omega
   obtain ⟨g,rfl⟩:∃ g,f=g+1:=⟨f - 1,by omega⟩
   by_cases h1:¬ 138 < m
   ·have h1i:¬ (138:Int) < (m:Int):=by omega
    have HE2:Hid ((D ++ [(18,m - 11,7)]) ++ zerosF g 0=zerosP n):=(show _=_ by have:=HE.out;rw [zerosF_big hbig,Nat.min_eq_left (by omega),Nat.sub_self] at this;rw [List.append_assoc];exact this)
    have HAS:Hid ((l ++ D) ++ [(18,m - 11,7)]=l ++ (D ++ [(18,m - 11,7)])):=(show _=_ from List.append_assoc _ _ _)
    obtain ⟨q,hq⟩:∃ q,m - 11=q:=⟨_,rfl⟩
    have hqi:(m:Int) - 11=(q:Int):=by omega
    have hmm:(m:Int) - (m:Int)=0:=by omega
    rw [hq] at HE2 HAS
    go_wp2_with (at_builtin;go_must (refine wpList_appendG rfl (.tmp 10) (.tmp 14) rfl base _ _ rfl (ownG.alloc HO.out _) _ 1 1 _ [(18,q,7)] rfl (rd_oneG _ (18,q,7) _ _) (by simp at *;omega) (by have:=HB.out.size;simp;omega) ?_;intro v8 w8 ho8 hg8 hb8 hat8;have HB8:=Lib.hid ((HB.out.alloc (by have:=HB.out.size;omega) _).trans hb8);have HO8:Hid (ownG w8 base v8 (l ++ (D ++ [(18,q,7)]))):=(show ownG _ _ _ _ from by rw [← HAS.out];exact ho8);clear ho8 hg8 hb8 hat8))
    go_roundw
    case rel=>exact ⟨0,g,D ++ [(18,q,7)],rfl,Nat.zero_le _,(by rw [List.length_append];simp;omega),HE2,HO8,HB8⟩
    case measure=>simp [intOf];omega
   ·have h1i:(138:Int) < (m:Int):=by omega
    have HE2:Hid ((D ++ [(18,127,7)]) ++ zerosF g (m - 138)=zerosP n):=(show _=_ by have:=HE.out;rw [zerosF_big hbig,Nat.min_eq_right (by omega)] at this;rw [List.append_assoc];exact this)
    have HAS:Hid ((l ++ D) ++ [(18,127,7)]=l ++ (D ++ [(18,127,7)])):=(show _=_ from List.append_assoc _ _ _)
    have hmm:(m:Int) - 138=((m - 138:Nat):Int):=by omega
    go_wp2_with (at_builtin;go_must (refine wpList_appendG rfl (.tmp 10) (.tmp 14) rfl base _ _ rfl (ownG.alloc HO.out _) _ 1 1 _ [(18,127,7)] rfl (rd_oneG _ (18,127,7) _ _) (by simp at *;omega) (by have:=HB.out.size;simp;omega) ?_;intro v8 w8 ho8 hg8 hb8 hat8;have HB8:=Lib.hid ((HB.out.alloc (by have:=HB.out.size;omega) _).trans hb8);have HO8:Hid (ownG w8 base v8 (l ++ (D ++ [(18,127,7)]))):=(show ownG _ _ _ _ from by rw [← HAS.out];exact ho8);clear ho8 hg8 hb8 hat8))
    go_roundw
    case rel=>exact ⟨m - 138,g,D ++ [(18,127,7)],by rw [← hmm],by omega,(by rw [List.length_append];simp;omega),HE2,HO8,HB8⟩
    case measure=>simp [intOf];omega
  ·have hbi:¬ (11:Int)≤(m:Int):=by omega
   have HE3:=Lib.hid HE.out
   rw [zerosF_small hbig] at HE3
   obtain ⟨wo,rfl⟩:∃ wo:World,wo=wr:=⟨_,rfl⟩
   by_cases h3:3≤m
   ·have h3i:(3:Int)≤(m:Int):=by omega
    obtain ⟨q,hq⟩:∃ q,m - 3=q:=⟨_,rfl⟩
    have hqi:(m:Int) - 3=(q:Int):=by omega
    have HE4:Hid ((l ++ D) ++ [(17,q,3)]=l ++ zerosP n):=(show _=_ by rw [← HE3.out];unfold zTail;rw [if_pos h3,hq,List.append_assoc])
    go_wp2_with (at_builtin;go_must (refine wpList_appendG rfl (.tmp 21) (.tmp 25) rfl base _ _ rfl (ownG.alloc HO.out _) _ 1 1 _ [(17,q,3)] rfl (rd_oneG _ (17,q,3) _ _) (by simp at *;omega) (by have:=HB.out.size;simp;omega) ?_;intro v8 w8 ho8 hg8 hb8 hat8;have HB8:=Lib.hid ((HB.out.alloc (by have:=HB.out.size;omega) _).trans hb8);have HO8:Hid (ownG w8 base v8 (l ++ zerosP n)):=(show ownG _ _ _ _ from by rw [← HE4.out];exact ho8);clear ho8 hg8 hb8 hat8))
    go_ret
    exact ⟨_,rfl,HO8.out,HB8.out⟩
   ·have h3i:¬ (3:Int)≤(m:Int):=by omega
    have HE4:Hid (D ++ List.replicate m (0,0,0)=zerosP n):=(show _=_ by rw [← HE3.out];unfold zTail;rw [if_neg h3])
    have HE4:Hid ((l ++ D) ++ List.replicate m (0,0,0)=l ++ zerosP n):=(show _=_ by rw [List.append_assoc,HE4.out])
    have hlD2:(l ++ D).length≤1001000:=by omega
    clear hlD HE
    generalize l ++ D=L0 at *
    have HO1:Hid (ownG wo base (.slice Av L0.length nv) (L0 ++ List.replicate 0 (0,0,0))):=(show ownG _ _ _ _ by rw [List.replicate_zero,List.append_nil];exact HO.out)
    have HB1:=Lib.hid HB.out
    clear HO HB HE3
    go_wp2_with fail
    go_loopw [28,0] (fun vi vl wr=>∃ k:Nat,k≤m∧vi=.int .i64 k∧Hid (ownG wr base vl (L0 ++ List.replicate k (0,0,0)))∧Hid (Below base w wr)) (fun vi _ _=>m - (intOf vi).toNat)
    case atStart=>exact ⟨0,Nat.zero_le _,rfl,HO1,HB1⟩
    case round =>
     clear HO1 HB1
     obtain ⟨k,hk,rfl,HO,HB⟩:=hrel
     obtain ⟨Av,nv,rfl,-⟩:=HO.out.form
     by_cases hlt:k < m
     ·have HSN:Hid ((L0 ++ List.replicate k (0,0,0)) ++ [(0,0,0)]=L0 ++ List.replicate (k+1) (0,0,0)):=(show _=_ by rw [replG_snoc,List.append_assoc])
      have hln:(L0 ++ List.replicate k ((0,0,0):Sgn)).length≤2000000:=by rw [List.length_append,List.length_replicate];omega
      generalize L0 ++ List.replicate k ((0,0,0):Sgn)=L at *
      go_wp2_with (at_builtin;go_must (refine wpList_appendG rfl (.tmp 30) (.tmp 32) rfl base _ _ rfl (ownG.alloc HO.out _) _ 1 1 _ [(0,0,0)] rfl (rd_oneG _ (0,0,0) _ _) (by simp at *;omega) (by have:=HB.out.size;simp;omega) ?_;intro v8 w8 ho8 hg8 hb8 hat8;have HB8:=Lib.hid ((HB.out.alloc (by have:=HB.out.size;omega) _).trans hb8);have HO8:Hid (ownG w8 base v8 (L0 ++ List.replicate (k+1) (0,0,0))):=(show ownG _ _ _ _ from by rw [← HSN.out];exact ho8);clear ho8 hg8 hb8 hat8))
      go_roundw
      case rel=>exact ⟨k+1,by omega,by go_num,HO8,HB8⟩
      case measure=>simp [intOf];omega
     ·obtain rfl:k=m:=by omega
      have HF:Hid (L0 ++ List.replicate k (0,0,0)=l ++ zerosP n):=HE4
      go_wp2_with fail
      go_ret
      exact ⟨_,rfl,(by rw [← HF.out];exact HO.out),HB.out⟩
set_option maxRecDepth 100000 in
set_option maxHeartbeats 3200000 in
theorem others_any (base x n:Nat) (v:Value) (l:List Sgn) (w:World) (h:ownG w base v l) (hbase:base≤w.heap.size) (hl:l.length≤1000000) (hn:n≤1000) (hn1:1≤n) :
  Calls Tryz.prog 161 #[v,.int .i64 (x:Int),.int .i64 (n:Int)] w fun e w'=>∃ v',e=.returned v'∧ownG w' base v' (l ++ othersP x n)∧Below base w w':=by
 have HO:=Lib.hid h
 have HB:=Lib.hid (Below.refl base w)
 obtain ⟨A0,c0,rfl,-⟩:=h.form
 obtain ⟨P,hP⟩:∃ P,n - 1=P:=⟨_,rfl⟩
 have hn1i:(n:Int) - 1=(P:Int):=by omega
 clear h
 go_enter Tryz.func161,Tryz.ntmps161
 go_wp2_with (at_builtin;go_must (refine wpList_appendG rfl (.tmp 8) (.tmp 11) rfl base _ _ rfl (ownG.alloc HO.out _) _ 1 1 _ [(x,0,0)] rfl (rd_oneG _ (x,0,0) _ _) (by simp at *;omega) (by have:=HB.out.size;simp;omega) ?_;intro v8 w8 ho8 hg8 hb8 hat8;have HB8:=Lib.hid ((HB.out.alloc (by have:=HB.out.size;omega) _).trans hb8);have HO8:Hid (ownG w8 base v8 (l ++ [(x,0,0)])):=(show ownG _ _ _ _ from by rw [← (show l ++ [(x,0,0)]=l ++ [(x,0,0)] from rfl)];exact ho8);clear ho8 hg8 hb8 hat8))
 have HO0:=Lib.hid HO8.out
 have HB0:=Lib.hid HB8.out
 obtain ⟨A0,c0,rfl,-⟩:=HO8.out.form
 clear HO HB HO8 HB8
 obtain ⟨wo,rfl⟩:∃ wo:World,wo=w8:=⟨_,rfl⟩
 have hl1:(l ++ [((x,0,0):Sgn)]).length=l.length+1:=by simp
 rw [hl1] at HO0
 rw [hl1]
 go_loopw [2,0] (fun vi vl wr=>∃ (m f:Nat) (D:List Sgn),vi=.int .i64 m∧m≤f∧D.length+m≤n∧Hid (D ++ othersF x f m=othersP x n)∧Hid (ownG wr base vl (l ++ D))∧Hid (Below base w wr)) (fun vi _ _=>(intOf vi).toNat)
 case atStart=>exact ⟨P,P,[(x,0,0)],rfl,Nat.le_refl _,by simp;omega,(show _=_ by unfold othersP;rw [hP];rfl),HO0,HB0⟩
 case round =>
  clear HO0 HB0
  obtain ⟨m,f,D,rfl,hmf,hDn,HE,HO,HB⟩:=hrel
  obtain ⟨Av,nv,rfl,-⟩:=HO.out.form
  have hlD:(l ++ D).length=l.length+D.length:=List.length_append
  by_cases hbig:3≤m
  ·have hbi:(3:Int)≤(m:Int):=by omega
   obtain ⟨g,rfl⟩:∃ g,f=g+1:=⟨f - 1,by omega⟩
   by_cases h1:¬ 6 < m
   ·have h1i:¬ (6:Int) < (m:Int):=by omega
    have HE2:Hid ((D ++ [(16,m - 3,2)]) ++ othersF x g 0=othersP x n):=(show _=_ by have:=HE.out;rw [othersF_big hbig,Nat.min_eq_left (by omega),Nat.sub_self] at this;rw [List.append_assoc];exact this)
    have HAS:Hid ((l ++ D) ++ [(16,m - 3,2)]=l ++ (D ++ [(16,m - 3,2)])):=(show _=_ from List.append_assoc _ _ _)
    obtain ⟨q,hq⟩:∃ q,m - 3=q:=⟨_,rfl⟩
    have hqi:(m:Int) - 3=(q:Int):=by omega
    have hmm:(m:Int) - (m:Int)=0:=by omega
    rw [hq] at HE2 HAS
    go_wp2_with (at_builtin;go_must (refine wpList_appendG rfl (.tmp 19) (.tmp 23) rfl base _ _ rfl (ownG.alloc HO.out _) _ 1 1 _ [(16,q,2)] rfl (rd_oneG _ (16,q,2) _ _) (by simp at *;omega) (by have:=HB.out.size;simp;omega) ?_;intro v8 w8 ho8 hg8 hb8 hat8;have HB8:=Lib.hid ((HB.out.alloc (by have:=HB.out.size;omega) _).trans hb8);have HO8:Hid (ownG w8 base v8 (l ++ (D ++ [(16,q,2)]))):=(show ownG _ _ _ _ from by rw [← HAS.out];exact ho8);clear ho8 hg8 hb8 hat8))
    go_roundw
    case rel=>exact ⟨0,g,D ++ [(16,q,2)],rfl,Nat.zero_le _,(by rw [List.length_append];simp;omega),HE2,HO8,HB8⟩
    case measure=>simp [intOf];omega
   ·have h1i:(6:Int) < (m:Int):=by omega
    have HE2:Hid ((D ++ [(16,3,2)]) ++ othersF x g (m - 6)=othersP x n):=(show _=_ by have:=HE.out;rw [othersF_big hbig,Nat.min_eq_right (by omega)] at this;rw [List.append_assoc];exact this)
    have HAS:Hid ((l ++ D) ++ [(16,3,2)]=l ++ (D ++ [(16,3,2)])):=(show _=_ from List.append_assoc _ _ _)
    have hmm:(m:Int) - 6=((m - 6:Nat):Int):=by omega
    go_wp2_with (at_builtin;go_must (refine wpList_appendG rfl (.tmp 19) (.tmp 23) rfl base _ _ rfl (ownG.alloc HO.out _) _ 1 1 _ [(16,3,2)] rfl (rd_oneG _ (16,3,2) _ _) (by simp at *;omega) (by have:=HB.out.size;simp;omega) ?_;intro v8 w8 ho8 hg8 hb8 hat8;have HB8:=Lib.hid ((HB.out.alloc (by have:=HB.out.size;omega) _).trans hb8);have HO8:Hid (ownG w8 base v8 (l ++ (D ++ [(16,3,2)]))):=(show ownG _ _ _ _ from by rw [← HAS.out];exact ho8);clear ho8 hg8 hb8 hat8))
    go_roundw
    case rel=>exact ⟨m - 6,g,D ++ [(16,3,2)],by rw [← hmm],by omega,(by rw [List.length_append];simp;omega),HE2,HO8,HB8⟩
    case measure=>simp [intOf];omega
  ·have hbi:¬ (3:Int)≤(m:Int):=by omega
   have HE4:=Lib.hid HE.out
   rw [othersF_small hbig] at HE4
   obtain ⟨wo,rfl⟩:∃ wo:World,wo=wr:=⟨_,rfl⟩
   have HE4:Hid ((l ++ D) ++ List.replicate m (x,0,0)=l ++ othersP x n):=(show _=_ by rw [List.append_assoc,HE4.out])
   have hlD2:(l ++ D).length≤1001000:=by omega
   clear hlD HE
   generalize l ++ D=L0 at *
   have HO1:Hid (ownG wo base (.slice Av L0.length nv) (L0 ++ List.replicate 0 (x,0,0))):=(show ownG _ _ _ _ by rw [List.replicate_zero,List.append_nil];exact HO.out)
   have HB1:=Lib.hid HB.out
   clear HO HB
   go_wp2_with fail
   go_loopw [29,0] (fun vi vl wr=>∃ k:Nat,k≤m∧vi=.int .i64 k∧Hid (ownG wr base vl (L0 ++ List.replicate k (x,0,0)))∧Hid (Below base w wr)) (fun vi _ _=>m - (intOf vi).toNat)
   case atStart=>exact ⟨0,Nat.zero_le _,rfl,HO1,HB1⟩
   case round =>
    clear HO1 HB1
    obtain ⟨k,hk,rfl,HO,HB⟩:=hrel
    obtain ⟨Av,nv,rfl,-⟩:=HO.out.form
    by_cases hlt:k < m
    ·have HSN:Hid ((L0 ++ List.replicate k (x,0,0)) ++ [(x,0,0)]=L0 ++ List.replicate (k+1) (x,0,0)):=(show _=_ by rw [replG_snoc,List.append_assoc])
     have hln:(L0 ++ List.replicate k ((x,0,0):Sgn)).length≤2000000:=by rw [List.length_append,List.length_replicate];omega
     generalize L0 ++ List.replicate k ((x,0,0):Sgn)=L at *
     go_wp2_with (at_builtin;go_must (refine wpList_appendG rfl (.tmp 31) (.tmp 34) rfl base _ _ rfl (ownG.alloc HO.out _) _ 1 1 _ [(x,0,0)] rfl (rd_oneG _ (x,0,0) _ _) (by simp at *;omega) (by have:=HB.out.size;simp;omega) ?_;intro v8 w8 ho8 hg8 hb8 hat8;have HB8:=Lib.hid ((HB.out.alloc (by have:=HB.out.size;omega) _).trans hb8);have HO8:Hid (ownG w8 base v8 (L0 ++ List.replicate (k+1) (x,0,0))):=(show ownG _ _ _ _ from by rw [← HSN.out];exact ho8);clear ho8 hg8 hb8 hat8))
     go_roundw
     case rel=>exact ⟨k+1,by omega,by go_num,HO8,HB8⟩
     case measure=>simp [intOf];omega
    ·obtain rfl:k=m:=by omega
     have HF:Hid (L0 ++ List.replicate k (x,0,0)=l ++ othersP x n):=HE4
     go_wp2_with fail
     go_ret
     exact ⟨_,rfl,(by rw [← HF.out];exact HO.out),HB.out⟩
end Go.Proofs.YteoolehdomjkkaaGreat

/- flate: lists of lengths as runs. -/
namespace Go.Proofs.YteoolehdomjkkaaGreat
set_option linter.all false
open Go.RowKit
/-- How many of a list's first elements are x. -/
def same (x:Int):List Int→Nat
 | []=>0
 | y :: r=>if y=x then same x r+1 else 0
theorem same_le (x:Int):∀ l:List Int,same x l≤l.length
 | []=>Nat.le_refl _
 | y :: r=>by
  have:=same_le x r
  unfold same
  split
  ·simp;omega
  ·simp
def runsF:Nat→List Int→List Sgn
 | 0,_=>[]
 | _+1,[]=>[]
 | f+1,x :: r=>(if x=0 then zerosP (same x r+1) else othersP x.toNat (same x r+1)) ++ runsF f (r.drop (same x r))
/-- A list of lengths as runs. -/
def runsP (l:List Int):List Sgn:=runsF l.length l
theorem same_eq {x:Int} {l:List Int} {k:Nat} (hk:k≤l.length) (h1:∀ j,j < k→l[j]?=some x) (h2:l[k]? ≠ some x):same x l=k:=by
 induction l generalizing k with
 | nil=>simp at hk;subst hk;rfl
 | cons y r ih =>
  cases k with
  | zero =>
   have:¬ y=x:=fun e=>h2 (by simp [e])
   exact if_neg this
  | succ k =>
   have hy:y=x:=by have:=h1 0 (by omega);simpa using this
   have:same x r=k:=ih (by simp at hk;omega) (fun j hj=>by have:=h1 (j+1) (by omega);simpa using this) (by simpa using h2)
   show (if y=x then same x r+1 else 0)=k+1
   rw [if_pos hy,this]
theorem runsF_at {f:Nat} {l:List Int} {i:Nat} (hi:i < l.length):runsF (f+1) (l.drop i)=(if l[i]=0 then zerosP (same l[i] (l.drop (i+1))+1) else othersP l[i].toNat (same l[i] (l.drop (i+1))+1)) ++ runsF f (l.drop (i+1+same l[i] (l.drop (i+1)))):=by
 rw [List.drop_eq_getElem_cons hi]
 show _ ++ runsF f ((l.drop (i+1)).drop _)=_
 rw [List.drop_drop]
theorem runsF_end (f:Nat) {l:List Int} {i:Nat} (hi:l.length≤i):runsF f (l.drop i)=[]:=by
 rw [List.drop_eq_nil_of_le hi]
 cases f <;> rfl
theorem same_run {l:List Int} {i k:Nat} (hi:i < l.length) (hik:i < k) (hk:k≤l.length) (h1:∀ j,i≤j→j < k→l[j]?=some l[i]) (h2:l[k]? ≠ some l[i]):same l[i] (l.drop (i+1))=k - i - 1:=by
 refine same_eq (by rw [List.length_drop];omega) (fun j hj=>?_) ?_
 ·rw [List.getElem?_drop];exact h1 _ (by omega) (by omega)
 ·rw [List.getElem?_drop,show i+1+(k - i - 1)=k by omega];exact h2
theorem zTail_len (n:Nat):(zTail n).length≤n:=by
 unfold zTail
 split
 ·simp;omega
 ·simp
theorem zerosF_len:∀ f n:Nat,(zerosF f n).length≤n
 | 0,n=>zTail_len n
 | f+1,n=>by
  by_cases h:11≤n
  ·rw [zerosF_big h,List.length_cons]
   have:=zerosF_len f (n - min n 138)
   omega
  ·rw [zerosF_small h];exact zTail_len n
theorem othersF_len (x:Nat):∀ f n:Nat,(othersF x f n).length≤n
 | 0,n=>by rw [othersF];simp
 | f+1,n=>by
  by_cases h:3≤n
  ·rw [othersF_big h,List.length_cons]
   have:=othersF_len x f (n - min n 6)
   omega
  ·rw [othersF_small h];simp
theorem zerosP_len (n:Nat):(zerosP n).length≤n:=zerosF_len n n
theorem othersP_len (x n:Nat) (h:1≤n):(othersP x n).length≤n:=by
 have:=othersF_len x (n - 1) (n - 1)
 unfold othersP
 rw [List.length_cons]
 omega
theorem ne_opt {x y:Int} (h:¬ x=y):(some x:Option Int) ≠ some y:=fun e=>h (by injection e)
set_option maxRecDepth 100000 in
set_option maxHeartbeats 3200000 in
theorem runs_any (B n c:Nat) (A:Option Addr) (ls:List Int) (w:World) (h:RdI w B A n ls) (hB:B≤w.heap.size) (hn:n≤1000) (h0:∀ x ∈ ls,0≤x) :
  Calls Tryz.prog 111 #[.slice A n c] w fun e w'=>∃ v',e=.returned v'∧ownG w' w.heap.size v' (runsP ls)∧Below w.heap.size w w':=by
 have HR:=Lib.hid h
 have hl:=h.len
 have HP0:=Lib.hid h0
 have HO0:=Lib.hid (ownG.nil_ w w.heap.size)
 have HB0:=Lib.hid (Below.refl w.heap.size w)
 clear h h0
 go_enter Tryz.func111,Tryz.ntmps111
 go_wp2_with fail
 go_loopw [4,3] (fun vi vl wr=>∃ (i f:Nat) (D:List Sgn),i≤n∧vi=.int .i64 i∧n≤f+i∧D.length≤i∧Hid (D ++ runsF f (ls.drop i)=runsP ls)∧Hid (ownG wr w.heap.size vl D)∧Hid (Below w.heap.size w wr)) (fun vi _ _=>n - (intOf vi).toNat)
 case atStart=>exact ⟨0,n,[],Nat.zero_le _,rfl,Nat.le_refl _,Nat.le_refl _,(show _=_ by unfold runsP;rw [hl];rfl),HO0,HB0⟩
 case round =>
  clear HO0 HB0
  obtain ⟨i,f,D,hin,rfl,hf,hDi,HE,HO,HB1⟩:=hrel
  obtain ⟨Av,nv,rfl,-⟩:=HO.out.form
  obtain ⟨wo,rfl⟩:∃ wo:World,wo=wr:=⟨_,rfl⟩
  by_cases hlt:i < n
  ·have hlti:(i:Int) < (n:Int):=by omega
   obtain ⟨g,rfl⟩:∃ g,f=g+1:=⟨f - 1,by omega⟩
   have hil:i < ls.length:=by omega
   obtain ⟨b,o,x,rfl,hb,HX,e1⟩:=HR.out.one hlt
   have HXX:Hid (ls[i]=x):=(show _=_ by have:=HX.out;rw [List.getElem?_eq_getElem hil] at this;injection this)
   have HE2:=Lib.hid (HE.out)
   rw [runsF_at hil,HXX.out] at HE2
   have hx0:0≤x:=HP0.out x (List.mem_of_getElem? HX.out)
   have e1o:=(HB1.out.cell (p:=⟨b,o+i,none⟩) (by show b < _;omega)).trans e1
   have HW1:True:=trivial
   clear e1 HE
   go_wp2_with fail
   go_loopw [5] (fun vk wr=>∃ k:Nat,i≤k∧k≤n∧vk=.int .i64 k∧Hid (∀ j,i≤j→j < k→ls[j]?=some x)∧Hid (wr.heap=wo.heap)∧Hid (ownG wr w.heap.size (.slice Av D.length nv) D)∧Hid (Below w.heap.size w wr)) (fun vk _=>n - (intOf vk).toNat)
   case atStart=>exact ⟨i,Nat.le_refl _,hin,rfl,(show ∀ j,_ from fun j a b=>by omega),(show _=_ from rfl),HO,HB1⟩
   case round =>
    clear HO HB1 HW1
    obtain ⟨k,hik,hkn,rfl,HS,HW1,HO,HB1⟩:=hrel
    have ei:wr.cell? ⟨b,o+i,none⟩=some (.int .i64 x):=by rw [← e1o];unfold World.cell?;rw [HW1.out]
    by_cases hk:k < n
    ·have hki:(k:Int) < (n:Int):=by omega
     obtain ⟨b2,o2,y,hA2,hb2,HY,e2⟩:=HR.out.one hk
     injection hA2 with hA2
     injection hA2 with hA2 hA3
     subst hA2 hA3
     have ek:wr.cell? ⟨b,o+k,none⟩=some (.int .i64 y):=(HB1.out.cell (p:=⟨b,o+k,none⟩) (by show b < _;omega)).trans e2
     clear e2
     by_cases hxy:y=x
     ·subst hxy
      have d1:(y == y)=true:=beq_self_eq_true _
      have HS1:Hid (∀ j,i≤j→j < k+1→ls[j]?=some y):=(show ∀ j,_ from fun j a b=>by
       by_cases e:j=k
       ·rw [e];exact HY.out
       ·exact HS.out j a (by omega))
      go_wp2_with fail
      go_quiet (fail)
      go_wp2_with fail
      go_roundw
      case rel=>exact ⟨k+1,by omega,by omega,by go_num,HS1,(show _=_ from HW1.out),HO.out.drewN nq,bdrewN HB1.out _⟩
      case measure=>simp [intOf];omega
     ·have d1:(y == x)=false:=beq_eq_false_iff_ne.2 hxy
      have hik2:i < k:=by
       rcases Nat.lt_or_ge i k with e | e
       ·exact e
       ·obtain rfl:i=k:=by omega
        exact absurd (by have:=HY.out.symm.trans HX.out;injection this) hxy
      have HK:Hid (same x (ls.drop (i+1))=k - i - 1):=(show _=_ by
       have:=same_run (l:=ls) hil hik2 (by omega) (fun j a b=>by rw [HXX.out];exact HS.out j a b) (by rw [HXX.out,HY.out];exact ne_opt hxy)
       rwa [HXX.out] at this)
      have hms:(k:Int) - (i:Int)=((k - i:Nat):Int):=by omega
      obtain ⟨m,hm⟩:∃ m,k - i=m:=⟨_,rfl⟩
      have hm1:1≤m:=by omega
      have hsm:k - i - 1+1=m:=by omega
      have hdk:i+1+(k - i - 1)=k:=by omega
      rw [HK.out,hsm,hdk] at HE2
      rw [hm] at hms
      by_cases hx:x=0
      ·subst hx
       have hd0:((0:Int) == 0)=true:=rfl
       rw [if_pos rfl,← List.append_assoc] at HE2
       have HZ:=Lib.hid (fun q=>zeros_any w.heap.size m (.slice Av D.length nv) D (wr.drewN q) (HO.out.drewN q) HB1.out.size (by omega) (by omega))
       have HZ0:=Lib.hid (zeros_any w.heap.size m (.slice Av D.length nv) D wr HO.out HB1.out.size (by omega) (by omega))
       have hzl:=zerosP_len m
       generalize zerosP m=Z at *
       go_wp2_with fail
       go_quiet (fail)
       go_wp2_with ((go_at_call 160;(with_reducible refine (HZ.out _).mono ?_);go_must (rintro e w5 ⟨v5,rfl,ho5,hb5⟩;have HO5:=Lib.hid ho5;have HB5:=Lib.hid ((bdrewN HB1.out _).trans hb5);clear ho5 hb5)))
       go_roundw
       case rel=>exact ⟨k,g,D ++ Z,by omega,rfl,by omega,(by rw [List.length_append];omega),HE2,HO5,HB5⟩
       case measure=>simp [intOf];omega
      ·have hd0:(x == 0)=false:=beq_eq_false_iff_ne.2 hx
       rw [if_neg hx,← List.append_assoc] at HE2
       obtain ⟨X,rfl⟩:=Int.eq_ofNat_of_zero_le hx0
       have hXX:(X:Int).toNat=X:=rfl
       rw [hXX] at HE2
       have HZ:=Lib.hid (fun q=>others_any w.heap.size X m (.slice Av D.length nv) D (wr.drewN q) (HO.out.drewN q) HB1.out.size (by omega) (by omega) hm1)
       have HZ0:=Lib.hid (others_any w.heap.size X m (.slice Av D.length nv) D wr HO.out HB1.out.size (by omega) (by omega) hm1)
       have hzl:=othersP_len X m hm1
       generalize othersP X m=Z at *
       go_wp2_with fail
       go_quiet (fail)
       go_wp2_with ((go_at_call 161;(with_reducible refine (HZ.out _).mono ?_);go_must (rintro e w5 ⟨v5,rfl,ho5,hb5⟩;have HO5:=Lib.hid ho5;have HB5:=Lib.hid ((bdrewN HB1.out _).trans hb5);clear ho5 hb5)))
       go_roundw
       case rel=>exact ⟨k,g,D ++ Z,by omega,rfl,by omega,(by rw [List.length_append];omega),HE2,HO5,HB5⟩
       case measure=>simp [intOf];omega
    ·obtain rfl:k=n:=by omega
     have hki:¬ (k:Int) < (k:Int):=by omega
     have HK:Hid (same x (ls.drop (i+1))=k - i - 1):=(show _=_ by
      have:=same_run (l:=ls) hil hlt (by omega) (fun j a b=>by rw [HXX.out];exact HS.out j a b) (by rw [List.getElem?_eq_none (by omega)];simp)
      rwa [HXX.out] at this)
     have hms:(k:Int) - (i:Int)=((k - i:Nat):Int):=by omega
     obtain ⟨m,hm⟩:∃ m,k - i=m:=⟨_,rfl⟩
     have hm1:1≤m:=by omega
     have hsm:k - i - 1+1=m:=by omega
     have hdk:i+1+(k - i - 1)=k:=by omega
     rw [HK.out,hsm,hdk] at HE2
     rw [hm] at hms
     by_cases hx:x=0
     ·subst hx
      have hd0:((0:Int) == 0)=true:=rfl
      rw [if_pos rfl,← List.append_assoc] at HE2
      have HZ:=Lib.hid (fun q=>zeros_any w.heap.size m (.slice Av D.length nv) D (wr.drewN q) (HO.out.drewN q) HB1.out.size (by omega) (by omega))
      have HZ0:=Lib.hid (zeros_any w.heap.size m (.slice Av D.length nv) D wr HO.out HB1.out.size (by omega) (by omega))
      have hzl:=zerosP_len m
      generalize zerosP m=Z at *
      go_wp2_with fail
      go_quiet (fail)
      go_wp2_with ((go_at_call 160;(with_reducible refine (HZ.out _).mono ?_);go_must (rintro e w5 ⟨v5,rfl,ho5,hb5⟩;have HO5:=Lib.hid ho5;have HB5:=Lib.hid ((bdrewN HB1.out _).trans hb5);clear ho5 hb5)))
      go_roundw
      case rel=>exact ⟨k,g,D ++ Z,by omega,rfl,by omega,(by rw [List.length_append];omega),HE2,HO5,HB5⟩
      case measure=>simp [intOf];omega
     ·have hd0:(x == 0)=false:=beq_eq_false_iff_ne.2 hx
      rw [if_neg hx,← List.append_assoc] at HE2
      obtain ⟨X,rfl⟩:=Int.eq_ofNat_of_zero_le hx0
      have hXX:(X:Int).toNat=X:=rfl
      rw [hXX] at HE2
      have HZ:=Lib.hid (fun q=>others_any w.heap.size X m (.slice Av D.length nv) D (wr.drewN q) (HO.out.drewN q) HB1.out.size (by omega) (by omega) hm1)
      have HZ0:=Lib.hid (others_any w.heap.size X m (.slice Av D.length nv) D wr HO.out HB1.out.size (by omega) (by omega) hm1)
      have hzl:=othersP_len X m hm1
      generalize othersP X m=Z at *
      go_wp2_with fail
      go_quiet (fail)
      go_wp2_with ((go_at_call 161;(with_reducible refine (HZ.out _).mono ?_);go_must (rintro e w5 ⟨v5,rfl,ho5,hb5⟩;have HO5:=Lib.hid ho5;have HB5:=Lib.hid ((bdrewN HB1.out _).trans hb5);clear ho5 hb5)))
      go_roundw
      case rel=>exact ⟨k,g,D ++ Z,by omega,rfl,by omega,(by rw [List.length_append];omega),HE2,HO5,HB5⟩
      case measure=>simp [intOf];omega
  ·obtain rfl:i=n:=by omega
   have HF:Hid (D=runsP ls):=(show _=_ by have:=HE.out;rw [runsF_end _ (by omega),List.append_nil] at this;exact this)
   go_wp2_with fail
   go_ret
   exact ⟨_,rfl,(by rw [← HF.out];exact HO.out),HB1.out⟩
end Go.Proofs.YteoolehdomjkkaaGreat

