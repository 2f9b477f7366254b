/- XFlP -/
import Derived.Test.YteoolehdomjkkaaGreatDoorMg01
namespace Go.Proofs.YteoolehdomjkkaaGreatDoor
set_option linter.all false
/-- A symbol's first number and how many more bits it has: of symbols in groups. -/
def grp (s per first:Nat):Nat × Nat:=if s < 2 * per then (first+s,0) else (first+(per+s % per) * 2 ^ (s / per - 1),s / per - 1)
def lenOf (s:Nat):Nat × Nat:=if s=28 then (258,0) else grp s 4 3
def distOf (s:Nat):Nat × Nat:=grp s 2 1
/-- The greatest symbol from k down that begins no later than x. -/
def scanS (f:Nat→Nat × Nat) (x:Nat):Nat→Nat
 | 0=>0
 | k+1=>if (f (k+1)).1≤x then k+1 else scanS f x k
def lenS (x:Nat):Nat:=scanS lenOf x 28
def distS (x:Nat):Nat:=scanS distOf x 29
theorem scanS_spec (f:Nat→Nat × Nat) (x:Nat) (h0:(f 0).1≤x):∀ k,scanS f x k≤k∧(f (scanS f x k)).1≤x∧∀ j,scanS f x k < j→j≤k→x < (f j).1
 | 0=>⟨Nat.le_refl _,h0,fun j h1 h2=>by have:scanS f x 0=0:=rfl;omega⟩
 | k+1=>by
  by_cases h:(f (k+1)).1≤x
  ·have e:scanS f x (k+1)=k+1:=if_pos h
   rw [e]
   exact ⟨Nat.le_refl _,h,fun j h1 h2=>by omega⟩
  ·have e:scanS f x (k+1)=scanS f x k:=if_neg h
   rw [e]
   obtain ⟨h1,h2,h3⟩:=scanS_spec f x h0 k
   refine ⟨by omega,h2,fun j hj hk=>?_⟩
   by_cases hj2:j≤k
   ·exact h3 j hj hj2
   ·obtain rfl:j=k+1:=by omega
    omega
/-- The fixed lengths. -/
def fixO (i:Nat):Int:=if i < 144 then 8 else if i < 256 then 9 else if i < 280 then 7 else 8
def fixL:List Int:=(List.range 288).map fixO
def fixD:List Int:=List.replicate 32 5
theorem fixL_snoc (k:Nat):(List.range (k+1)).map fixO=(List.range k).map fixO ++ [fixO k]:=by rw [List.range_succ,List.map_append];rfl
theorem lenS_spec {x:Nat} (h:3≤x):lenS x≤28∧(lenOf (lenS x)).1≤x∧∀ j,lenS x < j→j≤28→x < (lenOf j).1:=scanS_spec lenOf x h 28
theorem distS_spec {x:Nat} (h:1≤x):distS x≤29∧(distOf (distS x)).1≤x∧∀ j,distS x < j→j≤29→x < (distOf j).1:=scanS_spec distOf x h 29
theorem le28 {k:Nat} (h:k≤28):k=0∨k=1∨k=2∨k=3∨k=4∨k=5∨k=6∨k=7∨k=8∨k=9∨k=10∨k=11∨k=12∨k=13∨k=14∨k=15∨k=16∨k=17∨k=18∨k=19∨k=20∨k=21∨k=22∨k=23∨k=24∨k=25∨k=26∨k=27∨k=28:=by omega
/-- A symbol's interval decides it. -/
theorem scan_uniq {f:Nat→Nat × Nat} {x k s n:Nat} (hm:∀ i j,i < j→j≤n→(f i).1 < (f j).1) (h1:k≤n∧(f k).1≤x∧∀ j,k < j→j≤n→x < (f j).1) (h2:s≤n∧(f s).1≤x∧∀ j,s < j→j≤n→x < (f j).1):k=s:=by
 rcases Nat.lt_trichotomy k s with h | h | h
 ·have:=h1.2.2 s h h2.1;omega
 ·exact h
 ·have:=h2.2.2 k h h1.1;omega
theorem mono_of {f:Nat→Nat × Nat} {n:Nat} (h:∀ i,i < n→(f i).1 < (f (i+1)).1):∀ i j,i < j→j≤n→(f i).1 < (f j).1:=by
 intro i j hij hj
 induction j with
 | zero=>omega
 | succ j ih =>
  have h1:=h j (by omega)
  by_cases e:i=j
  ·rw [e];exact h1
  ·have:=ih (by omega) (by omega)
   omega
theorem len_mono:∀ i j,i < j→j≤28→(lenOf i).1 < (lenOf j).1:=mono_of (n:=28) (by decide)
theorem dist_mono:∀ i j,i < j→j≤29→(distOf i).1 < (distOf j).1:=mono_of (n:=29) (by decide)
end Go.Proofs.YteoolehdomjkkaaGreatDoor

