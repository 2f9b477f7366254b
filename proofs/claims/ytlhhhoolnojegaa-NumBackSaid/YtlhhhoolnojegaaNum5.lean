/- The contracts of num's four calls on numbers, each for every argument. -/
import Derived.Test.YtlhhhoolnojegaaNum1
import Derived.Test.YtlhhhoolnojegaaNum4
namespace Go.Proofs.Ytlhhhoolnojegaa
set_option linter.all false
open Go.RowKit

def numOk (n width : Int) : Prop := 1 ≤ width ∧ width ≤ 6 ∧ 0 ≤ n ∧ n / 2 ^ (8 * width.toNat) ≤ 0
instance (n width : Int) : Decidable (numOk n width) := by unfold numOk; infer_instance
def leR (n width : Int) : List UInt8 × Int := if numOk n width then (leB n.toNat width.toNat, 0) else ([], 1)
def beR (n width : Int) : List UInt8 × Int := if numOk n width then (beB n.toNat width.toNat, 0) else ([], 1)

theorem numBad {n width : Int} (h : ¬ numOk n width) : width < 1 ∨ 6 < width ∨ n < 0 ∨ (0 ≤ n ∧ 1 ≤ width ∧ width ≤ 6 ∧ 0 < n / 2 ^ (8 * width).toNat) := by
  unfold numOk at h
  by_cases h1 : width < 1
  · exact .inl h1
  by_cases h2 : 6 < width
  · exact .inr (.inl h2)
  by_cases h3 : n < 0
  · exact .inr (.inr (.inl h3))
  refine .inr (.inr (.inr ⟨by omega, by omega, by omega, ?_⟩))
  rw [show (8 * width).toNat = 8 * width.toNat by omega]
  omega

theorem little_any (n width : Int) (w : World) :
    Calls Try.prog 18 #[.int .i64 n, .int .i64 width] w fun e w' => ∃ v, e = .returned (.tuple #[v, .int .i64 (leR n width).2]) ∧ ownB w' w.heap.size v (leR n width).1 ∧ Below w.heap.size w w' := by
  unfold leR
  by_cases h : numOk n width
  · rw [if_pos h]
    obtain ⟨h1, h2, h3, h4⟩ := h
    obtain ⟨W, rfl⟩ := Int.eq_ofNat_of_zero_le (by omega : 0 ≤ width)
    rw [Int.toNat_natCast] at h4 ⊢
    exact little_ok n W w h3 (by omega) (by omega) (by simp; omega)
  · rw [if_neg h]
    refine (little_bad n width w (numBad h)).mono ?_
    rintro e w' ⟨rfl, rfl⟩
    exact ⟨_, rfl, ownB.nil_ _ _, Below.refl _ _⟩

theorem big_any (n width : Int) (w : World) :
    Calls Try.prog 16 #[.int .i64 n, .int .i64 width] w fun e w' => ∃ v, e = .returned (.tuple #[v, .int .i64 (beR n width).2]) ∧ ownB w' w.heap.size v (beR n width).1 ∧ Below w.heap.size w w' := by
  unfold beR
  by_cases h : numOk n width
  · rw [if_pos h]
    obtain ⟨h1, h2, h3, h4⟩ := h
    obtain ⟨W, rfl⟩ := Int.eq_ofNat_of_zero_le (by omega : 0 ≤ width)
    rw [Int.toNat_natCast] at h4 ⊢
    exact big_ok n W w h3 (by omega) (by omega) (by simp; omega)
  · rw [if_neg h]
    refine (big_bad n width w (numBad h)).mono ?_
    rintro e w' ⟨rfl, hb⟩
    exact ⟨_, rfl, ownB.nil_ _ _, hb⟩

/-- What a reading tells. -/
def rdR (f : List UInt8 → Nat) (bs : List UInt8) (k W : Int) : Int × Int :=
  if W < 1 ∨ 6 < W ∨ k < 0 ∨ (bs.length : Int) < k then (0, 1) else if (bs.length : Int) - k < W then (0, 2) else (f ((bs.drop k.toNat).take W.toNat), 0)

theorem readBig_any (B n c : Nat) (A : Option Addr) (bs : List UInt8) (k W : Int) (w : World) (h : RdB w B A n bs) (hc : n ≤ c) (hm : n ≤ 140737488355328) :
    Calls Try.prog 20 #[.slice A n c, .int .i64 k, .int .i64 W] w fun e w' => e = .returned (.tuple #[.int .i64 (rdR beV bs k W).1, .int .i64 (rdR beV bs k W).2]) ∧ w = w' := by
  have hl := h.len
  unfold rdR
  by_cases h1 : W < 1 ∨ 6 < W ∨ k < 0 ∨ (bs.length : Int) < k
  · rw [if_pos h1]
    exact readBig_err B n c A bs k W w 1 h (there_bad B n c A bs k W w h hm (by rw [← hl]; exact h1))
  · rw [if_neg h1]
    by_cases h2 : (bs.length : Int) - k < W
    · rw [if_pos h2]
      exact readBig_err B n c A bs k W w 2 h (there_short B n c A bs k W w h hm (by omega) (by omega) (by omega) (by omega) (by omega))
    · rw [if_neg h2]
      obtain ⟨k, rfl⟩ := Int.eq_ofNat_of_zero_le (by omega : 0 ≤ k)
      obtain ⟨W, rfl⟩ := Int.eq_ofNat_of_zero_le (by omega : 0 ≤ W)
      exact readBig_ok B n c A bs k W w h hc hm (by omega) (by omega) (by omega)

theorem readLittle_any (B n c : Nat) (A : Option Addr) (bs : List UInt8) (k W : Int) (w : World) (h : RdB w B A n bs) (hc : n ≤ c) (hm : n ≤ 140737488355328) :
    Calls Try.prog 22 #[.slice A n c, .int .i64 k, .int .i64 W] w fun e w' => e = .returned (.tuple #[.int .i64 (rdR leV bs k W).1, .int .i64 (rdR leV bs k W).2]) ∧ w = w' := by
  have hl := h.len
  unfold rdR
  by_cases h1 : W < 1 ∨ 6 < W ∨ k < 0 ∨ (bs.length : Int) < k
  · rw [if_pos h1]
    exact readLittle_err B n c A bs k W w 1 h (there_bad B n c A bs k W w h hm (by rw [← hl]; exact h1))
  · rw [if_neg h1]
    by_cases h2 : (bs.length : Int) - k < W
    · rw [if_pos h2]
      exact readLittle_err B n c A bs k W w 2 h (there_short B n c A bs k W w h hm (by omega) (by omega) (by omega) (by omega) (by omega))
    · rw [if_neg h2]
      obtain ⟨k, rfl⟩ := Int.eq_ofNat_of_zero_le (by omega : 0 ≤ k)
      obtain ⟨W, rfl⟩ := Int.eq_ofNat_of_zero_le (by omega : 0 ≤ W)
      exact readLittle_ok B n c A bs k W w h hc hm (by omega) (by omega) (by omega)

end Go.Proofs.Ytlhhhoolnojegaa
