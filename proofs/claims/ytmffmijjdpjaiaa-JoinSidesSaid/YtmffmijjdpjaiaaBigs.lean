import Derived.Test.YtmffmijjdpjaiaaRef
import Derived.Test.YtmffmijjdpjaiaaNum1
set_option linter.all false
namespace Go.Proofs.Ytmffmijjdpjaiaa
open Go.RowKit

def beV (l : List UInt8) : Nat := l.foldl (fun n x => n * 256 + x.toNat) 0
theorem beV_step (l : List UInt8) (k : Nat) (h : k < l.length) : beV (l.take (k + 1)) = beV (l.take k) * 256 + l[k].toNat := by
  unfold beV
  rw [List.take_succ_eq_append_getElem h, List.foldl_append]
  rfl
theorem beV_lt (l : List UInt8) : ∀ k, k ≤ l.length → beV (l.take k) < 256 ^ k
  | 0, _ => by simp [beV]
  | k + 1, h => by
    rw [beV_step l k (by omega), Nat.pow_succ]
    have := beV_lt l k (by omega)
    have := l[k].toNat_lt
    omega
theorem beV_lt6 (l : List UInt8) (k : Nat) (h : k ≤ l.length) (hk : k ≤ 6) : beV (l.take k) < 281474976710656 :=
  Nat.lt_of_lt_of_le (beV_lt l k h) (Nat.le_trans (Nat.pow_le_pow_right (by omega) hk) (by omega))
theorem or_be (y x : Nat) (hy : y < 281474976710656) (hx : x < 256) : bits .or .i64 ((y : Int) * 256) (x : Int) = ((y * 256 + x : Nat) : Int) := by
  have := i64_or_nat (y * 256) x (by omega) (by omega)
  rw [nat_join 8 _ _ (by omega) (by omega)] at this
  rw [← this]
  simp

def numOk (n width : Int) : Prop := 1 ≤ width ∧ width ≤ 6 ∧ 0 ≤ n ∧ n / 2 ^ (8 * width.toNat) ≤ 0
instance (n width : Int) : Decidable (numOk n width) := by unfold numOk; infer_instance
def leR (n width : Int) : List UInt8 × Int := if numOk n width then (leB n.toNat width.toNat, 0) else ([], 1)
def beR (n width : Int) : List UInt8 × Int := if numOk n width then (beB n.toNat width.toNat, 0) else ([], 1)

theorem numBad {n width : Int} (h : ¬ numOk n width) : width < 1 ∨ 6 < width ∨ n < 0 ∨ (0 ≤ n ∧ 1 ≤ width ∧ width ≤ 6 ∧ 0 < n / 2 ^ (8 * width).toNat) := by
  unfold numOk at h
  by_cases h1 : width < 1
  · exact .inl h1
  by_cases h2 : 6 < width
  · exact .inr (.inl h2)
  by_cases h3 : n < 0
  · exact .inr (.inr (.inl h3))
  refine .inr (.inr (.inr ⟨by omega, by omega, by omega, ?_⟩))
  rw [show (8 * width).toNat = 8 * width.toNat by omega]
  omega

theorem big_any (n width : Int) (w : World) :
    Calls Try.prog 42 #[.int .i64 n, .int .i64 width] w fun e w' => ∃ v, e = .returned (.tuple #[v, .int .i64 (beR n width).2]) ∧ ownB w' w.heap.size v (beR n width).1 ∧ Below w.heap.size w w' := by
  unfold beR
  by_cases h : numOk n width
  · rw [if_pos h]
    obtain ⟨h1, h2, h3, h4⟩ := h
    obtain ⟨W, rfl⟩ := Int.eq_ofNat_of_zero_le (by omega : 0 ≤ width)
    rw [Int.toNat_natCast] at h4 ⊢
    exact big_ok n W w h3 (by omega) (by omega) (by simp; omega)
  · rw [if_neg h]
    refine (big_bad n width w (numBad h)).mono ?_
    rintro e w' ⟨rfl, hb⟩
    exact ⟨_, rfl, ownB.nil_ _ _, hb⟩

/-- What a reading tells. -/
def rdR (f : List UInt8 → Nat) (bs : List UInt8) (k W : Int) : Int × Int :=
  if W < 1 ∨ 6 < W ∨ k < 0 ∨ (bs.length : Int) < k then (0, 1) else if (bs.length : Int) - k < W then (0, 2) else (f ((bs.drop k.toNat).take W.toNat), 0)

end Go.Proofs.Ytmffmijjdpjaiaa
