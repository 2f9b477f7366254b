/- Numbers written are read: plain lists. -/
import Derived.Test.YtlhhhoolnojegaaNum5
namespace Go.Proofs.Ytlhhhoolnojegaa
set_option linter.all false
open Go.RowKit

theorem leB_succ (n w : Nat) : leB n (w + 1) = UInt8.ofNat n :: leB (n / 256) w := by
  unfold leB
  rw [List.range_succ_eq_map, List.map_cons, List.map_map]
  congr 1
  · simp
  · apply List.map_congr_left
    intro i _
    show UInt8.ofNat (n / 2 ^ (8 * (i + 1))) = UInt8.ofNat (n / 256 / 2 ^ (8 * i))
    rw [Nat.div_div_eq_div_mul, show 8 * (i + 1) = 8 + 8 * i by omega, Nat.pow_add]

theorem leB_leV : ∀ l : List UInt8, leB (leV l) l.length = l
  | [] => rfl
  | x :: l => by
    rw [List.length_cons, leB_succ]
    have hx := x.toNat_lt
    have h1 : leV (x :: l) / 256 = leV l := by simp only [leV]; omega
    have h2 : UInt8.ofNat (leV (x :: l)) = x := by
      apply UInt8.toNat_inj.1
      rw [UInt8.toNat_ofNat']
      simp only [leV]
      omega
    rw [h1, h2, leB_leV l]

theorem leV_leB : ∀ (w n : Nat), n < 256 ^ w → leV (leB n w) = n
  | 0, n, h => by simp at h; subst h; rfl
  | w + 1, n, h => by
    rw [leB_succ]
    simp only [leV]
    rw [leV_leB w (n / 256) (by rw [Nat.pow_succ] at h; omega), UInt8.toNat_ofNat']
    omega

theorem beV_append (a : List UInt8) (x : UInt8) : beV (a ++ [x]) = beV a * 256 + x.toNat := by simp [beV, List.foldl_append]
theorem beV_rev (l : List UInt8) : beV l = leV l.reverse := by
  revert l
  apply snoc_ind
  · rfl
  · intro l x ih
    rw [beV_append, List.reverse_append, ih]
    simp [leV]
    omega
theorem beB_beV (l : List UInt8) : beB (beV l) l.length = l := by
  have h := leB_leV l.reverse
  unfold beB
  rw [beV_rev]
  rw [List.length_reverse] at h
  rw [h, List.reverse_reverse]
theorem beV_beB (w n : Nat) (h : n < 256 ^ w) : beV (beB n w) = n := by
  rw [beV_rev, beB, List.reverse_reverse, leV_leB w n h]

theorem pow_256 (w : Nat) : 256 ^ w = 2 ^ (8 * w) := by rw [show (256 : Nat) = 2 ^ 8 by rfl, ← Nat.pow_mul]

theorem numOk_of {n W : Nat} (h1 : 1 ≤ W) (h2 : W ≤ 6) (h : n < 256 ^ W) : numOk n W := by
  refine ⟨by omega, by omega, by omega, ?_⟩
  rw [Int.toNat_natCast]
  have : n / 2 ^ (8 * W) = 0 := Nat.div_eq_of_lt (by rw [← pow_256]; exact h)
  have e : ((n : Int) / 2 ^ (8 * W)) = ((n / 2 ^ (8 * W) : Nat) : Int) := by simp
  rw [e, this]
  simp

theorem beR_of (l : List UInt8) (h1 : 1 ≤ l.length) (h2 : l.length ≤ 6) : beR (beV l) l.length = (l, 0) := by
  unfold beR
  rw [if_pos (numOk_of h1 h2 (by have := beV_lt l l.length (Nat.le_refl _); rwa [List.take_length] at this))]
  rw [Int.toNat_natCast, Int.toNat_natCast, beB_beV]
theorem leR_of (l : List UInt8) (h1 : 1 ≤ l.length) (h2 : l.length ≤ 6) : leR (leV l) l.length = (l, 0) := by
  unfold leR
  rw [if_pos (numOk_of h1 h2 (leV_lt l))]
  rw [Int.toNat_natCast, Int.toNat_natCast, leB_leV]
theorem beR_past (W : Nat) (n : Int) (hn : n = 2 ^ (8 * W)) : beR n W = ([], 1) := by
  unfold beR
  rw [if_neg]
  rintro ⟨_, _, _, h⟩
  rw [Int.toNat_natCast, hn, Int.ediv_self (by have : (0 : Int) < 2 ^ (8 * W) := Int.pow_pos (by omega); omega)] at h
  omega

theorem pow_wrap {W : Nat} (h : W ≤ 6) : wrap64 (2 ^ (8 * W)) = 2 ^ (8 * W) := by
  have h1 : ∀ W : Nat, W ≤ 6 → (0 : Int) ≤ 2 ^ (8 * W) ∧ (2 : Int) ^ (8 * W) ≤ 281474976710656 := by
    intro W hW
    match W, hW with
    | 0, _ => decide
    | 1, _ => decide
    | 2, _ => decide
    | 3, _ => decide
    | 4, _ => decide
    | 5, _ => decide
    | 6, _ => decide
  have := h1 W h
  exact wrap64_id _ (by omega) (by omega)

theorem div_zero_of {n W : Nat} (h : n < 256 ^ W) : (n : Int) / 2 ^ (8 * W) = 0 := by
  have : n / 2 ^ (8 * W) = 0 := Nat.div_eq_of_lt (by rw [← pow_256]; exact h)
  have e : ((n : Int) / 2 ^ (8 * W)) = ((n / 2 ^ (8 * W) : Nat) : Int) := by simp
  rw [e, this]
  rfl

end Go.Proofs.Ytlhhhoolnojegaa
