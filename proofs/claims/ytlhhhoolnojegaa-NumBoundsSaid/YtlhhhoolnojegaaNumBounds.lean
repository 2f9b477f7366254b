/- The walk of NumBounds. -/
import Derived.Test.YtlhhhoolnojegaaNumFirst
import Derived.Test.YtlhhhoolnojegaaNumPure
namespace Go.Proofs.Ytlhhhoolnojegaa
set_option linter.all false
open Go.RowKit


set_option maxHeartbeats 1600000 in
set_option maxRecDepth 100000 in
theorem bounds_walk (n c : Nat) (A : Option Addr) (xs : List UInt8) (k W : Int) (w : World) (ha : RdB w w.heap.size A n xs) (hc : n ≤ c) (hk : -9223372036854775808 ≤ k ∧ k ≤ 9223372036854775807) :
    Calls Try.prog 7 #[.slice A n c, .int .i64 k, .int .i64 W] w fun e w' => e = .returned (.bool true) ∧ Below w.heap.size w w' := by
  have hB := Below.refl w.heap.size w
  by_cases h1 : 8000 < n
  · have d1 : decide (8000 < (n : Int)) = true := by simp; omega
    go_enter Try.func7, Try.ntmps7
    go_wp2_with (go_at_call 10; refine (first_any _).mono ?_; rintro e w1 ⟨rfl, hb1⟩; replace hB := bstep hB hb1 (Nat.le_refl _); clear hb1)
    all_goals (go_ret; exact ⟨rfl, hB⟩)

  have d1 : decide ((8000 : Int) < n) = false := by simp; omega
  have hn : n ≤ 8000 := by omega
  clear h1
  by_cases hE : (rdR beV xs k W = (0, 1) ∧ rdR leV xs k W = (0, 1)) ∨ (rdR beV xs k W = (0, 2) ∧ rdR leV xs k W = (0, 2))
  · rcases hE with ⟨hE, hE'⟩ | ⟨hE, hE'⟩
    all_goals
      have HE := Lib.hid hE
      have HE' := Lib.hid hE'
      clear hE hE'
      go_enter Try.func7, Try.ntmps7
      go_wp2_with (first
        | (go_at_call 10; go_must (refine (first_any _).mono ?_; rintro e w1 ⟨rfl, hb1⟩; replace hB := bstep hB hb1 (Nat.le_refl _); (try replace hx := hx.later hb1); (try replace hy := hy.later hb1); (try replace hz := hz.later hb1); clear hb1))
        | (go_at_call 20; go_must (refine (readBig_any _ _ _ _ xs k W _ (Rd.below ha hB) hc (by omega)).mono ?_; rintro e w1 ⟨rfl, rfl⟩; rw [HE.out]))
        | (go_at_call 22; go_must (refine (readLittle_any _ _ _ _ xs k W _ (Rd.below ha hB) hc (by omega)).mono ?_; rintro e w1 ⟨rfl, rfl⟩; rw [HE'.out])))
      go_ret
      exact ⟨rfl, hB⟩
  · have hl := ha.len
    have hr : ¬ (W < 1 ∨ 6 < W ∨ k < 0 ∨ (xs.length : Int) < k) := fun h => hE (.inl ⟨by unfold rdR; rw [if_pos h], by unfold rdR; rw [if_pos h]⟩)
    have hs : ¬ ((xs.length : Int) - k < W) := fun h => hE (.inr ⟨by unfold rdR; rw [if_neg hr, if_pos h], by unfold rdR; rw [if_neg hr, if_pos h]⟩)
    clear hE
    obtain ⟨k, rfl⟩ := Int.eq_ofNat_of_zero_le (by omega : 0 ≤ k)
    obtain ⟨W, rfl⟩ := Int.eq_ofNat_of_zero_le (by omega : 0 ≤ W)
    obtain ⟨l, hL⟩ : ∃ l, l = (xs.drop k).take W := ⟨_, rfl⟩
    have hll : l.length = W := by rw [hL]; simp; omega
    have E1 : rdR beV xs k W = ((beV l : Int), 0) := by unfold rdR; rw [if_neg hr, if_neg hs, Int.toNat_natCast, Int.toNat_natCast, ← hL]
    have E2 : rdR leV xs k W = ((leV l : Int), 0) := by unfold rdR; rw [if_neg hr, if_neg hs, Int.toNat_natCast, Int.toNat_natCast, ← hL]
    have E3 : rdR beV (xs.take (k + W - 1)) k W = (0, 2) := by
      unfold rdR
      have : (xs.take (k + W - 1)).length = k + W - 1 := by simp; omega
      rw [if_neg (by omega), if_pos (by omega)]
    have E4 : beR (beV l) W = (l, 0) := by rw [← hll]; exact beR_of l (by omega) (by omega)
    have E5 : leR (leV l) W = (l, 0) := by rw [← hll]; exact leR_of l (by omega) (by omega)
    have l1 : beV l < 256 ^ W := by have := beV_lt l l.length (Nat.le_refl _); rw [List.take_length, hll] at this; exact this
    have l2 : leV l < 256 ^ W := by have := leV_lt l; rw [hll] at this; exact this
    have D1 := div_zero_of l1
    have D2 := div_zero_of l2
    have hb1 : 1 ≤ W := by omega
    have hb2 : W ≤ 6 := by omega
    have hb3 : k + W ≤ n := by omega
    have E6 : beR (wrap64 (2 ^ (8 * W))) W = ([], 1) := beR_past W _ (pow_wrap (by omega))
    have HE6 := Lib.hid E6
    clear E6
    have HL := Lib.hid hL
    have HE1 := Lib.hid E1
    have HE2 := Lib.hid E2
    have HE3 := Lib.hid E3
    have HE4 := Lib.hid E4
    have HE5 := Lib.hid E5
    have d2 : decide ((W : Int) < 1) = false := by simp; omega
    have d3 : decide (6 < (W : Int)) = false := by simp; omega
    have d4 : decide ((n : Int) - W < k) = false := by simp; omega
    have d5 : decide ((k : Int) < 0) = false := by simp
    clear hL E1 E2 E3 E4 E5 l1 l2 hr hs hl hll hk
    go_enter Try.func7, Try.ntmps7
    go_wp2_with (first
      | (go_at_call 10; go_must (refine (first_any _).mono ?_; rintro e w1 ⟨rfl, hb1⟩; replace hB := bstep hB hb1 (Nat.le_refl _); (try replace hx := hx.later hb1); (try replace hy := hy.later hb1); (try replace hz := hz.later hb1); clear hb1))
      | (go_at_call_of 20 (Value.slice A n c); go_must (refine (readBig_any _ _ _ _ xs k W _ (Rd.below ha hB) hc (by omega)).mono ?_; rintro e w1 ⟨rfl, rfl⟩; rw [HE1.out]))
      | (go_at_call 22; go_must (refine (readLittle_any _ _ _ _ xs k W _ (Rd.below ha hB) hc (by omega)).mono ?_; rintro e w1 ⟨rfl, rfl⟩; rw [HE2.out]))
      | (go_at_call 20; go_must (refine (readBig_any w.heap.size (k + W - 1) c A (xs.take (k + W - 1)) k W _ (RdB.pre (Rd.below ha hB) (by omega)) (by omega) (by omega)).mono ?_; rintro e w1 ⟨rfl, rfl⟩; rw [HE3.out]))
      | (go_at_call_of 16 ((beV l : Nat) : Int); go_must (refine (big_any (beV l) W _).mono ?_; rintro e w1 ⟨v1, rfl, hx, hb1⟩; rw [HE4.out] at hx ⊢; replace hx := hx.mono hB.size; obtain ⟨Ax, nx, cx, rfl, _, _, _⟩ := hx.slice; replace hB := bstep hB hb1 (Nat.le_refl _); (try replace hx := hx.later hb1); (try replace hy := hy.later hb1); (try replace hz := hz.later hb1); clear hb1))
      | (go_at_call 18; go_must (refine (little_any (leV l) W _).mono ?_; rintro e w1 ⟨v1, rfl, hy, hb1⟩; rw [HE5.out] at hy ⊢; replace hy := hy.mono hB.size; obtain ⟨Ay, ny, cy, rfl, _, _, _⟩ := hy.slice; replace hB := bstep hB hb1 (Nat.le_refl _); (try replace hx := hx.later hb1); (try replace hy := hy.later hb1); (try replace hz := hz.later hb1); clear hb1))
      | (go_at_call 16; go_must (refine (big_any (wrap64 (2 ^ (8 * W))) W _).mono ?_; rintro e w1 ⟨v1, rfl, hz, hb1⟩; rw [HE6.out] at hz ⊢; replace hz := hz.mono hB.size; obtain ⟨Az, nz, cz, rfl, _, _, _⟩ := hz.slice; replace hB := bstep hB hb1 (Nat.le_refl _); (try replace hx := hx.later hb1); (try replace hy := hy.later hb1); (try replace hz := hz.later hb1); clear hb1))
      | (go_at_call 24; have hmid := RdB.mid' (RdB.blw ha hB) hb3; (with_reducible refine (bytes_any _ _ _ _ _ _ _ _ _ _ _ hx.rd hmid).mono ?_); rintro e w1 ⟨rfl, rfl⟩; rw [← HL.out])
      | (go_at_call 24; have hmid := RdB.mid' (RdB.blw ha hB) hb3; (with_reducible refine (bytes_any _ _ _ _ _ _ _ _ _ _ _ hy.rd hmid).mono ?_); rintro e w1 ⟨rfl, rfl⟩; rw [← HL.out]))
    go_ret
    exact ⟨rfl, hB⟩
end Go.Proofs.Ytlhhhoolnojegaa
