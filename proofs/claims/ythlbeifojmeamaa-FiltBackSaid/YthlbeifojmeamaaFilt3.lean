/- filt: the reference's row filters. -/
import Derived.Test.YthlbeifojmeamaaFilt2
import Derived.StillTailTactics
namespace Go.Proofs.Ythlbeifojmeamaa
set_option linter.all false
open Go.RowKit

theorem abs9_any (a : Int) (w : World) (h : -1000 ≤ a ∧ a ≤ 1000) :
    Calls Try.prog 22 #[.int .i64 a] w fun e w' => e = .returned (.int .i64 (if a ≤ 0 then -a else a)) ∧ w' = w := by
  obtain ⟨h1, h2⟩ := h
  go_enter Try.func22, Try.ntmps22
  go_wp2
  all_goals (go_ret; exact ⟨ret_int (by (try split) <;> (try split) <;> omega), rfl⟩)

theorem abs_dist (p a : Int) : (if p - a ≤ 0 then -(p - a) else p - a) = dist p a := by unfold dist; split <;> split <;> omega

set_option maxHeartbeats 1600000 in
theorem paeth9_any (a b c : Int) (w : World) (h1 : 0 ≤ a ∧ a ≤ 255) (h2 : 0 ≤ b ∧ b ≤ 255) (h3 : 0 ≤ c ∧ c ≤ 255) :
    Calls Try.prog 10 #[.int .i64 a, .int .i64 b, .int .i64 c] w fun e w' => e = .returned (.int .i64 (paeth a b c)) ∧ w' = w := by
  obtain ⟨a1, a2⟩ := h1
  obtain ⟨b1, b2⟩ := h2
  obtain ⟨c1, c2⟩ := h3
  go_enter Try.func10, Try.ntmps10
  go_wp2_with (go_at_call 22; refine (abs9_any _ _ (by omega)).mono ?_; rintro e w' ⟨rfl, rfl⟩; rw [abs_dist])
  all_goals (go_ret; exact ⟨ret_int (by unfold paeth; split <;> (try split) <;> (first | rfl | (exfalso; omega))), rfl⟩)

theorem may9_any (kind bpp : Int) (n c n' c' : Nat) (A A' : Option Addr) (w : World) :
    Calls Try.prog 25 #[.int .i64 kind, .int .i64 bpp, .slice A n c, .slice A' n' c'] w fun e w' =>
      e = .returned (.int .i64 (wrongV kind bpp n n')) ∧ w = w' := by
  by_cases h1 : n = 0
  · subst h1
    go_enter Try.func25, Try.ntmps25
    go_wp2
    all_goals (go_ret; exact ⟨ret_int (by unfold wrongV; split <;> (try split) <;> (first | rfl | (exfalso; omega))), rfl⟩)
  · have d1 : decide (0 < n) = true := by simp; omega
    by_cases h2 : n = n'
    · subst h2
      go_enter Try.func25, Try.ntmps25
      go_wp2
      all_goals (go_ret; exact ⟨ret_int (by unfold wrongV; split <;> (try split) <;> (first | rfl | (exfalso; omega))), rfl⟩)
    · have d2 : ((n : Int) != n') = true := by rw [bne_iff_ne]; omega
      go_enter Try.func25, Try.ntmps25
      go_wp2
      all_goals (go_ret; exact ⟨ret_int (by unfold wrongV; split <;> (try split) <;> (first | rfl | (exfalso; omega))), rfl⟩)

theorem back9_any (B n c : Nat) (A : Option Addr) (bs : List UInt8) (i k : Int) (w : World) (h : RdB w B A n bs) (hi : 0 ≤ i ∧ i ≤ 1000000) (hk : 0 ≤ k ∧ k ≤ 8) (h0 : n = 0 ∨ i < n) :
    Calls Try.prog 27 #[.slice A n c, .int .i64 i, .int .i64 k] w fun e w' => e = .returned (.int .i64 (gAt bs (i - k))) ∧ w' = w := by
  obtain rfl := h.len
  obtain ⟨i1, i2⟩ := hi
  obtain ⟨k1, k2⟩ := hk
  by_cases h1 : i - k < 0
  · have d1 : decide (i - k < 0) = true := by simpa using h1
    rw [gAt_neg bs h1]
    go_enter Try.func27, Try.ntmps27
    go_wp2
    go_ret
    exact ⟨rfl, rfl⟩
  · have d1 : decide (i - k < 0) = false := by simpa using h1
    by_cases h2 : bs.length = 0
    · obtain ⟨j, hj⟩ := Int.eq_ofNat_of_zero_le (by omega : 0 ≤ i - k)
      rw [hj, gAt_past bs (by omega)]
      rw [hj] at d1
      have d2 : ((bs.length : Int) == 0) = true := by rw [beq_iff_eq]; omega
      have hj2 : i - k = (j : Int) := hj
      go_enter Try.func27, Try.ntmps27
      go_wp2
      go_ret
      exact ⟨rfl, rfl⟩
    · obtain ⟨j, hj⟩ := Int.eq_ofNat_of_zero_le (by omega : 0 ≤ i - k)
      have d2 : ((bs.length : Int) == 0) = false := by rw [beq_eq_false_iff_ne]; omega
      have hjl : j < bs.length := by omega
      obtain ⟨b, o, x, rfl, _, hx, cx⟩ := h.byte hjl
      have x8 := x.toNat_lt
      rw [hj, gAt_some bs hx.out]
      obtain rfl : i = (j : Int) + k := by omega
      have e1 : (j : Int) + k - k = j := by omega
      rw [e1] at d1
      clear hx hj
      go_enter Try.func27, Try.ntmps27
      go_wp2
      go_ret
      exact ⟨rfl, rfl⟩

set_option maxHeartbeats 1600000 in
theorem guess9_any (kind a b c : Int) (w : World) (h1 : 0 ≤ a ∧ a ≤ 255) (h2 : 0 ≤ b ∧ b ≤ 255) (h3 : 0 ≤ c ∧ c ≤ 255) :
    Calls Try.prog 26 #[.int .i64 kind, .int .i64 a, .int .i64 b, .int .i64 c] w fun e w' => e = .returned (.int .i64 (gss kind a b c)) ∧ w' = w := by
  have H1 := h1
  have H2 := h2
  have H3 := h3
  obtain ⟨a1, a2⟩ := h1
  obtain ⟨b1, b2⟩ := h2
  obtain ⟨c1, c2⟩ := h3
  go_enter Try.func26, Try.ntmps26
  go_wp2_with (go_at_call 10; refine (paeth9_any _ _ _ _ H1 H2 H3).mono ?_; rintro e w' ⟨rfl, rfl⟩)
  all_goals
    go_ret
    refine ⟨ret_int ?_, rfl⟩
    simp only [beq_iff_eq, beq_eq_false_iff_ne, ne_eq] at *
    simp [gss, *]
  all_goals omega

end Go.Proofs.Ythlbeifojmeamaa
