/- The reference's readings: the same answers. -/
import Derived.Test.YtlhhhoolnojegaaNum5
namespace Go.Proofs.Ytlhhhoolnojegaa
set_option linter.all false
open Go.RowKit

theorem readBigR_bad (B n c : Nat) (A : Option Addr) (bs : List UInt8) (k W : Int) (w : World) (h : RdB w B A n bs) (hm : n ≤ 140737488355328) (h1 : W < 1 ∨ 6 < W ∨ k < 0 ∨ (n : Int) < k) :
    Calls Try.prog 21 #[.slice A n c, .int .i64 k, .int .i64 W] w fun e w' => e = .returned (.tuple #[.int .i64 0, .int .i64 1]) ∧ w = w' := by
  obtain rfl := h.len
  by_cases c1 : W < 1
  · have d1 : decide (W < 1) = true := by simp; omega
    go_enter Try.func21, Try.ntmps21
    go_wp2
    go_ret2
    exact ⟨rfl, rfl⟩
  have d1 : decide (W < 1) = false := by simp; omega
  by_cases c2 : 6 < W
  · have d2 : decide (6 < W) = true := by simp; omega
    go_enter Try.func21, Try.ntmps21
    go_wp2
    go_ret2
    exact ⟨rfl, rfl⟩
  have d2 : decide (6 < W) = false := by simp; omega
  by_cases c3 : k < 0
  · have d3 : decide (k < 0) = true := by simp; omega
    go_enter Try.func21, Try.ntmps21
    go_wp2
    go_ret2
    exact ⟨rfl, rfl⟩
  have d3 : decide (k < 0) = false := by simp; omega
  have d4 : decide ((bs.length : Int) < k) = true := by simp; omega
  go_enter Try.func21, Try.ntmps21
  go_wp2
  go_ret2
  exact ⟨rfl, rfl⟩

theorem readBigR_short (B n c : Nat) (A : Option Addr) (bs : List UInt8) (k W : Int) (w : World) (h : RdB w B A n bs) (hm : n ≤ 140737488355328) (h1 : 1 ≤ W) (h2 : W ≤ 6) (h3 : 0 ≤ k) (h4 : k ≤ n) (h5 : n - k < W) :
    Calls Try.prog 21 #[.slice A n c, .int .i64 k, .int .i64 W] w fun e w' => e = .returned (.tuple #[.int .i64 0, .int .i64 2]) ∧ w = w' := by
  obtain rfl := h.len
  have d1 : decide (W < 1) = false := by simp; omega
  have d2 : decide (6 < W) = false := by simp; omega
  have d3 : decide (k < 0) = false := by simp; omega
  have d4 : decide ((bs.length : Int) < k) = false := by simp; omega
  go_enter Try.func21, Try.ntmps21
  go_wp2
  go_ret2
  exact ⟨rfl, rfl⟩


set_option maxHeartbeats 800000 in
theorem readBigR_ok (B n c : Nat) (A : Option Addr) (bs : List UInt8) (k W : Nat) (w : World) (h : RdB w B A n bs) (hm : n ≤ 140737488355328) (h1 : 1 ≤ W) (h2 : W ≤ 6) (h3 : k + W ≤ n) :
    Calls Try.prog 21 #[.slice A n c, .int .i64 k, .int .i64 W] w fun e w' => e = .returned (.tuple #[.int .i64 (beV ((bs.drop k).take W)), .int .i64 0]) ∧ w = w' := by
  obtain rfl := h.len
  have d1 : decide ((W : Int) < 1) = false := by simp; omega
  have d2 : decide (6 < (W : Int)) = false := by simp; omega
  have d3 : decide ((k : Int) < 0) = false := by simp
  have d4 : decide (bs.length < k) = false := by simp; omega
  have d5 : decide ((bs.length : Int) - k < W) = false := by simp; omega
  have hl : ((bs.drop k).take W).length = W := by simp; omega
  obtain ⟨l, hL⟩ : ∃ l, l = (bs.drop k).take W := ⟨_, rfl⟩
  rw [← hL] at hl
  have HL := Lib.hid hL
  have Hl := Lib.hid hl
  clear hL hl
  go_enter Try.func21, Try.ntmps21
  go_wp2
  go_loop [8, 9] (fun s i => ∃ j : Nat, j ≤ W ∧ i = .int .i64 j ∧ s = .int .i64 (beV (l.take j))) (fun _ i => W - (intOf i).toNat)
  case atStart => exact ⟨0, Nat.zero_le _, rfl, rfl⟩
  case round =>
    obtain ⟨j, hj, rfl, rfl⟩ := hrel
    by_cases hlt : j < W
    · obtain ⟨b, o, x, rfl, hb, hx, cx⟩ := h.byte (by omega : k + j < bs.length)
      have hp := beV_lt6 l j (by rw [Hl.out]; omega) (by omega)
      have hx8 := x.toNat_lt
      have Hs : Hid (beV (l.take (j + 1)) = beV (l.take j) * 256 + x.toNat) := by
        have := beV_step l j (by rw [Hl.out]; omega)
        have e : l[j]'(by rw [Hl.out]; omega) = x := by
          have h5 := hx.out
          have : l[j]? = some x := by rw [HL.out, List.getElem?_take, if_pos hlt, List.getElem?_drop]; exact h5
          obtain ⟨_, e⟩ := List.getElem?_eq_some_iff.1 this
          exact e
        rw [e] at this
        exact this
      go_wp2
      go_round
      case rel => exact ⟨j + 1, by omega, by go_num, by rw [Hs.out, or_be _ _ hp (by omega)]⟩
      case measure => simp [intOf]; omega
    · have : j = W := by omega
      subst this
      go_wp2
      go_ret2
      refine ⟨?_, rfl⟩
      rw [← HL.out]
      exact ret_tup2 (by show Value.int .i64 (beV (l.take j)) = _; rw [List.take_of_length_le (by rw [Hl.out]; omega)]) rfl

theorem readBigR_any (B n c : Nat) (A : Option Addr) (bs : List UInt8) (k W : Int) (w : World) (h : RdB w B A n bs) (hm : n ≤ 140737488355328) :
    Calls Try.prog 21 #[.slice A n c, .int .i64 k, .int .i64 W] w fun e w' => e = .returned (.tuple #[.int .i64 (rdR beV bs k W).1, .int .i64 (rdR beV bs k W).2]) ∧ w = w' := by
  have hl := h.len
  unfold rdR
  by_cases h1 : W < 1 ∨ 6 < W ∨ k < 0 ∨ (bs.length : Int) < k
  · rw [if_pos h1]
    exact readBigR_bad B n c A bs k W w h hm (by rw [← hl]; exact h1)
  · rw [if_neg h1]
    by_cases h2 : (bs.length : Int) - k < W
    · rw [if_pos h2]
      exact readBigR_short B n c A bs k W w h hm (by omega) (by omega) (by omega) (by omega) (by omega)
    · rw [if_neg h2]
      obtain ⟨k, rfl⟩ := Int.eq_ofNat_of_zero_le (by omega : 0 ≤ k)
      obtain ⟨W, rfl⟩ := Int.eq_ofNat_of_zero_le (by omega : 0 ≤ W)
      exact readBigR_ok B n c A bs k W w h hm (by omega) (by omega) (by omega)

theorem readLittleR_err (n c : Nat) (A : Option Addr) (k W E x : Int) (w : World) (hE : (E != 0) = true)
    (h : Calls Try.prog 21 #[.slice A n c, .int .i64 k, .int .i64 W] w fun e w' => e = .returned (.tuple #[.int .i64 x, .int .i64 E]) ∧ w = w') :
    Calls Try.prog 23 #[.slice A n c, .int .i64 k, .int .i64 W] w fun e w' => e = .returned (.tuple #[.int .i64 0, .int .i64 E]) ∧ w = w' := by
  have H := Lib.hid h
  clear h
  go_enter Try.func23, Try.ntmps23
  go_wp2_with (go_at_call 21; refine H.out.mono ?_; rintro e w' ⟨rfl, rfl⟩)
  go_ret2
  exact ⟨rfl, rfl⟩

set_option maxHeartbeats 800000 in
theorem readLittleR_ok (B n c : Nat) (A : Option Addr) (bs : List UInt8) (k W : Nat) (w : World) (h : RdB w B A n bs) (hm : n ≤ 140737488355328) (h1 : 1 ≤ W) (h2 : W ≤ 6) (h3 : k + W ≤ n) :
    Calls Try.prog 23 #[.slice A n c, .int .i64 k, .int .i64 W] w fun e w' => e = .returned (.tuple #[.int .i64 (leV ((bs.drop k).take W)), .int .i64 0]) ∧ w = w' := by
  have HB := Lib.hid (readBigR_ok B n c A bs k W w h hm h1 h2 h3)
  obtain rfl := h.len
  have hl : ((bs.drop k).take W).length = W := by simp; omega
  obtain ⟨l, hL⟩ : ∃ l, l = (bs.drop k).take W := ⟨_, rfl⟩
  rw [← hL] at hl
  have HL := Lib.hid hL
  have Hl := Lib.hid hl
  clear hL hl
  go_enter Try.func23, Try.ntmps23
  go_wp2_with (go_at_call 21; refine HB.out.mono ?_; rintro e w' ⟨rfl, rfl⟩)
  go_loop [10, 11] (fun s i => ∃ j : Nat, j ≤ W ∧ i = .int .i64 j ∧ s = .int .i64 (leV (l.take j))) (fun _ i => W - (intOf i).toNat)
  case atStart => exact ⟨0, Nat.zero_le _, rfl, rfl⟩
  case round =>
    obtain ⟨j, hj, rfl, rfl⟩ := hrel
    by_cases hlt : j < W
    · obtain ⟨b, o, x, rfl, hb, hx, cx⟩ := h.byte (by omega : k + j < bs.length)
      have hp := leV_lt6 l j (by rw [Hl.out]; omega)
      have hx8 := x.toNat_lt
      have Hs : Hid (leV (l.take (j + 1)) = leV (l.take j) + x.toNat * 2 ^ (8 * j)) := by
        have := leV_step l j (by rw [Hl.out]; omega)
        have e : l[j]'(by rw [Hl.out]; omega) = x := by
          have h5 := hx.out
          have : l[j]? = some x := by rw [HL.out, List.getElem?_take, if_pos hlt, List.getElem?_drop]; exact h5
          obtain ⟨_, e⟩ := List.getElem?_eq_some_iff.1 this
          exact e
        rw [e] at this
        exact this
      go_wp2
      go_round
      case rel => exact ⟨j + 1, by omega, by go_num, by rw [Hs.out, or_le _ _ j hp (by omega) (by omega)]⟩
      case measure => simp [intOf]; omega
    · have : j = W := by omega
      subst this
      go_wp2
      go_ret2
      refine ⟨?_, rfl⟩
      rw [← HL.out]
      exact ret_tup2 (by show Value.int .i64 (leV (l.take j)) = _; rw [List.take_of_length_le (by rw [Hl.out]; omega)]) rfl

theorem readLittleR_any (B n c : Nat) (A : Option Addr) (bs : List UInt8) (k W : Int) (w : World) (h : RdB w B A n bs) (hm : n ≤ 140737488355328) :
    Calls Try.prog 23 #[.slice A n c, .int .i64 k, .int .i64 W] w fun e w' => e = .returned (.tuple #[.int .i64 (rdR leV bs k W).1, .int .i64 (rdR leV bs k W).2]) ∧ w = w' := by
  have hl := h.len
  have hb := readBigR_any B n c A bs k W w h hm
  unfold rdR at hb ⊢
  by_cases h1 : W < 1 ∨ 6 < W ∨ k < 0 ∨ (bs.length : Int) < k
  · rw [if_pos h1] at hb ⊢
    exact readLittleR_err n c A k W 1 _ w (by decide) hb
  · rw [if_neg h1] at hb ⊢
    by_cases h2 : (bs.length : Int) - k < W
    · rw [if_pos h2] at hb ⊢
      exact readLittleR_err n c A k W 2 _ w (by decide) hb
    · rw [if_neg h2]
      obtain ⟨k, rfl⟩ := Int.eq_ofNat_of_zero_le (by omega : 0 ≤ k)
      obtain ⟨W, rfl⟩ := Int.eq_ofNat_of_zero_le (by omega : 0 ≤ W)
      exact readLittleR_ok B n c A bs k W w h hm (by omega) (by omega) (by omega)
end Go.Proofs.Ytlhhhoolnojegaa
