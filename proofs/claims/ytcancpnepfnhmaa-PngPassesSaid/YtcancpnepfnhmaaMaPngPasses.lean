/- PngPasses. -/
import Derived.Test.YtcancpnepfnhmaaMaPng3
import Derived.Test.YtcancpnepfnhmaaMaPng5
namespace Go.Proofs.Ytcancpnepfnhmaa
set_option linter.all false
open Go.RowKit

/-- What Pass tells, a shape given. -/
def pV (s : Sh) (k : Nat) : Nat × Nat := if s.may = true ∧ 1 ≤ k ∧ k ≤ 7 then (passW s.w.toNat s.h.toNat k, passH s.w.toNat s.h.toNat k) else (0, 0)
theorem may_bounds {s : Sh} (h : s.may = true) : 1 ≤ s.w ∧ s.w ≤ 256 ∧ 1 ≤ s.h ∧ s.h ≤ 256 := by
  unfold Sh.may at h
  rw [Bool.and_eq_true] at h
  obtain ⟨⟨h1, h2⟩, ⟨h3, h4⟩, _⟩ := (Sh.nums_iff s).1 h.1
  exact ⟨h1, h2, h3, h4⟩
theorem pass_any (s : Sh) (k : Nat) (K : Int) (hK : K = (k : Int)) (w : World) : Calls Try.prog 29 #[.agg #[.int .i64 s.w, .int .i64 s.h, .int .i64 s.c, .int .i64 s.d], .int .i64 K] w fun e w' => e = .returned (.tuple #[.int .i64 ((pV s k).1 : Int), .int .i64 ((pV s k).2 : Int)]) ∧ Below w.heap.size w w' := by
  subst hK
  unfold pV
  by_cases h : s.may = true ∧ 1 ≤ k ∧ k ≤ 7
  · rw [if_pos h]
    obtain ⟨h1, h2, h3⟩ := h
    obtain ⟨W, H, c, d⟩ := s
    obtain ⟨b1, b2, b3, b4⟩ := may_bounds h1
    obtain ⟨W, rfl⟩ := Int.eq_ofNat_of_zero_le (show 0 ≤ W by have : 1 ≤ W := b1; omega)
    obtain ⟨H, rfl⟩ := Int.eq_ofNat_of_zero_le (show 0 ≤ H by have : 1 ≤ H := b3; omega)
    have b1 : 1 ≤ (W : Int) := b1
    have b2 : (W : Int) ≤ 256 := b2
    have b3 : 1 ≤ (H : Int) := b3
    have b4 : (H : Int) ≤ 256 := b4
    exact pass_ok W H k c d w h1 (by omega) (by omega) h2 h3
  · rw [if_neg h]
    exact pass_bad s (k : Int) w (by
      cases e : s.may with
      | false => exact .inl rfl
      | true => exact .inr ⟨rfl, by
          by_cases h1 : 1 ≤ k
          · have : ¬ k ≤ 7 := fun h2 => h ⟨e, h1, h2⟩
            omega
          · omega⟩)
/-- What stands together in the first passes. -/
def pN (s : Sh) : Nat → Nat
  | 0 => 0
  | k + 1 => pN s k + (pV s (k + 1)).1 * (pV s (k + 1)).2
theorem pV_bounds (s : Sh) (k : Nat) : (pV s k).1 ≤ 256 ∧ (pV s k).2 ≤ 256 ∧ ((pV s k).1 = 0 ↔ (pV s k).2 = 0) := by
  unfold pV
  split
  · rename_i h
    obtain ⟨b1, b2, b3, b4⟩ := may_bounds h.1
    exact pass_le _ _ k (by omega) (by omega)
  · exact ⟨by omega, by omega, Iff.rfl⟩
theorem pN_le (s : Sh) (k : Nat) : pN s k ≤ 65536 * k := by
  induction k with
  | zero => exact Nat.le_refl _
  | succ k ih =>
    have h := pV_bounds s (k + 1)
    have := Nat.mul_le_mul h.1 h.2.1
    show pN s k + _ ≤ _
    omega
theorem pN_may {s : Sh} (h : s.may = true) : ((pN s 7 : Nat) : Int) = s.w * s.h := by
  obtain ⟨b1, b2, b3, b4⟩ := may_bounds h
  have e : ∀ k, k ≤ 7 → pN s k = passN s.w.toNat s.h.toNat k := fun k => by
    induction k with
    | zero => intro _; rfl
    | succ k ih =>
      intro hk
      show pN s k + _ = passN _ _ k + _
      rw [ih (by omega)]
      unfold pV
      rw [if_pos ⟨h, by omega, hk⟩]
  rw [e 7 (by omega), passN_all, Int.natCast_mul]
  rw [Int.toNat_of_nonneg (by omega), Int.toNat_of_nonneg (by omega)]
theorem pN_not {s : Sh} (h : ¬ s.may = true) : ∀ k, pN s k = 0
  | 0 => rfl
  | k + 1 => by
    show pN s k + _ = 0
    rw [pN_not h k]
    unfold pV
    rw [if_neg (fun a => h a.1)]
    rfl
set_option maxRecDepth 100000 in
set_option maxHeartbeats 6400000 in
theorem pngPasses_walk (s : Sh) (w : World) : Calls Try.prog 11 #[s.v] w fun e w' => e = .returned (.bool true) ∧ Below w.heap.size w w' := by
  obtain ⟨w1, hw1⟩ : ∃ w1, w.alloc (.cells #[.int .i64 s.w, .int .i64 s.h, .int .i64 s.c, .int .i64 s.d] 57) = w1 := ⟨_, rfl⟩
  obtain ⟨bk, hbk⟩ : ∃ b, w.heap.size = b := ⟨_, rfl⟩
  have HA1 : Hid (Arr w1 bk [.int .i64 s.w, .int .i64 s.h, .int .i64 s.c, .int .i64 s.d]) := (show Arr _ _ _ by rw [← hw1, ← hbk]; exact Arr.new w [.int .i64 s.w, .int .i64 s.h, .int .i64 s.c, .int .i64 s.d] _)
  have HB1 : Hid (Below bk w w1) := (show Below _ _ _ by rw [← hw1, ← hbk]; exact (Below.refl w.heap.size w).alloc (Nat.le_refl _) _)
  have hz1 : w1.heap.size = bk + 1 := by rw [← hw1, World.size_alloc, hbk]
  have HMY := Lib.hid (fun w => mayS_any s w)
  have HMY : Hid (∀ w, Calls Try.prog 30 #[.agg #[.int .i64 s.w, .int .i64 s.h, .int .i64 s.c, .int .i64 s.d]] w fun e w' => e = .returned (.bool s.may) ∧ Below w.heap.size w w') := HMY
  have HP := Lib.hid (fun k w => pass_any s k (k : Int) rfl w)
  have HP0 : Hid (∀ w, Calls Try.prog 29 #[.agg #[.int .i64 s.w, .int .i64 s.h, .int .i64 s.c, .int .i64 s.d], .int .i64 0] w fun e w' => e = .returned (.tuple #[.int .i64 0, .int .i64 0]) ∧ Below w.heap.size w w') := (show ∀ w, _ from fun w => by
    have := pass_any s 0 0 rfl w
    have e : pV s 0 = (0, 0) := if_neg (by omega)
    rw [e] at this
    exact this)
  have HP8 : Hid (∀ w, Calls Try.prog 29 #[.agg #[.int .i64 s.w, .int .i64 s.h, .int .i64 s.c, .int .i64 s.d], .int .i64 8] w fun e w' => e = .returned (.tuple #[.int .i64 0, .int .i64 0]) ∧ Below w.heap.size w w') := (show ∀ w, _ from fun w => by
    have := pass_any s 8 8 rfl w
    have e : pV s 8 = (0, 0) := if_neg (by omega)
    rw [e] at this
    exact this)
  have HPB := Lib.hid (pV_bounds s)
  have HNL := Lib.hid (pN_le s)
  have HNS : Hid (∀ k, pN s (k + 1) = pN s k + (pV s (k + 1)).1 * (pV s (k + 1)).2) := (show ∀ k, _ from fun _ => rfl)
  have HNM : Hid (s.may = true → ((pN s 7 : Nat) : Int) = s.w * s.h ∧ 1 ≤ s.w ∧ s.w ≤ 256 ∧ 1 ≤ s.h ∧ s.h ≤ 256) := (show _ → _ from fun h => ⟨pN_may h, may_bounds h⟩)
  have HNN : Hid (s.may = false → pN s 7 = 0) := (show _ → _ from fun h => pN_not (by rw [h]; decide) 7)
  have a0 := HA1.out.cell (k := 0) rfl
  have a1 := HA1.out.cell (k := 1) rfl
  have a2 := HA1.out.cell (k := 2) rfl
  have a3 := HA1.out.cell (k := 3) rfl
  unfold Sh.v
  have HN0 : Hid (pN s 0 = 0) := (show _ = _ from rfl)
  generalize pN s = fN at *
  generalize pV s = fV at *
  generalize s.may = mm at *
  generalize s.w = W at *
  generalize s.h = H at *
  generalize s.c = c at *
  generalize s.d = d at *
  go_enter Try.func11, Try.ntmps11
  simp only [hw1, hbk]
  go_wp2_with (go_at_call 28; (with_reducible refine (first13_any _).mono ?_); go_must (rintro e w2 ⟨rfl, hb2⟩; have HA2 := Lib.hid (HA1.out.later hb2); have hz2 := hb2.size; have HB2 := Lib.hid (HB1.out.trans (hb2.mono (by omega))); clear hb2 a0 a1 a2 a3))
  clear hw1 HA1 HB1
  go_loopw [4, 3] (fun vk vn wr => ∃ k : Nat, k ≤ 7 ∧ vk = .int .i64 ((k + 1 : Nat) : Int) ∧ vn = .int .i64 (fN k : Int) ∧ Hid (Arr wr bk [.int .i64 W, .int .i64 H, .int .i64 c, .int .i64 d]) ∧ Hid (Below bk w wr)) (fun vk _ _ => 8 - (intOf vk).toNat)
  case atStart => exact ⟨0, by omega, rfl, by rw [HN0.out]; rfl, HA2, HB2⟩
  case round =>
    clear HA2 HB2 HN0
    obtain ⟨k, hk, rfl, rfl, HA, HB⟩ := hrel
    have c0 := HA.out.cell (k := 0) rfl
    have c1 := HA.out.cell (k := 1) rfl
    have c2 := HA.out.cell (k := 2) rfl
    have c3 := HA.out.cell (k := 3) rfl
    have hbw := HA.out.lt
    have hbs := HB.out.size
    have hnl := HNL.out k
    generalize hN : fN k = N at *
    obtain ⟨j, hj⟩ : ∃ j, k + 1 = j := ⟨_, rfl⟩
    rw [hj]
    by_cases h7 : k < 7
    · have hji : (j : Int) ≤ 7 := by omega
      have HNS2 := Lib.hid (HNS.out k)
      rw [hj, hN] at HNS2
      have HPk := Lib.hid (HP.out j)
      obtain ⟨p1, p2, p3⟩ := HPB.out j
      generalize (fV j).1 = x at *
      generalize (fV j).2 = y at *
      have hxy : x * y ≤ 65536 := Nat.mul_le_mul p1 p2
      obtain ⟨z, hz⟩ : ∃ z, x * y = z := ⟨_, rfl⟩
      rw [hz] at HNS2 hxy
      have hzi : (x : Int) * (y : Int) = (z : Int) := by rw [← hz, Int.natCast_mul]
      have hx0 : ¬ (x : Int) < 0 := by omega
      have hy0 : ¬ (y : Int) < 0 := by omega
      have hj2 : k + 1 + 1 = j + 1 := by omega
      have HNJ : Hid ((N : Int) + (z : Int) = (fN j : Int)) := (show _ = _ by rw [HNS2.out]; push_cast; rfl)
      have hnl2 : N ≤ 458752 := by omega
      clear hN hnl HNS2
      by_cases hx : x = 0
      · have hy : y = 0 := p3.1 hx
        have HN0J : Hid (Value.int .i64 (N : Int) = .int .i64 (fN j : Int)) := (show _ = _ by
          have hz0 : z = 0 := by rw [← hz, hx, Nat.zero_mul]
          rw [← HNJ.out, hz0]
          simp)
        have e1 : ((x : Int) == 0) = true := by rw [hx]; rfl
        have e2 : ((y : Int) == 0) = true := by rw [hy]; rfl
        go_wp2_with (go_at_call 29; (with_reducible refine (HPk.out _).mono ?_); go_must (rintro e w5 ⟨rfl, hb5⟩; have HA5 := Lib.hid (HA.out.later hb5); have HB5 := Lib.hid (HB.out.trans (hb5.mono (by omega))); clear hb5))
        go_roundw
        case rel => exact ⟨j, by omega, by go_num, HN0J.out, HA5, HB5⟩
        case measure => simp [intOf]; omega
      · have hy : ¬ y = 0 := fun e => hx (p3.2 e)
        have e1 : ((x : Int) == 0) = false := beq_eq_false_iff_ne.2 (by omega)
        have e2 : ((y : Int) == 0) = false := beq_eq_false_iff_ne.2 (by omega)
        go_wp2_with (go_at_call 29; (with_reducible refine (HPk.out _).mono ?_); go_must (rintro e w5 ⟨rfl, hb5⟩; have HA5 := Lib.hid (HA.out.later hb5); have HB5 := Lib.hid (HB.out.trans (hb5.mono (by omega))); clear hb5))
        go_roundw
        case rel => exact ⟨j, by omega, by go_num, congrArg (Value.int .i64) HNJ.out, HA5, HB5⟩
        case measure => simp [intOf]; omega
    · obtain rfl : k = 7 := by omega
      have hji : ¬ (j : Int) ≤ 7 := by omega
      have HN7 := Lib.hid hN
      clear hN
      cases mm with
      | false =>
        have hN0 : N = 0 := by rw [← HN7.out]; exact HNN.out rfl
        have hni : (N : Int) = 0 := by omega
        go_wp2_with (first
          | (go_at_call 29; (with_reducible refine (HP0.out _).mono ?_); go_must (rintro e w5 ⟨rfl, hb5⟩; have HA5 := Lib.hid (HA.out.later hb5); have HB5 := Lib.hid (HB.out.trans (hb5.mono (by omega))); have d0 := HA5.out.cell (k := 0) rfl; have d1 := HA5.out.cell (k := 1) rfl; have d2 := HA5.out.cell (k := 2) rfl; have d3 := HA5.out.cell (k := 3) rfl; have hs5 := HB5.out.size; clear hb5 c0 c1 c2 c3))
          | (go_at_call 29; (with_reducible refine (HP8.out _).mono ?_); go_must (rintro e w6 ⟨rfl, hb6⟩; have HA6 := Lib.hid (HA5.out.later hb6); have HB6 := Lib.hid (HB5.out.trans (hb6.mono (by omega))); have f0 := HA6.out.cell (k := 0) rfl; have f1 := HA6.out.cell (k := 1) rfl; have f2 := HA6.out.cell (k := 2) rfl; have f3 := HA6.out.cell (k := 3) rfl; have hs6 := HB6.out.size; clear hb6 d0 d1 d2 d3))
          | (go_at_call 30; (with_reducible refine (HMY.out _).mono ?_); go_must (rintro e w7 ⟨rfl, hb7⟩; have HB7 := Lib.hid (HB6.out.trans (hb7.mono (by omega))); have hs7 := HB7.out.size; clear hb7))
          | (go_at_call 28; (with_reducible refine (first13_any _).mono ?_); go_must (rintro e w8 ⟨rfl, hb8⟩; have HB8 := Lib.hid (HB7.out.trans (hb8.mono (by omega))); clear hb8)))
        go_ret
        exact ⟨rfl, HB8.out⟩
      | true =>
        obtain ⟨hWH, b1, b2, b3, b4⟩ := HNM.out rfl
        rw [HN7.out] at hWH
        have hWH2 : W * H = (N : Int) := hWH.symm
        have HWH := Lib.hid hWH
        clear hWH
        go_wp2_with (first
          | (go_at_call 29; (with_reducible refine (HP0.out _).mono ?_); go_must (rintro e w5 ⟨rfl, hb5⟩; have HA5 := Lib.hid (HA.out.later hb5); have HB5 := Lib.hid (HB.out.trans (hb5.mono (by omega))); have d0 := HA5.out.cell (k := 0) rfl; have d1 := HA5.out.cell (k := 1) rfl; have d2 := HA5.out.cell (k := 2) rfl; have d3 := HA5.out.cell (k := 3) rfl; have hs5 := HB5.out.size; clear hb5 c0 c1 c2 c3))
          | (go_at_call 29; (with_reducible refine (HP8.out _).mono ?_); go_must (rintro e w6 ⟨rfl, hb6⟩; have HA6 := Lib.hid (HA5.out.later hb6); have HB6 := Lib.hid (HB5.out.trans (hb6.mono (by omega))); have f0 := HA6.out.cell (k := 0) rfl; have f1 := HA6.out.cell (k := 1) rfl; have f2 := HA6.out.cell (k := 2) rfl; have f3 := HA6.out.cell (k := 3) rfl; have hs6 := HB6.out.size; clear hb6 d0 d1 d2 d3))
          | (go_at_call 30; (with_reducible refine (HMY.out _).mono ?_); go_must (rintro e w7 ⟨rfl, hb7⟩; have HA7 := Lib.hid (HA6.out.later hb7); have HB7 := Lib.hid (HB6.out.trans (hb7.mono (by omega))); have hs7 := HB7.out.size; clear hb7))
          | (go_at_call 28; (with_reducible refine (first13_any _).mono ?_); go_must (rintro e w8 ⟨rfl, hb8⟩; have HA8 := Lib.hid (HA7.out.later hb8); have g0 := HA8.out.cell (k := 0) rfl; have g1 := HA8.out.cell (k := 1) rfl; have HB8 := Lib.hid (HB7.out.trans (hb8.mono (by omega))); clear hb8 f0 f1 f2 f3)))
        go_ret
        exact ⟨rfl, HB8.out⟩
end Go.Proofs.Ytcancpnepfnhmaa
