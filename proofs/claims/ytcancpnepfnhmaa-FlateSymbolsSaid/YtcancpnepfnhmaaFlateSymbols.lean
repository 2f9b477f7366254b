/- FlateSymbols. -/
import Derived.Test.YtcancpnepfnhmaaMa27
namespace Go.Proofs.Ytcancpnepfnhmaa
set_option linter.all false
open Go.RowKit

theorem lenS_first {k : Nat} (h : k ≤ 28) : lenS (lenOf k).1 = k := by
  have h3 : 3 ≤ (lenOf k).1 := by rcases le28 h with rfl | rfl | rfl | rfl | rfl | rfl | rfl | rfl | rfl | rfl | rfl | rfl | rfl | rfl | rfl | rfl | rfl | rfl | rfl | rfl | rfl | rfl | rfl | rfl | rfl | rfl | rfl | rfl | rfl <;> decide
  exact scan_uniq len_mono (lenS_spec h3) ⟨h, Nat.le_refl _, fun j h1 h2 => len_mono k j h1 h2⟩
theorem distS_first {k : Nat} (h : k ≤ 29) : distS (distOf k).1 = k := by
  have h3 : 1 ≤ (distOf k).1 := by rcases le29 h with rfl | rfl | rfl | rfl | rfl | rfl | rfl | rfl | rfl | rfl | rfl | rfl | rfl | rfl | rfl | rfl | rfl | rfl | rfl | rfl | rfl | rfl | rfl | rfl | rfl | rfl | rfl | rfl | rfl | rfl <;> decide
  exact scan_uniq dist_mono (distS_spec h3) ⟨h, Nat.le_refl _, fun j h1 h2 => dist_mono k j h1 h2⟩
/-- The next one's symbol: the same, or a greater one, or the next one at its beginning. -/
theorem scan_next {f : Nat → Nat × Nat} {x k s n : Nat} (hm : ∀ i j, i < j → j ≤ n → (f i).1 < (f j).1) (h1 : k ≤ n ∧ (f k).1 ≤ x ∧ ∀ j, k < j → j ≤ n → x < (f j).1) (h2 : s ≤ n ∧ (f s).1 ≤ x + 1 ∧ ∀ j, s < j → j ≤ n → x + 1 < (f j).1) : s = k ∨ (s = k + 1 ∧ (f s).1 = x + 1) := by
  rcases Nat.lt_trichotomy s k with h | h | h
  · have := h2.2.2 k h h1.1; have := h1.2.1; omega
  · exact .inl h
  · have h5 := h1.2.2 s h h2.1
    have h6 := h2.2.1
    rcases Nat.lt_or_ge (k + 1) s with h7 | h7
    · have h8 := h1.2.2 (k + 1) (by omega) (by omega)
      have h9 := hm (k + 1) s h7 h2.1
      omega
    · exact .inr ⟨by omega, by omega⟩
/-- What Symbol answers for the next length. -/
theorem next_len (y s m r : Nat) (h3 : 3 ≤ y) (h4 : y ≤ 258) (hs : 257 + lenS y = s) (hr : y - (lenOf (lenS y)).1 = r) : ∃ V M R : Int, (∀ w, Calls Try.prog 19 #[.int .i64 ((y : Int) + 1)] w fun e w' => e = .returned (.tuple #[.int .i64 V, .int .i64 M, .int .i64 R]) ∧ w = w') ∧
    (((y : Int) == 258) = true ∨ (((y : Int) == 258) = false ∧ (V == (s : Int)) = true ∧ (R == (r : Int) + 1) = true) ∨ (((y : Int) == 258) = false ∧ (V == (s : Int)) = false ∧ decide (V > (s : Int)) = true)) := by
  by_cases h : y = 258
  · subst h
    exact ⟨_, _, _, fun w => symbol_any _ w, .inl rfl⟩
  · have hd : ((y : Int) == 258) = false := beq_eq_false_iff_ne.2 (by omega)
    have hy1 : (y : Int) + 1 = ((y + 1 : Nat) : Int) := by omega
    rcases scan_next len_mono (lenS_spec h3) (lenS_spec (x := y + 1) (by omega)) with e | ⟨e, e2⟩
    · have e : lenS (y + 1) = lenS y := e
      refine ⟨_, _, _, fun w => by rw [hy1]; exact symbol_at (y + 1) _ _ _ (by omega) (by omega) rfl rfl rfl w, .inr (.inl ⟨hd, ?_, ?_⟩)⟩
      · rw [e, hs]; exact beq_self_eq_true _
      · have := (lenS_spec h3).2.1
        rw [e]
        rw [beq_iff_eq]
        omega
    · have e : lenS (y + 1) = lenS y + 1 := e
      refine ⟨_, _, _, fun w => by rw [hy1]; exact symbol_at (y + 1) _ _ _ (by omega) (by omega) rfl rfl rfl w, .inr (.inr ⟨hd, ?_, ?_⟩)⟩
      · exact beq_eq_false_iff_ne.2 (by rw [e]; omega)
      · exact decide_eq_true (by rw [e]; omega)
theorem next_dist (y s m r : Nat) (h3 : 1 ≤ y) (h4 : y ≤ 32768) (hs : distS y = s) (hr : y - (distOf (distS y)).1 = r) : ∃ V M R : Int, (∀ w, Calls Try.prog 20 #[.int .i64 ((y : Int) + 1)] w fun e w' => e = .returned (.tuple #[.int .i64 V, .int .i64 M, .int .i64 R]) ∧ w = w') ∧
    (((y : Int) == 32768) = true ∨ (((y : Int) == 32768) = false ∧ (V == (s : Int)) = true ∧ (R == (r : Int) + 1) = true) ∨ (((y : Int) == 32768) = false ∧ (V == (s : Int)) = false ∧ (V == (s : Int) + 1) = true ∧ (R == 0) = true)) := by
  by_cases h : y = 32768
  · subst h
    exact ⟨_, _, _, fun w => distance_any _ w, .inl rfl⟩
  · have hd : ((y : Int) == 32768) = false := beq_eq_false_iff_ne.2 (by omega)
    have hy1 : (y : Int) + 1 = ((y + 1 : Nat) : Int) := by omega
    rcases scan_next dist_mono (distS_spec h3) (distS_spec (x := y + 1) (by omega)) with e | ⟨e, e2⟩
    · have e : distS (y + 1) = distS y := e
      refine ⟨_, _, _, fun w => by rw [hy1]; exact distance_at (y + 1) _ _ _ (by omega) (by omega) rfl rfl rfl w, .inr (.inl ⟨hd, ?_, ?_⟩)⟩
      · rw [e, hs]; exact beq_self_eq_true _
      · have := (distS_spec h3).2.1
        rw [e]
        rw [beq_iff_eq]
        omega
    · have e : distS (y + 1) = distS y + 1 := e
      have e2 : (distOf (distS (y + 1))).1 = y + 1 := e2
      refine ⟨_, _, _, fun w => by rw [hy1]; exact distance_at (y + 1) _ _ _ (by omega) (by omega) rfl rfl rfl w, .inr (.inr ⟨hd, ?_, ?_, ?_⟩)⟩
      · exact beq_eq_false_iff_ne.2 (by rw [e]; omega)
      · rw [beq_iff_eq, e]; omega
      · rw [beq_iff_eq, e2]; omega
theorem shr_zero {r m : Nat} (h : r < 2 ^ m) : (r : Int) / 2 ^ m = 0 := by
  rw [show ((2 : Int) ^ m) = ((2 ^ m : Nat) : Int) by push_cast; rfl, ← Int.natCast_ediv, Nat.div_eq_of_lt h]
  rfl
set_option maxRecDepth 100000 in
set_option maxHeartbeats 6400000 in
theorem flateSymbols_walk (x z : Int) (w : World) : Calls Try.prog 6 #[.int .i64 x, .int .i64 z] w fun e w' => e = .returned (.bool true) ∧ Below w.heap.size w w' := by
  have HSY := Lib.hid (fun w => symbol_any x w)
  have HDI := Lib.hid (fun w => distance_any z w)
  by_cases hx : x < 3 ∨ 258 < x
  · have HV : symV x = (-1, 0, 0) := if_pos hx
    rw [HV] at HSY
    have HSY : Hid (∀ w, Calls _ _ _ w fun e w' => e = .returned (.tuple #[.int .i64 (-1), .int .i64 0, .int .i64 0]) ∧ w = w') := HSY
    clear HV HDI
    rcases hx with hx | hx
    · have d1 : decide (x < 3) = true := decide_eq_true hx
      go_enter Try.func6, Try.ntmps6
      go_wp2_with (first
        | (go_at_call 13; (with_reducible refine (first7_any _).mono ?_); go_must (rintro e w1 ⟨rfl, hb1⟩; first | (have HB9 := Lib.hid (HB1.out.trans (hb1.mono HB1.out.size))) | (have HB1 := Lib.hid hb1); clear hb1))
        | (go_at_call 19; (with_reducible refine (HSY.out _).mono ?_); go_must (rintro e w3 ⟨rfl, rfl⟩)))
      go_ret
      exact ⟨rfl, HB9.out⟩
    · have d1 : ¬ x < 3 := by omega
      go_enter Try.func6, Try.ntmps6
      go_wp2_with (first
        | (go_at_call 13; (with_reducible refine (first7_any _).mono ?_); go_must (rintro e w1 ⟨rfl, hb1⟩; first | (have HB9 := Lib.hid (HB1.out.trans (hb1.mono HB1.out.size))) | (have HB1 := Lib.hid hb1); clear hb1))
        | (go_at_call 19; (with_reducible refine (HSY.out _).mono ?_); go_must (rintro e w3 ⟨rfl, rfl⟩)))
      go_ret
      exact ⟨rfl, HB9.out⟩
  · obtain ⟨y, rfl⟩ : ∃ y : Nat, x = (y : Int) := ⟨x.toNat, by omega⟩
    have h3 : 3 ≤ y := by omega
    have h4 : y ≤ 258 := by omega
    have h3i : ¬ (y : Int) < 3 := by omega
    have h4i : ¬ 258 < (y : Int) := by omega
    obtain ⟨s, hs⟩ : ∃ s, 257 + lenS y = s := ⟨_, rfl⟩
    obtain ⟨m, hm⟩ : ∃ m, (lenOf (lenS y)).2 = m := ⟨_, rfl⟩
    obtain ⟨r, hr⟩ : ∃ r, y - (lenOf (lenS y)).1 = r := ⟨_, rfl⟩
    have HS1 := Lib.hid (fun w => symbol_at y s m r h3 h4 hs hm hr w)
    clear HSY
    by_cases hz : z < 1 ∨ 32768 < z
    · have HV : dstV z = (-1, 0, 0) := if_pos hz
      rw [HV] at HDI
      have HDI : Hid (∀ w, Calls _ _ _ w fun e w' => e = .returned (.tuple #[.int .i64 (-1), .int .i64 0, .int .i64 0]) ∧ w = w') := HDI
      clear HV
      have hmi : (m : Int) = (m : Int) := rfl
      rcases hz with hz | hz
      · have d1 : decide (z < 1) = true := decide_eq_true hz
        go_enter Try.func6, Try.ntmps6
        go_wp2_with (first
          | (go_at_call 13; (with_reducible refine (first7_any _).mono ?_); go_must (rintro e w1 ⟨rfl, hb1⟩; first | (have HB9 := Lib.hid (HB1.out.trans (hb1.mono HB1.out.size))) | (have HB1 := Lib.hid hb1); clear hb1))
          | (go_at_call 19; (with_reducible refine (HS1.out _).mono ?_); go_must (rintro e w3 ⟨rfl, rfl⟩))
          | (go_at_call 20; (with_reducible refine (HDI.out _).mono ?_); go_must (rintro e w3 ⟨rfl, rfl⟩)))
        go_ret
        exact ⟨rfl, HB9.out⟩
      · have d1 : ¬ z < 1 := by omega
        go_enter Try.func6, Try.ntmps6
        go_wp2_with (first
          | (go_at_call 13; (with_reducible refine (first7_any _).mono ?_); go_must (rintro e w1 ⟨rfl, hb1⟩; first | (have HB9 := Lib.hid (HB1.out.trans (hb1.mono HB1.out.size))) | (have HB1 := Lib.hid hb1); clear hb1))
          | (go_at_call 19; (with_reducible refine (HS1.out _).mono ?_); go_must (rintro e w3 ⟨rfl, rfl⟩))
          | (go_at_call 20; (with_reducible refine (HDI.out _).mono ?_); go_must (rintro e w3 ⟨rfl, rfl⟩)))
        go_ret
        exact ⟨rfl, HB9.out⟩
    · obtain ⟨v, rfl⟩ : ∃ v : Nat, z = (v : Int) := ⟨z.toNat, by omega⟩
      have h5 : 1 ≤ v := by omega
      have h6 : v ≤ 32768 := by omega
      have h5i : ¬ (v : Int) < 1 := by omega
      have h6i : ¬ 32768 < (v : Int) := by omega
      obtain ⟨t, ht⟩ : ∃ t, distS v = t := ⟨_, rfl⟩
      obtain ⟨m2, hm2⟩ : ∃ m, (distOf (distS v)).2 = m := ⟨_, rfl⟩
      obtain ⟨r2, hr2⟩ : ∃ r, v - (distOf (distS v)).1 = r := ⟨_, rfl⟩
      have HD1 := Lib.hid (fun w => distance_at v t m2 r2 h5 h6 ht hm2 hr2 w)
      clear HDI
      have hfit := lenS_fit h3 h4
      have hfit2 := distS_fit h5 h6
      have hs1 := lenS_spec h3
      have hs2 := distS_spec h5
      have hb1 := lenOf_le hs1.1
      have hb2 := distOf_le hs2.1
      have hf1 : y - r = (lenOf (lenS y)).1 := by have := hs1.2.1; omega
      have hf2 : v - r2 = (distOf (distS v)).1 := by have := hs2.2.1; omega
      have hfl : 3 ≤ (lenOf (lenS y)).1 := by
        rcases le28 hs1.1 with e | e | e | e | e | e | e | e | e | e | e | e | e | e | e | e | e | e | e | e | e | e | e | e | e | e | e | e | e <;> (rw [e]; decide)
      have hfd : 1 ≤ (distOf (distS v)).1 := by
        rcases le29 hs2.1 with e | e | e | e | e | e | e | e | e | e | e | e | e | e | e | e | e | e | e | e | e | e | e | e | e | e | e | e | e | e <;> (rw [e]; decide)
      have HS2 := Lib.hid (fun w => symbol_at (y - r) s (lenOf (lenS (y - r))).2 (y - r - (lenOf (lenS (y - r))).1) (by omega) (by omega) (by rw [hf1, lenS_first hs1.1]; exact hs) rfl rfl w)
      have HD2 := Lib.hid (fun w => distance_at (v - r2) t (distOf (distS (v - r2))).2 (v - r2 - (distOf (distS (v - r2))).1) (by omega) (by omega) (by rw [hf2, distS_first hs2.1]; exact ht) rfl rfl w)
      obtain ⟨V, M, R, hn1, hc1⟩ := next_len y s m r h3 h4 hs hr
      obtain ⟨V2, M2, R2, hn2, hc2⟩ := next_dist v t m2 r2 h5 h6 ht hr2
      have HN1 := Lib.hid hn1
      have HN2 := Lib.hid hn2
      have hss : 257 ≤ s ∧ s ≤ 285 := by omega
      have htt : t ≤ 29 := by omega
      rw [hm] at hfit hb1
      rw [hr] at hfit
      rw [hm2] at hfit2 hb2
      rw [hr2] at hfit2
      have hm5 : m ≤ 5 := hb1.2
      have hm13 : m2 ≤ 13 := hb2.2
      have hrl : r ≤ 258 := by omega
      have hrl2 : r2 ≤ 32768 := by omega
      have hy1 : (y : Int) - (r : Int) = ((y - r : Nat) : Int) := by omega
      have hv1 : (v : Int) - (r2 : Int) = ((v - r2 : Nat) : Int) := by omega
      have sh1 := shr_zero hfit
      have sh2 := shr_zero hfit2
      clear hn1 hn2 hs hm hr ht hm2 hr2 hf1 hf2 hfl hfd hs1 hs2 hb1 hb2 hfit hfit2
      generalize (lenOf (lenS (y - r))).2 = ma at *
      generalize y - r - (lenOf (lenS (y - r))).1 = ra at *
      generalize (distOf (distS (v - r2))).2 = mb at *
      generalize v - r2 - (distOf (distS (v - r2))).1 = rb at *
      generalize y - r = ya at *
      generalize v - r2 = va at *
      have s1 : ¬ (s : Int) < 257 := by omega
      have s2 : ¬ 285 < (s : Int) := by omega
      have s3 : ¬ (m : Int) < 0 := by omega
      have s4 : ¬ 5 < (m : Int) := by omega
      have s5 : ¬ (r : Int) < 0 := by omega
      have t1 : ¬ (t : Int) < 0 := by omega
      have t2 : ¬ 29 < (t : Int) := by omega
      have t3 : ¬ (m2 : Int) < 0 := by omega
      have t4 : ¬ 13 < (m2 : Int) := by omega
      have t5 : ¬ (r2 : Int) < 0 := by omega
      have HC1 := Lib.hid hc1
      have HC2 := Lib.hid hc2
      clear hc1 hc2
      go_enter Try.func6, Try.ntmps6
      go_upto_region 15 with (first
        | (go_at_call 13; (with_reducible refine (first7_any _).mono ?_); go_must (rintro e w1 ⟨rfl, hb1⟩; have HB1 := Lib.hid hb1; clear hb1))
        | (go_at_call 19; (with_reducible refine (HS1.out _).mono ?_); go_must (rintro e w3 ⟨rfl, rfl⟩))
        | (go_at_call 19; (with_reducible refine (HS2.out _).mono ?_); go_must (rintro e w3 ⟨rfl, rfl⟩))
        | (go_at_call 19; (with_reducible refine (HN1.out _).mono ?_); go_must (rintro e w3 ⟨rfl, rfl⟩))
        | (go_at_call 20; (with_reducible refine (HD1.out _).mono ?_); go_must (rintro e w3 ⟨rfl, rfl⟩))
        | (go_at_call 20; (with_reducible refine (HD2.out _).mono ?_); go_must (rintro e w3 ⟨rfl, rfl⟩))
        | (go_at_call 20; (with_reducible refine (HN2.out _).mono ?_); go_must (rintro e w3 ⟨rfl, rfl⟩)))
      clear HS1 HS2 HN1 HN2 HD1 HD2 sh1 sh2 s1 s2 s3 s4 s5 t1 t2 t3 t4 t5
      by_cases hs285 : ((s : Int) == 285) = true
      · rcases HC1.out with c1 | ⟨c1, c2, c3⟩ | ⟨c1, c2, c3⟩ <;> rcases HC2.out with k1 | ⟨k1, k2, k3⟩ | ⟨k1, k2, k3, k4⟩
        all_goals
          go_wp2_with ((go_at_call 13; (with_reducible refine (first7_any _).mono ?_); go_must (rintro e w9 ⟨rfl, hb9⟩; have HB9 := Lib.hid (HB1.out.trans (hb9.mono HB1.out.size)); clear hb9)))
          go_ret
          exact ⟨rfl, HB9.out⟩
      · have hs285f : ((s : Int) == 285) = false := by simpa using hs285
        rcases HC1.out with c1 | ⟨c1, c2, c3⟩ | ⟨c1, c2, c3⟩ <;> rcases HC2.out with k1 | ⟨k1, k2, k3⟩ | ⟨k1, k2, k3, k4⟩
        all_goals
          go_wp2_with ((go_at_call 13; (with_reducible refine (first7_any _).mono ?_); go_must (rintro e w9 ⟨rfl, hb9⟩; have HB9 := Lib.hid (HB1.out.trans (hb9.mono HB1.out.size)); clear hb9)))
          go_ret
          exact ⟨rfl, HB9.out⟩
end Go.Proofs.Ytcancpnepfnhmaa
