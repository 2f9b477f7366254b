/- The reference's four calls on numbers: the same answers. -/
import Derived.Test.YtlhhhoolnojegaaNum5
namespace Go.Proofs.Ytlhhhoolnojegaa
set_option linter.all false
open Go.RowKit

theorem beB_at (n W k : Nat) (hk : k < W) : (beB n W)[W - 1 - k]? = some (UInt8.ofNat (n / 2 ^ (8 * k))) := by
  unfold beB leB
  rw [List.getElem?_reverse (by simp; omega)]
  simp
  rw [List.getElem?_range (by omega)]
  simp
  congr 3
  omega

theorem beB_step (n W k : Nat) (hk : k < W) : (beB n W).take (W - k) = (beB n W).take (W - (k + 1)) ++ [UInt8.ofNat (n / 2 ^ (8 * k))] := by
  have h := beB_at n W k hk
  obtain ⟨h1, h2⟩ := List.getElem?_eq_some_iff.1 h
  have e : W - k = (W - 1 - k) + 1 := by omega
  rw [e, List.take_succ_eq_append_getElem h1, h2, show W - (k + 1) = W - 1 - k by omega]

set_option maxHeartbeats 800000 in
theorem bigR_ok (n : Int) (W : Nat) (w : World) (h0 : 0 ≤ n) (h1 : 1 ≤ W) (h2 : W ≤ 6) (h3 : decide (0 < n / 2 ^ (8 * W)) = false) :
    Calls Try.prog 17 #[.int .i64 n, .int .i64 W] w fun e w' => ∃ v, e = .returned (.tuple #[v, .int .i64 0]) ∧
      ownB w' w.heap.size v (beB n.toNat W) ∧ Below w.heap.size w w' := by
  have d1 : decide ((W : Int) < 1) = false := by simp; omega
  have d2 : decide (6 < (W : Int)) = false := by simp; omega
  have d3 : decide (n < 0) = false := by simp; omega
  go_enter Try.func17, Try.ntmps17
  go_wp2
  go_loopw [6, 7] (fun v i wr => ∃ k : Nat, k ≤ W ∧ i = .int .i64 ((k : Int) - 1) ∧ ownB wr w.heap.size v ((beB n.toNat W).take (W - k)) ∧ Below w.heap.size w wr)
    (fun _ i _ => (intOf i + 1).toNat)
  case atStart => exact ⟨W, Nat.le_refl _, rfl, by simpa using ownB.nil_ _ _, Below.refl _ _⟩
  case round =>
    obtain ⟨k, hk, rfl, hown, hB⟩ := hrel
    by_cases hlt : k = 0
    · subst hlt
      rw [Nat.sub_zero, List.take_of_length_le (by rw [beB_len]; omega)] at hown
      go_wp2
      go_ret2
      exact ⟨_, rfl, hown, hB⟩
    · obtain ⟨m, rfl⟩ : ∃ m, k = m + 1 := ⟨k - 1, by omega⟩
      rw [show ((m + 1 : Nat) : Int) - 1 = (m : Int) by omega]
      have HS := Lib.hid (beB_step n.toNat W m (by omega))
      have hle : ((beB n.toNat W).take (W - (m + 1))).length ≤ 6 := by simp; omega
      have hu := (u8_ofNat n h0 m).symm
      have HU := Lib.hid hu
      clear hu hlt
      go_wp2_with (at_builtin; go_must (refine wpList_appendB rfl (.tmp 32) (.tmp 39) rfl w.heap.size _ _ rfl (ownB.alloc hown _) _ 1 1 _ [UInt8.ofNat (n.toNat / 2 ^ (8 * m))] rfl (rd_one _ _ _ HU.out) (by omega) (by have := hB.size; simp; omega) ?_; intro v1 w1 hown1 hg1 hb1 hat1))
      clear hg1 hat1
      go_roundw
      case rel => exact ⟨m, by omega, by go_num, by rw [HS.out]; exact hown1, (hB.alloc hB.size _).trans hb1⟩
      case measure => simp [intOf]

/-- The reference's answer where the number does not fit. -/
theorem bigR_bad (n width : Int) (w : World) (h : width < 1 ∨ 6 < width ∨ n < 0 ∨ (0 ≤ n ∧ 1 ≤ width ∧ width ≤ 6 ∧ 0 < n / 2 ^ (8 * width).toNat)) :
    Calls Try.prog 17 #[.int .i64 n, .int .i64 width] w fun e w' => e = .returned (.tuple #[.slice none 0 0, .int .i64 1]) ∧ w = w' := by
  rcases h with h | h | h | ⟨h0, h1, h2, h3⟩
  · have d1 : decide (width < 1) = true := by simp; omega
    go_enter Try.func17, Try.ntmps17
    go_wp2
    go_ret2
    exact ⟨rfl, rfl⟩
  · have d1 : decide (width < 1) = false := by simp; omega
    have d2 : decide (6 < width) = true := by simp; omega
    go_enter Try.func17, Try.ntmps17
    go_wp2
    go_ret2
    exact ⟨rfl, rfl⟩
  · by_cases h1 : width < 1
    · have d1 : decide (width < 1) = true := by simp; omega
      go_enter Try.func17, Try.ntmps17
      go_wp2
      go_ret2
      exact ⟨rfl, rfl⟩
    · have d1 : decide (width < 1) = false := by simp; omega
      by_cases h2 : 6 < width
      · have d2 : decide (6 < width) = true := by simp; omega
        go_enter Try.func17, Try.ntmps17
        go_wp2
        go_ret2
        exact ⟨rfl, rfl⟩
      · have d2 : decide (6 < width) = false := by simp; omega
        have d3 : decide (n < 0) = true := by simp; omega
        go_enter Try.func17, Try.ntmps17
        go_wp2
        go_ret2
        exact ⟨rfl, rfl⟩
  · have d1 : decide (width < 1) = false := by simp; omega
    have d2 : decide (6 < width) = false := by simp; omega
    have d3 : decide (n < 0) = false := by simp; omega
    obtain ⟨k, rfl⟩ := Int.eq_ofNat_of_zero_le (by omega : 0 ≤ width)
    have d4 : decide (0 < n / 2 ^ (8 * k)) = true := by
      rw [show (8 * (k : Int)).toNat = 8 * k by omega] at h3
      simpa using h3
    clear h3
    go_enter Try.func17, Try.ntmps17
    go_wp2
    go_ret2
    exact ⟨rfl, rfl⟩


set_option maxHeartbeats 800000 in
/-- The reference's Little turns Big's answer round, whatever Big answers. -/
theorem littleR_of (n width E : Int) (bs : List UInt8) (w : World) (hl : bs.length ≤ 6)
    (h : ∀ w : World, Calls Try.prog 17 #[.int .i64 n, .int .i64 width] w fun e w' => ∃ v, e = .returned (.tuple #[v, .int .i64 E]) ∧ ownB w' w.heap.size v bs ∧ Below w.heap.size w w') :
    Calls Try.prog 19 #[.int .i64 n, .int .i64 width] w fun e w' => ∃ v, e = .returned (.tuple #[v, .int .i64 E]) ∧ ownB w' w.heap.size v bs.reverse ∧ Below w.heap.size w w' := by
  have H := Lib.hid h
  clear h
  go_enter Try.func19, Try.ntmps19
  go_wp2_with (go_at_call 17; refine (H.out _).mono ?_; rintro e w1 ⟨v, rfl, hv, hb⟩; obtain ⟨A, m, c, rfl, _, _, _⟩ := hv.slice)
  have hm : m = bs.length := hv.rd.len.symm
  subst hm
  go_loopw [8] (fun i wr => ∃ k : Nat, 2 * k ≤ bs.length ∧ i = .int .i64 k ∧ ownB wr w.heap.size (.slice A bs.length c) (revP bs k) ∧ Below w.heap.size w wr)
    (fun i _ => bs.length - (intOf i).toNat)
  case atStart => exact ⟨0, by omega, rfl, by rw [revP_zero]; exact hv, hb⟩
  case round =>
    obtain ⟨k, hk, rfl, hown, hB⟩ := hrel
    by_cases hlt : 2 * k + 1 < bs.length
    · have HP : Hid (bs.length = (revP bs k).length) := (revP_len bs k).symm
      obtain ⟨e0, g, rfl, hg, _⟩ := hown.pos (by omega)
      clear e0
      obtain ⟨x, hx, cx⟩ := hown.byte HP.out (by omega : k < bs.length)
      obtain ⟨j, hj⟩ : ∃ j, j = bs.length - 1 - k := ⟨_, rfl⟩
      have HJ := Lib.hid hj
      have hj1 : j < bs.length := by omega
      have hj2 : k < j := by omega
      have hmx : bs.length ≤ 6 := hl
      have ej1 : IntKind.i64.wrap ((bs.length : Int) - 1) = (bs.length : Int) - 1 := by simp [IntKind.wrap, IntKind.bits, IntKind.signed]; omega
      have ej : IntKind.i64.wrap ((bs.length : Int) - 1 - k) = j := by simp [IntKind.wrap, IntKind.bits, IntKind.signed]; omega
      clear hj
      obtain ⟨y, hy, cy⟩ := hown.byte HP.out hj1
      have fk := hown.frozen HP.out k
      have fj := hown.frozen HP.out j
      have cy' : ∀ u, (wr.setCell ⟨g, k, none⟩ u).cell? ⟨g, j, none⟩ = some (.int .u8 y.toNat) := fun u => by
        rw [World.cell?_setCell_other _ _ _ _ (by intro e; injection e; omega)]; exact cy
      have Hs : Hid (ownB ((wr.setCell ⟨g, k, none⟩ (.int .u8 y.toNat)).setCell ⟨g, j, none⟩ (.int .u8 x.toNat)) w.heap.size (.slice (some ⟨g, 0, none⟩) bs.length c) (revP bs (k + 1))) := by
        have h1 := hown.store HP.out k y
        have h2 := h1.store (by rw [List.length_set]; exact HP.out) j x
        have e := revP_step bs k hlt
        have ex : bs.getD k 0 = x := by
          have := revP_low bs k hlt
          rw [← this]
          obtain ⟨_, e2⟩ := List.getElem?_eq_some_iff.1 hx.out
          exact e2
        have ey : bs.getD (bs.length - 1 - k) 0 = y := by
          have := revP_high bs k hlt
          rw [← this]
          obtain ⟨_, e2⟩ := List.getElem?_eq_some_iff.1 hy.out
          simp only [HJ.out] at e2
          exact e2
        rw [ex, ey, ← HJ.out] at e
        rw [e] at h2
        exact h2
      clear hx hy hown
      go_wp2
      go_region
      clear ej ej1
      go_wp2
      go_roundw
      case rel => exact ⟨k + 1, by omega, by go_num, Hs.out, ((hB.setCell hg _).setCell hg _).drew⟩
      case measure => simp [intOf]; omega
    · have hk2 : revP bs k = bs.reverse := revP_end bs k (by omega) hk
      rw [hk2] at hown
      have HK := Lib.hid hk2
      clear hk2
      go_wp2
      go_ret2
      exact ⟨_, rfl, hown, hB⟩

theorem bigR_any (n width : Int) (w : World) :
    Calls Try.prog 17 #[.int .i64 n, .int .i64 width] w fun e w' => ∃ v, e = .returned (.tuple #[v, .int .i64 (beR n width).2]) ∧ ownB w' w.heap.size v (beR n width).1 ∧ Below w.heap.size w w' := by
  unfold beR
  by_cases h : numOk n width
  · rw [if_pos h]
    obtain ⟨h1, h2, h3, h4⟩ := h
    obtain ⟨W, rfl⟩ := Int.eq_ofNat_of_zero_le (by omega : 0 ≤ width)
    rw [Int.toNat_natCast] at h4 ⊢
    exact bigR_ok n W w h3 (by omega) (by omega) (by simp; omega)
  · rw [if_neg h]
    refine (bigR_bad n width w (numBad h)).mono ?_
    rintro e w' ⟨rfl, rfl⟩
    exact ⟨_, rfl, ownB.nil_ _ _, Below.refl _ _⟩

theorem beR_rev (n width : Int) : (beR n width).1.reverse = (leR n width).1 ∧ (beR n width).2 = (leR n width).2 ∧ (beR n width).1.length ≤ 6 := by
  unfold beR leR
  by_cases h : numOk n width
  · rw [if_pos h, if_pos h]
    obtain ⟨h1, h2, _, _⟩ := h
    exact ⟨by simp [beB], rfl, by simp [beB_len]; omega⟩
  · rw [if_neg h, if_neg h]; simp

theorem littleR_any (n width : Int) (w : World) :
    Calls Try.prog 19 #[.int .i64 n, .int .i64 width] w fun e w' => ∃ v, e = .returned (.tuple #[v, .int .i64 (leR n width).2]) ∧ ownB w' w.heap.size v (leR n width).1 ∧ Below w.heap.size w w' := by
  obtain ⟨h1, h2, h3⟩ := beR_rev n width
  rw [← h1, ← h2]
  exact littleR_of n width _ _ w h3 (fun w => bigR_any n width w)
end Go.Proofs.Ytlhhhoolnojegaa
