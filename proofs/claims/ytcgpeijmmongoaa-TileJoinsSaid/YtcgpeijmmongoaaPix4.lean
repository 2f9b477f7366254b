/- pix: places. -/
import Derived.Test.YtcgpeijmmongoaaPix3
namespace Go.Proofs.Ytcgpeijmmongoaa
set_option linter.all false
open Go.RowKit

def Sh.inB (s : Sh) (x y c : Int) : Bool := !(decide (x < 0) || decide (s.w ≤ x) || decide (y < 0) || decide (s.h ≤ y) || decide (c < 0) || decide (s.c ≤ c))
theorem Sh.inB_iff (s : Sh) (x y c : Int) : s.inB x y c = true ↔ (0 ≤ x ∧ x < s.w) ∧ (0 ≤ y ∧ y < s.h) ∧ (0 ≤ c ∧ c < s.c) := by
  simp [Sh.inB]
  omega
theorem Sh.outB {s : Sh} {x y c : Int} (h : s.inB x y c = false) : x < 0 ∨ s.w ≤ x ∨ y < 0 ∨ s.h ≤ y ∨ c < 0 ∨ s.c ≤ c := by
  have := Sh.inB_iff s x y c
  rw [h] at this
  simp at this
  omega
theorem Sh.mayR_nums {s : Sh} {n : Nat} (h : s.mayR n = true) : s.nums = true := by
  unfold Sh.mayR Sh.may at h
  simp at h
  exact h.1.1
theorem Sh.mayR_size {s : Sh} {n : Nat} (h : s.mayR n = true) : (n : Int) = s.size ∧ s.size ≤ 16384 := by
  unfold Sh.mayR Sh.may at h
  simp at h
  exact ⟨h.2, h.1.2⟩
def Sh.place (s : Sh) (n : Nat) (x y c : Int) : Int × Int := if s.mayR n then (if s.inB x y c then (y * s.row + (x * s.c + c) * s.d / 8, 0) else (0, 1)) else (0, 4)
theorem Sh.place_bounds {s : Sh} {x y c : Int} (hn : s.nums = true) (hi : s.inB x y c = true) :
    (0 ≤ y * s.row ∧ y * s.row ≤ 524288) ∧ (0 ≤ x * s.c ∧ x * s.c ≤ 1024) ∧ (0 ≤ (x * s.c + c) * s.d ∧ (x * s.c + c) * s.d ≤ 16448) ∧ y * s.row + (x * s.c + c) * s.d / 8 + s.d / 8 ≤ s.size := by
  have hb := Sh.bounds s hn
  obtain ⟨⟨w1, w2⟩, ⟨h1, h2⟩, ⟨c1, c2⟩, hd⟩ := (Sh.nums_iff s).1 hn
  obtain ⟨⟨x1, x2⟩, ⟨y1, y2⟩, ⟨k1, k2⟩⟩ := (Sh.inB_iff s x y c).1 hi
  obtain ⟨-, -, ⟨r1, r2⟩, -⟩ := hb
  have a1 : 0 ≤ y * s.row := Int.mul_nonneg y1 (by omega)
  have a2 : (y + 1) * s.row ≤ s.h * s.row := Int.mul_le_mul_of_nonneg_right (by omega) (by omega)
  have a3 : s.h * s.row ≤ 256 * 2048 := Int.mul_le_mul h2 r2 (by omega) (by omega)
  have b1 : 0 ≤ x * s.c := Int.mul_nonneg x1 (by omega)
  have b2 : (x + 1) * s.c ≤ s.w * s.c := Int.mul_le_mul_of_nonneg_right (by omega) (by omega)
  have b3 : s.w * s.c ≤ 256 * 4 := Int.mul_le_mul w2 c2 (by omega) (by omega)
  rw [Int.add_mul, Int.one_mul] at a2 b2
  have hr : s.row = s.w * s.c * s.d / 8 := if_pos hn
  have hs : s.size = s.h * s.row := by rw [Sh.size_ok hn, Int.mul_comm]
  rw [hs]
  generalize s.h * s.row = hh at *
  generalize y * s.row = yr at *
  generalize s.w * s.c = wc at *
  generalize x * s.c = xc at *
  rcases hd with e | e <;> rw [e] at hr ⊢ <;> refine ⟨⟨?_, ?_⟩, ⟨?_, ?_⟩, ⟨?_, ?_⟩, ?_⟩ <;> omega

set_option maxHeartbeats 3200000 in
theorem place_any (s : Sh) (A : Option Addr) (n cc : Nat) (x y c : Int) (w : World) :
    Calls Try.prog 62 #[s.r A n cc, .int .i64 x, .int .i64 y, .int .i64 c] w fun e w' => e = .returned (.tuple #[.int .i64 (s.place n x y c).1, .int .i64 (s.place n x y c).2]) ∧ Below w.heap.size w w' := by
  have hB := Below.refl w.heap.size w
  have HV := Lib.hid (fun w => may_any s A n cc w)
  have HW := Lib.hid (fun w => row_any s w)
  cases hm : s.mayR n with
  | false =>
    have HM := Lib.hid hm
    have HP := Lib.hid (show s.place n x y c = (0, 4) by unfold Sh.place; rw [hm]; rfl)
    rw [HP.out]
    clear hm HP
    obtain ⟨W, H, C, D⟩ := s
    show Calls _ _ #[.agg #[.int .i64 W, .int .i64 H, .int .i64 C, .int .i64 D, .slice A n cc], .int .i64 x, .int .i64 y, .int .i64 c] w _
    go_enter Try.func62, Try.ntmps62
    go_wp2_with (go_at_call 20; go_must (refine (HV.out _).mono ?_; rintro e w1 ⟨rfl, hb1⟩; rw [HM.out]; replace hB := bxd (bxd hb1); clear hb1))
    go_ret2
    exact ⟨rfl, hB⟩
  | true =>
    have HM := Lib.hid hm
    have hn := Sh.mayR_nums hm
    cases hi : s.inB x y c with
    | false =>
      have HP := Lib.hid (show s.place n x y c = (0, 1) by unfold Sh.place; rw [hm, hi]; rfl)
      rw [HP.out]
      have ho := Sh.outB hi
      clear hm hi HP hn
      obtain ⟨W, H, C, D⟩ := s
      dsimp only at ho
      show Calls _ _ #[.agg #[.int .i64 W, .int .i64 H, .int .i64 C, .int .i64 D, .slice A n cc], .int .i64 x, .int .i64 y, .int .i64 c] w _
      go_enter Try.func62, Try.ntmps62
      go_wp2_with (go_at_call 20; go_must (refine (HV.out _).mono ?_; rintro e w1 ⟨rfl, hb1⟩; rw [HM.out]; obtain ⟨c0, c1, c2, c3⟩ := cells4 (by simp) hb1; rw [World.size_alloc] at c0 c1 c2 c3; replace hB := bxd (bxd hb1); clear hb1))
      all_goals first
        | (exfalso; omega)
        | (go_ret2; exact ⟨rfl, hB⟩)
    | true =>
      have HP := Lib.hid (show s.place n x y c = (y * s.row + (x * s.c + c) * s.d / 8, 0) by unfold Sh.place; rw [hm, hi]; rfl)
      rw [HP.out]
      obtain ⟨⟨p1, p2⟩, ⟨p3, p4⟩, ⟨p5, p6⟩, -⟩ := Sh.place_bounds hn hi
      obtain ⟨⟨i1, i2⟩, ⟨i3, i4⟩, ⟨i5, i6⟩⟩ := (Sh.inB_iff s x y c).1 hi
      obtain ⟨-, -, ⟨r1, r2⟩, -⟩ := Sh.bounds s hn
      obtain ⟨-, -, ⟨-, q4⟩, -⟩ := (Sh.nums_iff s).1 hn
      clear hm hi HP hn
      obtain ⟨rr, hrr⟩ : ∃ r, r = s.row := ⟨_, rfl⟩
      rw [← hrr] at p1 p2 r1 r2 ⊢
      have HR := Lib.hid hrr
      clear hrr
      obtain ⟨W, H, C, D⟩ := s
      dsimp only at p3 p4 p5 p6 i2 i4 i6 q4 ⊢
      show Calls _ _ #[.agg #[.int .i64 W, .int .i64 H, .int .i64 C, .int .i64 D, .slice A n cc], .int .i64 x, .int .i64 y, .int .i64 c] w _
      have q0 : (0 : Int) ≤ c ∧ c ≤ 4 := ⟨i5, by omega⟩
      have g1 := wrapI (y * rr) (by omega) (by omega)
      have g2 := wrapI (x * C) (by omega) (by omega)
      have g3 := wrapI (x * C + c) (by omega) (by omega)
      have g4 := wrapI ((x * C + c) * D) (by omega) (by omega)
      have g5 := wrapI (y * rr + (x * C + c) * D / 8) (by omega) (by omega)
      have g6 : ((x * C + c) * D).tdiv 8 = (x * C + c) * D / 8 := Int.tdiv_eq_ediv_of_nonneg p5
      have g7 := wrapI ((x * C + c) * D / 8) (by omega) (by omega)
      clear p1 p2 p3 p4 p5 p6 r1 r2 q0
      go_enter Try.func62, Try.ntmps62
      go_wp2_with (go_at_call 20; go_must (refine (HV.out _).mono ?_; rintro e w1 ⟨rfl, hb1⟩; rw [HM.out]; obtain ⟨c0, c1, c2, c3⟩ := cells4 (by simp) hb1; rw [World.size_alloc] at c0 c1 c2 c3; replace hB := bxd (bxd hb1); have hz : w.heap.size + 1 < w1.heap.size := (by have := hb1.size; simp at this; omega); clear hb1))
      go_region_held3 (fun w' => w'.cell? ⟨w.heap.size + 1, 0, none⟩ = some (.int .i64 W) ∧ w'.cell? ⟨w.heap.size + 1, 1, none⟩ = some (.int .i64 H) ∧ w'.cell? ⟨w.heap.size + 1, 2, none⟩ = some (.int .i64 C) ∧ w'.cell? ⟨w.heap.size + 1, 3, none⟩ = some (.int .i64 D))
        (first | go_keep | exact ⟨c0, c1, c2, c3⟩)
        (first
          | (go_at_call 35; go_must (refine (HW.out _).mono ?_; rintro e w2 ⟨rfl, hb2⟩; rw [← HR.out]; replace c0 := bsame hb2 hz c0; replace c1 := bsame hb2 hz c1; replace c2 := bsame hb2 hz c2; replace c3 := bsame hb2 hz c3; replace hB := bstep hB.drew hb2 (Nat.le_refl _); clear hb2)))
      all_goals
        go_wp2
        go_ret2
        exact ⟨rfl, hB⟩

set_option maxHeartbeats 3200000 in
theorem place9_any (s : Sh) (A : Option Addr) (n cc : Nat) (x y c : Int) (w : World) :
    Calls Try.prog 70 #[s.r A n cc, .int .i64 x, .int .i64 y, .int .i64 c] w fun e w' => e = .returned (.tuple #[.int .i64 (s.place n x y c).1, .int .i64 (s.place n x y c).2]) ∧ Below w.heap.size w w' := by
  have hB := Below.refl w.heap.size w
  have HV := Lib.hid (fun w => may9_any s A n cc w)
  have HW := Lib.hid (fun w => row9_any s w)
  cases hm : s.mayR n with
  | false =>
    have HM := Lib.hid hm
    have HP := Lib.hid (show s.place n x y c = (0, 4) by unfold Sh.place; rw [hm]; rfl)
    rw [HP.out]
    clear hm HP
    obtain ⟨W, H, C, D⟩ := s
    show Calls _ _ #[.agg #[.int .i64 W, .int .i64 H, .int .i64 C, .int .i64 D, .slice A n cc], .int .i64 x, .int .i64 y, .int .i64 c] w _
    go_enter Try.func70, Try.ntmps70
    go_wp2_with (go_at_call 53; go_must (refine (HV.out _).mono ?_; rintro e w1 ⟨rfl, hb1⟩; rw [HM.out]; replace hB := bxd (bxd hb1); clear hb1))
    go_ret2
    exact ⟨rfl, hB⟩
  | true =>
    have HM := Lib.hid hm
    have hn := Sh.mayR_nums hm
    cases hi : s.inB x y c with
    | false =>
      have HP := Lib.hid (show s.place n x y c = (0, 1) by unfold Sh.place; rw [hm, hi]; rfl)
      rw [HP.out]
      have ho := Sh.outB hi
      clear hm hi HP hn
      obtain ⟨W, H, C, D⟩ := s
      dsimp only at ho
      show Calls _ _ #[.agg #[.int .i64 W, .int .i64 H, .int .i64 C, .int .i64 D, .slice A n cc], .int .i64 x, .int .i64 y, .int .i64 c] w _
      go_enter Try.func70, Try.ntmps70
      go_wp2_with (go_at_call 53; go_must (refine (HV.out _).mono ?_; rintro e w1 ⟨rfl, hb1⟩; rw [HM.out]; obtain ⟨c0, c1, c2, c3⟩ := cells4 (by simp) hb1; rw [World.size_alloc] at c0 c1 c2 c3; replace hB := bxd (bxd hb1); clear hb1))
      all_goals first
        | (exfalso; omega)
        | (go_ret2; exact ⟨rfl, hB⟩)
    | true =>
      have HP := Lib.hid (show s.place n x y c = (y * s.row + (x * s.c + c) * s.d / 8, 0) by unfold Sh.place; rw [hm, hi]; rfl)
      rw [HP.out]
      obtain ⟨⟨p1, p2⟩, ⟨p3, p4⟩, ⟨p5, p6⟩, -⟩ := Sh.place_bounds hn hi
      obtain ⟨⟨i1, i2⟩, ⟨i3, i4⟩, ⟨i5, i6⟩⟩ := (Sh.inB_iff s x y c).1 hi
      obtain ⟨-, -, ⟨r1, r2⟩, -⟩ := Sh.bounds s hn
      obtain ⟨-, -, ⟨-, q4⟩, -⟩ := (Sh.nums_iff s).1 hn
      clear hm hi HP hn
      obtain ⟨rr, hrr⟩ : ∃ r, r = s.row := ⟨_, rfl⟩
      rw [← hrr] at p1 p2 r1 r2 ⊢
      have HR := Lib.hid hrr
      clear hrr
      obtain ⟨W, H, C, D⟩ := s
      dsimp only at p3 p4 p5 p6 i2 i4 i6 q4 ⊢
      show Calls _ _ #[.agg #[.int .i64 W, .int .i64 H, .int .i64 C, .int .i64 D, .slice A n cc], .int .i64 x, .int .i64 y, .int .i64 c] w _
      have q0 : (0 : Int) ≤ c ∧ c ≤ 4 := ⟨i5, by omega⟩
      have g1 := wrapI (y * rr) (by omega) (by omega)
      have g2 := wrapI (x * C) (by omega) (by omega)
      have g3 := wrapI (x * C + c) (by omega) (by omega)
      have g4 := wrapI ((x * C + c) * D) (by omega) (by omega)
      have g5 := wrapI (y * rr + (x * C + c) * D / 8) (by omega) (by omega)
      have g6 : ((x * C + c) * D).tdiv 8 = (x * C + c) * D / 8 := Int.tdiv_eq_ediv_of_nonneg p5
      have g7 := wrapI ((x * C + c) * D / 8) (by omega) (by omega)
      clear p1 p2 p3 p4 p5 p6 r1 r2 q0
      go_enter Try.func70, Try.ntmps70
      go_wp2_with (go_at_call 53; go_must (refine (HV.out _).mono ?_; rintro e w1 ⟨rfl, hb1⟩; rw [HM.out]; obtain ⟨c0, c1, c2, c3⟩ := cells4 (by simp) hb1; rw [World.size_alloc] at c0 c1 c2 c3; replace hB := bxd (bxd hb1); have hz : w.heap.size + 1 < w1.heap.size := (by have := hb1.size; simp at this; omega); clear hb1))
      go_region_held3 (fun w' => w'.cell? ⟨w.heap.size + 1, 0, none⟩ = some (.int .i64 W) ∧ w'.cell? ⟨w.heap.size + 1, 1, none⟩ = some (.int .i64 H) ∧ w'.cell? ⟨w.heap.size + 1, 2, none⟩ = some (.int .i64 C) ∧ w'.cell? ⟨w.heap.size + 1, 3, none⟩ = some (.int .i64 D))
        (first | go_keep | exact ⟨c0, c1, c2, c3⟩)
        (first
          | (go_at_call 54; go_must (refine (HW.out _).mono ?_; rintro e w2 ⟨rfl, hb2⟩; rw [← HR.out]; replace c0 := bsame hb2 hz c0; replace c1 := bsame hb2 hz c1; replace c2 := bsame hb2 hz c2; replace c3 := bsame hb2 hz c3; replace hB := bstep hB.drew hb2 (Nat.le_refl _); clear hb2)))
      all_goals
        go_wp2
        go_ret2
        exact ⟨rfl, hB⟩


end Go.Proofs.Ytcgpeijmmongoaa
