/- pix: pictures: which may be; here and in the reference. -/
import Derived.Test.YtmffmijjdpjaiaaPix1
import Derived.Deep.RegionHeld3
namespace Go.Proofs.Ytmffmijjdpjaiaa
set_option linter.all false
open Go.RowKit

set_option maxHeartbeats 800000 in
theorem size9_any (s : Sh) (w : World) : Calls Try.prog 38 #[s.v] w fun e w' => e = .returned (.int .i64 s.size) ∧ Below w.heap.size w w' := by
  have hB := Below.refl w.heap.size w
  have HW := Lib.hid (fun w => row9_any s w)
  cases hn : s.nums with
  | true =>
    have hb := Sh.bounds s hn
    have hq := (Sh.nums_iff s).1 hn
    rw [Sh.size_ok hn]
    obtain ⟨-, -, ⟨b1, b2⟩, ⟨b3, b4⟩⟩ := hb
    obtain ⟨-, ⟨q1, q2⟩, -, -⟩ := hq
    clear hn
    obtain ⟨rr, hrr⟩ : ∃ r, r = s.row := ⟨_, rfl⟩
    rw [← hrr] at b1 b2 b3 b4 ⊢
    have HR := Lib.hid hrr
    clear hrr
    obtain ⟨W, H, C, D⟩ := s
    dsimp only at b1 b2 b3 b4 q1 q2 ⊢
    show Calls _ _ #[.agg #[.int .i64 W, .int .i64 H, .int .i64 C, .int .i64 D]] w _
    go_enter Try.func38, Try.ntmps38
    go_wp2
    go_region_held3 (fun w' => w'.cell? ⟨w.heap.size, 0, none⟩ = some (.int .i64 W) ∧ w'.cell? ⟨w.heap.size, 1, none⟩ = some (.int .i64 H) ∧ w'.cell? ⟨w.heap.size, 2, none⟩ = some (.int .i64 C) ∧ w'.cell? ⟨w.heap.size, 3, none⟩ = some (.int .i64 D))
      (first | go_keep | exact ⟨c0, c1, c2, c3⟩)
      (first
      | (go_at_call 44; go_must (refine (HW.out _).mono ?_; rintro e w1 ⟨rfl, hb1⟩; rw [← HR.out]; obtain ⟨c0, c1, c2, c3⟩ := cells4d (by simp) hb1; replace hB := bxdd hb1; clear hb1)))
    all_goals
      go_wp2
      go_ret
      exact ⟨ret_int (wrapI _ (by omega) (by omega)), hB⟩
  | false =>
    have HR := Lib.hid (show s.row = 0 by unfold Sh.row; rw [hn]; rfl)
    rw [Sh.size_no hn]
    clear hn
    obtain ⟨W, H, C, D⟩ := s
    show Calls _ _ #[.agg #[.int .i64 W, .int .i64 H, .int .i64 C, .int .i64 D]] w _
    rcases (by omega : H < 0 ∨ (0 ≤ H ∧ H ≤ 256) ∨ (0 ≤ H ∧ 256 < H)) with q | ⟨q, q'⟩ | ⟨q, q'⟩
    · have d1 : decide (H < 0) = true := by simp; omega
      have d2 : ¬ (0 ≤ H) := by omega
      go_enter Try.func38, Try.ntmps38
      go_wp2
      go_region_held3 (fun w' => w'.cell? ⟨w.heap.size, 0, none⟩ = some (.int .i64 W) ∧ w'.cell? ⟨w.heap.size, 1, none⟩ = some (.int .i64 H) ∧ w'.cell? ⟨w.heap.size, 2, none⟩ = some (.int .i64 C) ∧ w'.cell? ⟨w.heap.size, 3, none⟩ = some (.int .i64 D))
        (first | go_keep | exact ⟨c0, c1, c2, c3⟩)
        (first
        | (go_at_call 44; go_must (refine (HW.out _).mono ?_; rintro e w1 ⟨rfl, hb1⟩; rw [HR.out]; obtain ⟨c0, c1, c2, c3⟩ := cells4d (by simp) hb1; replace hB := bxdd hb1; clear hb1)))
      all_goals
        go_wp2
        go_ret
        exact ⟨rfl, hB⟩
    · have d1 : decide (H < 0) = false := by simp; omega
      have d2 : ¬ (256 < H) := by omega
      go_enter Try.func38, Try.ntmps38
      go_wp2
      go_region_held3 (fun w' => w'.cell? ⟨w.heap.size, 0, none⟩ = some (.int .i64 W) ∧ w'.cell? ⟨w.heap.size, 1, none⟩ = some (.int .i64 H) ∧ w'.cell? ⟨w.heap.size, 2, none⟩ = some (.int .i64 C) ∧ w'.cell? ⟨w.heap.size, 3, none⟩ = some (.int .i64 D))
        (first | go_keep | exact ⟨c0, c1, c2, c3⟩)
        (first
        | (go_at_call 44; go_must (refine (HW.out _).mono ?_; rintro e w1 ⟨rfl, hb1⟩; rw [HR.out]; obtain ⟨c0, c1, c2, c3⟩ := cells4d (by simp) hb1; replace hB := bxdd hb1; clear hb1)))
      all_goals
        go_wp2
        go_ret
        exact ⟨rfl, hB⟩
    · have d1 : decide (H < 0) = false := by simp; omega
      have d2 : ¬ (H ≤ 256) := by omega
      go_enter Try.func38, Try.ntmps38
      go_wp2
      go_region_held3 (fun w' => w'.cell? ⟨w.heap.size, 0, none⟩ = some (.int .i64 W) ∧ w'.cell? ⟨w.heap.size, 1, none⟩ = some (.int .i64 H) ∧ w'.cell? ⟨w.heap.size, 2, none⟩ = some (.int .i64 C) ∧ w'.cell? ⟨w.heap.size, 3, none⟩ = some (.int .i64 D))
        (first | go_keep | exact ⟨c0, c1, c2, c3⟩)
        (first
        | (go_at_call 44; go_must (refine (HW.out _).mono ?_; rintro e w1 ⟨rfl, hb1⟩; rw [HR.out]; obtain ⟨c0, c1, c2, c3⟩ := cells4d (by simp) hb1; replace hB := bxdd hb1; clear hb1)))
      all_goals
        go_wp2
        go_ret
        exact ⟨rfl, hB⟩

set_option maxHeartbeats 800000 in
theorem mayS_any (s : Sh) (w : World) : Calls Try.prog 46 #[s.v] w fun e w' => e = .returned (.bool s.may) ∧ Below w.heap.size w w' := by
  have hB := Below.refl w.heap.size w
  have HV := Lib.hid (fun w => numbers_any s w)
  have HW := Lib.hid (fun w => size_any s w)
  cases hn : s.nums with
  | true =>
    have HN := Lib.hid hn
    obtain ⟨zz, hz⟩ : ∃ r, r = s.size := ⟨_, rfl⟩
    have HZ := Lib.hid hz
    have HM := Lib.hid (show s.may = decide (zz ≤ 16384) by unfold Sh.may; rw [hn, hz]; rfl)
    rw [HM.out]
    clear hn hz HM
    obtain ⟨W, H, C, D⟩ := s
    show Calls _ _ #[.agg #[.int .i64 W, .int .i64 H, .int .i64 C, .int .i64 D]] w _
    go_enter Try.func46, Try.ntmps46
    go_wp2_with (first
      | (go_at_call 53; go_must (refine (HV.out _).mono ?_; rintro e w1 ⟨rfl, hb1⟩; rw [HN.out]; obtain ⟨c0, c1, c2, c3⟩ := cells4 (by simp) hb1; replace hB := bxd hb1; have hz : w.heap.size < w1.heap.size := (by have := hb1.size; simp at this; omega); clear hb1))
      | (go_at_call 54; go_must (refine (HW.out _).mono ?_; rintro e w2 ⟨rfl, hb2⟩; rw [← HZ.out]; replace c0 := bsame hb2 hz c0; replace c1 := bsame hb2 hz c1; replace c2 := bsame hb2 hz c2; replace c3 := bsame hb2 hz c3; first | replace hB := bstep hB hb2 (Nat.le_refl _) | replace hB := bstep hB.drew hb2 (Nat.le_refl _); replace hz := Nat.lt_of_lt_of_le hz hb2.size; clear hb2)))
    go_ret
    exact ⟨rfl, hB⟩
  | false =>
    have HN := Lib.hid hn
    have HM := Lib.hid (show s.may = false by unfold Sh.may; rw [hn]; rfl)
    rw [HM.out]
    clear hn HM
    obtain ⟨W, H, C, D⟩ := s
    show Calls _ _ #[.agg #[.int .i64 W, .int .i64 H, .int .i64 C, .int .i64 D]] w _
    go_enter Try.func46, Try.ntmps46
    go_wp2_with (go_at_call 53; go_must (refine (HV.out _).mono ?_; rintro e w1 ⟨rfl, hb1⟩; rw [HN.out]; obtain ⟨c0, c1, c2, c3⟩ := cells4 (by simp) hb1; replace hB := bxd hb1; have hz : w.heap.size < w1.heap.size := (by have := hb1.size; simp at this; omega); clear hb1))
    go_ret
    exact ⟨rfl, hB⟩

set_option maxHeartbeats 800000 in
theorem mayS9_any (s : Sh) (w : World) : Calls Try.prog 32 #[s.v] w fun e w' => e = .returned (.bool s.may) ∧ Below w.heap.size w w' := by
  have hB := Below.refl w.heap.size w
  have HV := Lib.hid (fun w => sides9_any s w)
  have HW := Lib.hid (fun w => size9_any s w)
  cases hn : s.nums with
  | true =>
    have HN := Lib.hid hn
    obtain ⟨zz, hz⟩ : ∃ r, r = s.size := ⟨_, rfl⟩
    have HZ := Lib.hid hz
    have HM := Lib.hid (show s.may = decide (zz ≤ 16384) by unfold Sh.may; rw [hn, hz]; rfl)
    rw [HM.out]
    clear hn hz HM
    obtain ⟨W, H, C, D⟩ := s
    show Calls _ _ #[.agg #[.int .i64 W, .int .i64 H, .int .i64 C, .int .i64 D]] w _
    go_enter Try.func32, Try.ntmps32
    go_wp2_with (first
      | (go_at_call 37; go_must (refine (HV.out _).mono ?_; rintro e w1 ⟨rfl, hb1⟩; rw [HN.out]; obtain ⟨c0, c1, c2, c3⟩ := cells4 (by simp) hb1; replace hB := bxd hb1; have hz : w.heap.size < w1.heap.size := (by have := hb1.size; simp at this; omega); clear hb1))
      | (go_at_call 38; go_must (refine (HW.out _).mono ?_; rintro e w2 ⟨rfl, hb2⟩; rw [← HZ.out]; replace c0 := bsame hb2 hz c0; replace c1 := bsame hb2 hz c1; replace c2 := bsame hb2 hz c2; replace c3 := bsame hb2 hz c3; first | replace hB := bstep hB hb2 (Nat.le_refl _) | replace hB := bstep hB.drew hb2 (Nat.le_refl _); replace hz := Nat.lt_of_lt_of_le hz hb2.size; clear hb2)))
    go_ret
    exact ⟨rfl, hB⟩
  | false =>
    have HN := Lib.hid hn
    have HM := Lib.hid (show s.may = false by unfold Sh.may; rw [hn]; rfl)
    rw [HM.out]
    clear hn HM
    obtain ⟨W, H, C, D⟩ := s
    show Calls _ _ #[.agg #[.int .i64 W, .int .i64 H, .int .i64 C, .int .i64 D]] w _
    go_enter Try.func32, Try.ntmps32
    go_wp2_with (go_at_call 37; go_must (refine (HV.out _).mono ?_; rintro e w1 ⟨rfl, hb1⟩; rw [HN.out]; obtain ⟨c0, c1, c2, c3⟩ := cells4 (by simp) hb1; replace hB := bxd hb1; have hz : w.heap.size < w1.heap.size := (by have := hb1.size; simp at this; omega); clear hb1))
    go_ret
    exact ⟨rfl, hB⟩


/-- A picture. -/
def Sh.r (s : Sh) (A : Option Addr) (n c : Nat) : Value := .agg #[.int .i64 s.w, .int .i64 s.h, .int .i64 s.c, .int .i64 s.d, .slice A n c]
def Sh.mayR (s : Sh) (n : Nat) : Bool := s.may && decide ((n : Int) = s.size)
theorem cells5 {w w1 : World} {a b c d f : Value} {t : TypeId} {fr : Nat × Nat} {B : Nat} (hB : w.heap.size < B) (h : Below B (w.alloc (.cells #[a, b, c, d, f] t fr)) w1) :
    w1.cell? ⟨w.heap.size, 0, none⟩ = some a ∧ w1.cell? ⟨w.heap.size, 1, none⟩ = some b ∧ w1.cell? ⟨w.heap.size, 2, none⟩ = some c ∧ w1.cell? ⟨w.heap.size, 3, none⟩ = some d ∧ w1.cell? ⟨w.heap.size, 4, none⟩ = some f := by
  refine ⟨bsame h hB ?_, bsame h hB ?_, bsame h hB ?_, bsame h hB ?_, bsame h hB ?_⟩ <;> (rw [cell_of_row (w.alloc (.cells #[a, b, c, d, f] t fr)) w.heap.size _ #[a, b, c, d, f] t fr (heap_alloc_new w _)]; rfl)

theorem cells5d {w w1 : World} {a b c d f : Value} {t : TypeId} {fr : Nat × Nat} {B : Nat} (hB : w.heap.size < B) (h : Below B (w.alloc (.cells #[a, b, c, d, f] t fr)).drew w1) :
    w1.cell? ⟨w.heap.size, 0, none⟩ = some a ∧ w1.cell? ⟨w.heap.size, 1, none⟩ = some b ∧ w1.cell? ⟨w.heap.size, 2, none⟩ = some c ∧ w1.cell? ⟨w.heap.size, 3, none⟩ = some d ∧ w1.cell? ⟨w.heap.size, 4, none⟩ = some f :=
  cells5 (w := w.drew) hB h

end Go.Proofs.Ytmffmijjdpjaiaa
