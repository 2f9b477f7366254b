/- pix: pictures: which may be; here and in the reference. -/
import Derived.Test.YtcancpnepfnhmaaMaPix1
import Derived.Deep.RegionHeld3
namespace Go.Proofs.Ytcancpnepfnhmaa
set_option linter.all false
open Go.RowKit

set_option maxHeartbeats 800000 in
theorem mayS_any (s : Sh) (w : World) : Calls Try.prog 30 #[s.v] w fun e w' => e = .returned (.bool s.may) ∧ Below w.heap.size w w' := by
  have hB := Below.refl w.heap.size w
  have HV := Lib.hid (fun w => numbers_any s w)
  have HW := Lib.hid (fun w => size_any s w)
  cases hn : s.nums with
  | true =>
    have HN := Lib.hid hn
    obtain ⟨zz, hz⟩ : ∃ r, r = s.size := ⟨_, rfl⟩
    have HZ := Lib.hid hz
    have HM := Lib.hid (show s.may = decide (zz ≤ 16384) by unfold Sh.may; rw [hn, hz]; rfl)
    rw [HM.out]
    clear hn hz HM
    obtain ⟨W, H, C, D⟩ := s
    show Calls _ _ #[.agg #[.int .i64 W, .int .i64 H, .int .i64 C, .int .i64 D]] w _
    go_enter Try.func30, Try.ntmps30
    go_wp2_with (first
      | (go_at_call 62; go_must (refine (HV.out _).mono ?_; rintro e w1 ⟨rfl, hb1⟩; rw [HN.out]; obtain ⟨c0, c1, c2, c3⟩ := cells4 (by simp) hb1; replace hB := bxd hb1; have hz : w.heap.size < w1.heap.size := (by have := hb1.size; simp at this; omega); clear hb1))
      | (go_at_call 63; go_must (refine (HW.out _).mono ?_; rintro e w2 ⟨rfl, hb2⟩; rw [← HZ.out]; replace c0 := bsame hb2 hz c0; replace c1 := bsame hb2 hz c1; replace c2 := bsame hb2 hz c2; replace c3 := bsame hb2 hz c3; first | replace hB := bstep hB hb2 (Nat.le_refl _) | replace hB := bstep hB.drew hb2 (Nat.le_refl _); replace hz := Nat.lt_of_lt_of_le hz hb2.size; clear hb2)))
    go_ret
    exact ⟨rfl, hB⟩
  | false =>
    have HN := Lib.hid hn
    have HM := Lib.hid (show s.may = false by unfold Sh.may; rw [hn]; rfl)
    rw [HM.out]
    clear hn HM
    obtain ⟨W, H, C, D⟩ := s
    show Calls _ _ #[.agg #[.int .i64 W, .int .i64 H, .int .i64 C, .int .i64 D]] w _
    go_enter Try.func30, Try.ntmps30
    go_wp2_with (go_at_call 62; go_must (refine (HV.out _).mono ?_; rintro e w1 ⟨rfl, hb1⟩; rw [HN.out]; obtain ⟨c0, c1, c2, c3⟩ := cells4 (by simp) hb1; replace hB := bxd hb1; have hz : w.heap.size < w1.heap.size := (by have := hb1.size; simp at this; omega); clear hb1))
    go_ret
    exact ⟨rfl, hB⟩

/-- A picture. -/
def Sh.r (s : Sh) (A : Option Addr) (n c : Nat) : Value := .agg #[.int .i64 s.w, .int .i64 s.h, .int .i64 s.c, .int .i64 s.d, .slice A n c]
def Sh.mayR (s : Sh) (n : Nat) : Bool := s.may && decide ((n : Int) = s.size)
theorem cells5 {w w1 : World} {a b c d f : Value} {t : TypeId} {fr : Nat × Nat} {B : Nat} (hB : w.heap.size < B) (h : Below B (w.alloc (.cells #[a, b, c, d, f] t fr)) w1) :
    w1.cell? ⟨w.heap.size, 0, none⟩ = some a ∧ w1.cell? ⟨w.heap.size, 1, none⟩ = some b ∧ w1.cell? ⟨w.heap.size, 2, none⟩ = some c ∧ w1.cell? ⟨w.heap.size, 3, none⟩ = some d ∧ w1.cell? ⟨w.heap.size, 4, none⟩ = some f := by
  refine ⟨bsame h hB ?_, bsame h hB ?_, bsame h hB ?_, bsame h hB ?_, bsame h hB ?_⟩ <;> (rw [cell_of_row (w.alloc (.cells #[a, b, c, d, f] t fr)) w.heap.size _ #[a, b, c, d, f] t fr (heap_alloc_new w _)]; rfl)

theorem cells5d {w w1 : World} {a b c d f : Value} {t : TypeId} {fr : Nat × Nat} {B : Nat} (hB : w.heap.size < B) (h : Below B (w.alloc (.cells #[a, b, c, d, f] t fr)).drew w1) :
    w1.cell? ⟨w.heap.size, 0, none⟩ = some a ∧ w1.cell? ⟨w.heap.size, 1, none⟩ = some b ∧ w1.cell? ⟨w.heap.size, 2, none⟩ = some c ∧ w1.cell? ⟨w.heap.size, 3, none⟩ = some d ∧ w1.cell? ⟨w.heap.size, 4, none⟩ = some f :=
  cells5 (w := w.drew) hB h

set_option maxHeartbeats 800000 in
theorem may_any (s : Sh) (A : Option Addr) (n c : Nat) (w : World) : Calls Try.prog 92 #[s.r A n c] w fun e w' => e = .returned (.bool (s.mayR n)) ∧ Below w.heap.size w w' := by
  have hB := Below.refl w.heap.size w
  have HV := Lib.hid (fun w => mayS_any s w)
  have HW := Lib.hid (fun w => size_any s w)
  cases hn : s.may with
  | true =>
    have HN := Lib.hid hn
    obtain ⟨zz, hz⟩ : ∃ r, r = s.size := ⟨_, rfl⟩
    have HZ := Lib.hid hz
    have HM := Lib.hid (show s.mayR n = ((n : Int) == zz) by unfold Sh.mayR; rw [hn, hz]; rfl)
    rw [HM.out]
    clear hn hz HM
    obtain ⟨W, H, C, D⟩ := s
    show Calls _ _ #[.agg #[.int .i64 W, .int .i64 H, .int .i64 C, .int .i64 D, .slice A n c]] w _
    go_enter Try.func92, Try.ntmps92
    go_wp2
    go_region_held3 (fun w' => w'.cell? ⟨w.heap.size, 0, none⟩ = some (.int .i64 W) ∧ w'.cell? ⟨w.heap.size, 1, none⟩ = some (.int .i64 H) ∧ w'.cell? ⟨w.heap.size, 2, none⟩ = some (.int .i64 C) ∧ w'.cell? ⟨w.heap.size, 3, none⟩ = some (.int .i64 D) ∧ w'.cell? ⟨w.heap.size, 4, none⟩ = some (.slice A n c))
      (first | go_keep | exact ⟨c0, c1, c2, c3, c4⟩)
      (first
      | (go_at_call 30; go_must (refine (HV.out _).mono ?_; rintro e w1 ⟨rfl, hb1⟩; rw [HN.out]; obtain ⟨c0, c1, c2, c3, c4⟩ := cells5d (by simp) hb1; replace hB := bxdd hb1; have hz : w.heap.size < w1.heap.size := (by have := hb1.size; simp at this; omega); clear hb1))
      | (go_at_call 63; go_must (refine (HW.out _).mono ?_; rintro e w2 ⟨rfl, hb2⟩; rw [← HZ.out]; replace c0 := bsame hb2 hz c0; replace c1 := bsame hb2 hz c1; replace c2 := bsame hb2 hz c2; replace c3 := bsame hb2 hz c3; replace c4 := bsame hb2 hz c4; first | replace hB := bstep hB hb2 (Nat.le_refl _) | replace hB := bstep hB.drew hb2 (Nat.le_refl _); replace hz := Nat.lt_of_lt_of_le hz hb2.size; clear hb2)))
    all_goals
      go_wp2
      go_ret
      exact ⟨rfl, hB⟩
  | false =>
    have HN := Lib.hid hn
    have HM := Lib.hid (show s.mayR n = false by unfold Sh.mayR; rw [hn]; rfl)
    rw [HM.out]
    clear hn HM
    obtain ⟨W, H, C, D⟩ := s
    show Calls _ _ #[.agg #[.int .i64 W, .int .i64 H, .int .i64 C, .int .i64 D, .slice A n c]] w _
    go_enter Try.func92, Try.ntmps92
    go_wp2
    first
      | (go_region_with (first | (go_at_call 30; go_must (refine (HV.out _).mono ?_; rintro e w1 ⟨rfl, hb1⟩; rw [HN.out]; obtain ⟨c0, c1, c2, c3, c4⟩ := cells5d (by simp) hb1; replace hB := bxdd hb1; have hz : w.heap.size < w1.heap.size := (by have := hb1.size; simp at this; omega); clear hb1))))
      | fail
    all_goals
      go_wp2
      go_ret
      exact ⟨rfl, hB⟩

end Go.Proofs.Ytcancpnepfnhmaa
