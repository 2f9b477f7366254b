/- XMbFlateIn -/
import Derived.Test.YteoolehdomjkkaaMb31
import Derived.Test.YteoolehdomjkkaaMb21
import Derived.Test.YteoolehdomjkkaaMb08
namespace Go.Proofs.Yteoolehdomjkkaa
set_option linter.all false
open Go.RowKit

set_option maxRecDepth 100000 in
set_option maxHeartbeats 12800000 in
theorem flateIn_walk (n0 c0 : Nat) (A0 : Option Addr) (bs : List UInt8) (most : Int) (w : World) (ha : RdB w w.heap.size A0 n0 bs) (hc0 : n0 ≤ c0) :
    Calls Try.prog 3 #[.slice A0 n0 c0, .int .i64 most] w fun e w' => e = .returned (.bool true) ∧ Below w.heap.size w w' := by
  have HR := Lib.hid ha
  have HL := Lib.hid ha.len
  have HB : Hid (Below w.heap.size w w) := Below.refl _ _
  by_cases h4 : n0 ≤ 4000 ∧ most ≤ 20000
  · have hi4 : ¬ (4000 : Int) < (n0 : Int) := by omega
    have hm4 : ¬ (20000 : Int) < most := by omega
    have hn4 : n0 ≤ 40000 := by omega
    have HCB := Lib.hid (fun (w' : World) (hb : Below w.heap.size w w') => copyB_any w.heap.size n0 c0 A0 bs w' (ha.blw hb) (by omega))
    have HIF := fun (w' : World) (c' : Nat) (A' : Option Addr) (h : RdB w' w'.heap.size A' n0 bs) => inflate_all w'.heap.size n0 c' A' bs most w' h (Nat.le_refl _) (by omega)
    have HD5 := fun (w' : World) (hb : Below w.heap.size w w') => inflate5_all w.heap.size n0 c0 A0 bs most w' (ha.blw hb) hb.size (by omega)
    unfold If5 at HD5
    replace HIF := Lib.hid HIF
    replace HD5 := Lib.hid HD5
    clear ha h4
    generalize inflP bs most = I at *
    obtain ⟨xs, N, E⟩ := I
    dsimp only at HIF HD5
    by_cases hE : E = 0
    · subst hE
      rw [decide_eq_true (rfl : (0 : Int) = 0)] at HD5
      go_enter Try.func3, Try.ntmps3
      go_wp2_with (first
          | (go_at_call 7; (with_reducible refine (first7_any _).mono ?_); go_must (rintro e w1 ⟨rfl, hb1⟩; (try replace HI := Lib.hid (HI.out.later hb1)); (try replace HX := Lib.hid (HX.out.later hb1)); (try replace HY := Lib.hid (HY.out.later hb1)); replace HB := Lib.hid (HB.out.trans (hb1.mono HB.out.size)); clear hb1))
          | (go_at_call 8; (with_reducible refine (HCB.out _ HB.out).mono ?_); go_must (rintro e w2 ⟨v2, rfl, ho2, hb2⟩; obtain ⟨A2, c2, rfl, hr2, hc2, -⟩ := ho2.form; rw [HL.out] at hr2 hc2 ⊢; have HI := Lib.hid hr2; clear ho2 hr2; (try replace HX := Lib.hid (HX.out.later hb2)); (try replace HY := Lib.hid (HY.out.later hb2)); replace HB := Lib.hid (HB.out.trans (hb2.mono HB.out.size)); clear hb2))
          | (go_at_call 9; (with_reducible refine (HIF.out _ _ _ HI.out).mono ?_); go_must (rintro e w3 ⟨v3, rfl, ho3, hb3⟩; obtain ⟨A3, c3, rfl, hr3, -, -⟩ := ho3.form; have HX := Lib.hid hr3; clear ho3 hr3; (try replace HI := Lib.hid (HI.out.later hb3)); (try replace HY := Lib.hid (HY.out.later hb3)); replace HB := Lib.hid (HB.out.trans (hb3.mono HB.out.size)); clear hb3))
          | (go_at_call 10; (with_reducible refine (HD5.out _ HB.out).mono ?_); go_must (rintro e w4 ⟨v4, rfl, ho4, hb4⟩; obtain ⟨A4, c4, rfl, hr4, -, -⟩ := ho4.form; have HY := Lib.hid hr4; clear ho4 hr4; (try replace HI := Lib.hid (HI.out.later hb4)); (try replace HX := Lib.hid (HX.out.later hb4)); replace HB := Lib.hid (HB.out.trans (hb4.mono HB.out.size)); clear hb4))
          | (go_at_call 11; (with_reducible refine (bytes_any _ _ _ _ _ _ _ _ xs xs _ HX.out HY.out).mono ?_); go_must (rintro e wz ⟨rfl, rfl⟩))
          | (go_at_call 11; (with_reducible refine (bytes_any _ _ _ _ _ _ _ _ bs bs _ HI.out (RdB.blw HR.out HB.out)).mono ?_); go_must (rintro e wz ⟨rfl, rfl⟩)))
      go_ret
      exact ⟨by first | rfl | simp, HB.out⟩
    · have dE : (E == 0) = false := beq_eq_false_iff_ne.2 hE
      rw [decide_eq_false hE] at HD5
      go_enter Try.func3, Try.ntmps3
      go_wp2_with (first
          | (go_at_call 7; (with_reducible refine (first7_any _).mono ?_); go_must (rintro e w1 ⟨rfl, hb1⟩; (try replace HI := Lib.hid (HI.out.later hb1)); (try replace HX := Lib.hid (HX.out.later hb1)); (try replace HY := Lib.hid (HY.out.later hb1)); replace HB := Lib.hid (HB.out.trans (hb1.mono HB.out.size)); clear hb1))
          | (go_at_call 8; (with_reducible refine (HCB.out _ HB.out).mono ?_); go_must (rintro e w2 ⟨v2, rfl, ho2, hb2⟩; obtain ⟨A2, c2, rfl, hr2, hc2, -⟩ := ho2.form; rw [HL.out] at hr2 hc2 ⊢; have HI := Lib.hid hr2; clear ho2 hr2; (try replace HX := Lib.hid (HX.out.later hb2)); (try replace HY := Lib.hid (HY.out.later hb2)); replace HB := Lib.hid (HB.out.trans (hb2.mono HB.out.size)); clear hb2))
          | (go_at_call 9; (with_reducible refine (HIF.out _ _ _ HI.out).mono ?_); go_must (rintro e w3 ⟨v3, rfl, ho3, hb3⟩; obtain ⟨A3, c3, rfl, hr3, -, -⟩ := ho3.form; have HX := Lib.hid hr3; clear ho3 hr3; (try replace HI := Lib.hid (HI.out.later hb3)); (try replace HY := Lib.hid (HY.out.later hb3)); replace HB := Lib.hid (HB.out.trans (hb3.mono HB.out.size)); clear hb3))
          | (go_at_call 10; (with_reducible refine (HD5.out _ HB.out).mono ?_); go_must (rintro e w4 ⟨v4, rfl, ho4, hb4⟩; obtain ⟨A4, c4, rfl, hr4, -, -⟩ := ho4.form; have HY := Lib.hid hr4; clear ho4 hr4; (try replace HI := Lib.hid (HI.out.later hb4)); (try replace HX := Lib.hid (HX.out.later hb4)); replace HB := Lib.hid (HB.out.trans (hb4.mono HB.out.size)); clear hb4))
          | (go_at_call 11; (with_reducible refine (bytes_any _ _ _ _ _ _ _ _ xs xs _ HX.out HY.out).mono ?_); go_must (rintro e wz ⟨rfl, rfl⟩))
          | (go_at_call 11; (with_reducible refine (bytes_any _ _ _ _ _ _ _ _ bs bs _ HI.out (RdB.blw HR.out HB.out)).mono ?_); go_must (rintro e wz ⟨rfl, rfl⟩)))
      go_ret
      exact ⟨by first | rfl | simp, HB.out⟩
  · have key : (4000 : Int) < (n0 : Int) ∨ (¬ (4000 : Int) < (n0 : Int) ∧ (20000 : Int) < most) := by omega
    clear ha h4
    rcases key with hi4 | ⟨hi4, hm4⟩
    · go_enter Try.func3, Try.ntmps3
      go_wp2_with (first
        | (go_at_call 7; (with_reducible refine (first7_any _).mono ?_); go_must (rintro e w1 ⟨rfl, hb1⟩; (try replace HI := Lib.hid (HI.out.later hb1)); (try replace HX := Lib.hid (HX.out.later hb1)); (try replace HY := Lib.hid (HY.out.later hb1)); replace HB := Lib.hid (HB.out.trans (hb1.mono HB.out.size)); clear hb1)))
      go_ret
      exact ⟨by first | rfl | simp, HB.out⟩
    · go_enter Try.func3, Try.ntmps3
      go_wp2_with (first
        | (go_at_call 7; (with_reducible refine (first7_any _).mono ?_); go_must (rintro e w1 ⟨rfl, hb1⟩; (try replace HI := Lib.hid (HI.out.later hb1)); (try replace HX := Lib.hid (HX.out.later hb1)); (try replace HY := Lib.hid (HY.out.later hb1)); replace HB := Lib.hid (HB.out.trans (hb1.mono HB.out.size)); clear hb1)))
      go_ret
      exact ⟨by first | rfl | simp, HB.out⟩
end Go.Proofs.Yteoolehdomjkkaa

