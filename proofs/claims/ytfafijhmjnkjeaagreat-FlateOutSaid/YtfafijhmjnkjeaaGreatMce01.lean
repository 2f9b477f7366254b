/- XMcFlateOut -/
import Derived.Test.YtfafijhmjnkjeaaGreatMc31
import Derived.Test.YtfafijhmjnkjeaaGreatMc21
import Derived.Test.YtfafijhmjnkjeaaGreatMc13
import Derived.Test.YtfafijhmjnkjeaaGreatMc25
import Derived.Test.YtfafijhmjnkjeaaGreatMc26
import Derived.Test.YtfafijhmjnkjeaaGreatMc08
namespace Go.Proofs.YtfafijhmjnkjeaaGreat
set_option linter.all false
open Go.RowKit

set_option maxRecDepth 100000 in
set_option maxHeartbeats 12800000 in
theorem flateOut_walk (n0 c0 : Nat) (A0 : Option Addr) (bs : List UInt8) (x y : Int) (w : World) (ha : RdB w w.heap.size A0 n0 bs) (hc0 : n0 ≤ c0) :
    Calls Tryz.prog 3 #[.slice A0 n0 c0, .int .i64 x, .int .i64 y] w fun e w' => e = .returned (.bool true) ∧ Below w.heap.size w w' := by
  have HR := Lib.hid ha
  have HL := Lib.hid ha.len
  have HB : Hid (Below w.heap.size w w) := Below.refl _ _
  have HS1 := Lib.hid (fun w => symbol_any x w)
  have HS2 := Lib.hid (fun w => symbol5_any x w)
  have HS3 := Lib.hid (fun w => distance_any y w)
  have HS4 := Lib.hid (fun w => distance5_any y w)
  generalize symV x = sx at HS1 HS2
  generalize dstV y = sy at HS3 HS4
  obtain ⟨s1, s2, s3⟩ := sx
  obtain ⟨d1, d2, d3⟩ := sy
  dsimp only at HS1 HS2 HS3 HS4
  have HFX := Lib.hid (fun w => fixed_any w)
  have HFX5 := Lib.hid (fun w => fixed5L_any w)
  generalize fixL = fl at HFX HFX5
  generalize fixD = fd at HFX HFX5
  have HE1 := Lib.hid (show decide (fl = fl) = true by simp)
  have HE2 := Lib.hid (show decide (fd = fd) = true by simp)
  by_cases h4 : n0 ≤ 4000
  · have hi4 : ¬ (4000 : Int) < (n0 : Int) := by omega
    have hn4 : n0 ≤ 40000 := by omega
    have HCB := Lib.hid (fun (w' : World) (hb : Below w.heap.size w w') => copyB_any w.heap.size n0 c0 A0 bs w' (ha.blw hb) (by omega))
    have HD5 := Lib.hid (fun (w' : World) (hb : Below w.heap.size w w') => deflate5_any w.heap.size n0 c0 A0 bs w' (ha.blw hb) hb.size hn4)
    clear ha h4
    go_enter Tryz.func3, Tryz.ntmps3
    go_wp2_with (first
      | (go_at_call 7; (with_reducible refine (first7_any _).mono ?_); go_must (rintro e w1 ⟨rfl, hb1⟩; (try replace HI := Lib.hid (HI.out.later hb1)); (try replace HX := Lib.hid (HX.out.later hb1)); (try replace HY := Lib.hid (HY.out.later hb1)); (try replace HP := Lib.hid (HP.out.later hb1)); (try replace HQ := Lib.hid (HQ.out.later hb1)); (try replace HU := Lib.hid (HU.out.later hb1)); (try replace HV := Lib.hid (HV.out.later hb1)); replace HB := Lib.hid (HB.out.trans (hb1.mono HB.out.size)); clear hb1))
      | (go_at_call 8; (with_reducible refine (HCB.out _ HB.out).mono ?_); go_must (rintro e w2 ⟨v2, rfl, ho2, hb2⟩; obtain ⟨A2, c2, rfl, hr2, hc2, -⟩ := ho2.form; rw [HL.out] at hr2 hc2 ⊢; have HI := Lib.hid hr2; clear ho2 hr2; (try replace HX := Lib.hid (HX.out.later hb2)); (try replace HY := Lib.hid (HY.out.later hb2)); (try replace HP := Lib.hid (HP.out.later hb2)); (try replace HQ := Lib.hid (HQ.out.later hb2)); (try replace HU := Lib.hid (HU.out.later hb2)); (try replace HV := Lib.hid (HV.out.later hb2)); replace HB := Lib.hid (HB.out.trans (hb2.mono HB.out.size)); clear hb2))
      | (go_at_call 9; (with_reducible refine (deflate_all _ _ _ _ bs _ HI.out (Nat.le_refl _) hn4 hc2).mono ?_); go_must (rintro e w3 ⟨v3, bz, rfl, ho3, hz3, hb3⟩; obtain ⟨A3, c3, rfl, hr3, -, -⟩ := ho3.form; have HX := Lib.hid hr3; have HZ3 := Lib.hid hz3; clear ho3 hr3 hz3; (try replace HI := Lib.hid (HI.out.later hb3)); (try replace HY := Lib.hid (HY.out.later hb3)); (try replace HP := Lib.hid (HP.out.later hb3)); (try replace HQ := Lib.hid (HQ.out.later hb3)); (try replace HU := Lib.hid (HU.out.later hb3)); (try replace HV := Lib.hid (HV.out.later hb3)); replace HB := Lib.hid (HB.out.trans (hb3.mono HB.out.size)); clear hb3))
      | (go_at_call 10; (with_reducible refine (HD5.out _ HB.out).mono ?_); go_must (rintro e w4 ⟨v4, bz4, rfl, ho4, hz4, hb4⟩; obtain rfl := HZ3.out.uniq hz4; obtain ⟨A4, c4, rfl, hr4, -, -⟩ := ho4.form; have HY := Lib.hid hr4; clear ho4 hr4 hz4; (try replace HI := Lib.hid (HI.out.later hb4)); (try replace HX := Lib.hid (HX.out.later hb4)); (try replace HP := Lib.hid (HP.out.later hb4)); (try replace HQ := Lib.hid (HQ.out.later hb4)); (try replace HU := Lib.hid (HU.out.later hb4)); (try replace HV := Lib.hid (HV.out.later hb4)); replace HB := Lib.hid (HB.out.trans (hb4.mono HB.out.size)); clear hb4))
      | (go_at_call 11; (with_reducible refine (HFX.out _).mono ?_); go_must (rintro e w5 ⟨g1, c1, g2, c2x, rfl, -, -, hp, hq, hb5⟩; have HP := Lib.hid hp; have HQ := Lib.hid hq; clear hp hq; (try replace HI := Lib.hid (HI.out.later hb5)); (try replace HX := Lib.hid (HX.out.later hb5)); (try replace HY := Lib.hid (HY.out.later hb5)); (try replace HU := Lib.hid (HU.out.later hb5)); (try replace HV := Lib.hid (HV.out.later hb5)); replace HB := Lib.hid (HB.out.trans (hb5.mono HB.out.size)); clear hb5))
      | (go_at_call 12; (with_reducible refine (HFX5.out _).mono ?_); go_must (rintro e w6 ⟨g3, g4, rfl, hu, hv, hb6⟩; have HU := Lib.hid hu; have HV := Lib.hid hv; clear hu hv; (try replace HI := Lib.hid (HI.out.later hb6)); (try replace HX := Lib.hid (HX.out.later hb6)); (try replace HY := Lib.hid (HY.out.later hb6)); (try replace HP := Lib.hid (HP.out.later hb6)); (try replace HQ := Lib.hid (HQ.out.later hb6)); replace HB := Lib.hid (HB.out.trans (hb6.mono HB.out.size)); clear hb6))
      | (go_at_call 13; (with_reducible refine (HS1.out _).mono ?_); go_must (rintro e wz ⟨rfl, rfl⟩))
      | (go_at_call 14; (with_reducible refine (HS2.out _).mono ?_); go_must (rintro e wz ⟨rfl, rfl⟩))
      | (go_at_call 15; (with_reducible refine (HS3.out _).mono ?_); go_must (rintro e wz ⟨rfl, rfl⟩))
      | (go_at_call 16; (with_reducible refine (HS4.out _).mono ?_); go_must (rintro e wz ⟨rfl, rfl⟩))
      | (go_at_call 17; (with_reducible refine (bytes_any _ _ _ _ _ _ _ _ bz bz _ HX.out HY.out).mono ?_); go_must (rintro e wz ⟨rfl, rfl⟩))
      | (go_at_call 18; (with_reducible refine (ints_any _ _ _ _ _ _ _ _ fl fl _ HP.out HU.out (by decide)).mono ?_); go_must (rintro e w7 ⟨rfl, hb7⟩; rw [decide_eq_true (rfl : fl = fl)]; (try replace HI := Lib.hid (HI.out.later hb7)); (try replace HX := Lib.hid (HX.out.later hb7)); (try replace HY := Lib.hid (HY.out.later hb7)); (try replace HP := Lib.hid (HP.out.later hb7)); (try replace HQ := Lib.hid (HQ.out.later hb7)); (try replace HU := Lib.hid (HU.out.later hb7)); (try replace HV := Lib.hid (HV.out.later hb7)); replace HB := Lib.hid (HB.out.trans (hb7.mono HB.out.size)); clear hb7))
      | (go_at_call 18; (with_reducible refine (ints_any _ _ _ _ _ _ _ _ fd fd _ HQ.out HV.out (by decide)).mono ?_); go_must (rintro e w8 ⟨rfl, hb8⟩; rw [decide_eq_true (rfl : fd = fd)]; (try replace HI := Lib.hid (HI.out.later hb8)); (try replace HX := Lib.hid (HX.out.later hb8)); (try replace HY := Lib.hid (HY.out.later hb8)); (try replace HP := Lib.hid (HP.out.later hb8)); (try replace HQ := Lib.hid (HQ.out.later hb8)); (try replace HU := Lib.hid (HU.out.later hb8)); (try replace HV := Lib.hid (HV.out.later hb8)); replace HB := Lib.hid (HB.out.trans (hb8.mono HB.out.size)); clear hb8))
      | (go_at_call 17; (with_reducible refine (bytes_any _ _ _ _ _ _ _ _ bs bs _ HI.out (RdB.blw HR.out HB.out)).mono ?_); go_must (rintro e wz ⟨rfl, rfl⟩)))
    go_ret
    exact ⟨by first | rfl | simp, HB.out⟩
  · have hi4 : (4000 : Int) < (n0 : Int) := by omega
    clear ha h4
    go_enter Tryz.func3, Tryz.ntmps3
    go_wp2_with (first
      | (go_at_call 7; (with_reducible refine (first7_any _).mono ?_); go_must (rintro e w1 ⟨rfl, hb1⟩; (try replace HI := Lib.hid (HI.out.later hb1)); (try replace HX := Lib.hid (HX.out.later hb1)); (try replace HY := Lib.hid (HY.out.later hb1)); (try replace HP := Lib.hid (HP.out.later hb1)); (try replace HQ := Lib.hid (HQ.out.later hb1)); (try replace HU := Lib.hid (HU.out.later hb1)); (try replace HV := Lib.hid (HV.out.later hb1)); replace HB := Lib.hid (HB.out.trans (hb1.mono HB.out.size)); clear hb1)))
    go_ret
    exact ⟨rfl, HB.out⟩
end Go.Proofs.YtfafijhmjnkjeaaGreat

