/- FlateFixed. -/
import Derived.Test.YtcancpnepfnhmaaMa27
import Derived.Test.YtcancpnepfnhmaaMa10
namespace Go.Proofs.Ytcancpnepfnhmaa
set_option linter.all false
open Go.RowKit

theorem fixL_get {j : Nat} (h : j < 288) : fixL[j]? = some (fixO j) := by
  unfold fixL
  rw [List.getElem?_map, List.getElem?_range h]
  rfl
theorem fixO_rng (j : Nat) : 7 ≤ fixO j ∧ fixO j ≤ 9 := by
  unfold fixO
  split
  · omega
  · split
    · omega
    · split <;> omega
theorem fix_kr : krE fixL = 0 ∧ krV fixL = 32768 ∧ krE fixD = 0 ∧ krV fixD = 32768 := by decide +kernel
set_option maxRecDepth 100000 in
set_option maxHeartbeats 3200000 in
theorem flateFixed_walk (x : Int) (w : World) : Calls Try.prog 7 #[.int .i64 x] w fun e w' => e = .returned (.bool true) ∧ Below w.heap.size w w' := by
  have HF := Lib.hid (fun w => fixed_any w)
  have HKL := Lib.hid (fun (w : World) (B c : Nat) (A : Option Addr) (h : RdI w B A 288 fixL) => kraft_any B 288 c A fixL w h (by omega))
  have HKD := Lib.hid (fun (w : World) (B c : Nat) (A : Option Addr) (h : RdI w B A 32 fixD) => kraft_any B 32 c A fixD w h (by omega))
  rw [fix_kr.1, fix_kr.2.1] at HKL
  rw [fix_kr.2.2.1, fix_kr.2.2.2] at HKD
  have hcase : x < 0 ∨ 288 ≤ x ∨ ∃ j : Nat, j < 288 ∧ x = (j : Int) := by
    by_cases h : x < 0
    · exact .inl h
    · by_cases h2 : x < 288
      · exact .inr (.inr ⟨x.toNat, by omega, by omega⟩)
      · exact .inr (.inl (by omega))
  rcases hcase with h | h | ⟨j, hj, rfl⟩
  · go_enter Try.func7, Try.ntmps7
    go_wp2_with (first
      | (go_at_call 21; (with_reducible refine (HF.out _).mono ?_); go_must (rintro e w2 ⟨g1, c1, g2, c2, rfl, -, -, hr1, hr2, hb2⟩; have HR1 := Lib.hid hr1; have HR2 := Lib.hid hr2; have HB2 := Lib.hid (HB1.out.trans (hb2.mono HB1.out.size)); clear hr1 hr2 hb2 HB1))
      | (go_at_call 22; (with_reducible refine (HKL.out _ _ _ _ HR1.out).mono ?_); go_must (rintro e w3 ⟨rfl, rfl⟩))
      | (go_at_call 22; (with_reducible refine (HKD.out _ _ _ _ HR2.out).mono ?_); go_must (rintro e w3 ⟨rfl, rfl⟩))
      | (go_at_call 13; (with_reducible refine (first7_any _).mono ?_); go_must (rintro e w1 ⟨rfl, hb1⟩; first | (have HB9 := Lib.hid (HB2.out.trans (hb1.mono HB2.out.size))) | (have HB1 := Lib.hid hb1); clear hb1)))
    go_ret
    exact ⟨rfl, HB9.out⟩
  · have h2 : decide (x ≥ 288) = true := decide_eq_true h
    have h3 : ¬ x < 0 := by omega
    go_enter Try.func7, Try.ntmps7
    go_wp2_with (first
      | (go_at_call 21; (with_reducible refine (HF.out _).mono ?_); go_must (rintro e w2 ⟨g1, c1, g2, c2, rfl, -, -, hr1, hr2, hb2⟩; have HR1 := Lib.hid hr1; have HR2 := Lib.hid hr2; have HB2 := Lib.hid (HB1.out.trans (hb2.mono HB1.out.size)); clear hr1 hr2 hb2 HB1))
      | (go_at_call 22; (with_reducible refine (HKL.out _ _ _ _ HR1.out).mono ?_); go_must (rintro e w3 ⟨rfl, rfl⟩))
      | (go_at_call 22; (with_reducible refine (HKD.out _ _ _ _ HR2.out).mono ?_); go_must (rintro e w3 ⟨rfl, rfl⟩))
      | (go_at_call 13; (with_reducible refine (first7_any _).mono ?_); go_must (rintro e w1 ⟨rfl, hb1⟩; first | (have HB9 := Lib.hid (HB2.out.trans (hb1.mono HB2.out.size))) | (have HB1 := Lib.hid hb1); clear hb1)))
    go_ret
    exact ⟨rfl, HB9.out⟩
  · have hj1 : (j : Int) < 288 := by omega
    have HX := Lib.hid (fixL_get hj)
    have hx := fixO_rng j
    generalize fixO j = v at *
    go_enter Try.func7, Try.ntmps7
    go_wp2_with (first
      | (go_at_call 21; (with_reducible refine (HF.out _).mono ?_); go_must (rintro e w2 ⟨g1, c1, g2, c2, rfl, -, -, hr1, hr2, hb2⟩; have HR1 := Lib.hid hr1; have HR2 := Lib.hid hr2; have HB2 := Lib.hid (HB1.out.trans (hb2.mono HB1.out.size)); clear hr1 hr2 hb2 HB1))
      | (go_at_call 22; (with_reducible refine (HKL.out _ _ _ _ HR1.out).mono ?_); go_must (rintro e w3 ⟨rfl, rfl⟩))
      | (go_at_call 22; (with_reducible refine (HKD.out _ _ _ _ HR2.out).mono ?_); go_must (rintro e w3 ⟨rfl, rfl⟩))
      | (go_at_call 13; (with_reducible refine (first7_any _).mono ?_); go_must (rintro e w1 ⟨rfl, hb1⟩; first | (have HB9 := Lib.hid (HB2.out.trans (hb1.mono HB2.out.size)); obtain ⟨b, o, y, e1, hb, HY, ck⟩ := (HR1.out.later hb1).one hj; injection e1 with e1; injection e1 with e1 e2; subst e1 e2; have hyv : y = v := (by have := HY.out.symm.trans HX.out; injection this); subst hyv; rw [Nat.zero_add] at ck) | (have HB1 := Lib.hid hb1); clear hb1)))
    go_ret
    exact ⟨rfl, HB9.out⟩
end Go.Proofs.Ytcancpnepfnhmaa
