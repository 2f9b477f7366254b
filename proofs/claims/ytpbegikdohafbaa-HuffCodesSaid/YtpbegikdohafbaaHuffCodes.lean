/- HuffCodes: any lengths, their Kraft, their codes. -/
import Derived.Test.YtpbegikdohafbaaFirst5
import Derived.Test.YtpbegikdohafbaaCode5
namespace Go.Proofs.Ytpbegikdohafbaa
set_option linter.all false
open Go.RowKit

set_option maxRecDepth 100000 in
set_option maxHeartbeats 6400000 in
theorem huffCodes_walk (n c : Nat) (A : Option Addr) (ls : List Int) (w : World) (h : RdI w w.heap.size A n ls) (hnc : n ≤ c) (hcm : c ≤ maxLen) :
    Calls Try.prog 4 #[.slice A n c] w fun e w' => e = .returned (.bool true) ∧ Below w.heap.size w w' := by
  unfold maxLen at hcm
  have hB := Below.refl w.heap.size w
  by_cases hbig : 400 < n
  · clear h
    go_enter Try.func4, Try.ntmps4
    go_wp2_with (go_at_call 11; (with_reducible refine (first5_any _).mono ?_); go_must (rintro e wf ⟨rfl, hb1⟩; replace hB := bstep hB hb1 (Nat.le_refl _); clear hb1))
    go_ret
    exact ⟨rfl, hB⟩
  · have HCP := Lib.hid (fun (w' : World) (hb : Below w.heap.size w w') => copyI_any w.heap.size n c A ls w' (h.blw hb) (by omega))
    have HK := Lib.hid (fun (w' : World) (A' : Option Addr) (c' : Nat) (hr : RdI w' w'.heap.size A' n ls) => kraft_any w'.heap.size n c' A' ls w' hr (by omega))
    have HK5 := Lib.hid (fun (w' : World) (hb : Below w.heap.size w w') => kraft5_any w.heap.size n c A ls w' (h.blw hb) (by omega))
    have HC := Lib.hid (fun (w' : World) (A' : Option Addr) (c' : Nat) (hr : RdI w' w'.heap.size A' n ls) => codes_any w'.heap.size n c' A' ls w' hr (Nat.le_refl _) (by omega))
    have HC5 := Lib.hid (fun (w' : World) (hb : Below w.heap.size w w') => codes5_any w.heap.size n c A ls w' (h.blw hb) hb.size (by omega))
    have HIN := Lib.hid (fun (w' : World) (A' : Option Addr) (c' : Nat) (hr : RdI w' w'.heap.size A' n ls) (hb : Below w.heap.size w w') => ints_any w'.heap.size n c' w.heap.size n c A' A ls ls w' hr (h.blw hb) (by omega))
    rw [show decide (ls = ls) = true from decide_eq_true rfl] at HIN
    have HLB : Hid ((cdL ls).length ≤ n) := (show _ ≤ _ by
      have hl := h.len
      unfold cdL
      split
      · simp [codesL]; omega
      · simp)
    generalize krV ls = K at *
    generalize krE ls = E at *
    generalize cdE ls = E2 at *
    generalize cdL ls = L at *
    clear h
    have d1 : (K != K) = false := by simp
    have d2 : (E != E) = false := by simp
    have d3 : (E2 != E2) = false := by simp
    go_enter Try.func4, Try.ntmps4
    go_wp2_with (first
      | (go_at_call 11; (with_reducible refine (first5_any _).mono ?_); go_must (rintro e wf ⟨rfl, hb1⟩; replace hB := bstep hB hb1 (Nat.le_refl _); clear hb1))
      | (go_at_call 12; (with_reducible refine (HCP.out _ hB).mono ?_); go_must (rintro e w1 ⟨A1, c1, rfl, hc1, hc1m, ho1, hb1⟩; have HR1 := Lib.hid (RdI.here ho1.rd); replace hB := bstep hB hb1 (Nat.le_refl _); clear hb1 ho1 hc1 hc1m))
      | (go_at_call 16; (with_reducible refine (HK.out _ _ _ HR1.out).mono ?_); go_must (rintro e w1' ⟨rfl, rfl⟩))
      | (go_at_call 17; (with_reducible refine (HK5.out _ hB).mono ?_); go_must (rintro e w1' ⟨rfl, rfl⟩))
      | (go_at_call 18; (with_reducible refine (HC.out _ _ _ HR1.out).mono ?_); go_must (rintro e w2 ⟨A2, n2, c2, rfl, hn2, ho2, hb2⟩; have HR2 := Lib.hid (RdC.here ho2.rd); replace hB := bstep hB hb2 (Nat.le_refl _); have HR1b := Lib.hid (RdI.later HR1.out hb2); have HN2 := Lib.hid hn2; clear hb2 ho2 hn2))
      | (go_at_call 19; (with_reducible refine (HC5.out _ hB).mono ?_); go_must (rintro e w3 ⟨A3, n3, c3, rfl, hn3, ho3, hb3⟩; obtain rfl : n3 = n2 := hn3.trans HN2.out.symm; have HR3 := Lib.hid (RdD.here ho3.rd); replace hB := bstep hB hb3 (Nat.le_refl _); have HR1c := Lib.hid (RdI.later HR1b.out hb3); have HR2b := Lib.hid (RdC.later HR2.out hb3); clear hb3 ho3 hn3))
      | (go_at_call 15; (with_reducible refine (HIN.out _ _ _ HR1c.out hB).mono ?_); go_must (rintro e w4 ⟨rfl, hb4⟩; have hb4' := hb4.mono hB.size; replace hB := hB.trans hb4'; clear hb4'; have hb5 := Lib.hid hb4; clear hb4)))
    have hn34 : n3 ≤ 400 := by have h1 := HN2.out; have h2 := HLB.out; omega
    have HR2c := Lib.hid (RdC.later HR2b.out hb5.out)
    have HR3c := Lib.hid (RdD.later HR3.out hb5.out)
    clear HR1 HR1b HR1c HR2 HR2b HR3 HCP HK HK5 HC HC5 HIN hb5 HN2
    go_loopw [12] (fun vi wr => ∃ i : Nat, vi = .int .i64 i ∧ i ≤ n3 ∧ Hid (Below w4.heap.size w4 wr)) (fun vi _ => n3 - (intOf vi).toNat)
    case atStart => exact ⟨0, rfl, Nat.zero_le _, Below.refl _ _⟩
    case round =>
      obtain ⟨i, rfl, hi, HB⟩ := hrel
      by_cases hlt : i < n3
      · obtain ⟨b, o, x, rfl, hb, HX, e1, e2⟩ := (HR2c.out.blw HB.out).one hlt
        obtain ⟨b2, o2, y, rfl, hb2, HY, e3, e4⟩ := (HR3c.out.blw HB.out).one hlt
        obtain rfl : y = x := Option.some.inj (HY.out.symm.trans HX.out)
        obtain ⟨yb, yl⟩ := y
        dsimp only at e1 e2 e3 e4
        have d4 : ((yb : Int) != (yb : Int)) = false := by simp
        have d5 : (yl != yl) = false := by simp
        have HB2 := Lib.hid (fun q => bdrewN HB.out q)
        clear HX HY HB
        go_wp2_with fail
        go_quiet (fail)
        go_wp2_with fail
        go_roundw
        case rel => exact ⟨i + 1, by go_num, by omega, HB2.out _⟩
        case measure => simp [intOf]; omega
      · obtain rfl : i = n3 := by omega
        have hBB := hB.trans (HB.out.mono hB.size)
        go_wp2_with (go_at_call 11; (with_reducible refine (first5_any _).mono ?_); go_must (rintro e wf ⟨rfl, hb1⟩; have hBC := bstep hBB hb1 (Nat.le_refl _)))
        go_ret
        exact ⟨rfl, hBC⟩
end Go.Proofs.Ytpbegikdohafbaa
