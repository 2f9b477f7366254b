/- HuffLengths: any weights: their lengths; they stay. -/
import Derived.Test.YtpbegikdohafbaaFirst5
import Derived.Test.YtpbegikdohafbaaLen5
namespace Go.Proofs.Ytpbegikdohafbaa
set_option linter.all false
open Go.RowKit

set_option maxRecDepth 100000 in
set_option maxHeartbeats 6400000 in
theorem huffLengths_walk (n c : Nat) (A : Option Addr) (ws : List Int) (most : Int) (w : World) (h : RdI w w.heap.size A n ws) (hnc : n ≤ c) (hcm : c ≤ maxLen) :
    Calls Try.prog 3 #[.slice A n c, .int .i64 most] w fun e w' => e = .returned (.bool true) ∧ Below w.heap.size w w' := by
  unfold maxLen at hcm
  have hB := Below.refl w.heap.size w
  by_cases hbig : 400 < n
  · clear h
    go_enter Try.func3, Try.ntmps3
    go_wp2_with (go_at_call 11; (with_reducible refine (first5_any _).mono ?_); go_must (rintro e wf ⟨rfl, hb1⟩; replace hB := bstep hB hb1 (Nat.le_refl _); clear hb1))
    go_ret
    exact ⟨rfl, hB⟩
  · have HCP := Lib.hid (fun (w' : World) (hb : Below w.heap.size w w') => copyI_any w.heap.size n c A ws w' (h.blw hb) (by omega))
    have HLE := Lib.hid (fun (w' : World) (A' : Option Addr) (c' : Nat) (hr : RdI w' w'.heap.size A' n ws) => lengths_any w'.heap.size n c' A' ws most w' hr (Nat.le_refl _) (by omega))
    have HL5 := Lib.hid (fun (w' : World) (hb : Below w.heap.size w w') => len5_any w.heap.size n c A ws most w' (h.blw hb) hb.size (by omega))
    have HIN := Lib.hid (fun (w' : World) (A' : Option Addr) (c' : Nat) (hr : RdI w' w'.heap.size A' n ws) (hb : Below w.heap.size w w') => ints_any w'.heap.size n c' w.heap.size n c A' A ws ws w' hr (h.blw hb) (by omega))
    rw [show decide (ws = ws) = true from decide_eq_true rfl] at HIN
    have HLB : Hid ((lenR ws most).length ≤ 400) := (show _ ≤ _ by
      have := h.len
      rcases lenR_len ws most with e | e <;> omega)
    unfold LenPost at HLE HL5
    generalize lenE ws most = E at *
    generalize lenR ws most = R at *
    have HII := Lib.hid (fun (w' : World) (n' c' c'' : Nat) (A' A'' : Option Addr) (hr : RdI w' w'.heap.size A' n' R) (hr' : RdI w' w'.heap.size A'' n' R) (hn : n' ≤ 1099511627776) => ints_any w'.heap.size n' c' w'.heap.size n' c'' A' A'' R R w' hr hr' hn)
    rw [show decide (R = R) = true from decide_eq_true rfl] at HII
    have dEE : (E == E) = true := by simp
    clear h
    go_enter Try.func3, Try.ntmps3
    go_wp2_with (first
      | (go_at_call 11; (with_reducible refine (first5_any _).mono ?_); go_must (rintro e wf ⟨rfl, hb1⟩; replace hB := bstep hB hb1 (Nat.le_refl _); (try (have HRX := Lib.hid (RdI.later HR1b.out hb1); have HSX := Lib.hid (RdI.later HS2b.out hb1); have HS3X := Lib.hid (RdI.later HS3.out hb1))); clear hb1))
      | (go_at_call 12; (with_reducible refine (HCP.out _ hB).mono ?_); go_must (rintro e w1 ⟨A1, c1, rfl, hc1, hc1m, ho1, hb1⟩; have HR1 := Lib.hid (RdI.here ho1.rd); replace hB := bstep hB hb1 (Nat.le_refl _); clear hb1 ho1 hc1 hc1m))
      | (go_at_call 13; (with_reducible refine (HLE.out _ _ _ HR1.out).mono ?_); go_must (rintro e w2 ⟨A2, n2, c2, rfl, hn2, ho2, hb2⟩; have HS2 := Lib.hid (RdI.here ho2.rd); have HR1a := Lib.hid (RdI.later HR1.out hb2); have HN2 := Lib.hid hn2; replace hB := bstep hB hb2 (Nat.le_refl _); clear ho2 hb2 hn2))
      | (go_at_call 14; (with_reducible refine (HL5.out _ hB).mono ?_); go_must (rintro e w3 ⟨A3, n3, c3, rfl, hn3, ho3, hb3⟩; obtain rfl : n3 = n2 := hn3.trans HN2.out.symm; have HS3 := Lib.hid (RdI.here ho3.rd); have HR1b := Lib.hid (RdI.later HR1a.out hb3); have HS2b := Lib.hid (RdI.later HS2.out hb3); have hn34 : n3 ≤ 1099511627776 := (by have := HLB.out; have := HN2.out; omega); replace hB := bstep hB hb3 (Nat.le_refl _); clear ho3 hb3 hn3))
      | (go_at_call 15; (with_reducible refine (HII.out _ _ _ _ _ _ HSX.out HS3X.out hn34).mono ?_); go_must (rintro e w4 ⟨rfl, hb4⟩; have HRY := Lib.hid (RdI.later HRX.out hb4); replace hB := bstep hB hb4 (Nat.le_refl _); clear hb4))
      | (go_at_call 15; (with_reducible refine (HIN.out _ _ _ HRY.out hB).mono ?_); go_must (rintro e w5 ⟨rfl, hb5⟩; replace hB := hB.trans (hb5.mono hB.size); clear hb5)))
    go_ret
    exact ⟨rfl, hB⟩
end Go.Proofs.Ytpbegikdohafbaa
