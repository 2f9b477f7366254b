/- The walk of NumSums: the sums of any bytes are the reference's. -/
import Derived.Test.YtlhhhoolnojegaaNumFirst
import Derived.Test.YtlhhhoolnojegaaNum3
namespace Go.Proofs.Ytlhhhoolnojegaa
set_option linter.all false
open Go.RowKit

set_option maxHeartbeats 800000 in
set_option maxRecDepth 100000 in
theorem sums_walk (n c : Nat) (A : Option Addr) (xs : List UInt8) (w : World) (ha : RdB w w.heap.size A n xs) :
    Calls Try.prog 4 #[.slice A n c] w fun e w' => e = .returned (.bool true) ∧ Below w.heap.size w w' := by
  have hB := Below.refl w.heap.size w
  by_cases h1 : 8000 < n
  · have d1 : decide (8000 < (n : Int)) = true := by simp; omega
    go_enter Try.func4, Try.ntmps4
    go_wp2_with (go_at_call 10; refine (first_any _).mono ?_; rintro e w1 ⟨rfl, hb1⟩; replace hB := bstep hB hb1 (Nat.le_refl _); clear hb1)
    all_goals (go_ret; exact ⟨rfl, hB⟩)
  · have d1 : decide ((8000 : Int) < n) = false := by simp; omega
    have hn : n ≤ 8000 := by omega
    clear h1
    go_enter Try.func4, Try.ntmps4
    go_wp2_with (first
      | (go_at_call 10; refine (first_any _).mono ?_; rintro e w1 ⟨rfl, hb1⟩; replace hB := bstep hB hb1 (Nat.le_refl _); replace ha := ha.later hb1; clear hb1)
      | (go_at_call 13; refine (crc_any _ _ _ _ xs _ ha (by omega)).mono ?_; rintro e w1 ⟨rfl, rfl⟩)
      | (go_at_call 14; refine (crcR_any _ _ _ _ xs _ ha (by omega)).mono ?_; rintro e w1 ⟨rfl, rfl⟩)
      | (go_at_call 11; refine (adler_any _ _ _ _ xs _ ha (by omega)).mono ?_; rintro e w1 ⟨rfl, rfl⟩)
      | (go_at_call 15; refine (adlerR_any _ _ _ _ xs _ ha (by omega)).mono ?_; rintro e w1 ⟨rfl, rfl⟩))
    all_goals (go_ret; exact ⟨rfl, hB⟩)
end Go.Proofs.Ytlhhhoolnojegaa
