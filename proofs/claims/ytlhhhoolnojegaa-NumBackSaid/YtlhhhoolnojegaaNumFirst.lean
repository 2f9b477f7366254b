import Derived.Test.YtlhhhoolnojegaaNum1
import Derived.Test.YtlhhhoolnojegaaNum2
import Derived.Test.YtlhhhoolnojegaaNum4
set_option linter.all false
namespace Go.Proofs.Ytlhhhoolnojegaa
open Go.RowKit

theorem first_big : beB 258 3 = [0, 1, 2] := by decide
theorem first_little : leB 258 2 = [2, 1] := by decide
theorem first_adler : adler [87, 105, 107, 105, 112, 101, 100, 105, 97] = 300286872 := by decide +kernel

set_option maxHeartbeats 400000 in
theorem first_any (w : World) : Calls Try.prog 10 #[] w fun e w' => e = .returned (.bool true) ∧ Below w.heap.size w w' := by
  have kc := conv_const
  go_enter Try.func10, Try.ntmps10
  go_wp2_with (first
    | (go_at_call 16; refine (big_ok 258 3 w (by omega) (by omega) (by omega) (by decide)).mono ?_; rintro e w1 ⟨v1, rfl, h1, hb1⟩)
    | (go_at_call 18; refine (little_ok 258 2 w1 (by omega) (by omega) (by omega) (by decide)).mono ?_; rintro e w2 ⟨v2, rfl, h2, hb2⟩; rw [show (258 : Int).toNat = 258 by rfl, first_big] at h1; rw [show (258 : Int).toNat = 258 by rfl, first_little] at h2; obtain ⟨A1, c1, rfl, hr1, _, _⟩ := h1.form; obtain ⟨A2, c2, rfl, hr2, _, _⟩ := h2.form; have k1 := run_strB (n := 3) (c := c1) (hr1.below hb2); have k2 := run_strB (n := 2) (c := c2) hr2; clear h1 h2 hr1 hr2)
    | (go_at_call 11; refine (adler_any _ _ _ _ [87, 105, 107, 105, 112, 101, 100, 105, 97] _ (rd_lit w2 5 (9, 10) [87, 105, 107, 105, 112, 101, 100, 105, 97]) (by simp)).mono ?_; rintro e w3 ⟨rfl, rfl⟩; rw [first_adler]))
  go_ret
  exact ⟨rfl, ((hb1.trans (hb2.mono hb1.size)).alloc (Nat.le_trans hb1.size hb2.size) _)⟩
end Go.Proofs.Ytlhhhoolnojegaa
