import Derived.Test.YthlbeifojmeamaaFilt5
set_option linter.all false
namespace Go.Proofs.Ythlbeifojmeamaa
open Go.RowKit

theorem first_do : doR 1 1 [] [1, 2, 4] = ([1, 1, 2], 0) := by decide +kernel

set_option maxHeartbeats 400000 in
theorem first_any (w : World) : Calls Try.prog 8 #[] w fun e w' => e = .returned (.bool true) ∧ Below w.heap.size w w' := by
  have kc := conv_const
  go_enter Try.func8, Try.ntmps8
  go_wp2_with (go_at_call 11; go_must (refine (do_any 1 1 0 0 0 _ 3 3 none _ [] [1, 2, 4] _ Rd.none_ (rd_lit w 5 _ [1, 2, 4]) (Nat.zero_le _) (by simp) (by omega)).mono ?_; rintro e w1 ⟨v1, rfl, h1, hb1⟩; rw [first_do] at h1 ⊢; dsimp only at h1 ⊢; obtain ⟨A1, c1, rfl, hr1, _, _⟩ := h1.form; have k1 := run_strB (n := 3) (c := c1) hr1; clear h1 hr1))
  go_ret
  exact ⟨rfl, bstep ((Below.refl w.heap.size w).alloc (Nat.le_refl _) _) hb1 (Nat.le_refl _)⟩
end Go.Proofs.Ythlbeifojmeamaa
