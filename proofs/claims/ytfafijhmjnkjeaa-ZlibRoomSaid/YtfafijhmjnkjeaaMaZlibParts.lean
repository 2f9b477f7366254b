/- ZlibParts. -/
import Derived.Test.YtfafijhmjnkjeaaMa31
import Derived.Test.YtfafijhmjnkjeaaMa10
namespace Go.Proofs.Ytfafijhmjnkjeaa
set_option linter.all false
open Go.RowKit

set_option maxRecDepth 100000 in
set_option maxHeartbeats 3200000 in
theorem first8_any (w : World) : Calls Try.prog 12 #[] w fun e w' => e = .returned (.bool true) ∧ Below w.heap.size w w' := by
  have kc := conv_const
  have HP := Lib.hid (pack_any w.heap.size 0 0 none [] [0, 0, 0, 1] w rdB_nil0 (Nat.le_refl _) (by omega) (Nat.le_refl _) (by kernel_rfl) rfl)
  go_enter Try.func12, Try.ntmps12
  go_wp2_with (go_at_call 13; (with_reducible refine HP.out.mono ?_); go_must (rintro e w1 ⟨v1, bz, rfl, ho1, hz1, hb1⟩; have hbz := defl_nil hz1; subst hbz; have ho1 : ownB w1 w.heap.size v1 [120, 156, 3, 0, 0, 0, 0, 1] := ho1; obtain ⟨A1, c1, rfl, hr1, -, -⟩ := ho1.form; have hr1 : RdB w1 w1.heap.size A1 8 [120, 156, 3, 0, 0, 0, 0, 1] := hr1; have k1 := run_strB (n := 8) (c := c1) hr1; have HB1 := Lib.hid hb1; clear ho1 hz1 hb1 hr1))
  go_ret
  exact ⟨rfl, HB1.out⟩
end Go.Proofs.Ytfafijhmjnkjeaa
