/- pix: pictures compared, copied; bytes compared, copied. -/
import Derived.Test.YtmffmijjdpjaiaaPix2
import Derived.Lib.LazyBuf
namespace Go.Proofs.Ytmffmijjdpjaiaa
set_option linter.all false
open Go.RowKit

set_option maxHeartbeats 1600000 in
theorem shape_any (s t : Sh) (w : World) : Calls Try.prog 26 #[s.v, t.v] w fun e w' => e = .returned (.bool (decide (s = t))) ∧ Below w.heap.size w w' := by
  have hB := Below.refl w.heap.size w
  obtain ⟨W, H, C, D⟩ := s
  obtain ⟨W', H', C', D'⟩ := t
  show Calls _ _ #[.agg #[.int .i64 W, .int .i64 H, .int .i64 C, .int .i64 D], .agg #[.int .i64 W', .int .i64 H', .int .i64 C', .int .i64 D']] w _
  go_enter Try.func26, Try.ntmps26
  go_wp2
  all_goals
    go_ret
    refine ⟨ret_bool ?_, (hB.alloc (Nat.le_refl _) _).alloc (by simp) _⟩
    rw [Bool.eq_iff_iff]
    simp [Sh.mk.injEq, *]
    try omega

end Go.Proofs.Ytmffmijjdpjaiaa
