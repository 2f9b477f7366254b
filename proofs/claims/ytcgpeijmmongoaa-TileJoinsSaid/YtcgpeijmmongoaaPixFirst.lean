/- The chapter's example; pictures that are small. -/
import Derived.Test.YtcgpeijmmongoaaPix5
import Derived.Test.YtcgpeijmmongoaaPix6
namespace Go.Proofs.Ytcgpeijmmongoaa
set_option linter.all false
open Go.RowKit

theorem first_enc : Sh.enc ⟨1, 1, 1, 8⟩ [7] = ([82, 0, 1, 0, 1, 1, 8, 7], 0) := by decide +kernel

set_option maxHeartbeats 400000 in
theorem first_any (w : World) : Calls Try.prog 33 #[] w fun e w' => e = .returned (.bool true) ∧ Below w.heap.size w w' := by
  have kc := conv_const
  have HV := Lib.hid (fun w => encode_any ⟨1, 1, 1, 8⟩ (w.heap.size + 1) (some ⟨w.heap.size, 0, none⟩) 1 1 [7] (w.alloc (.cells #[.int .u8 7] 5)) (rd_one w 7 7 rfl) (by simp))
  go_enter Try.func33, Try.ntmps33
  go_wp2_with (go_at_call 44; go_must (refine (HV.out _).mono ?_; rintro e w1 ⟨v1, rfl, h1, hb1⟩; rw [first_enc] at h1 ⊢; dsimp only at h1 ⊢; obtain ⟨A1, c1, rfl, hr1, _, _⟩ := h1.form; have k1 := run_strB (n := 8) (c := c1) hr1; replace hb1 := bxd hb1; clear h1 hr1))
  go_ret
  exact ⟨rfl, hb1⟩

theorem few_any (s : Sh) (A : Option Addr) (n cc : Nat) (w : World) : Calls Try.prog 23 #[s.r A n cc] w fun e w' => e = .returned (.bool (decide (n ≤ 20000))) ∧ Below w.heap.size w w' := by
  have hB := Below.refl w.heap.size w
  obtain ⟨W, H, C, D⟩ := s
  show Calls _ _ #[.agg #[.int .i64 W, .int .i64 H, .int .i64 C, .int .i64 D, .slice A n cc]] w _
  go_enter Try.func23, Try.ntmps23
  go_wp2
  go_ret
  exact ⟨ret_bool (by rw [Bool.eq_iff_iff]; simp; omega), hB.alloc (Nat.le_refl _) _⟩

end Go.Proofs.Ytcgpeijmmongoaa
