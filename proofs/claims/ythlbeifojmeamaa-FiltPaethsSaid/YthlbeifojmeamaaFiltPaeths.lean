/- The walks of FiltPaeths and FiltNearest. -/
import Derived.Test.YthlbeifojmeamaaFiltFirst
set_option linter.all false
namespace Go.Proofs.Ythlbeifojmeamaa
open Go.RowKit

set_option maxHeartbeats 1600000 in
theorem paeths_walk (a b c : Int) (w : World) :
    Calls Try.prog 3 #[.int .i64 a, .int .i64 b, .int .i64 c] w fun e w' => e = .returned (.bool true) ∧ Below w.heap.size w w' := by
  have hB := Below.refl w.heap.size w
  by_cases hr : (0 ≤ a ∧ a ≤ 255) ∧ (0 ≤ b ∧ b ≤ 255) ∧ (0 ≤ c ∧ c ≤ 255)
  · obtain ⟨h1, h2, h3⟩ := hr
    have H1 := h1
    have H2 := h2
    have H3 := h3
    obtain ⟨a1, a2⟩ := h1
    obtain ⟨b1, b2⟩ := h2
    obtain ⟨c1, c2⟩ := h3
    have ho := paeth_one a b c
    generalize hp : paeth a b c = p at ho
    have HP := Lib.hid hp
    clear hp
    go_enter Try.func3, Try.ntmps3
    go_wp2_with (first
      | (go_at_call 8; refine (first_any _).mono ?_; rintro e w1 ⟨rfl, hb1⟩; replace hB := bstep hB hb1 (Nat.le_refl _); clear hb1)
      | (go_at_call 9; refine (paeth_any _ _ _ _ H1 H2 H3).mono ?_; rintro e w1 ⟨rfl, rfl⟩; rw [HP.out])
      | (go_at_call 10; refine (paeth9_any _ _ _ _ H1 H2 H3).mono ?_; rintro e w1 ⟨rfl, rfl⟩; rw [HP.out]))
    all_goals
      go_ret
      refine ⟨?_, hB⟩
      rcases ho with e | e | e <;> simp [e]
  · go_enter Try.func3, Try.ntmps3
    go_wp2_with (first
      | (go_at_call 8; refine (first_any _).mono ?_; rintro e w1 ⟨rfl, hb1⟩; replace hB := bstep hB hb1 (Nat.le_refl _); clear hb1)
      | (go_at_call 9; exfalso; omega))
    all_goals (first | (exfalso; omega) | (go_ret; exact ⟨rfl, hB⟩))

end Go.Proofs.Ythlbeifojmeamaa
