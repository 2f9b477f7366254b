/- The walk of FiltNearest. -/
import Derived.Test.YthlbeifojmeamaaFiltFirst
set_option linter.all false
namespace Go.Proofs.Ythlbeifojmeamaa
open Go.RowKit

theorem weight_one (a : Int) (h : 0 ≤ a ∧ a ≤ 255) : ((weight [UInt8.ofNat a.toNat] : Nat) : Int) = if a ≤ 256 - a then a else 256 - a := by
  simp only [weight, List.map_cons, List.map_nil, List.sum_cons, List.sum_nil, wB, UInt8.toNat_ofNat']
  split <;> omega

set_option maxHeartbeats 3200000 in
theorem nearest_walk (a b c : Int) (w : World) :
    Calls Try.prog 5 #[.int .i64 a, .int .i64 b, .int .i64 c] w fun e w' => e = .returned (.bool true) ∧ Below w.heap.size w w' := by
  have hB := Below.refl w.heap.size w
  by_cases hr : (0 ≤ a ∧ a ≤ 255) ∧ (0 ≤ b ∧ b ≤ 255) ∧ (0 ≤ c ∧ c ≤ 255)
  · obtain ⟨h1, h2, h3⟩ := hr
    have H1 := h1
    have H2 := h2
    have H3 := h3
    have hwo := weight_one a h1
    have hq : ∃ q : Nat, q = weight [UInt8.ofNat a.toNat] := ⟨_, rfl⟩
    obtain ⟨q, hq⟩ := hq
    rw [← hq] at hwo
    have HQ := Lib.hid hq
    clear hq
    have hm : a % 256 = a := by omega
    have ha8 : a = ((UInt8.ofNat a.toNat).toNat : Int) := by rw [UInt8.toNat_ofNat']; omega
    have HA := Lib.hid ha8
    clear ha8
    obtain ⟨a1, a2⟩ := h1
    obtain ⟨b1, b2⟩ := h2
    obtain ⟨c1, c2⟩ := h3
    have hp : ∃ p, p = paeth a b c := ⟨_, rfl⟩
    obtain ⟨p, hp⟩ := hp
    have HP := Lib.hid hp.symm
    unfold paeth dist at hp
    go_enter Try.func5, Try.ntmps5
    go_wp2_with (first
      | (go_at_call 8; refine (first_any _).mono ?_; rintro e w1 ⟨rfl, hb1⟩; replace hB := bstep hB hb1 (Nat.le_refl _); clear hb1)
      | (go_at_call 9; refine (paeth_any _ _ _ _ H1 H2 H3).mono ?_; rintro e w1 ⟨rfl, rfl⟩; rw [HP.out])
      | (go_at_call 13; go_must (refine (weight_any _ _ _ _ [UInt8.ofNat a.toNat] _ (rd_one _ a _ HA.out) (by omega)).mono ?_; rintro e w1 ⟨rfl, rfl⟩; rw [← HQ.out])))
    all_goals
      go_ret
      refine ⟨?_, by first | exact hB | exact hB.alloc hB.size _⟩
      clear HQ HP HA hB H1 H2 H3 hm
      first | rfl | (exfalso; omega) | (go_simp; first | done | rfl | (congr 2; simp; omega))
  · go_enter Try.func5, Try.ntmps5
    go_wp2_with (first
      | (go_at_call 8; refine (first_any _).mono ?_; rintro e w1 ⟨rfl, hb1⟩; replace hB := bstep hB hb1 (Nat.le_refl _); clear hb1)
      | (go_at_call 9; exfalso; omega))
    all_goals (first | (exfalso; omega) | (go_ret; exact ⟨rfl, hB⟩))

end Go.Proofs.Ythlbeifojmeamaa
