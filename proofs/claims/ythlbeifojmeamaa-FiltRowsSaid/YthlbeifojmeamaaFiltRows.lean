/- The walk of FiltRows. -/
import Derived.Test.YthlbeifojmeamaaFiltFirst
namespace Go.Proofs.Ythlbeifojmeamaa
set_option linter.all false
open Go.RowKit


set_option maxHeartbeats 1600000 in
set_option maxRecDepth 100000 in
theorem rows_walk (kind bpp : Int) (n c n' c' : Nat) (A A' : Option Addr) (prev row : List UInt8) (w : World) (hp : RdB w w.heap.size A n prev) (hr : RdB w w.heap.size A' n' row) :
    Calls Try.prog 6 #[.int .i64 kind, .int .i64 bpp, .slice A n c, .slice A' n' c'] w fun e w' => e = .returned (.bool true) ∧ Below w.heap.size w w' := by
  have hB := Below.refl w.heap.size w
  by_cases h1 : 5000 < n ∨ 5000 < n'
  · have d1 : (decide ((5000 : Int) < n) || decide ((5000 : Int) < n')) = true := by simp; omega
    by_cases h2 : 5000 < n
    · have d2 : decide ((5000 : Int) < n) = true := by simp; omega
      go_enter Try.func6, Try.ntmps6
      go_wp2_with (go_at_call 8; refine (first_any _).mono ?_; rintro e w1 ⟨rfl, hb1⟩; replace hB := bstep hB hb1 (Nat.le_refl _); clear hb1)
      all_goals (go_ret; exact ⟨rfl, hB⟩)

    · have d2 : decide ((5000 : Int) < n) = false := by simp; omega
      have d3 : decide ((5000 : Int) < n') = true := by simp; omega
      go_enter Try.func6, Try.ntmps6
      go_wp2_with (go_at_call 8; refine (first_any _).mono ?_; rintro e w1 ⟨rfl, hb1⟩; replace hB := bstep hB hb1 (Nat.le_refl _); clear hb1)
      all_goals (go_ret; exact ⟨rfl, hB⟩)

  have d1 : decide ((5000 : Int) < n) = false := by simp; omega
  have d2 : decide ((5000 : Int) < n') = false := by simp; omega
  have hn : n ≤ 5000 := by omega
  have hn' : n' ≤ 5000 := by omega
  clear h1
  have hl := hr.len
  obtain ⟨DD, e1, hD⟩ : ∃ D e, doR kind bpp prev row = (D, e) := ⟨_, _, rfl⟩
  obtain ⟨UU, e2, hU⟩ : ∃ D e, undoR kind bpp prev row = (D, e) := ⟨_, _, rfl⟩
  obtain ⟨KK, BB, e3, hK⟩ : ∃ k D e, bestR bpp prev row = (k, D, e) := ⟨_, _, _, rfl⟩
  have q1 := fun (w : World) => do_any kind bpp w.heap.size
  have HD := Lib.hid hD
  have HU := Lib.hid hU
  have HK := Lib.hid hK
  clear hD hU hK q1
  go_enter Try.func6, Try.ntmps6
  go_wp2_with (first
    | (go_at_call 8; go_must (refine (first_any _).mono ?_; rintro e w1 ⟨rfl, hb1⟩; replace hB := bstep hB hb1 (Nat.le_refl _); (try replace hin := hin.later hb1); (try replace ha := ha.later hb1); (try replace hb := hb.later hb1); (try replace hc := hc.later hb1); (try replace hd := hd.later hb1); (try replace hx := hx.later hb1); (try replace hy := hy.later hb1); clear hb1))
    | (go_at_call 14; go_must (refine (copyB_any _ _ _ _ row _ (RdB.blw hr hB) (by omega)).mono ?_; rintro e w1 ⟨v1, rfl, hin, hb1⟩; replace hin := hin.mono hB.size; obtain ⟨Ai, ni, ci, rfl, _, li, _⟩ := hin.slice; have mi : ni ≤ 1000000 := (by have h5 := hin.rd.len; omega); replace hB := bstep hB hb1 (Nat.le_refl _); clear hb1))
    | (go_at_call 11; go_must (refine (do_any kind bpp _ _ _ _ _ _ _ _ prev row _ (RdB.blw hp hB) hin.rd hB.size (Nat.le_refl _) mi).mono ?_; rintro e w1 ⟨v1, rfl, ha, hb1⟩; rw [HD.out] at ha ⊢; dsimp only at ha ⊢; replace ha := ha.mono hB.size; obtain ⟨Aa, nAa, cAa, rfl, _, lha, _⟩ := ha.slice; replace hB := bstep hB hb1 (Nat.le_refl _); (try replace hin := hin.later hb1); (try replace hb := hb.later hb1); (try replace hc := hc.later hb1); (try replace hd := hd.later hb1); (try replace hx := hx.later hb1); (try replace hy := hy.later hb1); clear hb1))
    | (go_at_call 15; go_must (refine (do9_any kind bpp _ _ _ _ _ _ _ _ prev row _ (RdB.blw hp hB) (RdB.blw hr hB) hB.size hB.size (by omega)).mono ?_; rintro e w1 ⟨v1, rfl, hb, hb1⟩; rw [HD.out] at hb ⊢; dsimp only at hb ⊢; replace hb := hb.mono hB.size; obtain ⟨Ab, nAb, cAb, rfl, _, lhb, _⟩ := hb.slice; replace hB := bstep hB hb1 (Nat.le_refl _); (try replace hin := hin.later hb1); (try replace ha := ha.later hb1); (try replace hc := hc.later hb1); (try replace hd := hd.later hb1); (try replace hx := hx.later hb1); (try replace hy := hy.later hb1); clear hb1))
    | (go_at_call 16; go_must (refine (undo_any kind bpp _ _ _ _ _ _ _ _ prev row _ (RdB.blw hp hB) hin.rd hB.size (Nat.le_refl _) mi).mono ?_; rintro e w1 ⟨v1, rfl, hc, hb1⟩; rw [HU.out] at hc ⊢; dsimp only at hc ⊢; replace hc := hc.mono hB.size; obtain ⟨Ac, nAc, cAc, rfl, _, lhc, _⟩ := hc.slice; replace hB := bstep hB hb1 (Nat.le_refl _); (try replace hin := hin.later hb1); (try replace ha := ha.later hb1); (try replace hb := hb.later hb1); (try replace hd := hd.later hb1); (try replace hx := hx.later hb1); (try replace hy := hy.later hb1); clear hb1))
    | (go_at_call 17; go_must (refine (undo9_any kind bpp _ _ _ _ _ _ _ _ prev row _ (RdB.blw hp hB) (RdB.blw hr hB) hB.size hB.size (by omega)).mono ?_; rintro e w1 ⟨v1, rfl, hd, hb1⟩; rw [HU.out] at hd ⊢; dsimp only at hd ⊢; replace hd := hd.mono hB.size; obtain ⟨Ad, nAd, cAd, rfl, _, lhd, _⟩ := hd.slice; replace hB := bstep hB hb1 (Nat.le_refl _); (try replace hin := hin.later hb1); (try replace ha := ha.later hb1); (try replace hb := hb.later hb1); (try replace hc := hc.later hb1); (try replace hx := hx.later hb1); (try replace hy := hy.later hb1); clear hb1))
    | (go_at_call 18; go_must (refine (best_any bpp _ _ _ _ _ _ _ _ prev row _ (RdB.blw hp hB) hin.rd hB.size (Nat.le_refl _) mi).mono ?_; rintro e w1 ⟨v1, rfl, hx, hb1⟩; rw [HK.out] at hx ⊢; dsimp only at hx ⊢; replace hx := hx.mono hB.size; obtain ⟨Ax, nAx, cAx, rfl, _, lhx, _⟩ := hx.slice; replace hB := bstep hB hb1 (Nat.le_refl _); (try replace hin := hin.later hb1); (try replace ha := ha.later hb1); (try replace hb := hb.later hb1); (try replace hc := hc.later hb1); (try replace hd := hd.later hb1); (try replace hy := hy.later hb1); clear hb1))
    | (go_at_call 19; go_must (refine (best9_any bpp _ _ _ _ _ _ _ _ prev row _ (RdB.blw hp hB) (RdB.blw hr hB) hB.size hB.size (by omega)).mono ?_; rintro e w1 ⟨v1, rfl, hy, hb1⟩; rw [HK.out] at hy ⊢; dsimp only at hy ⊢; replace hy := hy.mono hB.size; obtain ⟨Ay, nAy, cAy, rfl, _, lhy, _⟩ := hy.slice; replace hB := bstep hB hb1 (Nat.le_refl _); (try replace hin := hin.later hb1); (try replace ha := ha.later hb1); (try replace hb := hb.later hb1); (try replace hc := hc.later hb1); (try replace hd := hd.later hb1); (try replace hx := hx.later hb1); clear hb1))
    | (go_at_call 13; go_must (refine (weight_any _ _ _ _ row _ hin.rd mi).mono ?_; rintro e w1 ⟨rfl, rfl⟩))
    | (go_at_call 20; go_must (refine (weight9_any _ _ _ _ row _ (RdB.blw hr hB) (by omega) hB.size).mono ?_; rintro e w1 ⟨rfl, hb1⟩; replace hB := bstep hB hb1 (Nat.le_refl _); (try replace hin := hin.later hb1); (try replace ha := ha.later hb1); (try replace hb := hb.later hb1); (try replace hc := hc.later hb1); (try replace hd := hd.later hb1); (try replace hx := hx.later hb1); (try replace hy := hy.later hb1); clear hb1))
    | (go_at_call 12; (with_reducible refine (bytes_any _ _ _ _ _ _ _ _ DD DD _ ha.rd hb.rd).mono ?_); rintro e w1 ⟨rfl, rfl⟩; rw [beq_self_eq_true])
    | (go_at_call 12; (with_reducible refine (bytes_any _ _ _ _ _ _ _ _ UU UU _ hc.rd hd.rd).mono ?_); rintro e w1 ⟨rfl, rfl⟩; rw [beq_self_eq_true])
    | (go_at_call 12; (with_reducible refine (bytes_any _ _ _ _ _ _ _ _ BB BB _ hx.rd hy.rd).mono ?_); rintro e w1 ⟨rfl, rfl⟩; rw [beq_self_eq_true])
    | (go_at_call 12; (with_reducible refine (bytes_any _ _ _ _ _ _ _ _ row row _ hin.rd (RdB.blw hr hB)).mono ?_); rintro e w1 ⟨rfl, rfl⟩; rw [beq_self_eq_true]))
  go_ret
  exact ⟨by first | rfl | simp, hB⟩
end Go.Proofs.Ythlbeifojmeamaa
