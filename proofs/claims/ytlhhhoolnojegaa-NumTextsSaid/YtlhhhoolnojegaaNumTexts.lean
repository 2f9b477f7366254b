/- The walk of NumTexts. -/
import Derived.Test.YtlhhhoolnojegaaNumFirst
import Derived.Test.YtlhhhoolnojegaaNum9
namespace Go.Proofs.Ytlhhhoolnojegaa
set_option linter.all false
open Go.RowKit


set_option maxHeartbeats 1600000 in
set_option maxRecDepth 100000 in
theorem texts_walk (n c : Nat) (A : Option Addr) (xs : List UInt8) (s : ByteArray) (w : World) (ha : RdB w w.heap.size A n xs) (hs : s.size ≤ 9223372036854775807) :
    Calls Try.prog 8 #[.slice A n c, .string s] w fun e w' => e = .returned (.bool true) ∧ Below w.heap.size w w' := by
  have hB := Below.refl w.heap.size w
  by_cases h1 : 8000 < n
  · have d1 : decide (8000 < (n : Int)) = true := by simp; omega
    go_enter Try.func8, Try.ntmps8
    go_wp2_with (go_at_call 10; refine (first_any _).mono ?_; rintro e w1 ⟨rfl, hb1⟩; replace hB := bstep hB hb1 (Nat.le_refl _); clear hb1)
    all_goals (go_ret; exact ⟨rfl, hB⟩)

  have d1 : decide ((8000 : Int) < n) = false := by simp; omega
  have hn : n ≤ 8000 := by omega
  clear h1
  by_cases h2 : 8000 < s.size
  · have d2 : decide (8000 < (s.size : Int)) = true := by simp; omega
    go_enter Try.func8, Try.ntmps8
    go_wp2_with (go_at_call 10; refine (first_any _).mono ?_; rintro e w1 ⟨rfl, hb1⟩; replace hB := bstep hB hb1 (Nat.le_refl _); clear hb1)
    all_goals (go_ret; exact ⟨rfl, hB⟩)

  have d2 : decide ((8000 : Int) < s.size) = false := by simp; omega
  have hn2 : s.size ≤ 8000 := by omega
  clear h2
  rcases hU : unhexL s.data.toList with _ | r
  · have HU := Lib.hid hU
    clear hU
    go_enter Try.func8, Try.ntmps8
    go_wp2_with (first
      | (go_at_call 10; go_must (refine (first_any _).mono ?_; rintro e w1 ⟨rfl, hb1⟩; replace hB := bstep hB hb1 (Nat.le_refl _); (try replace hx := hx.later hb1); (try replace hy := hy.later hb1); clear hb1))
      | (go_at_call 25; go_must ((refine (unhex_any s _ (by omega)).mono ?_); rintro e w1 ⟨hu, hb1⟩; unfold UnhexIs at hu; rw [HU.out] at hu; subst hu; replace hB := bstep hB hb1 (Nat.le_refl _); clear hb1))
      | (go_at_call 26; go_must ((refine (unhexR_any s _ (by omega)).mono ?_); rintro e w1 ⟨hu, hb1⟩; unfold UnhexIs at hu; rw [HU.out] at hu; subst hu; replace hB := bstep hB hb1 (Nat.le_refl _); clear hb1))
      | (go_at_call 27; go_must (refine (hex_any _ _ _ _ xs _ (RdB.blw ha hB) hB.size (by omega)).mono ?_; rintro e w1 ⟨rfl, hb1⟩; replace hB := bstep hB hb1 (Nat.le_refl _); (try replace hx := hx.later hb1); (try replace hy := hy.later hb1); clear hb1))
      | (go_at_call 28; go_must (refine (hexR_any _ _ _ _ xs _ (RdB.blw ha hB) hB.size (by omega)).mono ?_; rintro e w1 ⟨rfl, hb1⟩; replace hB := bstep hB hb1 (Nat.le_refl _); (try replace hx := hx.later hb1); (try replace hy := hy.later hb1); clear hb1))
      | (go_at_call 24; go_must (refine (bytes_any w.heap.size _ _ w.heap.size _ _ _ _ [] [] _ Rd.none_ Rd.none_).mono ?_; rintro e w1 ⟨rfl, rfl⟩)))
    go_ret
    exact ⟨rfl, hB⟩
  · have HU := Lib.hid hU
    clear hU
    go_enter Try.func8, Try.ntmps8
    go_wp2_with (first
      | (go_at_call 10; go_must (refine (first_any _).mono ?_; rintro e w1 ⟨rfl, hb1⟩; replace hB := bstep hB hb1 (Nat.le_refl _); (try replace hx := hx.later hb1); (try replace hy := hy.later hb1); clear hb1))
      | (go_at_call 25; go_must ((refine (unhex_any s _ (by omega)).mono ?_); rintro e w1 ⟨hu, hb1⟩; unfold UnhexIs at hu; rw [HU.out] at hu; obtain ⟨v1, rfl, hx⟩ := hu; replace hx := hx.mono hB.size; obtain ⟨Ax, nAx, cAx, rfl, _, lAx, _⟩ := hx.slice; replace hB := bstep hB hb1 (Nat.le_refl _); (try replace hx := hx.later hb1); (try replace hy := hy.later hb1); clear hb1))
      | (go_at_call 26; go_must ((refine (unhexR_any s _ (by omega)).mono ?_); rintro e w1 ⟨hu, hb1⟩; unfold UnhexIs at hu; rw [HU.out] at hu; obtain ⟨v1, rfl, hy⟩ := hu; replace hy := hy.mono hB.size; obtain ⟨Ay, nAy, cAy, rfl, _, lAy, _⟩ := hy.slice; replace hB := bstep hB hb1 (Nat.le_refl _); (try replace hx := hx.later hb1); (try replace hy := hy.later hb1); clear hb1))
      | (go_at_call 27; go_must (refine (hex_any _ _ _ _ xs _ (RdB.blw ha hB) hB.size (by omega)).mono ?_; rintro e w1 ⟨rfl, hb1⟩; replace hB := bstep hB hb1 (Nat.le_refl _); (try replace hx := hx.later hb1); (try replace hy := hy.later hb1); clear hb1))
      | (go_at_call 28; go_must (refine (hexR_any _ _ _ _ xs _ (RdB.blw ha hB) hB.size (by omega)).mono ?_; rintro e w1 ⟨rfl, hb1⟩; replace hB := bstep hB hb1 (Nat.le_refl _); (try replace hx := hx.later hb1); (try replace hy := hy.later hb1); clear hb1))
      | (go_at_call 24; (with_reducible refine (bytes_any _ _ _ _ _ _ _ _ _ _ _ hx.rd hy.rd).mono ?_); rintro e w1 ⟨rfl, rfl⟩))
    go_ret
    exact ⟨rfl, hB⟩
end Go.Proofs.Ytlhhhoolnojegaa
