/- The walk of NumWrites: any number in both orders, any bytes read in both. -/
import Derived.Test.YtlhhhoolnojegaaNumFirst
import Derived.Test.YtlhhhoolnojegaaNum6
import Derived.Test.YtlhhhoolnojegaaNum7
namespace Go.Proofs.Ytlhhhoolnojegaa
set_option linter.all false
open Go.RowKit

set_option maxHeartbeats 1600000 in
set_option maxRecDepth 100000 in
theorem writes_walk (n width : Int) (m c : Nat) (A : Option Addr) (xs : List UInt8) (k : Int) (w : World) (ha : RdB w w.heap.size A m xs) :
    Calls Try.prog 6 #[.int .i64 n, .int .i64 width, .slice A m c, .int .i64 k] w fun e w' => e = .returned (.bool true) ∧ Below w.heap.size w w' := by
  have hB := Below.refl w.heap.size w
  by_cases h1 : 8000 < m
  · have d1 : decide (8000 < (m : Int)) = true := by simp; omega
    go_enter Try.func6, Try.ntmps6
    go_wp2_with (go_at_call 10; refine (first_any _).mono ?_; rintro e w1 ⟨rfl, hb1⟩; replace hB := bstep hB hb1 (Nat.le_refl _); clear hb1)
    all_goals (go_ret; exact ⟨rfl, hB⟩)
  · have d1 : decide ((8000 : Int) < m) = false := by simp; omega
    have hn : m ≤ 8000 := by omega
    clear h1
    go_enter Try.func6, Try.ntmps6
    go_wp2_with (first
      | (go_at_call 10; refine (first_any _).mono ?_; rintro e w1 ⟨rfl, hb1⟩; replace hB := bstep hB hb1 (Nat.le_refl _); (try replace hin := hin.later hb1); (try replace hx := hx.later hb1); (try replace hy := hy.later hb1); (try replace hu := hu.later hb1); (try replace hv := hv.later hb1); clear hb1)
      | (go_at_call 12; go_must ((refine (copyB_any _ _ _ _ xs _ (Rd.below ha hB) (by omega)).mono ?_); rintro e w1 ⟨v1, rfl, hin, hb1⟩; replace hin := hin.mono hB.size; obtain ⟨Ai, nAi, cAi, rfl, _, lAi, _⟩ := hin.slice; replace hB := bstep hB hb1 (Nat.le_refl _); (try replace hin := hin.later hb1); (try replace hx := hx.later hb1); (try replace hy := hy.later hb1); (try replace hu := hu.later hb1); (try replace hv := hv.later hb1); clear hb1; have hni : nAi ≤ 8000 := (by have h5 := hin.rd.len; have h6 := ha.len; omega)))
      | (go_at_call 16; go_must ((refine (big_any n width _).mono ?_); rintro e w1 ⟨v1, rfl, hx, hb1⟩; replace hx := hx.mono hB.size; obtain ⟨Ax, nAx, cAx, rfl, _, lAx, _⟩ := hx.slice; replace hB := bstep hB hb1 (Nat.le_refl _); (try replace hin := hin.later hb1); (try replace hx := hx.later hb1); (try replace hy := hy.later hb1); (try replace hu := hu.later hb1); (try replace hv := hv.later hb1); clear hb1))
      | (go_at_call 17; go_must ((refine (bigR_any n width _).mono ?_); rintro e w1 ⟨v1, rfl, hy, hb1⟩; replace hy := hy.mono hB.size; obtain ⟨Ay, nAy, cAy, rfl, _, lAy, _⟩ := hy.slice; replace hB := bstep hB hb1 (Nat.le_refl _); (try replace hin := hin.later hb1); (try replace hx := hx.later hb1); (try replace hy := hy.later hb1); (try replace hu := hu.later hb1); (try replace hv := hv.later hb1); clear hb1))
      | (go_at_call 18; go_must ((refine (little_any n width _).mono ?_); rintro e w1 ⟨v1, rfl, hu, hb1⟩; replace hu := hu.mono hB.size; obtain ⟨Au, nAu, cAu, rfl, _, lAu, _⟩ := hu.slice; replace hB := bstep hB hb1 (Nat.le_refl _); (try replace hin := hin.later hb1); (try replace hx := hx.later hb1); (try replace hy := hy.later hb1); (try replace hu := hu.later hb1); (try replace hv := hv.later hb1); clear hb1))
      | (go_at_call 19; go_must ((refine (littleR_any n width _).mono ?_); rintro e w1 ⟨v1, rfl, hv, hb1⟩; replace hv := hv.mono hB.size; obtain ⟨Av, nAv, cAv, rfl, _, lAv, _⟩ := hv.slice; replace hB := bstep hB hb1 (Nat.le_refl _); (try replace hin := hin.later hb1); (try replace hx := hx.later hb1); (try replace hy := hy.later hb1); (try replace hu := hu.later hb1); (try replace hv := hv.later hb1); clear hb1))
      | (go_at_call 20; go_must (refine (readBig_any _ _ _ _ xs k width _ hin.rd lAi (by omega)).mono ?_; rintro e w1 ⟨rfl, rfl⟩))
      | (go_at_call 21; go_must (refine (readBigR_any _ _ _ _ xs k width _ (Rd.below ha hB) (by omega)).mono ?_; rintro e w1 ⟨rfl, rfl⟩))
      | (go_at_call 22; go_must (refine (readLittle_any _ _ _ _ xs k width _ hin.rd lAi (by omega)).mono ?_; rintro e w1 ⟨rfl, rfl⟩))
      | (go_at_call 23; go_must (refine (readLittleR_any _ _ _ _ xs k width _ (Rd.below ha hB) (by omega)).mono ?_; rintro e w1 ⟨rfl, rfl⟩))
      | (go_at_call 24; (with_reducible refine (bytes_any _ _ _ _ _ _ _ _ _ _ _ hx.rd hy.rd).mono ?_); rintro e w1 ⟨rfl, rfl⟩)
      | (go_at_call 24; (with_reducible refine (bytes_any _ _ _ _ _ _ _ _ _ _ _ hu.rd hv.rd).mono ?_); rintro e w1 ⟨rfl, rfl⟩)
      | (go_at_call 24; go_must (refine (bytes_any _ _ _ _ _ _ _ _ _ _ _ hin.rd (Rd.below ha hB)).mono ?_; rintro e w1 ⟨rfl, rfl⟩)))
    go_ret
    exact ⟨rfl, hB⟩
end Go.Proofs.Ytlhhhoolnojegaa
