/- pix: a picture copied. -/
import Derived.Test.YtcgpeijmmongoaaPix3
namespace Go.Proofs.Ytcgpeijmmongoaa
set_option linter.all false
open Go.RowKit

/-- The five cells of a boxed picture may be written. -/
theorem free5 {w w1 : World} {cs : Array Value} {t : TypeId} {B : Nat} (hB : w.heap.size < B) (h : Below B (w.alloc (.cells cs t)) w1) (k : Nat) :
    w1.frozen? ⟨w.heap.size, k, none⟩ = false := by
  rw [h.frozen (p := ⟨w.heap.size, k, none⟩) hB]
  unfold World.frozen?
  rw [heap_alloc_new]
  simp

set_option maxHeartbeats 800000 in
theorem copyR_any (s : Sh) (B : Nat) (A : Option Addr) (n cc : Nat) (bs : List UInt8) (w : World) (h : RdB w B A n bs) (hBw : B ≤ w.heap.size) (hm : n ≤ 140737488355328) :
    Calls Try.prog 24 #[s.r A n cc] w fun e w' => ∃ A' n' c', e = .returned (s.r A' n' c') ∧ ownB w' w.heap.size (.slice A' n' c') bs ∧ Below w.heap.size w w' := by
  have hB := Below.refl w.heap.size w
  obtain ⟨W, H, C, D⟩ := s
  show Calls _ _ #[.agg #[.int .i64 W, .int .i64 H, .int .i64 C, .int .i64 D, .slice A n cc]] w _
  go_enter Try.func24, Try.ntmps24
  go_wp2_with (go_at_call 43; go_must (refine (copyB_any B n cc A bs _ (h.blw (((hB.alloc hB.size _).alloc (by simp) _).mono hBw)) hm).mono ?_; rintro e w1 ⟨v1, rfl, hx, hb1⟩; obtain ⟨A1, n1, k1, rfl, _, _, _⟩ := hx.slice; obtain ⟨d0, d1, d2, d3, d4⟩ := cells5 (by simp) hb1; rw [World.size_alloc] at d0 d1 d2 d3 d4; have g0 := free5 (by simp) hb1 0; have g1 := free5 (by simp) hb1 1; have g2 := free5 (by simp) hb1 2; have g3 := free5 (by simp) hb1 3; have g4 := free5 (by simp) hb1 4; rw [World.size_alloc] at g0 g1 g2 g3 g4; obtain ⟨c0, c1, c2, c3, c4⟩ := cells5 (by simp) (bxd hb1); have f4 := free5 (by simp) (bxd hb1) 4; replace hB := bxd (bxd hb1); clear hb1))
  replace hx := hx.mono (base' := w.heap.size + 2) (by simp)
  refine bodyPost_ret (v := .agg #[.int .i64 W, .int .i64 H, .int .i64 C, .int .i64 D, .slice A1 n1 k1]) ?_ rfl ?_
  · unfold results
    go_simp
  · have n0 := ownB_ne hx (g := w.heap.size) (by omega)
    have n1' := ownB_ne hx (g := w.heap.size + 1) (by omega)
    refine ⟨A1, n1, k1, rfl, ?_, ?_⟩
    · exact ((((((hx.far n0 _ _).far n1' _ _).far n1' _ _).far n1' _ _).far n1' _ _).far n1' _ _).mono (by omega)
    · exact (((((hB.setCell (Nat.le_refl _) _).setCell (Nat.le_succ _) _).setCell (Nat.le_succ _) _).setCell (Nat.le_succ _) _).setCell (Nat.le_succ _) _).setCell (Nat.le_succ _) _
end Go.Proofs.Ytcgpeijmmongoaa
