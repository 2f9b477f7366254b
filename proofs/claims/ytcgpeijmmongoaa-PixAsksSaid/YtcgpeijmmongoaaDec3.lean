/- pix: bytes as a picture, by the reference. -/
import Derived.Test.YtcgpeijmmongoaaDec1
import Derived.StillTailTactics
namespace Go.Proofs.Ytcgpeijmmongoaa
set_option linter.all false
open Go.RowKit

theorem or_join (a b : UInt8) : bits .or .i64 ((a.toNat : Int) * 256) (b.toNat : Int) = ((a.toNat * 256 + b.toNat : Nat) : Int) := by
  exact or_be a.toNat b.toNat (by have := a.toNat_lt; omega) (by have := b.toNat_lt; omega)

set_option maxHeartbeats 1600000 in
theorem shapeOf9_any (B n c : Nat) (A : Option Addr) (a b' c' d e f : UInt8) (t : List UInt8) (w : World) (h : RdB w B A n (a :: b' :: c' :: d :: e :: f :: t)) (hBw : B ≤ w.heap.size) :
    Calls Try.prog 69 #[.slice A n c] w fun e' w' => e' = .returned (sh7 a b' c' d e f).v ∧ Below w.heap.size w w' := by
  have hB := Below.refl w.heap.size w
  have hn := h.len
  have hn6 : 6 ≤ n := by rw [← hn]; simp
  obtain ⟨b, o, rfl, hb, hcell⟩ := h.at_ (by omega)
  have x0 := hcell 0 (by simp)
  have x1 := hcell 1 (by simp)
  have x2 := hcell 2 (by simp)
  have x3 := hcell 3 (by simp)
  have x4 := hcell 4 (by simp)
  have x5 := hcell 5 (by simp)
  simp only [List.getElem_cons_zero, List.getElem_cons_succ] at x0 x1 x2 x3 x4 x5
  rw [Nat.add_zero] at x0
  clear hcell hn h
  have hbo : ¬ b = w.heap.size := by omega
  have hbo2 : b < w.heap.size := by omega
  have i0 : 0 < n := by omega
  have i1 : 1 < n := by omega
  have i2 : 2 < n := by omega
  have i3 : 3 < n := by omega
  have i4 : 4 < n := by omega
  have i5 : 5 < n := by omega
  have I1 : (1 : Int) < n := by omega
  have I2 : (2 : Int) < n := by omega
  have I3 : (3 : Int) < n := by omega
  have I4 : (4 : Int) < n := by omega
  have I5 : (5 : Int) < n := by omega
  have za := a.toNat_lt
  have zb := b'.toNat_lt
  have zc := c'.toNat_lt
  have zd := d.toNat_lt
  have ze := e.toNat_lt
  have zf := f.toNat_lt
  have j1 := or_join a b'
  have j2 := or_join c' d
  have va := wrapI (a.toNat : Int) (by omega) (by omega)
  have vb := wrapI (b'.toNat : Int) (by omega) (by omega)
  have vc := wrapI (c'.toNat : Int) (by omega) (by omega)
  have vd := wrapI (d.toNat : Int) (by omega) (by omega)
  have ve := wrapI (e.toNat : Int) (by omega) (by omega)
  have vf := wrapI (f.toNat : Int) (by omega) (by omega)
  have u1 := wrapI ((a.toNat : Int) * 256) (by omega) (by omega)
  have u2 := wrapI ((c'.toNat : Int) * 256) (by omega) (by omega)
  unfold sh7 Sh.v
  dsimp only
  go_enter Try.func69, Try.ntmps69
  go_wp2
  have ss := new4 w (.int .i64 0) (.int .i64 0) (.int .i64 0) (.int .i64 0) 23 (0, 0)
  have ff := boxF (w := w) (cs := #[.int .i64 0, .int .i64 0, .int .i64 0, .int .i64 0]) (t := 23) (Below.refl _ _)
  replace hB := hB.alloc (Nat.le_refl _) (.cells #[.int .i64 0, .int .i64 0, .int .i64 0, .int .i64 0] 23)
  replace x0 := bsame hB hbo2 x0
  replace x1 := bsame hB hbo2 x1
  replace x2 := bsame hB hbo2 x2
  replace x3 := bsame hB hbo2 x3
  replace x4 := bsame hB hbo2 x4
  replace x5 := bsame hB hbo2 x5
  generalize w.alloc (.cells #[.int .i64 0, .int .i64 0, .int .i64 0, .int .i64 0] 23) = w1 at *
  go_still_tail 29, (by kernel_rfl)
  go_wp2
  refine bodyPost_ret (v := .agg #[.int .i64 ((a.toNat * 256 + b'.toNat : Nat) : Int), .int .i64 ((c'.toNat * 256 + d.toNat : Nat) : Int), .int .i64 (e.toNat : Int), .int .i64 (f.toNat : Int)]) ?_ rfl ?_
  · unfold results
    go_simp
  · exact ⟨rfl, ((((hB.setCell (p := ⟨w.heap.size, 0, none⟩) (Nat.le_refl _) _).setCell (p := ⟨w.heap.size, 1, none⟩) (Nat.le_refl _) _).setCell (p := ⟨w.heap.size, 2, none⟩) (Nat.le_refl _) _).setCell (p := ⟨w.heap.size, 3, none⟩) (Nat.le_refl _) _).drew⟩

end Go.Proofs.Ytcgpeijmmongoaa
