/- pix: a picture copied. -/
import Derived.Test.YtmffmijjdpjaiaaPix3
namespace Go.Proofs.Ytmffmijjdpjaiaa
set_option linter.all false
open Go.RowKit

/-- The five cells of a boxed picture may be written. -/
theorem free5 {w w1 : World} {cs : Array Value} {t : TypeId} {B : Nat} (hB : w.heap.size < B) (h : Below B (w.alloc (.cells cs t)) w1) (k : Nat) :
    w1.frozen? ⟨w.heap.size, k, none⟩ = false := by
  rw [h.frozen (p := ⟨w.heap.size, k, none⟩) hB]
  unfold World.frozen?
  rw [heap_alloc_new]
  simp

end Go.Proofs.Ytmffmijjdpjaiaa
