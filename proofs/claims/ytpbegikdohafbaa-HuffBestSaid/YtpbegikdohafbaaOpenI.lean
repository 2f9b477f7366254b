/- Arguments that are lists of numbers. -/
import Derived.Test.YtpbegikdohafbaaFrame
import Derived.Test.YtpbegikdohafbaaRowI
namespace Go.Proofs.Ytpbegikdohafbaa
set_option linter.all false
open Go.ChangeShapes Go.WideShapes Go.ChangeAt Go.RowKit

theorem open_intl {H : Type} {enc : TypeId × Value → H} {W : World} {sp : Nat → Bool} {held : Bool} {a : Option Addr} {n c : Nat} {d : DataW H} {p : List MemPlace}
    (h : DataW.Trod enc Try.prog W 0 sp held 22 (.slice a n c) d p) : ∃ l, RdI W W.heap.size a n l ∧ n ≤ c ∧ c ≤ maxLen := by
  obtain ⟨fuel, hf⟩ := h
  rcases open_ints Try.underlying22 Try.underlying3 (by kernel_rfl) hf with ⟨hcs, _⟩ | ⟨x, l, cc, zs, hcs, _, hl, hm, hz, _, hcell, hwz⟩
  · simp [Value.cells] at hcs
    obtain ⟨rfl, rfl, rfl⟩ := hcs
    exact ⟨[], Rd.none_, by omega, by simp⟩
  · simp [Value.cells] at hcs
    obtain ⟨rfl, rfl, rfl⟩ := hcs
    have hzn : n ≤ zs.length := by rw [hz]; split <;> omega
    refine ⟨zs.take n, ⟨by simp [cI]; omega, fun hn => ?_⟩, hl, hm⟩
    have h0 := hcell 0 (by omega)
    obtain ⟨b, o, spot⟩ := x
    have hspot : spot = none := by simpa [Addr.add] using World.cell?_spot h0
    subst hspot
    refine ⟨b, o, rfl, ?_, fun j u hu => ?_⟩
    · have := block_lt_of_cell h0
      simpa [add_none] using this
    · have hj : j < n := by
        have := (List.getElem?_eq_some_iff.1 hu).1
        simp [cI] at this
        omega
      have h1 := hcell j (by omega)
      rw [add_none] at h1
      rw [h1]
      simp [cI, hj] at hu
      obtain ⟨y, hy, rfl⟩ := hu
      rw [List.getD_eq_getElem?_getD, hy]
      rfl
end Go.Proofs.Ytpbegikdohafbaa
