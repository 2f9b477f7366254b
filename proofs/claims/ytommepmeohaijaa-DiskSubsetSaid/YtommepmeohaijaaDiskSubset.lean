/- DiskSubset: the walk, of its parts. -/
import Derived.Test.YtommepmeohaijaaSub2
namespace Go.Proofs.Ytommepmeohaijaa
set_option linter.all false
open Go.RowKit Go.Maps

theorem diskSubset_walk (n : Int) (A : Option Addr) (m c : Nat) (l : List (Int × UInt8)) (A2 : Option Addr) (m2 c2 : Nat) (l2 : List (Int × UInt8)) (A3 : Option Addr) (m3 c3 : Nat) (ms : Bs) (w : World) (hr : RdO w w.heap.size A m l) (hr2 : RdO w w.heap.size A2 m2 l2) (hr3 : RdB w w.heap.size A3 m3 ms) :
    Calls Try.prog 4 #[.int .i64 n, .slice A m c, .slice A2 m2 c2, .slice A3 m3 c3] w fun e w' => e = .returned (.bool true) ∧ Below w.heap.size w w' := by
  by_cases h : n < 4 ∨ 40 < n ∨ 100 < m ∨ 100 < m2 ∨ 100 < m3
  · exact diskSubset_early n A m c A2 m2 c2 A3 m3 c3 w h
  · obtain ⟨N, rfl⟩ := Int.eq_ofNat_of_zero_le (show 0 ≤ n by omega)
    exact diskSubset_A.2 sub2_ N A m c l A2 m2 c2 l2 A3 m3 c3 ms w hr hr2 hr3 (by omega) (by omega) (by omega) (by omega) (by omega)
end Go.Proofs.Ytommepmeohaijaa
