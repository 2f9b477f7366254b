/- The walk of PixBack, whole. -/
import Derived.Test.YtcgpeijmmongoaaPixBack
namespace Go.Proofs.Ytcgpeijmmongoaa
set_option linter.all false
open Go.RowKit

theorem pixBack_walk (s : Sh) (A : Option Addr) (n c : Nat) (A' : Option Addr) (n' c' : Nat) (bs ds : List UInt8) (w : World) (h1 : RdB w w.heap.size A n bs) (h2 : RdB w w.heap.size A' n' ds) (l2 : n' ≤ c') (m2 : c' ≤ maxLen) :
    Calls Try.prog 11 #[s.r A n c, .slice A' n' c'] w fun e w' => e = .returned (.bool true) ∧ Below w.heap.size w w' := by
  by_cases h : n ≤ 20000 ∧ n' ≤ 20000
  · cases hp : s.mayR n with
    | false =>
      by_cases hq : decE ds = 0
      · exact pixBack_mayn_ok s A n c A' n' c' bs ds w h1 h2 l2 m2 h.1 h.2 hp hq
      · exact pixBack_mayn_bad s A n c A' n' c' bs ds w h1 h2 l2 m2 h.1 h.2 hp hq
    | true =>
      by_cases hq : decE ds = 0
      · exact pixBack_may_ok s A n c A' n' c' bs ds w h1 h2 l2 m2 h.1 h.2 hp hq
      · exact pixBack_may_bad s A n c A' n' c' bs ds w h1 h2 l2 m2 h.1 h.2 hp hq
  · exact pixBack_early s A n c A' n' c' w (fun a b => h ⟨a, b⟩)

end Go.Proofs.Ytcgpeijmmongoaa
