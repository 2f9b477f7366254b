/- The walk of DiffChains, whole. -/
import Derived.Test.YtcgpeijmmongoaaDiffChains2
namespace Go.Proofs.Ytcgpeijmmongoaa
set_option linter.all false
open Go.RowKit

theorem chains_walk (s t u : Sh) (A A' A'' : Option Addr) (n a n' a' n'' a'' : Nat) (xs ys zs : List UInt8) (w : World) (h1 : RdB w w.heap.size A n xs) (h2 : RdB w w.heap.size A' n' ys) (h3 : RdB w w.heap.size A'' n'' zs) :
    Calls Try.prog 4 #[s.r A n a, t.r A' n' a', u.r A'' n'' a''] w fun e w' => e = .returned (.bool true) ∧ Below w.heap.size w w' := by
  cases h : chainsGo s t u n n' n'' with
  | false => exact chains_early s t u n a n' a' n'' a'' A A' A'' w h
  | true =>
    unfold chainsGo at h
    simp only [Bool.and_eq_true, decide_eq_true_eq] at h
    obtain ⟨h0, p1, p2, p3, rfl, rfl⟩ := h
    have e1 : n' = n := by unfold Sh.mayR at p1 p2; simp at p1 p2; omega
    have e2 : n'' = n := by unfold Sh.mayR at p1 p3; simp at p1 p3; omega
    subst e1 e2
    exact chains_main s _ a a' a'' A A' A'' xs ys zs w h1 h2 h3 h0 p1

end Go.Proofs.Ytcgpeijmmongoaa
