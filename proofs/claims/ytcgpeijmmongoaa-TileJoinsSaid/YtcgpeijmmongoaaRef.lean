/- The reference's small helpers: a copy of bytes, two lists of bytes held against one another. -/
import Derived.Test.YtcgpeijmmongoaaBase
namespace Go.Proofs.Ytcgpeijmmongoaa
set_option linter.all false
open Go.RowKit

/-- CopyBytes. -/
theorem copyB_any (B n c : Nat) (A : Option Addr) (bs : List UInt8) (w : World) (h : RdB w B A n bs) (hm : n ≤ 140737488355328) :
    Calls Try.prog 43 #[.slice A n c] w fun e w' => ∃ v, e = .returned v ∧ ownB w' w.heap.size v bs ∧ Below w.heap.size w w' := by
  go_enter Try.func43, Try.ntmps43
  go_wp2_with (at_builtin; go_loud (refine wpList_appendB rfl (.tmp 3) (.tmp 4) rfl w.heap.size _ [] rfl (own_lit w [] (by simp)) w.heap.size n c A bs rfl (Rd.alloc (Rd.here h) (Nat.le_refl _) _) (by simp; omega) (by simp) ?_); intro v1 w1 hown hg hb hat)
  go_ret
  exact ⟨_, rfl, by simpa using hown, ((Below.refl _ _).alloc (Nat.le_refl _) _).trans hb⟩

/-- Bytes: are two lists of bytes alike? -/
theorem bytes_any (B n c B' n' c' : Nat) (A A' : Option Addr) (xs ys : List UInt8) (w : World) (h : RdB w B A n xs) (h' : RdB w B' A' n' ys) :
    Calls Try.prog 42 #[.slice A n c, .slice A' n' c'] w fun e w' => e = .returned (.bool (xs == ys)) ∧ w = w' := by
  have k1 := run_strB h (c := c)
  have k2 := run_strB h' (c := c')
  go_enter Try.func42, Try.ntmps42
  go_wp2_with fail
  go_ret
  exact ⟨rfl, rfl⟩
end Go.Proofs.Ytcgpeijmmongoaa
