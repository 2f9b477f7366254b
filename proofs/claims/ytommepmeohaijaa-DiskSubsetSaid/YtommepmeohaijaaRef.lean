/- The reference's small helpers: a copy of bytes, two lists of bytes held against one another. -/
import Derived.Test.YtommepmeohaijaaBase
namespace Go.Proofs.Ytommepmeohaijaa
set_option linter.all false
open Go.RowKit

/-- Bytes: are two lists of bytes alike? -/
theorem bytes_any (B n c B' n' c' : Nat) (A A' : Option Addr) (xs ys : List UInt8) (w : World) (h : RdB w B A n xs) (h' : RdB w B' A' n' ys) :
    Calls Try.prog 16 #[.slice A n c, .slice A' n' c'] w fun e w' => e = .returned (.bool (xs == ys)) ∧ w = w' := by
  have k1 := run_strB h (c := c)
  have k2 := run_strB h' (c := c')
  go_enter Try.func16, Try.ntmps16
  go_wp2_with fail
  go_ret
  exact ⟨rfl, rfl⟩
end Go.Proofs.Ytommepmeohaijaa
