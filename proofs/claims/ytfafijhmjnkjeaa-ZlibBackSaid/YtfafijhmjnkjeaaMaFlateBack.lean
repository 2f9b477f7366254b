/- FlateBack. -/
import Derived.Test.YtfafijhmjnkjeaaMa40
import Derived.Test.YtfafijhmjnkjeaaMa37
import Derived.Test.YtfafijhmjnkjeaaMa31
import Derived.Test.YtfafijhmjnkjeaaMa10
namespace Go.Proofs.Ytfafijhmjnkjeaa
set_option linter.all false
open Go.RowKit

/-- Bytes so many times. -/
def timesB (bs : List UInt8) : Nat → List UInt8
  | 0 => []
  | k + 1 => timesB bs k ++ bs
theorem timesB_len (bs : List UInt8) : ∀ k, (timesB bs k).length = k * bs.length
  | 0 => by simp [timesB]
  | k + 1 => by rw [timesB, List.length_append, timesB_len bs k, Nat.succ_mul]
end Go.Proofs.Ytfafijhmjnkjeaa
