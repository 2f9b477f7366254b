/- filt: the reference's row filters. -/
import Derived.Test.YtcancpnepfnhmaaMaFilt2
import Derived.StillTailTactics
namespace Go.Proofs.Ytcancpnepfnhmaa
set_option linter.all false
open Go.RowKit

theorem abs_dist (p a : Int) : (if p - a ≤ 0 then -(p - a) else p - a) = dist p a := by unfold dist; split <;> split <;> omega

end Go.Proofs.Ytcancpnepfnhmaa
