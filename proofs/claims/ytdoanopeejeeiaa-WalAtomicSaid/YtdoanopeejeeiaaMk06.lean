/- XRef -/
import Derived.Test.YtdoanopeejeeiaaMk01
namespace Go.Proofs.Ytdoanopeejeeiaa
set_option linter.all false
open Go.RowKit
end Go.Proofs.Ytdoanopeejeeiaa

