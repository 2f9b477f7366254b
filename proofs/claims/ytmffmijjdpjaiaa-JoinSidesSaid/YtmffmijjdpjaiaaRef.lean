/- The reference's small helpers: a copy of bytes, two lists of bytes held against one another. -/
import Derived.Test.YtmffmijjdpjaiaaBase
namespace Go.Proofs.Ytmffmijjdpjaiaa
set_option linter.all false
open Go.RowKit

end Go.Proofs.Ytmffmijjdpjaiaa
