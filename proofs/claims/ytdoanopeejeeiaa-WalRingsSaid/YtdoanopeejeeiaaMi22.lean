/- XWl0 -/
import Derived.Test.YtdoanopeejeeiaaMi14
namespace Go.Proofs.Ytdoanopeejeeiaa
abbrev PT:=Int × Option Addr × Nat × Nat
abbrev SL:=Option Addr × Nat × Nat
abbrev ST:=SL × SL
end Go.Proofs.Ytdoanopeejeeiaa

