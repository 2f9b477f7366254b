/- JoinSides: the walk, of its parts. -/
import Derived.Test.YtmffmijjdpjaiaaJSF
import Derived.Test.YtmffmijjdpjaiaaJS3
import Derived.Test.YtmffmijjdpjaiaaJS4
import Derived.Test.YtmffmijjdpjaiaaJS5
import Derived.Test.YtmffmijjdpjaiaaJS6
import Derived.Test.YtmffmijjdpjaiaaJS7
import Derived.Test.YtmffmijjdpjaiaaJS8
import Derived.Test.YtmffmijjdpjaiaaJS9
namespace Go.Proofs.Ytmffmijjdpjaiaa
set_option linter.all false
open Go.RowKit

theorem joinSides_walk (o a b : Tr) (w : World) (ho : RdT w w.heap.size o.A o.n o.ts) (co : o.n ≤ o.c) (mo : o.c ≤ maxLen) (ha : RdT w w.heap.size a.A a.n a.ts) (ca : a.n ≤ a.c) (ma : a.c ≤ maxLen) (hb : RdT w w.heap.size b.A b.n b.ts) (cb : b.n ≤ b.c) (mb : b.c ≤ maxLen) :
    Calls Try.prog 3 #[o.s.r o.A o.n o.c, a.s.r a.A a.n a.c, b.s.r b.A b.n b.c] w fun e w' => e = .returned (.bool true) ∧ Below w.heap.size w w' := by
  cases f0 : fewT o.ts with
  | false => exact joinSides_early o a b w ho co mo ha ca ma hb cb mb (.inl f0)
  | true =>
    cases f1 : fewT a.ts with
    | false => exact joinSides_early o a b w ho co mo ha ca ma hb cb mb (.inr (.inl ⟨f0, f1⟩))
    | true =>
      cases f2 : fewT b.ts with
      | false => exact joinSides_early o a b w ho co mo ha ca ma hb cb mb (.inr (.inr ⟨f0, f1, f2⟩))
      | true =>
        rcases wrongT_cases [o, a, b] with e | e
        · exact (joinSides_A.2.2 jsf_ (joinSides_R.2.2.2.2.2.2.2 js3_ js4_ js5_ js6_ js7_ js8_ js9_)) o a b w ho co mo ha ca ma hb cb mb f0 f1 f2 e
        · exact joinSides_err o a b w ho co mo ha ca ma hb cb mb f0 f1 f2 _ rfl e

end Go.Proofs.Ytmffmijjdpjaiaa
