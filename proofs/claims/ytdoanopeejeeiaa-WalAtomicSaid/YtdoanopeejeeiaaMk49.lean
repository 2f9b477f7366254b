/- XWalAtomicW -/
import Derived.Test.YtdoanopeejeeiaaMk47
import Derived.Test.YtdoanopeejeeiaaMk48
namespace Go.Proofs.Ytdoanopeejeeiaa
set_option linter.all false
open Go.RowKit
theorem walAtomic_walk (n ring:Int) (A:Option Addr) (m c:Nat) (zs:List (List Int × Bs)) (A1 A2:Option Addr) (n1 c1 n2 c2:Nat) (ats:List Int) (cs:Bs) (at_:Int) (Ak:Option Addr) (nk ck:Nat) (mb:Bs) (Aa:Option Addr) (na ca:Nat) (again:List Int) (Am:Option Addr) (nm cm:Nat) (masks:List Bs) (w:World) (hr:RdSets w w.heap.size A m zs) (hr1:RdI w w.heap.size A1 n1 ats) (hr2:RdB w w.heap.size A2 n2 cs) (hats:∀ x ∈ ats,-9223372036854775808≤x∧x≤9223372036854775807) (hmb:RdB w w.heap.size Ak nk mb) (hag:RdI w w.heap.size Aa na again) (hagb:∀ x ∈ again,-9223372036854775808≤x∧x≤9223372036854775807) (hms:RowsB w w.heap.size Am nm masks) :
  Calls Try.prog 5 #[.int .i64 n,.int .i64 ring,.slice A m c,.agg #[.slice A1 n1 c1,.slice A2 n2 c2],.int .i64 at_,.slice Ak nk ck,.slice Aa na ca,.slice Am nm cm] w fun e w'=>e=.returned (.bool true)∧Below w.heap.size w w':=by
 by_cases hk:n < 4∨200 < n∨ring < 1∨n - 4 < ring∨20 < m∨150 < n1∨100 < nk∨10 < na∨nm ≠ na∨at_ < 1∨1000 < at_
 ·exact walAtomic_out n ring A m c A1 A2 n1 c1 n2 c2 at_ Ak nk ck Aa na ca Am nm cm w hk
 ·obtain ⟨N,rfl⟩:∃ N:Nat,n=(N:Int):=⟨n.toNat,by omega⟩
  obtain ⟨R,rfl⟩:∃ R:Nat,ring=(R:Int):=⟨ring.toNat,by omega⟩
  obtain rfl:nm=na:=by omega
  exact walAtomic_main N R A m c A1 A2 n1 c1 n2 c2 at_ Ak nk ck Aa nm ca Am cm mb ats cs zs again masks w hr hr1 hr2 hats hmb hag hagb hms (by omega) (by omega) (by omega) (by omega) (by omega) (by omega) (by omega) (by omega) (by omega) (by omega)
end Go.Proofs.Ytdoanopeejeeiaa

