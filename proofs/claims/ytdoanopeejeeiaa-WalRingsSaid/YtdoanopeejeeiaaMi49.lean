/- XWalRingsW -/
import Derived.Test.YtdoanopeejeeiaaMi48
namespace Go.Proofs.Ytdoanopeejeeiaa
set_option linter.all false
open Go.RowKit
theorem walRings_walk (n ring:Int) (A:Option Addr) (m c:Nat) (zs:List (List Int × Bs)) (w:World) (hr:RdSets w w.heap.size A m zs) :
  Calls Try.prog 3 #[.int .i64 n,.int .i64 ring,.slice A m c] w fun e w'=>e=.returned (.bool true)∧Below w.heap.size w w':=by
 by_cases hk:n < 4∨200 < n∨ring < 1∨n - 4 < ring∨40 < m
 ·exact walRings_out n ring A m c w hk
 ·obtain ⟨N,rfl⟩:∃ N:Nat,n=(N:Int):=⟨n.toNat,by omega⟩
  obtain ⟨R,rfl⟩:∃ R:Nat,ring=(R:Int):=⟨ring.toNat,by omega⟩
  exact walRings_main N R A m c zs w hr (by omega) (by omega) (by omega) (by omega) (by omega)
end Go.Proofs.Ytdoanopeejeeiaa

