/- XPngHeadsW -/
import Derived.Test.YtebbdifhiihfkaaGreatDoorMh48
namespace Go.Proofs.YtebbdifhiihfkaaGreatDoor
set_option linter.all false
open Go.RowKit
theorem pngHeads_walk (s:Sh) (A:Option Addr) (n c:Nat) (bs:List UInt8) (more:Int) (w:World)
  (h:RdB w w.heap.size A n bs) (hc:n≤c) :
  Calls Tryz.prog 6 #[s.r A n c,.int .i64 more] w fun e w'=>e=.returned (.bool true)∧Below w.heap.size w w':=by
 cases hm:s.mayR n with
 | false =>
  obtain ⟨W,H,C,D⟩:=s
  exact pngHeads_out W H C D more A n c bs false w h hm (Or.inr (Or.inr (Or.inr rfl)))
 | true =>
  by_cases hk:3000 < n∨more < 1∨200 < more
  ·obtain ⟨W,H,C,D⟩:=s
   exact pngHeads_out W H C D more A n c bs true w h hm (by omega)
  ·have hm':=hm
   unfold Sh.mayR at hm'
   rw [Bool.and_eq_true] at hm'
   obtain ⟨W,H,C,D,K,rfl,hs,hz⟩:=PS.of_may hm'.1
   have hm2:=of_decide_eq_true hm'.2
   rw [hs.size.1] at hm2
   have hm3:n=H * (W * K):=by exact_mod_cast hm2
   obtain ⟨M,rfl⟩:∃ M:Nat,more=(M:Int):=⟨more.toNat,by omega⟩
   exact pngHeads_main W H C D K M A n c bs w h hc hs hz hm3 (by omega) (by omega) (by omega)
end Go.Proofs.YtebbdifhiihfkaaGreatDoor

