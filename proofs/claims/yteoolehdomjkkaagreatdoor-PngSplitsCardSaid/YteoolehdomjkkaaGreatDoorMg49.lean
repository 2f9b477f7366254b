/- XPngSplitsW -/
import Derived.Test.YteoolehdomjkkaaGreatDoorMg48
namespace Go.Proofs.YteoolehdomjkkaaGreatDoor
set_option linter.all false
open Go.RowKit
theorem pngSplits_walk (s:Sh) (A:Option Addr) (n c:Nat) (bs:List UInt8) (cut:Int) (A2:Option Addr) (n2 c2:Nat) (data:List UInt8) (w:World)
  (h:RdB w w.heap.size A n bs) (hc:n≤c) (h2:RdB w w.heap.size A2 n2 data) :
  Calls Tryz.prog 5 #[s.r A n c,.int .i64 cut,.slice A2 n2 c2] w fun e w'=>e=.returned (.bool true)∧Below w.heap.size w w':=by
 cases hm:s.mayR n with
 | false =>
  obtain ⟨W,H,C,D⟩:=s
  exact pngSplits_out W H C D cut A A2 n c n2 c2 bs data false w h h2 hm (Or.inr (Or.inr (Or.inr rfl)))
 | true =>
  by_cases hk:3000 < n∨cut < 0∨300 < n2
  ·obtain ⟨W,H,C,D⟩:=s
   exact pngSplits_out W H C D cut A A2 n c n2 c2 bs data true w h h2 hm (by omega)
  ·have hm':=hm
   unfold Sh.mayR at hm'
   rw [Bool.and_eq_true] at hm'
   obtain ⟨W,H,C,D,K,rfl,hs,hz⟩:=PS.of_may hm'.1
   have hm2:=of_decide_eq_true hm'.2
   rw [hs.size.1] at hm2
   have hm3:n=H * (W * K):=by exact_mod_cast hm2
   obtain ⟨Q,rfl⟩:∃ Q:Nat,cut=(Q:Int):=⟨cut.toNat,by omega⟩
   exact pngSplits_main W H C D K Q A A2 n c n2 c2 bs data w h h2 hc hs hz hm3 (by omega) (by omega)
end Go.Proofs.YteoolehdomjkkaaGreatDoor

