/- XFrame -/
import Derived.Test.YtdoanopeejeeiaaMj01
import Derived.ProofKit
import Derived.OpenShut
import Derived.ShutString
import Derived.ChangeOld
namespace Go.Proofs.Ytdoanopeejeeiaa
set_option linter.all false
open Go.ChangeShapes Go.WideShapes Go.ChangeAt Go.RowKit
open Go.ChangeMaps (open_string shut_string)
theorem own:ownKnob Try.prog.godebug=none:=by kernel_rfl
theorem laidOut:laidOutB Try.prog=true:=by kernel_rfl
theorem u8_back (z:Int) (h:(Lit.int .u8 z).wf=true):((UInt8.ofNat z.toNat).toNat:Int)=z:=by
 have b:=bounds_u8 h
 rw [UInt8.toNat_ofNat']
 omega
theorem open_bytes {H:Type} {enc:TypeId × Value→H} {W:World} {sp:Nat→Bool} {held:Bool} {a:Option Addr} {n c:Nat} {d:DataW H} {p:List MemPlace}
  (h:DataW.Trod enc Try.prog W 0 sp held 36 (.slice a n c) d p):∃ bs,RdB W W.heap.size a n bs∧n≤c∧c≤maxLen:=by
 obtain ⟨fuel,hf⟩:=h
 rcases open_ints Try.underlying36 Try.underlying5 (by kernel_rfl) hf with ⟨hcs,_⟩ | ⟨x,l,cc,zs,hcs,_,hl,hm,hz,_,hcell,hwz⟩
 ·simp [Value.cells] at hcs
  obtain ⟨rfl,rfl,rfl⟩:=hcs
  exact ⟨[],Rd.none_,by omega,by simp⟩
 ·simp [Value.cells] at hcs
  obtain ⟨rfl,rfl,rfl⟩:=hcs
  have hzn:n≤zs.length:=by rw [hz];split <;> omega
  refine ⟨(zs.take n).map fun z=>UInt8.ofNat z.toNat,⟨by simp [cb];omega,fun hn=>?_⟩,hl,hm⟩
  have h0:=hcell 0 (by omega)
  obtain ⟨b,o,spot⟩:=x
  have hspot:spot=none:=by simpa [Addr.add] using World.cell?_spot h0
  subst hspot
  refine ⟨b,o,rfl,?_,fun j u hu=>?_⟩
  ·have:=block_lt_of_cell h0
   simpa [add_none] using this
  ·have hj:j < n:=by
    have:=(List.getElem?_eq_some_iff.1 hu).1
    simp [cb] at this
    omega
   have hc:=hcell j (by omega)
   rw [add_none] at hc
   rw [hc]
   have hw:=hwz (zs[j]'(by omega)) (List.getElem_mem _)
   simp [cb,List.getElem?_take,hj,List.getElem?_eq_getElem (show j < zs.length by omega)] at hu
   rw [← hu]
   have:=u8_back _ hw
   rw [UInt8.toNat_ofNat'] at this
   simp [List.getD,List.getElem?_eq_getElem (show j < zs.length by omega)]
   simpa using this.symm
end Go.Proofs.Ytdoanopeejeeiaa

