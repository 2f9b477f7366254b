/- Bytes as digits, here and in the reference. -/
import Derived.Test.YtmffmijjdpjaiaaBase
namespace Go.Proofs.Ytmffmijjdpjaiaa
set_option linter.all false
open Go.RowKit

def hexd (n : Nat) : UInt8 := if n < 10 then UInt8.ofNat (48 + n) else UInt8.ofNat (87 + n)
def hexB (l : List UInt8) : List UInt8 := l.flatMap fun x => [hexd (x.toNat / 16), hexd (x.toNat % 16)]
theorem hexB_len (l : List UInt8) : (hexB l).length = 2 * l.length := by
  induction l with
  | nil => rfl
  | cons x l ih => simp [hexB] at ih ⊢; omega
theorem hexB_step (l : List UInt8) (k : Nat) (x : UInt8) (h : l[k]? = some x) : hexB (l.take (k + 1)) = hexB (l.take k) ++ [hexd (x.toNat / 16), hexd (x.toNat % 16)] := by
  obtain ⟨hk, rfl⟩ := List.getElem?_eq_some_iff.1 h
  rw [List.take_succ_eq_append_getElem hk]
  simp only [hexB, List.flatMap_append]
  rfl

def digits : ByteArray := { data := #[48, 49, 50, 51, 52, 53, 54, 55, 56, 57, 97, 98, 99, 100, 101, 102] }
theorem dig_all : ∀ i : Fin 16, digits.data[i.val]? = some (hexd i.val) := by decide
theorem dig_at (i : Nat) (j : Nat) (hi : i = j) (hj : j < 16) (h : i < digits.size) : ((digits[i]'h).toNat : Int) = ((hexd j).toNat : Int) := by
  subst hi
  have := dig_all ⟨i, hj⟩
  obtain ⟨h1, h2⟩ := Array.getElem?_eq_some_iff.1 this
  have : digits[i]'h = hexd i := h2
  rw [this]

theorem and15 (x : UInt8) : bits .and .u8 (x.toNat : Int) 15 = ((x.toNat % 16 : Nat) : Int) := by
  have := u8_and_nat x.toNat 15 (by have := x.toNat_lt; omega) (by omega)
  rw [nat_mask4] at this
  simpa using this

end Go.Proofs.Ytmffmijjdpjaiaa
