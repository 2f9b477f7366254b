/- Bits of bytes, plainly. -/
import Derived.Test.YtpbegikdohafbaaBase
import Derived.Laws.BitsAllLaws
namespace Go.Proofs.Ytpbegikdohafbaa
set_option linter.all false

/-- The p-th bit of bytes, the least of a byte first. -/
def bitAt (bs : List UInt8) (p : Nat) : Nat := (bs.getD (p / 8) 0).toNat / 2 ^ (p % 8) % 2
theorem bitAt_lt (bs : List UInt8) (p : Nat) : bitAt bs p < 2 := Nat.mod_lt _ (by decide)
/-- k bits as a number, the first the least. -/
def getV (bs : List UInt8) (P : Nat) : Nat → Nat
  | 0 => 0
  | k + 1 => getV bs P k + bitAt bs (P + k) * 2 ^ k
theorem getV_lt (bs : List UInt8) (P k : Nat) : getV bs P k < 2 ^ k := by
  induction k with
  | zero => exact Nat.one_pos
  | succ k ih =>
    have := bitAt_lt bs (P + k)
    rw [getV, Nat.pow_succ]
    have h2 : bitAt bs (P + k) * 2 ^ k ≤ 1 * 2 ^ k := Nat.mul_le_mul_right _ (by omega)
    omega
theorem or_bit {x k b : Nat} (hx : x < 2 ^ k) : x ||| (b * 2 ^ k) = x + b * 2 ^ k := by
  have := Nat.two_pow_add_eq_or_of_lt hx b
  rw [Nat.mul_comm, Nat.or_comm, ← this, Nat.add_comm]
theorem getV_one (bs : List UInt8) (P : Nat) : getV bs P 1 = bitAt bs P := by simp [getV]
theorem and_bit (x : UInt8) (t : Nat) : bits .and .u8 ((x.toNat : Int) / 2 ^ t) 1 = ((x.toNat / 2 ^ t % 2 : Nat) : Int) := by
  have e : ((x.toNat : Int) / 2 ^ t) = ((x.toNat / 2 ^ t : Nat) : Int) := by rw [show ((2 : Int) ^ t) = ((2 ^ t : Nat) : Int) by push_cast; rfl, ← Int.natCast_ediv]
  have hl : x.toNat / 2 ^ t < 256 := Nat.lt_of_le_of_lt (Nat.div_le_self _ _) x.toNat_lt
  rw [e, show (1 : Int) = ((1 : Nat) : Int) from rfl, u8_and_nat _ _ hl (by decide), Nat.and_one_is_mod]
theorem get_step (V k t : Nat) (x : UInt8) (hk : k < 24) (hV : V < 2 ^ k) :
    bits .or .u32 (V : Int) (bits .and .u8 ((x.toNat : Int) / 2 ^ t) 1 % 4294967296 * 2 ^ k % 4294967296) = ((V + x.toNat / 2 ^ t % 2 * 2 ^ k : Nat) : Int) := by
  rw [and_bit]
  have hb : x.toNat / 2 ^ t % 2 < 2 := Nat.mod_lt _ (by decide)
  generalize x.toNat / 2 ^ t % 2 = b at *
  have hp : 2 ^ k ≤ 2 ^ 23 := Nat.pow_le_pow_right (by decide) (by omega)
  have hp0 : 0 < 2 ^ k := Nat.two_pow_pos k
  have hm : b * 2 ^ k ≤ 1 * 2 ^ k := Nat.mul_le_mul_right _ (by omega)
  have e : ((b : Int) % 4294967296 * 2 ^ k % 4294967296) = ((b * 2 ^ k : Nat) : Int) := by
    have e1 : (b : Int) % 4294967296 = b := Int.emod_eq_of_lt (by omega) (by omega)
    have e2 : (b : Int) * 2 ^ k = ((b * 2 ^ k : Nat) : Int) := by push_cast; rfl
    rw [e1, e2]
    generalize b * 2 ^ k = u at *
    exact Int.emod_eq_of_lt (by omega) (by omega)
  rw [e, u32_or_nat _ _ (by omega) (by omega), or_bit hV]
end Go.Proofs.Ytpbegikdohafbaa
