/- Writers of bits, plainly. -/
import Derived.Test.YtpbegikdohafbaaDecP
namespace Go.Proofs.Ytpbegikdohafbaa
set_option linter.all false
open Go.RowKit

/-- Bytes hold bits: so many bytes, behind the last bit nothing. -/
def WB (bs : List UInt8) (L : List Nat) : Prop := bs.length = (L.length + 7) / 8 ∧ ∀ p, bitAt bs p = L.getD p 0
theorem WB.nil : WB [] [] := ⟨rfl, fun p => by simp [bitAt]⟩
theorem or_place (x b t q : Nat) (hb : b < 2) (hx : x / 2 ^ t % 2 = 0) : (x ||| b * 2 ^ t) / 2 ^ q % 2 = if q = t then b else x / 2 ^ q % 2 := by
  have key : ∀ y : Nat, y / 2 ^ q % 2 = (y.testBit q).toNat := fun y => by
    rw [Nat.testBit_eq_decide_div_mod_eq]
    rcases Nat.mod_two_eq_zero_or_one (y / 2 ^ q) with h | h <;> simp [h]
  have hx' : x.testBit t = false := by rw [Nat.testBit_eq_decide_div_mod_eq]; simp [hx]
  rw [key, key, Nat.testBit_or]
  rcases Nat.lt_or_ge b 1 with h0 | h1
  · obtain rfl : b = 0 := by omega
    rw [Nat.zero_mul, Nat.zero_testBit, Bool.or_false]
    split
    · rename_i e; subst e; rw [hx']; rfl
    · rfl
  · obtain rfl : b = 1 := by omega
    rw [Nat.one_mul, Nat.testBit_two_pow]
    by_cases e : q = t
    · subst e; rw [if_pos rfl]; simp
    · rw [if_neg e]
      have : ¬ t = q := fun e' => e e'.symm
      simp [this]
theorem or_lt256 (x b t : Nat) (hx : x < 256) (hb : b < 2) (ht : t < 8) : x ||| b * 2 ^ t < 256 := by
  have h1 : 2 ^ t ≤ 2 ^ 7 := Nat.pow_le_pow_right (by decide) (by omega)
  have h2 : b * 2 ^ t ≤ 1 * 2 ^ t := Nat.mul_le_mul_right _ (by omega)
  exact Nat.or_lt_two_pow (n := 8) hx (by omega)
/-- The bytes with room for one bit more. -/
def room (bs : List UInt8) (N : Nat) : List UInt8 := if N % 8 = 0 then bs ++ [0] else bs
theorem room_bit (bs : List UInt8) (N p : Nat) : bitAt (room bs N) p = bitAt bs p := by
  unfold room
  split
  · unfold bitAt
    congr 2
    rw [List.getD_eq_getElem?_getD, List.getD_eq_getElem?_getD, List.getElem?_append]
    split
    · rfl
    · rw [List.getElem?_eq_none (l := bs) (by omega)]
      cases h : p / 8 - bs.length with
      | zero => rfl
      | succ k => simp
  · rfl
theorem room_len {bs : List UInt8} {L : List Nat} (h : WB bs L) : (room bs L.length).length = L.length / 8 + 1 := by
  have := h.1
  unfold room
  split
  · rw [List.length_append]; simp; omega
  · omega
theorem WB.push {bs : List UInt8} {L : List Nat} (h : WB bs L) {b : Nat} (hb : b < 2) {x : UInt8} (hx : (room bs L.length)[L.length / 8]? = some x) :
    WB ((room bs L.length).set (L.length / 8) (UInt8.ofNat (x.toNat ||| b * 2 ^ (L.length % 8)))) (L ++ [b]) := by
  have hl := room_len h
  refine ⟨?_, fun p => ?_⟩
  · rw [List.length_set, hl, List.length_append]; simp; omega
  · have hx0 : x.toNat / 2 ^ (L.length % 8) % 2 = 0 := by
      have e := room_bit bs L.length L.length
      rw [h.2 L.length] at e
      unfold bitAt at e
      rw [List.getD_eq_getElem?_getD, hx] at e
      rw [List.getD_eq_getElem?_getD, List.getElem?_eq_none (Nat.le_refl _)] at e
      exact e
    have hv : (UInt8.ofNat (x.toNat ||| b * 2 ^ (L.length % 8))).toNat = x.toNat ||| b * 2 ^ (L.length % 8) := by
      have := or_lt256 x.toNat b (L.length % 8) x.toNat_lt hb (Nat.mod_lt _ (by decide))
      simp only [UInt8.toNat_ofNat']
      exact Nat.mod_eq_of_lt this
    by_cases e : p / 8 = L.length / 8
    · unfold bitAt
      rw [List.getD_eq_getElem?_getD, List.getElem?_set, if_pos e.symm, if_pos (by omega)]
      show (UInt8.ofNat _).toNat / 2 ^ (p % 8) % 2 = _
      rw [hv, or_place _ _ _ _ hb hx0]
      by_cases e2 : p % 8 = L.length % 8
      · obtain rfl : p = L.length := by omega
        rw [if_pos rfl, List.getD_eq_getElem?_getD, List.getElem?_append_right (Nat.le_refl _), Nat.sub_self]
        rfl
      · rw [if_neg e2]
        have e3 := room_bit bs L.length p
        rw [h.2 p] at e3
        unfold bitAt at e3
        rw [List.getD_eq_getElem?_getD, e, hx] at e3
        have e4 : x.toNat / 2 ^ (p % 8) % 2 = L.getD p 0 := e3
        rw [e4, List.getD_eq_getElem?_getD, List.getD_eq_getElem?_getD, List.getElem?_append]
        split
        · rfl
        · rename_i hge
          have : ¬ p = L.length := fun e => e2 (by rw [e])
          rw [List.getElem?_eq_none (l := L) (by omega)]
          cases hk : p - L.length with
          | zero => omega
          | succ k => simp
    · have e3 := room_bit bs L.length p
      rw [h.2 p] at e3
      have e5 : bitAt ((room bs L.length).set (L.length / 8) (UInt8.ofNat (x.toNat ||| b * 2 ^ (L.length % 8)))) p = bitAt (room bs L.length) p := by
        unfold bitAt
        rw [List.getD_eq_getElem?_getD, List.getD_eq_getElem?_getD, List.getElem?_set, if_neg (fun e' => e e'.symm)]
      rw [e5, e3, List.getD_eq_getElem?_getD, List.getD_eq_getElem?_getD, List.getElem?_append]
      split
      · rfl
      · rename_i hge
        have : ¬ p = L.length := fun e' => e (by rw [e'])
        rw [List.getElem?_eq_none (l := L) (by omega)]
        cases hk : p - L.length with
        | zero => omega
        | succ k => simp
/-- The first k bits of a number of n bits, the greatest first. -/
def msb (v n : Nat) : Nat → List Nat
  | 0 => []
  | k + 1 => msb v n k ++ [v / 2 ^ (n - 1 - k) % 2]
theorem msb_len (v n k : Nat) : (msb v n k).length = k := by
  induction k with
  | zero => rfl
  | succ k ih => rw [msb, List.length_append, ih]; rfl
theorem msb_get (v n k j : Nat) (h : j < k) : (msb v n k)[j]? = some (v / 2 ^ (n - 1 - j) % 2) := by
  induction k with
  | zero => omega
  | succ k ih =>
    rw [msb]
    by_cases e : j < k
    · rw [List.getElem?_append_left (by rw [msb_len]; exact e)]; exact ih e
    · obtain rfl : j = k := by omega
      rw [List.getElem?_append_right (by rw [msb_len]; exact Nat.le_refl _), msb_len, Nat.sub_self]
      rfl
/-- The bits of a place's code. -/
def codeB (ls : List Int) (p : Nat) : List Nat := msb (codeAt ls p).1 (codeAt ls p).2.toNat (codeAt ls p).2.toNat
theorem fst_step2 (ls : List Int) {a b : Nat} (h : a < b) : (fst ls a + cz ls a) * 2 ^ (b - a) ≤ fst ls b := by
  induction b with
  | zero => omega
  | succ b ih =>
    rw [fst]
    rcases Nat.lt_or_ge a b with h1 | h1
    · have := ih h1
      rw [show b + 1 - a = (b - a) + 1 by omega, Nat.pow_succ, ← Nat.mul_assoc]
      omega
    · obtain rfl : a = b := by omega
      rw [show a + 1 - a = 1 by omega]
      omega
theorem hit_less {ls : List Int} {t v p : Nat} (h0 : 1 ≤ t) (h : Hit ls t v p) {a : Nat} (ha : 1 ≤ a) (hat : a < t) : ∀ q, ¬ Hit ls a (v / 2 ^ (t - a)) q := by
  intro q hq
  have h1 := (hit_bound ha hq).2
  have h2 := fst_step2 ls hat
  have h3 := (hit_bound h0 h).1
  have h4 : fst ls a + cz ls a ≤ v / 2 ^ (t - a) := (Nat.le_div_iff_mul_le (Nat.two_pow_pos _)).2 (by omega)
  omega
/-- A code that stands in the bits is read. -/
theorem nx_code {ls : List Int} {bs : List UInt8} {t v p P : Nat} (h0 : 1 ≤ t) (ht : t ≤ 15) (hv : v < 2 ^ t) (h : Hit ls t v p) (hP : P + t ≤ 8 * bs.length) (hb : ∀ j, j < t → bitAt bs (P + j) = v / 2 ^ (t - 1 - j) % 2) :
    nx ls bs 15 1 0 P = ((p : Int), 0, P + t) := by
  have key : ∀ d j, j + d + 1 = t → nx ls bs (15 - j) (j + 1) (v / 2 ^ (t - j)) (P + j) = ((p : Int), 0, P + t) := by
    intro d
    induction d with
    | zero =>
      intro j hj
      obtain rfl : t = j + 1 := by omega
      have e : v / 2 ^ (j + 1 - j) * 2 + bitAt bs (P + j) = v := by
        rw [hb j (by omega), show j + 1 - j = 1 by omega, show j + 1 - 1 - j = 0 by omega, Nat.pow_one, Nat.pow_zero, Nat.div_one]
        omega
      have hh : hitN ls (j + 1) (v / 2 ^ (j + 1 - j) * 2 + bitAt bs (P + j)) = some p := by rw [e]; exact hit_some h
      rw [show 15 - j = (14 - j) + 1 by omega, nx_hit (by omega) hh, Nat.add_assoc]
    | succ d ih =>
      intro j hj
      have e : v / 2 ^ (t - j) * 2 + bitAt bs (P + j) = v / 2 ^ (t - (j + 1)) := by
        rw [hb j (by omega), show t - 1 - j = t - (j + 1) by omega, show t - j = (t - (j + 1)) + 1 by omega, Nat.pow_succ, ← Nat.div_div_eq_div_mul]
        omega
      have hh : hitN ls (j + 1) (v / 2 ^ (t - j) * 2 + bitAt bs (P + j)) = none := by rw [e]; exact hit_none (hit_less h0 h (by omega) (by omega))
      rw [show 15 - j = (15 - (j + 1)) + 1 by omega, nx_on (by omega) hh, e]
      have := ih (j + 1) (by omega)
      rw [show P + (j + 1) = P + j + 1 by omega] at this
      exact this
  have := key (t - 1) 0 (by omega)
  rw [show v / 2 ^ (t - 0) = 0 from Nat.div_eq_of_lt hv] at this
  exact this
/-- What Next reads where a place's code stands. -/
theorem nx_place {ls : List Int} (hbad : badL ls = false) (hk : krN ls ≤ 32768) {bs : List UInt8} {L1 L2 : List Nat} {p t : Nat} (hp : ls[p]? = some (t : Int)) (h0 : 0 < t) (hW : WB bs (L1 ++ (codeB ls p ++ L2))) :
    nx ls bs 15 1 0 L1.length = ((p : Int), 0, L1.length + (codeB ls p).length) := by
  have hg := good_at hbad hp
  have ht : t ≤ 15 := by omega
  have hc := codeAt_pos hp h0
  have hl : (codeB ls p).length = t := by unfold codeB; rw [hc, msb_len]; simp
  have hh : Hit ls t (fst ls t + cnt (ls.take p) t) p := ⟨hp, rfl⟩
  have hlt : fst ls t + cnt (ls.take p) t < 2 ^ t := Nat.lt_of_lt_of_le (hit_bound h0 hh).2 (fst_pow ls hbad hk t ht)
  rw [hl]
  refine nx_code h0 ht hlt hh ?_ (fun j hj => ?_)
  · have := hW.1
    rw [List.length_append, List.length_append, hl] at this
    omega
  · rw [hW.2, List.getD_eq_getElem?_getD, List.getElem?_append_right (by omega), Nat.add_sub_cancel_left, List.getElem?_append_left (by omega)]
    unfold codeB
    rw [hc]
    rw [msb_get _ _ _ _ (by simpa using hj)]
    rfl
end Go.Proofs.Ytpbegikdohafbaa
