/- Bytes as digits, here and in the reference. -/
import Derived.Test.YtlhhhoolnojegaaBase
namespace Go.Proofs.Ytlhhhoolnojegaa
set_option linter.all false
open Go.RowKit

def hexd (n : Nat) : UInt8 := if n < 10 then UInt8.ofNat (48 + n) else UInt8.ofNat (87 + n)
def hexB (l : List UInt8) : List UInt8 := l.flatMap fun x => [hexd (x.toNat / 16), hexd (x.toNat % 16)]
theorem hexB_len (l : List UInt8) : (hexB l).length = 2 * l.length := by
  induction l with
  | nil => rfl
  | cons x l ih => simp [hexB] at ih ⊢; omega
theorem hexB_step (l : List UInt8) (k : Nat) (x : UInt8) (h : l[k]? = some x) : hexB (l.take (k + 1)) = hexB (l.take k) ++ [hexd (x.toNat / 16), hexd (x.toNat % 16)] := by
  obtain ⟨hk, rfl⟩ := List.getElem?_eq_some_iff.1 h
  rw [List.take_succ_eq_append_getElem hk]
  simp only [hexB, List.flatMap_append]
  rfl

def digits : ByteArray := { data := #[48, 49, 50, 51, 52, 53, 54, 55, 56, 57, 97, 98, 99, 100, 101, 102] }
theorem dig_all : ∀ i : Fin 16, digits.data[i.val]? = some (hexd i.val) := by decide
theorem dig_at (i : Nat) (j : Nat) (hi : i = j) (hj : j < 16) (h : i < digits.size) : ((digits[i]'h).toNat : Int) = ((hexd j).toNat : Int) := by
  subst hi
  have := dig_all ⟨i, hj⟩
  obtain ⟨h1, h2⟩ := Array.getElem?_eq_some_iff.1 this
  have : digits[i]'h = hexd i := h2
  rw [this]

theorem and15 (x : UInt8) : bits .and .u8 (x.toNat : Int) 15 = ((x.toNat % 16 : Nat) : Int) := by
  have := u8_and_nat x.toNat 15 (by have := x.toNat_lt; omega) (by omega)
  rw [nat_mask4] at this
  simpa using this

set_option maxHeartbeats 800000 in
theorem hex_any (B n c : Nat) (A : Option Addr) (bs : List UInt8) (w : World) (h : RdB w B A n bs) (hB0 : B ≤ w.heap.size) (hm : n ≤ 70000000000000) :
    Calls Try.prog 27 #[.slice A n c] w fun e w' => e = .returned (.string ⟨(hexB bs).toArray⟩) ∧ Below w.heap.size w w' := by
  obtain rfl := h.len
  go_enter Try.func27, Try.ntmps27
  go_wp2
  go_loopw [3, 8] (fun v i wr => ∃ k : Nat, k ≤ bs.length ∧ i = .int .i64 k ∧ ownB wr w.heap.size v (hexB (bs.take k)) ∧ Below w.heap.size w wr)
    (fun _ i _ => bs.length - (intOf i).toNat)
  case atStart => exact ⟨0, Nat.zero_le _, rfl, ownB.nil_ _ _, Below.refl _ _⟩
  case round =>
    obtain ⟨k, hk, rfl, hown, hB⟩ := hrel
    by_cases hlt : k < bs.length
    · obtain ⟨b, o, x, rfl, hb, hx, cx⟩ := h.byte hlt
      have hBw : B ≤ w.heap.size := hB0
      replace cx := bsame hB (by omega) cx
      have HS := Lib.hid (hexB_step bs k x hx.out)
      have hle : (hexB (bs.take k)).length ≤ 140000000000000 := by rw [hexB_len]; simp; omega
      have x8 := x.toNat_lt
      have e1 := and15 x
      have g1 : 0 ≤ (x.toNat : Int) / 16 ∧ (x.toNat : Int) / 16 < 16 := by omega
      have g2 : 0 ≤ (x.toNat : Int) % 16 ∧ (x.toNat : Int) % 16 < 16 := by omega
      clear hx
      go_wp2
      go_region_law (go_must (refine step_appendB rfl (.tmp 12) (.tmp 19) rfl w.heap.size _ _ rfl (ownB.alloc (ownB.drew hown) _) _ 2 2 _ [hexd (x.toNat / 16), hexd (x.toNat % 16)] rfl (rd_two _ _ _ _ _ (dig_at _ _ (by omega) (by omega) _) (dig_at _ _ (by omega) (by omega) _)) (by omega) (by have := hB.size; simp; omega) ?_; intro v1 w1 hown1 hg1 hb1 hat1; replace hB := ((hB.alloc hB.size _).drew).trans hb1; clear hb1 hg1 hat1))
      all_goals
        go_wp2
        go_roundw
        case rel => exact ⟨k + 1, by omega, by go_num, by rw [HS.out]; exact hown1, hB⟩
        case measure => simp [intOf]; omega
    · have : k = bs.length := by omega
      subst this
      rw [List.take_length] at hown
      obtain ⟨A1, n1, c1, rfl, hr, _, _⟩ := hown.slice
      have ks := run_strB (c := c1) hr
      go_wp2
      go_ret
      exact ⟨rfl, hB⟩

set_option maxHeartbeats 800000 in
theorem hexR_any (B n c : Nat) (A : Option Addr) (bs : List UInt8) (w : World) (h : RdB w B A n bs) (hB0 : B ≤ w.heap.size) (hm : n ≤ 70000000000000) :
    Calls Try.prog 28 #[.slice A n c] w fun e w' => e = .returned (.string ⟨(hexB bs).toArray⟩) ∧ Below w.heap.size w w' := by
  obtain rfl := h.len
  go_enter Try.func28, Try.ntmps28
  go_wp2
  go_loopw [4, 5] (fun v i wr => ∃ k : Nat, k ≤ bs.length ∧ i = .int .i64 k ∧ ownB wr w.heap.size v (hexB (bs.take k)) ∧ Below w.heap.size w wr)
    (fun _ i _ => bs.length - (intOf i).toNat)
  case atStart => exact ⟨0, Nat.zero_le _, rfl, ownB.nil_ _ _, Below.refl _ _⟩
  case round =>
    obtain ⟨k, hk, rfl, hown, hB⟩ := hrel
    by_cases hlt : k < bs.length
    · obtain ⟨b, o, x, rfl, hb, hx, cx⟩ := h.byte hlt
      have hBw : B ≤ w.heap.size := hB0
      replace cx := bsame hB (by omega) cx
      have HS := Lib.hid (hexB_step bs k x hx.out)
      have hle : (hexB (bs.take k)).length ≤ 140000000000000 := by rw [hexB_len]; simp; omega
      have x8 := x.toNat_lt
      have e1 := and15 x
      have g1 : 0 ≤ (x.toNat : Int) / 16 ∧ (x.toNat : Int) / 16 < 16 := by omega
      have g2 : 0 ≤ (x.toNat : Int) % 16 ∧ (x.toNat : Int) % 16 < 16 := by omega
      clear hx
      go_wp2
      go_region_law (go_must (refine step_appendB rfl (.tmp 12) (.tmp 27) rfl w.heap.size _ _ rfl (ownB.alloc (ownB.drew hown) _) _ 2 2 _ [hexd (x.toNat / 16), hexd (x.toNat % 16)] rfl (rd_two _ _ _ _ _ (dig_at _ _ (by omega) (by omega) _) (dig_at _ _ (by omega) (by omega) _)) (by omega) (by have := hB.size; simp; omega) ?_; intro v1 w1 hown1 hg1 hb1 hat1; replace hB := ((hB.alloc hB.size _).drew).trans hb1; clear hb1 hg1 hat1))
      all_goals
        go_wp2
        go_roundw
        case rel => exact ⟨k + 1, by omega, by go_num, by rw [HS.out]; exact hown1, hB⟩
        case measure => simp [intOf]; omega
    · have : k = bs.length := by omega
      subst this
      rw [List.take_length] at hown
      obtain ⟨A1, n1, c1, rfl, hr, _, _⟩ := hown.slice
      have ks := run_strB (c := c1) hr
      go_wp2
      go_ret
      exact ⟨rfl, hB⟩
end Go.Proofs.Ytlhhhoolnojegaa
