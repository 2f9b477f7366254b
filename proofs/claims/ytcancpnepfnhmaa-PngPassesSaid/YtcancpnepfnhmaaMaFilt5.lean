/- filt: the best filter. -/
import Derived.Test.YtcancpnepfnhmaaMaFilt4
namespace Go.Proofs.Ytcancpnepfnhmaa
set_option linter.all false
open Go.RowKit

/-- The first of the kinds below k whose list weighs the least. -/
def bk (f : Nat → List UInt8) : Nat → Nat
  | 0 => 0
  | 1 => 0
  | k + 2 => if weight (f (k + 1)) < weight (f (bk f (k + 1))) then k + 1 else bk f (k + 1)

theorem bk_lt (f : Nat → List UInt8) : ∀ k, bk f (k + 1) ≤ k
  | 0 => Nat.le_refl _
  | k + 1 => by
    have := bk_lt f k
    unfold bk
    split <;> omega
theorem bk_min (f : Nat → List UInt8) : ∀ k i, i ≤ k → weight (f (bk f (k + 1))) ≤ weight (f i) ∧ (weight (f (bk f (k + 1))) = weight (f i) → bk f (k + 1) ≤ i)
  | 0, i, h => by
    obtain rfl : i = 0 := by omega
    exact ⟨Nat.le_refl _, fun _ => Nat.le_refl _⟩
  | k + 1, i, h => by
    have ih := bk_min f k
    have hl := bk_lt f k
    unfold bk
    by_cases hi : i = k + 1
    · subst hi
      split
      · exact ⟨Nat.le_refl _, fun _ => Nat.le_refl _⟩
      · exact ⟨by omega, fun _ => by omega⟩
    · have := ih i (by omega)
      split
      · exact ⟨by omega, fun _ => by omega⟩
      · exact this
def bV (f : Nat → List UInt8) (k : Nat) : List UInt8 := if k = 0 then [] else f (bk f k)
theorem bV_succ (f : Nat → List UInt8) (k : Nat) (h : k ≠ 0) : bk f (k + 1) = (if weight (f k) < weight (bV f k) then k else bk f k) ∧ bV f (k + 1) = if weight (f k) < weight (bV f k) then f k else bV f k := by
  cases k with
  | zero => exact absurd rfl h
  | succ k =>
    have e : bk f (k + 1 + 1) = if weight (f (k + 1)) < weight (f (bk f (k + 1))) then k + 1 else bk f (k + 1) := rfl
    have e1 : bV f (k + 1) = f (bk f (k + 1)) := if_neg (Nat.add_one_ne_zero _)
    have e2 : bV f (k + 1 + 1) = f (bk f (k + 1 + 1)) := if_neg (Nat.add_one_ne_zero _)
    rw [e1, e2, e]
    split <;> exact ⟨rfl, rfl⟩

def dK (bpp : Int) (prev row : List UInt8) (k : Nat) : List UInt8 := doB k bpp prev row
theorem wrong_kind (bpp : Int) (n n' k : Nat) (hk : k ≤ 4) : wrongV k bpp n n' = wrongV 0 bpp n n' := by
  unfold wrongV
  have e : ((k : Int) < 0 ∨ 4 < (k : Int) ∨ bpp < 1 ∨ 8 < bpp) ↔ ((0 : Int) < 0 ∨ (4 : Int) < 0 ∨ bpp < 1 ∨ 8 < bpp) := by constructor <;> intro h <;> omega
  simp only [e]
theorem ret_tup3 {a b c d e f : Value} (h1 : a = d) (h2 : b = e) (h3 : c = f) : Ending.returned (.tuple #[a, b, c]) = Ending.returned (.tuple #[d, e, f]) := by rw [h1, h2, h3]
theorem bV_len (bpp : Int) (prev row : List UInt8) (k : Nat) : (bV (dK bpp prev row) k).length ≤ row.length := by
  unfold bV
  split
  · exact Nat.zero_le _
  · show (doB _ _ _ _).length ≤ _; rw [doB_len]; exact Nat.le_refl _

set_option maxHeartbeats 3200000 in
theorem best_ok (bpp : Int) (B n c B' n' c' : Nat) (A A' : Option Addr) (prev row : List UInt8) (w : World) (hp : RdB w B A n prev) (hr : RdB w B' A' n' row)
    (hB1 : B ≤ w.heap.size) (hB2 : B' ≤ w.heap.size) (hm : n' ≤ 1000000) (h0 : wrongV 0 bpp n n' = 0) :
    Calls Try.prog 114 #[.int .i64 bpp, .slice A n c, .slice A' n' c'] w fun e w' =>
      ∃ v, e = .returned (.tuple #[.int .i64 (bk (dK bpp prev row) 5), v, .int .i64 0]) ∧ ownB w' w.heap.size v (bV (dK bpp prev row) 5) ∧ Below w.heap.size w w' := by
  have hl := hr.len
  have hpl := hp.len
  have h1 := wrong_bpp h0
  have HN := Lib.hid hl
  have HP := Lib.hid hpl
  clear hl hpl
  have H0 := Lib.hid (fun k (hk : k ≤ 4) => (wrong_kind bpp n n' k hk).trans h0)
  clear h0
  go_enter Try.func114, Try.ntmps114
  go_wp2
  go_loopw [9, 10, 11] (fun kd bv i wr => ∃ k : Nat, k ≤ 5 ∧ i = .int .i64 k ∧ kd = .int .i64 (bk (dK bpp prev row) k) ∧ ownB wr w.heap.size bv (bV (dK bpp prev row) k) ∧ Below w.heap.size w wr)
    (fun _ _ i _ => 5 - (intOf i).toNat)
  case atStart => exact ⟨0, Nat.zero_le _, rfl, rfl, ownB.nil_ _ _, Below.refl _ _⟩
  case round =>
    obtain ⟨k, hk, rfl, rfl, hbv, hB⟩ := hrel
    by_cases hlt : k < 5
    · have HD := Lib.hid (show doR k bpp prev row = (dK bpp prev row k, 0) by unfold doR; rw [HP.out, HN.out, if_pos (H0.out k (by omega))]; rfl)
      have hDl := Lib.hid (show (dK bpp prev row k).length = n' by rw [← HN.out]; exact doB_len _ _ _ _)
      have hVl := Lib.hid (bV_len bpp prev row k)
      obtain ⟨Ab, nb, cb, rfl, _, lb, _⟩ := hbv.slice
      have hnb : nb ≤ 1000000 := by have := hbv.rd.len; have := hVl.out; have := HN.out; omega
      have hw1 := weight_le (dK bpp prev row k)
      have hw2 := weight_le (bV (dK bpp prev row) k)
      have HS := Lib.hid (bV_succ (dK bpp prev row) k)
      go_wp2_with (first
        | (go_at_call 125; go_must (refine (do_any k bpp _ _ _ _ _ _ _ _ prev row _ (hp.blw (hB.mono hB1)) (hr.blw (hB.mono hB2)) (Nat.le_trans hB1 hB.size) (Nat.le_trans hB2 hB.size) hm).mono ?_; rintro e w1 ⟨v1, rfl, hx, hb1⟩; rw [HD.out] at hx ⊢; dsimp only at hx ⊢; replace hx := hx.mono hB.size; obtain ⟨Ax, nx, cx, rfl, _, lx, _⟩ := hx.slice; replace hbv := hbv.later hb1; replace hB := bstep hB hb1 (Nat.le_refl _); clear hb1; have hnx : nx ≤ 1000000 := (by have h5 := hx.rd.len; have h6 := hDl.out; omega)))
        | (go_at_call 126; (with_reducible refine (weight_any _ _ _ _ (dK bpp prev row k) _ hx.rd hnx).mono ?_); rintro e w1 ⟨rfl, rfl⟩)
        | (go_at_call 126; (with_reducible refine (weight_any _ _ _ _ (bV (dK bpp prev row) k) _ hbv.rd hnb).mono ?_); rintro e w1 ⟨rfl, rfl⟩))
      all_goals
        (try simp only [beq_iff_eq, beq_eq_false_iff_ne, ne_eq] at *)
        go_roundw
        case rel =>
          refine ⟨k + 1, by omega, by go_num, ?_, ?_, hB⟩
          · by_cases hk0 : k = 0
            · subst hk0; first | rfl | omega
            · rw [(HS.out hk0).1]
              congr 1
              split <;> (first | rfl | omega)
          · by_cases hk0 : k = 0
            · subst hk0; first | exact hx | omega
            · rw [(HS.out hk0).2]
              split <;> (first | assumption | omega)
        case measure => simp [intOf]; omega
    · have : k = 5 := by omega
      subst this
      go_wp2
      go_ret3
      exact ⟨_, rfl, hbv, hB⟩

theorem best_bad (bpp : Int) (B n c B' n' c' : Nat) (A A' : Option Addr) (prev row : List UInt8) (w : World) (hp : RdB w B A n prev) (hr : RdB w B' A' n' row)
    (hB1 : B ≤ w.heap.size) (hB2 : B' ≤ w.heap.size) (hm : n' ≤ 1000000) (E : Int) (h0 : wrongV 0 bpp n n' = E) (hE : (E != 0) = true) :
    Calls Try.prog 114 #[.int .i64 bpp, .slice A n c, .slice A' n' c'] w fun e w' => e = .returned (.tuple #[.int .i64 0, .slice none 0 0, .int .i64 E]) ∧ w = w' := by
  have H0 := Lib.hid h0
  clear h0 hp hr
  go_enter Try.func114, Try.ntmps114
  go_wp2
  refine wp_loop_rounds 1 ?_
  rw [rounds_succ]
  go_wp2_with (go_at_call 125; go_must (refine (do_bad 0 bpp _ _ _ _ _ _ _ E H0.out hE).mono ?_; rintro e w1 ⟨rfl, rfl⟩))
  go_ret3
  exact ⟨rfl, rfl⟩

def bestR (bpp : Int) (prev row : List UInt8) : Int × List UInt8 × Int :=
  if wrongV 0 bpp prev.length row.length = 0 then ((bk (dK bpp prev row) 5 : Nat), bV (dK bpp prev row) 5, 0) else (0, [], wrongV 0 bpp prev.length row.length)

theorem best_any (bpp : Int) (B n c B' n' c' : Nat) (A A' : Option Addr) (prev row : List UInt8) (w : World) (hp : RdB w B A n prev) (hr : RdB w B' A' n' row)
    (hB1 : B ≤ w.heap.size) (hB2 : B' ≤ w.heap.size) (hm : n' ≤ 1000000) :
    Calls Try.prog 114 #[.int .i64 bpp, .slice A n c, .slice A' n' c'] w fun e w' =>
      ∃ v, e = .returned (.tuple #[.int .i64 (bestR bpp prev row).1, v, .int .i64 (bestR bpp prev row).2.2]) ∧ ownB w' w.heap.size v (bestR bpp prev row).2.1 ∧ Below w.heap.size w w' := by
  unfold bestR
  rw [hp.len, hr.len]
  by_cases h : wrongV 0 bpp n n' = 0
  · rw [if_pos h]
    exact best_ok bpp B n c B' n' c' A A' prev row w hp hr hB1 hB2 hm h
  · rw [if_neg h]
    refine (best_bad bpp B n c B' n' c' A A' prev row w hp hr hB1 hB2 hm _ rfl (by rw [bne_iff_ne]; exact h)).mono ?_
    rintro e w' ⟨rfl, rfl⟩
    exact ⟨_, rfl, ownB.nil_ _ _, Below.refl _ _⟩

end Go.Proofs.Ytcancpnepfnhmaa
