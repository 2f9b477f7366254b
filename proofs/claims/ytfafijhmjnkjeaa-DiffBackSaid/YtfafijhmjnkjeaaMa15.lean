/- Merged: Write2, Ints, First5. -/
import Derived.Test.YtfafijhmjnkjeaaMa14
import Derived.Test.YtfafijhmjnkjeaaMa01
import Derived.Test.YtfafijhmjnkjeaaMa12
import Derived.Test.YtfafijhmjnkjeaaMa08
/- Writers of bits: a code put. -/
namespace Go.Proofs.Ytfafijhmjnkjeaa
set_option linter.all false
open Go.RowKit

/-- A writer that holds bits. -/
def Wr (w : World) (g : Nat) (pv : Value) (bs : List UInt8) (L : List Nat) : Prop := Arr w g [pv, .int .i64 ((L.length : Nat) : Int)] ∧ ownB w (g + 1) pv bs ∧ WB bs L
theorem wrongBits_any (v m : Nat) (w : World) (hm : m ≤ 24) (hv : v < 2 ^ m) : Calls Try.prog 112 #[.int .u32 (v : Int), .int .i64 (m : Int)] w fun e w' => e = .returned (.bool false) ∧ w = w' := by
  have e1 : decide ((m : Int) < 0) = false := decide_eq_false (by omega)
  have e2 : decide ((m : Int) > 24) = false := decide_eq_false (by omega)
  have e3 : (v : Int) / 2 ^ m = 0 := by
    rw [show ((2 : Int) ^ m) = ((2 ^ m : Nat) : Int) by push_cast; rfl, ← Int.natCast_ediv, Nat.div_eq_of_lt hv]
    rfl
  clear hv
  go_enter Try.func112, Try.ntmps112
  go_wp2_with fail
  go_ret
  exact ⟨rfl, rfl⟩
theorem newWriter_any (w : World) : Calls Try.prog 78 #[] w fun e w' => e = .returned (.pointer (some ⟨w.heap.size, 0, none⟩)) ∧ Wr w' w.heap.size (.slice none 0 0) [] [] ∧ Below w.heap.size w w' ∧ w.heap.size < w'.heap.size := by
  go_enter Try.func78, Try.ntmps78
  go_wp2_with fail
  go_ret
  exact ⟨rfl, ⟨Arr.new w [.slice none 0 0, .int .i64 0] _, ownB.nil_ _ _, WB.nil⟩, (Below.refl _ _).alloc (Nat.le_refl _) _, by simp⟩

set_option maxRecDepth 100000 in
set_option maxHeartbeats 3200000 in
theorem code_any (g v m : Nat) (pv : Value) (bs : List UInt8) (L : List Nat) (w : World) (h : Wr w g pv bs L) (hb : L.length + m ≤ 1000000) (hm : m ≤ 24) (hv : v < 2 ^ m) :
    Calls Try.prog 100 #[.pointer (some ⟨g, 0, none⟩), .int .u32 (v : Int), .int .i64 (m : Int)] w fun e w' => e = .returned (.int .i64 0) ∧ ∃ pv' bs', Wr w' g pv' bs' (L ++ msb v m m) ∧ WrFr w w' g pv pv' := by
  have HWG := Lib.hid (fun w => wrongBits_any v m w hm hv)
  have HW := Lib.hid h
  have hv24 : v < 16777216 := Nat.lt_of_lt_of_le hv (Nat.pow_le_pow_right (by decide) hm)
  have HM : Hid (L ++ msb v m 0 = L) := (show _ = _ by simp [msb])
  clear h hv
  go_enter Try.func100, Try.ntmps100
  go_wp2_with (go_at_call 112; (with_reducible refine (HWG.out _).mono ?_); go_must (rintro e w1 ⟨rfl, rfl⟩))
  go_loopw [12] (fun vi wr => ∃ k : Nat, k ≤ m ∧ vi = .int .i64 k ∧ ∃ pq bq, Hid (Wr wr g pq bq (L ++ msb v m k)) ∧ Hid (WrFr w wr g pv pq)) (fun vi _ => m - (intOf vi).toNat)
  case atStart => exact ⟨0, Nat.zero_le _, rfl, pv, bs, (show Wr _ _ _ _ _ by rw [HM.out]; exact HW.out), WrFr.refl _ _ _⟩
  case round =>
    clear HW HM
    obtain ⟨k, hk, rfl, pq, bq, HW, HF⟩ := hrel
    by_cases hlt : k < m
    · obtain ⟨d, hd⟩ : ∃ d, m - 1 - k = d := ⟨_, rfl⟩
      have hdI : (m : Int) - 1 - (k : Int) = (d : Int) := by omega
      have hlen : (L ++ msb v m k).length = L.length + k := by rw [List.length_append, msb_len]
      have hdv : v / 2 ^ d < 4294967296 := Nat.lt_of_le_of_lt (Nat.div_le_self _ _) (by omega)
      have HC := Lib.hid (one_any g (L ++ msb v m k).length (v / 2 ^ d) pq bq _ wr HW.out.1 HW.out.2.1 HW.out.2.2 rfl (by omega) hdv)
      have HST : Hid (L ++ msb v m k ++ [v / 2 ^ d % 2] = L ++ msb v m (k + 1)) := (show _ = _ by rw [msb, hd, List.append_assoc])
      have HLN : Hid ((((L ++ msb v m k).length + 1 : Nat) : Int) = (((L ++ msb v m (k + 1)).length : Nat) : Int)) := (show _ = _ by rw [← HST.out]; congr 1; simp; omega)
      rw [HST.out, HLN.out] at HC
      have hdvI : (v : Int) / 2 ^ d = ((v / 2 ^ d : Nat) : Int) := by rw [show ((2 : Int) ^ d) = ((2 ^ d : Nat) : Int) by push_cast; rfl, ← Int.natCast_ediv]
      generalize v / 2 ^ d = u at *
      clear hlen hd HST HLN
      go_wp2_with (go_at_call 113; (with_reducible refine HC.out.mono ?_); go_must (rintro e w5 ⟨rfl, pv5, bs5, hA5, hO5, hW5, hF5⟩; have HF5 := Lib.hid (HF.out.trans hF5); have HW5 : Hid (Wr w5 g pv5 bs5 (L ++ msb v m (k + 1))) := ⟨hA5, hO5, hW5⟩; clear hA5 hO5 hW5 hF5))
      go_roundw
      case rel => exact ⟨k + 1, by omega, by go_num, pv5, bs5, HW5, HF5⟩
      case measure => simp [intOf]; omega
    · obtain rfl : k = m := by omega
      go_wp2_with fail
      go_ret
      exact ⟨rfl, pq, bq, HW.out, HF.out⟩
end Go.Proofs.Ytfafijhmjnkjeaa

/- aquref: lists of numbers held against one another, copied. -/
namespace Go.Proofs.Ytfafijhmjnkjeaa
set_option linter.all false
open Go.RowKit

theorem take_eq_step {α : Type} {xs ys : List α} {k : Nat} {x : α} (h : xs.take k = ys.take k) (hx : xs[k]? = some x) (hy : ys[k]? = some x) : xs.take (k + 1) = ys.take (k + 1) := by
  obtain ⟨a1, a2⟩ := List.getElem?_eq_some_iff.1 hx
  obtain ⟨b1, b2⟩ := List.getElem?_eq_some_iff.1 hy
  rw [List.take_succ_eq_append_getElem a1, List.take_succ_eq_append_getElem b1, h, a2, b2]
theorem take_ne {α : Type} {xs ys : List α} {k : Nat} {x y : α} (hx : xs[k]? = some x) (hy : ys[k]? = some y) (h : ¬ x = y) : ¬ xs = ys := by
  intro e
  rw [e, hy] at hx
  injection hx with hx
  exact h hx.symm
theorem ret_boolE {a b : Bool} (h : a = b) : Ending.returned (.bool a) = .returned (.bool b) := by rw [h]
end Go.Proofs.Ytfafijhmjnkjeaa

/- huff: what the chapter's examples fix. -/
namespace Go.Proofs.Ytfafijhmjnkjeaa
set_option linter.all false
open Go.RowKit

/-- The merge, by a count that goes down: for the kernel to reckon with. -/
def mrgF {α : Type} (wt : α → Int) : Nat → List α → List α → List α
  | 0, a, b => a ++ b
  | _ + 1, [], b => b
  | _ + 1, a :: r, [] => a :: r
  | f + 1, a :: r, b :: s => if wt b < wt a then b :: mrgF wt f (a :: r) s else a :: mrgF wt f r (b :: s)
theorem mrgF_eq {α : Type} (wt : α → Int) : ∀ (f : Nat) (a b : List α), a.length + b.length ≤ f → mrgF wt f a b = mrgBy wt a b := by
  intro f
  induction f with
  | zero =>
    intro a b h
    have h1 : a = [] := List.eq_nil_of_length_eq_zero (by omega)
    have h2 : b = [] := List.eq_nil_of_length_eq_zero (by omega)
    subst h1 h2
    simp [mrgF, mrgBy]
  | succ f ih =>
    intro a b h
    cases a with
    | nil => simp [mrgF, mrgBy]
    | cons x r =>
      cases b with
      | nil => simp [mrgF, mrgBy]
      | cons y s =>
        simp only [List.length_cons] at h
        rw [mrgF, mrgBy]
        split
        · rw [ih (x :: r) s (by simp only [List.length_cons]; omega)]
        · rw [ih r (y :: s) (by simp only [List.length_cons]; omega)]
def pmF (first : List Mem) : Nat → List Mem
  | 0 => first
  | k + 1 => mrgF Mem.w (first.length + (packs (pmF first k)).length) first (packs (pmF first k))
theorem pmF_eq (first : List Mem) (k : Nat) : pmF first k = pmL first k := by
  induction k with
  | zero => rfl
  | succ k ih => rw [pmF, pmL, ih, mrgF_eq _ _ _ _ (Nat.le_refl _)]
def lensF (ws : List Int) (m : Nat) : List Int :=
  if (leaves ws).length = 1 then bumps (List.replicate ws.length 0) ((leaves ws).flatMap Mem.items)
  else bumps (List.replicate ws.length 0) (((pmF (stab Mem.w (leaves ws)) (m - 1)).take (2 * (leaves ws).length - 2)).flatMap Mem.items)
theorem lensF_eq (ws : List Int) (m : Nat) : lensF ws m = lensOf ws m := by unfold lensF lensOf; rw [pmF_eq]
theorem ex_len : lenR [1, 1, 2, 4] 15 = [3, 3, 2, 1] ∧ lenE [1, 1, 2, 4] 15 = 0 := by
  have h : wrongH [1, 1, 2, 4] 15 = false := by decide
  unfold lenR lenE
  rw [h]
  refine ⟨?_, rfl⟩
  show lensOf [1, 1, 2, 4] 15 = _
  rw [← lensF_eq]
  kernel_rfl
theorem ex_cod : cdL [2, 1, 0, 2] = [(2, 2), (0, 1), (0, 0), (3, 2)] ∧ cdE [2, 1, 0, 2] = 0 := by
  constructor <;> kernel_rfl

end Go.Proofs.Ytfafijhmjnkjeaa
