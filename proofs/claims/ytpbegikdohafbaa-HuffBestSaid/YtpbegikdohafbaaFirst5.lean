/- huff: what the chapter's examples fix. -/
import Derived.Test.YtpbegikdohafbaaCode2
import Derived.Test.YtpbegikdohafbaaHuff5
import Derived.Test.YtpbegikdohafbaaInts
namespace Go.Proofs.Ytpbegikdohafbaa
set_option linter.all false
open Go.RowKit

/-- The merge, by a count that goes down: for the kernel to reckon with. -/
def mrgF {α : Type} (wt : α → Int) : Nat → List α → List α → List α
  | 0, a, b => a ++ b
  | _ + 1, [], b => b
  | _ + 1, a :: r, [] => a :: r
  | f + 1, a :: r, b :: s => if wt b < wt a then b :: mrgF wt f (a :: r) s else a :: mrgF wt f r (b :: s)
theorem mrgF_eq {α : Type} (wt : α → Int) : ∀ (f : Nat) (a b : List α), a.length + b.length ≤ f → mrgF wt f a b = mrgBy wt a b := by
  intro f
  induction f with
  | zero =>
    intro a b h
    have h1 : a = [] := List.eq_nil_of_length_eq_zero (by omega)
    have h2 : b = [] := List.eq_nil_of_length_eq_zero (by omega)
    subst h1 h2
    simp [mrgF, mrgBy]
  | succ f ih =>
    intro a b h
    cases a with
    | nil => simp [mrgF, mrgBy]
    | cons x r =>
      cases b with
      | nil => simp [mrgF, mrgBy]
      | cons y s =>
        simp only [List.length_cons] at h
        rw [mrgF, mrgBy]
        split
        · rw [ih (x :: r) s (by simp only [List.length_cons]; omega)]
        · rw [ih r (y :: s) (by simp only [List.length_cons]; omega)]
def pmF (first : List Mem) : Nat → List Mem
  | 0 => first
  | k + 1 => mrgF Mem.w (first.length + (packs (pmF first k)).length) first (packs (pmF first k))
theorem pmF_eq (first : List Mem) (k : Nat) : pmF first k = pmL first k := by
  induction k with
  | zero => rfl
  | succ k ih => rw [pmF, pmL, ih, mrgF_eq _ _ _ _ (Nat.le_refl _)]
def lensF (ws : List Int) (m : Nat) : List Int :=
  if (leaves ws).length = 1 then bumps (List.replicate ws.length 0) ((leaves ws).flatMap Mem.items)
  else bumps (List.replicate ws.length 0) (((pmF (stab Mem.w (leaves ws)) (m - 1)).take (2 * (leaves ws).length - 2)).flatMap Mem.items)
theorem lensF_eq (ws : List Int) (m : Nat) : lensF ws m = lensOf ws m := by unfold lensF lensOf; rw [pmF_eq]
theorem ex_len : lenR [1, 1, 2, 4] 15 = [3, 3, 2, 1] ∧ lenE [1, 1, 2, 4] 15 = 0 := by
  have h : wrongH [1, 1, 2, 4] 15 = false := by decide
  unfold lenR lenE
  rw [h]
  refine ⟨?_, rfl⟩
  show lensOf [1, 1, 2, 4] 15 = _
  rw [← lensF_eq]
  kernel_rfl
theorem ex_cod : cdL [2, 1, 0, 2] = [(2, 2), (0, 1), (0, 0), (3, 2)] ∧ cdE [2, 1, 0, 2] = 0 := by
  constructor <;> kernel_rfl

set_option maxRecDepth 100000 in
set_option maxHeartbeats 3200000 in
theorem first5_any (w : World) : Calls Try.prog 11 #[] w fun e w' => e = .returned (.bool true) ∧ Below w.heap.size w w' := by
  have HLN := Lib.hid (fun (w : World) => lengths_any (w.heap.size + 1) 4 4 (some ⟨w.heap.size, 0, none⟩) [1, 1, 2, 4] 15 (w.alloc (.cells #[.int .i64 1, .int .i64 1, .int .i64 2, .int .i64 4] 3)) (rd_litI w 3 (0, 0) [1, 1, 2, 4]) (by simp) (by omega))
  have HCD := Lib.hid (fun (w : World) => codes_any (w.heap.size + 1) 4 4 (some ⟨w.heap.size, 0, none⟩) [2, 1, 0, 2] (w.alloc (.cells #[.int .i64 2, .int .i64 1, .int .i64 0, .int .i64 2] 3)) (rd_litI w 3 (0, 0) [2, 1, 0, 2]) (by simp) (by omega))
  have HIN := Lib.hid (fun (w2 : World) (A1 : Option Addr) (c1 : Nat) (h : RdI w2 w2.heap.size A1 4 [3, 3, 2, 1]) => ints_any (w2.heap.size + 1) 4 c1 (w2.heap.size + 1) 4 4 A1 (some ⟨w2.heap.size, 0, none⟩) [3, 3, 2, 1] [3, 3, 2, 1] (w2.alloc (.cells #[.int .i64 3, .int .i64 3, .int .i64 2, .int .i64 1] 3)) ((h.alloc (Nat.le_refl _) _).more (by omega)) (rd_litI w2 3 (0, 0) [3, 3, 2, 1]) (by omega))
  have HB := Lib.hid (Below.refl w.heap.size w)
  go_enter Try.func11, Try.ntmps11
  go_wp2_with (first
    | (go_at_call 13; (with_reducible refine (HLN.out _).mono ?_); go_must (rintro e w1 ⟨A1, n1, c1, rfl, hn1, ho1, hb1⟩; rw [ex_len.2]; rw [ex_len.1] at ho1 hn1; obtain rfl : n1 = 4 := hn1; have HO1 := Lib.hid ho1; have HB1 := Lib.hid ((HB.out.alloc (Nat.le_refl _) (.cells #[.int .i64 1, .int .i64 1, .int .i64 2, .int .i64 4] 3)).trans (hb1.mono (by simp))); clear ho1 hb1))
    | (go_at_call 18; (with_reducible refine (HCD.out _).mono ?_); go_must (rintro e w2 ⟨A2, n2, c2, rfl, hn2, ho2, hb2⟩; rw [ex_cod.2]; rw [ex_cod.1] at ho2 hn2; obtain rfl : n2 = 4 := hn2; have HO2 := Lib.hid ho2; obtain ⟨_, g2, eg2, _, _⟩ := (show ∃ x : Nat, ∃ g, A2 = some ⟨g, 0, none⟩ ∧ True ∧ True from ⟨0, (by obtain ⟨_, g, e, _, _⟩ := ho2.pos (by omega); exact ⟨g, e, trivial, trivial⟩)⟩); subst eg2; obtain ⟨k0, _⟩ := ho2.cell rfl (k := 0) (by simp); obtain ⟨k1, _⟩ := ho2.cell rfl (k := 1) (by simp); obtain ⟨_, k2⟩ := ho2.cell rfl (k := 2) (by simp); obtain ⟨k3, _⟩ := ho2.cell rfl (k := 3) (by simp); have HB2 := Lib.hid ((HB1.out.alloc HB1.out.size (.cells #[.int .i64 2, .int .i64 1, .int .i64 0, .int .i64 2] 3)).trans (hb2.mono (by have := HB1.out.size; simp; omega))); have HI := Lib.hid (show RdI w2 w2.heap.size A1 4 [3, 3, 2, 1] from ((HO1.out.rd.alloc (Nat.le_refl _) _).blw (hb2.mono (by simp))).here); have lg := (show g2 < w2.heap.size from block_lt_of_cell (a := ⟨g2, 0 * 2, none⟩) k0); have HK0 := Lib.hid (show w2.cell? ⟨g2, 0, none⟩ = some (.int .u32 2) from k0); have HK1 := Lib.hid (show w2.cell? ⟨g2, 2, none⟩ = some (.int .u32 0) from k1); have HK2 := Lib.hid (show w2.cell? ⟨g2, 5, none⟩ = some (.int .i64 0) from k2); have HK3 := Lib.hid (show w2.cell? ⟨g2, 6, none⟩ = some (.int .u32 3) from k3); clear ho2 hb2 k0 k1 k2 k3))
    | (go_at_call 15; (with_reducible refine (HIN.out _ _ _ HI.out).mono ?_); go_must (rintro e w3 ⟨rfl, hb3⟩; have hbx := (Below.refl w2.heap.size w2).alloc (Nat.le_refl _) (.cells #[.int .i64 3, .int .i64 3, .int .i64 2, .int .i64 1] 3) |>.trans (hb3.mono (by simp)); have k0 := bsame hbx lg HK0.out; have k1 := bsame hbx lg HK1.out; have k2 := bsame hbx lg HK2.out; have k3 := bsame hbx lg HK3.out; have HB3 := Lib.hid (HB2.out.trans (hbx.mono HB2.out.size)); clear hb3 hbx)))
  go_ret
  exact ⟨rfl, HB3.out⟩
end Go.Proofs.Ytpbegikdohafbaa
