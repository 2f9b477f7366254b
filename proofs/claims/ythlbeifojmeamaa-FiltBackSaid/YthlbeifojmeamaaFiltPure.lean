/- What the filters do, as lists. -/
import Derived.Test.YthlbeifojmeamaaFiltFirst
set_option linter.all false
namespace Go.Proofs.Ythlbeifojmeamaa
open Go.RowKit

theorem gB_of {kind bpp i : Int} {prev row : List UInt8} {x : UInt8} (h : gss kind (gAt row (i - bpp)) (gAt prev i) (gAt prev (i - bpp)) = x.toNat) : gB kind bpp i prev row = x := by
  unfold gB
  rw [h, Int.toNat_natCast, UInt8.ofNat_toNat]

theorem doB_ext {kind bpp : Int} {prev row out : List UInt8} (hl : out.length = row.length) (h : ∀ (i : Nat) x, row[i]? = some x → out[i]? = some (x - gB kind bpp i prev row)) : doB kind bpp prev row = out := by
  apply List.ext_getElem?
  intro i
  by_cases hi : i < row.length
  · have e : row[i]? = some row[i] := by simp [hi]
    rw [doB_at kind bpp prev row e, h i _ e]
  · rw [List.getElem?_eq_none (by rw [doB_len]; omega), List.getElem?_eq_none (by omega)]

theorem do_none (bpp : Int) (prev row : List UInt8) : doB 0 bpp prev row = row := by
  refine doB_ext rfl fun i x h => ?_
  rw [gB_of (x := 0) (by simp [gss]), h, UInt8.sub_zero]
theorem gAt_nil (i : Int) : gAt [] i = 0 := by unfold gAt; split <;> simp
theorem do_up_nil (bpp : Int) (row : List UInt8) : doB 2 bpp [] row = row := by
  refine doB_ext rfl fun i x h => ?_
  rw [gB_of (x := 0) (by simp [gss, gAt_nil]), h, UInt8.sub_zero]
theorem do_up_self (bpp : Int) (row : List UInt8) : doB 2 bpp row row = List.replicate row.length 0 := by
  refine doB_ext (by simp) fun i x h => ?_
  have hi : i < row.length := (List.getElem?_eq_some_iff.1 h).1
  rw [gB_of (x := x) (by simp [gss, gAt_some row h]), UInt8.sub_self]
  simp [hi]
theorem do_sub_nil (bpp : Int) (row : List UInt8) (i : Nat) (hi : (i : Int) < bpp) : (doB 1 bpp [] row)[i]? = row[i]? := by
  by_cases h : i < row.length
  · have e : row[i]? = some row[i] := by simp [h]
    rw [doB_at 1 bpp [] row e, gB_of (x := 0) (by simp [gss]; rw [gAt_neg]; omega), e, UInt8.sub_zero]
  · rw [List.getElem?_eq_none (by rw [doB_len]; omega), List.getElem?_eq_none (by omega)]
theorem paeth_front (a : Int) (h : 0 ≤ a) : paeth a 0 0 = a := by
  unfold paeth dist
  rw [if_pos]
  split <;> split <;> omega
theorem do_paeth_nil (bpp : Int) (row : List UInt8) : doB 4 bpp [] row = doB 1 bpp [] row := by
  refine doB_ext (doB_len _ _ _ _) fun i x h => ?_
  rw [doB_at 1 bpp [] row h]
  congr 2
  unfold gB
  congr 2
  simp only [gss, gAt_nil]
  have := gAt_rng row ((i : Int) - bpp)
  simp [paeth_front _ this.1]

theorem undoTo_take (kind bpp : Int) (prev row : List UInt8) (j : Nat) : ∀ k, j ≤ k → (undoTo kind bpp prev row k).take j = undoTo kind bpp prev row j
  | 0, h => by
    obtain rfl : j = 0 := by omega
    rfl
  | k + 1, h => by
    by_cases hj : j = k + 1
    · subst hj
      rw [List.take_of_length_le (by rw [undoTo_len]; exact Nat.le_refl _)]
    · have e : undoTo kind bpp prev row (k + 1) = undoTo kind bpp prev row k ++ [row.getD k 0 + gB kind bpp k prev (undoTo kind bpp prev row k)] := rfl
      rw [e, List.take_append_of_le_length (by rw [undoTo_len]; omega)]
      exact undoTo_take kind bpp prev row j k (by omega)

theorem undo_do (kind bpp : Int) (prev row : List UInt8) (hb : 1 ≤ bpp) : undoB kind bpp prev (doB kind bpp prev row) = row := by
  have : ∀ j, j ≤ row.length → undoTo kind bpp prev (doB kind bpp prev row) j = row.take j := by
    intro j
    induction j with
    | zero => intro _; rfl
    | succ j ih =>
      intro hj
      have e : undoTo kind bpp prev (doB kind bpp prev row) (j + 1) = undoTo kind bpp prev (doB kind bpp prev row) j ++ [(doB kind bpp prev row).getD j 0 + gB kind bpp j prev (undoTo kind bpp prev (doB kind bpp prev row) j)] := rfl
      have er : row[j]? = some row[j] := by simp
      have hg : gB kind bpp j prev row = gB kind bpp j prev (row.take j) := by
        have := gB_front kind bpp prev (row.take j) (row.drop j) j (by simp; omega) hb
        rwa [List.take_append_drop] at this
      rw [e, ih (by omega), List.getD, doB_at kind bpp prev row er, hg]
      simp only [Option.getD_some, UInt8.sub_add_cancel]
      exact (List.take_succ_eq_append_getElem (by omega)).symm
  unfold undoB
  rw [doB_len, this _ (Nat.le_refl _), List.take_length]

theorem undoB_len (kind bpp : Int) (prev row : List UInt8) : (undoB kind bpp prev row).length = row.length := undoTo_len _ _ _ _ _

theorem do_undo (kind bpp : Int) (prev row : List UInt8) (hb : 1 ≤ bpp) : doB kind bpp prev (undoB kind bpp prev row) = row := by
  refine doB_ext (undoB_len _ _ _ _).symm fun i x h => ?_
  have hi : i < row.length := by have := (List.getElem?_eq_some_iff.1 h).1; rwa [undoB_len] at this
  have t1 := undoTo_take kind bpp prev row i row.length (by omega)
  have t2 := undoTo_take kind bpp prev row (i + 1) row.length (by omega)
  have e : undoTo kind bpp prev row (i + 1) = undoTo kind bpp prev row i ++ [row.getD i 0 + gB kind bpp i prev (undoTo kind bpp prev row i)] := rfl
  have hg : gB kind bpp i prev (undoB kind bpp prev row) = gB kind bpp i prev (undoTo kind bpp prev row i) := by
    have := gB_front kind bpp prev ((undoB kind bpp prev row).take i) ((undoB kind bpp prev row).drop i) i (by rw [List.length_take, undoB_len]; omega) hb
    rw [List.take_append_drop] at this
    rw [this]
    exact congrArg _ t1
  have hx : x = row[i] + gB kind bpp i prev (undoTo kind bpp prev row i) := by
    have h1 : (undoTo kind bpp prev row (i + 1))[i]? = some x := by rw [← t2, List.getElem?_take_of_lt (by omega)]; exact h
    rw [e, List.getElem?_append_right (by rw [undoTo_len]; omega), undoTo_len, Nat.sub_self] at h1
    simp [List.getD, hi] at h1
    exact h1.symm
  rw [hg, hx, UInt8.add_sub_cancel]
  simp [hi]

end Go.Proofs.Ythlbeifojmeamaa
