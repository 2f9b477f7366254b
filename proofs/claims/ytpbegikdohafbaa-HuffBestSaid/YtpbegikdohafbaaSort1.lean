/- slices.SortStableFunc over rows of members: what its functions tell, first the exchange. -/
import Derived.Test.YtpbegikdohafbaaRowP
namespace Go.Proofs.Ytpbegikdohafbaa
set_option linter.all false
open Go.RowKit

/-- In W the row in block g holds d; all else is as in w0, but for draws. -/
structure SortW (w0 : World) (base g n c : Nat) (d : List MP) (W : World) : Prop where
  own : ownP W base (.slice (some ⟨g, 0, none⟩) n c) d
  len : n = d.length
  gro : w0.grownBy W (some g)
  wts : ∀ x ∈ d, x.1 ≠ g ∧ W.cell? ⟨x.1, 0, none⟩ = some (.int .i64 x.2.w)
section
variable {w0 W : World} {base g n c : Nat} {d L1 L2 L3 : List MP} {x y : MP}
theorem SortW.drewN (h : SortW w0 base g n c d W) (k : Nat) : SortW w0 base g n c d (W.drewN k) :=
  ⟨h.own.drewN k, h.len, ⟨h.gro.os, h.gro.tape, h.gro.output, h.gro.size, h.gro.block⟩, h.wts⟩
theorem SortW.drew (h : SortW w0 base g n c d W) : SortW w0 base g n c d W.drew := h.drewN 1
theorem SortW.same {d' : List MP} (h : SortW w0 base g n c d W) (e : d = d') : SortW w0 base g n c d' W := e ▸ h
theorem SortW.at_ (h : SortW w0 base g n c (L1 ++ x :: L2) W) : W.cell? ⟨g, L1.length, none⟩ = some (.pointer (some ⟨x.1, 0, none⟩)) := by
  have := h.own.cell h.len (k := L1.length) (by simp)
  simpa using this
theorem SortW.fr (h : SortW w0 base g n c d W) (k : Nat) : W.frozen? ⟨g, k, none⟩ = false := h.own.frozen h.len k
theorem SortW.wt (h : SortW w0 base g n c d W) (hx : x ∈ d) : W.cell? ⟨x.1, 0, none⟩ = some (.int .i64 x.2.w) := (h.wts x hx).2
theorem grown_setCell {w w' : World} {g k : Nat} (h : w.grownBy w' (some g)) (u : Value) : w.grownBy (w'.setCell ⟨g, k, none⟩ u) (some g) :=
  ⟨h.os, h.tape, h.output, by have := h.size; simpa [World.setCell] using this, fun i hi hne => by
    rw [Below.heap_setCell _ _ _ _ (fun e => hne (congrArg some e))]
    exact h.block i hi hne⟩
theorem SortW.put (h : SortW w0 base g n c (L1 ++ x :: L2) W) (y : MP) (hy : y.1 ≠ g ∧ W.cell? ⟨y.1, 0, none⟩ = some (.int .i64 y.2.w)) :
    SortW w0 base g n c (L1 ++ y :: L2) (W.setCell ⟨g, L1.length, none⟩ (.pointer (some ⟨y.1, 0, none⟩))) := by
  have h1 := h.own.store h.len L1.length y
  rw [List.set_append_right _ _ (Nat.le_refl _), Nat.sub_self, List.set_cons_zero] at h1
  refine ⟨h1, by have := h.len; simpa using this, grown_setCell h.gro _, fun z hz => ?_⟩
  have hz' : z = y ∨ z ∈ L1 ++ x :: L2 := by simp at hz ⊢; rcases hz with h | h | h <;> simp [h]
  have hz2 : z.1 ≠ g ∧ W.cell? ⟨z.1, 0, none⟩ = some (.int .i64 z.2.w) := by
    rcases hz' with rfl | hz'
    · exact hy
    · exact h.wts z hz'
  refine ⟨hz2.1, ?_⟩
  rw [World.cell?_setCell_other _ _ _ _ (by intro e; injection e with e1 e2; exact hz2.1 e1.symm)]
  exact hz2.2
theorem SortW.swp (h : SortW w0 base g n c (L1 ++ x :: (L2 ++ y :: L3)) W) :
    SortW w0 base g n c (L1 ++ y :: (L2 ++ x :: L3)) ((W.setCell ⟨g, L1.length, none⟩ (.pointer (some ⟨y.1, 0, none⟩))).setCell ⟨g, L1.length + 1 + L2.length, none⟩ (.pointer (some ⟨x.1, 0, none⟩))) := by
  have h1 := h.put y (h.wts y (by simp))
  have e : L1 ++ y :: (L2 ++ y :: L3) = (L1 ++ y :: L2) ++ y :: L3 := by simp
  rw [e] at h1
  have h2 := h1.put x (by
    have h0 := h.wts x (by simp)
    refine ⟨h0.1, ?_⟩
    rw [World.cell?_setCell_other _ _ _ _ (by intro e; injection e with e1 e2; exact h0.1 e1.symm)]
    exact h0.2)
  have e2 : (L1 ++ y :: L2).length = L1.length + 1 + L2.length := by simp; omega
  rw [e2] at h2
  have e3 : L1 ++ y :: (L2 ++ x :: L3) = (L1 ++ y :: L2) ++ x :: L3 := by simp
  rw [e3]
  exact h2
theorem SortW.at2 (h : SortW w0 base g n c (L1 ++ x :: (L2 ++ y :: L3)) W) : W.cell? ⟨g, L1.length + 1 + L2.length, none⟩ = some (.pointer (some ⟨y.1, 0, none⟩)) := by
  have := SortW.at_ (L1 := L1 ++ x :: L2) (x := y) (L2 := L3) (h.same (by simp))
  rw [show (L1 ++ x :: L2).length = L1.length + 1 + L2.length by simp; omega] at this
  exact this
theorem SortW.at3 (h : SortW w0 base g n c (L1 ++ x :: (L2 ++ y :: L3)) W) (u : Value) : (W.setCell ⟨g, L1.length, none⟩ u).cell? ⟨g, L1.length + 1 + L2.length, none⟩ = some (.pointer (some ⟨y.1, 0, none⟩)) := by
  rw [World.cell?_setCell_other _ _ _ _ (by intro e; injection e with e1 e2; omega)]
  exact h.at2
theorem SortW.pws (h : SortW w0 base g n c (L1 ++ x :: y :: L3) W) :
    SortW w0 base g n c (L1 ++ y :: x :: L3) ((W.setCell ⟨g, L1.length + 1, none⟩ (.pointer (some ⟨x.1, 0, none⟩))).setCell ⟨g, L1.length, none⟩ (.pointer (some ⟨y.1, 0, none⟩))) := by
  have e : L1 ++ x :: y :: L3 = (L1 ++ [x]) ++ y :: L3 := by simp
  have hh := h
  rw [e] at hh
  have h1 := hh.put x (h.wts x (by simp))
  have e2 : (L1 ++ [x]).length = L1.length + 1 := by simp
  rw [e2] at h1
  have e3 : (L1 ++ [x]) ++ x :: L3 = L1 ++ x :: (x :: L3) := by simp
  rw [e3] at h1
  refine h1.put y ?_
  have h0 := h.wts y (by simp)
  refine ⟨h0.1, ?_⟩
  rw [World.cell?_setCell_other _ _ _ _ (by intro e; injection e with e1 e2; exact h0.1 e1.symm)]
  exact h0.2
theorem SortW.nx (h : SortW w0 base g n c (L1 ++ x :: y :: L3) W) : W.cell? ⟨g, L1.length + 1, none⟩ = some (.pointer (some ⟨y.1, 0, none⟩)) := SortW.at2 (L2 := []) h
theorem SortW.at3' (h : SortW w0 base g n c (L1 ++ x :: y :: L3) W) (u : Value) : (W.setCell ⟨g, L1.length + 1, none⟩ u).cell? ⟨g, L1.length, none⟩ = some (.pointer (some ⟨x.1, 0, none⟩)) := by
  rw [World.cell?_setCell_other _ _ _ _ (by intro e; injection e with e1 e2; omega)]
  exact h.at_
end

/-- cmp.Compare of ints. -/
def cmpI (a b : Int) : Int := if a < b then -1 else if b < a then 1 else 0
theorem cmpI_neg (a b : Int) : cmpI a b < 0 ↔ a < b := by
  unfold cmpI
  split
  · omega
  · split <;> omega
theorem isNaN_any (a : Int) (w : World) : Calls Try.prog 47 #[.int .i64 a] w fun e w' => e = .returned (.bool false) ∧ w = w' := by
  go_enter Try.func47, Try.ntmps47
  go_wp2
  go_ret
  exact ⟨rfl, rfl⟩
theorem compare_any (a b : Int) (w : World) : Calls Try.prog 43 #[.int .i64 a, .int .i64 b] w fun e w' => e = .returned (.int .i64 (cmpI a b)) ∧ w = w' := by
  by_cases h1 : a < b
  · rw [show cmpI a b = -1 by unfold cmpI; rw [if_pos h1]]
    go_enter Try.func43, Try.ntmps43
    go_wp2_with (go_at_call 47; (with_reducible refine (isNaN_any _ _).mono ?_); rintro e w' ⟨rfl, rfl⟩)
    go_ret
    exact ⟨rfl, rfl⟩
  · by_cases h2 : b < a
    · rw [show cmpI a b = 1 by unfold cmpI; rw [if_neg h1, if_pos h2]]
      go_enter Try.func43, Try.ntmps43
      go_wp2_with (go_at_call 47; (with_reducible refine (isNaN_any _ _).mono ?_); rintro e w' ⟨rfl, rfl⟩)
      go_ret
      exact ⟨rfl, rfl⟩
    · rw [show cmpI a b = 0 by unfold cmpI; rw [if_neg h1, if_neg h2]]
      go_enter Try.func43, Try.ntmps43
      go_wp2_with (go_at_call 47; (with_reducible refine (isNaN_any _ _).mono ?_); rintro e w' ⟨rfl, rfl⟩)
      go_ret
      exact ⟨rfl, rfl⟩
theorem less_any (x y : MP) (w : World) (hx : w.cell? ⟨x.1, 0, none⟩ = some (.int .i64 x.2.w)) (hy : w.cell? ⟨y.1, 0, none⟩ = some (.int .i64 y.2.w)) :
    Calls Try.prog 42 #[.pointer (some ⟨x.1, 0, none⟩), .pointer (some ⟨y.1, 0, none⟩)] w fun e w' => e = .returned (.int .i64 (cmpI x.2.w y.2.w)) ∧ ∃ q, w' = w.drewN q := by
  generalize x.2.w = a at *
  generalize y.2.w = b at *
  generalize x.1 = x at *
  generalize y.1 = y at *
  go_enter Try.func42, Try.ntmps42
  go_wp2_with fail
  go_quiet ((go_at_call 43; exact Calls.quiet_of_same ((compare_any _ _ _).mono fun _ _ h => ⟨h.1, h.2.symm⟩)))
  go_wp2_with fail
  go_ret
  exact ⟨rfl, _, rfl⟩

/-- The row of members between the two runs, and behind them: swapRange. -/
theorem swap_step (P X M Y R : List MP) (i : Nat) (hX : i < X.length) (hl : X.length = Y.length) :
    P ++ (Y.take i ++ X.drop i) ++ M ++ (X.take i ++ Y.drop i) ++ R =
      (P ++ Y.take i) ++ X[i] :: ((X.drop (i + 1) ++ M ++ X.take i) ++ (Y[i]'(by omega)) :: (Y.drop (i + 1) ++ R)) ∧
    P ++ (Y.take (i + 1) ++ X.drop (i + 1)) ++ M ++ (X.take (i + 1) ++ Y.drop (i + 1)) ++ R =
      (P ++ Y.take i) ++ (Y[i]'(by omega)) :: ((X.drop (i + 1) ++ M ++ X.take i) ++ X[i] :: (Y.drop (i + 1) ++ R)) := by
  constructor
  · rw [List.drop_eq_getElem_cons (l := X) hX, List.drop_eq_getElem_cons (l := Y) (i := i) (by omega)]; simp only [List.append_assoc, List.cons_append, List.nil_append]
  · rw [List.take_succ_eq_append_getElem (l := X) hX, List.take_succ_eq_append_getElem (l := Y) (i := i) (by omega)]; simp only [List.append_assoc, List.cons_append, List.nil_append]

set_option maxRecDepth 100000 in
set_option maxHeartbeats 1600000 in
theorem swapRange_any (w0 W : World) (base g n c : Nat) (P X M Y R : List MP) (f : Value) (h : SortW w0 base g n c (P ++ X ++ M ++ Y ++ R) W) (hl : X.length = Y.length) (hn : n ≤ 1099511627776) (a b k : Nat)
    (ha : a = P.length) (hb : b = P.length + X.length + M.length) (hk : k = X.length) :
    Calls Try.prog 51 #[.slice (some ⟨g, 0, none⟩) n c, .int .i64 a, .int .i64 b, .int .i64 k, f] W fun e w' =>
      e = .returned (.tuple #[]) ∧ SortW w0 base g n c (P ++ Y ++ M ++ X ++ R) w' := by
  have hlen := h.len
  simp only [List.length_append] at hlen
  have HS := Lib.hid h
  have HA := Lib.hid ha
  have HB := Lib.hid hb
  have HK := Lib.hid hk
  have z1 : a + k ≤ n := by omega
  have z2 : b + k ≤ n := by omega
  have HL := Lib.hid hl
  have HN := Lib.hid hlen
  clear h ha hb hk hl hlen
  go_enter Try.func51, Try.ntmps51
  go_wp2
  go_loopw [10] (fun i wr => ∃ j : Nat, j ≤ k ∧ i = .int .i64 j ∧ SortW w0 base g n c (P ++ (Y.take j ++ X.drop j) ++ M ++ (X.take j ++ Y.drop j) ++ R) wr)
    (fun i _ => k - (intOf i).toNat)
  case atStart => exact ⟨0, Nat.zero_le _, rfl, by simpa using HS.out⟩
  case round =>
    clear HS
    obtain ⟨j, hj, rfl, hS⟩ := hrel
    by_cases hlt : j < k
    · have hjX : j < X.length := by rw [← HK.out]; exact hlt
      have hjY : j < Y.length := by rw [← HL.out]; exact hjX
      obtain ⟨e1, e2⟩ := swap_step P X M Y R j hjX HL.out
      rw [e1] at hS
      have E2 := Lib.hid e2
      clear e1 e2
      have l1 : (P ++ Y.take j).length = a + j := by rw [HA.out]; simp; omega
      have l2 : (P ++ Y.take j).length + 1 + (X.drop (j + 1) ++ M ++ X.take j).length = b + j := by
        rw [HB.out]; simp; omega
      generalize hx : X[j] = x at hS E2
      generalize hy : Y[j] = y at hS E2
      have S1 := hS.swp.drew
      have c1 := hS.at_
      have c2 := hS.at2
      have c3 := hS.at3 (.pointer (some ⟨y.1, 0, none⟩))
      rw [l2] at c2
      rw [l2, l1] at c3
      rw [l1] at c1
      rw [l2, l1] at S1
      have f1 := hS.fr (a + j)
      have f2 := hS.fr (b + j)
      have T1 := Lib.hid S1
      clear S1 hS l1 l2 hx hy
      have m1 : ((a : Int) + j).toNat = a + j := by omega
      have m2 : ((b : Int) + j).toNat = b + j := by omega
      have m3 : IntKind.i64.wrap ((a : Int) + j) = (a : Int) + j := by rw [IntKind.wrap_i64]; omega
      have m4 : IntKind.i64.wrap ((b : Int) + j) = (b : Int) + j := by rw [IntKind.wrap_i64]; omega
      have p1 : (0 : Int) ≤ (a : Int) + j := by omega
      have p2 : (0 : Int) ≤ (b : Int) + j := by omega
      have q1 : (a : Int) + j < n := by omega
      have q2 : (b : Int) + j < n := by omega
      go_wp2_with fail
      go_region
      go_wp2_with fail
      go_roundw
      case rel => exact ⟨j + 1, by omega, by go_num, T1.out.same E2.out.symm⟩
      case measure => simp [intOf]; omega
    · obtain rfl : j = k := by omega
      go_wp2
      go_end0
      refine ⟨rfl, hS.same ?_⟩
      rw [List.take_of_length_le (by rw [HK.out, HL.out]; exact Nat.le_refl _), List.drop_eq_nil_of_le (by rw [HK.out]; exact Nat.le_refl _), List.take_of_length_le (by rw [HK.out]; exact Nat.le_refl _), List.drop_eq_nil_of_le (by rw [HK.out, HL.out]; exact Nat.le_refl _)]
      simp
end Go.Proofs.Ytpbegikdohafbaa
