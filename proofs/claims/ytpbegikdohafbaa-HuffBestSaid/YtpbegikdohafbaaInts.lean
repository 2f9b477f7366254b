/- aquref: lists of numbers held against one another, copied. -/
import Derived.Test.YtpbegikdohafbaaRowI
namespace Go.Proofs.Ytpbegikdohafbaa
set_option linter.all false
open Go.RowKit

theorem take_eq_step {α : Type} {xs ys : List α} {k : Nat} {x : α} (h : xs.take k = ys.take k) (hx : xs[k]? = some x) (hy : ys[k]? = some x) : xs.take (k + 1) = ys.take (k + 1) := by
  obtain ⟨a1, a2⟩ := List.getElem?_eq_some_iff.1 hx
  obtain ⟨b1, b2⟩ := List.getElem?_eq_some_iff.1 hy
  rw [List.take_succ_eq_append_getElem a1, List.take_succ_eq_append_getElem b1, h, a2, b2]
theorem take_ne {α : Type} {xs ys : List α} {k : Nat} {x y : α} (hx : xs[k]? = some x) (hy : ys[k]? = some y) (h : ¬ x = y) : ¬ xs = ys := by
  intro e
  rw [e, hy] at hx
  injection hx with hx
  exact h hx.symm
theorem ret_boolE {a b : Bool} (h : a = b) : Ending.returned (.bool a) = .returned (.bool b) := by rw [h]
set_option maxHeartbeats 1600000 in
theorem ints_any (B n c B' n' c' : Nat) (A A' : Option Addr) (xs ys : List Int) (w : World) (h : RdI w B A n xs) (h' : RdI w B' A' n' ys) (hn : n ≤ 1099511627776) :
    Calls Try.prog 15 #[.slice A n c, .slice A' n' c'] w fun e w' => e = .returned (.bool (decide (xs = ys))) ∧ Below w.heap.size w w' := by
  have hB := Below.refl w.heap.size w
  have H1 := Lib.hid h
  have H2 := Lib.hid h'
  have L1 := Lib.hid h.len
  have L2 := Lib.hid h'.len
  clear h h'
  by_cases hnn : n = n'
  · subst hnn
    go_enter Try.func15, Try.ntmps15
    go_wp2_with fail
    go_loopw [5] (fun i wr => ∃ k : Nat, k ≤ n ∧ i = .int .i64 k ∧ Hid (xs.take k = ys.take k) ∧ Hid (wr.heap = w.heap) ∧ Below w.heap.size w wr) (fun i _ => n - (intOf i).toNat)
    case atStart => exact ⟨0, Nat.zero_le _, rfl, (show _ = _ from rfl), (show _ = _ from rfl), hB⟩
    case round =>
      clear hB
      obtain ⟨k, hk, rfl, HE, HH, hB⟩ := hrel
      by_cases hlt : k < n
      · obtain ⟨b, o, x, rfl, hb, HX, e1⟩ := H1.out.one hlt
        obtain ⟨b', o', y, rfl, hb', HY, e2⟩ := H2.out.one hlt
        have f1 : wr.cell? ⟨b, o + k, none⟩ = some (.int .i64 x) := by rw [← e1]; unfold World.cell?; rw [HH.out]
        have f2 : wr.cell? ⟨b', o' + k, none⟩ = some (.int .i64 y) := by rw [← e2]; unfold World.cell?; rw [HH.out]
        clear e1 e2
        by_cases hxy : x = y
        · subst hxy
          have HE1 : Hid (xs.take (k + 1) = ys.take (k + 1)) := (show _ = _ from take_eq_step HE.out HX.out HY.out)
          go_wp2_with fail
          go_quiet (fail)
          go_wp2_with fail
          go_roundw
          case rel => exact ⟨k + 1, by omega, by go_num, HE1, (show _ = _ from HH.out), bdrewN hB _⟩
          case measure => simp [intOf]; omega
        · have HN : Hid (decide (xs = ys) = false) := (show _ = _ from decide_eq_false (take_ne HX.out HY.out hxy))
          have d1 : (x == y) = false := beq_eq_false_iff_ne.2 hxy
          have d2 : (x != y) = true := by simp [bne, d1]
          have d3 : decide (x = y) = false := decide_eq_false hxy
          go_wp2_with fail
          go_quiet (fail)
          go_wp2_with fail
          go_ret
          exact ⟨ret_boolE HN.out.symm, bdrewN hB _⟩
      · obtain rfl : k = n := by omega
        have HN : Hid (decide (xs = ys) = true) := (show _ = _ from decide_eq_true (by have := HE.out; rw [List.take_of_length_le (by rw [L1.out]; omega), List.take_of_length_le (by rw [L2.out]; omega)] at this; exact this))
        go_wp2_with fail
        go_ret
        exact ⟨ret_boolE HN.out.symm, hB⟩
  · have HN : Hid (decide (xs = ys) = false) := (show _ = _ from decide_eq_false (by intro e; apply hnn; rw [← L1.out, ← L2.out, e]))
    have d1 : ((n : Int) == (n' : Int)) = false := by rw [beq_eq_false_iff_ne]; omega
    have d2 : ((n : Int) != (n' : Int)) = true := by simp [bne, d1]
    go_enter Try.func15, Try.ntmps15
    go_wp2_with fail
    go_ret
    exact ⟨ret_boolE HN.out.symm, hB⟩

/-- CopyInts. -/
theorem copyI_any (B n c : Nat) (A : Option Addr) (l : List Int) (w : World) (h : RdI w B A n l) (hn : n ≤ 1099511627776) :
    Calls Try.prog 12 #[.slice A n c] w fun e w' => ∃ A' c', e = .returned (.slice A' n c') ∧ n ≤ c' ∧ c' ≤ maxLen ∧ ownI w' w.heap.size (.slice A' n c') l ∧ Below w.heap.size w w' := by
  have hl := h.len
  go_enter Try.func12, Try.ntmps12
  go_wp2_with (at_builtin; go_must (refine wpList_appendI rfl (.tmp 3) (.tmp 4) rfl w.heap.size _ [] rfl (own_litI w [] (by simp)) w.heap.size n c A l rfl (Rd.alloc (Rd.here h) (Nat.le_refl _) _) (by simp; omega) (by simp) ?_; intro v1 w1 hown hg hb hat))
  obtain ⟨A', c', rfl, h1, h2, h3⟩ := hown.form
  go_ret
  simp only [List.nil_append] at *
  exact ⟨A', c', (by rw [hl]; rfl), by omega, h3, by rw [← hl]; exact hown, (((Below.refl _ _).alloc (Nat.le_refl _) _).trans (hb.mono (by simp)))⟩
end Go.Proofs.Ytpbegikdohafbaa
