/- join: lists held against one another, copied; masks; short trees. -/
import Derived.Test.YtmffmijjdpjaiaaTrees
import Derived.Test.YtmffmijjdpjaiaaRowI
import Derived.Test.YtmffmijjdpjaiaaRowL
namespace Go.Proofs.Ytmffmijjdpjaiaa
set_option linter.all false
open Go.RowKit

theorem take_eq_step {α : Type} {xs ys : List α} {k : Nat} {x : α} (h : xs.take k = ys.take k) (hx : xs[k]? = some x) (hy : ys[k]? = some x) : xs.take (k + 1) = ys.take (k + 1) := by
  obtain ⟨a1, a2⟩ := List.getElem?_eq_some_iff.1 hx
  obtain ⟨b1, b2⟩ := List.getElem?_eq_some_iff.1 hy
  rw [List.take_succ_eq_append_getElem a1, List.take_succ_eq_append_getElem b1, h, a2, b2]
theorem take_ne {α : Type} {xs ys : List α} {k : Nat} {x y : α} (hx : xs[k]? = some x) (hy : ys[k]? = some y) (h : ¬ x = y) : ¬ xs = ys := by
  intro e
  rw [e, hy] at hx
  injection hx with hx
  exact h hx.symm
theorem str_ne {x y : ByteArray} (h : ¬ x = y) : (x.toList == y.toList) = false := by
  rw [beq_eq_false_iff_ne]
  intro e
  rw [Lib.toList_data, Lib.toList_data] at e
  exact h (ByteArray.ext (Array.ext' e))

set_option maxHeartbeats 1600000 in
theorem texts_any (B n c B' n' c' : Nat) (A A' : Option Addr) (xs ys : List ByteArray) (w : World) (h : RdT w B A n xs) (h' : RdT w B' A' n' ys) (hn : n ≤ 1099511627776) :
    Calls Try.prog 27 #[.slice A n c, .slice A' n' c'] w fun e w' => e = .returned (.bool (decide (xs = ys))) ∧ Below w.heap.size w w' := by
  have hB := Below.refl w.heap.size w
  have H1 := Lib.hid h
  have H2 := Lib.hid h'
  have L1 := Lib.hid h.len
  have L2 := Lib.hid h'.len
  clear h h'
  by_cases hnn : n = n'
  · subst hnn
    go_enter Try.func27, Try.ntmps27
    go_wp2_with fail
    go_loopw [5] (fun i wr => ∃ k : Nat, k ≤ n ∧ i = .int .i64 k ∧ Hid (xs.take k = ys.take k) ∧ Hid (wr.heap = w.heap) ∧ Below w.heap.size w wr) (fun i _ => n - (intOf i).toNat)
    case atStart => exact ⟨0, Nat.zero_le _, rfl, (show _ = _ from rfl), (show _ = _ from rfl), hB⟩
    case round =>
      clear hB
      obtain ⟨k, hk, rfl, HE, HH, hB⟩ := hrel
      by_cases hlt : k < n
      · obtain ⟨b, o, x, rfl, hb, HX, e1⟩ := H1.out.one hlt
        obtain ⟨b', o', y, rfl, hb', HY, e2⟩ := H2.out.one hlt
        have f1 : wr.cell? ⟨b, o + k, none⟩ = some (.string x) := by rw [← e1]; unfold World.cell?; rw [HH.out]
        have f2 : wr.cell? ⟨b', o' + k, none⟩ = some (.string y) := by rw [← e2]; unfold World.cell?; rw [HH.out]
        clear e1 e2
        by_cases hxy : x = y
        · subst hxy
          have HE1 : Hid (xs.take (k + 1) = ys.take (k + 1)) := (show _ = _ from take_eq_step HE.out HX.out HY.out)
          go_wp2_with fail
          go_quiet (fail)
          go_wp2_with fail
          go_roundw
          case rel => exact ⟨k + 1, by omega, by go_num, HE1, (show _ = _ from HH.out), bdrewN hB _⟩
          case measure => simp [intOf]; omega
        · have HN : Hid (decide (xs = ys) = false) := (show _ = _ from decide_eq_false (take_ne HX.out HY.out hxy))
          have d1 : (x.toList == y.toList) = false := str_ne hxy
          have d2 : (x.toList != y.toList) = true := by simp [bne, d1]
          clear hxy
          go_wp2_with fail
          go_quiet (fail)
          go_wp2_with fail
          go_ret
          exact ⟨ret_bool HN.out.symm, bdrewN hB _⟩
      · obtain rfl : k = n := by omega
        have HN : Hid (decide (xs = ys) = true) := (show _ = _ from decide_eq_true (by have := HE.out; rw [List.take_of_length_le (by rw [L1.out]; omega), List.take_of_length_le (by rw [L2.out]; omega)] at this; exact this))
        go_wp2_with fail
        go_ret
        exact ⟨ret_bool HN.out.symm, hB⟩
  · have HN : Hid (decide (xs = ys) = false) := (show _ = _ from decide_eq_false (by intro e; apply hnn; rw [← L1.out, ← L2.out, e]))
    have d1 : ((n : Int) == (n' : Int)) = false := by rw [beq_eq_false_iff_ne]; omega
    have d2 : ((n : Int) != (n' : Int)) = true := by simp [bne, d1]
    go_enter Try.func27, Try.ntmps27
    go_wp2_with fail
    go_ret
    exact ⟨ret_bool HN.out.symm, hB⟩

set_option maxHeartbeats 1600000 in
theorem ints_any (B n c B' n' c' : Nat) (A A' : Option Addr) (xs ys : List Int) (w : World) (h : RdI w B A n xs) (h' : RdI w B' A' n' ys) (hn : n ≤ 1099511627776) :
    Calls Try.prog 15 #[.slice A n c, .slice A' n' c'] w fun e w' => e = .returned (.bool (decide (xs = ys))) ∧ Below w.heap.size w w' := by
  have hB := Below.refl w.heap.size w
  have H1 := Lib.hid h
  have H2 := Lib.hid h'
  have L1 := Lib.hid h.len
  have L2 := Lib.hid h'.len
  clear h h'
  by_cases hnn : n = n'
  · subst hnn
    go_enter Try.func15, Try.ntmps15
    go_wp2_with fail
    go_loopw [5] (fun i wr => ∃ k : Nat, k ≤ n ∧ i = .int .i64 k ∧ Hid (xs.take k = ys.take k) ∧ Hid (wr.heap = w.heap) ∧ Below w.heap.size w wr) (fun i _ => n - (intOf i).toNat)
    case atStart => exact ⟨0, Nat.zero_le _, rfl, (show _ = _ from rfl), (show _ = _ from rfl), hB⟩
    case round =>
      clear hB
      obtain ⟨k, hk, rfl, HE, HH, hB⟩ := hrel
      by_cases hlt : k < n
      · obtain ⟨b, o, x, rfl, hb, HX, e1⟩ := H1.out.one hlt
        obtain ⟨b', o', y, rfl, hb', HY, e2⟩ := H2.out.one hlt
        have f1 : wr.cell? ⟨b, o + k, none⟩ = some (.int .i64 x) := by rw [← e1]; unfold World.cell?; rw [HH.out]
        have f2 : wr.cell? ⟨b', o' + k, none⟩ = some (.int .i64 y) := by rw [← e2]; unfold World.cell?; rw [HH.out]
        clear e1 e2
        by_cases hxy : x = y
        · subst hxy
          have HE1 : Hid (xs.take (k + 1) = ys.take (k + 1)) := (show _ = _ from take_eq_step HE.out HX.out HY.out)
          go_wp2_with fail
          go_quiet (fail)
          go_wp2_with fail
          go_roundw
          case rel => exact ⟨k + 1, by omega, by go_num, HE1, (show _ = _ from HH.out), bdrewN hB _⟩
          case measure => simp [intOf]; omega
        · have HN : Hid (decide (xs = ys) = false) := (show _ = _ from decide_eq_false (take_ne HX.out HY.out hxy))
          have d1 : (x == y) = false := beq_eq_false_iff_ne.2 hxy
          have d2 : (x != y) = true := by simp [bne, d1]
          have d3 : decide (x = y) = false := decide_eq_false hxy
          go_wp2_with fail
          go_quiet (fail)
          go_wp2_with fail
          go_ret
          exact ⟨ret_bool HN.out.symm, bdrewN hB _⟩
      · obtain rfl : k = n := by omega
        have HN : Hid (decide (xs = ys) = true) := (show _ = _ from decide_eq_true (by have := HE.out; rw [List.take_of_length_le (by rw [L1.out]; omega), List.take_of_length_le (by rw [L2.out]; omega)] at this; exact this))
        go_wp2_with fail
        go_ret
        exact ⟨ret_bool HN.out.symm, hB⟩
  · have HN : Hid (decide (xs = ys) = false) := (show _ = _ from decide_eq_false (by intro e; apply hnn; rw [← L1.out, ← L2.out, e]))
    have d1 : ((n : Int) == (n' : Int)) = false := by rw [beq_eq_false_iff_ne]; omega
    have d2 : ((n : Int) != (n' : Int)) = true := by simp [bne, d1]
    go_enter Try.func15, Try.ntmps15
    go_wp2_with fail
    go_ret
    exact ⟨ret_bool HN.out.symm, hB⟩

set_option maxHeartbeats 1600000 in
theorem bools_any (B n c B' n' c' : Nat) (A A' : Option Addr) (xs ys : List Bool) (w : World) (h : RdL w B A n xs) (h' : RdL w B' A' n' ys) (hn : n ≤ 1099511627776) :
    Calls Try.prog 10 #[.slice A n c, .slice A' n' c'] w fun e w' => e = .returned (.bool (decide (xs = ys))) ∧ Below w.heap.size w w' := by
  have hB := Below.refl w.heap.size w
  have H1 := Lib.hid h
  have H2 := Lib.hid h'
  have L1 := Lib.hid h.len
  have L2 := Lib.hid h'.len
  clear h h'
  by_cases hnn : n = n'
  · subst hnn
    go_enter Try.func10, Try.ntmps10
    go_wp2_with fail
    go_loopw [5] (fun i wr => ∃ k : Nat, k ≤ n ∧ i = .int .i64 k ∧ Hid (xs.take k = ys.take k) ∧ Hid (wr.heap = w.heap) ∧ Below w.heap.size w wr) (fun i _ => n - (intOf i).toNat)
    case atStart => exact ⟨0, Nat.zero_le _, rfl, (show _ = _ from rfl), (show _ = _ from rfl), hB⟩
    case round =>
      clear hB
      obtain ⟨k, hk, rfl, HE, HH, hB⟩ := hrel
      by_cases hlt : k < n
      · obtain ⟨b, o, x, rfl, hb, HX, e1⟩ := H1.out.one hlt
        obtain ⟨b', o', y, rfl, hb', HY, e2⟩ := H2.out.one hlt
        have f1 : wr.cell? ⟨b, o + k, none⟩ = some (.bool x) := by rw [← e1]; unfold World.cell?; rw [HH.out]
        have f2 : wr.cell? ⟨b', o' + k, none⟩ = some (.bool y) := by rw [← e2]; unfold World.cell?; rw [HH.out]
        clear e1 e2
        by_cases hxy : x = y
        · subst hxy
          have HE1 : Hid (xs.take (k + 1) = ys.take (k + 1)) := (show _ = _ from take_eq_step HE.out HX.out HY.out)
          go_wp2_with fail
          go_quiet (fail)
          go_wp2_with fail
          go_roundw
          case rel => exact ⟨k + 1, by omega, by go_num, HE1, (show _ = _ from HH.out), bdrewN hB _⟩
          case measure => simp [intOf]; omega
        · have HN : Hid (decide (xs = ys) = false) := (show _ = _ from decide_eq_false (take_ne HX.out HY.out hxy))
          have d1 : (x == y) = false := beq_eq_false_iff_ne.2 hxy
          have d2 : (x != y) = true := by simp [bne, d1]
          have d3 : decide (x = y) = false := decide_eq_false hxy
          go_wp2_with fail
          go_quiet (fail)
          go_wp2_with fail
          go_ret
          exact ⟨ret_bool HN.out.symm, bdrewN hB _⟩
      · obtain rfl : k = n := by omega
        have HN : Hid (decide (xs = ys) = true) := (show _ = _ from decide_eq_true (by have := HE.out; rw [List.take_of_length_le (by rw [L1.out]; omega), List.take_of_length_le (by rw [L2.out]; omega)] at this; exact this))
        go_wp2_with fail
        go_ret
        exact ⟨ret_bool HN.out.symm, hB⟩
  · have HN : Hid (decide (xs = ys) = false) := (show _ = _ from decide_eq_false (by intro e; apply hnn; rw [← L1.out, ← L2.out, e]))
    have d1 : ((n : Int) == (n' : Int)) = false := by rw [beq_eq_false_iff_ne]; omega
    have d2 : ((n : Int) != (n' : Int)) = true := by simp [bne, d1]
    go_enter Try.func10, Try.ntmps10
    go_wp2_with fail
    go_ret
    exact ⟨ret_bool HN.out.symm, hB⟩

theorem cloneT_any (B n c : Nat) (A : Option Addr) (l : List ByteArray) (w : World) (h : RdT w B A n l) (hm : n ≤ 1099511627776) :
    Calls Try.prog 24 #[.slice A n c] w fun e w' => ∃ v, e = .returned v ∧ ownT w' w.heap.size v l ∧ Below w.heap.size w w' := by
  have kn := fun w => Go.run_eql_slice_nil (P := Try.prog) w 24 _ A n c Try.underlying24
  cases A with
  | none =>
    have h0 : l = [] := by
      cases l with
      | nil => rfl
      | cons x l => have h2 := h.len; obtain ⟨b, o, e, _⟩ := h.at_ (by rw [← h2]; simp); cases e
    subst h0
    have hn : n = 0 := by have := h.len; simpa using this.symm
    subst hn
    go_enter Try.func24, Try.ntmps24
    go_wp2
    go_ret
    exact ⟨_, rfl, ownT.nil_ _ _, Below.refl _ _⟩
  | some a =>
    go_enter Try.func24, Try.ntmps24
    go_wp2_with (at_builtin; go_must (refine wpList_appendT rfl (.tmp 5) (.tmp 6) rfl w.heap.size _ [] rfl (own_litT w [] (by simp)) w.heap.size n c (some a) l rfl (Rd.alloc (Rd.here h) (Nat.le_refl _) _) (by simp; omega) (by simp) ?_; intro v1 w1 hown hg hb hat))
    go_ret
    exact ⟨_, rfl, hown, ((Below.refl w.heap.size w).alloc (Nat.le_refl _) _).trans (hb)⟩
theorem copyT_any (B n c : Nat) (A : Option Addr) (l : List ByteArray) (w : World) (h : RdT w B A n l) (hm : n ≤ 1099511627776) :
    Calls Try.prog 18 #[.slice A n c] w fun e w' => ∃ v, e = .returned v ∧ ownT w' w.heap.size v l ∧ Below w.heap.size w w' := by
  go_enter Try.func18, Try.ntmps18
  go_wp2_with (at_builtin; go_must (refine wpList_appendT rfl (.tmp 3) (.tmp 4) rfl w.heap.size _ [] rfl (own_litT w [] (by simp)) w.heap.size n c A l rfl (Rd.alloc (Rd.here h) (Nat.le_refl _) _) (by simp; omega) (by simp) ?_; intro v1 w1 hown hg hb hat))
  go_ret
  exact ⟨_, rfl, by simpa using hown, ((Below.refl _ _).alloc (Nat.le_refl _) _).trans hb⟩

def cleanL (l : List Bool) : Bool := !l.any id
theorem any_take {l : List Bool} {k : Nat} {x : Bool} (h : l[k]? = some x) : (l.take (k + 1)).any id = ((l.take k).any id || x) := by
  obtain ⟨h1, h2⟩ := List.getElem?_eq_some_iff.1 h
  rw [List.take_succ_eq_append_getElem h1, List.any_append, h2]
  simp
theorem any_yes {l : List Bool} {k : Nat} (h : l[k]? = some true) : l.any id = true := by
  obtain ⟨h1, h2⟩ := List.getElem?_eq_some_iff.1 h
  rw [List.any_eq_true]
  exact ⟨_, List.getElem_mem h1, by rw [h2]; rfl⟩
set_option maxHeartbeats 1600000 in
theorem indexTrue_any (B n c : Nat) (A : Option Addr) (l : List Bool) (w : World) (h : RdL w B A n l) (hn : n ≤ 1099511627776) :
    Calls Try.prog 31 #[.slice A n c, .bool true] w fun e w' => ∃ z : Int, e = .returned (.int .i64 z) ∧ Hid (decide (0 ≤ z) = l.any id) ∧ w = w' := by
  have H1 := Lib.hid h
  have L1 := Lib.hid h.len
  clear h
  go_enter Try.func31, Try.ntmps31
  go_wp2_with fail
  go_loop [8] (fun i => ∃ k : Nat, k ≤ n ∧ i = .int .i64 k ∧ Hid ((l.take k).any id = false)) (fun i => n - (intOf i).toNat)
  case atStart => exact ⟨0, Nat.zero_le _, rfl, (show _ = _ from rfl)⟩
  case round =>
    obtain ⟨k, hk, rfl, HE⟩ := hrel
    by_cases hlt : k < n
    · obtain ⟨b, o, x, rfl, hb, HX, e1⟩ := H1.out.one hlt
      cases x with
      | true =>
        have HA : Hid (l.any id = true) := (show _ = _ from any_yes HX.out)
        go_wp2_with fail
        go_ret
        exact ⟨_, rfl, (show _ = _ by rw [HA.out]; simp), rfl⟩
      | false =>
        have HE1 : Hid ((l.take (k + 1)).any id = false) := (show _ = _ by rw [any_take HX.out, HE.out]; rfl)
        go_wp2_with fail
        go_round
        case rel => exact ⟨k + 1, by omega, by go_num, HE1⟩
        case measure => simp [intOf]; omega
    · obtain rfl : k = n := by omega
      have HA : Hid (l.any id = false) := (show _ = _ by have := HE.out; rwa [List.take_of_length_le (by rw [L1.out]; omega)] at this)
      go_wp2_with fail
      go_ret
      exact ⟨_, rfl, (show _ = _ by rw [HA.out]; simp), rfl⟩
theorem clean_any (B n c : Nat) (A : Option Addr) (l : List Bool) (w : World) (h : RdL w B A n l) (hn : n ≤ 1099511627776) :
    Calls Try.prog 11 #[.slice A n c] w fun e w' => e = .returned (.bool (cleanL l)) ∧ w = w' := by
  have H : Hid (∀ w, RdL w B A n l → Calls Try.prog 25 #[.slice A n c, .bool true] w fun e w' => e = .returned (.bool (l.any id)) ∧ w = w') := by
    intro w h
    have H := Lib.hid (fun w h => indexTrue_any B n c A l w h hn)
    have h' := Lib.hid h
    clear h
    go_enter Try.func25, Try.ntmps25
    go_wp2_with (go_at_call 31; (with_reducible refine (H.out _ h'.out).mono ?_); go_must (rintro e w1 ⟨z, rfl, hz, rfl⟩))
    go_ret
    exact ⟨ret_bool hz.out, rfl⟩
  have h' := Lib.hid h
  clear h
  go_enter Try.func11, Try.ntmps11
  go_wp2_with (go_at_call 25; (with_reducible refine (H.out _ h'.out).mono ?_); go_must (rintro e w1 ⟨rfl, rfl⟩))
  go_ret
  exact ⟨rfl, rfl⟩
set_option maxHeartbeats 1600000 in
theorem clean17_any (B n c : Nat) (A : Option Addr) (l : List Bool) (w : World) (h : RdL w B A n l) (hn : n ≤ 1099511627776) :
    Calls Try.prog 22 #[.slice A n c] w fun e w' => e = .returned (.bool (cleanL l)) ∧ w = w' := by
  have H1 := Lib.hid h
  have L1 := Lib.hid h.len
  clear h
  go_enter Try.func22, Try.ntmps22
  go_wp2_with fail
  go_loop [3] (fun i => ∃ k : Nat, k ≤ n ∧ i = .int .i64 k ∧ Hid ((l.take k).any id = false)) (fun i => n - (intOf i).toNat)
  case atStart => exact ⟨0, Nat.zero_le _, rfl, (show _ = _ from rfl)⟩
  case round =>
    obtain ⟨k, hk, rfl, HE⟩ := hrel
    by_cases hlt : k < n
    · obtain ⟨b, o, x, rfl, hb, HX, e1⟩ := H1.out.one hlt
      cases x with
      | true =>
        have HA : Hid (cleanL l = false) := (show _ = _ by unfold cleanL; rw [any_yes HX.out]; rfl)
        go_wp2_with fail
        go_ret
        exact ⟨ret_bool HA.out.symm, rfl⟩
      | false =>
        have HE1 : Hid ((l.take (k + 1)).any id = false) := (show _ = _ by rw [any_take HX.out, HE.out]; rfl)
        go_wp2_with fail
        go_round
        case rel => exact ⟨k + 1, by omega, by go_num, HE1⟩
        case measure => simp [intOf]; omega
    · obtain rfl : k = n := by omega
      have HA : Hid (cleanL l = true) := (show _ = _ by unfold cleanL; have := HE.out; rw [List.take_of_length_le (by rw [L1.out]; omega)] at this; rw [this]; rfl)
      go_wp2_with fail
      go_ret
      exact ⟨ret_bool HA.out.symm, rfl⟩

end Go.Proofs.Ytmffmijjdpjaiaa
