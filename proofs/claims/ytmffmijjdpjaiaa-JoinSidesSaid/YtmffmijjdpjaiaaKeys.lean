/- join: keys: which are valid, here and in the reference. -/
import Derived.Test.YtmffmijjdpjaiaaRowT
import Derived.Test.YtmffmijjdpjaiaaNum9
import Derived.Test.YtmffmijjdpjaiaaTile1
namespace Go.Proofs.Ytmffmijjdpjaiaa
set_option linter.all false
open Go.RowKit

/-- Is it a key? -/
def keyOk (s : ByteArray) : Bool := match unhexL s.data.toList with | some r => decide (r.length = 32) | none => false
def allOk (l : List ByteArray) : Bool := l.all keyOk
theorem keyOk_some {s : ByteArray} {r : List UInt8} (h : unhexL s.data.toList = some r) : keyOk s = decide (r.length = 32) := by unfold keyOk; rw [h]
theorem keyOk_none {s : ByteArray} (h : unhexL s.data.toList = none) : keyOk s = false := by unfold keyOk; rw [h]

theorem unhex_some (s : ByteArray) (r : List UInt8) (w : World) (hs : s.size ≤ 140737488355328) (h : unhexL s.data.toList = some r) :
    Calls Try.prog 43 #[.string s] w fun e w' => ∃ A c, e = .returned (.tuple #[.slice A r.length c, .bool true]) ∧ ownB w' w.heap.size (.slice A r.length c) r ∧ Below w.heap.size w w' := by
  refine (unhex_any s w hs).mono ?_
  rintro e w' ⟨hu, hb⟩
  unfold UnhexIs at hu
  rw [h] at hu
  obtain ⟨v, rfl, ho⟩ := hu
  obtain ⟨A, c, rfl, -⟩ := ho.form
  exact ⟨A, c, rfl, ho, hb⟩
theorem unhex_none (s : ByteArray) (w : World) (hs : s.size ≤ 140737488355328) (h : unhexL s.data.toList = none) :
    Calls Try.prog 43 #[.string s] w fun e w' => e = .returned (.tuple #[.slice none 0 0, .bool false]) ∧ Below w.heap.size w w' := by
  refine (unhex_any s w hs).mono ?_
  rintro e w' ⟨hu, hb⟩
  unfold UnhexIs at hu
  rw [h] at hu
  exact ⟨hu, hb⟩
theorem unhexR_some (s : ByteArray) (r : List UInt8) (w : World) (hs : s.size ≤ 140737488355328) (h : unhexL s.data.toList = some r) :
    Calls Try.prog 39 #[.string s] w fun e w' => ∃ A c, e = .returned (.tuple #[.slice A r.length c, .bool true]) ∧ ownB w' w.heap.size (.slice A r.length c) r ∧ Below w.heap.size w w' := by
  refine (unhexR_any s w hs).mono ?_
  rintro e w' ⟨hu, hb⟩
  unfold UnhexIs at hu
  rw [h] at hu
  obtain ⟨v, rfl, ho⟩ := hu
  obtain ⟨A, c, rfl, -⟩ := ho.form
  exact ⟨A, c, rfl, ho, hb⟩
theorem unhexR_none (s : ByteArray) (w : World) (hs : s.size ≤ 140737488355328) (h : unhexL s.data.toList = none) :
    Calls Try.prog 39 #[.string s] w fun e w' => e = .returned (.tuple #[.slice none 0 0, .bool false]) ∧ Below w.heap.size w w' := by
  refine (unhexR_any s w hs).mono ?_
  rintro e w' ⟨hu, hb⟩
  unfold UnhexIs at hu
  rw [h] at hu
  exact ⟨hu, hb⟩

theorem valid_any (s : ByteArray) (w : World) (hs : s.size ≤ 140737488355328) :
    Calls Try.prog 49 #[.string s] w fun e w' => e = .returned (.bool (keyOk s)) ∧ Below w.heap.size w w' := by
  cases h : unhexL s.data.toList with
  | none =>
    have HK := Lib.hid (keyOk_none h)
    have HU := Lib.hid (fun w => unhex_none s w hs h)
    clear h
    go_enter Try.func49, Try.ntmps49
    go_wp2_with (go_at_call 43; (with_reducible refine (HU.out _).mono ?_); go_must (rintro e w1 ⟨rfl, hb⟩))
    go_ret
    exact ⟨ret_bool HK.out.symm, hb⟩
  | some r =>
    have HK := Lib.hid (keyOk_some h)
    have HU := Lib.hid (fun w => unhex_some s r w hs h)
    clear h
    by_cases hr : r.length = 32
    · have HK2 := Lib.hid (show decide (r.length = 32) = true by simpa using hr)
      have HR := Lib.hid hr
      clear hr
      go_enter Try.func49, Try.ntmps49
      go_wp2_with (go_at_call 43; (with_reducible refine (HU.out _).mono ?_); go_must (rintro e w1 ⟨A, c, rfl, ho, hb⟩; rw [HR.out] at ho ⊢))
      go_ret
      exact ⟨ret_bool (HK.out.trans HK2.out).symm, hb⟩
    · have HK2 := Lib.hid (show decide (r.length = 32) = false by simpa using hr)
      have b1 : ((r.length : Int) == 32) = false := by rw [beq_eq_false_iff_ne]; omega
      clear hr
      go_enter Try.func49, Try.ntmps49
      go_wp2_with (go_at_call 43; (with_reducible refine (HU.out _).mono ?_); go_must (rintro e w1 ⟨A, c, rfl, ho, hb⟩))
      go_ret
      exact ⟨ret_bool (by first | exact (HK.out.trans HK2.out).symm | (rw [HK.out, HK2.out]; simp [*])), hb⟩

theorem validR_any (s : ByteArray) (w : World) (hs : s.size ≤ 140737488355328) :
    Calls Try.prog 33 #[.string s] w fun e w' => e = .returned (.bool (keyOk s)) ∧ Below w.heap.size w w' := by
  cases h : unhexL s.data.toList with
  | none =>
    have HK := Lib.hid (keyOk_none h)
    have HU := Lib.hid (fun w => unhexR_none s w hs h)
    clear h
    go_enter Try.func33, Try.ntmps33
    go_wp2_with (go_at_call 39; (with_reducible refine (HU.out _).mono ?_); go_must (rintro e w1 ⟨rfl, hb⟩))
    go_ret
    exact ⟨ret_bool HK.out.symm, hb⟩
  | some r =>
    have HK := Lib.hid (keyOk_some h)
    have HU := Lib.hid (fun w => unhexR_some s r w hs h)
    clear h
    by_cases hr : r.length = 32
    · have HK2 := Lib.hid (show decide (r.length = 32) = true by simpa using hr)
      have HR := Lib.hid hr
      clear hr
      go_enter Try.func33, Try.ntmps33
      go_wp2_with (go_at_call 39; (with_reducible refine (HU.out _).mono ?_); go_must (rintro e w1 ⟨A, c, rfl, ho, hb⟩; rw [HR.out] at ho ⊢))
      go_ret
      exact ⟨ret_bool (HK.out.trans HK2.out).symm, hb⟩
    · have HK2 := Lib.hid (show decide (r.length = 32) = false by simpa using hr)
      have b1 : ((r.length : Int) == 32) = false := by rw [beq_eq_false_iff_ne]; omega
      clear hr
      go_enter Try.func33, Try.ntmps33
      go_wp2_with (go_at_call 39; (with_reducible refine (HU.out _).mono ?_); go_must (rintro e w1 ⟨A, c, rfl, ho, hb⟩))
      go_ret
      exact ⟨ret_bool (by first | exact (HK.out.trans HK2.out).symm | (rw [HK.out, HK2.out]; simp [*])), hb⟩

theorem validClo_any (s : ByteArray) (w : World) (hs : s.size ≤ 140737488355328) :
    Calls Try.prog 48 #[.string s] w fun e w' => e = .returned (.bool (!keyOk s)) ∧ Below w.heap.size w w' := by
  have HU := Lib.hid (fun w => valid_any s w hs)
  go_enter Try.func48, Try.ntmps48
  go_wp2_with (go_at_call 49; (with_reducible refine (HU.out _).mono ?_); go_must (rintro e w1 ⟨rfl, hb⟩))
  go_ret
  exact ⟨rfl, hb⟩
theorem allOk_take {l : List ByteArray} {k : Nat} {x : ByteArray} (h : l[k]? = some x) : allOk (l.take (k + 1)) = (allOk (l.take k) && keyOk x) := by
  unfold allOk
  obtain ⟨h1, h2⟩ := List.getElem?_eq_some_iff.1 h
  rw [List.take_succ_eq_append_getElem h1, List.all_append, h2]
  simp
theorem allOk_no {l : List ByteArray} {k : Nat} {x : ByteArray} (h : l[k]? = some x) (hx : keyOk x = false) : allOk l = false := by
  unfold allOk
  obtain ⟨h1, h2⟩ := List.getElem?_eq_some_iff.1 h
  cases e : l.all keyOk with
  | false => rfl
  | true =>
    rw [List.all_eq_true] at e
    have := e x (by rw [← h2]; exact List.getElem_mem _)
    rw [hx] at this
    cases this
def shortT (l : List ByteArray) : Prop := ∀ x ∈ l, x.size ≤ 140737488355328
theorem shortT.at_ {l : List ByteArray} (h : shortT l) {k : Nat} {x : ByteArray} (e : l[k]? = some x) : x.size ≤ 140737488355328 := by
  obtain ⟨h1, h2⟩ := List.getElem?_eq_some_iff.1 e
  exact h x (by rw [← h2]; exact List.getElem_mem _)

set_option maxHeartbeats 800000 in
theorem indexBad_any (B n c : Nat) (A : Option Addr) (l : List ByteArray) (w : World) (hr : RdT w B A n l) (hB1 : B ≤ w.heap.size) (hc : n ≤ c) (hm : c ≤ maxLen) (hs : shortT l) :
    Calls Try.prog 55 #[.slice A n c, .func (.func 48) #[] #[]] w fun e w' => ∃ z : Int, e = .returned (.int .i64 z) ∧ Hid (decide (0 ≤ z) = !allOk l) ∧ Below w.heap.size w w' := by
  have HR := Lib.hid hr
  have HL := Lib.hid hr.len
  have HS := Lib.hid hs
  have hB := Below.refl w.heap.size w
  unfold maxLen at hm
  clear hr hs
  go_enter Try.func55, Try.ntmps55
  go_wp2_with fail
  go_loopw [8] (fun i wr => ∃ k : Nat, k ≤ n ∧ i = .int .i64 k ∧ Hid (allOk (l.take k) = true) ∧ Below w.heap.size w wr) (fun i _ => n - (intOf i).toNat)
  case atStart => exact ⟨0, Nat.zero_le _, rfl, (show _ = _ from rfl), hB⟩
  case round =>
    clear hB
    obtain ⟨k, hk, rfl, HA, hB⟩ := hrel
    by_cases hlt : k < n
    · obtain ⟨b, o, x, rfl, hb, HX, hcell⟩ := (HR.out.blw (hB.mono hB1)).one hlt
      have HC := Lib.hid (fun w => validClo_any x w (HS.out.at_ HX.out))
      cases hx : keyOk x with
      | true =>
        have HA1 : Hid (allOk (l.take (k + 1)) = true) := (show _ = _ by rw [allOk_take HX.out, HA.out, hx]; rfl)
        have HX2 := Lib.hid hx
        clear hx HX HA
        go_wp2_with (go_at_call 48; (with_reducible refine (HC.out _).mono ?_); go_must (rintro e w1 ⟨rfl, hb1⟩; rw [HX2.out]; replace hB := bstep hB hb1 (Nat.le_refl _); clear hb1))
        go_roundw
        case rel => exact ⟨k + 1, by omega, by go_num, HA1, hB⟩
        case measure => simp [intOf]; omega
      | false =>
        have HA1 : Hid (allOk l = false) := (show _ = _ from allOk_no HX.out hx)
        have HX2 := Lib.hid hx
        clear hx HX HA
        go_wp2_with (go_at_call 48; (with_reducible refine (HC.out _).mono ?_); go_must (rintro e w1 ⟨rfl, hb1⟩; rw [HX2.out]; replace hB := bstep hB hb1 (Nat.le_refl _); clear hb1))
        go_ret
        exact ⟨_, rfl, (show _ = _ by rw [HA1.out]; simp), hB⟩
    · obtain rfl : k = n := by omega
      go_wp2_with fail
      go_ret
      exact ⟨_, rfl, (show _ = _ by rw [← HL.out, List.take_length] at HA; rw [HA.out]; simp), hB⟩

theorem containsBad_any (B n c : Nat) (A : Option Addr) (l : List ByteArray) (w : World) (hr : RdT w B A n l) (hB1 : B ≤ w.heap.size) (hc : n ≤ c) (hm : c ≤ maxLen) (hs : shortT l) :
    Calls Try.prog 47 #[.slice A n c, .func (.func 48) #[] #[]] w fun e w' => e = .returned (.bool (!allOk l)) ∧ Below w.heap.size w w' := by
  have H := Lib.hid (indexBad_any B n c A l w hr hB1 hc hm hs)
  clear hr hs hm hc
  go_enter Try.func47, Try.ntmps47
  go_wp2_with (go_at_call 55; (with_reducible refine H.out.mono ?_); go_must (rintro e w1 ⟨z, rfl, hz, hb⟩))
  go_ret
  exact ⟨ret_bool (by rw [← hz.out]), hb⟩
theorem objValid_any (B n c : Nat) (A : Option Addr) (l : List ByteArray) (w : World) (hr : RdT w B A n l) (hB1 : B ≤ w.heap.size) (hc : n ≤ c) (hm : c ≤ maxLen) (hs : shortT l) :
    Calls Try.prog 41 #[.slice A n c] w fun e w' => e = .returned (.bool (allOk l)) ∧ Below w.heap.size w w' := by
  have H := Lib.hid (containsBad_any B n c A l w hr hB1 hc hm hs)
  clear hr hs hm hc
  go_enter Try.func41, Try.ntmps41
  go_wp2_with (go_at_call 47; (with_reducible refine H.out.mono ?_); go_must (rintro e w1 ⟨rfl, hb⟩))
  go_ret
  exact ⟨ret_bool (by simp), hb⟩

set_option maxHeartbeats 800000 in
theorem valid17_any (B n c : Nat) (A : Option Addr) (l : List ByteArray) (w : World) (hr : RdT w B A n l) (hB1 : B ≤ w.heap.size) (hc : n ≤ c) (hm : c ≤ maxLen) (hs : shortT l) :
    Calls Try.prog 29 #[.slice A n c] w fun e w' => e = .returned (.bool (allOk l)) ∧ Below w.heap.size w w' := by
  have HR := Lib.hid hr
  have HL := Lib.hid hr.len
  have HS := Lib.hid hs
  have hB := Below.refl w.heap.size w
  unfold maxLen at hm
  clear hr hs
  go_enter Try.func29, Try.ntmps29
  go_wp2_with fail
  go_loopw [3] (fun i wr => ∃ k : Nat, k ≤ n ∧ i = .int .i64 k ∧ Hid (allOk (l.take k) = true) ∧ Below w.heap.size w wr) (fun i _ => n - (intOf i).toNat)
  case atStart => exact ⟨0, Nat.zero_le _, rfl, (show _ = _ from rfl), hB⟩
  case round =>
    clear hB
    obtain ⟨k, hk, rfl, HA, hB⟩ := hrel
    by_cases hlt : k < n
    · obtain ⟨b, o, x, rfl, hb, HX, hcell⟩ := (HR.out.blw (hB.mono hB1)).one hlt
      have HC := Lib.hid (fun w => validR_any x w (HS.out.at_ HX.out))
      cases hx : keyOk x with
      | true =>
        have HA1 : Hid (allOk (l.take (k + 1)) = true) := (show _ = _ by rw [allOk_take HX.out, HA.out, hx]; rfl)
        have HX2 := Lib.hid hx
        clear hx HX HA
        go_wp2_with (go_at_call 33; (with_reducible refine (HC.out _).mono ?_); go_must (rintro e w1 ⟨rfl, hb1⟩; rw [HX2.out]; replace hB := bstep hB hb1 (Nat.le_refl _); clear hb1))
        go_roundw
        case rel => exact ⟨k + 1, by omega, by go_num, HA1, hB⟩
        case measure => simp [intOf]; omega
      | false =>
        have HA1 : Hid (allOk l = false) := (show _ = _ from allOk_no HX.out hx)
        have HX2 := Lib.hid hx
        clear hx HX HA
        go_wp2_with (go_at_call 33; (with_reducible refine (HC.out _).mono ?_); go_must (rintro e w1 ⟨rfl, hb1⟩; rw [HX2.out]; replace hB := bstep hB hb1 (Nat.le_refl _); clear hb1))
        go_ret
        exact ⟨ret_bool HA1.out.symm, hB⟩
    · obtain rfl : k = n := by omega
      go_wp2_with fail
      go_ret
      exact ⟨ret_bool (by rw [← HL.out, List.take_length] at HA; exact HA.out.symm), hB⟩

end Go.Proofs.Ytmffmijjdpjaiaa
