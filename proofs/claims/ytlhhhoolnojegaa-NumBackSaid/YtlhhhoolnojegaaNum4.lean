import Derived.Test.YtlhhhoolnojegaaBase
set_option linter.all false
namespace Go.Proofs.Ytlhhhoolnojegaa
open Go.RowKit

theorem there_ok (B n c : Nat) (A : Option Addr) (bs : List UInt8) (k W : Nat) (w : World) (h : RdB w B A n bs) (hc : n ≤ c) (hm : n ≤ 140737488355328) (h1 : 1 ≤ W) (h2 : W ≤ 6) (h3 : k + W ≤ n) :
    Calls Try.prog 30 #[.slice A n c, .int .i64 k, .int .i64 W] w fun e w' => ∃ A' c', e = .returned (.tuple #[.slice A' W c', .int .i64 0]) ∧
      RdB w B A' W ((bs.drop k).take W) ∧ w = w' := by
  obtain rfl := h.len
  have d1 : decide ((W : Int) < 1) = false := by simp; omega
  have d2 : decide (6 < (W : Int)) = false := by simp; omega
  have d3 : decide ((k : Int) < 0) = false := by simp
  have d4 : decide ((bs.length : Int) < (k : Int)) = false := by simp; omega
  go_enter Try.func30, Try.ntmps30
  go_wp2
  go_ret2
  exact ⟨A.map (·.add k), c - k, ret_tup2 (show Value.slice _ (k + W - k) _ = _ by rw [Nat.add_sub_cancel_left]) rfl, h.cut (by omega) (fun _ => rfl), rfl⟩

theorem there_bad (B n c : Nat) (A : Option Addr) (bs : List UInt8) (k W : Int) (w : World) (h : RdB w B A n bs) (hm : n ≤ 140737488355328) (h1 : W < 1 ∨ 6 < W ∨ k < 0 ∨ (n : Int) < k) :
    Calls Try.prog 30 #[.slice A n c, .int .i64 k, .int .i64 W] w fun e w' => e = .returned (.tuple #[.slice none 0 0, .int .i64 1]) ∧ w = w' := by
  obtain rfl := h.len
  by_cases c1 : W < 1
  · have d1 : decide (W < 1) = true := by simp; omega
    go_enter Try.func30, Try.ntmps30
    go_wp2
    go_ret2
    exact ⟨rfl, rfl⟩
  have d1 : decide (W < 1) = false := by simp; omega
  by_cases c2 : 6 < W
  · have d2 : decide (6 < W) = true := by simp; omega
    go_enter Try.func30, Try.ntmps30
    go_wp2
    go_ret2
    exact ⟨rfl, rfl⟩
  have d2 : decide (6 < W) = false := by simp; omega
  by_cases c3 : k < 0
  · have d3 : decide (k < 0) = true := by simp; omega
    go_enter Try.func30, Try.ntmps30
    go_wp2
    go_ret2
    exact ⟨rfl, rfl⟩
  have d3 : decide (k < 0) = false := by simp; omega
  have d4 : decide ((bs.length : Int) < k) = true := by simp; omega
  go_enter Try.func30, Try.ntmps30
  go_wp2
  go_ret2
  exact ⟨rfl, rfl⟩

theorem there_short (B n c : Nat) (A : Option Addr) (bs : List UInt8) (k W : Int) (w : World) (h : RdB w B A n bs) (hm : n ≤ 140737488355328) (h1 : 1 ≤ W) (h2 : W ≤ 6) (h3 : 0 ≤ k) (h4 : k ≤ n) (h5 : n - k < W) :
    Calls Try.prog 30 #[.slice A n c, .int .i64 k, .int .i64 W] w fun e w' => e = .returned (.tuple #[.slice none 0 0, .int .i64 2]) ∧ w = w' := by
  obtain rfl := h.len
  have d1 : decide (W < 1) = false := by simp; omega
  have d2 : decide (6 < W) = false := by simp; omega
  have d3 : decide (k < 0) = false := by simp; omega
  have d4 : decide ((bs.length : Int) < k) = false := by simp; omega
  go_enter Try.func30, Try.ntmps30
  go_wp2
  go_ret2
  exact ⟨rfl, rfl⟩

def beV (l : List UInt8) : Nat := l.foldl (fun n x => n * 256 + x.toNat) 0
theorem beV_step (l : List UInt8) (k : Nat) (h : k < l.length) : beV (l.take (k + 1)) = beV (l.take k) * 256 + l[k].toNat := by
  unfold beV
  rw [List.take_succ_eq_append_getElem h, List.foldl_append]
  rfl
theorem beV_lt (l : List UInt8) : ∀ k, k ≤ l.length → beV (l.take k) < 256 ^ k
  | 0, _ => by simp [beV]
  | k + 1, h => by
    rw [beV_step l k (by omega), Nat.pow_succ]
    have := beV_lt l k (by omega)
    have := l[k].toNat_lt
    omega
theorem beV_lt6 (l : List UInt8) (k : Nat) (h : k ≤ l.length) (hk : k ≤ 6) : beV (l.take k) < 281474976710656 :=
  Nat.lt_of_lt_of_le (beV_lt l k h) (Nat.le_trans (Nat.pow_le_pow_right (by omega) hk) (by omega))
theorem or_be (y x : Nat) (hy : y < 281474976710656) (hx : x < 256) : bits .or .i64 ((y : Int) * 256) (x : Int) = ((y * 256 + x : Nat) : Int) := by
  have := i64_or_nat (y * 256) x (by omega) (by omega)
  rw [nat_join 8 _ _ (by omega) (by omega)] at this
  rw [← this]
  simp

theorem readBig_err (B n c : Nat) (A : Option Addr) (bs : List UInt8) (k W : Int) (w : World) (E : Int) (h : RdB w B A n bs)
    (ht : Calls Try.prog 30 #[.slice A n c, .int .i64 k, .int .i64 W] w fun e w' => e = .returned (.tuple #[.slice none 0 0, .int .i64 E]) ∧ w = w') :
    Calls Try.prog 20 #[.slice A n c, .int .i64 k, .int .i64 W] w fun e w' => e = .returned (.tuple #[.int .i64 0, .int .i64 E]) ∧ w = w' := by
  have HT := Lib.hid ht
  clear ht
  go_enter Try.func20, Try.ntmps20
  go_wp2_with (go_at_call 30; refine HT.out.mono ?_; rintro e w' ⟨rfl, rfl⟩)
  refine wp_loop_rounds 1 ?_
  rw [rounds_succ]
  go_wp2
  go_ret2
  exact ⟨rfl, rfl⟩

set_option maxHeartbeats 400000 in
theorem readBig_ok (B n c : Nat) (A : Option Addr) (bs : List UInt8) (k W : Nat) (w : World) (h : RdB w B A n bs) (hc : n ≤ c) (hm : n ≤ 140737488355328) (h1 : 1 ≤ W) (h2 : W ≤ 6) (h3 : k + W ≤ n) :
    Calls Try.prog 20 #[.slice A n c, .int .i64 k, .int .i64 W] w fun e w' => e = .returned (.tuple #[.int .i64 (beV ((bs.drop k).take W)), .int .i64 0]) ∧ w = w' := by
  go_enter Try.func20, Try.ntmps20
  go_wp2_with (go_at_call 30; refine (there_ok B n c A bs k W _ h hc hm h1 h2 h3).mono ?_; rintro e w' ⟨A', c', rfl, hr, rfl⟩)
  generalize hL : (bs.drop k).take W = l at hr
  have HL := Lib.hid hL
  clear hL
  obtain rfl := hr.len
  go_loop [10, 22] (fun s i => ∃ k : Nat, k ≤ l.length ∧ i = .int .i64 k ∧ s = .int .i64 (beV (l.take k))) (fun _ i => l.length - (intOf i).toNat)
  case atStart => exact ⟨0, Nat.zero_le _, rfl, rfl⟩
  case round =>
    obtain ⟨k, hk, rfl, rfl⟩ := hrel
    by_cases hlt : k < l.length
    · obtain ⟨b, o, rfl, _, hc⟩ := hr.at_ (by omega)
      have hck := hc k (by omega)
      clear hc
      have hp := beV_lt6 l k (by omega) (by omega)
      have hx := l[k].toNat_lt
      have Hs := Lib.hid (beV_step l k (by omega))
      go_wp2
      go_round
      case rel => exact ⟨k + 1, by omega, by go_num, by rw [Hs.out, or_be _ _ hp (by omega)]⟩
      case measure => simp [intOf]; omega
    · have : k = l.length := by omega
      subst this
      go_wp2
      go_ret2
      exact ⟨by rw [HL.out]; rfl, rfl⟩

def leV : List UInt8 → Nat | [] => 0 | x :: l => x.toNat + 256 * leV l
theorem leV_append (a b : List UInt8) : leV (a ++ b) = leV a + 256 ^ a.length * leV b := by
  induction a with
  | nil => simp [leV]
  | cons x a ih => simp only [List.cons_append, leV, ih, List.length_cons, Nat.pow_succ]; rw [Nat.mul_add, Nat.mul_comm (256 ^ a.length) 256, Nat.mul_assoc]; omega
theorem leV_lt (l : List UInt8) : leV l < 256 ^ l.length := by
  induction l with
  | nil => simp [leV]
  | cons x l ih => simp only [leV, List.length_cons, Nat.pow_succ]; have := x.toNat_lt; omega
theorem leV_step (l : List UInt8) (k : Nat) (h : k < l.length) : leV (l.take (k + 1)) = leV (l.take k) + l[k].toNat * 2 ^ (8 * k) := by
  rw [List.take_succ_eq_append_getElem h, leV_append, List.length_take, Nat.min_eq_left (by omega)]
  simp only [leV]
  rw [Nat.mul_zero, Nat.add_zero, show (256 : Nat) = 2 ^ 8 by rfl, ← Nat.pow_mul, Nat.mul_comm]
theorem leV_lt6 (l : List UInt8) (k : Nat) (h : k ≤ l.length) : leV (l.take k) < 2 ^ (8 * k) := by
  have := leV_lt (l.take k)
  rw [List.length_take, Nat.min_eq_left h, show (256 : Nat) = 2 ^ 8 by rfl, ← Nat.pow_mul] at this
  exact this

theorem or_le (y x k : Nat) (hy : y < 2 ^ (8 * k)) (hx : x < 256) (hk : k < 6) : bits .or .i64 (y : Int) (wrap64 ((x : Int) * 2 ^ (8 * k))) = ((y + x * 2 ^ (8 * k) : Nat) : Int) := by
  have h1 : 2 ^ (8 * k) ≤ 1099511627776 := Nat.le_trans (Nat.pow_le_pow_right (by omega) (by omega : 8 * k ≤ 40)) (by omega)
  have h2 : x * 2 ^ (8 * k) ≤ 255 * 1099511627776 := Nat.mul_le_mul (by omega) h1
  have e : wrap64 ((x : Int) * 2 ^ (8 * k)) = ((x * 2 ^ (8 * k) : Nat) : Int) := by
    rw [show ((x : Int) * 2 ^ (8 * k)) = ((x * 2 ^ (8 * k) : Nat) : Int) by simp]
    simp only [wrap64]
    omega
  rw [e, i64_or_nat _ _ (by omega) (by omega), Nat.or_comm, nat_join (8 * k) _ _ (Nat.mul_mod_left _ _) hy, Nat.add_comm]

theorem readLittle_err (B n c : Nat) (A : Option Addr) (bs : List UInt8) (k W : Int) (w : World) (E : Int) (h : RdB w B A n bs)
    (ht : Calls Try.prog 30 #[.slice A n c, .int .i64 k, .int .i64 W] w fun e w' => e = .returned (.tuple #[.slice none 0 0, .int .i64 E]) ∧ w = w') :
    Calls Try.prog 22 #[.slice A n c, .int .i64 k, .int .i64 W] w fun e w' => e = .returned (.tuple #[.int .i64 0, .int .i64 E]) ∧ w = w' := by
  have HT := Lib.hid ht
  clear ht
  go_enter Try.func22, Try.ntmps22
  go_wp2_with (go_at_call 30; refine HT.out.mono ?_; rintro e w' ⟨rfl, rfl⟩)
  refine wp_loop_rounds 1 ?_
  rw [rounds_succ]
  go_wp2
  go_ret2
  exact ⟨rfl, rfl⟩

set_option maxHeartbeats 400000 in
theorem readLittle_ok (B n c : Nat) (A : Option Addr) (bs : List UInt8) (k W : Nat) (w : World) (h : RdB w B A n bs) (hc : n ≤ c) (hm : n ≤ 140737488355328) (h1 : 1 ≤ W) (h2 : W ≤ 6) (h3 : k + W ≤ n) :
    Calls Try.prog 22 #[.slice A n c, .int .i64 k, .int .i64 W] w fun e w' => e = .returned (.tuple #[.int .i64 (leV ((bs.drop k).take W)), .int .i64 0]) ∧ w = w' := by
  go_enter Try.func22, Try.ntmps22
  go_wp2_with (go_at_call 30; refine (there_ok B n c A bs k W _ h hc hm h1 h2 h3).mono ?_; rintro e w' ⟨A', c', rfl, hr, rfl⟩)
  generalize hL : (bs.drop k).take W = l at hr
  have HL := Lib.hid hL
  clear hL
  obtain rfl := hr.len
  go_loop [10, 22] (fun s i => ∃ k : Nat, k ≤ l.length ∧ i = .int .i64 k ∧ s = .int .i64 (leV (l.take k))) (fun _ i => l.length - (intOf i).toNat)
  case atStart => exact ⟨0, Nat.zero_le _, rfl, rfl⟩
  case round =>
    obtain ⟨k, hk, rfl, rfl⟩ := hrel
    by_cases hlt : k < l.length
    · obtain ⟨b, o, rfl, _, hc⟩ := hr.at_ (by omega)
      have hck := hc k (by omega)
      clear hc
      have hp := leV_lt6 l k (by omega)
      have hx := l[k].toNat_lt
      have Hs := Lib.hid (leV_step l k (by omega))
      go_wp2
      go_round
      case rel => exact ⟨k + 1, by omega, by go_num, by rw [Hs.out, or_le _ _ k hp (by omega) (by omega)]⟩
      case measure => simp [intOf]; omega
    · have : k = l.length := by omega
      subst this
      go_wp2
      go_ret2
      exact ⟨by rw [HL.out]; rfl, rfl⟩

/-- CopyBytes. -/
theorem copyB_any (B n c : Nat) (A : Option Addr) (bs : List UInt8) (w : World) (h : RdB w B A n bs) (hm : n ≤ 140737488355328) :
    Calls Try.prog 12 #[.slice A n c] w fun e w' => ∃ v, e = .returned v ∧ ownB w' w.heap.size v bs ∧ Below w.heap.size w w' := by
  go_enter Try.func12, Try.ntmps12
  go_wp2_with (at_builtin; go_loud (refine wpList_appendB rfl (.tmp 3) (.tmp 4) rfl w.heap.size _ [] rfl (own_lit w [] (by simp)) w.heap.size n c A bs rfl (Rd.alloc (Rd.here h) (Nat.le_refl _) _) (by simp; omega) (by simp) ?_); intro v1 w1 hown hg hb hat)
  go_ret
  exact ⟨_, rfl, by simpa using hown, ((Below.refl _ _).alloc (Nat.le_refl _) _).trans hb⟩

/-- Bytes: are two lists of bytes alike? -/
theorem bytes_any (B n c B' n' c' : Nat) (A A' : Option Addr) (xs ys : List UInt8) (w : World) (h : RdB w B A n xs) (h' : RdB w B' A' n' ys) :
    Calls Try.prog 24 #[.slice A n c, .slice A' n' c'] w fun e w' => e = .returned (.bool (xs == ys)) ∧ w = w' := by
  have k1 := run_strB h (c := c)
  have k2 := run_strB h' (c := c')
  go_enter Try.func24, Try.ntmps24
  go_wp2_with fail
  go_ret
  exact ⟨rfl, rfl⟩
end Go.Proofs.Ytlhhhoolnojegaa
