/- Merged: Ref, Kraft, CodeP. -/
import Derived.Test.YtfafijhmjnkjeaaMa01
/- The reference's small helpers: a copy of bytes, two lists of bytes held against one another. -/
namespace Go.Proofs.Ytfafijhmjnkjeaa
set_option linter.all false
open Go.RowKit

/-- CopyBytes. -/
theorem copyB_any (B n c : Nat) (A : Option Addr) (bs : List UInt8) (w : World) (h : RdB w B A n bs) (hm : n ≤ 140737488355328) :
    Calls Try.prog 8 #[.slice A n c] w fun e w' => ∃ v, e = .returned v ∧ ownB w' w.heap.size v bs ∧ Below w.heap.size w w' := by
  go_enter Try.func8, Try.ntmps8
  go_wp2_with (at_builtin; go_loud (refine wpList_appendB rfl (.tmp 3) (.tmp 4) rfl w.heap.size _ [] rfl (own_lit w [] (by simp)) w.heap.size n c A bs rfl (Rd.alloc (Rd.here h) (Nat.le_refl _) _) (by simp; omega) (by simp) ?_); intro v1 w1 hown hg hb hat)
  go_ret
  exact ⟨_, rfl, by simpa using hown, ((Below.refl _ _).alloc (Nat.le_refl _) _).trans hb⟩

/-- Bytes: are two lists of bytes alike? -/
theorem bytes_any (B n c B' n' c' : Nat) (A A' : Option Addr) (xs ys : List UInt8) (w : World) (h : RdB w B A n xs) (h' : RdB w B' A' n' ys) :
    Calls Try.prog 11 #[.slice A n c, .slice A' n' c'] w fun e w' => e = .returned (.bool (xs == ys)) ∧ w = w' := by
  have k1 := run_strB h (c := c)
  have k2 := run_strB h' (c := c')
  go_enter Try.func11, Try.ntmps11
  go_wp2_with fail
  go_ret
  exact ⟨rfl, rfl⟩
end Go.Proofs.Ytfafijhmjnkjeaa

/- huff: Kraft, the program's and the document's. -/
namespace Go.Proofs.Ytfafijhmjnkjeaa
set_option linter.all false
open Go.RowKit

def krN (ls : List Int) : Nat := (ls.map fun x => if 0 < x then 2 ^ (15 - x.toNat) else 0).sum
def badL (ls : List Int) : Bool := ls.any fun x => decide (x < 0) || decide (15 < x)
def krE (ls : List Int) : Int := if 300 < ls.length ∨ badL ls = true then 1 else 0
def krV (ls : List Int) : Int := if 300 < ls.length ∨ badL ls = true then 0 else krN ls
theorem krN_snoc {ls : List Int} {k : Nat} {x : Int} (h : ls[k]? = some x) : krN (ls.take (k + 1)) = krN (ls.take k) + if 0 < x then 2 ^ (15 - x.toNat) else 0 := by
  obtain ⟨hk, rfl⟩ := List.getElem?_eq_some_iff.1 h
  rw [List.take_succ_eq_append_getElem hk]
  unfold krN
  rw [List.map_append, List.sum_append]
  simp
theorem badL_snoc {ls : List Int} {k : Nat} {x : Int} (h : ls[k]? = some x) : badL (ls.take (k + 1)) = (badL (ls.take k) || (decide (x < 0) || decide (15 < x))) := by
  obtain ⟨hk, rfl⟩ := List.getElem?_eq_some_iff.1 h
  rw [List.take_succ_eq_append_getElem hk]
  unfold badL
  rw [List.any_append]
  simp
theorem badL_of {ls : List Int} {k : Nat} {x : Int} (h : ls[k]? = some x) (hb : x < 0 ∨ 15 < x) : badL ls = true := by
  unfold badL
  rw [List.any_eq_true]
  exact ⟨x, List.mem_of_getElem? h, by simpa using hb⟩
theorem krN_le (ls : List Int) : krN ls ≤ ls.length * 32768 := by
  unfold krN
  induction ls with
  | nil => simp
  | cons x r ih =>
    simp only [List.map_cons, List.sum_cons, List.length_cons]
    have : (if 0 < x then 2 ^ (15 - x.toNat) else 0) ≤ 32768 := by
      split
      · exact Nat.le_trans (Nat.pow_le_pow_right (by decide) (Nat.sub_le 15 _)) (by decide)
      · omega
    omega
theorem shr15 (t : Nat) (h1 : 1 ≤ t) (h2 : t ≤ 15) : (32768 : Int) / 2 ^ t = ((2 ^ (15 - t) : Nat) : Int) ∧ 2 ^ (15 - t) ≤ 32768 := by
  have : ∀ t, t ≤ 15 → (32768 : Int) / 2 ^ t = ((2 ^ (15 - t) : Nat) : Int) ∧ 2 ^ (15 - t) ≤ 32768 := by decide
  exact this t h2

theorem kr_wrap (q t : Nat) (hq : q ≤ 300 * 32768) (h : 2 ^ (15 - t) ≤ 32768) : wrap64 ((q : Int) + 2 ^ (15 - t)) = ((q + 2 ^ (15 - t) : Nat) : Int) := by
  rw [show ((2 : Int) ^ (15 - t)) = ((2 ^ (15 - t) : Nat) : Int) by push_cast; rfl]
  generalize 2 ^ (15 - t) = u at *
  rw [wrap64_id _ (by omega) (by omega)]
  omega

theorem kr_wrap5 (q t : Nat) (hq : q ≤ 300 * 32768) (h : 2 ^ (15 - t) ≤ 32768) : wrap64 ((q : Int) + wrap64 (2 ^ (15 - t))) = ((q + 2 ^ (15 - t) : Nat) : Int) := by
  have e : wrap64 ((2 : Int) ^ (15 - t)) = 2 ^ (15 - t) := by
    rw [show ((2 : Int) ^ (15 - t)) = ((2 ^ (15 - t) : Nat) : Int) by push_cast; rfl]
    generalize 2 ^ (15 - t) = u at *
    exact wrap64_id _ (by omega) (by omega)
  rw [e]
  exact kr_wrap q t hq h

set_option maxRecDepth 100000 in
set_option maxHeartbeats 1600000 in
theorem kraft_any (B n c : Nat) (A : Option Addr) (ls : List Int) (w : World) (h : RdI w B A n ls) (hn : n ≤ 1099511627776) :
    Calls Try.prog 93 #[.slice A n c] w fun e w' => e = .returned (.tuple #[.int .i64 (krV ls), .int .i64 (krE ls)]) ∧ w = w' := by
  have hl := h.len
  by_cases hgood : n ≤ 300
  · have H := Lib.hid h
    have HL := Lib.hid hl
    clear h hl
    go_enter Try.func93, Try.ntmps93
    go_wp2
    go_loop [12, 4] (fun i p => ∃ k : Nat, k ≤ n ∧ i = .int .i64 k ∧ p = .int .i64 (krN (ls.take k) : Nat) ∧ Hid (badL (ls.take k) = false)) (fun i _ => n - (intOf i).toNat)
    case atStart => exact ⟨0, Nat.zero_le _, rfl, rfl, rfl⟩
    case round =>
      obtain ⟨k, hk, rfl, rfl, HB⟩ := hrel
      have pl : krN (ls.take k) ≤ 300 * 32768 := Nat.le_trans (krN_le _) (Nat.mul_le_mul_right _ (by simp; omega))
      by_cases hlt : k < n
      · obtain ⟨b, o, x, rfl, hb, HX, e1⟩ := H.out.one hlt
        have HP := Lib.hid (krN_snoc HX.out)
        have HQ := Lib.hid (badL_snoc HX.out)
        by_cases hbad : x < 0 ∨ 15 < x
        · have HT : Hid (krV ls = 0 ∧ krE ls = 1) := (show _ ∧ _ by have := badL_of HX.out hbad; unfold krV krE; rw [if_pos (.inr this), if_pos (.inr this)]; exact ⟨rfl, rfl⟩)
          rcases hbad with hx | hx
          · go_wp2
            go_ret2
            exact ⟨ret_tup2 (by rw [HT.out.1]; rfl) (by rw [HT.out.2]; rfl), rfl⟩
          · have hx' : ¬ x < 0 := by omega
            go_wp2
            go_ret2
            exact ⟨ret_tup2 (by rw [HT.out.1]; rfl) (by rw [HT.out.2]; rfl), rfl⟩
        · have hx1 : 0 ≤ x := by omega
          have hx2 : x ≤ 15 := by omega
          have HB2 : Hid (badL (ls.take (k + 1)) = false) := (show _ = _ by rw [HQ.out, HB.out, decide_eq_false (show ¬ x < 0 by omega), decide_eq_false (show ¬ 15 < x by omega)]; rfl)
          clear hbad
          by_cases hp : 0 < x
          · obtain ⟨t, rfl⟩ := Int.eq_ofNat_of_zero_le hx1
            have HP2 : Hid (krN (ls.take (k + 1)) = krN (ls.take k) + 2 ^ (15 - t)) := (show _ = _ by rw [HP.out, if_pos hp]; simp)
            obtain ⟨hs, hs2⟩ := shr15 t (by omega) (by omega)
            generalize krN (ls.take k) = q at *
            have HW := Lib.hid (kr_wrap q t (by omega) hs2)
            clear hs2
            go_wp2
            go_round
            case rel => exact ⟨k + 1, by omega, by go_num, by rw [HP2.out, HW.out], HB2⟩
            case measure => simp [intOf]; omega
          · have HP2 : Hid (krN (ls.take (k + 1)) = krN (ls.take k)) := (show _ = _ by rw [HP.out, if_neg hp]; rfl)
            generalize krN (ls.take k) = q at *
            go_wp2
            go_round
            case rel => exact ⟨k + 1, by omega, by go_num, by rw [HP2.out], HB2⟩
            case measure => simp [intOf]; omega
      · obtain rfl : k = n := by omega
        have HT : Hid (krV ls = krN (ls.take k) ∧ krE ls = 0) := (show _ ∧ _ by
          have e : ls.take k = ls := List.take_of_length_le (by rw [HL.out]; exact Nat.le_refl _)
          have hb := HB.out
          rw [e] at hb ⊢
          have : ¬ (300 < ls.length ∨ badL ls = true) := by
            rw [hb, HL.out]
            rintro (h | h)
            · omega
            · cases h
          unfold krV krE
          rw [if_neg this, if_neg this]
          exact ⟨rfl, rfl⟩)
        generalize krN (ls.take k) = q at *
        go_wp2
        go_ret2
        exact ⟨ret_tup2 (by rw [HT.out.1]; rfl) (by rw [HT.out.2]; rfl), rfl⟩
  · have HT : Hid (krV ls = 0 ∧ krE ls = 1) := (show _ ∧ _ by unfold krV krE; rw [if_pos (.inl (by omega)), if_pos (.inl (by omega))]; exact ⟨rfl, rfl⟩)
    clear h hl
    go_enter Try.func93, Try.ntmps93
    go_wp2
    go_ret2
    exact ⟨ret_tup2 (by rw [HT.out.1]; rfl) (by rw [HT.out.2]; rfl), rfl⟩

set_option maxRecDepth 100000 in
set_option maxHeartbeats 1600000 in
theorem kraft5_any (B n c : Nat) (A : Option Addr) (ls : List Int) (w : World) (h : RdI w B A n ls) (hn : n ≤ 1099511627776) :
    Calls Try.prog 37 #[.slice A n c] w fun e w' => e = .returned (.tuple #[.int .i64 (krV ls), .int .i64 (krE ls)]) ∧ w = w' := by
  have hl := h.len
  by_cases hgood : n ≤ 300
  · have H := Lib.hid h
    have HL := Lib.hid hl
    clear h hl
    go_enter Try.func37, Try.ntmps37
    go_wp2
    go_loop [5, 4] (fun i p => ∃ k : Nat, k ≤ n ∧ i = .int .i64 k ∧ p = .int .i64 (krN (ls.take k) : Nat) ∧ Hid (badL (ls.take k) = false)) (fun i _ => n - (intOf i).toNat)
    case atStart => exact ⟨0, Nat.zero_le _, rfl, rfl, rfl⟩
    case round =>
      obtain ⟨k, hk, rfl, rfl, HB⟩ := hrel
      have pl : krN (ls.take k) ≤ 300 * 32768 := Nat.le_trans (krN_le _) (Nat.mul_le_mul_right _ (by simp; omega))
      by_cases hlt : k < n
      · obtain ⟨b, o, x, rfl, hb, HX, e1⟩ := H.out.one hlt
        have HP := Lib.hid (krN_snoc HX.out)
        have HQ := Lib.hid (badL_snoc HX.out)
        by_cases hbad : x < 0 ∨ 15 < x
        · have HT : Hid (krV ls = 0 ∧ krE ls = 1) := (show _ ∧ _ by have := badL_of HX.out hbad; unfold krV krE; rw [if_pos (.inr this), if_pos (.inr this)]; exact ⟨rfl, rfl⟩)
          rcases hbad with hx | hx
          · go_wp2
            go_ret2
            exact ⟨ret_tup2 (by rw [HT.out.1]; rfl) (by rw [HT.out.2]; rfl), rfl⟩
          · have hx' : ¬ x < 0 := by omega
            go_wp2
            go_ret2
            exact ⟨ret_tup2 (by rw [HT.out.1]; rfl) (by rw [HT.out.2]; rfl), rfl⟩
        · have hx1 : 0 ≤ x := by omega
          have hx2 : x ≤ 15 := by omega
          have HB2 : Hid (badL (ls.take (k + 1)) = false) := (show _ = _ by rw [HQ.out, HB.out, decide_eq_false (show ¬ x < 0 by omega), decide_eq_false (show ¬ 15 < x by omega)]; rfl)
          clear hbad
          by_cases hp : 0 < x
          · obtain ⟨t, rfl⟩ := Int.eq_ofNat_of_zero_le hx1
            have HP2 : Hid (krN (ls.take (k + 1)) = krN (ls.take k) + 2 ^ (15 - t)) := (show _ = _ by rw [HP.out, if_pos hp]; simp)
            obtain ⟨hs, hs2⟩ := shr15 t (by omega) (by omega)
            generalize krN (ls.take k) = q at *
            have HW := Lib.hid (kr_wrap5 q t (by omega) hs2)
            clear hs2
            go_wp2
            go_round
            case rel => exact ⟨k + 1, by omega, by go_num, by rw [HP2.out, HW.out], HB2⟩
            case measure => simp [intOf]; omega
          · have HP2 : Hid (krN (ls.take (k + 1)) = krN (ls.take k)) := (show _ = _ by rw [HP.out, if_neg hp]; rfl)
            generalize krN (ls.take k) = q at *
            go_wp2
            go_round
            case rel => exact ⟨k + 1, by omega, by go_num, by rw [HP2.out], HB2⟩
            case measure => simp [intOf]; omega
      · obtain rfl : k = n := by omega
        have HT : Hid (krV ls = krN (ls.take k) ∧ krE ls = 0) := (show _ ∧ _ by
          have e : ls.take k = ls := List.take_of_length_le (by rw [HL.out]; exact Nat.le_refl _)
          have hb := HB.out
          rw [e] at hb ⊢
          have : ¬ (300 < ls.length ∨ badL ls = true) := by
            rw [hb, HL.out]
            rintro (h | h)
            · omega
            · cases h
          unfold krV krE
          rw [if_neg this, if_neg this]
          exact ⟨rfl, rfl⟩)
        generalize krN (ls.take k) = q at *
        go_wp2
        go_ret2
        exact ⟨ret_tup2 (by rw [HT.out.1]; rfl) (by rw [HT.out.2]; rfl), rfl⟩
  · have HT : Hid (krV ls = 0 ∧ krE ls = 1) := (show _ ∧ _ by unfold krV krE; rw [if_pos (.inl (by omega)), if_pos (.inl (by omega))]; exact ⟨rfl, rfl⟩)
    clear h hl
    go_enter Try.func37, Try.ntmps37
    go_wp2
    go_ret2
    exact ⟨ret_tup2 (by rw [HT.out.1]; rfl) (by rw [HT.out.2]; rfl), rfl⟩
end Go.Proofs.Ytfafijhmjnkjeaa

/- huff: the first codes of lengths, plainly. -/
namespace Go.Proofs.Ytfafijhmjnkjeaa
set_option linter.all false

/-- How many lengths are n. -/
def cnt (ls : List Int) (n : Nat) : Nat := ls.count (n : Int)
def cz (ls : List Int) : Nat → Nat
  | 0 => 0
  | n + 1 => cnt ls (n + 1)
/-- The first code of a length. -/
def fst (ls : List Int) : Nat → Nat
  | 0 => 0
  | n + 1 => 2 * (fst ls n + cz ls n)
/-- How much of all codes lengths up to n take. -/
def upto (ls : List Int) : Nat → Nat
  | 0 => 0
  | n + 1 => upto ls n + cnt ls (n + 1) * 2 ^ (15 - (n + 1))
theorem upto_cons (x : Int) (r : List Int) (n : Nat) : upto (x :: r) n = upto r n + if 1 ≤ x ∧ x ≤ n then 2 ^ (15 - x.toNat) else 0 := by
  induction n with
  | zero =>
    rw [if_neg (by omega)]
    rfl
  | succ n ih =>
    rw [upto, upto, ih]
    clear ih
    unfold cnt
    rw [List.count_cons]
    generalize upto r n = a
    generalize r.count ((n + 1 : Nat) : Int) = c
    by_cases h : x = ((n + 1 : Nat) : Int)
    · subst h
      rw [if_neg (show ¬ (1 ≤ ((n + 1 : Nat) : Int) ∧ ((n + 1 : Nat) : Int) ≤ n) by omega), if_pos (show 1 ≤ ((n + 1 : Nat) : Int) ∧ ((n + 1 : Nat) : Int) ≤ ((n + 1 : Nat) : Int) by omega), if_pos (by simp), Nat.add_mul, Int.toNat_natCast]
      omega
    · have hb : (x == ((n + 1 : Nat) : Int)) = false := beq_eq_false_iff_ne.2 h
      rw [hb, if_neg (show ¬ (false = true) by decide), Nat.add_zero]
      by_cases h1 : 1 ≤ x ∧ x ≤ n
      · rw [if_pos h1, if_pos (show 1 ≤ x ∧ x ≤ ((n + 1 : Nat) : Int) by omega)]
        omega
      · rw [if_neg h1, if_neg (show ¬ (1 ≤ x ∧ x ≤ ((n + 1 : Nat) : Int)) by omega)]
        omega
theorem upto_all (ls : List Int) (h : badL ls = false) : upto ls 15 = krN ls := by
  induction ls with
  | nil => rfl
  | cons x r ih =>
    unfold badL at h ih
    rw [List.any_cons, Bool.or_eq_false_iff] at h
    simp only [Bool.or_eq_false_iff, decide_eq_false_iff_not] at h
    rw [upto_cons, ih h.2]
    unfold krN
    rw [List.map_cons, List.sum_cons]
    by_cases hx : 0 < x
    · rw [if_pos (show 1 ≤ x ∧ x ≤ ((15 : Nat) : Int) by omega), if_pos hx]; exact Nat.add_comm _ _
    · rw [if_neg (show ¬ (1 ≤ x ∧ x ≤ ((15 : Nat) : Int)) by omega), if_neg hx]; exact Nat.add_comm _ _
theorem upto_mono (ls : List Int) {m n : Nat} (h : m ≤ n) : upto ls m ≤ upto ls n := by
  induction h with
  | refl => exact Nat.le_refl _
  | step _ ih => rw [upto]; omega
set_option maxRecDepth 10000 in
theorem fst_upto (ls : List Int) : ∀ n, n ≤ 14 → fst ls (n + 1) * 2 ^ (14 - n) = upto ls n := by
  intro n
  induction n with
  | zero => intro _; simp [fst, cz, upto]
  | succ n ih =>
    intro hn
    rw [upto, ← ih (by omega), fst, cz]
    have e : 14 - n = (14 - (n + 1)) + 1 := by omega
    have e2 : 15 - (n + 1) = 14 - n := by omega
    rw [e2, e, Nat.pow_succ]
    generalize 2 ^ (14 - (n + 1)) = u
    generalize fst ls (n + 1) = f
    generalize cnt ls (n + 1) = c
    rw [Nat.mul_comm u 2, ← Nat.mul_assoc, ← Nat.mul_assoc, ← Nat.add_mul]
    congr 1
    omega
theorem fst_all (ls : List Int) (n : Nat) (hn : n ≤ 15) : (fst ls n + cz ls n) * 2 ^ (15 - n) = upto ls n := by
  cases n with
  | zero => simp [fst, cz, upto]
  | succ n =>
    have := fst_upto ls n (by omega)
    rw [upto, ← this, cz, Nat.add_mul, show 15 - (n + 1) = 14 - n by omega]
theorem fst_bound (ls : List Int) (h : badL ls = false) (hk : krN ls ≤ 32768) (n : Nat) (hn : n ≤ 15) : (fst ls n + cz ls n) * 2 ^ (15 - n) ≤ 32768 := by
  rw [fst_all ls n hn]
  exact Nat.le_trans (upto_mono ls hn) (by rw [upto_all ls h]; exact hk)
theorem fst_pow (ls : List Int) (h : badL ls = false) (hk : krN ls ≤ 32768) (n : Nat) (hn : n ≤ 15) : fst ls n + cz ls n ≤ 2 ^ n := by
  have h1 := fst_bound ls h hk n hn
  have h2 : (32768 : Nat) = 2 ^ n * 2 ^ (15 - n) := by rw [← Nat.pow_add, show n + (15 - n) = 15 by omega]
  rw [h2] at h1
  exact Nat.le_of_mul_le_mul_right h1 (Nat.two_pow_pos _)
theorem fst_small (ls : List Int) (h : badL ls = false) (hk : krN ls ≤ 32768) (n : Nat) (hn : n ≤ 15) : fst ls n + cz ls n ≤ 32768 :=
  Nat.le_trans (fst_pow ls h hk n hn) (Nat.pow_le_pow_right (by decide) hn)
/-- The codes of lengths: the i-th one. -/
def codeAt (ls : List Int) (i : Nat) : Nat × Int := if 0 < ls.getD i 0 then (fst ls (ls.getD i 0).toNat + cnt (ls.take i) (ls.getD i 0).toNat, ls.getD i 0) else (0, 0)
def codesL (ls : List Int) : List (Nat × Int) := (List.range ls.length).map (codeAt ls)
end Go.Proofs.Ytfafijhmjnkjeaa
