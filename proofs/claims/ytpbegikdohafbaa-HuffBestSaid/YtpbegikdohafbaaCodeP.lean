/- huff: the first codes of lengths, plainly. -/
import Derived.Test.YtpbegikdohafbaaKraft
namespace Go.Proofs.Ytpbegikdohafbaa
set_option linter.all false

/-- How many lengths are n. -/
def cnt (ls : List Int) (n : Nat) : Nat := ls.count (n : Int)
def cz (ls : List Int) : Nat → Nat
  | 0 => 0
  | n + 1 => cnt ls (n + 1)
/-- The first code of a length. -/
def fst (ls : List Int) : Nat → Nat
  | 0 => 0
  | n + 1 => 2 * (fst ls n + cz ls n)
/-- How much of all codes lengths up to n take. -/
def upto (ls : List Int) : Nat → Nat
  | 0 => 0
  | n + 1 => upto ls n + cnt ls (n + 1) * 2 ^ (15 - (n + 1))
theorem upto_cons (x : Int) (r : List Int) (n : Nat) : upto (x :: r) n = upto r n + if 1 ≤ x ∧ x ≤ n then 2 ^ (15 - x.toNat) else 0 := by
  induction n with
  | zero =>
    rw [if_neg (by omega)]
    rfl
  | succ n ih =>
    rw [upto, upto, ih]
    clear ih
    unfold cnt
    rw [List.count_cons]
    generalize upto r n = a
    generalize r.count ((n + 1 : Nat) : Int) = c
    by_cases h : x = ((n + 1 : Nat) : Int)
    · subst h
      rw [if_neg (show ¬ (1 ≤ ((n + 1 : Nat) : Int) ∧ ((n + 1 : Nat) : Int) ≤ n) by omega), if_pos (show 1 ≤ ((n + 1 : Nat) : Int) ∧ ((n + 1 : Nat) : Int) ≤ ((n + 1 : Nat) : Int) by omega), if_pos (by simp), Nat.add_mul, Int.toNat_natCast]
      omega
    · have hb : (x == ((n + 1 : Nat) : Int)) = false := beq_eq_false_iff_ne.2 h
      rw [hb, if_neg (show ¬ (false = true) by decide), Nat.add_zero]
      by_cases h1 : 1 ≤ x ∧ x ≤ n
      · rw [if_pos h1, if_pos (show 1 ≤ x ∧ x ≤ ((n + 1 : Nat) : Int) by omega)]
        omega
      · rw [if_neg h1, if_neg (show ¬ (1 ≤ x ∧ x ≤ ((n + 1 : Nat) : Int)) by omega)]
        omega
theorem upto_all (ls : List Int) (h : badL ls = false) : upto ls 15 = krN ls := by
  induction ls with
  | nil => rfl
  | cons x r ih =>
    unfold badL at h ih
    rw [List.any_cons, Bool.or_eq_false_iff] at h
    simp only [Bool.or_eq_false_iff, decide_eq_false_iff_not] at h
    rw [upto_cons, ih h.2]
    unfold krN
    rw [List.map_cons, List.sum_cons]
    by_cases hx : 0 < x
    · rw [if_pos (show 1 ≤ x ∧ x ≤ ((15 : Nat) : Int) by omega), if_pos hx]; exact Nat.add_comm _ _
    · rw [if_neg (show ¬ (1 ≤ x ∧ x ≤ ((15 : Nat) : Int)) by omega), if_neg hx]; exact Nat.add_comm _ _
theorem upto_mono (ls : List Int) {m n : Nat} (h : m ≤ n) : upto ls m ≤ upto ls n := by
  induction h with
  | refl => exact Nat.le_refl _
  | step _ ih => rw [upto]; omega
set_option maxRecDepth 10000 in
theorem fst_upto (ls : List Int) : ∀ n, n ≤ 14 → fst ls (n + 1) * 2 ^ (14 - n) = upto ls n := by
  intro n
  induction n with
  | zero => intro _; simp [fst, cz, upto]
  | succ n ih =>
    intro hn
    rw [upto, ← ih (by omega), fst, cz]
    have e : 14 - n = (14 - (n + 1)) + 1 := by omega
    have e2 : 15 - (n + 1) = 14 - n := by omega
    rw [e2, e, Nat.pow_succ]
    generalize 2 ^ (14 - (n + 1)) = u
    generalize fst ls (n + 1) = f
    generalize cnt ls (n + 1) = c
    rw [Nat.mul_comm u 2, ← Nat.mul_assoc, ← Nat.mul_assoc, ← Nat.add_mul]
    congr 1
    omega
theorem fst_all (ls : List Int) (n : Nat) (hn : n ≤ 15) : (fst ls n + cz ls n) * 2 ^ (15 - n) = upto ls n := by
  cases n with
  | zero => simp [fst, cz, upto]
  | succ n =>
    have := fst_upto ls n (by omega)
    rw [upto, ← this, cz, Nat.add_mul, show 15 - (n + 1) = 14 - n by omega]
theorem fst_bound (ls : List Int) (h : badL ls = false) (hk : krN ls ≤ 32768) (n : Nat) (hn : n ≤ 15) : (fst ls n + cz ls n) * 2 ^ (15 - n) ≤ 32768 := by
  rw [fst_all ls n hn]
  exact Nat.le_trans (upto_mono ls hn) (by rw [upto_all ls h]; exact hk)
theorem fst_pow (ls : List Int) (h : badL ls = false) (hk : krN ls ≤ 32768) (n : Nat) (hn : n ≤ 15) : fst ls n + cz ls n ≤ 2 ^ n := by
  have h1 := fst_bound ls h hk n hn
  have h2 : (32768 : Nat) = 2 ^ n * 2 ^ (15 - n) := by rw [← Nat.pow_add, show n + (15 - n) = 15 by omega]
  rw [h2] at h1
  exact Nat.le_of_mul_le_mul_right h1 (Nat.two_pow_pos _)
theorem fst_small (ls : List Int) (h : badL ls = false) (hk : krN ls ≤ 32768) (n : Nat) (hn : n ≤ 15) : fst ls n + cz ls n ≤ 32768 :=
  Nat.le_trans (fst_pow ls h hk n hn) (Nat.pow_le_pow_right (by decide) hn)
/-- The codes of lengths: the i-th one. -/
def codeAt (ls : List Int) (i : Nat) : Nat × Int := if 0 < ls.getD i 0 then (fst ls (ls.getD i 0).toNat + cnt (ls.take i) (ls.getD i 0).toNat, ls.getD i 0) else (0, 0)
def codesL (ls : List Int) : List (Nat × Int) := (List.range ls.length).map (codeAt ls)
end Go.Proofs.Ytpbegikdohafbaa
