/- join: what differs behind a clean merge: the plain part. -/
import Derived.Test.YtmffmijjdpjaiaaJoinLaw
namespace Go.Proofs.Ytmffmijjdpjaiaa
set_option linter.all false
open Go.RowKit

def marks (n : Nat) (Q : List Int) : List Int := (List.range n).map fun i : Nat => if (i : Int) ∈ Q then 1 else 0
theorem marks_len (n : Nat) (Q : List Int) : (marks n Q).length = n := by simp [marks]
theorem marks_0 (n : Nat) : marks n [] = List.replicate n 0 := by
  apply List.ext_getElem?
  intro i
  unfold marks
  by_cases hi : i < n
  · rw [map_range_get _ _ i hi, List.getElem?_replicate, if_pos hi]; simp
  · rw [List.getElem?_eq_none (by simp; omega), List.getElem?_eq_none (by simp; omega)]
theorem marks_step (n : Nat) (Q : List Int) (k : Nat) : marks n (Q ++ [(k : Int)]) = (marks n Q).set k 1 := by
  unfold marks
  rw [map_range_set n k (fun i : Nat => if (i : Int) ∈ Q then 1 else 0) (fun i : Nat => if (i : Int) ∈ Q ++ [(k : Int)] then 1 else 0) (fun i _ hi => by
    have : ¬ (i : Int) = (k : Int) := by omega
    simp [this])]
  simp
theorem marks_get {n : Nat} {Q : List Int} {i : Nat} (hi : i < n) : (marks n Q)[i]? = some (if (i : Int) ∈ Q then 1 else 0) := map_range_get n _ i hi
def sumI : List Int → Int
  | [] => 0
  | x :: l => x + sumI l
theorem sumI_append (l m : List Int) : sumI (l ++ m) = sumI l + sumI m := by
  induction l with
  | nil => simp [sumI]
  | cons x l ih => simp [sumI, ih]; omega
theorem sumI_take {l : List Int} {k : Nat} {x : Int} (h : l[k]? = some x) : sumI (l.take (k + 1)) = sumI (l.take k) + x := by
  obtain ⟨h1, h2⟩ := List.getElem?_eq_some_iff.1 h
  rw [List.take_succ_eq_append_getElem h1, sumI_append, h2]
  simp [sumI]
theorem sum_ind (p : Nat → Bool) (l : List Nat) : sumI (l.map fun i => if p i = true then 1 else 0) = ((l.filter p).length : Int) := by
  induction l with
  | nil => rfl
  | cons x l ih =>
    rw [List.map_cons, sumI, ih]
    by_cases h : p x = true
    · rw [if_pos h, List.filter_cons_of_pos h, List.length_cons]; omega
    · rw [if_neg h, List.filter_cons_of_neg h]; omega
theorem marks_rng {n : Nat} {Q : List Int} {k : Nat} {x : Int} (h : (marks n Q)[k]? = some x) : 0 ≤ x ∧ x ≤ 1 := by
  have h1 := (List.getElem?_eq_some_iff.1 h).1
  rw [marks_len] at h1
  rw [marks_get h1] at h
  injection h with h
  rw [← h]
  split <;> omega
theorem sum_rng {n : Nat} {Q : List Int} (k : Nat) (hk : k ≤ n) : 0 ≤ sumI ((marks n Q).take k) ∧ sumI ((marks n Q).take k) ≤ k := by
  induction k with
  | zero => simp [sumI]
  | succ k ih =>
    have h : (marks n Q)[k]? = some (if (k : Int) ∈ Q then 1 else 0) := marks_get (by omega)
    rw [sumI_take h]
    have := marks_rng h
    have := ih (by omega)
    omega
theorem mkey_same {K x y : ByteArray} (h : mmask K x y = false) : K = mkey K x y ↔ K = x ∧ K = y := by
  rw [mmask_iff, decide_eq_false_iff_not] at h
  by_cases h1 : x = K
  · subst h1; rw [mkey_base]; simp
  · by_cases h2 : y = K
    · subst h2; rw [mkey_side]; simp
    · by_cases h3 : x = y
      · subst h3
        have : mkey K x x = x := by unfold mkey; rw [if_pos (.inr rfl)]
        rw [this]; simp
      · exact absurd ⟨h1, h2, h3⟩ h
theorem mem_chg {a b : List ByteArray} {n : Nat} {i : Nat} : (i : Int) ∈ chg a b n ↔ i < n ∧ a.getD i .empty ≠ b.getD i .empty := by
  constructor
  · intro h
    obtain ⟨j, e, hj, hne⟩ := chg_mem h
    have : i = j := by omega
    subst this
    exact ⟨hj, hne⟩
  · rintro ⟨h1, h2⟩
    unfold chg
    rw [List.mem_map]
    exact ⟨i, List.mem_filter.2 ⟨List.mem_range.2 h1, by simpa using h2⟩, rfl⟩
theorem clean_at {o a b : List ByteArray} {n : Nat} (hl : a.length = n) (hc : cleanL (upM o a b n) = true) {i : Nat} (hi : i < n) : mmask (o.getD i .empty) (a.getD i .empty) (b.getD i .empty) = false := by
  unfold upM at hc
  rw [clean_map] at hc
  have := hc i (by omega)
  rwa [if_pos hi] at this
theorem upK_getD {o a b : List ByteArray} {n : Nat} (hl : a.length = n) {i : Nat} (hi : i < n) : (upK o a b n).getD i .empty = mkey (o.getD i .empty) (a.getD i .empty) (b.getD i .empty) := by
  unfold upK
  rw [List.getD_eq_getElem?_getD, map_range_get _ _ i (by omega), if_pos hi]
  rfl
theorem chg_clean {o a b : List ByteArray} {n : Nat} (hl : a.length = n) (hc : cleanL (upM o a b n) = true) {i : Nat} (hi : i < n) :
    (i : Int) ∈ chg o (upK o a b n) n ↔ (i : Int) ∈ chg o a n ++ chg o b n := by
  rw [mem_chg, List.mem_append, mem_chg, mem_chg, upK_getD hl hi]
  have := mkey_same (clean_at hl hc hi)
  constructor
  · rintro ⟨-, h⟩
    by_cases h1 : o.getD i .empty = a.getD i .empty
    · exact .inr ⟨hi, fun h2 => h (this.2 ⟨h1, h2⟩)⟩
    · exact .inl ⟨hi, h1⟩
  · intro h
    refine ⟨hi, fun e => ?_⟩
    obtain ⟨e1, e2⟩ := this.1 e
    rcases h with ⟨-, h⟩ | ⟨-, h⟩
    · exact h e1
    · exact h e2
theorem chg_count {o a b : List ByteArray} {n : Nat} (hl : a.length = n) (hc : cleanL (upM o a b n) = true) :
    ((chg o (upK o a b n) n).length : Int) = sumI (marks n (chg o a n ++ chg o b n)) := by
  have e : marks n (chg o a n ++ chg o b n) = (List.range n).map (fun i => if (!decide (o.getD i .empty = (upK o a b n).getD i .empty)) = true then 1 else 0) := by
    unfold marks
    apply List.map_congr_left
    intro i hi
    have h := chg_clean hl hc (List.mem_range.1 hi)
    rw [mem_chg] at h
    by_cases q : (i : Int) ∈ chg o a n ++ chg o b n
    · rw [if_pos q, if_pos (by simpa using (h.2 q).2)]
    · rw [if_neg q, if_neg (fun e => q (h.1 ⟨List.mem_range.1 hi, by simpa using e⟩))]
  rw [e, sum_ind]
  unfold chg
  rw [List.length_map]
theorem chg_marked {o a b : List ByteArray} {n : Nat} (hl : a.length = n) (hc : cleanL (upM o a b n) = true) {k : Nat} {z : Int} (h : (chg o (upK o a b n) n)[k]? = some z) :
    ∃ i : Nat, z = (i : Int) ∧ i < n ∧ (marks n (chg o a n ++ chg o b n))[i]? = some 1 := by
  obtain ⟨h1, h2⟩ := List.getElem?_eq_some_iff.1 h
  have hz : z ∈ chg o (upK o a b n) n := by rw [← h2]; exact List.getElem_mem h1
  clear h h1 h2
  obtain ⟨i, rfl, hi, -⟩ := chg_mem hz
  refine ⟨i, rfl, hi, ?_⟩
  rw [marks_get hi, if_pos ((chg_clean hl hc hi).1 hz)]

/-- What Changed tells, whatever the trees. -/
def chgR (a b : Tr) : List Int := if wrongT [a, b] = 0 then chg a.ts b.ts a.n else []
theorem changed_any (a b : Tr) (B : Nat) (w : World) (ha : a.ok w B) (hb : b.ok w B) (hB1 : B ≤ w.heap.size) :
    Calls Try.prog 14 #[a.s.r a.A a.n a.c, b.s.r b.A b.n b.c] w fun e w' => ∃ A n c, e = .returned (.tuple #[.slice A n c, .int .i64 (wrongT [a, b])]) ∧ n = (chgR a b).length ∧ ownI w' w.heap.size (.slice A n c) (chgR a b) ∧ Below w.heap.size w w' := by
  rcases wrongT_cases [a, b] with h | h
  · have e : chgR a b = chg a.ts b.ts a.n := by unfold chgR; rw [if_pos h]
    rw [e, h]
    refine (changed_ok a b B w ha hb hB1 h).mono ?_
    rintro e w' ⟨v, rfl, ho, hb⟩
    obtain ⟨A, c, rfl, -⟩ := ho.form
    exact ⟨A, _, c, rfl, rfl, ho, hb⟩
  · have e : chgR a b = [] := by unfold chgR; rw [if_neg (by rcases h with h | h <;> rw [h] <;> decide)]
    rw [e]
    refine (changed_no a b B w ha hb hB1 _ rfl h).mono ?_
    rintro e w' ⟨rfl, hb⟩
    exact ⟨_, _, _, rfl, rfl, ownI.nil_ _ _, hb⟩
theorem wrong2_comm (a b : Tr) : wrongT [a, b] = wrongT [b, a] := by
  unfold wrongT
  cases e2 : a.may <;> cases e3 : b.may <;> simp [e2, e3, eq_comm]
theorem chgR_comm (a b : Tr) (ha : a.ts.length = a.n) (hb : b.ts.length = b.n) : chgR a b = chgR b a := by
  unfold chgR
  rw [wrong2_comm a b]
  by_cases h : wrongT [b, a] = 0
  · rw [if_pos h, if_pos h]
    obtain ⟨h1, h2, h3⟩ := wrong2_zero h
    have := may_len2 h1 h2 h3
    rw [show b.n = a.n by omega]
    exact chg_comm _ _ _
  · rw [if_neg h, if_neg h]
theorem chgR_self (a : Tr) : chgR a a = [] := by
  unfold chgR
  split
  · exact chg_self _ _
  · rfl
theorem wrong2_self (a : Tr) : wrongT [a, a] = if a.may then 0 else 4 := by
  unfold wrongT
  cases e : a.may <;> simp [e]
theorem chgR_len (a b : Tr) : (chgR a b).length ≤ a.n := by
  unfold chgR
  split
  · exact chg_len _ _ _
  · simp

end Go.Proofs.Ytmffmijjdpjaiaa
