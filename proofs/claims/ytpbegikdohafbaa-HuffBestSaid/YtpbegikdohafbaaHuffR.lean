/- huff: the lengths of a code by packages, plainly: what they add up to. -/
import Derived.Test.YtpbegikdohafbaaHuffQ
namespace Go.Proofs.Ytpbegikdohafbaa
set_option linter.all false

theorem kids_mem {T : List Mem} {P : Nat} (h : P ∈ (kids T).flatMap Mem.items) : ∃ Y ∈ T, P ∈ Y.items := by
  induction T with
  | nil => simp [kids] at h
  | cons x r ih =>
    cases x with
    | leaf w p =>
      obtain ⟨Y, h1, h2⟩ := ih h
      exact ⟨Y, by simp [h1], h2⟩
    | node a b =>
      rw [kids, List.flatMap_cons, List.flatMap_cons] at h
      rcases List.mem_append.1 h with h | h
      · exact ⟨.node a b, by simp, List.mem_append_left _ h⟩
      · rcases List.mem_append.1 h with h | h
        · exact ⟨.node a b, by simp, List.mem_append_right _ h⟩
        · obtain ⟨Y, h1, h2⟩ := ih h
          exact ⟨Y, by simp [h1], h2⟩
/-- What the items are: leaves, rising, each place once, weights by places. -/
structure Firsts (W : Nat → Int) (first : List Mem) : Prop where
  srt : Srt Mem.w first
  leaf : ∀ x ∈ first, isLeaf x = true
  nodup : (first.map Mem.pl).Nodup
  fits : ∀ x ∈ first, Fits W x
def cn (first : List Mem) (j t : Nat) (P : Nat) : Nat := (((pmL first j).take t).flatMap Mem.items).count P
theorem count_take {l : List Nat} (h : l.Nodup) (p i : Nat) (hi : i < l.length) : (l.take p).count l[i] = if i < p then 1 else 0 := by
  by_cases hp : i < p
  · rw [if_pos hp]
    have hn : (l.take p).Nodup := h.sublist (List.take_sublist _ _)
    have hm : l[i] ∈ l.take p := by
      rw [List.mem_take_iff_getElem]
      exact ⟨i, by omega, rfl⟩
    rw [List.Nodup.count hn, if_pos hm]
  · rw [if_neg hp]
    rw [List.count_eq_zero]
    intro hm
    rw [List.mem_take_iff_getElem] at hm
    obtain ⟨k, hk, e⟩ := hm
    exact (List.pairwise_iff_getElem.1 h) k i (by omega) hi (by omega) e
section
variable {W : Nat → Int} {first : List Mem} (F : Firsts W first)
include F
theorem cn_zero (t i : Nat) (hi : i < first.length) : cn first 0 t first[i].pl = if i < t then 1 else 0 := by
  unfold cn
  rw [items_count]
  obtain ⟨h1, h2⟩ := tops_leaves (a := first.take t) (fun x hx => F.leaf x (List.mem_of_mem_take hx))
  show (tops (first.take t)).count _ + _ = _
  rw [h1]
  show _ + ((kids (first.take t)).flatMap Mem.items).count _ = _
  rw [h2]
  have := count_take F.nodup t i (by simpa using hi)
  rw [List.getElem_map, ← List.map_take] at this
  rw [this]
  simp
theorem cn_succ (j t : Nat) (ht : t ≤ (pmL first (j + 1)).length) : ∃ p q, p + q = t ∧ p ≤ first.length ∧ 2 * q ≤ (pmL first j).length ∧
    (∀ i (hi : i < first.length), cn first (j + 1) t first[i].pl = (if i < p then 1 else 0) + cn first j (2 * q) first[i].pl) ∧ (∀ i (hi : i < first.length), p ≤ i → cn first j (2 * q) first[i].pl = 0) := by
  have hlen : (pmL first (j + 1)).length = first.length + (packs (pmL first j)).length := by rw [pmL, mrgBy_len]
  obtain ⟨p, q, e1, e2, e3, e4, e5, e6⟩ := mrg_take first (packs (pmL first j)) F.srt F.leaf (packs_nodes _) t (by omega)
  have hq : 2 * q ≤ (pmL first j).length := by rw [packs_len] at e3; omega
  have hk : kids ((packs (pmL first j)).take q) = (pmL first j).take (2 * q) := by rw [kids_packs, Nat.min_eq_left e3]
  refine ⟨p, q, e1, e2, hq, fun i hi => ?_, fun i hi hp => ?_⟩
  · unfold cn
    rw [items_count, pmL, e4, e5, hk]
    have := count_take F.nodup p i (by simpa using hi)
    rw [List.getElem_map, ← List.map_take] at this
    rw [this]
  · unfold cn
    rw [← hk, List.count_eq_zero]
    intro hm
    obtain ⟨Y, h1, h2⟩ := kids_mem hm
    have hx : first[i] ∈ first.drop p := by
      rw [List.mem_drop_iff_getElem]
      exact ⟨i - p, by omega, by congr 1; omega⟩
    have hlt := e6 _ hx Y h1
    have hY : Fits W Y := by
      obtain ⟨a, b, rfl, ha, hb⟩ := packs_mem (List.mem_of_mem_take h1)
      exact ⟨pm_fits F.fits j a ha, pm_fits F.fits j b hb⟩
    have hle := hY.le.2 _ h2
    have hfi := F.fits _ (List.getElem_mem hi)
    have hlf := F.leaf _ (List.getElem_mem hi)
    cases hf : first[i] with
    | leaf x p =>
      rw [hf] at hlt hle hfi
      have : x < x := by
        have h5 : Y.w < x := hlt
        have h6 : W p ≤ Y.w := hle
        have h7 : x = W p := hfi.1
        omega
      omega
    | node a b => rw [hf] at hlf; cases hlf
theorem cn_le : ∀ (j t : Nat), t ≤ (pmL first j).length → ∀ i (hi : i < first.length), cn first j t first[i].pl ≤ j + 1 := by
  intro j
  induction j with
  | zero => intro t _ i hi; rw [cn_zero F t i hi]; split <;> omega
  | succ j ih =>
    intro t ht i hi
    obtain ⟨p, q, _, _, hq, hc, _⟩ := cn_succ F j t ht
    rw [hc i hi]
    have := ih (2 * q) hq i hi
    split <;> omega
theorem cn_mono : ∀ (j t : Nat), t ≤ (pmL first j).length → ∀ i k (hik : i ≤ k) (hk : k < first.length), cn first j t first[k].pl ≤ cn first j t (first[i]'(by omega)).pl := by
  intro j
  induction j with
  | zero =>
    intro t _ i k hik hk
    rw [cn_zero F t k hk, cn_zero F t i (by omega)]
    split
    · rw [if_pos (by omega)]; exact Nat.le_refl _
    · omega
  | succ j ih =>
    intro t ht i k hik hk
    obtain ⟨p, q, _, _, hq, hc, _⟩ := cn_succ F j t ht
    rw [hc k hk, hc i (by omega)]
    have := ih (2 * q) hq i k hik hk
    by_cases h1 : k < p
    · rw [if_pos h1, if_pos (by omega)]; omega
    · rw [if_neg h1]; omega
theorem sum_if (n p K : Nat) (hp : p ≤ n) : ((List.range n).map fun i => if i < p then K else 0).sum = p * K := by
  clear F
  induction n with
  | zero =>
    obtain rfl : p = 0 := by omega
    simp
  | succ n ih =>
    rw [List.range_succ, List.map_append, List.sum_append]
    simp only [List.map_cons, List.map_nil, List.sum_cons, List.sum_nil]
    by_cases h : p ≤ n
    · rw [ih h, if_neg (by omega)]; omega
    · obtain rfl : p = n + 1 := by omega
      rw [if_pos (by omega)]
      have e : ((List.range n).map fun i => if i < n + 1 then K else 0) = (List.range n).map fun i => if i < n then K else 0 := by
        apply List.map_congr_left
        intro i hi
        rw [List.mem_range] at hi
        rw [if_pos (by omega), if_pos hi]
      rw [e]
      have e2 : ∀ n : Nat, ((List.range n).map fun i => if i < n then K else 0).sum = n * K := by
        intro n
        have : ((List.range n).map fun i => if i < n then K else 0) = List.replicate n K := by
          apply List.ext_getElem?
          intro i
          by_cases h : i < n
          · simp [h]
          · simp [h]
        rw [this]
        simp
      rw [e2, Nat.add_mul]
      omega
theorem sum_add (n : Nat) (f g : Nat → Nat) : ((List.range n).map fun i => f i + g i).sum = ((List.range n).map f).sum + ((List.range n).map g).sum := by
  clear F
  induction n with
  | zero => rfl
  | succ n ih => simp only [List.range_succ, List.map_append, List.sum_append, ih, List.map_cons, List.map_nil, List.sum_cons, List.sum_nil]; omega
/-- How much of all codes the lengths take. -/
theorem cn_kraft : ∀ (j t : Nat), t ≤ (pmL first j).length → ((List.range first.length).map fun i => 2 ^ (j + 1) - 2 ^ (j + 1 - cn first j t (first.getD i default).pl)).sum = t * 2 ^ j := by
  intro j
  induction j with
  | zero =>
    intro t ht
    have e : ((List.range first.length).map fun i => 2 ^ (0 + 1) - 2 ^ (0 + 1 - cn first 0 t (first.getD i default).pl)) = (List.range first.length).map fun i => if i < t then 1 else 0 := by
      apply List.map_congr_left
      intro i hi
      rw [List.mem_range] at hi
      rw [List.getD_eq_getElem?_getD, List.getElem?_eq_getElem hi, Option.getD_some, cn_zero F t i hi]
      split <;> rfl
    rw [e, sum_if F first.length t 1 ht, Nat.pow_zero]
  | succ j ih =>
    intro t ht
    obtain ⟨p, q, e1, e2, hq, hc, hz⟩ := cn_succ F j t ht
    have e : ((List.range first.length).map fun i => 2 ^ (j + 1 + 1) - 2 ^ (j + 1 + 1 - cn first (j + 1) t (first.getD i default).pl)) = (List.range first.length).map fun i => (if i < p then 2 ^ (j + 1) else 0) + (2 ^ (j + 1) - 2 ^ (j + 1 - cn first j (2 * q) (first.getD i default).pl)) := by
      apply List.map_congr_left
      intro i hi
      rw [List.mem_range] at hi
      rw [List.getD_eq_getElem?_getD, List.getElem?_eq_getElem hi, Option.getD_some, hc i hi]
      have hle := cn_le F j (2 * q) hq i hi
      by_cases hp : i < p
      · rw [if_pos hp, if_pos hp]
        generalize cn first j (2 * q) first[i].pl = c at *
        rw [show j + 1 + 1 - (1 + c) = j + 1 - c by omega, Nat.pow_succ 2 (j + 1)]
        have : 2 ^ (j + 1 - c) ≤ 2 ^ (j + 1) := Nat.pow_le_pow_right (by decide) (by omega)
        omega
      · rw [if_neg hp, if_neg hp, hz i hi (by omega)]
        simp
    rw [e, sum_add F, sum_if F _ _ _ e2, ih (2 * q) hq, Nat.pow_succ, ← e1, Nat.add_mul]
    generalize 2 ^ j = u
    rw [Nat.mul_comm 2 q, Nat.mul_assoc q 2 u, Nat.mul_comm 2 u]
end
end Go.Proofs.Ytpbegikdohafbaa
