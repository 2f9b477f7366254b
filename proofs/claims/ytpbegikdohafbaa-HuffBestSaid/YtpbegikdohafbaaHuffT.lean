/- huff: the lengths that weights have fill their code just. -/
import Derived.Test.YtpbegikdohafbaaHuffS
namespace Go.Proofs.Ytpbegikdohafbaa
set_option linter.all false

theorem lnat_one {ws : List Int} {m i : Nat} (h : (leaves ws).length = 1) (h0 : 0 < wOf ws i) (hi : i < ws.length) : lnat ws m i = 1 := by
  unfold lnat
  rw [if_pos h]
  obtain ⟨s, hs, e⟩ := leaf_at (List.getElem?_eq_getElem hi) (by rwa [wOf_get (List.getElem?_eq_getElem hi)] at h0)
  have hm : Mem.leaf ws[i] i ∈ leaves ws := stab_mem.1 (e ▸ List.getElem_mem hs)
  obtain ⟨t, ht⟩ := List.length_eq_one_iff.1 h
  rw [ht] at hm ⊢
  have : Mem.leaf ws[i] i = t := by simpa using hm
  rw [← this]
  simp [Mem.items]
theorem lnat_at {ws : List Int} {m i s : Nat} (hs : s < (firstOf ws).length) {x : Int} (e : (firstOf ws)[s] = .leaf x i) (h : ¬ (leaves ws).length = 1) : lnat ws m i = cn (firstOf ws) (m - 1) (2 * (leaves ws).length - 2) (firstOf ws)[s].pl := by
  unfold lnat
  rw [if_neg h, e]
  rfl
theorem lnat_le {ws : List Int} {m : Nat} (hm : 1 ≤ m) (hq : (leaves ws).length ≤ 2 ^ m) {i : Nat} (hi : i < ws.length) : lnat ws m i ≤ m := by
  by_cases h0 : 0 < wOf ws i
  · by_cases h1 : (leaves ws).length = 1
    · rw [lnat_one h1 h0 hi]; exact hm
    · obtain ⟨s, hs, e⟩ := leaf_at (List.getElem?_eq_getElem hi) (by rwa [wOf_get (List.getElem?_eq_getElem hi)] at h0)
      rw [lnat_at hs e h1]
      have hen := pm_enough (firstOf ws) (m - 1) (by rw [firstOf_len, ← leaves_length, show m - 1 + 1 = m by omega]; exact hq)
      rw [firstOf_len, ← leaves_length] at hen
      have := cn_le (firstOf_ok ws) (m - 1) _ hen s hs
      omega
  · rw [lnat_zero h0]; omega
theorem le_sum_mem {l : List Nat} {x : Nat} (h : x ∈ l) : x ≤ l.sum := by
  induction l with
  | nil => cases h
  | cons y r ih =>
    rw [List.sum_cons]
    rcases List.mem_cons.1 h with rfl | h
    · omega
    · have := ih h; omega
/-- The sum over the items of what their lengths take, and what follows. -/
theorem sum_pos {n : Nat} {f : Nat → Nat} {K : Nat} (h : ((List.range n).map f).sum ≤ K) {s : Nat} (hs : s < n) : f s ≤ K := by
  have : f s ≤ ((List.range n).map f).sum := by
    have hm : f s ∈ (List.range n).map f := List.mem_map_of_mem (List.mem_range.2 hs)
    exact le_sum_mem hm
  omega
theorem sum_sub (n M : Nat) (f : Nat → Nat) (h : ∀ i, i < n → f i ≤ M) : ((List.range n).map fun i => M - f i).sum + ((List.range n).map f).sum = n * M := by
  induction n with
  | zero => simp
  | succ n ih =>
    have := ih (fun i hi => h i (by omega))
    have h2 := h n (by omega)
    simp only [List.range_succ, List.map_append, List.sum_append, List.map_cons, List.map_nil, List.sum_cons, List.sum_nil, Nat.add_mul]
    omega
theorem first_kraft {ws : List Int} {m : Nat} (hm : 1 ≤ m) (hq : (leaves ws).length ≤ 2 ^ m) (h2 : 2 ≤ (leaves ws).length) :
    ((List.range (firstOf ws).length).map fun s => 2 ^ (m - lnat ws m ((firstOf ws).getD s default).pl)).sum = 2 ^ m ∧ ∀ s, s < (firstOf ws).length → lnat ws m ((firstOf ws).getD s default).pl ≤ m := by
  have hen := pm_enough (firstOf ws) (m - 1) (by rw [firstOf_len, ← leaves_length, show m - 1 + 1 = m by omega]; exact hq)
  rw [firstOf_len, ← leaves_length] at hen
  have hk := cn_kraft (firstOf_ok ws) (m - 1) _ hen
  rw [show m - 1 + 1 = m by omega] at hk
  have hle : ∀ s, s < (firstOf ws).length → cn (firstOf ws) (m - 1) (2 * (leaves ws).length - 2) ((firstOf ws).getD s default).pl ≤ m := fun s hs => by
    rw [List.getD_eq_getElem?_getD, List.getElem?_eq_getElem hs, Option.getD_some]
    have := cn_le (firstOf_ok ws) (m - 1) _ hen s hs
    omega
  have he : ∀ i, lnat ws m i = cn (firstOf ws) (m - 1) (2 * (leaves ws).length - 2) i := fun i => by unfold lnat; rw [if_neg (by omega)]
  refine ⟨?_, fun s hs => by rw [he]; exact hle s hs⟩
  have hs := sum_sub (firstOf ws).length (2 ^ m) (fun s => 2 ^ (m - cn (firstOf ws) (m - 1) (2 * (leaves ws).length - 2) ((firstOf ws).getD s default).pl)) (fun s hs => Nat.pow_le_pow_right (by decide) (Nat.sub_le _ _))
  rw [hk] at hs
  have e1 : (List.range (firstOf ws).length).map (fun s => 2 ^ (m - lnat ws m ((firstOf ws).getD s default).pl)) = (List.range (firstOf ws).length).map (fun s => 2 ^ (m - cn (firstOf ws) (m - 1) (2 * (leaves ws).length - 2) ((firstOf ws).getD s default).pl)) := by
    apply List.map_congr_left
    intro s _
    rw [he]
  rw [e1]
  rw [firstOf_len, ← leaves_length] at hs ⊢
  generalize ((List.range (leaves ws).length).map (fun s => 2 ^ (m - cn (firstOf ws) (m - 1) (2 * (leaves ws).length - 2) ((firstOf ws).getD s default).pl))).sum = S at *
  obtain ⟨j, rfl⟩ : ∃ j, m = j + 1 := ⟨m - 1, by omega⟩
  rw [show j + 1 - 1 = j by omega, Nat.pow_succ] at *
  generalize (leaves ws).length = N at *
  generalize 2 ^ j = u at *
  have e2 : (2 * N - 2) * u + u * 2 = N * (u * 2) := by
    obtain ⟨M, rfl⟩ : ∃ M, N = M + 1 := ⟨N - 1, by omega⟩
    rw [show 2 * (M + 1) - 2 = 2 * M by omega, Nat.add_mul, Nat.one_mul, Nat.mul_assoc, Nat.mul_left_comm 2 M u, Nat.mul_comm 2 u]
  omega
theorem lnat_pos {ws : List Int} {m : Nat} (hm : 1 ≤ m) (hq : (leaves ws).length ≤ 2 ^ m) {i : Nat} (hi : i < ws.length) (h0 : 0 < wOf ws i) : 0 < lnat ws m i := by
  by_cases h1 : (leaves ws).length = 1
  · rw [lnat_one h1 h0 hi]; omega
  · obtain ⟨s, hs, e⟩ := leaf_at (List.getElem?_eq_getElem hi) (by rwa [wOf_get (List.getElem?_eq_getElem hi)] at h0)
    have h2 : 2 ≤ (leaves ws).length := by
      rw [firstOf_len, ← leaves_length] at hs
      omega
    obtain ⟨hk, hle⟩ := first_kraft hm hq h2
    apply Classical.byContradiction
    intro hz
    have hz : lnat ws m i = 0 := by omega
    -- another item
    obtain ⟨r, hr, hrs⟩ : ∃ r, r < (firstOf ws).length ∧ r ≠ s := by
      have hl : 2 ≤ (firstOf ws).length := by rw [firstOf_len, ← leaves_length]; exact h2
      by_cases hs0 : s = 0
      · exact ⟨1, by omega, by omega⟩
      · exact ⟨0, by omega, by omega⟩
    have hpl : ((firstOf ws).getD s default).pl = i := by
      rw [List.getD_eq_getElem?_getD, List.getElem?_eq_getElem hs, Option.getD_some, e]
      rfl
    have hsum : ∀ (n : Nat) (f : Nat → Nat), s < n → r < n → f s + f r ≤ ((List.range n).map f).sum := by
      intro n f
      induction n with
      | zero => intro h; omega
      | succ n ih =>
        intro h1 h2
        simp only [List.range_succ, List.map_append, List.sum_append, List.map_cons, List.map_nil, List.sum_cons, List.sum_nil]
        by_cases hsn : s = n
        · subst hsn
          have := sum_pos (f := f) (Nat.le_refl ((List.range s).map f).sum) (s := r) (by omega)
          omega
        · by_cases hrn : r = n
          · subst hrn
            have := sum_pos (f := f) (Nat.le_refl ((List.range r).map f).sum) (s := s) (by omega)
            omega
          · have := ih (by omega) (by omega)
            omega
    have h3 := hsum (firstOf ws).length (fun s => 2 ^ (m - lnat ws m ((firstOf ws).getD s default).pl)) hs hr
    rw [hk] at h3
    rw [hpl, hz, Nat.sub_zero] at h3
    have := Nat.two_pow_pos (m - lnat ws m ((firstOf ws).getD r default).pl)
    omega
theorem lnat_mono {ws : List Int} {m : Nat} (hm : 1 ≤ m) (hq : (leaves ws).length ≤ 2 ^ m) {i k : Nat} (hi : i < ws.length) (hk : k < ws.length) (hw : wOf ws k < wOf ws i) (h0 : 0 < wOf ws k) : lnat ws m i ≤ lnat ws m k := by
  have hi' := List.getElem?_eq_getElem hi
  have hk' := List.getElem?_eq_getElem hk
  by_cases h1 : (leaves ws).length = 1
  · rw [lnat_one h1 (by omega) hi, lnat_one h1 h0 hk]
    exact Nat.le_refl _
  · rw [wOf_get hi', wOf_get hk'] at hw
    rw [wOf_get hk'] at h0
    obtain ⟨s, hs, e⟩ := leaf_at hi' (by omega)
    obtain ⟨r, hr, e'⟩ := leaf_at hk' h0
    rw [lnat_at hs e h1, lnat_at hr e' h1]
    have hrs : r ≤ s := by
      apply Classical.byContradiction
      intro hc
      have := (List.pairwise_iff_getElem.1 (firstOf_ok ws).srt) s r hs hr (by omega)
      rw [e, e'] at this
      have : ws[i] ≤ ws[k] := this
      omega
    have hen := pm_enough (firstOf ws) (m - 1) (by rw [firstOf_len, ← leaves_length, show m - 1 + 1 = m by omega]; exact hq)
    rw [firstOf_len, ← leaves_length] at hen
    exact cn_mono (firstOf_ok ws) (m - 1) _ hen r s hrs hs
theorem krN_range (ls : List Int) : krN ls = ((List.range ls.length).map fun i => if 0 < ls.getD i 0 then 2 ^ (15 - (ls.getD i 0).toNat) else 0).sum := by
  unfold krN
  congr 1
  apply List.ext_getElem?
  intro i
  by_cases hi : i < ls.length
  · simp [hi]
  · simp [hi]
theorem lensOf_len (ws : List Int) (m : Nat) : (lensOf ws m).length = ws.length := by
  unfold lensOf
  split <;> simp [bumps_len]
theorem lensOf_getD (ws : List Int) (m : Nat) {i : Nat} (hi : i < ws.length) : (lensOf ws m).getD i 0 = (lnat ws m i : Int) := by
  rw [List.getD_eq_getElem?_getD, lensOf_get ws m hi]
  rfl
theorem lens_bad {ws : List Int} {m : Nat} (hm : 1 ≤ m) (hm2 : m ≤ 15) (hq : (leaves ws).length ≤ 2 ^ m) : badL (lensOf ws m) = false := by
  unfold badL
  rw [List.any_eq_false]
  intro x hx
  obtain ⟨i, hi, e⟩ := List.getElem_of_mem hx
  rw [lensOf_len] at hi
  have h1 := lensOf_get ws m hi
  rw [List.getElem?_eq_getElem (by rw [lensOf_len]; exact hi), e] at h1
  injection h1 with h1
  have := lnat_le (m := m) hm hq hi
  simp only [Bool.or_eq_true, decide_eq_true_eq]
  omega
theorem lens_kraft {ws : List Int} {m : Nat} (hm : 1 ≤ m) (hm2 : m ≤ 15) (hq : (leaves ws).length ≤ 2 ^ m) :
    krN (lensOf ws m) = if (leaves ws).length = 0 then 0 else if (leaves ws).length = 1 then 16384 else 32768 := by
  have e1 : krN (lensOf ws m) = ((List.range ws.length).map fun i => if 0 < wOf ws i then 2 ^ (15 - lnat ws m i) else 0).sum := by
    rw [krN_range, lensOf_len]
    congr 1
    apply List.map_congr_left
    intro i hi
    rw [List.mem_range] at hi
    rw [lensOf_getD ws m hi]
    by_cases h0 : 0 < wOf ws i
    · have := lnat_pos hm hq hi h0
      rw [if_pos (by omega), if_pos h0]
      simp
    · rw [lnat_zero h0, if_neg (by omega), if_neg h0]
  rw [e1, sum_leaves ws (fun i => 2 ^ (15 - lnat ws m i))]
  rw [sum_perm ((firstOf_perm ws).map _), sum_range (firstOf ws) (fun i => 2 ^ (15 - lnat ws m i))]
  have hl : (firstOf ws).length = (leaves ws).length := by rw [firstOf_len, leaves_length]
  by_cases h0 : (leaves ws).length = 0
  · rw [hl, h0, if_pos rfl]
    rfl
  rw [if_neg h0]
  by_cases h1 : (leaves ws).length = 1
  · rw [if_pos h1, hl, h1]
    obtain ⟨t, ht⟩ := List.length_eq_one_iff.1 (hl.trans h1)
    have hp : lnat ws m t.pl = 1 := by
      have hm2 : t ∈ leaves ws := stab_mem.1 (show t ∈ firstOf ws by rw [ht]; simp)
      obtain ⟨p, hp, rfl, h3⟩ := leaves_mem hm2
      exact lnat_one h1 (show 0 < wOf ws p by rw [wOf_get (List.getElem?_eq_getElem hp)]; exact h3) hp
    show (2 ^ (15 - lnat ws m ((firstOf ws).getD 0 default).pl)) + 0 = _
    rw [ht]
    show (2 ^ (15 - lnat ws m t.pl)) + 0 = _
    rw [hp]
    rfl
  · rw [if_neg h1]
    obtain ⟨hk, hle⟩ := first_kraft hm hq (by omega)
    have e2 : ((List.range (firstOf ws).length).map fun s => 2 ^ (15 - lnat ws m ((firstOf ws).getD s default).pl)) = ((List.range (firstOf ws).length).map fun s => 2 ^ (m - lnat ws m ((firstOf ws).getD s default).pl)).map (2 ^ (15 - m) * ·) := by
      rw [List.map_map]
      apply List.map_congr_left
      intro s hs
      rw [List.mem_range] at hs
      have := hle s hs
      show _ = 2 ^ (15 - m) * 2 ^ _
      rw [← Nat.pow_add]
      congr 1
      omega
    have e3 : ∀ (l : List Nat) (c : Nat), (l.map (c * ·)).sum = c * l.sum := fun l c => by
      induction l with
      | nil => rfl
      | cons x r ih => rw [List.map_cons, List.sum_cons, ih, List.sum_cons, Nat.mul_add]
    rw [e2, e3, hk, ← Nat.pow_add, show 15 - m + m = 15 by omega]
end Go.Proofs.Ytpbegikdohafbaa
