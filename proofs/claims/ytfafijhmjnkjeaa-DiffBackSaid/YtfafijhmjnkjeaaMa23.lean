/- Merged: HuffT, Fl13. -/
import Derived.Test.YtfafijhmjnkjeaaMa22
import Derived.Test.YtfafijhmjnkjeaaMa20
import Derived.Test.YtfafijhmjnkjeaaMa21
/- huff: the lengths that weights have fill their code just. -/
namespace Go.Proofs.Ytfafijhmjnkjeaa
set_option linter.all false

theorem lnat_one {ws : List Int} {m i : Nat} (h : (leaves ws).length = 1) (h0 : 0 < wOf ws i) (hi : i < ws.length) : lnat ws m i = 1 := by
  unfold lnat
  rw [if_pos h]
  obtain ⟨s, hs, e⟩ := leaf_at (List.getElem?_eq_getElem hi) (by rwa [wOf_get (List.getElem?_eq_getElem hi)] at h0)
  have hm : Mem.leaf ws[i] i ∈ leaves ws := stab_mem.1 (e ▸ List.getElem_mem hs)
  obtain ⟨t, ht⟩ := List.length_eq_one_iff.1 h
  rw [ht] at hm ⊢
  have : Mem.leaf ws[i] i = t := by simpa using hm
  rw [← this]
  simp [Mem.items]
theorem lnat_at {ws : List Int} {m i s : Nat} (hs : s < (firstOf ws).length) {x : Int} (e : (firstOf ws)[s] = .leaf x i) (h : ¬ (leaves ws).length = 1) : lnat ws m i = cn (firstOf ws) (m - 1) (2 * (leaves ws).length - 2) (firstOf ws)[s].pl := by
  unfold lnat
  rw [if_neg h, e]
  rfl
theorem lnat_le {ws : List Int} {m : Nat} (hm : 1 ≤ m) (hq : (leaves ws).length ≤ 2 ^ m) {i : Nat} (hi : i < ws.length) : lnat ws m i ≤ m := by
  by_cases h0 : 0 < wOf ws i
  · by_cases h1 : (leaves ws).length = 1
    · rw [lnat_one h1 h0 hi]; exact hm
    · obtain ⟨s, hs, e⟩ := leaf_at (List.getElem?_eq_getElem hi) (by rwa [wOf_get (List.getElem?_eq_getElem hi)] at h0)
      rw [lnat_at hs e h1]
      have hen := pm_enough (firstOf ws) (m - 1) (by rw [firstOf_len, ← leaves_length, show m - 1 + 1 = m by omega]; exact hq)
      rw [firstOf_len, ← leaves_length] at hen
      have := cn_le (firstOf_ok ws) (m - 1) _ hen s hs
      omega
  · rw [lnat_zero h0]; omega
theorem le_sum_mem {l : List Nat} {x : Nat} (h : x ∈ l) : x ≤ l.sum := by
  induction l with
  | nil => cases h
  | cons y r ih =>
    rw [List.sum_cons]
    rcases List.mem_cons.1 h with rfl | h
    · omega
    · have := ih h; omega
/-- The sum over the items of what their lengths take, and what follows. -/
theorem sum_pos {n : Nat} {f : Nat → Nat} {K : Nat} (h : ((List.range n).map f).sum ≤ K) {s : Nat} (hs : s < n) : f s ≤ K := by
  have : f s ≤ ((List.range n).map f).sum := by
    have hm : f s ∈ (List.range n).map f := List.mem_map_of_mem (List.mem_range.2 hs)
    exact le_sum_mem hm
  omega
theorem sum_sub (n M : Nat) (f : Nat → Nat) (h : ∀ i, i < n → f i ≤ M) : ((List.range n).map fun i => M - f i).sum + ((List.range n).map f).sum = n * M := by
  induction n with
  | zero => simp
  | succ n ih =>
    have := ih (fun i hi => h i (by omega))
    have h2 := h n (by omega)
    simp only [List.range_succ, List.map_append, List.sum_append, List.map_cons, List.map_nil, List.sum_cons, List.sum_nil, Nat.add_mul]
    omega
theorem first_kraft {ws : List Int} {m : Nat} (hm : 1 ≤ m) (hq : (leaves ws).length ≤ 2 ^ m) (h2 : 2 ≤ (leaves ws).length) :
    ((List.range (firstOf ws).length).map fun s => 2 ^ (m - lnat ws m ((firstOf ws).getD s default).pl)).sum = 2 ^ m ∧ ∀ s, s < (firstOf ws).length → lnat ws m ((firstOf ws).getD s default).pl ≤ m := by
  have hen := pm_enough (firstOf ws) (m - 1) (by rw [firstOf_len, ← leaves_length, show m - 1 + 1 = m by omega]; exact hq)
  rw [firstOf_len, ← leaves_length] at hen
  have hk := cn_kraft (firstOf_ok ws) (m - 1) _ hen
  rw [show m - 1 + 1 = m by omega] at hk
  have hle : ∀ s, s < (firstOf ws).length → cn (firstOf ws) (m - 1) (2 * (leaves ws).length - 2) ((firstOf ws).getD s default).pl ≤ m := fun s hs => by
    rw [List.getD_eq_getElem?_getD, List.getElem?_eq_getElem hs, Option.getD_some]
    have := cn_le (firstOf_ok ws) (m - 1) _ hen s hs
    omega
  have he : ∀ i, lnat ws m i = cn (firstOf ws) (m - 1) (2 * (leaves ws).length - 2) i := fun i => by unfold lnat; rw [if_neg (by omega)]
  refine ⟨?_, fun s hs => by rw [he]; exact hle s hs⟩
  have hs := sum_sub (firstOf ws).length (2 ^ m) (fun s => 2 ^ (m - cn (firstOf ws) (m - 1) (2 * (leaves ws).length - 2) ((firstOf ws).getD s default).pl)) (fun s hs => Nat.pow_le_pow_right (by decide) (Nat.sub_le _ _))
  rw [hk] at hs
  have e1 : (List.range (firstOf ws).length).map (fun s => 2 ^ (m - lnat ws m ((firstOf ws).getD s default).pl)) = (List.range (firstOf ws).length).map (fun s => 2 ^ (m - cn (firstOf ws) (m - 1) (2 * (leaves ws).length - 2) ((firstOf ws).getD s default).pl)) := by
    apply List.map_congr_left
    intro s _
    rw [he]
  rw [e1]
  rw [firstOf_len, ← leaves_length] at hs ⊢
  generalize ((List.range (leaves ws).length).map (fun s => 2 ^ (m - cn (firstOf ws) (m - 1) (2 * (leaves ws).length - 2) ((firstOf ws).getD s default).pl))).sum = S at *
  obtain ⟨j, rfl⟩ : ∃ j, m = j + 1 := ⟨m - 1, by omega⟩
  rw [show j + 1 - 1 = j by omega, Nat.pow_succ] at *
  generalize (leaves ws).length = N at *
  generalize 2 ^ j = u at *
  have e2 : (2 * N - 2) * u + u * 2 = N * (u * 2) := by
    obtain ⟨M, rfl⟩ : ∃ M, N = M + 1 := ⟨N - 1, by omega⟩
    rw [show 2 * (M + 1) - 2 = 2 * M by omega, Nat.add_mul, Nat.one_mul, Nat.mul_assoc, Nat.mul_left_comm 2 M u, Nat.mul_comm 2 u]
  omega
theorem lnat_pos {ws : List Int} {m : Nat} (hm : 1 ≤ m) (hq : (leaves ws).length ≤ 2 ^ m) {i : Nat} (hi : i < ws.length) (h0 : 0 < wOf ws i) : 0 < lnat ws m i := by
  by_cases h1 : (leaves ws).length = 1
  · rw [lnat_one h1 h0 hi]; omega
  · obtain ⟨s, hs, e⟩ := leaf_at (List.getElem?_eq_getElem hi) (by rwa [wOf_get (List.getElem?_eq_getElem hi)] at h0)
    have h2 : 2 ≤ (leaves ws).length := by
      rw [firstOf_len, ← leaves_length] at hs
      omega
    obtain ⟨hk, hle⟩ := first_kraft hm hq h2
    apply Classical.byContradiction
    intro hz
    have hz : lnat ws m i = 0 := by omega
    -- another item
    obtain ⟨r, hr, hrs⟩ : ∃ r, r < (firstOf ws).length ∧ r ≠ s := by
      have hl : 2 ≤ (firstOf ws).length := by rw [firstOf_len, ← leaves_length]; exact h2
      by_cases hs0 : s = 0
      · exact ⟨1, by omega, by omega⟩
      · exact ⟨0, by omega, by omega⟩
    have hpl : ((firstOf ws).getD s default).pl = i := by
      rw [List.getD_eq_getElem?_getD, List.getElem?_eq_getElem hs, Option.getD_some, e]
      rfl
    have hsum : ∀ (n : Nat) (f : Nat → Nat), s < n → r < n → f s + f r ≤ ((List.range n).map f).sum := by
      intro n f
      induction n with
      | zero => intro h; omega
      | succ n ih =>
        intro h1 h2
        simp only [List.range_succ, List.map_append, List.sum_append, List.map_cons, List.map_nil, List.sum_cons, List.sum_nil]
        by_cases hsn : s = n
        · subst hsn
          have := sum_pos (f := f) (Nat.le_refl ((List.range s).map f).sum) (s := r) (by omega)
          omega
        · by_cases hrn : r = n
          · subst hrn
            have := sum_pos (f := f) (Nat.le_refl ((List.range r).map f).sum) (s := s) (by omega)
            omega
          · have := ih (by omega) (by omega)
            omega
    have h3 := hsum (firstOf ws).length (fun s => 2 ^ (m - lnat ws m ((firstOf ws).getD s default).pl)) hs hr
    rw [hk] at h3
    rw [hpl, hz, Nat.sub_zero] at h3
    have := Nat.two_pow_pos (m - lnat ws m ((firstOf ws).getD r default).pl)
    omega
theorem lnat_mono {ws : List Int} {m : Nat} (hm : 1 ≤ m) (hq : (leaves ws).length ≤ 2 ^ m) {i k : Nat} (hi : i < ws.length) (hk : k < ws.length) (hw : wOf ws k < wOf ws i) (h0 : 0 < wOf ws k) : lnat ws m i ≤ lnat ws m k := by
  have hi' := List.getElem?_eq_getElem hi
  have hk' := List.getElem?_eq_getElem hk
  by_cases h1 : (leaves ws).length = 1
  · rw [lnat_one h1 (by omega) hi, lnat_one h1 h0 hk]
    exact Nat.le_refl _
  · rw [wOf_get hi', wOf_get hk'] at hw
    rw [wOf_get hk'] at h0
    obtain ⟨s, hs, e⟩ := leaf_at hi' (by omega)
    obtain ⟨r, hr, e'⟩ := leaf_at hk' h0
    rw [lnat_at hs e h1, lnat_at hr e' h1]
    have hrs : r ≤ s := by
      apply Classical.byContradiction
      intro hc
      have := (List.pairwise_iff_getElem.1 (firstOf_ok ws).srt) s r hs hr (by omega)
      rw [e, e'] at this
      have : ws[i] ≤ ws[k] := this
      omega
    have hen := pm_enough (firstOf ws) (m - 1) (by rw [firstOf_len, ← leaves_length, show m - 1 + 1 = m by omega]; exact hq)
    rw [firstOf_len, ← leaves_length] at hen
    exact cn_mono (firstOf_ok ws) (m - 1) _ hen r s hrs hs
theorem krN_range (ls : List Int) : krN ls = ((List.range ls.length).map fun i => if 0 < ls.getD i 0 then 2 ^ (15 - (ls.getD i 0).toNat) else 0).sum := by
  unfold krN
  congr 1
  apply List.ext_getElem?
  intro i
  by_cases hi : i < ls.length
  · simp [hi]
  · simp [hi]
theorem lensOf_len (ws : List Int) (m : Nat) : (lensOf ws m).length = ws.length := by
  unfold lensOf
  split <;> simp [bumps_len]
theorem lensOf_getD (ws : List Int) (m : Nat) {i : Nat} (hi : i < ws.length) : (lensOf ws m).getD i 0 = (lnat ws m i : Int) := by
  rw [List.getD_eq_getElem?_getD, lensOf_get ws m hi]
  rfl
theorem lens_bad {ws : List Int} {m : Nat} (hm : 1 ≤ m) (hm2 : m ≤ 15) (hq : (leaves ws).length ≤ 2 ^ m) : badL (lensOf ws m) = false := by
  unfold badL
  rw [List.any_eq_false]
  intro x hx
  obtain ⟨i, hi, e⟩ := List.getElem_of_mem hx
  rw [lensOf_len] at hi
  have h1 := lensOf_get ws m hi
  rw [List.getElem?_eq_getElem (by rw [lensOf_len]; exact hi), e] at h1
  injection h1 with h1
  have := lnat_le (m := m) hm hq hi
  simp only [Bool.or_eq_true, decide_eq_true_eq]
  omega
theorem lens_kraft {ws : List Int} {m : Nat} (hm : 1 ≤ m) (hm2 : m ≤ 15) (hq : (leaves ws).length ≤ 2 ^ m) :
    krN (lensOf ws m) = if (leaves ws).length = 0 then 0 else if (leaves ws).length = 1 then 16384 else 32768 := by
  have e1 : krN (lensOf ws m) = ((List.range ws.length).map fun i => if 0 < wOf ws i then 2 ^ (15 - lnat ws m i) else 0).sum := by
    rw [krN_range, lensOf_len]
    congr 1
    apply List.map_congr_left
    intro i hi
    rw [List.mem_range] at hi
    rw [lensOf_getD ws m hi]
    by_cases h0 : 0 < wOf ws i
    · have := lnat_pos hm hq hi h0
      rw [if_pos (by omega), if_pos h0]
      simp
    · rw [lnat_zero h0, if_neg (by omega), if_neg h0]
  rw [e1, sum_leaves ws (fun i => 2 ^ (15 - lnat ws m i))]
  rw [sum_perm ((firstOf_perm ws).map _), sum_range (firstOf ws) (fun i => 2 ^ (15 - lnat ws m i))]
  have hl : (firstOf ws).length = (leaves ws).length := by rw [firstOf_len, leaves_length]
  by_cases h0 : (leaves ws).length = 0
  · rw [hl, h0, if_pos rfl]
    rfl
  rw [if_neg h0]
  by_cases h1 : (leaves ws).length = 1
  · rw [if_pos h1, hl, h1]
    obtain ⟨t, ht⟩ := List.length_eq_one_iff.1 (hl.trans h1)
    have hp : lnat ws m t.pl = 1 := by
      have hm2 : t ∈ leaves ws := stab_mem.1 (show t ∈ firstOf ws by rw [ht]; simp)
      obtain ⟨p, hp, rfl, h3⟩ := leaves_mem hm2
      exact lnat_one h1 (show 0 < wOf ws p by rw [wOf_get (List.getElem?_eq_getElem hp)]; exact h3) hp
    show (2 ^ (15 - lnat ws m ((firstOf ws).getD 0 default).pl)) + 0 = _
    rw [ht]
    show (2 ^ (15 - lnat ws m t.pl)) + 0 = _
    rw [hp]
    rfl
  · rw [if_neg h1]
    obtain ⟨hk, hle⟩ := first_kraft hm hq (by omega)
    have e2 : ((List.range (firstOf ws).length).map fun s => 2 ^ (15 - lnat ws m ((firstOf ws).getD s default).pl)) = ((List.range (firstOf ws).length).map fun s => 2 ^ (m - lnat ws m ((firstOf ws).getD s default).pl)).map (2 ^ (15 - m) * ·) := by
      rw [List.map_map]
      apply List.map_congr_left
      intro s hs
      rw [List.mem_range] at hs
      have := hle s hs
      show _ = 2 ^ (15 - m) * 2 ^ _
      rw [← Nat.pow_add]
      congr 1
      omega
    have e3 : ∀ (l : List Nat) (c : Nat), (l.map (c * ·)).sum = c * l.sum := fun l c => by
      induction l with
      | nil => rfl
      | cons x r ih => rw [List.map_cons, List.sum_cons, ih, List.sum_cons, Nat.mul_add]
    rw [e2, e3, hk, ← Nat.pow_add, show 15 - m + m = 15 by omega]
end Go.Proofs.Ytfafijhmjnkjeaa

/- flate: the lists of lengths in bits, plainly. -/
namespace Go.Proofs.Ytfafijhmjnkjeaa
set_option linter.all false
open Go.RowKit

/-- A sign of a list of lengths. -/
def SgnOK (s : Sgn) : Prop := s.1 < 19 ∧ s.2.1 < 2 ^ s.2.2 ∧ s.2.2 ≤ 7
theorem zTail_ok {n : Nat} (h : ¬ 11 ≤ n) : ∀ s ∈ zTail n, SgnOK s := by
  intro s hs
  unfold zTail at hs
  split at hs
  · rw [List.mem_singleton] at hs
    subst hs
    exact ⟨by show 17 < 19; omega, by show n - 3 < 8; omega, by show 3 ≤ 7; omega⟩
  · rw [List.mem_replicate] at hs
    rw [hs.2]
    exact ⟨by decide, by decide, by decide⟩
theorem zerosF_ok : ∀ f n : Nat, n ≤ f → ∀ s ∈ zerosF f n, SgnOK s
  | 0, n, h => zTail_ok (by omega)
  | f + 1, n, h => by
    by_cases e : 11 ≤ n
    · rw [zerosF_big e]
      intro s hs
      rw [List.mem_cons] at hs
      rcases hs with rfl | hs
      · exact ⟨by show 18 < 19; omega, by show min n 138 - 11 < 128; omega, by show 7 ≤ 7; omega⟩
      · exact zerosF_ok f _ (by omega) s hs
    · rw [zerosF_small e]; exact zTail_ok e
theorem othersF_ok {x : Nat} (hx : x < 19) : ∀ f n : Nat, ∀ s ∈ othersF x f n, SgnOK s
  | 0, n => fun s hs => by
    rw [othersF, List.mem_replicate] at hs
    rw [hs.2]
    exact ⟨hx, by show 0 < 2 ^ 0; decide, by show 0 ≤ 7; decide⟩
  | f + 1, n => by
    by_cases e : 3 ≤ n
    · rw [othersF_big e]
      intro s hs
      rw [List.mem_cons] at hs
      rcases hs with rfl | hs
      · exact ⟨by show 16 < 19; omega, by show min n 6 - 3 < 4; omega, by show 2 ≤ 7; omega⟩
      · exact othersF_ok hx f _ s hs
    · rw [othersF_small e]
      intro s hs
      rw [List.mem_replicate] at hs
      rw [hs.2]
      exact ⟨hx, by show 0 < 2 ^ 0; decide, by show 0 ≤ 7; decide⟩
theorem runsF_ok : ∀ (f : Nat) (l : List Int), (∀ x ∈ l, 0 ≤ x ∧ x ≤ 15) → ∀ s ∈ runsF f l, SgnOK s
  | 0, l, _ => by intro s hs; simp [runsF] at hs
  | f + 1, [], _ => by intro s hs; simp [runsF] at hs
  | f + 1, x :: r, h => by
    intro s hs
    rw [runsF, List.mem_append] at hs
    rcases hs with hs | hs
    · split at hs
      · exact zerosF_ok _ _ (Nat.le_refl _) s hs
      · have := h x (by simp)
        unfold othersP at hs
        rw [List.mem_cons] at hs
        rcases hs with rfl | hs
        · exact ⟨by show x.toNat < 19; omega, by show 0 < 2 ^ 0; decide, by show 0 ≤ 7; decide⟩
        · exact othersF_ok (by omega) _ _ s hs
    · exact runsF_ok f _ (fun y hy => h y (by simp [List.mem_of_mem_drop hy])) s hs
theorem runsF_len : ∀ (f : Nat) (l : List Int), (runsF f l).length ≤ l.length
  | 0, l => by simp [runsF]
  | f + 1, [] => by simp [runsF]
  | f + 1, x :: r => by
    rw [runsF, List.length_append]
    have h1 := runsF_len f (r.drop (same x r))
    have h2 := same_le x r
    rw [List.length_drop] at h1
    rw [List.length_cons]
    split
    · have := zerosP_len (same x r + 1); omega
    · have := othersP_len x.toNat (same x r + 1) (by omega); omega
theorem lensOf_le {ws : List Int} {m : Nat} (hm : 1 ≤ m) (hq : ws.length ≤ 2 ^ m) : ∀ x ∈ lensOf ws m, 0 ≤ x ∧ x ≤ (m : Int) := by
  intro x hx
  obtain ⟨i, hi, rfl⟩ := List.getElem_of_mem hx
  have hi2 : i < ws.length := by rw [lensOf_len] at hi; exact hi
  have h1 := lensOf_get ws m hi2
  rw [List.getElem?_eq_getElem hi] at h1
  injection h1 with h1
  rw [h1]
  have := lnat_le (ws := ws) hm (by rw [leaves_length]; exact Nat.le_trans (List.length_filter_le _ _) hq) hi2
  omega
theorem lens_ok {ws : List Int} {m : Nat} (hm : 1 ≤ m) (hm2 : m ≤ 15) (hq : ws.length ≤ 2 ^ m) (hl : ws.length ≤ 300) : CodesOK (lensOf ws m) := by
  have hq2 : (leaves ws).length ≤ 2 ^ m := by rw [leaves_length]; exact Nat.le_trans (List.length_filter_le _ _) hq
  refine ⟨by rw [lensOf_len]; exact hl, lens_bad hm hm2 hq2, ?_⟩
  rw [lens_kraft hm hm2 hq2]
  split
  · omega
  · split <;> omega
theorem krN_take_le (ls : List Int) (k : Nat) : krN (ls.take k) ≤ krN ls := by
  have e : krN ls = krN (ls.take k) + krN (ls.drop k) := by
    unfold krN
    rw [← List.sum_append, ← List.map_append, List.take_append_drop]
  omega
theorem CodesOK.cut {ls : List Int} (h : CodesOK ls) (least : Nat) : CodesOK (cutL ls least) := by
  unfold cutL
  refine ⟨by rw [List.length_take]; have := h.1; omega, ?_, Nat.le_trans (krN_take_le _ _) h.2.2⟩
  have := h.2.1
  unfold badL at this ⊢
  rw [List.any_eq_false] at this ⊢
  intro x hx
  exact this x (List.mem_of_mem_take hx)
theorem CodesOK.one : CodesOK [1] := ⟨by decide, by decide, by decide⟩
theorem CodesOK.rng {ls : List Int} (h : CodesOK ls) : ∀ x ∈ ls, 0 ≤ x ∧ x ≤ 15 := by
  intro x hx
  obtain ⟨i, hi⟩ := List.getElem?_of_mem hx
  exact good_at h.2.1 hi
theorem dynL_ok (ts : List Tok) : CodesOK (dynL ts) := (lens_ok (by omega) (by omega) (by rw [weighL_len]; decide) (by rw [weighL_len]; omega)).cut _
theorem dynD_ok (ts : List Tok) : CodesOK (dynD ts) := by
  unfold dynD
  split
  · exact CodesOK.one
  · exact (lens_ok (by omega) (by omega) (by rw [weighD_len]; decide) (by rw [weighD_len]; omega)).cut _
theorem dynD_rng (ts : List Tok) : 1 ≤ (dynD ts).length ∧ (dynD ts).length ≤ 30 := by
  unfold dynD
  split
  · exact ⟨Nat.le_refl _, by decide⟩
  · rw [cutL_len, lensOf_len, weighD_len]
    exact ⟨cutK_ge _ _ _ (by omega), cutK_le _ _ _⟩
/-- In which order the lengths of lengths stand. -/
def ordL : List Nat := [16, 17, 18, 0, 8, 7, 9, 6, 10, 5, 11, 4, 12, 3, 13, 2, 14, 1, 15]
def hcK (cl : List Int) : Nat → Nat
  | 0 => 0
  | k + 1 => if 4 < k + 1 ∧ cl.getD (ordL.getD k 0) 0 = 0 then hcK cl k else k + 1
theorem hcK_le (cl : List Int) : ∀ k, hcK cl k ≤ k
  | 0 => Nat.le_refl _
  | k + 1 => by
    have := hcK_le cl k
    unfold hcK
    split <;> omega
theorem hcK_ge (cl : List Int) : ∀ k, 4 ≤ k → 4 ≤ hcK cl k
  | 0, h => h
  | k + 1, h => by
    unfold hcK
    split
    · exact hcK_ge cl k (by omega)
    · exact h
def wgtC (ss : List Sgn) : List Int := bumps (List.replicate 19 0) (ss.map (·.1))
def lensC (ss : List Sgn) : List Int := lensOf (wgtC ss) 7
theorem wgtC_len (ss : List Sgn) : (wgtC ss).length = 19 := by unfold wgtC; rw [bumps_len, List.length_replicate]
theorem wgtC_rng (ss : List Sgn) : ∀ x ∈ wgtC ss, 0 ≤ x ∧ x ≤ 1 + ss.length := by
  intro x hx
  have h0 : ∀ x ∈ (List.replicate 19 (0 : Int)), 0 ≤ x ∧ x ≤ 1 := by
    intro x hx
    rw [List.mem_replicate] at hx
    omega
  have := bumps_rng h0 (by omega) x hx
  rwa [List.length_map] at this
theorem lensC_len (ss : List Sgn) : (lensC ss).length = 19 := by unfold lensC; rw [lensOf_len, wgtC_len]
theorem lensC_ok (ss : List Sgn) : CodesOK (lensC ss) := lens_ok (by omega) (by omega) (by rw [wgtC_len]; decide) (by rw [wgtC_len]; omega)
theorem lensC_rng (ss : List Sgn) : ∀ x ∈ lensC ss, 0 ≤ x ∧ x ≤ 7 := lensOf_le (by omega) (by rw [wgtC_len]; decide)
def ordB (cl : List Int) (n : Nat) : List Nat := (ordL.take n).flatMap fun k => lsb (cl.getD k 0).toNat 3
def sgnB (cl : List Int) (s : Sgn) : List Nat := codeB cl s.1 ++ lsb s.2.1 s.2.2
/-- The bits of the lists of lengths. -/
def listsB (ll dd : List Int) : List Nat :=
  lsb (ll.length - 257) 5 ++ lsb (dd.length - 1) 5 ++ lsb (hcK (lensC (runsP (ll ++ dd))) 19 - 4) 4 ++ ordB (lensC (runsP (ll ++ dd))) (hcK (lensC (runsP (ll ++ dd))) 19) ++ (runsP (ll ++ dd)).flatMap (sgnB (lensC (runsP (ll ++ dd))))
theorem ordB_len (cl : List Int) (n : Nat) : (ordB cl n).length ≤ 3 * n := by
  unfold ordB
  have : ∀ l : List Nat, (l.flatMap fun k => lsb (cl.getD k 0).toNat 3).length = 3 * l.length := by
    intro l
    induction l with
    | nil => rfl
    | cons x r ih => rw [List.flatMap_cons, List.length_append, ih, lsb_len, List.length_cons]; omega
  rw [this, List.length_take]
  omega
theorem ownG.wr {w w' : World} {g : Nat} {pv pv' v : Value} {l : List Sgn} (h : ownG w (g + 1) v l) (hf : WrFr w w' g pv pv') (hd : Dis pv v) : ownG w' (g + 1) v l := by
  have hb : ∀ k, v.ownBlock = some k → w'.heap[k]? = w.heap[k]? := fun k hk => hf.block k (World.ownsRow.lt h k hk).2 (by have := (World.ownsRow.lt h k hk).1; omega) (fun e => hd k e hk)
  refine ⟨h.1, ?_⟩
  rcases h.2 with hn | ⟨g, cap, cur, rfl, hbg, hg, rest⟩
  · exact .inl hn
  · exact .inr ⟨g, cap, cur, rfl, hbg, (hb g rfl).trans hg, rest⟩
theorem order_any (w : World) : Calls Try.prog 61 #[] w fun e w' => e = .returned (.slice (some ⟨w.heap.size, 0, none⟩) 19 19) ∧ ownI w' w.heap.size (.slice (some ⟨w.heap.size, 0, none⟩) 19 19) (ordL.map fun (x : Nat) => (x : Int)) ∧ Below w.heap.size w w' := by
  have HO := Lib.hid (own_litI w [16, 17, 18, 0, 8, 7, 9, 6, 10, 5, 11, 4, 12, 3, 13, 2, 14, 1, 15] (by decide))
  go_enter Try.func61, Try.ntmps61
  go_wp2_with fail
  go_ret
  exact ⟨rfl, HO.out, (Below.refl _ _).alloc (Nat.le_refl _) _⟩
end Go.Proofs.Ytfafijhmjnkjeaa
