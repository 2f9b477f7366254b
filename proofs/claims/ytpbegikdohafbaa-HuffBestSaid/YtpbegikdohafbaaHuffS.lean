/- huff: the lengths that weights have, plainly: place by place. -/
import Derived.Test.YtpbegikdohafbaaHuffR
import Derived.Test.YtpbegikdohafbaaHuff4
namespace Go.Proofs.Ytpbegikdohafbaa
set_option linter.all false

def wOf (ws : List Int) (p : Nat) : Int := ws.getD p 0
theorem wOf_get {ws : List Int} {i : Nat} {x : Int} (h : ws[i]? = some x) : wOf ws i = x := by
  unfold wOf
  rw [List.getD_eq_getElem?_getD, h]
  rfl
theorem leaves_pl_lt (ws : List Int) : ∀ p ∈ (leaves ws).map Mem.pl, p < ws.length := by
  intro p hp
  rw [List.mem_map] at hp
  obtain ⟨t, ht, rfl⟩ := hp
  obtain ⟨q, hq, rfl, _⟩ := leaves_mem ht
  exact hq
theorem leaves_nodup (ws : List Int) : ((leaves ws).map Mem.pl).Nodup := by
  induction ws using snoc_ind with
  | h0 => exact List.nodup_nil
  | h1 l x ih =>
    rw [leaves_snoc, List.map_append]
    split
    · rw [List.nodup_append]
      refine ⟨ih, by simp, fun a ha b hb => ?_⟩
      have h1 := leaves_pl_lt l a ha
      have h2 : b = l.length := by simpa [Mem.pl] using hb
      omega
    · simpa using ih
def firstOf (ws : List Int) : List Mem := stab Mem.w (leaves ws)
theorem firstOf_perm (ws : List Int) : (leaves ws).Perm (firstOf ws) := by
  classical
  exact (stab_ss (wt := Mem.w) (leaves ws)).2.perm
theorem firstOf_ok (ws : List Int) : Firsts (wOf ws) (firstOf ws) := by
  refine ⟨(stab_ss _).1, fun x hx => ?_, ?_, fun x hx => ?_⟩
  · obtain ⟨p, _, rfl, _⟩ := leaves_mem (stab_mem.1 hx)
    rfl
  · exact ((firstOf_perm ws).map Mem.pl).nodup_iff.1 (leaves_nodup ws)
  · obtain ⟨p, hp, rfl, h0⟩ := leaves_mem (stab_mem.1 hx)
    refine ⟨?_, by omega⟩
    rw [wOf_get (List.getElem?_eq_getElem hp)]
theorem firstOf_len (ws : List Int) : (firstOf ws).length = posn ws := by
  unfold firstOf
  rw [(stab_ss (wt := Mem.w) (leaves ws)).2.length, leaves_length]
theorem leaf_at {ws : List Int} {i : Nat} {x : Int} (h : ws[i]? = some x) (h0 : 0 < x) : ∃ s, ∃ hs : s < (firstOf ws).length, (firstOf ws)[s] = .leaf x i := by
  have hm : Mem.leaf x i ∈ leaves ws := by
    unfold leaves
    rw [List.mem_filterMap]
    refine ⟨(x, i), ?_, by rw [if_pos h0]⟩
    rw [List.mem_zipIdx_iff_getElem?]
    exact h
  have := stab_mem (wt := Mem.w) |>.2 hm
  obtain ⟨s, hs, e⟩ := List.getElem_of_mem this
  exact ⟨s, hs, e⟩
/-- The length of a place, as a number. -/
def lnat (ws : List Int) (m i : Nat) : Nat :=
  if (leaves ws).length = 1 then ((leaves ws).flatMap Mem.items).count i else cn (firstOf ws) (m - 1) (2 * (leaves ws).length - 2) i
theorem lensOf_get (ws : List Int) (m : Nat) {i : Nat} (hi : i < ws.length) : (lensOf ws m)[i]? = some (lnat ws m i : Int) := by
  have hz : (List.replicate ws.length (0 : Int)).getD i 0 = 0 := by
    rw [List.getD_eq_getElem?_getD, List.getElem?_replicate]
    split <;> rfl
  have key : ∀ ps : List Nat, (bumps (List.replicate ws.length 0) ps)[i]? = some ((ps.count i : Nat) : Int) := fun ps => by
    have h1 := bumps_get (List.replicate ws.length 0) ps i (by simpa using hi)
    rw [hz, Int.zero_add] at h1
    have h2 : i < (bumps (List.replicate ws.length 0) ps).length := by rw [bumps_len]; simpa using hi
    rw [List.getD_eq_getElem?_getD, List.getElem?_eq_getElem h2, Option.getD_some] at h1
    rw [List.getElem?_eq_getElem h2, h1]
  unfold lensOf lnat
  split
  · exact key _
  · exact key _
theorem items_pos {ws : List Int} {t : Mem} (h : t ∈ leaves ws) : ∀ p ∈ t.items, 0 < wOf ws p := by
  obtain ⟨q, hq, rfl, h0⟩ := leaves_mem h
  intro p hp
  have : p = q := by simpa [Mem.items] using hp
  subst this
  rw [wOf_get (List.getElem?_eq_getElem hq)]
  exact h0
theorem lnat_zero {ws : List Int} {m i : Nat} (h : ¬ 0 < wOf ws i) : lnat ws m i = 0 := by
  unfold lnat
  split
  · rw [List.count_eq_zero]
    intro hm
    rw [List.mem_flatMap] at hm
    obtain ⟨t, ht, hp⟩ := hm
    exact h (items_pos ht i hp)
  · unfold cn
    rw [List.count_eq_zero]
    intro hm
    rw [List.mem_flatMap] at hm
    obtain ⟨t, ht, hp⟩ := hm
    have hall := pm_all (first := firstOf ws) (P := fun _ t => ∀ p ∈ t.items, 0 < wOf ws p) (fun _ t ht => items_pos (stab_mem.1 ht)) (fun _ a b ha hb p hp => (List.mem_append.1 hp).elim (ha p) (hb p)) (m - 1) t (List.mem_of_mem_take ht)
    exact h (hall i hp)
theorem sum_perm {l l' : List Nat} (h : l.Perm l') : l.sum = l'.sum := h.sum_nat
theorem sum_leaves (ws : List Int) (h : Nat → Nat) : ((List.range ws.length).map fun i => if 0 < wOf ws i then h i else 0).sum = ((leaves ws).map fun x => h x.pl).sum := by
  induction ws using snoc_ind with
  | h0 => rfl
  | h1 l x ih =>
    have e1 : ∀ i, i < l.length → wOf (l ++ [x]) i = wOf l i := fun i hi => by
      unfold wOf
      rw [List.getD_eq_getElem?_getD, List.getElem?_append_left hi, ← List.getD_eq_getElem?_getD]
    have e2 : wOf (l ++ [x]) l.length = x := wOf_get (by simp)
    rw [leaves_snoc, List.map_append, List.sum_append, ← ih, List.length_append, List.length_singleton, List.range_succ, List.map_append, List.sum_append]
    congr 1
    · apply congrArg
      apply List.map_congr_left
      intro i hi
      rw [List.mem_range] at hi
      rw [e1 i hi]
    · simp only [List.map_cons, List.map_nil, List.sum_cons, List.sum_nil, Nat.add_zero]
      rw [e2]
      split <;> simp [Mem.pl]
theorem sum_range (l : List Mem) (h : Nat → Nat) : (l.map fun x => h x.pl).sum = ((List.range l.length).map fun s => h (l.getD s default).pl).sum := by
  congr 1
  apply List.ext_getElem?
  intro i
  by_cases hi : i < l.length
  · simp [hi]
  · simp [hi]
end Go.Proofs.Ytpbegikdohafbaa
