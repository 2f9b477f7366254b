/- The lexical order of a region of operations each of which has a slot of its own: known without trying. -/
import Derived.Test.YtmffmijjdpjaiaaInv
import Derived.Still
namespace Go.Proofs.Ytmffmijjdpjaiaa
set_option linter.all false
open Go.RowKit

/-- Operation i has slot base + i; it looks at slots below base, or at those of operations that it stands behind; the edges point backwards. -/
def ssaB (base : Nat) (md : Region.Mode) (ops : Array Oper) : Bool := (List.range ops.size).all fun i => match ops[i]? with
  | some o => (o.dst == some (base + i)) && ((o.looksAt ops).all fun t => decide (t < base) || o.after.any fun e => Region.binds md e && decide (base + e.on = t)) && o.after.all fun e => !Region.binds md e || decide (e.on < i)
  | none => true
theorem ssaB_spec {base : Nat} {md : Region.Mode} {ops : Array Oper} (h : ssaB base md ops = true) {i : Nat} {o : Oper} (ho : ops[i]? = some o) :
    o.dst = some (base + i) ∧ (∀ t ∈ o.looksAt ops, t < base ∨ ∃ e ∈ o.after, Region.binds md e = true ∧ base + e.on = t) ∧ ∀ e ∈ o.after, Region.binds md e = true → e.on < i := by
  unfold ssaB at h
  rw [List.all_eq_true] at h
  have h1 := h i (List.mem_range.2 (Array.getElem?_eq_some_iff.1 ho).1)
  rw [ho] at h1
  simp only [Bool.and_eq_true, beq_iff_eq] at h1
  obtain ⟨⟨h2, h3⟩, h4⟩ := h1
  refine ⟨h2, fun t ht => ?_, fun e he hb => ?_⟩
  · rw [List.all_eq_true] at h3
    have h5 := h3 t ht
    rw [Bool.or_eq_true, decide_eq_true_eq, Array.any_eq_true'] at h5
    rcases h5 with h5 | ⟨e, he, h6⟩
    · exact .inl h5
    · rw [Bool.and_eq_true, decide_eq_true_eq] at h6
      exact .inr ⟨e, he, h6⟩
  · rw [Array.all_eq_true_iff_forall_mem] at h4
    have h5 := h4 e he
    rw [hb] at h5
    simpa using h5
/-- The first k have come up. -/
def Upto (ops : Array Oper) (listed : Array Bool) (k : Nat) : Prop := listed.size = ops.size ∧ ∀ j, j < ops.size → ∀ d, listed.getD j d = decide (j < k)
theorem lexFrom_ssa {base : Nat} {md : Region.Mode} {ops : Array Oper} (h : ssaB base md ops = true) : ∀ (fuel k : Nat) (listed : Array Bool), fuel + k = ops.size → Upto ops listed k → Region.lexFrom md ops fuel k listed = true
  | 0, k, listed, hk, hU => by
    show (Region.ready md ops listed).isEmpty = true
    rw [List.isEmpty_iff]
    unfold Region.ready
    rw [List.filter_eq_nil_iff]
    intro i hi
    have hi2 := List.mem_range.1 hi
    rw [hU.2 i hi2, decide_eq_true (by omega)]
    simp
  | fuel + 1, k, listed, hk, hU => by
    have hkl : k < ops.size := by omega
    have ho : ops[k]? = some ops[k] := Array.getElem?_eq_getElem hkl
    obtain ⟨s1, s2, s3⟩ := ssaB_spec h ho
    show ((Region.ready md ops listed).contains k && Region.free md ops listed k && Region.lexFrom md ops fuel (k + 1) (listed.setIfInBounds k true)) = true
    rw [Bool.and_eq_true, Bool.and_eq_true]
    refine ⟨⟨?_, ?_⟩, lexFrom_ssa h fuel (k + 1) _ (by omega) ⟨by rw [Array.size_setIfInBounds]; exact hU.1, fun j hj d => ?_⟩⟩
    · rw [List.contains_iff_mem]
      unfold Region.ready
      rw [List.mem_filter]
      refine ⟨List.mem_range.2 hkl, ?_⟩
      rw [hU.2 k hkl, decide_eq_false (by omega), ho]
      simp only [Bool.not_false, Bool.true_and, Option.map_some, Option.getD_some]
      rw [Array.all_eq_true_iff_forall_mem]
      intro e he
      cases hb : Region.binds md e with
      | false => rfl
      | true =>
        have := s3 e he hb
        rw [hU.2 e.on (by omega), decide_eq_true this]
        rfl
    · unfold Region.free
      rw [ho]
      dsimp only
      rw [List.all_eq_true]
      intro j hj
      have hj2 := List.mem_range.1 hj
      rw [hU.2 j hj2]
      by_cases hjk : j = k
      · subst hjk; simp
      by_cases hlt : j < k
      · rw [decide_eq_true hlt]; simp
      have hoj : ops[j]? = some ops[j] := Array.getElem?_eq_getElem hj2
      obtain ⟨t1, t2, t3⟩ := ssaB_spec h hoj
      rw [hoj]
      dsimp only
      rw [Bool.or_eq_true, Bool.or_eq_true]
      right
      cases hany : ops[j].after.any (fun e => Region.binds md e && e.on == k) with
      | true => rfl
      | false =>
        rw [Bool.false_or]
        have hno : base + k ∉ ops[j].looksAt ops := fun hm => by
          rcases t2 _ hm with h5 | ⟨e, he, hb, h6⟩
          · have h7 : base + k < base := h5
            omega
          · have : ops[j].after.any (fun e => Region.binds md e && e.on == k) = true := by
              rw [Array.any_eq_true']
              exact ⟨e, he, by
                have h7 : base + e.on = base + k := h6
                rw [hb, Bool.true_and, beq_iff_eq]; omega⟩
            rw [hany] at this
            cases this
        have hno2 : base + j ∉ ops[k].looksAt ops := fun hm => by
          rcases s2 _ hm with h5 | ⟨e, he, hb, h6⟩
          · have h7 : base + j < base := h5
            omega
          · have h7 : base + e.on = base + j := h6
            have := s3 e he hb
            omega
        unfold Oper.apart
        rw [s1, t1]
        simp only [Bool.and_eq_true, Bool.not_eq_true']
        refine ⟨⟨?_, ?_⟩, ?_⟩
        · rw [← Bool.not_eq_true, List.contains_iff_mem]; exact hno
        · rw [bne_iff_ne]; intro e; injection e with e; omega
        · rw [← Bool.not_eq_true, List.contains_iff_mem]; exact hno2
    · rw [Array.getD_eq_getD_getElem?, Array.getElem?_setIfInBounds]
      by_cases hjk : k = j
      · subst hjk
        rw [if_pos rfl, if_pos (by rw [hU.1]; exact hkl), decide_eq_true (by omega)]
        rfl
      · rw [if_neg hjk, ← Array.getD_eq_getD_getElem?, hU.2 j hj]
        by_cases hlt : j < k
        · rw [decide_eq_true hlt, decide_eq_true (by omega)]
        · rw [decide_eq_false hlt, decide_eq_false (by omega)]
theorem lexB_ssa {md : Region.Mode} {ops : Array Oper} (base : Nat) (hn : Region.noSelect ops = true) (h : ssaB base md ops = true) : Region.lexB md ops = true := by
  unfold Region.lexB
  rw [hn, Bool.true_and]
  refine lexFrom_ssa h ops.size 0 _ rfl ⟨by simp, fun j hj d => ?_⟩
  rw [Array.getD_eq_getD_getElem?, Array.getElem?_replicate, if_pos hj]
  rfl
end Go.Proofs.Ytmffmijjdpjaiaa
