/- flate: what is compressed is no longer than stored, nor than by the fixed codes: plainly. -/
import Derived.Test.YtcancpnepfnhmaaMa25
namespace Go.Proofs.Ytcancpnepfnhmaa
set_option linter.all false

/-- What a token costs by the fixed codes. -/
def costF (t : Tok) : Nat := if t.1 = 0 then (if t.2.2 < 144 then 8 else 9) else 7 + (lenOf (lenS t.1)).2 + 5 + (distOf (distS t.2.1)).2 + (if 279 < 257 + lenS t.1 then 1 else 0)
theorem codeB_len {ls : List Int} {p : Nat} (hp : p < ls.length) (hok : CodesOK ls) {t : Nat} (ht : ls[p]? = some (t : Int)) : (codeB ls p).length = t := by
  obtain ⟨t', _, e, _⟩ := codeAt_ok hok.2.1 hok.2.2 p hp
  unfold codeB
  rw [e, msb_len]
  have hg : ls.getD p 0 = (t : Int) := by rw [List.getD_eq_getElem?_getD, ht]; rfl
  have h1 : (codeAt ls p).2 = (t : Int) := by
    unfold codeAt
    rw [hg]
    split
    · rfl
    · show (0 : Int) = t
      omega
  rw [e] at h1
  show ((t' : Nat) : Int).toNat = t
  omega
theorem fixL_get {p : Nat} (h : p < 288) : fixL[p]? = some (fixO p) := by
  unfold fixL
  rw [List.getElem?_map, List.getElem?_range h]
  rfl
theorem fixB_code {p t : Nat} (h : p < 288) (ht : fixO p = (t : Int)) : (codeB fixL p).length = t := codeB_len (by rw [fixL_len]; exact h) fixL_ok (by rw [fixL_get h, ht])
theorem fixB_dist {p : Nat} (h : p < 30) : (codeB fixD p).length = 5 := codeB_len (by rw [fixD_len]; omega) fixD_ok (by unfold fixD; rw [List.getElem?_replicate, if_pos (by omega)]; rfl)
theorem tokF_len {t : Tok} (h : TokOK t) : (tokB fixL fixD t).length = costF t := by
  unfold tokB costF
  split
  · rename_i e
    have hy : t.2.2 < 256 := by
      rcases h with ⟨_, h⟩ | ⟨h, _⟩
      · exact h
      · omega
    split
    · exact fixB_code (by omega) (by unfold fixO; rw [if_pos (by omega)]; rfl)
    · exact fixB_code (by omega) (by unfold fixO; rw [if_neg (by omega), if_pos (by omega)]; rfl)
  · rename_i e
    obtain ⟨h3, h4, h5, h6⟩ : 3 ≤ t.1 ∧ t.1 ≤ 258 ∧ 1 ≤ t.2.1 ∧ t.2.1 ≤ 32768 := by rcases h with ⟨h, _⟩ | h; exact absurd h e; exact h
    have q1 := (lenS_spec (x := t.1) h3).1
    have q2 := (distS_spec (x := t.2.1) h5).1
    rw [List.length_append, List.length_append, List.length_append, lsb_len, lsb_len, fixB_dist (by omega)]
    split
    · rw [fixB_code (t := 8) (by omega) (by unfold fixO; rw [if_neg (by omega), if_neg (by omega), if_neg (by omega)]; rfl)]
      omega
    · rw [fixB_code (t := 7) (by omega) (by unfold fixO; rw [if_neg (by omega), if_neg (by omega), if_pos (by omega)]; rfl)]
      rfl
def costs (ts : List Tok) : Nat := 10 + (ts.map costF).sum
theorem costs_snoc (l : List Tok) (t : Tok) : costs (l ++ [t]) = costs l + costF t := by
  unfold costs
  rw [List.map_append, List.sum_append]
  simp
  omega
theorem costs_le {t : Tok} (h : TokOK t) : costF t ≤ 48 := by
  rw [← tokF_len h]
  have := tokB_le fixL_ok fixD_ok h (fix_in h)
  split at this <;> omega
theorem costs_all {ts : List Tok} (h : ∀ t ∈ ts, TokOK t) : costs ts ≤ 10 + 48 * ts.length := by
  unfold costs
  induction ts with
  | nil => simp
  | cons t r ih =>
    have := ih (fun u hu => h u (by simp [hu]))
    have h2 := costs_le (h t (by simp))
    rw [List.map_cons, List.sum_cons, List.length_cons]
    omega
theorem fixB_len {ts : List Tok} (h : ∀ t ∈ ts, TokOK t) : (fixB ts).length = costs ts := by
  have h1 : (ts.flatMap (tokB fixL fixD)).length = (ts.map costF).sum := by
    induction ts with
    | nil => rfl
    | cons t r ih =>
      rw [List.flatMap_cons, List.length_append, List.map_cons, List.sum_cons, tokF_len (h t (by simp)), ih (fun u hu => h u (by simp [hu]))]
  unfold fixB toksB costs
  rw [List.length_append, List.length_append, headL_len, h1, fixB_code (p := 256) (t := 7) (by omega) (by unfold fixO; rw [if_neg (by omega), if_neg (by omega), if_pos (by omega)]; rfl)]
  omega
theorem deflB_le (bs : List UInt8) (ts : List Tok) : (deflB bs ts).length ≤ (plainL bs).length ∧ (deflB bs ts).length ≤ (fixB ts).length := by
  have h1 : (best1 bs ts).length ≤ (plainL bs).length ∧ (best1 bs ts).length ≤ (fixB ts).length := by unfold best1; split <;> omega
  unfold deflB
  split <;> omega
theorem best_le {bs bz : List UInt8} {ts : List Tok} (h : ∀ t ∈ ts, TokOK t) (hw : WB bz (deflB bs ts)) : bz.length ≤ (costs ts + 7) / 8 ∧ bz.length ≤ bs.length + 5 := by
  have h1 := hw.1
  have h2 := deflB_le bs ts
  rw [plainL_len, fixB_len h] at h2
  omega
end Go.Proofs.Ytcancpnepfnhmaa
