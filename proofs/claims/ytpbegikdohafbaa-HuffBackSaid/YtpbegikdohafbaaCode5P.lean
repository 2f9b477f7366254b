/- huff: the document's codes, plainly: length by length. -/
import Derived.Test.YtpbegikdohafbaaCode2
namespace Go.Proofs.Ytpbegikdohafbaa
set_option linter.all false

/-- The codes of all lengths below l, and of length l at the first k places. -/
def cod5 (ls : List Int) (l k : Nat) : List (Nat × Int) := (List.range ls.length).map fun i => if ls.getD i 0 < (l : Int) ∨ (ls.getD i 0 = (l : Int) ∧ i < k) then codeAt ls i else (0, 0)
theorem cod5_len (ls : List Int) (l k : Nat) : (cod5 ls l k).length = ls.length := by simp [cod5]
theorem cod5_start (ls : List Int) : cod5 ls 1 0 = List.replicate ls.length (0, 0) := by
  unfold cod5
  apply List.ext_getElem?
  intro i
  by_cases h : i < ls.length
  · rw [List.getElem?_map, List.getElem?_range h, List.getElem?_replicate, if_pos h]
    simp only [Option.map_some]
    congr 1
    split
    · rename_i hc
      unfold codeAt
      rw [if_neg (by omega)]
    · rfl
  · rw [List.getElem?_eq_none (by simp; omega), List.getElem?_eq_none (by simp; omega)]
theorem cod5_next (ls : List Int) (l : Nat) : cod5 ls l ls.length = cod5 ls (l + 1) 0 := by
  unfold cod5
  apply List.map_congr_left
  intro i hi
  rw [List.mem_range] at hi
  generalize ls.getD i 0 = x
  by_cases h : x < (l : Int) ∨ (x = (l : Int) ∧ i < ls.length)
  · rw [if_pos h, if_pos (by left; omega)]
  · rw [if_neg h, if_neg (by omega)]
theorem cod5_end (ls : List Int) (hb : badL ls = false) : cod5 ls 16 0 = codesL ls := by
  unfold cod5 codesL
  apply List.map_congr_left
  intro i hi
  rw [List.mem_range] at hi
  have h : ls[i]? = some (ls.getD i 0) := by rw [List.getD_eq_getElem?_getD, List.getElem?_eq_getElem hi]; rfl
  have := good_at hb h
  rw [if_pos (by left; omega)]
theorem cod5_same {ls : List Int} {l k : Nat} {x : Int} (h : ls[k]? = some x) (hx : ¬ x = (l : Int)) : cod5 ls l (k + 1) = cod5 ls l k := by
  unfold cod5
  apply List.map_congr_left
  intro i hi
  have e : k = i → ls.getD i 0 = x := by rintro rfl; rw [List.getD_eq_getElem?_getD, h]; rfl
  by_cases hik : k = i
  · have := e hik
    rw [this]
    by_cases h1 : x < (l : Int)
    · rw [if_pos (.inl h1), if_pos (.inl h1)]
    · rw [if_neg (by omega), if_neg (by omega)]
  · generalize ls.getD i 0 = y
    by_cases h1 : y < (l : Int) ∨ (y = (l : Int) ∧ i < k)
    · rw [if_pos h1, if_pos (by omega)]
    · rw [if_neg h1, if_neg (by omega)]
theorem cod5_set {ls : List Int} {l k : Nat} (h : ls[k]? = some (l : Int)) (h0 : 0 < l) : cod5 ls l (k + 1) = (cod5 ls l k).set k (fst ls l + cnt (ls.take k) l, (l : Int)) := by
  rw [← codeAt_pos h h0]
  obtain ⟨hk, hx⟩ := List.getElem?_eq_some_iff.1 h
  have e : ls.getD k 0 = l := by rw [List.getD_eq_getElem?_getD, h]; rfl
  unfold cod5
  apply List.ext_getElem?
  intro i
  rw [List.getElem?_set]
  by_cases hi : i < ls.length
  · rw [List.getElem?_map, List.getElem?_map, List.getElem?_range hi]
    by_cases ek : k = i
    · subst ek
      rw [if_pos rfl, if_pos (by simp; omega)]
      simp only [Option.map_some]
      rw [if_pos (by right; exact ⟨e, by omega⟩)]
    · rw [if_neg ek]
      simp only [Option.map_some]
      congr 1
      generalize ls.getD i 0 = y
      by_cases h1 : y < (l : Int) ∨ (y = (l : Int) ∧ i < k)
      · rw [if_pos h1, if_pos (by omega)]
      · rw [if_neg h1, if_neg (by omega)]
  · rw [List.getElem?_eq_none (by simp; omega)]
    by_cases ek : k = i
    · omega
    · rw [if_neg ek, List.getElem?_eq_none (by simp; omega)]
theorem cnt_take_step {ls : List Int} {k : Nat} {x : Int} (h : ls[k]? = some x) (l : Nat) : cnt (ls.take (k + 1)) l = cnt (ls.take k) l + if x = (l : Int) then 1 else 0 := by
  obtain ⟨hk, hx⟩ := List.getElem?_eq_some_iff.1 h
  rw [List.take_succ_eq_append_getElem hk, hx]
  unfold cnt
  rw [List.count_append, List.count_singleton]
  by_cases e : x = (l : Int)
  · rw [if_pos (by simp [e]), if_pos e]
  · rw [if_neg (by simp [e]), if_neg e]
theorem cz_cnt (ls : List Int) {l : Nat} (h : 0 < l) : cz ls l = cnt ls l := by
  cases l with
  | zero => omega
  | succ l => rfl
end Go.Proofs.Ytpbegikdohafbaa
