/- Merged: Code5P, BitP, DecP, WriteP. -/
import Derived.Laws.BitsAllLaws
import Derived.Test.YteoolehdomjkkaaMb09
import Derived.Test.YteoolehdomjkkaaMb01
/- huff: the document's codes, plainly: length by length. -/
namespace Go.Proofs.Yteoolehdomjkkaa
set_option linter.all false

/-- The codes of all lengths below l, and of length l at the first k places. -/
def cod5 (ls : List Int) (l k : Nat) : List (Nat × Int) := (List.range ls.length).map fun i => if ls.getD i 0 < (l : Int) ∨ (ls.getD i 0 = (l : Int) ∧ i < k) then codeAt ls i else (0, 0)
theorem cod5_len (ls : List Int) (l k : Nat) : (cod5 ls l k).length = ls.length := by simp [cod5]
theorem cod5_start (ls : List Int) : cod5 ls 1 0 = List.replicate ls.length (0, 0) := by
  unfold cod5
  apply List.ext_getElem?
  intro i
  by_cases h : i < ls.length
  · rw [List.getElem?_map, List.getElem?_range h, List.getElem?_replicate, if_pos h]
    simp only [Option.map_some]
    congr 1
    split
    · rename_i hc
      unfold codeAt
      rw [if_neg (by omega)]
    · rfl
  · rw [List.getElem?_eq_none (by simp; omega), List.getElem?_eq_none (by simp; omega)]
theorem cod5_next (ls : List Int) (l : Nat) : cod5 ls l ls.length = cod5 ls (l + 1) 0 := by
  unfold cod5
  apply List.map_congr_left
  intro i hi
  rw [List.mem_range] at hi
  generalize ls.getD i 0 = x
  by_cases h : x < (l : Int) ∨ (x = (l : Int) ∧ i < ls.length)
  · rw [if_pos h, if_pos (by left; omega)]
  · rw [if_neg h, if_neg (by omega)]
theorem cod5_end (ls : List Int) (hb : badL ls = false) : cod5 ls 16 0 = codesL ls := by
  unfold cod5 codesL
  apply List.map_congr_left
  intro i hi
  rw [List.mem_range] at hi
  have h : ls[i]? = some (ls.getD i 0) := by rw [List.getD_eq_getElem?_getD, List.getElem?_eq_getElem hi]; rfl
  have := good_at hb h
  rw [if_pos (by left; omega)]
theorem cod5_same {ls : List Int} {l k : Nat} {x : Int} (h : ls[k]? = some x) (hx : ¬ x = (l : Int)) : cod5 ls l (k + 1) = cod5 ls l k := by
  unfold cod5
  apply List.map_congr_left
  intro i hi
  have e : k = i → ls.getD i 0 = x := by rintro rfl; rw [List.getD_eq_getElem?_getD, h]; rfl
  by_cases hik : k = i
  · have := e hik
    rw [this]
    by_cases h1 : x < (l : Int)
    · rw [if_pos (.inl h1), if_pos (.inl h1)]
    · rw [if_neg (by omega), if_neg (by omega)]
  · generalize ls.getD i 0 = y
    by_cases h1 : y < (l : Int) ∨ (y = (l : Int) ∧ i < k)
    · rw [if_pos h1, if_pos (by omega)]
    · rw [if_neg h1, if_neg (by omega)]
theorem cod5_set {ls : List Int} {l k : Nat} (h : ls[k]? = some (l : Int)) (h0 : 0 < l) : cod5 ls l (k + 1) = (cod5 ls l k).set k (fst ls l + cnt (ls.take k) l, (l : Int)) := by
  rw [← codeAt_pos h h0]
  obtain ⟨hk, hx⟩ := List.getElem?_eq_some_iff.1 h
  have e : ls.getD k 0 = l := by rw [List.getD_eq_getElem?_getD, h]; rfl
  unfold cod5
  apply List.ext_getElem?
  intro i
  rw [List.getElem?_set]
  by_cases hi : i < ls.length
  · rw [List.getElem?_map, List.getElem?_map, List.getElem?_range hi]
    by_cases ek : k = i
    · subst ek
      rw [if_pos rfl, if_pos (by simp; omega)]
      simp only [Option.map_some]
      rw [if_pos (by right; exact ⟨e, by omega⟩)]
    · rw [if_neg ek]
      simp only [Option.map_some]
      congr 1
      generalize ls.getD i 0 = y
      by_cases h1 : y < (l : Int) ∨ (y = (l : Int) ∧ i < k)
      · rw [if_pos h1, if_pos (by omega)]
      · rw [if_neg h1, if_neg (by omega)]
  · rw [List.getElem?_eq_none (by simp; omega)]
    by_cases ek : k = i
    · omega
    · rw [if_neg ek, List.getElem?_eq_none (by simp; omega)]
theorem cnt_take_step {ls : List Int} {k : Nat} {x : Int} (h : ls[k]? = some x) (l : Nat) : cnt (ls.take (k + 1)) l = cnt (ls.take k) l + if x = (l : Int) then 1 else 0 := by
  obtain ⟨hk, hx⟩ := List.getElem?_eq_some_iff.1 h
  rw [List.take_succ_eq_append_getElem hk, hx]
  unfold cnt
  rw [List.count_append, List.count_singleton]
  by_cases e : x = (l : Int)
  · rw [if_pos (by simp [e]), if_pos e]
  · rw [if_neg (by simp [e]), if_neg e]
theorem cz_cnt (ls : List Int) {l : Nat} (h : 0 < l) : cz ls l = cnt ls l := by
  cases l with
  | zero => omega
  | succ l => rfl
end Go.Proofs.Yteoolehdomjkkaa

/- Bits of bytes, plainly. -/
namespace Go.Proofs.Yteoolehdomjkkaa
set_option linter.all false

/-- The p-th bit of bytes, the least of a byte first. -/
def bitAt (bs : List UInt8) (p : Nat) : Nat := (bs.getD (p / 8) 0).toNat / 2 ^ (p % 8) % 2
theorem bitAt_lt (bs : List UInt8) (p : Nat) : bitAt bs p < 2 := Nat.mod_lt _ (by decide)
/-- k bits as a number, the first the least. -/
def getV (bs : List UInt8) (P : Nat) : Nat → Nat
  | 0 => 0
  | k + 1 => getV bs P k + bitAt bs (P + k) * 2 ^ k
theorem getV_lt (bs : List UInt8) (P k : Nat) : getV bs P k < 2 ^ k := by
  induction k with
  | zero => exact Nat.one_pos
  | succ k ih =>
    have := bitAt_lt bs (P + k)
    rw [getV, Nat.pow_succ]
    have h2 : bitAt bs (P + k) * 2 ^ k ≤ 1 * 2 ^ k := Nat.mul_le_mul_right _ (by omega)
    omega
theorem or_bit {x k b : Nat} (hx : x < 2 ^ k) : x ||| (b * 2 ^ k) = x + b * 2 ^ k := by
  have := Nat.two_pow_add_eq_or_of_lt hx b
  rw [Nat.mul_comm, Nat.or_comm, ← this, Nat.add_comm]
theorem getV_one (bs : List UInt8) (P : Nat) : getV bs P 1 = bitAt bs P := by simp [getV]
theorem and_bit (x : UInt8) (t : Nat) : bits .and .u8 ((x.toNat : Int) / 2 ^ t) 1 = ((x.toNat / 2 ^ t % 2 : Nat) : Int) := by
  have e : ((x.toNat : Int) / 2 ^ t) = ((x.toNat / 2 ^ t : Nat) : Int) := by rw [show ((2 : Int) ^ t) = ((2 ^ t : Nat) : Int) by push_cast; rfl, ← Int.natCast_ediv]
  have hl : x.toNat / 2 ^ t < 256 := Nat.lt_of_le_of_lt (Nat.div_le_self _ _) x.toNat_lt
  rw [e, show (1 : Int) = ((1 : Nat) : Int) from rfl, u8_and_nat _ _ hl (by decide), Nat.and_one_is_mod]
theorem get_step (V k t : Nat) (x : UInt8) (hk : k < 24) (hV : V < 2 ^ k) :
    bits .or .u32 (V : Int) (bits .and .u8 ((x.toNat : Int) / 2 ^ t) 1 % 4294967296 * 2 ^ k % 4294967296) = ((V + x.toNat / 2 ^ t % 2 * 2 ^ k : Nat) : Int) := by
  rw [and_bit]
  have hb : x.toNat / 2 ^ t % 2 < 2 := Nat.mod_lt _ (by decide)
  generalize x.toNat / 2 ^ t % 2 = b at *
  have hp : 2 ^ k ≤ 2 ^ 23 := Nat.pow_le_pow_right (by decide) (by omega)
  have hp0 : 0 < 2 ^ k := Nat.two_pow_pos k
  have hm : b * 2 ^ k ≤ 1 * 2 ^ k := Nat.mul_le_mul_right _ (by omega)
  have e : ((b : Int) % 4294967296 * 2 ^ k % 4294967296) = ((b * 2 ^ k : Nat) : Int) := by
    have e1 : (b : Int) % 4294967296 = b := Int.emod_eq_of_lt (by omega) (by omega)
    have e2 : (b : Int) * 2 ^ k = ((b * 2 ^ k : Nat) : Int) := by push_cast; rfl
    rw [e1, e2]
    generalize b * 2 ^ k = u at *
    exact Int.emod_eq_of_lt (by omega) (by omega)
  rw [e, u32_or_nat _ _ (by omega) (by omega), or_bit hV]
end Go.Proofs.Yteoolehdomjkkaa

/- Decoders, plainly. -/
namespace Go.Proofs.Yteoolehdomjkkaa
set_option linter.all false
open Go.RowKit

/-- The places of length t among the first k. -/
def plc (ls : List Int) (t : Nat) : Nat → List Int
  | 0 => []
  | k + 1 => if ls[k]? = some (t : Int) then plc ls t k ++ [(k : Int)] else plc ls t k
theorem plc_len (ls : List Int) (t k : Nat) : (plc ls t k).length = cnt (ls.take k) t := by
  induction k with
  | zero => simp [plc, cnt]
  | succ k ih =>
    rw [plc]
    cases h : ls[k]? with
    | none =>
      have : ls.take (k + 1) = ls.take k := by
        rw [List.getElem?_eq_none_iff] at h
        rw [List.take_of_length_le (by omega), List.take_of_length_le h]
      rw [this, if_neg (by simp)]
      exact ih
    | some x =>
      rw [cnt_take_step h t]
      by_cases e : x = (t : Int)
      · rw [if_pos (by rw [e]), if_pos e, List.length_append, ih]; rfl
      · rw [if_neg (by simp; exact e), if_neg e, ih]; rfl
theorem plc_get {ls : List Int} {t p : Nat} (h : ls[p]? = some (t : Int)) (k : Nat) (hp : p < k) : (plc ls t k)[cnt (ls.take p) t]? = some (p : Int) := by
  induction k with
  | zero => omega
  | succ k ih =>
    rw [plc]
    by_cases e : p = k
    · subst e
      rw [if_pos h, List.getElem?_append_right (by rw [plc_len]; exact Nat.le_refl _), plc_len, Nat.sub_self]
      rfl
    · have := ih (by omega)
      split
      · rw [List.getElem?_append_left (List.getElem?_eq_some_iff.1 this).1]
        exact this
      · exact this
theorem plc_of {ls : List Int} {t i : Nat} {x : Int} (k : Nat) (h : (plc ls t k)[i]? = some x) : ∃ p : Nat, x = p ∧ p < k ∧ ls[p]? = some (t : Int) ∧ cnt (ls.take p) t = i := by
  induction k with
  | zero => simp [plc] at h
  | succ k ih =>
    rw [plc] at h
    by_cases e : ls[k]? = some (t : Int)
    · rw [if_pos e] at h
      by_cases hi : i < (plc ls t k).length
      · rw [List.getElem?_append_left hi] at h
        obtain ⟨p, a, b, c⟩ := ih h
        exact ⟨p, a, by omega, c⟩
      · rw [List.getElem?_append_right (by omega)] at h
        obtain ⟨h1, h2⟩ := List.getElem?_eq_some_iff.1 h
        have h3 : i - (plc ls t k).length = 0 := by simp at h1; omega
        refine ⟨k, ?_, by omega, e, ?_⟩
        · rw [← h2]; simp
        · rw [← plc_len]; omega
    · rw [if_neg e] at h
      obtain ⟨p, a, b, c⟩ := ih h
      exact ⟨p, a, by omega, c⟩
/-- The places of the lengths 1 to l, by lengths. -/
def allP (ls : List Int) : Nat → List Int
  | 0 => []
  | l + 1 => allP ls l ++ plc ls (l + 1) ls.length
theorem allP_get {ls : List Int} {t i : Nat} {x : Int} (h1 : 1 ≤ t) (h : (plc ls t ls.length)[i]? = some x) (l : Nat) (hl : t ≤ l) : (allP ls l)[(allP ls (t - 1)).length + i]? = some x := by
  induction l with
  | zero => omega
  | succ l ih =>
    rw [allP]
    by_cases e : t = l + 1
    · subst e
      rw [Nat.add_sub_cancel, List.getElem?_append_right (by omega), Nat.add_sub_cancel_left]
      exact h
    · have := ih (by omega)
      rw [List.getElem?_append_left (List.getElem?_eq_some_iff.1 this).1]
      exact this
theorem allP_le (ls : List Int) (l : Nat) : (allP ls l).length ≤ l * ls.length := by
  induction l with
  | zero => simp [allP]
  | succ l ih =>
    rw [allP, List.length_append, plc_len, Nat.succ_mul]
    have : cnt (ls.take ls.length) (l + 1) ≤ ls.length := Nat.le_trans (cnt_take ls ls.length (l + 1)) (cnt_le ls _)
    omega
theorem allP_none {ls : List Int} (hb : badL ls = false) (h : (allP ls 15).length = 0) {k : Nat} {x : Int} (hx : ls[k]? = some x) : ¬ 0 < x := by
  intro h0
  obtain ⟨g0, g1⟩ := good_at hb hx
  obtain ⟨t, rfl⟩ := Int.eq_ofNat_of_zero_le g0
  obtain ⟨hk, _⟩ := List.getElem?_eq_some_iff.1 hx
  have := allP_get (by omega) (plc_get hx ls.length hk) 15 (by omega)
  have := (List.getElem?_eq_some_iff.1 this).1
  omega
theorem allP_some {ls : List Int} {k : Nat} {x : Int} (hb : badL ls = false) (hx : ls[k]? = some x) (h0 : 0 < x) : ¬ (allP ls 15).length = 0 := fun h => allP_none hb h hx h0
def frL (ls : List Int) (l : Nat) : List Int := (List.range 16).map fun n => if 1 ≤ n ∧ n < l then ((allP ls (n - 1)).length : Int) else 0
theorem frL_get (ls : List Int) {l t : Nat} (h1 : 1 ≤ t) (h2 : t < l) (h3 : t < 16) : (cI (frL ls l))[t]? = some (.int .i64 ((allP ls (t - 1)).length : Int)) := by
  unfold cI frL
  rw [List.getElem?_map, List.getElem?_map, List.getElem?_range h3]
  simp only [Option.map_some]
  rw [if_pos ⟨h1, h2⟩]
theorem frL_zero (ls : List Int) {l t : Nat} (h2 : l ≤ t) (h3 : t < 16) : (cI (frL ls l))[t]? = some (.int .i64 0) := by
  unfold cI frL
  rw [List.getElem?_map, List.getElem?_map, List.getElem?_range h3]
  simp only [Option.map_some]
  rw [if_neg (by omega)]
theorem frL_one (ls : List Int) : frL ls 1 = List.replicate 16 0 := by
  unfold frL
  apply List.ext_getElem?
  intro i
  by_cases h : i < 16
  · rw [List.getElem?_map, List.getElem?_range h, List.getElem?_replicate, if_pos h]
    simp only [Option.map_some]
    rw [if_neg (by omega)]
  · rw [List.getElem?_eq_none (by simp; omega), List.getElem?_eq_none (by simp; omega)]
theorem frL_set (ls : List Int) {l : Nat} (h1 : 1 ≤ l) (h2 : l < 16) : cI (frL ls (l + 1)) = (cI (frL ls l)).set l (.int .i64 ((allP ls (l - 1)).length : Int)) := by
  unfold cI frL
  apply List.ext_getElem?
  intro i
  rw [List.getElem?_set]
  by_cases hi : i < 16
  · rw [List.getElem?_map, List.getElem?_map, List.getElem?_map, List.getElem?_map, List.getElem?_range hi]
    by_cases e : l = i
    · subst e
      rw [if_pos rfl, if_pos (by simp; omega)]
      simp only [Option.map_some]
      rw [if_pos ⟨h1, by omega⟩]
    · rw [if_neg e]
      simp only [Option.map_some]
      by_cases e2 : 1 ≤ i ∧ i < l
      · rw [if_pos e2, if_pos (by omega)]
      · rw [if_neg e2, if_neg (by omega)]
  · rw [List.getElem?_eq_none (by simp; omega)]
    by_cases e : l = i
    · omega
    · rw [if_neg e, List.getElem?_eq_none (by simp; omega)]
theorem cI_len (l : List Int) : (cI l).length = l.length := by simp [cI]
theorem cU_len (l : List Nat) : (cU l).length = l.length := by simp [cU]
theorem frL_len (ls : List Int) (l : Nat) : (cI (frL ls l)).length = 16 := by simp [cI, frL]
theorem nextL_len (ls : List Int) (l : Nat) : (cU (nextL ls l)).length = 16 := by simp [cU, nextL]
theorem cntZ_len (ls : List Int) : (cI (cntZ ls)).length = 16 := by simp [cI, cntZ, cntL]
/-- A decoder's cells. -/
def decL (ls : List Int) (l : Nat) (pv : Value) : List Value := cU (nextL ls 16) ++ (cI (cntZ ls) ++ (cI (frL ls l) ++ [pv]))
def decZ : List Value := cU (List.replicate 16 0) ++ (cI (List.replicate 16 0) ++ (cI (List.replicate 16 0) ++ [.slice none 0 0]))
theorem decL_0 (ls : List Int) (l : Nat) (pv : Value) {t : Nat} (ht : t < 16) : (decL ls l pv)[t]? = some (.int .u32 (fst ls t : Nat)) := by
  unfold decL
  rw [List.getElem?_append_left (by rw [nextL_len]; exact ht), nextL_get ls 16 ht, if_pos ht]
theorem decL_1 (ls : List Int) (l : Nat) (pv : Value) {t : Nat} (ht : t < 16) : (decL ls l pv)[16 + t]? = some (.int .i64 (cz ls t : Nat)) := by
  unfold decL
  rw [List.getElem?_append_right (by rw [nextL_len]; omega), nextL_len, Nat.add_sub_cancel_left, List.getElem?_append_left (by rw [cntZ_len]; exact ht), cntZ_get ls ht]
theorem decL_2' (ls : List Int) (l : Nat) (pv : Value) {t : Nat} (ht : t < 16) : (decL ls l pv)[32 + t]? = (cI (frL ls l))[t]? := by
  unfold decL
  rw [List.getElem?_append_right (by rw [nextL_len]; omega), nextL_len, List.getElem?_append_right (by rw [cntZ_len]; omega), cntZ_len, show 32 + t - 16 - 16 = t by omega, List.getElem?_append_left (by rw [frL_len]; exact ht)]
theorem decL_3 (ls : List Int) (l : Nat) (pv : Value) : (decL ls l pv)[48]? = some pv := by
  unfold decL
  rw [List.getElem?_append_right (by rw [nextL_len]; omega), nextL_len, List.getElem?_append_right (by rw [cntZ_len]; omega), cntZ_len, List.getElem?_append_right (by rw [frL_len]; omega), frL_len]
  rfl
theorem set_app2 {α : Type} (A B C : List α) (p x : α) (k a : Nat) (ha : a = A.length + B.length) (hk : k < C.length) : (A ++ (B ++ (C ++ [p]))).set (a + k) x = A ++ (B ++ (C.set k x ++ [p])) := by
  subst ha
  rw [List.set_append_right _ _ (by omega), List.set_append_right _ _ (by omega), List.set_append_left _ _ (by omega)]
  congr 4
  omega
theorem decL_from (ls : List Int) (pv : Value) {l : Nat} (h1 : 1 ≤ l) (h2 : l < 16) : (decL ls l pv).set (32 + l) (.int .i64 ((allP ls (l - 1)).length : Int)) = decL ls (l + 1) pv := by
  unfold decL
  rw [set_app2 _ _ _ _ _ _ 32 (by rw [nextL_len, cntZ_len]) (by rw [frL_len]; exact h2), frL_set ls h1 h2]
theorem decL_place (ls : List Int) (l : Nat) (pv v : Value) : (decL ls l pv).set 48 v = decL ls l v := by
  unfold decL
  rw [List.set_append_right _ _ (by rw [nextL_len]; omega), nextL_len, List.set_append_right _ _ (by rw [cntZ_len]; omega), cntZ_len, List.set_append_right _ _ (by rw [frL_len]; omega), frL_len]
  rfl
theorem splice0 {α : Type} (A A' R : List α) (h : A.length = A'.length) : (A ++ R).take 0 ++ A' ++ (A ++ R).drop (0 + A'.length) = A' ++ R := by
  rw [Nat.zero_add, ← h, List.drop_left, List.take_zero, List.nil_append]
theorem splice1 {α : Type} (A B B' R : List α) (a : Nat) (ha : a = A.length) (h : B.length = B'.length) : (A ++ (B ++ R)).take a ++ B' ++ (A ++ (B ++ R)).drop (a + B'.length) = A ++ (B' ++ R) := by
  subst ha
  rw [← h, List.take_left, ← List.append_assoc A B R, show A.length + B.length = (A ++ B).length by simp, List.drop_left, List.append_assoc]

/-- What New answers. -/
def nwE (ls : List Int) : Int := if cdE ls = 0 then (if (allP ls 15).length = 0 then 4 else 0) else cdE ls
/-- The code v of length t is that of the place p. -/
def Hit (ls : List Int) (t v p : Nat) : Prop := ls[p]? = some (t : Int) ∧ fst ls t + cnt (ls.take p) t = v
theorem cnt_lt2 {ls : List Int} {i k t : Nat} (h : ls[i]? = some (t : Int)) (hik : i < k) : cnt (ls.take i) t < cnt (ls.take k) t := by
  have e := cnt_take_step h t
  rw [if_pos rfl] at e
  have h2 : cnt (ls.take (i + 1)) t ≤ cnt (ls.take k) t := by
    unfold cnt
    rw [show ls.take (i + 1) = (ls.take k).take (i + 1) by rw [List.take_take, Nat.min_eq_left (by omega)]]
    exact List.Sublist.count_le _ (List.take_sublist _ _)
  omega
theorem Hit.eq {ls : List Int} {t v p q : Nat} (h : Hit ls t v p) (h' : Hit ls t v q) : p = q := by
  have h1 := h.2
  have h2 := h'.2
  rcases Nat.lt_trichotomy p q with hlt | e | hlt
  · have := cnt_lt2 h.1 hlt; omega
  · exact e
  · have := cnt_lt2 h'.1 hlt; omega
/-- The place of a code. -/
def hitN (ls : List Int) (t v : Nat) : Option Nat := (List.range ls.length).find? fun p => decide (ls[p]? = some (t : Int)) && decide (fst ls t + cnt (ls.take p) t = v)
theorem hit_some {ls : List Int} {t v p : Nat} (h : Hit ls t v p) : hitN ls t v = some p := by
  cases e : hitN ls t v with
  | none =>
    unfold hitN at e
    rw [List.find?_eq_none] at e
    exact absurd (by simp [h.1, h.2]) (e p (by rw [List.mem_range]; exact (List.getElem?_eq_some_iff.1 h.1).1))
  | some q =>
    have := List.find?_some e
    rw [Bool.and_eq_true, decide_eq_true_eq, decide_eq_true_eq] at this
    rw [Hit.eq h ⟨this.1, this.2⟩]
theorem hit_none {ls : List Int} {t v : Nat} (h : ∀ p, ¬ Hit ls t v p) : hitN ls t v = none := by
  cases e : hitN ls t v with
  | none => rfl
  | some q =>
    have := List.find?_some e
    rw [Bool.and_eq_true, decide_eq_true_eq, decide_eq_true_eq] at this
    exact absurd ⟨this.1, this.2⟩ (h q)
theorem hit_bound {ls : List Int} {t v p : Nat} (h0 : 1 ≤ t) (h : Hit ls t v p) : fst ls t ≤ v ∧ v < fst ls t + cz ls t := by
  have h1 := h.2
  have h2 := cnt_lt2 h.1 (List.getElem?_eq_some_iff.1 h.1).1
  have h3 := cz_cnt ls h0
  rw [List.take_length] at h2
  omega
theorem hit_at {ls : List Int} {t v : Nat} (h0 : 1 ≤ t) (h1 : fst ls t ≤ v) (h2 : v < fst ls t + cz ls t) : ∃ p, Hit ls t v p ∧ (plc ls t ls.length)[v - fst ls t]? = some (p : Int) ∧ p < ls.length := by
  have h3 := cz_cnt ls h0
  have hl := plc_len ls t ls.length
  rw [List.take_length] at hl
  have hi : v - fst ls t < (plc ls t ls.length).length := by omega
  have hx := List.getElem?_eq_getElem hi
  obtain ⟨p, e, hp, hpt, hc⟩ := plc_of ls.length hx
  rw [e] at hx
  exact ⟨p, ⟨hpt, by omega⟩, hx, hp⟩
/-- What Next answers, where it is then: t is the length, v the bits so far. -/
def nx (ls : List Int) (bs : List UInt8) : Nat → Nat → Nat → Nat → Int × Int × Nat
  | 0, _, _, P => (0, 4, P)
  | f + 1, t, v, P => if 8 * bs.length ≤ P then (0, 2, P) else
    match hitN ls t (v * 2 + bitAt bs P) with
    | some p => ((p : Int), 0, P + 1)
    | none => nx ls bs f (t + 1) (v * 2 + bitAt bs P) (P + 1)
theorem nx_short {ls : List Int} {bs : List UInt8} {f t v P : Nat} (h : 8 * bs.length ≤ P) : nx ls bs (f + 1) t v P = (0, 2, P) := by rw [nx, if_pos h]
theorem nx_hit {ls : List Int} {bs : List UInt8} {f t v P p : Nat} (h : ¬ 8 * bs.length ≤ P) (hh : hitN ls t (v * 2 + bitAt bs P) = some p) : nx ls bs (f + 1) t v P = ((p : Int), 0, P + 1) := by
  rw [nx, if_neg h, hh]
theorem nx_on {ls : List Int} {bs : List UInt8} {f t v P : Nat} (h : ¬ 8 * bs.length ≤ P) (hh : hitN ls t (v * 2 + bitAt bs P) = none) : nx ls bs (f + 1) t v P = nx ls bs f (t + 1) (v * 2 + bitAt bs P) (P + 1) := by
  rw [nx, if_neg h, hh]
theorem nx_mono (ls : List Int) (bs : List UInt8) (f : Nat) : ∀ t v P, P ≤ (nx ls bs f t v P).2.2 ∧ ((nx ls bs f t v P).2.1 = 0 → P < (nx ls bs f t v P).2.2 ∧ (nx ls bs f t v P).2.2 ≤ 8 * bs.length) := by
  induction f with
  | zero => intro t v P; exact ⟨Nat.le_refl _, fun h => by cases h⟩
  | succ f ih =>
    intro t v P
    by_cases h : 8 * bs.length ≤ P
    · rw [nx_short h]; exact ⟨Nat.le_refl _, fun h => by cases h⟩
    · cases hh : hitN ls t (v * 2 + bitAt bs P) with
      | some p => rw [nx_hit h hh]; exact ⟨by show P ≤ P + 1; omega, fun _ => ⟨by show P < P + 1; omega, by show P + 1 ≤ _; omega⟩⟩
      | none =>
        rw [nx_on h hh]
        obtain ⟨a, b⟩ := ih (t + 1) (v * 2 + bitAt bs P) (P + 1)
        exact ⟨by omega, fun e => ⟨by have := (b e).1; omega, (b e).2⟩⟩
theorem or_code (v b : Nat) (hv : v < 65536) (hb : b < 2) : bits .or .u32 ((v : Int) * 2) (b : Int) = ((v * 2 + b : Nat) : Int) := by
  have := u32_or_nat b (v * 2) (by omega) (by omega)
  have h2 := or_bit (x := b) (k := 1) (b := v) (by omega)
  rw [show (2 : Nat) ^ 1 = 2 from rfl] at h2
  rw [show ((v : Int) * 2) = ((v * 2 : Nat) : Int) by omega, u32_or_nat _ _ (by omega) (by omega), Nat.or_comm, h2]
  congr 1
  omega
end Go.Proofs.Yteoolehdomjkkaa

/- Writers of bits, plainly. -/
namespace Go.Proofs.Yteoolehdomjkkaa
set_option linter.all false
open Go.RowKit

/-- Bytes hold bits: so many bytes, behind the last bit nothing. -/
def WB (bs : List UInt8) (L : List Nat) : Prop := bs.length = (L.length + 7) / 8 ∧ ∀ p, bitAt bs p = L.getD p 0
theorem WB.nil : WB [] [] := ⟨rfl, fun p => by simp [bitAt]⟩
theorem or_place (x b t q : Nat) (hb : b < 2) (hx : x / 2 ^ t % 2 = 0) : (x ||| b * 2 ^ t) / 2 ^ q % 2 = if q = t then b else x / 2 ^ q % 2 := by
  have key : ∀ y : Nat, y / 2 ^ q % 2 = (y.testBit q).toNat := fun y => by
    rw [Nat.testBit_eq_decide_div_mod_eq]
    rcases Nat.mod_two_eq_zero_or_one (y / 2 ^ q) with h | h <;> simp [h]
  have hx' : x.testBit t = false := by rw [Nat.testBit_eq_decide_div_mod_eq]; simp [hx]
  rw [key, key, Nat.testBit_or]
  rcases Nat.lt_or_ge b 1 with h0 | h1
  · obtain rfl : b = 0 := by omega
    rw [Nat.zero_mul, Nat.zero_testBit, Bool.or_false]
    split
    · rename_i e; subst e; rw [hx']; rfl
    · rfl
  · obtain rfl : b = 1 := by omega
    rw [Nat.one_mul, Nat.testBit_two_pow]
    by_cases e : q = t
    · subst e; rw [if_pos rfl]; simp
    · rw [if_neg e]
      have : ¬ t = q := fun e' => e e'.symm
      simp [this]
theorem or_lt256 (x b t : Nat) (hx : x < 256) (hb : b < 2) (ht : t < 8) : x ||| b * 2 ^ t < 256 := by
  have h1 : 2 ^ t ≤ 2 ^ 7 := Nat.pow_le_pow_right (by decide) (by omega)
  have h2 : b * 2 ^ t ≤ 1 * 2 ^ t := Nat.mul_le_mul_right _ (by omega)
  exact Nat.or_lt_two_pow (n := 8) hx (by omega)
/-- The bytes with room for one bit more. -/
def room (bs : List UInt8) (N : Nat) : List UInt8 := if N % 8 = 0 then bs ++ [0] else bs
theorem room_bit (bs : List UInt8) (N p : Nat) : bitAt (room bs N) p = bitAt bs p := by
  unfold room
  split
  · unfold bitAt
    congr 2
    rw [List.getD_eq_getElem?_getD, List.getD_eq_getElem?_getD, List.getElem?_append]
    split
    · rfl
    · rw [List.getElem?_eq_none (l := bs) (by omega)]
      cases h : p / 8 - bs.length with
      | zero => rfl
      | succ k => simp
  · rfl
theorem room_len {bs : List UInt8} {L : List Nat} (h : WB bs L) : (room bs L.length).length = L.length / 8 + 1 := by
  have := h.1
  unfold room
  split
  · rw [List.length_append]; simp; omega
  · omega
theorem WB.push {bs : List UInt8} {L : List Nat} (h : WB bs L) {b : Nat} (hb : b < 2) {x : UInt8} (hx : (room bs L.length)[L.length / 8]? = some x) :
    WB ((room bs L.length).set (L.length / 8) (UInt8.ofNat (x.toNat ||| b * 2 ^ (L.length % 8)))) (L ++ [b]) := by
  have hl := room_len h
  refine ⟨?_, fun p => ?_⟩
  · rw [List.length_set, hl, List.length_append]; simp; omega
  · have hx0 : x.toNat / 2 ^ (L.length % 8) % 2 = 0 := by
      have e := room_bit bs L.length L.length
      rw [h.2 L.length] at e
      unfold bitAt at e
      rw [List.getD_eq_getElem?_getD, hx] at e
      rw [List.getD_eq_getElem?_getD, List.getElem?_eq_none (Nat.le_refl _)] at e
      exact e
    have hv : (UInt8.ofNat (x.toNat ||| b * 2 ^ (L.length % 8))).toNat = x.toNat ||| b * 2 ^ (L.length % 8) := by
      have := or_lt256 x.toNat b (L.length % 8) x.toNat_lt hb (Nat.mod_lt _ (by decide))
      simp only [UInt8.toNat_ofNat']
      exact Nat.mod_eq_of_lt this
    by_cases e : p / 8 = L.length / 8
    · unfold bitAt
      rw [List.getD_eq_getElem?_getD, List.getElem?_set, if_pos e.symm, if_pos (by omega)]
      show (UInt8.ofNat _).toNat / 2 ^ (p % 8) % 2 = _
      rw [hv, or_place _ _ _ _ hb hx0]
      by_cases e2 : p % 8 = L.length % 8
      · obtain rfl : p = L.length := by omega
        rw [if_pos rfl, List.getD_eq_getElem?_getD, List.getElem?_append_right (Nat.le_refl _), Nat.sub_self]
        rfl
      · rw [if_neg e2]
        have e3 := room_bit bs L.length p
        rw [h.2 p] at e3
        unfold bitAt at e3
        rw [List.getD_eq_getElem?_getD, e, hx] at e3
        have e4 : x.toNat / 2 ^ (p % 8) % 2 = L.getD p 0 := e3
        rw [e4, List.getD_eq_getElem?_getD, List.getD_eq_getElem?_getD, List.getElem?_append]
        split
        · rfl
        · rename_i hge
          have : ¬ p = L.length := fun e => e2 (by rw [e])
          rw [List.getElem?_eq_none (l := L) (by omega)]
          cases hk : p - L.length with
          | zero => omega
          | succ k => simp
    · have e3 := room_bit bs L.length p
      rw [h.2 p] at e3
      have e5 : bitAt ((room bs L.length).set (L.length / 8) (UInt8.ofNat (x.toNat ||| b * 2 ^ (L.length % 8)))) p = bitAt (room bs L.length) p := by
        unfold bitAt
        rw [List.getD_eq_getElem?_getD, List.getD_eq_getElem?_getD, List.getElem?_set, if_neg (fun e' => e e'.symm)]
      rw [e5, e3, List.getD_eq_getElem?_getD, List.getD_eq_getElem?_getD, List.getElem?_append]
      split
      · rfl
      · rename_i hge
        have : ¬ p = L.length := fun e' => e (by rw [e'])
        rw [List.getElem?_eq_none (l := L) (by omega)]
        cases hk : p - L.length with
        | zero => omega
        | succ k => simp
/-- The first k bits of a number of n bits, the greatest first. -/
def msb (v n : Nat) : Nat → List Nat
  | 0 => []
  | k + 1 => msb v n k ++ [v / 2 ^ (n - 1 - k) % 2]
theorem msb_len (v n k : Nat) : (msb v n k).length = k := by
  induction k with
  | zero => rfl
  | succ k ih => rw [msb, List.length_append, ih]; rfl
theorem msb_get (v n k j : Nat) (h : j < k) : (msb v n k)[j]? = some (v / 2 ^ (n - 1 - j) % 2) := by
  induction k with
  | zero => omega
  | succ k ih =>
    rw [msb]
    by_cases e : j < k
    · rw [List.getElem?_append_left (by rw [msb_len]; exact e)]; exact ih e
    · obtain rfl : j = k := by omega
      rw [List.getElem?_append_right (by rw [msb_len]; exact Nat.le_refl _), msb_len, Nat.sub_self]
      rfl
/-- The bits of a place's code. -/
def codeB (ls : List Int) (p : Nat) : List Nat := msb (codeAt ls p).1 (codeAt ls p).2.toNat (codeAt ls p).2.toNat
theorem fst_step2 (ls : List Int) {a b : Nat} (h : a < b) : (fst ls a + cz ls a) * 2 ^ (b - a) ≤ fst ls b := by
  induction b with
  | zero => omega
  | succ b ih =>
    rw [fst]
    rcases Nat.lt_or_ge a b with h1 | h1
    · have := ih h1
      rw [show b + 1 - a = (b - a) + 1 by omega, Nat.pow_succ, ← Nat.mul_assoc]
      omega
    · obtain rfl : a = b := by omega
      rw [show a + 1 - a = 1 by omega]
      omega
theorem hit_less {ls : List Int} {t v p : Nat} (h0 : 1 ≤ t) (h : Hit ls t v p) {a : Nat} (ha : 1 ≤ a) (hat : a < t) : ∀ q, ¬ Hit ls a (v / 2 ^ (t - a)) q := by
  intro q hq
  have h1 := (hit_bound ha hq).2
  have h2 := fst_step2 ls hat
  have h3 := (hit_bound h0 h).1
  have h4 : fst ls a + cz ls a ≤ v / 2 ^ (t - a) := (Nat.le_div_iff_mul_le (Nat.two_pow_pos _)).2 (by omega)
  omega
/-- A code that stands in the bits is read. -/
theorem nx_code {ls : List Int} {bs : List UInt8} {t v p P : Nat} (h0 : 1 ≤ t) (ht : t ≤ 15) (hv : v < 2 ^ t) (h : Hit ls t v p) (hP : P + t ≤ 8 * bs.length) (hb : ∀ j, j < t → bitAt bs (P + j) = v / 2 ^ (t - 1 - j) % 2) :
    nx ls bs 15 1 0 P = ((p : Int), 0, P + t) := by
  have key : ∀ d j, j + d + 1 = t → nx ls bs (15 - j) (j + 1) (v / 2 ^ (t - j)) (P + j) = ((p : Int), 0, P + t) := by
    intro d
    induction d with
    | zero =>
      intro j hj
      obtain rfl : t = j + 1 := by omega
      have e : v / 2 ^ (j + 1 - j) * 2 + bitAt bs (P + j) = v := by
        rw [hb j (by omega), show j + 1 - j = 1 by omega, show j + 1 - 1 - j = 0 by omega, Nat.pow_one, Nat.pow_zero, Nat.div_one]
        omega
      have hh : hitN ls (j + 1) (v / 2 ^ (j + 1 - j) * 2 + bitAt bs (P + j)) = some p := by rw [e]; exact hit_some h
      rw [show 15 - j = (14 - j) + 1 by omega, nx_hit (by omega) hh, Nat.add_assoc]
    | succ d ih =>
      intro j hj
      have e : v / 2 ^ (t - j) * 2 + bitAt bs (P + j) = v / 2 ^ (t - (j + 1)) := by
        rw [hb j (by omega), show t - 1 - j = t - (j + 1) by omega, show t - j = (t - (j + 1)) + 1 by omega, Nat.pow_succ, ← Nat.div_div_eq_div_mul]
        omega
      have hh : hitN ls (j + 1) (v / 2 ^ (t - j) * 2 + bitAt bs (P + j)) = none := by rw [e]; exact hit_none (hit_less h0 h (by omega) (by omega))
      rw [show 15 - j = (15 - (j + 1)) + 1 by omega, nx_on (by omega) hh, e]
      have := ih (j + 1) (by omega)
      rw [show P + (j + 1) = P + j + 1 by omega] at this
      exact this
  have := key (t - 1) 0 (by omega)
  rw [show v / 2 ^ (t - 0) = 0 from Nat.div_eq_of_lt hv] at this
  exact this
/-- What Next reads where a place's code stands. -/
theorem nx_place {ls : List Int} (hbad : badL ls = false) (hk : krN ls ≤ 32768) {bs : List UInt8} {L1 L2 : List Nat} {p t : Nat} (hp : ls[p]? = some (t : Int)) (h0 : 0 < t) (hW : WB bs (L1 ++ (codeB ls p ++ L2))) :
    nx ls bs 15 1 0 L1.length = ((p : Int), 0, L1.length + (codeB ls p).length) := by
  have hg := good_at hbad hp
  have ht : t ≤ 15 := by omega
  have hc := codeAt_pos hp h0
  have hl : (codeB ls p).length = t := by unfold codeB; rw [hc, msb_len]; simp
  have hh : Hit ls t (fst ls t + cnt (ls.take p) t) p := ⟨hp, rfl⟩
  have hlt : fst ls t + cnt (ls.take p) t < 2 ^ t := Nat.lt_of_lt_of_le (hit_bound h0 hh).2 (fst_pow ls hbad hk t ht)
  rw [hl]
  refine nx_code h0 ht hlt hh ?_ (fun j hj => ?_)
  · have := hW.1
    rw [List.length_append, List.length_append, hl] at this
    omega
  · rw [hW.2, List.getD_eq_getElem?_getD, List.getElem?_append_right (by omega), Nat.add_sub_cancel_left, List.getElem?_append_left (by omega)]
    unfold codeB
    rw [hc]
    rw [msb_get _ _ _ _ (by simpa using hj)]
    rfl
end Go.Proofs.Yteoolehdomjkkaa
