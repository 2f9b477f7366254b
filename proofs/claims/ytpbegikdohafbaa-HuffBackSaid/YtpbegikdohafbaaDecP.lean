/- Decoders, plainly. -/
import Derived.Test.YtpbegikdohafbaaCode5P
import Derived.Test.YtpbegikdohafbaaBitP
namespace Go.Proofs.Ytpbegikdohafbaa
set_option linter.all false
open Go.RowKit

/-- The places of length t among the first k. -/
def plc (ls : List Int) (t : Nat) : Nat → List Int
  | 0 => []
  | k + 1 => if ls[k]? = some (t : Int) then plc ls t k ++ [(k : Int)] else plc ls t k
theorem plc_len (ls : List Int) (t k : Nat) : (plc ls t k).length = cnt (ls.take k) t := by
  induction k with
  | zero => simp [plc, cnt]
  | succ k ih =>
    rw [plc]
    cases h : ls[k]? with
    | none =>
      have : ls.take (k + 1) = ls.take k := by
        rw [List.getElem?_eq_none_iff] at h
        rw [List.take_of_length_le (by omega), List.take_of_length_le h]
      rw [this, if_neg (by simp)]
      exact ih
    | some x =>
      rw [cnt_take_step h t]
      by_cases e : x = (t : Int)
      · rw [if_pos (by rw [e]), if_pos e, List.length_append, ih]; rfl
      · rw [if_neg (by simp; exact e), if_neg e, ih]; rfl
theorem plc_get {ls : List Int} {t p : Nat} (h : ls[p]? = some (t : Int)) (k : Nat) (hp : p < k) : (plc ls t k)[cnt (ls.take p) t]? = some (p : Int) := by
  induction k with
  | zero => omega
  | succ k ih =>
    rw [plc]
    by_cases e : p = k
    · subst e
      rw [if_pos h, List.getElem?_append_right (by rw [plc_len]; exact Nat.le_refl _), plc_len, Nat.sub_self]
      rfl
    · have := ih (by omega)
      split
      · rw [List.getElem?_append_left (List.getElem?_eq_some_iff.1 this).1]
        exact this
      · exact this
theorem plc_of {ls : List Int} {t i : Nat} {x : Int} (k : Nat) (h : (plc ls t k)[i]? = some x) : ∃ p : Nat, x = p ∧ p < k ∧ ls[p]? = some (t : Int) ∧ cnt (ls.take p) t = i := by
  induction k with
  | zero => simp [plc] at h
  | succ k ih =>
    rw [plc] at h
    by_cases e : ls[k]? = some (t : Int)
    · rw [if_pos e] at h
      by_cases hi : i < (plc ls t k).length
      · rw [List.getElem?_append_left hi] at h
        obtain ⟨p, a, b, c⟩ := ih h
        exact ⟨p, a, by omega, c⟩
      · rw [List.getElem?_append_right (by omega)] at h
        obtain ⟨h1, h2⟩ := List.getElem?_eq_some_iff.1 h
        have h3 : i - (plc ls t k).length = 0 := by simp at h1; omega
        refine ⟨k, ?_, by omega, e, ?_⟩
        · rw [← h2]; simp
        · rw [← plc_len]; omega
    · rw [if_neg e] at h
      obtain ⟨p, a, b, c⟩ := ih h
      exact ⟨p, a, by omega, c⟩
/-- The places of the lengths 1 to l, by lengths. -/
def allP (ls : List Int) : Nat → List Int
  | 0 => []
  | l + 1 => allP ls l ++ plc ls (l + 1) ls.length
theorem allP_get {ls : List Int} {t i : Nat} {x : Int} (h1 : 1 ≤ t) (h : (plc ls t ls.length)[i]? = some x) (l : Nat) (hl : t ≤ l) : (allP ls l)[(allP ls (t - 1)).length + i]? = some x := by
  induction l with
  | zero => omega
  | succ l ih =>
    rw [allP]
    by_cases e : t = l + 1
    · subst e
      rw [Nat.add_sub_cancel, List.getElem?_append_right (by omega), Nat.add_sub_cancel_left]
      exact h
    · have := ih (by omega)
      rw [List.getElem?_append_left (List.getElem?_eq_some_iff.1 this).1]
      exact this
theorem allP_le (ls : List Int) (l : Nat) : (allP ls l).length ≤ l * ls.length := by
  induction l with
  | zero => simp [allP]
  | succ l ih =>
    rw [allP, List.length_append, plc_len, Nat.succ_mul]
    have : cnt (ls.take ls.length) (l + 1) ≤ ls.length := Nat.le_trans (cnt_take ls ls.length (l + 1)) (cnt_le ls _)
    omega
theorem allP_none {ls : List Int} (hb : badL ls = false) (h : (allP ls 15).length = 0) {k : Nat} {x : Int} (hx : ls[k]? = some x) : ¬ 0 < x := by
  intro h0
  obtain ⟨g0, g1⟩ := good_at hb hx
  obtain ⟨t, rfl⟩ := Int.eq_ofNat_of_zero_le g0
  obtain ⟨hk, _⟩ := List.getElem?_eq_some_iff.1 hx
  have := allP_get (by omega) (plc_get hx ls.length hk) 15 (by omega)
  have := (List.getElem?_eq_some_iff.1 this).1
  omega
theorem allP_some {ls : List Int} {k : Nat} {x : Int} (hb : badL ls = false) (hx : ls[k]? = some x) (h0 : 0 < x) : ¬ (allP ls 15).length = 0 := fun h => allP_none hb h hx h0
def frL (ls : List Int) (l : Nat) : List Int := (List.range 16).map fun n => if 1 ≤ n ∧ n < l then ((allP ls (n - 1)).length : Int) else 0
theorem frL_get (ls : List Int) {l t : Nat} (h1 : 1 ≤ t) (h2 : t < l) (h3 : t < 16) : (cI (frL ls l))[t]? = some (.int .i64 ((allP ls (t - 1)).length : Int)) := by
  unfold cI frL
  rw [List.getElem?_map, List.getElem?_map, List.getElem?_range h3]
  simp only [Option.map_some]
  rw [if_pos ⟨h1, h2⟩]
theorem frL_zero (ls : List Int) {l t : Nat} (h2 : l ≤ t) (h3 : t < 16) : (cI (frL ls l))[t]? = some (.int .i64 0) := by
  unfold cI frL
  rw [List.getElem?_map, List.getElem?_map, List.getElem?_range h3]
  simp only [Option.map_some]
  rw [if_neg (by omega)]
theorem frL_one (ls : List Int) : frL ls 1 = List.replicate 16 0 := by
  unfold frL
  apply List.ext_getElem?
  intro i
  by_cases h : i < 16
  · rw [List.getElem?_map, List.getElem?_range h, List.getElem?_replicate, if_pos h]
    simp only [Option.map_some]
    rw [if_neg (by omega)]
  · rw [List.getElem?_eq_none (by simp; omega), List.getElem?_eq_none (by simp; omega)]
theorem frL_set (ls : List Int) {l : Nat} (h1 : 1 ≤ l) (h2 : l < 16) : cI (frL ls (l + 1)) = (cI (frL ls l)).set l (.int .i64 ((allP ls (l - 1)).length : Int)) := by
  unfold cI frL
  apply List.ext_getElem?
  intro i
  rw [List.getElem?_set]
  by_cases hi : i < 16
  · rw [List.getElem?_map, List.getElem?_map, List.getElem?_map, List.getElem?_map, List.getElem?_range hi]
    by_cases e : l = i
    · subst e
      rw [if_pos rfl, if_pos (by simp; omega)]
      simp only [Option.map_some]
      rw [if_pos ⟨h1, by omega⟩]
    · rw [if_neg e]
      simp only [Option.map_some]
      by_cases e2 : 1 ≤ i ∧ i < l
      · rw [if_pos e2, if_pos (by omega)]
      · rw [if_neg e2, if_neg (by omega)]
  · rw [List.getElem?_eq_none (by simp; omega)]
    by_cases e : l = i
    · omega
    · rw [if_neg e, List.getElem?_eq_none (by simp; omega)]
theorem cI_len (l : List Int) : (cI l).length = l.length := by simp [cI]
theorem cU_len (l : List Nat) : (cU l).length = l.length := by simp [cU]
theorem frL_len (ls : List Int) (l : Nat) : (cI (frL ls l)).length = 16 := by simp [cI, frL]
theorem nextL_len (ls : List Int) (l : Nat) : (cU (nextL ls l)).length = 16 := by simp [cU, nextL]
theorem cntZ_len (ls : List Int) : (cI (cntZ ls)).length = 16 := by simp [cI, cntZ, cntL]
/-- A decoder's cells. -/
def decL (ls : List Int) (l : Nat) (pv : Value) : List Value := cU (nextL ls 16) ++ (cI (cntZ ls) ++ (cI (frL ls l) ++ [pv]))
def decZ : List Value := cU (List.replicate 16 0) ++ (cI (List.replicate 16 0) ++ (cI (List.replicate 16 0) ++ [.slice none 0 0]))
theorem decL_0 (ls : List Int) (l : Nat) (pv : Value) {t : Nat} (ht : t < 16) : (decL ls l pv)[t]? = some (.int .u32 (fst ls t : Nat)) := by
  unfold decL
  rw [List.getElem?_append_left (by rw [nextL_len]; exact ht), nextL_get ls 16 ht, if_pos ht]
theorem decL_1 (ls : List Int) (l : Nat) (pv : Value) {t : Nat} (ht : t < 16) : (decL ls l pv)[16 + t]? = some (.int .i64 (cz ls t : Nat)) := by
  unfold decL
  rw [List.getElem?_append_right (by rw [nextL_len]; omega), nextL_len, Nat.add_sub_cancel_left, List.getElem?_append_left (by rw [cntZ_len]; exact ht), cntZ_get ls ht]
theorem decL_2' (ls : List Int) (l : Nat) (pv : Value) {t : Nat} (ht : t < 16) : (decL ls l pv)[32 + t]? = (cI (frL ls l))[t]? := by
  unfold decL
  rw [List.getElem?_append_right (by rw [nextL_len]; omega), nextL_len, List.getElem?_append_right (by rw [cntZ_len]; omega), cntZ_len, show 32 + t - 16 - 16 = t by omega, List.getElem?_append_left (by rw [frL_len]; exact ht)]
theorem decL_3 (ls : List Int) (l : Nat) (pv : Value) : (decL ls l pv)[48]? = some pv := by
  unfold decL
  rw [List.getElem?_append_right (by rw [nextL_len]; omega), nextL_len, List.getElem?_append_right (by rw [cntZ_len]; omega), cntZ_len, List.getElem?_append_right (by rw [frL_len]; omega), frL_len]
  rfl
theorem set_app2 {α : Type} (A B C : List α) (p x : α) (k a : Nat) (ha : a = A.length + B.length) (hk : k < C.length) : (A ++ (B ++ (C ++ [p]))).set (a + k) x = A ++ (B ++ (C.set k x ++ [p])) := by
  subst ha
  rw [List.set_append_right _ _ (by omega), List.set_append_right _ _ (by omega), List.set_append_left _ _ (by omega)]
  congr 4
  omega
theorem decL_from (ls : List Int) (pv : Value) {l : Nat} (h1 : 1 ≤ l) (h2 : l < 16) : (decL ls l pv).set (32 + l) (.int .i64 ((allP ls (l - 1)).length : Int)) = decL ls (l + 1) pv := by
  unfold decL
  rw [set_app2 _ _ _ _ _ _ 32 (by rw [nextL_len, cntZ_len]) (by rw [frL_len]; exact h2), frL_set ls h1 h2]
theorem decL_place (ls : List Int) (l : Nat) (pv v : Value) : (decL ls l pv).set 48 v = decL ls l v := by
  unfold decL
  rw [List.set_append_right _ _ (by rw [nextL_len]; omega), nextL_len, List.set_append_right _ _ (by rw [cntZ_len]; omega), cntZ_len, List.set_append_right _ _ (by rw [frL_len]; omega), frL_len]
  rfl
theorem splice0 {α : Type} (A A' R : List α) (h : A.length = A'.length) : (A ++ R).take 0 ++ A' ++ (A ++ R).drop (0 + A'.length) = A' ++ R := by
  rw [Nat.zero_add, ← h, List.drop_left, List.take_zero, List.nil_append]
theorem splice1 {α : Type} (A B B' R : List α) (a : Nat) (ha : a = A.length) (h : B.length = B'.length) : (A ++ (B ++ R)).take a ++ B' ++ (A ++ (B ++ R)).drop (a + B'.length) = A ++ (B' ++ R) := by
  subst ha
  rw [← h, List.take_left, ← List.append_assoc A B R, show A.length + B.length = (A ++ B).length by simp, List.drop_left, List.append_assoc]

/-- What New answers. -/
def nwE (ls : List Int) : Int := if cdE ls = 0 then (if (allP ls 15).length = 0 then 4 else 0) else cdE ls
/-- The code v of length t is that of the place p. -/
def Hit (ls : List Int) (t v p : Nat) : Prop := ls[p]? = some (t : Int) ∧ fst ls t + cnt (ls.take p) t = v
theorem cnt_lt2 {ls : List Int} {i k t : Nat} (h : ls[i]? = some (t : Int)) (hik : i < k) : cnt (ls.take i) t < cnt (ls.take k) t := by
  have e := cnt_take_step h t
  rw [if_pos rfl] at e
  have h2 : cnt (ls.take (i + 1)) t ≤ cnt (ls.take k) t := by
    unfold cnt
    rw [show ls.take (i + 1) = (ls.take k).take (i + 1) by rw [List.take_take, Nat.min_eq_left (by omega)]]
    exact List.Sublist.count_le _ (List.take_sublist _ _)
  omega
theorem Hit.eq {ls : List Int} {t v p q : Nat} (h : Hit ls t v p) (h' : Hit ls t v q) : p = q := by
  have h1 := h.2
  have h2 := h'.2
  rcases Nat.lt_trichotomy p q with hlt | e | hlt
  · have := cnt_lt2 h.1 hlt; omega
  · exact e
  · have := cnt_lt2 h'.1 hlt; omega
/-- The place of a code. -/
def hitN (ls : List Int) (t v : Nat) : Option Nat := (List.range ls.length).find? fun p => decide (ls[p]? = some (t : Int)) && decide (fst ls t + cnt (ls.take p) t = v)
theorem hit_some {ls : List Int} {t v p : Nat} (h : Hit ls t v p) : hitN ls t v = some p := by
  cases e : hitN ls t v with
  | none =>
    unfold hitN at e
    rw [List.find?_eq_none] at e
    exact absurd (by simp [h.1, h.2]) (e p (by rw [List.mem_range]; exact (List.getElem?_eq_some_iff.1 h.1).1))
  | some q =>
    have := List.find?_some e
    rw [Bool.and_eq_true, decide_eq_true_eq, decide_eq_true_eq] at this
    rw [Hit.eq h ⟨this.1, this.2⟩]
theorem hit_none {ls : List Int} {t v : Nat} (h : ∀ p, ¬ Hit ls t v p) : hitN ls t v = none := by
  cases e : hitN ls t v with
  | none => rfl
  | some q =>
    have := List.find?_some e
    rw [Bool.and_eq_true, decide_eq_true_eq, decide_eq_true_eq] at this
    exact absurd ⟨this.1, this.2⟩ (h q)
theorem hit_bound {ls : List Int} {t v p : Nat} (h0 : 1 ≤ t) (h : Hit ls t v p) : fst ls t ≤ v ∧ v < fst ls t + cz ls t := by
  have h1 := h.2
  have h2 := cnt_lt2 h.1 (List.getElem?_eq_some_iff.1 h.1).1
  have h3 := cz_cnt ls h0
  rw [List.take_length] at h2
  omega
theorem hit_at {ls : List Int} {t v : Nat} (h0 : 1 ≤ t) (h1 : fst ls t ≤ v) (h2 : v < fst ls t + cz ls t) : ∃ p, Hit ls t v p ∧ (plc ls t ls.length)[v - fst ls t]? = some (p : Int) ∧ p < ls.length := by
  have h3 := cz_cnt ls h0
  have hl := plc_len ls t ls.length
  rw [List.take_length] at hl
  have hi : v - fst ls t < (plc ls t ls.length).length := by omega
  have hx := List.getElem?_eq_getElem hi
  obtain ⟨p, e, hp, hpt, hc⟩ := plc_of ls.length hx
  rw [e] at hx
  exact ⟨p, ⟨hpt, by omega⟩, hx, hp⟩
/-- What Next answers, where it is then: t is the length, v the bits so far. -/
def nx (ls : List Int) (bs : List UInt8) : Nat → Nat → Nat → Nat → Int × Int × Nat
  | 0, _, _, P => (0, 4, P)
  | f + 1, t, v, P => if 8 * bs.length ≤ P then (0, 2, P) else
    match hitN ls t (v * 2 + bitAt bs P) with
    | some p => ((p : Int), 0, P + 1)
    | none => nx ls bs f (t + 1) (v * 2 + bitAt bs P) (P + 1)
theorem nx_short {ls : List Int} {bs : List UInt8} {f t v P : Nat} (h : 8 * bs.length ≤ P) : nx ls bs (f + 1) t v P = (0, 2, P) := by rw [nx, if_pos h]
theorem nx_hit {ls : List Int} {bs : List UInt8} {f t v P p : Nat} (h : ¬ 8 * bs.length ≤ P) (hh : hitN ls t (v * 2 + bitAt bs P) = some p) : nx ls bs (f + 1) t v P = ((p : Int), 0, P + 1) := by
  rw [nx, if_neg h, hh]
theorem nx_on {ls : List Int} {bs : List UInt8} {f t v P : Nat} (h : ¬ 8 * bs.length ≤ P) (hh : hitN ls t (v * 2 + bitAt bs P) = none) : nx ls bs (f + 1) t v P = nx ls bs f (t + 1) (v * 2 + bitAt bs P) (P + 1) := by
  rw [nx, if_neg h, hh]
theorem nx_mono (ls : List Int) (bs : List UInt8) (f : Nat) : ∀ t v P, P ≤ (nx ls bs f t v P).2.2 ∧ ((nx ls bs f t v P).2.1 = 0 → P < (nx ls bs f t v P).2.2 ∧ (nx ls bs f t v P).2.2 ≤ 8 * bs.length) := by
  induction f with
  | zero => intro t v P; exact ⟨Nat.le_refl _, fun h => by cases h⟩
  | succ f ih =>
    intro t v P
    by_cases h : 8 * bs.length ≤ P
    · rw [nx_short h]; exact ⟨Nat.le_refl _, fun h => by cases h⟩
    · cases hh : hitN ls t (v * 2 + bitAt bs P) with
      | some p => rw [nx_hit h hh]; exact ⟨by show P ≤ P + 1; omega, fun _ => ⟨by show P < P + 1; omega, by show P + 1 ≤ _; omega⟩⟩
      | none =>
        rw [nx_on h hh]
        obtain ⟨a, b⟩ := ih (t + 1) (v * 2 + bitAt bs P) (P + 1)
        exact ⟨by omega, fun e => ⟨by have := (b e).1; omega, (b e).2⟩⟩
theorem or_code (v b : Nat) (hv : v < 65536) (hb : b < 2) : bits .or .u32 ((v : Int) * 2) (b : Int) = ((v * 2 + b : Nat) : Int) := by
  have := u32_or_nat b (v * 2) (by omega) (by omega)
  have h2 := or_bit (x := b) (k := 1) (b := v) (by omega)
  rw [show (2 : Nat) ^ 1 = 2 from rfl] at h2
  rw [show ((v : Int) * 2) = ((v * 2 : Nat) : Int) by omega, u32_or_nat _ _ (by omega) (by omega), Nat.or_comm, h2]
  congr 1
  omega
end Go.Proofs.Ytpbegikdohafbaa
