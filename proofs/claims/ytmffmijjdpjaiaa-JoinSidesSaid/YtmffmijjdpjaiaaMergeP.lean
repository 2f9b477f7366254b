/- join: merged keys, masks: the plain part. -/
import Derived.Test.YtmffmijjdpjaiaaLists
namespace Go.Proofs.Ytmffmijjdpjaiaa
set_option linter.all false
open Go.RowKit

def mkey (k x y : ByteArray) : ByteArray := if y = k ∨ x = y then x else if x = k then y else x
def mmask (k x y : ByteArray) : Bool := !(decide (y = k) || decide (x = y)) && !decide (x = k)
theorem map_range_get {α : Type} (n : Nat) (f : Nat → α) (i : Nat) (h : i < n) : ((List.range n).map f)[i]? = some (f i) := by
  rw [List.getElem?_map, List.getElem?_range h]; rfl
theorem map_range_set {α : Type} (n k : Nat) (f g : Nat → α) (h : ∀ i, i < n → i ≠ k → g i = f i) : (List.range n).map g = ((List.range n).map f).set k (g k) := by
  apply List.ext_getElem?
  intro i
  rw [List.getElem?_set]
  by_cases hi : i < n
  · rw [map_range_get n g i hi]
    by_cases e : k = i
    · subst e; rw [if_pos rfl, if_pos (by simpa using hi)]
    · rw [if_neg e, map_range_get n f i hi, h i hi (fun q => e q.symm)]
  · rw [List.getElem?_eq_none (by simp; omega)]
    by_cases e : k = i
    · subst e; rw [if_pos rfl, if_neg (by simp; omega)]
    · rw [if_neg e, List.getElem?_eq_none (by simp; omega)]
theorem map_range_eq {α : Type} (n : Nat) (f g : Nat → α) (h : ∀ i, i < n → g i = f i) : (List.range n).map g = (List.range n).map f := by
  apply List.map_congr_left
  intro i hi
  exact h i (List.mem_range.1 hi)
theorem map_range_self {α : Type} (l : List α) (d : α) : (List.range l.length).map (fun i => l.getD i d) = l := by
  apply List.ext_getElem?
  intro i
  by_cases hi : i < l.length
  · rw [map_range_get _ _ i hi, List.getElem?_eq_getElem hi]
    simp [List.getD, hi]
  · rw [List.getElem?_eq_none (by simp; omega), List.getElem?_eq_none (by omega)]
theorem getD_of {α : Type} {l : List α} {k : Nat} {x : α} (d : α) (h : l[k]? = some x) : l.getD k d = x := by simp [List.getD, h]

def upK (o a b : List ByteArray) (k : Nat) : List ByteArray := (List.range a.length).map fun i => if i < k then mkey (o.getD i .empty) (a.getD i .empty) (b.getD i .empty) else a.getD i .empty
def upM (o a b : List ByteArray) (k : Nat) : List Bool := (List.range a.length).map fun i => if i < k then mmask (o.getD i .empty) (a.getD i .empty) (b.getD i .empty) else false
theorem upK_len (o a b : List ByteArray) (k : Nat) : (upK o a b k).length = a.length := by simp [upK]
theorem upM_len (o a b : List ByteArray) (k : Nat) : (upM o a b k).length = a.length := by simp [upM]
theorem upK_0 (o a b : List ByteArray) : upK o a b 0 = a := by
  unfold upK
  rw [map_range_eq _ (fun i => a.getD i .empty) _ (fun i _ => by rw [if_neg (by omega)])]
  exact map_range_self _ _
theorem upM_0 (o a b : List ByteArray) : upM o a b 0 = List.replicate a.length false := by
  unfold upM
  rw [map_range_eq _ (fun _ => false) _ (fun i _ => by rw [if_neg (by omega)])]
  apply List.ext_getElem?
  intro i
  by_cases hi : i < a.length
  · rw [map_range_get _ _ i hi, List.getElem?_replicate, if_pos hi]
  · rw [List.getElem?_eq_none (by simp; omega), List.getElem?_eq_none (by simp; omega)]
theorem upK_step {o a b : List ByteArray} {k : Nat} {K x y : ByteArray} (ho : o[k]? = some K) (ha : a[k]? = some x) (hb : b[k]? = some y) : upK o a b (k + 1) = (upK o a b k).set k (mkey K x y) := by
  unfold upK
  rw [map_range_set _ k (fun i => if i < k then mkey (o.getD i .empty) (a.getD i .empty) (b.getD i .empty) else a.getD i .empty) (fun i => if i < k + 1 then mkey (o.getD i .empty) (a.getD i .empty) (b.getD i .empty) else a.getD i .empty) (fun i _ hi => by
    by_cases h : i < k
    · rw [if_pos h, if_pos (by omega)]
    · rw [if_neg h, if_neg (by omega)])]
  rw [if_pos (by omega), getD_of _ ho, getD_of _ ha, getD_of _ hb]
theorem upM_step {o a b : List ByteArray} {k : Nat} {K x y : ByteArray} (ho : o[k]? = some K) (ha : a[k]? = some x) (hb : b[k]? = some y) : upM o a b (k + 1) = (upM o a b k).set k (mmask K x y) := by
  unfold upM
  rw [map_range_set _ k (fun i => if i < k then mmask (o.getD i .empty) (a.getD i .empty) (b.getD i .empty) else false) (fun i => if i < k + 1 then mmask (o.getD i .empty) (a.getD i .empty) (b.getD i .empty) else false) (fun i _ hi => by
    by_cases h : i < k
    · rw [if_pos h, if_pos (by omega)]
    · rw [if_neg h, if_neg (by omega)])]
  rw [if_pos (by omega), getD_of _ ho, getD_of _ ha, getD_of _ hb]
theorem set_same {α : Type} {l : List α} {k : Nat} {x : α} (h : l[k]? = some x) : l.set k x = l := by
  obtain ⟨h1, h2⟩ := List.getElem?_eq_some_iff.1 h
  rw [← h2]
  exact List.set_getElem_self h1
theorem upK_at {o a b : List ByteArray} {k : Nat} {x : ByteArray} (ha : a[k]? = some x) : (upK o a b k)[k]? = some x := by
  obtain ⟨h1, h2⟩ := List.getElem?_eq_some_iff.1 ha
  unfold upK
  rw [map_range_get _ _ k h1, if_neg (by omega), getD_of _ ha]
theorem upM_at {o a b : List ByteArray} {k : Nat} (hk : k < a.length) : (upM o a b k)[k]? = some false := by
  unfold upM
  rw [map_range_get _ _ k hk, if_neg (by omega)]
theorem upK_same {o a b : List ByteArray} {k : Nat} {K x y : ByteArray} (ho : o[k]? = some K) (ha : a[k]? = some x) (hb : b[k]? = some y) (h : mkey K x y = x) : upK o a b (k + 1) = upK o a b k := by
  rw [upK_step ho ha hb, h, set_same (upK_at ha)]
theorem upM_same {o a b : List ByteArray} {k : Nat} {K x y : ByteArray} (ho : o[k]? = some K) (ha : a[k]? = some x) (hb : b[k]? = some y) (h : mmask K x y = false) : upM o a b (k + 1) = upM o a b k := by
  rw [upM_step ho ha hb, h, set_same (upM_at (List.getElem?_eq_some_iff.1 ha).1)]

def rsK (t b : List ByteArray) (m : List Bool) (k : Nat) : List ByteArray := (List.range t.length).map fun i => if i < k ∧ m.getD i false = true then b.getD i .empty else t.getD i .empty
theorem rsK_len (t b : List ByteArray) (m : List Bool) (k : Nat) : (rsK t b m k).length = t.length := by simp [rsK]
theorem rsK_0 (t b : List ByteArray) (m : List Bool) : rsK t b m 0 = t := by
  unfold rsK
  rw [map_range_eq _ (fun i => t.getD i .empty) _ (fun i _ => by rw [if_neg (by omega)])]
  exact map_range_self _ _
theorem rsK_yes {t b : List ByteArray} {m : List Bool} {k : Nat} {y : ByteArray} (hm : m[k]? = some true) (hb : b[k]? = some y) : rsK t b m (k + 1) = (rsK t b m k).set k y := by
  unfold rsK
  rw [map_range_set _ k (fun i => if i < k ∧ m.getD i false = true then b.getD i .empty else t.getD i .empty) (fun i => if i < k + 1 ∧ m.getD i false = true then b.getD i .empty else t.getD i .empty) (fun i _ hi => by
    by_cases h : i < k ∧ m.getD i false = true
    · rw [if_pos h, if_pos ⟨by omega, h.2⟩]
    · rw [if_neg h, if_neg (fun q => h ⟨by omega, q.2⟩)])]
  rw [if_pos ⟨by omega, getD_of _ hm⟩, getD_of _ hb]
theorem rsK_no {t b : List ByteArray} {m : List Bool} {k : Nat} (hm : m[k]? = some false) : rsK t b m (k + 1) = rsK t b m k := by
  unfold rsK
  exact map_range_eq _ _ _ (fun i _ => by
    by_cases h : i < k ∧ m.getD i false = true
    · rw [if_pos h, if_pos ⟨by omega, h.2⟩]
    · rw [if_neg h, if_neg (fun q => h ⟨(by
        rcases Nat.lt_or_ge i k with e | e
        · exact e
        · have e2 : i = k := by omega
          have q2 := q.2
          rw [e2, getD_of _ hm] at q2
          cases q2), q.2⟩)])

/-- At which of the first k places two lists differ. -/
def chg (a b : List ByteArray) (k : Nat) : List Int := ((List.range k).filter (fun i : Nat => !decide (a.getD i .empty = b.getD i .empty))).map Int.ofNat
theorem chg_len (a b : List ByteArray) (k : Nat) : (chg a b k).length ≤ k := by
  unfold chg
  rw [List.length_map]
  have := List.length_filter_le (fun i => !decide (a.getD i .empty = b.getD i .empty)) (List.range k)
  rwa [List.length_range] at this
theorem chg_yes {a b : List ByteArray} {k : Nat} {x y : ByteArray} (ha : a[k]? = some x) (hb : b[k]? = some y) (h : ¬ x = y) : chg a b (k + 1) = chg a b k ++ [(k : Int)] := by
  unfold chg
  rw [List.range_succ, List.filter_append, List.map_append]
  congr 1
  rw [List.filter_cons_of_pos (by rw [getD_of _ ha, getD_of _ hb]; simpa using h)]
  rfl
theorem chg_no {a b : List ByteArray} {k : Nat} {x : ByteArray} (ha : a[k]? = some x) (hb : b[k]? = some x) : chg a b (k + 1) = chg a b k := by
  unfold chg
  rw [List.range_succ, List.filter_append, List.map_append]
  rw [List.filter_cons_of_neg (by rw [getD_of _ ha, getD_of _ hb]; simp)]
  simp

/-- The cells of a block that was laid just now. -/
theorem row_new {W : World} {cs : Array Value} {t : TypeId} {fr : Nat × Nat} {l : List Value} {g : Nat} (hl : cs.toList = l) (hg : W.heap.size = g) : ∀ (j : Nat) (u : Value), l[j]? = some u → (W.alloc (.cells cs t fr)).cell? ⟨g, j, none⟩ = some u := by
  intro j u hu
  subst hg hl
  rw [cell_of_row (W.alloc (.cells cs t fr)) W.heap.size j cs t fr (heap_alloc_new W _)]
  simpa using hu
theorem wrong3_any (x y z : Tr) (B : Nat) (w w' : World) (hx : x.ok w B) (hy : y.ok w B) (hz : z.ok w B) (hB1 : B ≤ w.heap.size) (g : Nat) (hrow : ∀ (j : Nat) (u : Value), (tcs [x, y, z])[j]? = some u → w'.cell? ⟨g, j, none⟩ = some u) (hb : Below w.heap.size w w') :
    Calls Try.prog 23 #[.slice (some ⟨g, 0, none⟩) 3 3] w' fun e w1 => e = .returned (.int .i64 (wrongT [x, y, z])) ∧ Below w'.heap.size w' w1 := by
  have hg : g < w'.heap.size := block_lt_of_cell (a := ⟨g, 0, none⟩) (hrow 0 _ rfl)
  have hs := hb.size
  refine wrongT_any w'.heap.size 3 3 (some ⟨g, 0, none⟩) [x, y, z] w' ⟨⟨rfl, fun _ => ⟨g, 0, rfl, hg, fun j u hu => ?_⟩⟩, ?_⟩ (Nat.le_refl _) (by omega) (by omega) (by omega)
  · rw [Nat.zero_add]; exact hrow j u hu
  · intro v hv
    simp only [List.mem_cons, List.not_mem_nil, or_false] at hv
    rcases hv with rfl | rfl | rfl
    · exact (hx.blw (hb.mono hB1)).more (by omega)
    · exact (hy.blw (hb.mono hB1)).more (by omega)
    · exact (hz.blw (hb.mono hB1)).more (by omega)
theorem wrong2_any (x y : Tr) (B : Nat) (w w' : World) (hx : x.ok w B) (hy : y.ok w B) (hB1 : B ≤ w.heap.size) (g : Nat) (hrow : ∀ (j : Nat) (u : Value), (tcs [x, y])[j]? = some u → w'.cell? ⟨g, j, none⟩ = some u) (hb : Below w.heap.size w w') :
    Calls Try.prog 23 #[.slice (some ⟨g, 0, none⟩) 2 2] w' fun e w1 => e = .returned (.int .i64 (wrongT [x, y])) ∧ Below w'.heap.size w' w1 := by
  have hg : g < w'.heap.size := block_lt_of_cell (a := ⟨g, 0, none⟩) (hrow 0 _ rfl)
  have hs := hb.size
  refine wrongT_any w'.heap.size 2 2 (some ⟨g, 0, none⟩) [x, y] w' ⟨⟨rfl, fun _ => ⟨g, 0, rfl, hg, fun j u hu => ?_⟩⟩, ?_⟩ (Nat.le_refl _) (by omega) (by omega) (by omega)
  · rw [Nat.zero_add]; exact hrow j u hu
  · intro v hv
    simp only [List.mem_cons, List.not_mem_nil, or_false] at hv
    rcases hv with rfl | rfl
    · exact (hx.blw (hb.mono hB1)).more (by omega)
    · exact (hy.blw (hb.mono hB1)).more (by omega)
theorem wrong3_zero {x y z : Tr} (h : wrongT [x, y, z] = 0) : x.may = true ∧ y.may = true ∧ z.may = true ∧ y.s = x.s ∧ z.s = x.s := by
  unfold wrongT at h
  cases e1 : x.may <;> cases e2 : y.may <;> cases e3 : z.may <;> simp [e1, e2, e3] at h
  exact ⟨rfl, rfl, rfl, h⟩
theorem wrong2_zero {x y : Tr} (h : wrongT [x, y] = 0) : x.may = true ∧ y.may = true ∧ y.s = x.s := by
  unfold wrongT at h
  cases e1 : x.may <;> cases e2 : y.may <;> simp [e1, e2] at h
  exact ⟨rfl, rfl, h⟩
theorem may_len2 {x y : Tr} (h1 : x.may = true) (h2 : y.may = true) (h : y.s = x.s) : y.ts.length = x.ts.length := by
  have a := (mayT_len h1).2.2.1
  have b := (mayT_len h2).2.2.1
  rw [h] at b
  omega

end Go.Proofs.Ytmffmijjdpjaiaa
