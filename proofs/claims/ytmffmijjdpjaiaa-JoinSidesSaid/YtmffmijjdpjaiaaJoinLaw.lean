/- join: what the statements lean on. -/
import Derived.Test.YtmffmijjdpjaiaaFirst23
namespace Go.Proofs.Ytmffmijjdpjaiaa
set_option linter.all false
open Go.RowKit

theorem wrongT_cases (l : List Tr) : wrongT l = 0 ∨ wrongT l = 4 ∨ wrongT l = 13 := by
  unfold wrongT
  split
  · split
    · exact .inl rfl
    · exact .inr (.inr rfl)
  · exact .inr (.inl rfl)

theorem merge17_no (o a b : Tr) (B : Nat) (w : World) (ho : o.ok w B) (ha : a.ok w B) (hb : b.ok w B) (hB1 : B ≤ w.heap.size) (E : Int) (hE : wrongT [o, a, b] = E) (hE0 : E = 4 ∨ E = 13) :
    Calls Try.prog 19 #[o.s.r o.A o.n o.c, a.s.r a.A a.n a.c, b.s.r b.A b.n b.c] w fun e w' => e = .returned (.tuple #[(⟨0, 0, 0, 0⟩ : Sh).r none 0 0, .slice none 0 0, .int .i64 E]) ∧ Below w.heap.size w w' := by
  rcases hE0 with rfl | rfl
  · exact merge17_4 o a b B w ho ha hb hB1 hE
  · exact merge17_13 o a b B w ho ha hb hB1 hE
theorem differ_no (a b : Tr) (B : Nat) (w : World) (ha : a.ok w B) (hb : b.ok w B) (hB1 : B ≤ w.heap.size) (E : Int) (hE : wrongT [a, b] = E) (hE0 : E = 4 ∨ E = 13) :
    Calls Try.prog 21 #[a.s.r a.A a.n a.c, b.s.r b.A b.n b.c] w fun e w' => e = .returned (.tuple #[.slice none 0 0, .int .i64 E]) ∧ Below w.heap.size w w' := by
  rcases hE0 with rfl | rfl
  · exact differ_4 a b B w ha hb hB1 hE
  · exact differ_13 a b B w ha hb hB1 hE
/-- What Resolve says where it does not. -/
def resE (a b : Tr) (mn : Nat) : Int := if wrongT [a, b] = 0 then (if mn = a.n then 0 else 13) else wrongT [a, b]
theorem resE_zero {a b : Tr} {mn : Nat} (h : resE a b mn = 0) : wrongT [a, b] = 0 ∧ mn = a.n := by
  unfold resE at h
  by_cases h1 : wrongT [a, b] = 0
  · rw [if_pos h1] at h
    by_cases h2 : mn = a.n
    · exact ⟨h1, h2⟩
    · rw [if_neg h2] at h; cases h
  · rw [if_neg h1] at h; exact absurd h h1
theorem resE_cases (a b : Tr) (mn : Nat) : resE a b mn = 0 ∨ (resE a b mn = 4 ∨ resE a b mn = 13) := by
  unfold resE
  split
  · split
    · exact .inl rfl
    · exact .inr (.inr rfl)
  · rename_i h
    rcases wrongT_cases [a, b] with e | e | e
    · exact absurd e h
    · exact .inr (.inl e)
    · exact .inr (.inr e)
theorem resolve_err (a b : Tr) (B mn mc : Nat) (mA : Option Addr) (ml : List Bool) (w : World) (ha : a.ok w B) (hb : b.ok w B) (hB1 : B ≤ w.heap.size) (E : Int) (hE : resE a b mn = E) (hE0 : E = 4 ∨ E = 13) :
    Calls Try.prog 17 #[a.s.r a.A a.n a.c, .slice mA mn mc, b.s.r b.A b.n b.c] w fun e w' => e = .returned (.tuple #[(⟨0, 0, 0, 0⟩ : Sh).r none 0 0, .int .i64 E]) ∧ Below w.heap.size w w' := by
  unfold resE at hE
  by_cases h1 : wrongT [a, b] = 0
  · rw [if_pos h1] at hE
    by_cases h2 : mn = a.n
    · rw [if_pos h2] at hE; exact absurd hE (by rcases hE0 with rfl | rfl <;> decide)
    · rw [if_neg h2] at hE; subst hE; exact resolve_len a b B mn mc mA ml w ha hb hB1 h1 h2
  · rw [if_neg h1] at hE; exact resolve_no a b B mn mc mA ml w ha hb hB1 E hE hE0
theorem resolve17_err (a b : Tr) (B mn mc : Nat) (mA : Option Addr) (ml : List Bool) (w : World) (ha : a.ok w B) (hb : b.ok w B) (hB1 : B ≤ w.heap.size) (E : Int) (hE : resE a b mn = E) (hE0 : E = 4 ∨ E = 13) :
    Calls Try.prog 20 #[a.s.r a.A a.n a.c, .slice mA mn mc, b.s.r b.A b.n b.c] w fun e w' => e = .returned (.tuple #[(⟨0, 0, 0, 0⟩ : Sh).r none 0 0, .int .i64 E]) ∧ Below w.heap.size w w' := by
  unfold resE at hE
  by_cases h1 : wrongT [a, b] = 0
  · rw [if_pos h1] at hE
    by_cases h2 : mn = a.n
    · rw [if_pos h2] at hE; exact absurd hE (by rcases hE0 with rfl | rfl <;> decide)
    · rw [if_neg h2] at hE; subst hE; exact resolve17_len a b B mn mc mA ml w ha hb hB1 h1 h2
  · rw [if_neg h1] at hE
    subst hE
    rcases hE0 with e | e
    · rw [e]; exact resolve17_4 a b B mn mc mA ml w ha hb hB1 e
    · rw [e]; exact resolve17_13 a b B mn mc mA ml w ha hb hB1 e

theorem get_map {α : Type} {n : Nat} {f : Nat → α} {i : Nat} {x : α} (h : ((List.range n).map f)[i]? = some x) : i < n ∧ f i = x := by
  have h1 := (List.getElem?_eq_some_iff.1 h).1
  simp at h1
  rw [map_range_get n f i h1] at h
  exact ⟨h1, Option.some.inj h⟩
theorem allOk_map {n : Nat} {f : Nat → ByteArray} (h : ∀ i, i < n → keyOk (f i) = true) : allOk ((List.range n).map f) = true := by
  unfold allOk
  rw [List.all_eq_true]
  intro x hx
  rw [List.mem_map] at hx
  obtain ⟨i, hi, rfl⟩ := hx
  exact h i (List.mem_range.1 hi)
theorem allOk_getD {l : List ByteArray} (h : allOk l = true) {i : Nat} (hi : i < l.length) : keyOk (l.getD i .empty) = true := by
  unfold allOk at h
  rw [List.all_eq_true] at h
  rw [List.getD_eq_getElem?_getD, List.getElem?_eq_getElem hi]
  exact h _ (List.getElem_mem hi)
theorem shortT_map {n : Nat} {f : Nat → ByteArray} (h : ∀ i, i < n → (f i).size ≤ 140737488355328) : shortT ((List.range n).map f) := by
  intro x hx
  rw [List.mem_map] at hx
  obtain ⟨i, hi, rfl⟩ := hx
  exact h i (List.mem_range.1 hi)
theorem shortT_getD {l : List ByteArray} (h : shortT l) (i : Nat) : (l.getD i .empty).size ≤ 140737488355328 := by
  rw [List.getD_eq_getElem?_getD]
  cases e : l[i]? with
  | none => simp
  | some x =>
    obtain ⟨h1, h2⟩ := List.getElem?_eq_some_iff.1 e
    exact h x (by rw [← h2]; exact List.getElem_mem h1)
/-- A tree that reads, of the call's own. -/
theorem Tr.ok_own {w : World} {base g n c : Nat} {l : List ByteArray} {s : Sh} (h : ownT w base (.slice (some ⟨g, 0, none⟩) n c) l) (hs : shortT l) : Tr.ok w w.heap.size ⟨s, some ⟨g, 0, none⟩, n, c, l⟩ := by
  obtain ⟨A, c', e, -, h1, h2⟩ := h.form
  injection e with e1 e2 e3
  subst e3
  exact ⟨h.rd, by rw [e2]; exact h1, h2, hs⟩
theorem may_same {s : Sh} {l m : List ByteArray} (h : mayT s l = true) (hl : m.length = l.length) (hm : allOk m = true) : mayT s m = true := by
  obtain ⟨-, -, h3, -⟩ := mayT_len h
  unfold mayT at h ⊢
  simp only [Bool.and_eq_true, decide_eq_true_eq] at h ⊢
  exact ⟨h.1, by rw [hl]; exact h3, hm⟩
theorem wrong2_mk {a b : Tr} (ha : a.may = true) (hb : b.may = true) (hs : b.s = a.s) : wrongT [a, b] = 0 := by
  unfold wrongT
  simp [ha, hb, hs]
theorem wrong3_mk {o a b : Tr} (ho : o.may = true) (ha : a.may = true) (hb : b.may = true) (hs : a.s = o.s) (hs' : b.s = o.s) : wrongT [o, a, b] = 0 := by
  unfold wrongT
  simp [ho, ha, hb, hs, hs']

-- Resolve
theorem rsK_ok {t b : List ByteArray} {m : List Bool} {k : Nat} (ht : allOk t = true) (hb : allOk b = true) (hl : b.length = t.length) : allOk (rsK t b m k) = true := by
  unfold rsK
  refine allOk_map fun i hi => ?_
  split
  · exact allOk_getD hb (by omega)
  · exact allOk_getD ht hi
theorem rsK_short {t b : List ByteArray} {m : List Bool} {k : Nat} (ht : shortT t) (hb : shortT b) : shortT (rsK t b m k) := by
  unfold rsK
  refine shortT_map fun i hi => ?_
  split
  · exact shortT_getD hb i
  · exact shortT_getD ht i
theorem rsK_self (t : List ByteArray) (m : List Bool) (k : Nat) : rsK t t m k = t := by
  unfold rsK
  rw [map_range_eq _ (fun i => t.getD i .empty) _ (fun i _ => by split <;> rfl)]
  exact map_range_self _ _
theorem rsK_full (t b : List ByteArray) (hl : b.length = t.length) : rsK t b (List.replicate t.length true) t.length = b := by
  unfold rsK
  rw [map_range_eq _ (fun i => b.getD i .empty) _ (fun i hi => by rw [if_pos ⟨hi, by simp [List.getD, hi]⟩]), ← hl]
  exact map_range_self _ _
theorem rsK_at {t b : List ByteArray} {m : List Bool} {i : Nat} {x y : ByteArray} {q : Bool} (ht : t[i]? = some x) (hb : b[i]? = some y) (hm : m[i]? = some q) : (rsK t b m t.length)[i]? = some (if q then y else x) := by
  obtain ⟨h1, h2⟩ := List.getElem?_eq_some_iff.1 ht
  unfold rsK
  rw [map_range_get _ _ i h1, getD_of _ hm, getD_of _ hb, getD_of _ ht]
  cases q
  · rw [if_neg (by simp)]; rfl
  · rw [if_pos ⟨h1, rfl⟩]; rfl
theorem chg_mem {a b : List ByteArray} {k : Nat} {z : Int} (h : z ∈ chg a b k) : ∃ i : Nat, z = (i : Int) ∧ i < k ∧ a.getD i .empty ≠ b.getD i .empty := by
  unfold chg at h
  rw [List.mem_map] at h
  obtain ⟨i, hi, rfl⟩ := h
  rw [List.mem_filter] at hi
  exact ⟨i, rfl, List.mem_range.1 hi.1, by simpa using hi.2⟩
theorem chg_rs {t b : List ByteArray} {m : List Bool} {i : Nat} {z : Int} (hm : m.length = t.length) (h : (chg t (rsK t b m t.length) t.length)[i]? = some z) : ∃ j : Nat, z = (j : Int) ∧ j < t.length ∧ m[j]? = some true := by
  obtain ⟨h1, h2⟩ := List.getElem?_eq_some_iff.1 h
  have hz : z ∈ chg t (rsK t b m t.length) t.length := by rw [← h2]; exact List.getElem_mem h1
  clear h h1 h2
  obtain ⟨j, rfl, hj, hne⟩ := chg_mem hz
  refine ⟨j, rfl, hj, ?_⟩
  have hq : m[j]? = some m[j] := List.getElem?_eq_getElem (by omega)
  cases e : m[j] with
  | true => rw [hq, e]
  | false =>
    exfalso
    apply hne
    rw [e] at hq
    unfold rsK
    rw [List.getD_eq_getElem?_getD (l := (List.range t.length).map _), map_range_get _ _ j hj, if_neg (by rw [getD_of _ hq]; simp)]
    rfl

/-- A mask that is filled. -/
def fullTo (n k : Nat) : List Bool := (List.range n).map fun i => decide (i < k)
theorem fullTo_0 (n : Nat) : fullTo n 0 = List.replicate n false := by
  apply List.ext_getElem?
  intro i
  unfold fullTo
  by_cases hi : i < n
  · rw [map_range_get _ _ i hi, List.getElem?_replicate, if_pos hi]; simp
  · rw [List.getElem?_eq_none (by simp; omega), List.getElem?_eq_none (by simp; omega)]
theorem fullTo_n (n : Nat) : fullTo n n = List.replicate n true := by
  apply List.ext_getElem?
  intro i
  unfold fullTo
  by_cases hi : i < n
  · rw [map_range_get _ _ i hi, List.getElem?_replicate, if_pos hi]; simp [hi]
  · rw [List.getElem?_eq_none (by simp; omega), List.getElem?_eq_none (by simp; omega)]
theorem fullTo_step (n k : Nat) : fullTo n (k + 1) = (fullTo n k).set k true := by
  unfold fullTo
  rw [map_range_set n k (fun i => decide (i < k)) (fun i => decide (i < k + 1)) (fun i _ hi => by
    by_cases h : i < k
    · rw [decide_eq_true h, decide_eq_true (by omega)]
    · rw [decide_eq_false h, decide_eq_false (by omega)])]
  rw [decide_eq_true (show k < k + 1 by omega)]
theorem fullTo_len (n k : Nat) : (fullTo n k).length = n := by simp [fullTo]

-- Merge
theorem mkey_side (K x : ByteArray) : mkey K x K = x := by unfold mkey; rw [if_pos (.inl rfl)]
theorem mkey_base (K y : ByteArray) : mkey K K y = y := by
  unfold mkey
  by_cases h : y = K ∨ K = y
  · rw [if_pos h]; exact h.elim (fun e => e.symm) id
  · rw [if_neg h, if_pos rfl]
theorem mmask_iff (K x y : ByteArray) : mmask K x y = decide (x ≠ K ∧ y ≠ K ∧ x ≠ y) := by
  unfold mmask
  by_cases h1 : y = K <;> by_cases h2 : x = y <;> by_cases h3 : x = K <;> simp [h1, h2, h3]
theorem mmask_comm (K x y : ByteArray) : mmask K x y = mmask K y x := by
  rw [mmask_iff, mmask_iff, Bool.eq_iff_iff, decide_eq_true_eq, decide_eq_true_eq]
  exact ⟨fun ⟨a, b, c⟩ => ⟨b, a, fun e => c e.symm⟩, fun ⟨a, b, c⟩ => ⟨b, a, fun e => c e.symm⟩⟩
theorem mkey_comm {K x y : ByteArray} (h : mmask K x y = false) : mkey K x y = mkey K y x := by
  rw [mmask_iff, decide_eq_false_iff_not] at h
  by_cases h1 : x = K
  · subst h1; rw [mkey_base, mkey_side]
  · by_cases h2 : y = K
    · subst h2; rw [mkey_base, mkey_side]
    · by_cases h3 : x = y
      · subst h3; rfl
      · exact absurd ⟨h1, h2, h3⟩ h
theorem mkey_or (K x y : ByteArray) : mkey K x y = x ∨ mkey K x y = y := by
  unfold mkey
  split
  · exact .inl rfl
  · split
    · exact .inr rfl
    · exact .inl rfl
theorem upK_side (o a : List ByteArray) (k : Nat) (h : o.length = a.length) : upK o a o k = a := by
  unfold upK
  rw [map_range_eq _ (fun i => a.getD i .empty) _ (fun i _ => by split <;> first | rfl | exact mkey_side _ _)]
  exact map_range_self _ _
theorem upK_base (o b : List ByteArray) (h : b.length = o.length) : upK o o b o.length = b := by
  unfold upK
  rw [map_range_eq _ (fun i => b.getD i .empty) _ (fun i hi => by rw [if_pos hi]; exact mkey_base _ _), ← h]
  exact map_range_self _ _
theorem upM_comm (o a b : List ByteArray) (k : Nat) (h : b.length = a.length) : upM o a b k = upM o b a k := by
  unfold upM
  rw [h]
  exact map_range_eq _ _ _ (fun i _ => by split <;> first | rfl | exact mmask_comm _ _ _)
theorem clean_map {n : Nat} {f : Nat → Bool} : cleanL ((List.range n).map f) = true ↔ ∀ i, i < n → f i = false := by
  unfold cleanL
  rw [Bool.not_eq_true', List.any_eq_false]
  constructor
  · intro h i hi
    have := h (f i) (List.mem_map.2 ⟨i, List.mem_range.2 hi, rfl⟩)
    simpa using this
  · intro h x hx
    rw [List.mem_map] at hx
    obtain ⟨i, hi, rfl⟩ := hx
    rw [h i (List.mem_range.1 hi)]
    simp
theorem upM_side (o a : List ByteArray) (k : Nat) : cleanL (upM o a o k) = true := by
  unfold upM
  rw [clean_map]
  intro i _
  split
  · rw [mmask_iff]; simp
  · rfl
theorem upM_base (o b : List ByteArray) (k : Nat) : cleanL (upM o o b k) = true := by
  unfold upM
  rw [clean_map]
  intro i _
  split
  · rw [mmask_iff]; simp
  · rfl
theorem upK_comm {o a b : List ByteArray} (h : b.length = a.length) (hc : cleanL (upM o a b a.length) = true) : upK o a b a.length = upK o b a a.length := by
  unfold upM at hc
  rw [clean_map] at hc
  unfold upK
  rw [h]
  refine map_range_eq _ _ _ (fun i hi => ?_)
  have := hc i hi
  rw [if_pos hi] at this
  rw [if_pos hi, if_pos hi]
  exact mkey_comm this
theorem upK_get {o a b : List ByteArray} {i : Nat} {K x y : ByteArray} (ho : o[i]? = some K) (ha : a[i]? = some x) (hb : b[i]? = some y) : (upK o a b a.length)[i]? = some (mkey K x y) := by
  obtain ⟨h1, h2⟩ := List.getElem?_eq_some_iff.1 ha
  unfold upK
  rw [map_range_get _ _ i h1, if_pos h1, getD_of _ ho, getD_of _ ha, getD_of _ hb]
theorem upM_get {o a b : List ByteArray} {i : Nat} {K x y : ByteArray} (ho : o[i]? = some K) (ha : a[i]? = some x) (hb : b[i]? = some y) : (upM o a b a.length)[i]? = some (mmask K x y) := by
  obtain ⟨h1, h2⟩ := List.getElem?_eq_some_iff.1 ha
  unfold upM
  rw [map_range_get _ _ i h1, if_pos h1, getD_of _ ho, getD_of _ ha, getD_of _ hb]
theorem upK_ok {o a b : List ByteArray} {k : Nat} (ha : allOk a = true) (hb : allOk b = true) (hl : b.length = a.length) : allOk (upK o a b k) = true := by
  unfold upK
  refine allOk_map fun i hi => ?_
  split
  · rcases mkey_or (o.getD i .empty) (a.getD i .empty) (b.getD i .empty) with e | e
    · rw [e]; exact allOk_getD ha hi
    · rw [e]; exact allOk_getD hb (by omega)
  · exact allOk_getD ha hi
theorem upK_short {o a b : List ByteArray} {k : Nat} (ha : shortT a) (hb : shortT b) : shortT (upK o a b k) := by
  unfold upK
  refine shortT_map fun i hi => ?_
  split
  · rcases mkey_or (o.getD i .empty) (a.getD i .empty) (b.getD i .empty) with e | e
    · rw [e]; exact shortT_getD ha i
    · rw [e]; exact shortT_getD hb i
  · exact shortT_getD ha i
theorem chg_self (a : List ByteArray) (k : Nat) : chg a a k = [] := by
  unfold chg
  rw [List.filter_eq_nil_iff.2 (by intro i _; simp)]
  rfl
theorem chg_comm (a b : List ByteArray) (k : Nat) : chg a b k = chg b a k := by
  unfold chg
  congr 1
  apply List.filter_congr
  intro i _
  simp only [eq_comm]

theorem wrong3_comm (o a b : Tr) : wrongT [o, a, b] = wrongT [o, b, a] := by
  unfold wrongT
  cases e1 : o.may <;> cases e2 : a.may <;> cases e3 : b.may <;> simp [e1, e2, e3, and_comm]
theorem ownT.cellOf {w : World} {base g n c : Nat} {l : List ByteArray} (h : ownT w base (.slice (some ⟨g, 0, none⟩) n c) l) {k : Nat} {x : ByteArray} (e : l[k]? = some x) : w.cell? ⟨g, k, none⟩ = some (.string x) := by
  obtain ⟨A, c', e1, -⟩ := h.form
  injection e1 with _ e2 _
  obtain ⟨h1, h2⟩ := List.getElem?_eq_some_iff.1 e
  rw [h.cell e2 h1, h2]
theorem ownL.cellOf {w : World} {base g n c : Nat} {l : List Bool} (h : ownL w base (.slice (some ⟨g, 0, none⟩) n c) l) {k : Nat} {x : Bool} (e : l[k]? = some x) : w.cell? ⟨g, k, none⟩ = some (.bool x) := by
  obtain ⟨A, c', e1, -⟩ := h.form
  injection e1 with _ e2 _
  obtain ⟨h1, h2⟩ := List.getElem?_eq_some_iff.1 e
  rw [h.cell e2 h1, h2]
theorem same_tt (W H C D : Int) (l : List ByteArray) (B n c n' c' : Nat) (A A' : Option Addr) (w : World) (h : RdT w B A n l) (h' : RdT w B A' n' l) (hB : B ≤ w.heap.size) (hn : n ≤ 1099511627776) :
    Calls Try.prog 13 #[.agg #[.int .i64 W, .int .i64 H, .int .i64 C, .int .i64 D, .slice A n c], .agg #[.int .i64 W, .int .i64 H, .int .i64 C, .int .i64 D, .slice A' n' c']] w fun e w' => e = .returned (.bool true) ∧ Below w.heap.size w w' := by
  refine (same17_any ⟨W, H, C, D⟩ ⟨W, H, C, D⟩ B n c B n' c' A A' l l w h h' hB hB hn).mono ?_
  rintro e w1 ⟨rfl, hb⟩
  exact ⟨ret_bool (by simp), hb⟩
theorem tree_at (W H C D : Int) (n c : Nat) (A : Option Addr) (w : World) : Calls Try.prog 12 #[.agg #[.int .i64 W, .int .i64 H, .int .i64 C, .int .i64 D, .slice A n c]] w fun e w' => e = .returned (.agg #[.int .i64 W, .int .i64 H, .int .i64 C, .int .i64 D, .slice A n c]) ∧ Below w.heap.size w w' :=
  tree17_any ⟨W, H, C, D⟩ n c A w

end Go.Proofs.Ytmffmijjdpjaiaa
