/- huff: no lengths of a code that is not too full cost less, plainly. -/
import Derived.Test.YtpbegikdohafbaaHuffT
namespace Go.Proofs.Ytpbegikdohafbaa
set_option linter.all false

/-- What a list weighs. -/
def wsum (l : List Mem) : Int := (l.map Mem.w).sum
theorem wsum_nil : wsum [] = 0 := rfl
theorem wsum_cons (x : Mem) (l : List Mem) : wsum (x :: l) = x.w + wsum l := by simp [wsum]
theorem wsum_append (a b : List Mem) : wsum (a ++ b) = wsum a + wsum b := by simp [wsum]
theorem wsum_nonneg {l : List Mem} (h : ∀ t ∈ l, 0 ≤ t.w) : 0 ≤ wsum l := by
  induction l with
  | nil => exact Int.le_refl _
  | cons x r ih =>
    rw [wsum_cons]
    have := h x (by simp)
    have := ih (fun t ht => h t (by simp [ht]))
    omega
theorem wsum_take_mono {l : List Mem} (h : ∀ t ∈ l, 0 ≤ t.w) {a b : Nat} (hab : a ≤ b) : wsum (l.take a) ≤ wsum (l.take b) := by
  induction l generalizing a b with
  | nil => simp
  | cons x r ih =>
    cases a with
    | zero =>
      rw [List.take_zero, wsum_nil]
      exact wsum_nonneg (fun t ht => h t (List.mem_of_mem_take ht))
    | succ a =>
      cases b with
      | zero => omega
      | succ b =>
        rw [List.take_succ_cons, List.take_succ_cons, wsum_cons, wsum_cons]
        have := ih (fun t ht => h t (by simp [ht])) (show a ≤ b by omega)
        omega
theorem wsum_take_ge {v : Int} : ∀ {l : List Mem} {a : Nat}, (∀ t ∈ l, v ≤ t.w) → a + 1 ≤ l.length → v + wsum (l.take a) ≤ wsum (l.take (a + 1)) := by
  intro l
  induction l with
  | nil => intro a _ h; simp at h
  | cons x r ih =>
    intro a h ha
    rw [List.take_succ_cons, wsum_cons]
    have hx := h x (by simp)
    cases a with
    | zero => rw [List.take_zero, List.take_zero, wsum_nil]; omega
    | succ a =>
      rw [List.take_succ_cons, wsum_cons]
      have := ih (a := a) (fun t ht => h t (by simp [ht])) (by simp at ha; omega)
      omega
theorem wsum_take_cons {x : Mem} {r : List Mem} (h : ∀ y ∈ r, x.w ≤ y.w) {s : Nat} (hs : s ≤ r.length) : wsum ((x :: r).take s) ≤ wsum (r.take s) := by
  cases s with
  | zero => simp
  | succ s =>
    rw [List.take_succ_cons, wsum_cons]
    exact wsum_take_ge h hs
/-- The lightest of a sorted list stand in front. -/
theorem wsum_filter {l : List Mem} (hs : Srt Mem.w l) (p : Mem → Bool) : wsum (l.take (l.filter p).length) ≤ wsum (l.filter p) := by
  induction l with
  | nil => simp
  | cons x r ih =>
    have h2 := List.pairwise_cons.1 hs
    have := ih h2.2
    by_cases hp : p x = true
    · rw [List.filter_cons_of_pos hp, List.length_cons, List.take_succ_cons, wsum_cons, wsum_cons]
      omega
    · rw [List.filter_cons_of_neg hp]
      have h3 := wsum_take_cons h2.1 (s := (r.filter p).length) (List.length_filter_le _ _)
      omega
theorem mrg_cost (a b : List Mem) (ha : Srt Mem.w a) (hb : Srt Mem.w b) (i j : Nat) (hi : i ≤ a.length) (hj : j ≤ b.length) : wsum ((mrgBy Mem.w a b).take (i + j)) ≤ wsum (a.take i) + wsum (b.take j) := by
  fun_induction mrgBy Mem.w a b generalizing i j with
  | case1 b =>
    obtain rfl : i = 0 := by simpa using hi
    rw [Nat.zero_add, List.take_zero, wsum_nil]
    omega
  | case2 x r =>
    obtain rfl : j = 0 := by simpa using hj
    rw [Nat.add_zero, List.take_zero, wsum_nil]
    omega
  | case3 x r y s hlt ih =>
    have h2 := List.pairwise_cons.1 hb
    cases j with
    | succ j =>
      rw [show i + (j + 1) = (i + j) + 1 by omega, List.take_succ_cons, List.take_succ_cons, wsum_cons, wsum_cons]
      have := ih ha h2.2 i j hi (by simpa using hj)
      omega
    | zero =>
      cases i with
      | zero => simp [wsum_nil]
      | succ i =>
        rw [show i + 1 + 0 = i + 1 by omega, List.take_succ_cons, wsum_cons, List.take_zero, wsum_nil]
        have h3 := ih ha h2.2 i 0 (by simp at hi ⊢; omega) (by simp)
        rw [List.take_zero, wsum_nil, Nat.add_zero] at h3
        have h4 := wsum_take_ge (v := x.w) (l := x :: r) (a := i) (fun t ht => by
          rcases List.mem_cons.1 ht with rfl | ht
          · exact Int.le_refl _
          · exact (List.pairwise_cons.1 ha).1 t ht) hi
        omega
  | case4 x r y s hge ih =>
    have h2 := List.pairwise_cons.1 ha
    cases i with
    | succ i =>
      rw [show i + 1 + j = (i + j) + 1 by omega, List.take_succ_cons, List.take_succ_cons, wsum_cons, wsum_cons]
      have := ih h2.2 hb i j (by simpa using hi) hj
      omega
    | zero =>
      cases j with
      | zero => simp [wsum_nil]
      | succ j =>
        rw [show 0 + (j + 1) = j + 1 by omega, List.take_succ_cons, wsum_cons, List.take_zero, wsum_nil]
        have h3 := ih h2.2 hb 0 j (by simp) (by simp at hj ⊢; omega)
        rw [List.take_zero, wsum_nil, Nat.zero_add] at h3
        have h4 := wsum_take_ge (v := y.w) (l := y :: s) (a := j) (fun t ht => by
          rcases List.mem_cons.1 ht with rfl | ht
          · exact Int.le_refl _
          · exact (List.pairwise_cons.1 hb).1 t ht) hj
        omega
theorem mrg_mem {a b : List Mem} {t : Mem} (h : t ∈ mrgBy Mem.w a b) : t ∈ a ∨ t ∈ b := by
  fun_induction mrgBy Mem.w a b with
  | case1 b => exact .inr h
  | case2 x r => exact .inl h
  | case3 x r y s hlt ih =>
    rcases List.mem_cons.1 h with rfl | h
    · exact .inr (by simp)
    · rcases ih h with h | h
      · exact .inl h
      · exact .inr (by simp [h])
  | case4 x r y s hge ih =>
    rcases List.mem_cons.1 h with rfl | h
    · exact .inl (by simp)
    · rcases ih h with h | h
      · exact .inl (by simp [h])
      · exact .inr h
theorem mrg_srt {a b : List Mem} (ha : Srt Mem.w a) (hb : Srt Mem.w b) : Srt Mem.w (mrgBy Mem.w a b) := by
  fun_induction mrgBy Mem.w a b with
  | case1 b => exact hb
  | case2 x r => exact ha
  | case3 x r y s hlt ih =>
    have h2 := List.pairwise_cons.1 hb
    have h1 := List.pairwise_cons.1 ha
    refine List.pairwise_cons.2 ⟨fun t ht => ?_, ih ha h2.2⟩
    rcases mrg_mem ht with h | h
    · rcases List.mem_cons.1 h with rfl | h
      · omega
      · have := h1.1 t h; omega
    · exact h2.1 t h
  | case4 x r y s hge ih =>
    have h2 := List.pairwise_cons.1 hb
    have h1 := List.pairwise_cons.1 ha
    refine List.pairwise_cons.2 ⟨fun t ht => ?_, ih h1.2 hb⟩
    rcases mrg_mem ht with h | h
    · exact h1.1 t h
    · rcases List.mem_cons.1 h with rfl | h
      · omega
      · have := h2.1 t h; omega
theorem packs_srt {l : List Mem} (h : Srt Mem.w l) : Srt Mem.w (packs l) := by
  fun_induction packs l with
  | case1 a b r ih =>
    have h1 := List.pairwise_cons.1 h
    have h2 := List.pairwise_cons.1 h1.2
    refine List.pairwise_cons.2 ⟨fun t ht => ?_, ih h2.2⟩
    obtain ⟨u, v, rfl, hu, hv⟩ := packs_mem ht
    have e1 := h1.1 u (by simp [hu])
    have e2 := h2.1 v hv
    show a.w + b.w ≤ u.w + v.w
    omega
  | case2 l h => exact List.Pairwise.nil
theorem pmL_srt {first : List Mem} (h : Srt Mem.w first) : ∀ k, Srt Mem.w (pmL first k)
  | 0 => h
  | k + 1 => mrg_srt h (packs_srt (pmL_srt h k))
theorem packs_sum (l : List Mem) (u : Nat) (hu : 2 * u ≤ l.length) : wsum ((packs l).take u) = wsum (l.take (2 * u)) := by
  fun_induction packs l generalizing u with
  | case1 a b r ih =>
    cases u with
    | zero => rfl
    | succ u =>
      rw [List.take_succ_cons, wsum_cons, ih u (by simp at hu; omega), show 2 * (u + 1) = 2 * u + 1 + 1 by omega, List.take_succ_cons, List.take_succ_cons, wsum_cons, wsum_cons]
      show a.w + b.w + _ = _
      omega
  | case2 l h =>
    cases u with
    | zero => rfl
    | succ u =>
      exfalso
      match l, h with
      | [], _ => simp at hu
      | [x], _ => simp at hu; omega
      | a :: b :: r, h => exact h a b r rfl
theorem mrg_len (a b : List Mem) : (mrgBy Mem.w a b).length = a.length + b.length := by
  fun_induction mrgBy Mem.w a b <;> simp_all <;> omega

/-- What chosen lengths cost, level by level; and how much they take. -/
def costO (first : List Mem) : (Nat → Nat) → Nat → Int
  | _, 0 => 0
  | o, k + 1 => wsum (first.filter fun t => decide (0 < o t.pl)) + costO first (fun p => o p - 1) k
def widO (first : List Mem) : (Nat → Nat) → Nat → Nat
  | _, 0 => 0
  | o, k + 1 => (first.filter fun t => decide (0 < o t.pl)).length * 2 ^ k + widO first (fun p => o p - 1) k
theorem costO_nonneg {first : List Mem} (h : ∀ t ∈ first, 0 ≤ t.w) : ∀ k (o : Nat → Nat), 0 ≤ costO first o k
  | 0, _ => Int.le_refl _
  | k + 1, o => by
    have := costO_nonneg h k (fun p => o p - 1)
    have h2 := wsum_nonneg (l := first.filter fun t => decide (0 < o t.pl)) (fun t ht => h t (List.mem_filter.1 ht).1)
    show 0 ≤ wsum _ + costO first _ k
    omega
theorem costO_eq (first : List Mem) : ∀ k (o : Nat → Nat), (∀ t ∈ first, o t.pl ≤ k) → costO first o k = (first.map fun t => t.w * (o t.pl : Int)).sum
  | 0, o, h => by
    show 0 = _
    induction first with
    | nil => rfl
    | cons x r ih =>
      have := h x (by simp)
      rw [List.map_cons, List.sum_cons, ← ih (fun t ht => h t (by simp [ht])), show o x.pl = 0 by omega]
      simp
  | k + 1, o, h => by
    have e := costO_eq first k (fun p => o p - 1) (fun t ht => by have := h t ht; show o t.pl - 1 ≤ k; omega)
    show wsum _ + costO first _ k = _
    rw [e]
    clear e h
    induction first with
    | nil => rfl
    | cons x r ih =>
      rw [List.map_cons, List.sum_cons, List.map_cons, List.sum_cons, ← ih]
      by_cases h0 : 0 < o x.pl
      · rw [List.filter_cons_of_pos (by simpa using h0), wsum_cons]
        obtain ⟨j, hj⟩ : ∃ j, o x.pl = j + 1 := ⟨o x.pl - 1, by omega⟩
        rw [hj, show j + 1 - 1 = j by omega, show ((j + 1 : Nat) : Int) = (j : Int) + 1 from rfl, Int.mul_add, Int.mul_one]
        omega
      · rw [List.filter_cons_of_neg (by simpa using h0), show o x.pl = 0 by omega]
        simp
theorem widO_eq (first : List Mem) : ∀ k (o : Nat → Nat), widO first o k + (first.map fun t => 2 ^ (k - o t.pl)).sum = first.length * 2 ^ k
  | 0, o => by
    show 0 + _ = _
    induction first with
    | nil => rfl
    | cons x r ih =>
      rw [List.map_cons, List.sum_cons, List.length_cons, Nat.add_mul, ← ih]
      simp
      omega
  | k + 1, o => by
    have e := widO_eq first k (fun p => o p - 1)
    show _ * 2 ^ k + widO first _ k + _ = _
    have key : (first.filter fun t => decide (0 < o t.pl)).length * 2 ^ k + (first.map fun t => 2 ^ (k + 1 - o t.pl)).sum = first.length * 2 ^ k + (first.map fun t => 2 ^ (k - (o t.pl - 1))).sum := by
      clear e
      induction first with
      | nil => rfl
      | cons x r ih =>
        rw [List.map_cons, List.sum_cons, List.map_cons, List.sum_cons, List.length_cons, Nat.add_mul]
        by_cases h0 : 0 < o x.pl
        · rw [List.filter_cons_of_pos (by simpa using h0), List.length_cons, Nat.add_mul, show k + 1 - o x.pl = k - (o x.pl - 1) by omega]
          omega
        · rw [List.filter_cons_of_neg (by simpa using h0), show o x.pl = 0 by omega]
          have : 2 ^ (k + 1 - 0) = 2 ^ k * 2 := Nat.pow_succ 2 k
          rw [this, show k - (0 - 1) = k by omega]
          omega
    have e2 : first.length * 2 ^ (k + 1) = first.length * 2 ^ k + first.length * 2 ^ k := by rw [Nat.pow_succ, ← Nat.mul_assoc]; omega
    rw [e2]
    omega
/-- The rounds' front costs no more than any choice that takes as much. -/
theorem pm_best {first : List Mem} (hs : Srt Mem.w first) (h0 : ∀ t ∈ first, 0 ≤ t.w) : ∀ k (o : Nat → Nat) (t : Nat), t * 2 ^ k ≤ widO first o (k + 1) → t ≤ (pmL first k).length ∧ wsum ((pmL first k).take t) ≤ costO first o (k + 1)
  | 0, o, t, h => by
    have h1 : t ≤ (first.filter fun t => decide (0 < o t.pl)).length := by
      have : widO first o (0 + 1) = (first.filter fun t => decide (0 < o t.pl)).length * 2 ^ 0 + 0 := rfl
      rw [this] at h
      simpa using h
    have h2 := List.length_filter_le (fun t => decide (0 < o t.pl)) first
    refine ⟨Nat.le_trans h1 h2, ?_⟩
    show wsum (first.take t) ≤ wsum _ + 0
    have h3 := wsum_filter hs (fun t => decide (0 < o t.pl))
    have h4 := wsum_take_mono h0 h1
    omega
  | k + 1, o, t, h => by
    have hl : (pmL first (k + 1)).length = first.length + (packs (pmL first k)).length := mrg_len _ _
    have hS := List.length_filter_le (fun t => decide (0 < o t.pl)) first
    have h3 := wsum_filter hs (fun t => decide (0 < o t.pl))
    have hps := packs_srt (pmL_srt hs k)
    have ew : widO first o (k + 1 + 1) = (first.filter fun t => decide (0 < o t.pl)).length * 2 ^ (k + 1) + widO first (fun p => o p - 1) (k + 1) := rfl
    have ec : costO first o (k + 1 + 1) = wsum (first.filter fun t => decide (0 < o t.pl)) + costO first (fun p => o p - 1) (k + 1) := rfl
    rw [ew] at h
    rw [ec]
    clear ew ec
    generalize (first.filter fun t => decide (0 < o t.pl)) = F at *
    by_cases ht : t ≤ F.length
    · refine ⟨by omega, ?_⟩
      have h4 := mrg_cost first (packs (pmL first k)) hs hps t 0 (by omega) (by omega)
      rw [List.take_zero, wsum_nil, Nat.add_zero] at h4
      have h5 := wsum_take_mono h0 ht
      have h6 := costO_nonneg h0 (k + 1) (fun p => o p - 1)
      show wsum ((mrgBy Mem.w first (packs (pmL first k))).take t) ≤ _
      omega
    · obtain ⟨u, rfl⟩ : ∃ u, t = F.length + u := ⟨t - F.length, by omega⟩
      have hu : (2 * u) * 2 ^ k ≤ widO first (fun p => o p - 1) (k + 1) := by
        have e1 : (2 * u) * 2 ^ k = u * 2 ^ (k + 1) := by rw [Nat.pow_succ, Nat.mul_comm 2 u, Nat.mul_assoc, Nat.mul_comm 2 (2 ^ k)]
        rw [e1]
        rw [Nat.add_mul] at h
        omega
      obtain ⟨h4, h5⟩ := pm_best hs h0 k (fun p => o p - 1) (2 * u) hu
      have hpl := packs_len (pmL first k)
      refine ⟨by omega, ?_⟩
      have h6 := mrg_cost first (packs (pmL first k)) hs hps F.length u (by omega) (by omega)
      rw [packs_sum _ u h4] at h6
      show wsum ((mrgBy Mem.w first (packs (pmL first k))).take (F.length + u)) ≤ _
      omega

/-- A sum over places. -/
def sumI (f : Nat → Int) : Nat → Int
  | 0 => 0
  | n + 1 => sumI f n + f n
theorem sumI_congr {f g : Nat → Int} : ∀ {n : Nat}, (∀ i, i < n → f i = g i) → sumI f n = sumI g n
  | 0, _ => rfl
  | n + 1, h => by
    show sumI f n + f n = sumI g n + g n
    rw [sumI_congr (fun i hi => h i (by omega)), h n (by omega)]
theorem sumI_add (f g : Nat → Int) : ∀ n, sumI (fun i => f i + g i) n = sumI f n + sumI g n
  | 0 => rfl
  | n + 1 => by
    show sumI (fun i => f i + g i) n + (f n + g n) = sumI f n + f n + (sumI g n + g n)
    rw [sumI_add f g n]
    omega
theorem sumI_zero : ∀ n, sumI (fun _ => 0) n = 0
  | 0 => rfl
  | n + 1 => by show sumI (fun _ => 0) n + 0 = 0; rw [sumI_zero n]; rfl
theorem sumI_one (W : Nat → Int) (p : Nat) : ∀ n, sumI (fun i => W i * ((if p = i then 1 else 0 : Nat) : Int)) n = if p < n then W p else 0
  | 0 => rfl
  | n + 1 => by
    show sumI (fun i => W i * ((if p = i then 1 else 0 : Nat) : Int)) n + W n * ((if p = n then 1 else 0 : Nat) : Int) = _
    rw [sumI_one W p n]
    by_cases h : p = n
    · subst h
      rw [if_neg (by omega), if_pos rfl, if_pos (by omega)]
      simp
    · rw [if_neg h]
      by_cases h2 : p < n
      · rw [if_pos h2, if_pos (by omega)]; simp
      · rw [if_neg h2, if_neg (by omega)]; simp
theorem sumI_count (W : Nat → Int) (n : Nat) : ∀ (ps : List Nat), (∀ p ∈ ps, p < n) → sumI (fun i => W i * (ps.count i : Int)) n = (ps.map W).sum
  | [], _ => by
    rw [sumI_congr (g := fun _ => 0) (fun i _ => by simp), sumI_zero]
    rfl
  | p :: ps, h => by
    have e : ∀ i, i < n → W i * ((p :: ps).count i : Int) = W i * (ps.count i : Int) + W i * ((if p = i then 1 else 0 : Nat) : Int) := fun i _ => by
      rw [List.count_cons]
      by_cases hp : p = i
      · subst hp
        simp [Int.mul_add]
      · have : (p == i) = false := beq_eq_false_iff_ne.2 hp
        simp [this, hp]
    rw [sumI_congr e, sumI_add, sumI_count W n ps (fun q hq => h q (by simp [hq])), sumI_one, if_pos (h p (by simp)), List.map_cons, List.sum_cons]
    omega
theorem fits_sum {W : Nat → Int} : ∀ {t : Mem}, Fits W t → (t.items.map W).sum = t.w
  | .leaf x p, h => by
    show W p + 0 = x
    rw [h.1]; omega
  | .node a b, h => by
    have e1 := fits_sum h.1
    have e2 := fits_sum h.2
    show ((a.items ++ b.items).map W).sum = a.w + b.w
    rw [List.map_append, List.sum_append, e1, e2]
theorem fits_sums {W : Nat → Int} {l : List Mem} (h : ∀ t ∈ l, Fits W t) : ((l.flatMap Mem.items).map W).sum = wsum l := by
  induction l with
  | nil => rfl
  | cons x r ih =>
    rw [List.flatMap_cons, List.map_append, List.sum_append, fits_sum (h x (by simp)), ih (fun t ht => h t (by simp [ht])), wsum_cons]
theorem leaves_fits {ws : List Int} : ∀ t ∈ leaves ws, Fits (wOf ws) t := fun t ht => by
  obtain ⟨p, hp, rfl, h0⟩ := leaves_mem ht
  exact ⟨(wOf_get (List.getElem?_eq_getElem hp)).symm, by omega⟩
/-- What lengths cost. -/
def dotI (ws ls : List Int) (k : Nat) : Int := sumI (fun i => wOf ws i * ls.getD i 0) k
theorem dotI_step {ws ls : List Int} {k : Nat} {x y : Int} (hx : ws[k]? = some x) (hy : ls[k]? = some y) : dotI ws ls (k + 1) = dotI ws ls k + x * y := by
  show dotI ws ls k + wOf ws k * ls.getD k 0 = _
  rw [wOf_get hx, List.getD_eq_getElem?_getD, hy]
  rfl
theorem dot_lens {ws : List Int} {m : Nat} (h : ¬ (leaves ws).length = 1) : dotI ws (lensOf ws m) ws.length = wsum ((pmL (firstOf ws) (m - 1)).take (2 * (leaves ws).length - 2)) := by
  have hf : ∀ t ∈ firstOf ws, Fits (wOf ws) t := fun t ht => leaves_fits t (stab_mem.1 ht)
  have hp : ∀ t ∈ firstOf ws, ∀ p ∈ t.items, p < ws.length := fun t ht => leaves_p t (stab_mem.1 ht)
  rw [← fits_sums (fun t ht => pm_fits hf (m - 1) t (List.mem_of_mem_take ht)), ← sumI_count (wOf ws) ws.length]
  · unfold dotI
    apply sumI_congr
    intro i hi
    rw [lensOf_getD ws m hi]
    unfold lnat
    rw [if_neg h]
    rfl
  · intro p hpp
    obtain ⟨t, ht, hq⟩ := List.mem_flatMap.1 hpp
    exact pm_places hp (m - 1) t (List.mem_of_mem_take ht) p hq
theorem sum_permI {l l' : List Int} (h : l.Perm l') : l.sum = l'.sum := by
  induction h with
  | nil => rfl
  | cons x _ ih => rw [List.sum_cons, List.sum_cons, ih]
  | swap x y l => simp only [List.sum_cons]; omega
  | trans _ _ h1 h2 => exact h1.trans h2
theorem sum_leavesI (ws : List Int) (h : Nat → Int) : sumI (fun i => if 0 < wOf ws i then wOf ws i * h i else 0) ws.length = ((leaves ws).map fun x => x.w * h x.pl).sum := by
  induction ws using snoc_ind with
  | h0 => rfl
  | h1 l x ih =>
    have e1 : ∀ i, i < l.length → wOf (l ++ [x]) i = wOf l i := fun i hi => by
      unfold wOf
      rw [List.getD_eq_getElem?_getD, List.getElem?_append_left hi, ← List.getD_eq_getElem?_getD]
    have e2 : wOf (l ++ [x]) l.length = x := wOf_get (by simp)
    rw [leaves_snoc, List.map_append, List.sum_append, ← ih, List.length_append, List.length_singleton]
    show sumI _ l.length + _ = _
    dsimp only
    rw [e2, sumI_congr (g := fun i => if 0 < wOf l i then wOf l i * h i else 0) (fun i hi => by rw [e1 i hi])]
    congr 1
    split <;> simp [Mem.pl, Mem.w]
theorem le_sums (f g : Nat → Nat) (h : ∀ i, f i ≤ g i) : ∀ l : List Nat, (l.map f).sum ≤ (l.map g).sum
  | [] => Nat.le_refl _
  | x :: r => by
    have := le_sums f g h r
    have := h x
    simp only [List.map_cons, List.sum_cons]
    omega
/-- No other lengths cost less. -/
theorem lens_best {ws other : List Int} {m : Nat} (hm : 1 ≤ m) (hm2 : m ≤ 15) (hn : 2 ≤ posn ws) (h0 : ∀ x ∈ ws, 0 ≤ x)
    (ho : ∀ i, 0 < wOf ws i → 1 ≤ other.getD i 0 ∧ other.getD i 0 ≤ m) (hk : krN other ≤ 32768) (hl : other.length = ws.length) :
    dotI ws (lensOf ws m) ws.length ≤ dotI ws other ws.length := by
  have hL : (leaves ws).length = posn ws := leaves_length ws
  have hF : (firstOf ws).length = posn ws := firstOf_len ws
  rw [dot_lens (by omega)]
  obtain ⟨o, hoo⟩ : ∃ o : Nat → Nat, o = fun p => (other.getD p 0).toNat := ⟨_, rfl⟩
  have hpos : ∀ t ∈ firstOf ws, 1 ≤ o t.pl ∧ o t.pl ≤ m ∧ (o t.pl : Int) = other.getD t.pl 0 ∧ 0 ≤ t.w := fun t ht => by
    obtain ⟨p, hp, rfl, h3⟩ := leaves_mem (stab_mem.1 ht)
    have := ho p (by rw [wOf_get (List.getElem?_eq_getElem hp)]; exact h3)
    rw [hoo]
    show 1 ≤ (other.getD p 0).toNat ∧ (other.getD p 0).toNat ≤ m ∧ ((other.getD p 0).toNat : Int) = other.getD p 0 ∧ 0 ≤ ws[p]
    omega
  have hkr : ((firstOf ws).map fun t => 2 ^ (m - o t.pl)).sum ≤ 2 ^ m := by
    have e1 : krN other = ((List.range ws.length).map fun i => if 0 < other.getD i 0 then 2 ^ (15 - (other.getD i 0).toNat) else 0).sum := by rw [krN_range, hl]
    have e2 : ((List.range ws.length).map fun i => if 0 < wOf ws i then 2 ^ (15 - o i) else 0).sum ≤ krN other := by
      rw [e1]
      apply le_sums
      intro i
      by_cases h : 0 < wOf ws i
      · have := ho i h
        rw [if_pos h, if_pos (by omega), hoo]
        exact Nat.le_refl _
      · rw [if_neg h]; exact Nat.zero_le _
    rw [sum_leaves ws (fun i => 2 ^ (15 - o i)), sum_perm ((firstOf_perm ws).map _)] at e2
    have e3 : ∀ l : List Mem, (∀ t ∈ l, o t.pl ≤ m) → (l.map fun t => 2 ^ (15 - o t.pl)).sum = 2 ^ (15 - m) * (l.map fun t => 2 ^ (m - o t.pl)).sum := fun l => by
      induction l with
      | nil => intro _; rfl
      | cons x r ih =>
        intro h
        rw [List.map_cons, List.sum_cons, List.map_cons, List.sum_cons, Nat.mul_add, ih (fun t ht => h t (by simp [ht]))]
        have := h x (by simp)
        rw [← Nat.pow_add, show 15 - m + (m - o x.pl) = 15 - o x.pl by omega]
    rw [e3 _ (fun t ht => (hpos t ht).2.1)] at e2
    have e4 : 2 ^ (15 - m) * 2 ^ m = 32768 := by rw [← Nat.pow_add, show 15 - m + m = 15 by omega]
    refine Nat.le_of_mul_le_mul_left (?_ : 2 ^ (15 - m) * _ ≤ 2 ^ (15 - m) * 2 ^ m) (Nat.pow_pos (show 0 < 2 by decide))
    omega
  have hw := widO_eq (firstOf ws) m o
  have hmm : m = m - 1 + 1 := by omega
  have hwid : (2 * (leaves ws).length - 2) * 2 ^ (m - 1) ≤ widO (firstOf ws) o (m - 1 + 1) := by
    rw [← hmm]
    rw [hF] at hw
    rw [hL]
    have e5 : 2 ^ m = 2 ^ (m - 1) * 2 := by rw [← Nat.pow_succ, show (m - 1).succ = m by omega]
    have e6 : (2 * posn ws - 2) * 2 ^ (m - 1) + 2 ^ m = posn ws * 2 ^ m := by
      rw [e5]
      obtain ⟨q, hq⟩ : ∃ q, posn ws = q + 1 := ⟨posn ws - 1, by omega⟩
      rw [hq, show 2 * (q + 1) - 2 = 2 * q by omega, Nat.add_mul, Nat.one_mul, Nat.mul_comm 2 q, Nat.mul_assoc, Nat.mul_comm 2 (2 ^ (m - 1))]
    omega
  have hb := (pm_best (firstOf_ok ws).1 (fun t ht => (hpos t ht).2.2.2) (m - 1) o _ hwid).2
  rw [← hmm, costO_eq _ m o (fun t ht => (hpos t ht).2.1)] at hb
  refine Int.le_trans hb (Int.le_of_eq ?_)
  have e7 : dotI ws other ws.length = sumI (fun i => if 0 < wOf ws i then wOf ws i * other.getD i 0 else 0) ws.length := by
    unfold dotI
    apply sumI_congr
    intro i hi
    split
    · rfl
    · rename_i h
      have : wOf ws i = 0 := by
        have h2 := wOf_get (List.getElem?_eq_getElem hi)
        have h3 := h0 _ (List.getElem_mem hi)
        omega
      rw [this, Int.zero_mul]
  rw [e7, sum_leavesI, sum_permI ((firstOf_perm ws).map _)]
  congr 1
  apply List.map_congr_left
  intro t ht
  rw [(hpos t ht).2.2.1]
end Go.Proofs.Ytpbegikdohafbaa
