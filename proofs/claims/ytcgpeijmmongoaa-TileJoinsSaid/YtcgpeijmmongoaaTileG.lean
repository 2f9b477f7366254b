/- The plain law of tiles: rows of tiles cut out of a picture and laid back; no program in sight. -/
import Derived.Laws.CopyOwn
namespace Go.Proofs.Ytcgpeijmmongoaa
set_option linter.all false

theorem spl_mid {α : Type} {L : List α} {p : Nat} {X : List α} (h : p + X.length ≤ L.length) {m : Nat} (h1 : p ≤ m) (h2 : m < p + X.length) : (splice L p X)[m]? = X[m - p]? := by
  unfold splice
  rw [List.getElem?_append_right (by simp; omega), List.length_take, Nat.min_eq_left (by omega), List.getElem?_append_left (by omega)]
theorem spl_out {α : Type} {L : List α} {p : Nat} {X : List α} (h : p + X.length ≤ L.length) {m : Nat} (hm : m < p ∨ p + X.length ≤ m) : (splice L p X)[m]? = L[m]? := by
  unfold splice
  rcases hm with hm | hm
  · rw [List.getElem?_append_left (by simp; omega), List.getElem?_take, if_pos hm]
  · rw [List.getElem?_append_right (by simp; omega), List.length_take, Nat.min_eq_left (by omega), List.getElem?_append_right (by omega), List.getElem?_drop]
    congr 1
    omega

namespace TG
/-- Tiles side by side. -/
def g (W : Nat) : Nat := (W + 7) / 8
def tX (W i : Nat) : Nat := i % g W * 8
def tY (W i : Nat) : Nat := i / g W * 8
/-- A tile's width in pixels, the bytes of its rows, its height, where its row k stands. -/
def tN (W B i : Nat) : Nat := min 8 (W - tX W i) * B
def tH (W H i : Nat) : Nat := min 8 (H - tY W i)
def tP (W B i k : Nat) : Nat := (tY W i + k) * (W * B) + tX W i * B
/-- In which tile a byte lies, in which of its rows, at which place there. -/
def tile (W B p : Nat) : Nat := p / (W * B) / 8 * g W + p % (W * B) / (8 * B)
def rowN (W B p : Nat) : Nat := p / (W * B) % 8
def off (W B p : Nat) : Nat := p % (W * B) % (8 * B)

theorem g_pos {W : Nat} (h : 1 ≤ W) : 1 ≤ g W ∧ W ≤ 8 * g W ∧ 8 * (g W - 1) < W := by unfold g; omega
theorem tX_lt {W : Nat} (h : 1 ≤ W) (i : Nat) : tX W i < W := by
  have h1 := g_pos h
  have h2 := Nat.mod_lt i (show 0 < g W by omega)
  unfold tX
  omega
theorem tN_fit {W : Nat} (B : Nat) (h : 1 ≤ W) (i : Nat) : tX W i * B + tN W B i ≤ W * B := by
  have := tX_lt h i
  unfold tN
  rw [← Nat.add_mul]
  exact Nat.mul_le_mul_right _ (by omega)
theorem tN_8 (W B i : Nat) : tN W B i ≤ 8 * B := by unfold tN; exact Nat.mul_le_mul_right _ (by omega)

theorem mine {W B i k p : Nat} (h : 1 ≤ W) (hb : 1 ≤ B) (hk : k < 8) : (tP W B i k ≤ p ∧ p < tP W B i k + tN W B i) ↔ (tile W B p = i ∧ rowN W B p = k) := by
  have hR : 0 < W * B := Nat.mul_pos h hb
  obtain ⟨g1, g2, g3⟩ := g_pos h
  have hB8 : 0 < 8 * B := by omega
  have hdm := Nat.div_add_mod p (W * B)
  have hml := Nat.mod_lt p hR
  constructor
  · rintro ⟨h1, h2⟩
    have hf := tN_fit B h i
    have h8 := tN_8 W B i
    unfold tP at h1 h2
    have e1 : p / (W * B) = tY W i + k := by
      apply Nat.div_eq_of_lt_le
      · omega
      · rw [Nat.succ_mul]; omega
    have e2 : p % (W * B) = p - (tY W i + k) * (W * B) := by rw [e1, Nat.mul_comm] at hdm; omega
    have e3 : p % (W * B) / (8 * B) = i % g W := by
      have ex : tX W i * B = i % g W * (8 * B) := by unfold tX; rw [Nat.mul_assoc]
      apply Nat.div_eq_of_lt_le
      · rw [e2]; omega
      · rw [Nat.succ_mul, e2]; omega
    unfold tile rowN
    rw [e1, e3]
    have e4 : (tY W i + k) / 8 = i / g W := by unfold tY; omega
    have e5 : (tY W i + k) % 8 = k := by unfold tY; omega
    rw [e4, e5]
    exact ⟨by rw [Nat.mul_comm]; exact Nat.div_add_mod i (g W), rfl⟩
  · rintro ⟨rfl, rfl⟩
    have hxl : p % (W * B) / (8 * B) < g W := by
      rw [Nat.div_lt_iff_lt_mul hB8]
      calc p % (W * B) < W * B := hml
        _ ≤ 8 * g W * B := Nat.mul_le_mul_right _ g2
        _ = g W * (8 * B) := by rw [Nat.mul_comm 8, Nat.mul_assoc]
    have e1 : tile W B p % g W = p % (W * B) / (8 * B) := by
      unfold tile
      rw [Nat.mul_comm, Nat.mul_add_mod, Nat.mod_eq_of_lt hxl]
    have e2 : tile W B p / g W = p / (W * B) / 8 := by
      unfold tile
      rw [Nat.mul_comm, Nat.mul_add_div (by omega), Nat.div_eq_of_lt hxl, Nat.add_zero]
    have e3 : tY W (tile W B p) + rowN W B p = p / (W * B) := by unfold tY rowN; rw [e2]; omega
    have e4 : tX W (tile W B p) * B = p % (W * B) / (8 * B) * (8 * B) := by unfold tX; rw [e1, Nat.mul_assoc]
    have hd2 := Nat.div_add_mod (p % (W * B)) (8 * B)
    have hm2 := Nat.mod_lt (p % (W * B)) hB8
    rw [Nat.mul_comm] at hd2
    unfold tP
    rw [e3, e4]
    have hq : p / (W * B) * (W * B) + p % (W * B) = p := by rw [Nat.mul_comm]; exact hdm
    refine ⟨by omega, ?_⟩
    unfold tN
    rcases Nat.le_total 8 (W - tX W (tile W B p)) with q | q
    · rw [Nat.min_eq_left q]; omega
    · rw [Nat.min_eq_right q, Nat.sub_mul, e4]; omega

theorem there {W B p : Nat} (h : 1 ≤ W) (hb : 1 ≤ B) : p = tP W B (tile W B p) (rowN W B p) + off W B p ∧ off W B p < tN W B (tile W B p) := by
  have hr : rowN W B p < 8 := Nat.mod_lt _ (by omega)
  obtain ⟨h1, h2⟩ := (mine (p := p) h hb hr).2 ⟨rfl, rfl⟩
  have hR : 0 < W * B := Nat.mul_pos h hb
  obtain ⟨g1, g2, g3⟩ := g_pos h
  have hB8 : 0 < 8 * B := by omega
  have hdm := Nat.div_add_mod p (W * B)
  have hml := Nat.mod_lt p hR
  have hxl : p % (W * B) / (8 * B) < g W := by
    rw [Nat.div_lt_iff_lt_mul hB8]
    calc p % (W * B) < W * B := hml
      _ ≤ 8 * g W * B := Nat.mul_le_mul_right _ g2
      _ = g W * (8 * B) := by rw [Nat.mul_comm 8, Nat.mul_assoc]
  have e1 : tile W B p % g W = p % (W * B) / (8 * B) := by
    unfold tile
    rw [Nat.mul_comm, Nat.mul_add_mod, Nat.mod_eq_of_lt hxl]
  have e2 : tile W B p / g W = p / (W * B) / 8 := by
    unfold tile
    rw [Nat.mul_comm, Nat.mul_add_div (by omega), Nat.div_eq_of_lt hxl, Nat.add_zero]
  have e3 : tY W (tile W B p) + rowN W B p = p / (W * B) := by unfold tY rowN; rw [e2]; omega
  have e4 : tX W (tile W B p) * B = p % (W * B) / (8 * B) * (8 * B) := by unfold tX; rw [e1, Nat.mul_assoc]
  have hd2 := Nat.div_add_mod (p % (W * B)) (8 * B)
  rw [Nat.mul_comm] at hd2
  have hq : p / (W * B) * (W * B) + p % (W * B) = p := by rw [Nat.mul_comm]; exact hdm
  have e5 : p = tP W B (tile W B p) (rowN W B p) + off W B p := by
    unfold tP off
    rw [e3, e4]
    omega
  exact ⟨e5, by omega⟩

theorem of_place {W B i k j : Nat} (h : 1 ≤ W) (hb : 1 ≤ B) (hk : k < 8) (hj : j < tN W B i) :
    tile W B (tP W B i k + j) = i ∧ rowN W B (tP W B i k + j) = k ∧ off W B (tP W B i k + j) = j := by
  obtain ⟨h1, h2⟩ := (mine (p := tP W B i k + j) (i := i) h hb hk).1 ⟨by omega, by omega⟩
  obtain ⟨h3, h4⟩ := there (p := tP W B i k + j) h hb
  rw [h1, h2] at h3
  exact ⟨h1, h2, by omega⟩

/-- A place lies in the picture just if its tile is there, and its row. -/
theorem inside {W H B p : Nat} (h : 1 ≤ W) (hb : 1 ≤ B) (hp : p < H * (W * B)) : tile W B p < g W * ((H + 7) / 8) ∧ rowN W B p < tH W H (tile W B p) := by
  have hR : 0 < W * B := Nat.mul_pos h hb
  obtain ⟨g1, g2, g3⟩ := g_pos h
  have hB8 : 0 < 8 * B := by omega
  have hml := Nat.mod_lt p hR
  have hy : p / (W * B) < H := by rw [Nat.div_lt_iff_lt_mul hR]; exact hp
  have hxl : p % (W * B) / (8 * B) < g W := by
    rw [Nat.div_lt_iff_lt_mul hB8]
    calc p % (W * B) < W * B := hml
      _ ≤ 8 * g W * B := Nat.mul_le_mul_right _ g2
      _ = g W * (8 * B) := by rw [Nat.mul_comm 8, Nat.mul_assoc]
  have e2 : tile W B p / g W = p / (W * B) / 8 := by
    unfold tile
    rw [Nat.mul_comm, Nat.mul_add_div (by omega), Nat.div_eq_of_lt hxl, Nat.add_zero]
  constructor
  · have : p / (W * B) / 8 + 1 ≤ (H + 7) / 8 := by omega
    unfold tile
    calc p / (W * B) / 8 * g W + p % (W * B) / (8 * B) < p / (W * B) / 8 * g W + g W := by omega
      _ = (p / (W * B) / 8 + 1) * g W := by rw [Nat.succ_mul]
      _ ≤ (H + 7) / 8 * g W := Nat.mul_le_mul_right _ this
      _ = g W * ((H + 7) / 8) := Nat.mul_comm _ _
  · unfold rowN tH tY
    rw [e2]
    omega

theorem tP_fit {W H B i k : Nat} (h : 1 ≤ W) (hk : k < tH W H i) : tP W B i k + tN W B i ≤ H * (W * B) := by
  have hf := tN_fit B h i
  have : tY W i + k + 1 ≤ H := by unfold tH at hk; omega
  unfold tP
  calc (tY W i + k) * (W * B) + tX W i * B + tN W B i ≤ (tY W i + k) * (W * B) + W * B := by omega
    _ = (tY W i + k + 1) * (W * B) := by rw [Nat.succ_mul]
    _ ≤ H * (W * B) := Nat.mul_le_mul_right _ this

/-- A tile's bytes, row by row. -/
def cutRow (W B : Nat) (bs : List UInt8) (i k : Nat) : List UInt8 := (bs.drop (tP W B i k)).take (tN W B i)
def cutTo (W B : Nat) (bs : List UInt8) (i : Nat) : Nat → List UInt8
  | 0 => []
  | k + 1 => cutTo W B bs i k ++ cutRow W B bs i k
def cut (W H B : Nat) (bs : List UInt8) (i : Nat) : List UInt8 := cutTo W B bs i (tH W H i)
/-- A tile's rows laid into a picture. -/
def put (W B : Nat) (t : List UInt8) (i : Nat) (acc : List UInt8) : Nat → List UInt8
  | 0 => acc
  | k + 1 => splice (put W B t i acc k) (tP W B i k) ((t.drop (k * tN W B i)).take (tN W B i))
def join (W H B : Nat) (l : List (List UInt8)) : Nat → List UInt8
  | 0 => List.replicate (H * (W * B)) 0
  | i + 1 => put W B (l.getD i []) i (join W H B l i) (tH W H i)

section
variable {W H B : Nat} {bs : List UInt8}
theorem cutRow_len (h : 1 ≤ W) (hl : bs.length = H * (W * B)) {i k : Nat} (hk : k < tH W H i) : (cutRow W B bs i k).length = tN W B i := by
  have := tP_fit (B := B) h hk
  unfold cutRow
  simp
  omega
theorem cutTo_len (h : 1 ≤ W) (hl : bs.length = H * (W * B)) {i : Nat} : ∀ k, k ≤ tH W H i → (cutTo W B bs i k).length = k * tN W B i
  | 0, _ => by simp [cutTo]
  | k + 1, hk => by
    rw [cutTo, List.length_append, cutTo_len h hl k (by omega), cutRow_len h hl (by omega), Nat.succ_mul]
theorem cut_len (h : 1 ≤ W) (hl : bs.length = H * (W * B)) (i : Nat) : (cut W H B bs i).length = tH W H i * tN W B i := cutTo_len h hl _ (Nat.le_refl _)
theorem cutTo_get (h : 1 ≤ W) (hl : bs.length = H * (W * B)) {i : Nat} : ∀ k, k ≤ tH W H i → ∀ r j, r < k → j < tN W B i → (cutTo W B bs i k)[r * tN W B i + j]? = bs[tP W B i r + j]?
  | 0, _ => by intro r j hr; omega
  | k + 1, hk => by
    intro r j hr hj
    have hlen := cutTo_len h hl k (show k ≤ tH W H i by omega)
    rw [cutTo]
    by_cases e : r = k
    · subst e
      rw [List.getElem?_append_right (by omega), hlen, Nat.add_sub_cancel_left]
      unfold cutRow
      rw [List.getElem?_take, if_pos hj, List.getElem?_drop]
    · have h1 : (r + 1) * tN W B i ≤ k * tN W B i := Nat.mul_le_mul_right _ (by omega)
      rw [Nat.succ_mul] at h1
      rw [List.getElem?_append_left (by omega)]
      exact cutTo_get h hl k (by omega) r j (by omega) hj
theorem cut_get (h : 1 ≤ W) (hl : bs.length = H * (W * B)) {i r j : Nat} (hr : r < tH W H i) (hj : j < tN W B i) : (cut W H B bs i)[r * tN W B i + j]? = bs[tP W B i r + j]? :=
  cutTo_get h hl _ (Nat.le_refl _) r j hr hj

theorem put_len (h : 1 ≤ W) {t acc : List UInt8} {i : Nat} (ht : t.length = tH W H i * tN W B i) (ha : acc.length = H * (W * B)) : ∀ k, k ≤ tH W H i → (put W B t i acc k).length = H * (W * B)
  | 0, _ => ha
  | k + 1, hk => by
    have h1 := put_len h ht ha k (by omega)
    have h2 := tP_fit (B := B) h (show k < tH W H i by omega)
    rw [put, length_splice _ _ _ (by simp; omega), h1]
theorem put_get (h : 1 ≤ W) (hb : 1 ≤ B) {t acc : List UInt8} {i : Nat} (ht : t.length = tH W H i * tN W B i) (ha : acc.length = H * (W * B)) (p : Nat) : ∀ k, k ≤ tH W H i →
    (put W B t i acc k)[p]? = if tile W B p = i ∧ rowN W B p < k then t[rowN W B p * tN W B i + off W B p]? else acc[p]?
  | 0, _ => by rw [if_neg (by omega)]; rfl
  | k + 1, hk => by
    have h1 := put_len h ht ha k (by omega)
    have h2 := tP_fit (B := B) h (show k < tH W H i by omega)
    have h8 : k < 8 := by unfold tH at hk; omega
    have h3 : (k + 1) * tN W B i ≤ tH W H i * tN W B i := Nat.mul_le_mul_right _ hk
    rw [Nat.succ_mul] at h3
    have hX : ((t.drop (k * tN W B i)).take (tN W B i)).length = tN W B i := by simp; omega
    rw [put]
    by_cases hm : tile W B p = i ∧ rowN W B p = k
    · obtain ⟨p1, p2⟩ := (mine h hb h8).2 hm
      rw [spl_mid (by rw [hX]; omega) p1 (by rw [hX]; exact p2), if_pos ⟨hm.1, by omega⟩]
      have hth := (there (p := p) h hb).1
      rw [hm.1, hm.2] at hth
      rw [List.getElem?_take, if_pos (by omega), List.getElem?_drop, hm.2]
      congr 1
      omega
    · have hn : ¬ (tP W B i k ≤ p ∧ p < tP W B i k + tN W B i) := fun e => hm ((mine h hb h8).1 e)
      rw [spl_out (by rw [hX]; omega) (by rw [hX]; omega), put_get h hb ht ha p k (by omega)]
      by_cases hi : tile W B p = i
      · have : rowN W B p ≠ k := fun e => hm ⟨hi, e⟩
        by_cases hk2 : rowN W B p < k
        · rw [if_pos ⟨hi, hk2⟩, if_pos ⟨hi, by omega⟩]
        · rw [if_neg (fun e => hk2 e.2), if_neg (fun e => by omega)]
      · rw [if_neg (fun e => hi e.1), if_neg (fun e => hi e.1)]

/-- Tiles that fit their places. -/
def Fits (W H B : Nat) (l : List (List UInt8)) (m : Nat) : Prop := ∀ i, i < m → (l.getD i []).length = tH W H i * tN W B i

theorem join_len (h : 1 ≤ W) {l : List (List UInt8)} : ∀ m, Fits W H B l m → (join W H B l m).length = H * (W * B)
  | 0, _ => by simp [join]
  | m + 1, hf => by
    rw [join]
    exact put_len h (hf m (by omega)) (join_len h m (fun i hi => hf i (by omega))) _ (Nat.le_refl _)
theorem join_get (h : 1 ≤ W) (hb : 1 ≤ B) {l : List (List UInt8)} {p : Nat} (hp : p < H * (W * B)) : ∀ m, Fits W H B l m →
    (join W H B l m)[p]? = if tile W B p < m then (l.getD (tile W B p) [])[rowN W B p * tN W B (tile W B p) + off W B p]? else some 0
  | 0, _ => by rw [if_neg (by omega), join]; simp [hp]
  | m + 1, hf => by
    have hi := (inside h hb hp).2
    rw [join, put_get h hb (hf m (by omega)) (join_len h m (fun i hi => hf i (by omega))) p _ (Nat.le_refl _)]
    by_cases e : tile W B p = m
    · subst e
      rw [if_pos ⟨rfl, hi⟩, if_pos (by omega)]
    · rw [if_neg (fun q => e q.1), join_get h hb hp m (fun i hi => hf i (by omega))]
      by_cases e2 : tile W B p < m
      · rw [if_pos e2, if_pos (by omega)]
      · rw [if_neg e2, if_neg (by omega)]

/-- Joined out of its tiles a picture is itself. -/
theorem join_cut (h : 1 ≤ W) (hb : 1 ≤ B) (hl : bs.length = H * (W * B)) {l : List (List UInt8)} (hc : ∀ i, i < g W * ((H + 7) / 8) → l.getD i [] = cut W H B bs i) :
    join W H B l (g W * ((H + 7) / 8)) = bs := by
  have hf : Fits W H B l (g W * ((H + 7) / 8)) := fun i hi => by rw [hc i hi, cut_len h hl]
  apply List.ext_getElem?
  intro p
  by_cases hp : p < H * (W * B)
  · obtain ⟨i1, i2⟩ := inside h hb hp
    obtain ⟨t1, t2⟩ := there (p := p) h hb
    rw [join_get h hb hp _ hf, if_pos i1, hc _ i1, cut_get h hl i2 t2, ← t1]
  · rw [List.getElem?_eq_none (by rw [join_len h _ hf]; omega), List.getElem?_eq_none (by omega)]

/-- Cut again the tiles are what was joined. -/
theorem cut_join (h : 1 ≤ W) (hb : 1 ≤ B) {l : List (List UInt8)} (hf : Fits W H B l (g W * ((H + 7) / 8))) {i : Nat} (hi : i < g W * ((H + 7) / 8)) :
    cut W H B (join W H B l (g W * ((H + 7) / 8))) i = l.getD i [] := by
  have hl := join_len h _ hf
  apply List.ext_getElem?
  intro q
  by_cases hq : q < tH W H i * tN W B i
  · have hn : 0 < tN W B i := by
      rcases Nat.eq_zero_or_pos (tN W B i) with e | e
      · rw [e] at hq; omega
      · exact e
    have hr : q / tN W B i < tH W H i := by rw [Nat.div_lt_iff_lt_mul hn]; exact hq
    have hj : q % tN W B i < tN W B i := Nat.mod_lt _ hn
    have e : q = q / tN W B i * tN W B i + q % tN W B i := by rw [Nat.mul_comm]; exact (Nat.div_add_mod _ _).symm
    have h8 : q / tN W B i < 8 := by unfold tH at hr; omega
    have hfit := tP_fit (B := B) h hr
    obtain ⟨o1, o2, o3⟩ := of_place h hb h8 hj
    rw [e, cut_get h hl hr hj, join_get h hb (by omega) _ hf, o1, o2, o3, if_pos hi]
  · rw [List.getElem?_eq_none (by rw [cut_len h hl]; omega), List.getElem?_eq_none (by rw [hf i hi]; omega)]
end
end TG
end Go.Proofs.Ytcgpeijmmongoaa
