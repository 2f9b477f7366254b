/- tile: the plain law of TileOnes, and a picture of a list exchanged. -/
import Derived.Test.YtcgpeijmmongoaaRas2
import Derived.Laws.OwnMore
namespace Go.Proofs.Ytcgpeijmmongoaa
set_option linter.all false
open Go.RowKit

/-- In how many of the first k tiles two pictures differ. -/
def diffT (s : Sh) (bs ds : List UInt8) : Nat → Nat
  | 0 => 0
  | k + 1 => diffT s bs ds k + if s.cutB bs k == s.cutB ds k then 0 else 1
theorem diffT_le (s : Sh) (bs ds : List UInt8) : ∀ k, diffT s bs ds k ≤ k
  | 0 => Nat.le_refl _
  | k + 1 => by have := diffT_le s bs ds k; unfold diffT; split <;> omega
theorem diffT_zero {s : Sh} {bs ds : List UInt8} : ∀ {k}, diffT s bs ds k = 0 → ∀ j, j < k → s.cutB bs j = s.cutB ds j
  | 0, _, j, hj => absurd hj (by omega)
  | k + 1, h, j, hj => by
    unfold diffT at h
    by_cases e : j = k
    · subst e
      by_cases q : (s.cutB bs j == s.cutB ds j) = true
      · simpa using q
      · rw [if_neg q] at h; omega
    · exact diffT_zero (k := k) (by omega) j (by omega)
theorem diffT_same {s : Sh} {bs ds : List UInt8} : ∀ {k}, (∀ j, j < k → s.cutB bs j = s.cutB ds j) → diffT s bs ds k = 0
  | 0, _ => rfl
  | k + 1, h => by
    unfold diffT
    rw [diffT_same (fun j hj => h j (by omega)), h k (by omega)]
    simp
theorem diffT_all {s : Sh} {bs ds : List UInt8} (hm : s.mayR bs.length = true) (hd : ds.length = bs.length) : (diffT s bs ds (s.gw * s.gh).toNat == 0) = (bs == ds) := by
  obtain ⟨m1, m2⟩ := mayR_iff hm
  obtain ⟨w1, b1⟩ := Sh.B_pos (Sh.may_nums m1)
  rw [Bool.eq_iff_iff]
  simp only [beq_iff_eq]
  constructor
  · intro h
    have hc := diffT_zero h
    rw [Sh.count_nat m1] at hc
    have e1 := TG.join_cut (bs := bs) w1 b1 m2 (l := (List.range (TG.g s.W * ((s.H + 7) / 8))).map (s.cutB bs)) (fun i hi => by simp [List.getD, hi]; rfl)
    have e2 := TG.join_cut (bs := ds) (H := s.H) w1 b1 (by omega) (l := (List.range (TG.g s.W * ((s.H + 7) / 8))).map (s.cutB bs)) (fun i hi => by simp [List.getD, hi]; exact hc i hi)
    rw [← e1, e2]
  · intro h
    exact diffT_same (fun j _ => by rw [h])
/-- One tile of the other one taken: it differs in one less. -/
def mixB (s : Sh) (bs ds : List UInt8) (q j : Nat) : List UInt8 := if j = q then s.cutB ds j else s.cutB bs j
def diffM (s : Sh) (bs ds : List UInt8) (q : Nat) : Nat → Nat
  | 0 => 0
  | k + 1 => diffM s bs ds q k + if mixB s bs ds q k == s.cutB ds k then 0 else 1
theorem diffM_le (s : Sh) (bs ds : List UInt8) (q : Nat) : ∀ k, diffM s bs ds q k ≤ k
  | 0 => Nat.le_refl _
  | k + 1 => by have := diffM_le s bs ds q k; unfold diffM; split <;> omega
theorem diffM_eq {s : Sh} {bs ds : List UInt8} {q : Nat} (h : (s.cutB bs q == s.cutB ds q) = false) : ∀ k, diffM s bs ds q k + (if q < k then 1 else 0) = diffT s bs ds k
  | 0 => rfl
  | k + 1 => by
    have ih := diffM_eq h k
    unfold diffM diffT mixB
    by_cases e : k = q
    · subst e
      rw [if_pos rfl, if_neg (show ¬ (s.cutB bs k == s.cutB ds k) = true by rw [h]; simp)]
      rw [if_neg (by omega)] at ih
      simp
      omega
    · rw [if_neg e]
      by_cases h1 : q < k
      · rw [if_pos h1] at ih; rw [if_pos (show q < k + 1 by omega)]; omega
      · rw [if_neg h1] at ih; rw [if_neg (show ¬ q < k + 1 by omega)]; omega

theorem grown_setCell5 (w : World) (g p0 p1 p2 p3 p4 : Nat) (v0 v1 v2 v3 v4 : Value) : w.grownBy (((((w.setCell ⟨g, p0, none⟩ v0).setCell ⟨g, p1, none⟩ v1).setCell ⟨g, p2, none⟩ v2).setCell ⟨g, p3, none⟩ v3).setCell ⟨g, p4, none⟩ v4) (some g) := by
  have one : ∀ (w : World) (p : Nat) (v : Value), w.grownBy (w.setCell ⟨g, p, none⟩ v) (some g) := fun w p v => ⟨by simp [World.setCell], by simp [World.setCell], by simp [World.setCell], by simp, fun k _ hk => Below.heap_setCell w ⟨g, p, none⟩ v k (fun e => hk (by rw [e]))⟩
  exact ((((one _ _ _).trans (one _ _ _)).trans (one _ _ _)).trans (one _ _ _)).trans (one _ _ _)

theorem rcs_set : ∀ (l : List Ra) (i : Nat) (x : Ra), i < l.length →
    (((((rcs l).set (i * 5) (.int .i64 x.s.w)).set (i * 5 + 1) (.int .i64 x.s.h)).set (i * 5 + 2) (.int .i64 x.s.c)).set (i * 5 + 3) (.int .i64 x.s.d)).set (i * 5 + 4) (.slice x.A x.n x.c) = rcs (l.set i x)
  | y :: l, 0, x, _ => by simp [rcs, Ra.cells]
  | y :: l, i + 1, x, h => by
    have ih := rcs_set l i x (by simpa using h)
    have e : ∀ (zs : List Value) (k : Nat) (v : Value), (y.cells ++ zs).set (k + 5) v = y.cells ++ zs.set k v := by
      intro zs k v
      rw [List.set_append_right _ _ (by rw [Ra.cells_len]; omega), Ra.cells_len, Nat.add_sub_cancel]
    have e5 : (i + 1) * 5 = i * 5 + 5 := by omega
    unfold rcs at ih ⊢
    rw [List.flatMap_cons, List.set_cons_succ, List.flatMap_cons, ← ih, e5]
    rw [show i * 5 + 5 + 1 = (i * 5 + 1) + 5 by omega, show i * 5 + 5 + 2 = (i * 5 + 2) + 5 by omega, show i * 5 + 5 + 3 = (i * 5 + 3) + 5 by omega, show i * 5 + 5 + 4 = (i * 5 + 4) + 5 by omega]
    simp only [e]

theorem ownR.set {w : World} {base g c : Nat} {l : List Ra} (h : ownR w base (.slice (some ⟨g, 0, none⟩) l.length c) l) {i : Nat} (hi : i < l.length) (x : Ra) :
    ownR (((((w.setCell ⟨g, i * 5, none⟩ (.int .i64 x.s.w)).setCell ⟨g, i * 5 + 1, none⟩ (.int .i64 x.s.h)).setCell ⟨g, i * 5 + 2, none⟩ (.int .i64 x.s.c)).setCell ⟨g, i * 5 + 3, none⟩ (.int .i64 x.s.d)).setCell ⟨g, i * 5 + 4, none⟩ (.slice x.A x.n x.c)) base (.slice (some ⟨g, 0, none⟩) (l.set i x).length c) (l.set i x) := by
  unfold ownR at h ⊢
  rw [List.length_set, ← rcs_set l i x hi]
  exact (World.ownsRow.stored (World.ownsRow.stored (World.ownsRow.stored (World.ownsRow.stored (World.ownsRow.stored h (i * 5) (.int .i64 x.s.w)).1 (i * 5 + 1) (.int .i64 x.s.h)).1 (i * 5 + 2) (.int .i64 x.s.c)).1 (i * 5 + 3) (.int .i64 x.s.d)).1 (i * 5 + 4) (.slice x.A x.n x.c)).1

/-- The list of tiles with one exchanged, read. -/
theorem RdR.mixed {w : World} {base base' g c q : Nat} {s : Sh} {bs ds : List UInt8} {la lb : List Ra} (hq : q < lb.length) (hl : la.length = lb.length)
    (ho : ownR w base (.slice (some ⟨g, 0, none⟩) (la.set q lb[q]).length c) (la.set q lb[q])) (ha : Tiles w base' s bs la) (hb : Tiles w base' s ds lb) : RdR w w.heap.size (some ⟨g, 0, none⟩) la.length (la.set q lb[q]) := by
  obtain ⟨A, c', e, hr, -, -⟩ := ho.form
  injection e with e1 e2 e3
  subst e1
  rw [List.length_set] at hr
  refine ⟨hr, fun x hx => ?_⟩
  have fin : ∀ x : Ra, x.n = x.bs.length → ownB w base' (.slice x.A x.n x.c) x.bs → RdB w w.heap.size x.A x.n x.bs ∧ x.n ≤ x.c ∧ x.c ≤ maxLen := by
    intro x h1 h2
    refine ⟨h2.rd, ?_⟩
    obtain ⟨A', c', e', -, q1, q2⟩ := h2.form
    injection e' with _ e2 e3
    omega
  rcases List.mem_or_eq_of_mem_set hx with h | rfl
  · obtain ⟨j, hj, rfl⟩ := List.getElem_of_mem h
    exact fin _ (ha j hj).2.2.1 (ha j hj).2.2.2
  · exact fin _ (hb q hq).2.2.1 (hb q hq).2.2.2

/-- The exchanged list fits, and what is joined out of it. -/
theorem mix_fit {s : Sh} {bs ds : List UInt8} {la lb : List Ra} {q : Nat} (hm : s.mayR bs.length = true) (hd : ds.length = bs.length) (ha : AsCut s bs la) (hb : AsCut s ds lb) (hq : q < lb.length) :
    s.joinE (la.set q lb[q]) = 0 ∧ (s.joinR (la.set q lb[q])).1 = s ∧ (s.joinR (la.set q lb[q])).2.length = bs.length ∧ ∀ j, j < lb.length → s.cutB (s.joinR (la.set q lb[q])).2 j = mixB s bs ds q j := by
  obtain ⟨m1, m2⟩ := mayR_iff hm
  obtain ⟨w1, b1⟩ := Sh.B_pos (Sh.may_nums m1)
  obtain ⟨a1, a2, a3, a4, -, -⟩ := Sh.gw_rng m1
  have hmul0 : 0 ≤ s.gw * s.gh := Int.mul_nonneg (by omega) (by omega)
  have hla := ha.1
  have hlb := hb.1
  have hdm : s.mayR ds.length = true := by rw [hd]; exact hm
  have hlen : (la.set q lb[q]).length = lb.length := by rw [List.length_set]; omega
  have hat : ∀ j (hj : j < lb.length), (la.set q lb[q])[j]'(by omega) = if j = q then lb[q] else la[j]'(by omega) := by
    intro j hj
    rw [List.getElem_set]
    by_cases e : q = j
    · rw [if_pos e, if_pos e.symm]
    · rw [if_neg e, if_neg (fun h => e h.symm)]
  have hfit : ∀ j, j < (la.set q lb[q]).length → s.fit (la.set q lb[q]) j = true := by
    intro j hj
    have hj' : j < lb.length := by omega
    have fa := ha.fit hm (j := j) (by omega)
    have fb := hb.fit hdm (j := j) hj'
    rw [Sh.fit_at (by omega)] at fa fb
    rw [Sh.fit_at hj, hat j hj']
    by_cases e : j = q
    · subst e
      rw [if_pos rfl]
      exact fb
    · rw [if_neg e]
      exact fa
  have hE : s.joinE (la.set q lb[q]) = 0 := by
    unfold Sh.joinE
    rw [m1, if_pos rfl, if_pos (by omega), Sh.fits_of hfit]
    rfl
  have hR : s.joinR (la.set q lb[q]) = (s, s.joinB (la.set q lb[q]) (la.set q lb[q]).length) := by unfold Sh.joinR; rw [if_pos hE]
  have hN : (la.set q lb[q]).length = TG.g s.W * ((s.H + 7) / 8) := by rw [hlen, hlb, Sh.count_nat m1]
  have hF : TG.Fits s.W s.H s.B ((la.set q lb[q]).map Ra.bs) (TG.g s.W * ((s.H + 7) / 8)) := by
    intro i hi
    have hi' : i < lb.length := by omega
    have hia : i < la.length := by omega
    simp only [List.getD, List.getElem?_map, List.getElem?_eq_getElem (show i < (la.set q lb[q]).length by omega), Option.map_some, Option.getD_some]
    rw [hat i hi']
    by_cases e : i = q
    · subst e
      rw [if_pos rfl, (hb.2 i hi').2.1]
      exact cutB_len m1 (by omega) i
    · rw [if_neg e, (ha.2 i hia).2.1]
      exact cutB_len m1 m2 i
  rw [hR]
  refine ⟨hE, rfl, ?_, ?_⟩
  · show (s.joinB _ _).length = _
    unfold Sh.joinB
    rw [hN, TG.join_len w1 _ hF]
    omega
  · intro j hj
    show s.cutB (s.joinB _ _) j = _
    have hi : j < TG.g s.W * ((s.H + 7) / 8) := by omega
    unfold Sh.cutB Sh.joinB
    rw [hN, TG.cut_join w1 b1 hF hi]
    simp only [List.getD, List.getElem?_map, List.getElem?_eq_getElem (show j < (la.set q lb[q]).length by omega), Option.map_some, Option.getD_some]
    rw [hat j hj]
    unfold mixB
    by_cases e : j = q
    · subst e
      rw [if_pos rfl, if_pos rfl]
      exact (hb.2 j hj).2.1
    · rw [if_neg e, if_neg e]
      exact (ha.2 j (by omega)).2.1
end Go.Proofs.Ytcgpeijmmongoaa
