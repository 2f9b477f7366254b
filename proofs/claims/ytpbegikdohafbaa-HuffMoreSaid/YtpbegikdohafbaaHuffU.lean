/- huff: a place without weight, laid anywhere, changes no other length. -/
import Derived.Test.YtpbegikdohafbaaHuffT
namespace Go.Proofs.Ytpbegikdohafbaa
set_option linter.all false

/-- The places renamed. -/
def Mem.ren (f : Nat → Nat) : Mem → Mem
  | .leaf w p => .leaf w (f p)
  | .node l r => .node (l.ren f) (r.ren f)
theorem ren_w (f : Nat → Nat) (t : Mem) : (t.ren f).w = t.w := by
  induction t with
  | leaf w p => rfl
  | node l r hl hr => simp only [Mem.ren, Mem.w, hl, hr]
theorem ren_items (f : Nat → Nat) (t : Mem) : (t.ren f).items = t.items.map f := by
  induction t with
  | leaf w p => rfl
  | node l r hl hr => simp only [Mem.ren, Mem.items, hl, hr, List.map_append]
theorem ren_flat (f : Nat → Nat) (l : List Mem) : (l.map (Mem.ren f)).flatMap Mem.items = (l.flatMap Mem.items).map f := by
  induction l with
  | nil => rfl
  | cons a r ih => simp only [List.map_cons, List.flatMap_cons, ih, ren_items, List.map_append]
theorem insR_ren (f : Nat → Nat) (acc : List Mem) (x : Mem) : insR Mem.w (acc.map (Mem.ren f)) (x.ren f) = (insR Mem.w acc x).map (Mem.ren f) := by
  unfold insR
  rw [List.takeWhile_map, List.dropWhile_map, List.map_append, List.map_cons, ren_w]
  have : ((fun y => decide (Mem.w y ≤ x.w)) ∘ Mem.ren f) = fun y => decide (Mem.w y ≤ x.w) := by
    funext y; simp only [Function.comp, ren_w]
  rw [this]
theorem stab_ren (f : Nat → Nat) (l : List Mem) : stab Mem.w (l.map (Mem.ren f)) = (stab Mem.w l).map (Mem.ren f) := by
  unfold stab
  have : ∀ acc : List Mem, (l.map (Mem.ren f)).foldl (insR Mem.w) (acc.map (Mem.ren f)) = (l.foldl (insR Mem.w) acc).map (Mem.ren f) := by
    induction l with
    | nil => intro acc; rfl
    | cons a r ih =>
      intro acc
      rw [List.map_cons, List.foldl_cons, List.foldl_cons, insR_ren, ih]
  exact this []
theorem packs_ren (f : Nat → Nat) : ∀ l : List Mem, packs (l.map (Mem.ren f)) = (packs l).map (Mem.ren f)
  | [] => rfl
  | [_] => rfl
  | a :: b :: r => by
    show _ :: packs (r.map (Mem.ren f)) = _ :: (packs r).map (Mem.ren f)
    rw [packs_ren f r]
    rfl
theorem mrg_ren (f : Nat → Nat) (a b : List Mem) : mrgBy Mem.w (a.map (Mem.ren f)) (b.map (Mem.ren f)) = (mrgBy Mem.w a b).map (Mem.ren f) := by
  induction a, b using mrgBy.induct (wt := Mem.w) with
  | case1 b => simp only [List.map_nil, mrgBy]
  | case2 a r => simp only [List.map_nil, List.map_cons, mrgBy]
  | case3 a r b s h ih =>
    simp only [List.map_cons, mrgBy] at ih ⊢
    rw [ren_w, ren_w, if_pos h, if_pos h, List.map_cons, ih]
  | case4 a r b s h ih =>
    simp only [List.map_cons, mrgBy] at ih ⊢
    rw [ren_w, ren_w, if_neg h, if_neg h, List.map_cons, ih]
theorem pmL_ren (f : Nat → Nat) (l : List Mem) : ∀ k, pmL (l.map (Mem.ren f)) k = (pmL l k).map (Mem.ren f)
  | 0 => rfl
  | k + 1 => by
    show mrgBy _ _ (packs (pmL (l.map (Mem.ren f)) k)) = (mrgBy _ _ _).map _
    rw [pmL_ren f l k, packs_ren, mrg_ren]
/-- Where a place goes when a new one is laid at a. -/
def sh1 (a p : Nat) : Nat := if p < a then p else p + 1
theorem sh1_inj (a : Nat) : ∀ p q, sh1 a p = sh1 a q → p = q := fun p q h => by
  unfold sh1 at h
  split at h <;> split at h <;> omega
theorem leaves_more (A B : List Int) : leaves (A ++ 0 :: B) = (leaves (A ++ B)).map (Mem.ren (sh1 A.length)) := by
  induction B using snoc_ind with
  | h0 =>
    rw [leaves_snoc, if_neg (by omega), List.append_nil, List.append_nil]
    refine (List.map_id _).symm.trans (List.map_congr_left fun t ht => ?_)
    obtain ⟨p, hp, rfl, h⟩ := leaves_mem ht
    show Mem.leaf _ p = Mem.leaf _ (sh1 A.length p)
    rw [sh1, if_pos hp]
  | h1 B x ih =>
    rw [show A ++ 0 :: (B ++ [x]) = (A ++ 0 :: B) ++ [x] by simp, leaves_snoc, ih, ← List.append_assoc, leaves_snoc, List.map_append]
    congr 1
    split
    · simp only [List.map_cons, List.map_nil, Mem.ren, List.length_append, List.length_cons]
      rw [sh1, if_neg (by omega)]
      rfl
    · rfl
theorem count_sh1 (a : Nat) (l : List Nat) (i : Nat) : (l.map (sh1 a)).count (sh1 a i) = l.count i := by
  induction l with
  | nil => rfl
  | cons x r ih =>
    rw [List.map_cons, List.count_cons, List.count_cons, ih]
    congr 1
    by_cases h : x = i
    · subst h; simp
    · have h2 : sh1 a x ≠ sh1 a i := fun e => h (sh1_inj a _ _ e)
      rw [beq_eq_false_iff_ne.2 h, beq_eq_false_iff_ne.2 h2]
theorem posn_more (A B : List Int) : posn (A ++ 0 :: B) = posn (A ++ B) := by
  rw [← leaves_length, ← leaves_length, leaves_more, List.length_map]
theorem lens_of_count (ws : List Int) (m : Nat) : ∃ ps : List Nat, lensOf ws m = bumps (List.replicate ws.length 0) ps ∧
    ps = (if (leaves ws).length = 1 then (leaves ws).flatMap Mem.items else ((pmL (stab Mem.w (leaves ws)) (m - 1)).take (2 * (leaves ws).length - 2)).flatMap Mem.items) := by
  refine ⟨_, ?_, rfl⟩
  unfold lensOf
  split <;> rfl
theorem lensOf_count (ws : List Int) (m : Nat) {i : Nat} (hi : i < ws.length) : (lensOf ws m)[i]? = some (((if (leaves ws).length = 1 then (leaves ws).flatMap Mem.items else ((pmL (stab Mem.w (leaves ws)) (m - 1)).take (2 * (leaves ws).length - 2)).flatMap Mem.items).count i : Nat) : Int) := by
  obtain ⟨ps, h, e⟩ := lens_of_count ws m
  rw [← e]
  have h2 := bumps_get (List.replicate ws.length 0) ps i (by simpa using hi)
  rw [← h] at h2
  have hl : i < (lensOf ws m).length := by rw [lensOf_len]; exact hi
  rw [List.getElem?_eq_getElem hl]
  rw [List.getD_eq_getElem?_getD, List.getElem?_eq_getElem hl, Option.getD_some] at h2
  have hz : (List.replicate ws.length (0 : Int)).getD i 0 = 0 := by
    rw [List.getD_eq_getElem?_getD, List.getElem?_replicate]
    split <;> rfl
  rw [h2, hz, Int.zero_add]
theorem lens_more (A B : List Int) (m : Nat) {i : Nat} (hi : i < (A ++ B).length) : (lensOf (A ++ 0 :: B) m)[sh1 A.length i]? = (lensOf (A ++ B) m)[i]? := by
  have h2 : sh1 A.length i < (A ++ 0 :: B).length := by
    simp only [List.length_append, List.length_cons] at hi ⊢
    unfold sh1
    split <;> omega
  rw [lensOf_count _ m h2, lensOf_count _ m hi, leaves_more, List.length_map, stab_ren, pmL_ren, ← List.map_take, ren_flat, ren_flat]
  congr 2
  split
  · exact count_sh1 _ _ _
  · exact count_sh1 _ _ _
/-- What is left without the new place. -/
theorem lens_less (A B : List Int) (m : Nat) : (lensOf (A ++ 0 :: B) m).take A.length ++ (lensOf (A ++ 0 :: B) m).drop (A.length + 1) = lensOf (A ++ B) m := by
  have hL : (lensOf (A ++ 0 :: B) m).length = A.length + B.length + 1 := by rw [lensOf_len]; simp; omega
  apply List.ext_getElem?
  intro i
  by_cases hi : i < (A ++ B).length
  · rw [← lens_more A B m hi]
    by_cases h : i < A.length
    · rw [List.getElem?_append_left (by rw [List.length_take, hL]; omega), List.getElem?_take, if_pos h, sh1, if_pos h]
    · rw [List.getElem?_append_right (by rw [List.length_take, hL]; omega), List.length_take, List.getElem?_drop, sh1, if_neg h]
      congr 1
      rw [hL]
      omega
  · rw [List.getElem?_eq_none, List.getElem?_eq_none]
    · rw [lensOf_len]; omega
    · rw [List.length_append, List.length_take, List.length_drop, hL]
      simp only [List.length_append] at hi
      omega
theorem lens_new (A B : List Int) (m : Nat) : (lensOf (A ++ 0 :: B) m)[A.length]? = some 0 := by
  rw [lensOf_get (A ++ 0 :: B) m (by simp), lnat_zero (by unfold wOf; simp)]
  rfl
theorem wrong_more (A B : List Int) (most : Int) (h1 : 1 ≤ (A ++ B).length) (h2 : (A ++ B).length ≤ 150) : wrongH (A ++ 0 :: B) most = wrongH (A ++ B) most := by
  have e : badW (A ++ 0 :: B) = badW (A ++ B) := by
    unfold badW
    rw [List.any_append, List.any_append, List.any_cons]
    simp
  have hl : (A ++ 0 :: B).length = (A ++ B).length + 1 := by simp; omega
  unfold wrongH
  rw [e, posn_more, hl]
  rw [decide_eq_false (show ¬ (A ++ B).length + 1 < 1 by omega), decide_eq_false (show ¬ (A ++ B).length < 1 by omega), decide_eq_false (show ¬ 300 < (A ++ B).length + 1 by omega), decide_eq_false (show ¬ 300 < (A ++ B).length by omega)]
end Go.Proofs.Ytpbegikdohafbaa
