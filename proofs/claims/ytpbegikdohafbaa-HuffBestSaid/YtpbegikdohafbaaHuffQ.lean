/- huff: the lengths of a code by packages, plainly: they fill it just. -/
import Derived.Test.YtpbegikdohafbaaHuffP
import Derived.Test.YtpbegikdohafbaaKraft
namespace Go.Proofs.Ytpbegikdohafbaa
set_option linter.all false

/-- How often each place stands among so many. -/
theorem bumps_get (xs : List Int) (ps : List Nat) (i : Nat) (hi : i < xs.length) : (bumps xs ps).getD i 0 = xs.getD i 0 + (ps.count i : Int) := by
  induction ps generalizing xs with
  | nil => simp [bumps]
  | cons p ps ih =>
    have e : bumps xs (p :: ps) = bumps (bump xs p) ps := rfl
    rw [e, ih (bump xs p) (by rw [bump, List.length_set]; exact hi), List.count_cons]
    unfold bump
    rw [List.getD_eq_getElem?_getD, List.getElem?_set]
    by_cases h : p = i
    · subst h
      rw [if_pos rfl, if_pos hi]
      simp
      omega
    · rw [if_neg h, List.getD_eq_getElem?_getD]
      have : (p == i) = false := beq_eq_false_iff_ne.2 h
      simp [this]
/-- The packages' members. -/
def kids : List Mem → List Mem
  | [] => []
  | .leaf _ _ :: r => kids r
  | .node a b :: r => a :: b :: kids r
/-- The items that stand alone. -/
def tops : List Mem → List Nat
  | [] => []
  | .leaf _ p :: r => p :: tops r
  | .node _ _ :: r => tops r
theorem kids_append (a b : List Mem) : kids (a ++ b) = kids a ++ kids b := by
  induction a with
  | nil => rfl
  | cons x r ih => cases x <;> simp [kids, ih]
theorem tops_append (a b : List Mem) : tops (a ++ b) = tops a ++ tops b := by
  induction a with
  | nil => rfl
  | cons x r ih => cases x <;> simp [tops, ih]
theorem items_count (T : List Mem) (i : Nat) : (T.flatMap Mem.items).count i = (tops T).count i + ((kids T).flatMap Mem.items).count i := by
  induction T with
  | nil => rfl
  | cons x r ih =>
    rw [List.flatMap_cons, List.count_append, ih]
    cases x with
    | leaf w p => simp [tops, kids, Mem.items, List.count_cons]; omega
    | node a b => simp [tops, kids, Mem.items, List.count_append]; omega
theorem tops_kids_len (T : List Mem) : (tops T).length * 2 + (kids T).length = T.length * 2 := by
  induction T with
  | nil => rfl
  | cons x r ih => cases x <;> simp [tops, kids] <;> omega
def isLeaf : Mem → Bool
  | .leaf _ _ => true
  | .node _ _ => false
def Mem.pl : Mem → Nat
  | .leaf _ p => p
  | .node _ _ => 0
theorem tops_leaves {a : List Mem} (h : ∀ x ∈ a, isLeaf x = true) : tops a = a.map Mem.pl ∧ kids a = [] := by
  induction a with
  | nil => exact ⟨rfl, rfl⟩
  | cons x r ih =>
    obtain ⟨h1, h2⟩ := ih (fun y hy => h y (by simp [hy]))
    cases x with
    | leaf w p => simp [tops, kids, Mem.pl, h1, h2]
    | node a b => have := h (.node a b) (by simp); cases this
theorem tops_nodes {a : List Mem} (h : ∀ x ∈ a, isLeaf x = false) : tops a = [] := by
  induction a with
  | nil => rfl
  | cons x r ih =>
    have h1 := ih (fun y hy => h y (by simp [hy]))
    cases x with
    | leaf w p => have := h (.leaf w p) (by simp); cases this
    | node a b => simp [tops, h1]
theorem packs_nodes (l : List Mem) : ∀ x ∈ packs l, isLeaf x = false := by
  intro x hx
  obtain ⟨a, b, rfl, _, _⟩ := packs_mem hx
  rfl
theorem kids_packs (l : List Mem) (q : Nat) : kids ((packs l).take q) = l.take (2 * min q (packs l).length) := by
  fun_induction packs l generalizing q with
  | case1 a b r ih =>
    cases q with
    | zero => simp [kids]
    | succ q =>
      rw [List.take_succ_cons, kids, ih q, List.length_cons, show min (q + 1) ((packs r).length + 1) = min q (packs r).length + 1 by omega, show 2 * (min q (packs r).length + 1) = 2 * min q (packs r).length + 1 + 1 by omega, List.take_succ_cons, List.take_succ_cons]
  | case2 l h => simp [kids]
/-- The front of a merge. -/
theorem mrg_take (a b : List Mem) (hs : Srt Mem.w a) (ha : ∀ x ∈ a, isLeaf x = true) (hb : ∀ x ∈ b, isLeaf x = false) (t : Nat) (ht : t ≤ a.length + b.length) :
    ∃ p q, p + q = t ∧ p ≤ a.length ∧ q ≤ b.length ∧ tops ((mrgBy Mem.w a b).take t) = (a.take p).map Mem.pl ∧ kids ((mrgBy Mem.w a b).take t) = kids (b.take q) ∧ (∀ x ∈ a.drop p, ∀ y ∈ b.take q, y.w < x.w) := by
  fun_induction mrgBy Mem.w a b generalizing t with
  | case1 b =>
    refine ⟨0, t, by omega, by simp, by simpa using ht, ?_, rfl, fun x hx => by simp at hx⟩
    rw [tops_nodes (fun x hx => hb x (List.mem_of_mem_take hx))]
    rfl
  | case2 x r =>
    obtain ⟨h1, h2⟩ := tops_leaves (a := (x :: r).take t) (fun y hy => ha y (List.mem_of_mem_take hy))
    refine ⟨t, 0, by omega, by simpa using ht, by simp, h1, ?_, fun _ _ y hy => by simp at hy⟩
    rw [h2]
    rfl
  | case3 x r y s hlt ih =>
    cases t with
    | zero => exact ⟨0, 0, rfl, by simp, by simp, rfl, rfl, fun _ _ y hy => by simp at hy⟩
    | succ t =>
      obtain ⟨p, q, e1, e2, e3, e4, e5, e6⟩ := ih hs ha (fun z hz => hb z (by simp [hz])) t (by simp at ht ⊢; omega)
      have hy := hb y (by simp)
      refine ⟨p, q + 1, by omega, e2, by simp; omega, ?_, ?_, ?_⟩
      · rw [List.take_succ_cons]
        cases y with
        | leaf => cases hy
        | node => exact e4
      · rw [List.take_succ_cons, List.take_succ_cons]
        cases y with
        | leaf => cases hy
        | node u v => rw [kids, kids, e5]
      · intro z hz v hv
        rw [List.take_succ_cons] at hv
        rcases List.mem_cons.1 hv with rfl | hv
        · have hzm := List.mem_of_mem_drop hz
          rcases List.mem_cons.1 hzm with rfl | hzm
          · exact hlt
          · have := (List.pairwise_cons.1 hs).1 z hzm
            omega
        · exact e6 z hz v hv
  | case4 x r y s hge ih =>
    cases t with
    | zero => exact ⟨0, 0, rfl, by simp, by simp, rfl, rfl, fun _ _ y hy => by simp at hy⟩
    | succ t =>
      obtain ⟨p, q, e1, e2, e3, e4, e5, e6⟩ := ih (List.pairwise_cons.1 hs).2 (fun z hz => ha z (by simp [hz])) hb t (by simp at ht ⊢; omega)
      have hx := ha x (by simp)
      refine ⟨p + 1, q, by omega, by simp; omega, e3, ?_, ?_, ?_⟩
      · rw [List.take_succ_cons, List.take_succ_cons]
        cases x with
        | leaf w p => rw [tops, e4]; rfl
        | node => cases hx
      · rw [List.take_succ_cons]
        cases x with
        | leaf w p => rw [kids, e5]
        | node => cases hx
      · intro z hz v hv
        exact e6 z (by simpa using hz) v hv
/-- A tree is as heavy as its items. -/
def Fits (W : Nat → Int) : Mem → Prop
  | .leaf x p => x = W p ∧ 0 ≤ x
  | .node a b => Fits W a ∧ Fits W b
theorem Fits.le {W : Nat → Int} : ∀ {t : Mem}, Fits W t → 0 ≤ t.w ∧ ∀ p ∈ t.items, W p ≤ t.w
  | .leaf x p, h => ⟨h.2, fun q hq => by
    have : q = p := by simpa [Mem.items] using hq
    subst this
    show W q ≤ x
    rw [h.1]
    exact Int.le_refl _⟩
  | .node a b, h => by
    obtain ⟨a0, a1⟩ := Fits.le h.1
    obtain ⟨b0, b1⟩ := Fits.le h.2
    refine ⟨by show 0 ≤ a.w + b.w; omega, fun q hq => ?_⟩
    show W q ≤ a.w + b.w
    rcases List.mem_append.1 hq with hq | hq
    · have := a1 q hq; omega
    · have := b1 q hq; omega
theorem pm_fits {W : Nat → Int} {first : List Mem} (h : ∀ t ∈ first, Fits W t) (k : Nat) : ∀ t ∈ pmL first k, Fits W t :=
  pm_all (P := fun _ t => Fits W t) (fun _ t ht => h t ht) (fun _ _ _ ha hb => ⟨ha, hb⟩) k
end Go.Proofs.Ytpbegikdohafbaa
