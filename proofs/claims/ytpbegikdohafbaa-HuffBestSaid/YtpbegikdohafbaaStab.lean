/- Stable sorting, plainly: lists with the same elements of each weight in the same order, and rising, are one. -/
import Derived.Test.YtpbegikdohafbaaBase
namespace Go.Proofs.Ytpbegikdohafbaa
set_option linter.all false

section
variable {α : Type} (wt : α → Int)

/-- The same elements of each weight, in the same order. -/
def FEq (l l' : List α) : Prop := ∀ v : Int, l'.filter (fun x => wt x == v) = l.filter (fun x => wt x == v)
def Srt (l : List α) : Prop := l.Pairwise (fun x y => wt x ≤ wt y)
/-- l' is l, sorted stably. -/
def SS (l l' : List α) : Prop := Srt wt l' ∧ FEq wt l l'

variable {wt}
theorem FEq.refl (l : List α) : FEq wt l l := fun _ => rfl
theorem FEq.trans {a b c : List α} (h : FEq wt a b) (k : FEq wt b c) : FEq wt a c := fun v => (k v).trans (h v)
theorem FEq.symm {a b : List α} (h : FEq wt a b) : FEq wt b a := fun v => (h v).symm
theorem FEq.append {a b a' b' : List α} (h : FEq wt a a') (k : FEq wt b b') : FEq wt (a ++ b) (a' ++ b') := fun v => by
  rw [List.filter_append, List.filter_append, h v, k v]
theorem FEq.swap {U V : List α} (h : ∀ x ∈ U, ∀ y ∈ V, wt y < wt x) : FEq wt (U ++ V) (V ++ U) := fun v => by
  rw [List.filter_append, List.filter_append]
  by_cases hU : U.filter (fun x => wt x == v) = []
  · rw [hU, List.append_nil, List.nil_append]
  · have hV : V.filter (fun x => wt x == v) = [] := by
      obtain ⟨x, hx⟩ := List.exists_mem_of_ne_nil _ hU
      rw [List.mem_filter, beq_iff_eq] at hx
      rw [List.filter_eq_nil_iff]
      intro y hy e
      rw [beq_iff_eq] at e
      have := h x hx.1 y hy
      omega
    rw [hV, List.append_nil, List.nil_append]
theorem FEq.mem {a b : List α} (h : FEq wt a b) (x : α) : x ∈ b ↔ x ∈ a := by
  have e := h (wt x)
  have h1 : ∀ l : List α, x ∈ l ↔ x ∈ l.filter (fun y => wt y == wt x) := fun l => by simp [List.mem_filter]
  rw [h1 a, h1 b, e]
theorem FEq.perm [DecidableEq α] {a b : List α} (h : FEq wt a b) : a.Perm b := by
  rw [List.perm_iff_count]
  intro x
  have h1 : ∀ l : List α, l.count x = (l.filter (fun y => wt y == wt x)).count x := fun l => by rw [List.count_filter (by simp)]
  rw [h1 a, h1 b, h (wt x)]
theorem FEq.length {a b : List α} (h : FEq wt a b) : b.length = a.length := by
  classical
  exact h.perm.length_eq.symm

theorem Srt.uniq {l : List α} : ∀ {l' : List α}, Srt wt l → Srt wt l' → FEq wt l l' → l = l' := by
  induction l with
  | nil =>
    intro l' _ _ h
    have := h.length
    exact (List.eq_nil_of_length_eq_zero (by simpa using this)).symm
  | cons x t ih =>
    intro l' h1 h2 h
    cases l' with
    | nil => have := h.length; simp at this
    | cons y s =>
      unfold Srt at h1 h2
      rw [List.pairwise_cons] at h1 h2
      have hxy : wt x = wt y := by
        have hx : x ∈ y :: s := (h.mem x).2 (by simp)
        have hy : y ∈ x :: t := (h.mem y).1 (by simp)
        rw [List.mem_cons] at hx hy
        rcases hx with rfl | hx
        · rfl
        rcases hy with rfl | hy
        · rfl
        have := h1.1 y hy
        have := h2.1 x hx
        omega
      have e := h (wt x)
      rw [List.filter_cons_of_pos (by simp [hxy]), List.filter_cons_of_pos (by simp)] at e
      injection e with e1 e2
      subst e1
      congr 1
      refine ih h1.2 h2.2 (fun v => ?_)
      by_cases hv : wt y = v
      · subst hv; exact e2
      · have e := h v
        rwa [List.filter_cons_of_neg (by simpa using hv), List.filter_cons_of_neg (by simpa using hv)] at e
theorem SS.uniq {l a b : List α} (h : SS wt l a) (k : SS wt l b) : a = b := Srt.uniq h.1 k.1 (h.2.symm.trans k.2)
theorem SS.of {l : List α} (h : Srt wt l) : SS wt l l := ⟨h, FEq.refl l⟩

theorem Srt.append {a b : List α} : Srt wt (a ++ b) ↔ Srt wt a ∧ Srt wt b ∧ ∀ x ∈ a, ∀ y ∈ b, wt x ≤ wt y := List.pairwise_append
theorem Srt.one (x : α) : Srt wt [x] := List.pairwise_singleton _ _
theorem Srt.nil_ : Srt wt [] := List.Pairwise.nil

/-- Two runs with a gap between them, each sorted. -/
theorem SS.join {U V M N : List α} (h : SS wt U M) (k : SS wt V N) (hg : ∀ x ∈ U, ∀ y ∈ V, wt x ≤ wt y) : SS wt (U ++ V) (M ++ N) :=
  ⟨Srt.append.2 ⟨h.1, k.1, fun x hx y hy => hg x ((h.2.mem x).1 hx) y ((k.2.mem y).1 hy)⟩, h.2.append k.2⟩
theorem SS.feq {l l' m : List α} (h : FEq wt l l') (k : SS wt l' m) : SS wt l m := ⟨k.1, h.trans k.2⟩

/-- An element set behind all that are no heavier. -/
def insR (wt : α → Int) (acc : List α) (x : α) : List α := acc.takeWhile (fun y => decide (wt y ≤ wt x)) ++ x :: acc.dropWhile (fun y => decide (wt y ≤ wt x))
def stab (wt : α → Int) (l : List α) : List α := l.foldl (insR wt) []
theorem Srt.drop_gt {l : List α} {v : Int} (h : Srt wt l) : ∀ y ∈ l.dropWhile (fun y => decide (wt y ≤ v)), v < wt y := by
  induction l with
  | nil => simp
  | cons x t ih =>
    unfold Srt at h
    rw [List.pairwise_cons] at h
    rw [List.dropWhile_cons]
    split
    · exact ih h.2
    · rename_i hx
      intro y hy
      rw [List.mem_cons] at hy
      have hx' : v < wt x := by simpa using hx
      rcases hy with rfl | hy
      · exact hx'
      · have := h.1 y hy; omega
theorem takeWhile_le {l : List α} {v : Int} : ∀ y ∈ l.takeWhile (fun y => decide (wt y ≤ v)), wt y ≤ v := by
  induction l with
  | nil => simp
  | cons x t ih =>
    intro y hy
    rw [List.takeWhile_cons] at hy
    split at hy
    · rename_i hx
      rw [List.mem_cons] at hy
      rcases hy with rfl | hy
      · simpa using hx
      · exact ih y hy
    · cases hy
theorem SS.insert {l m : List α} (h : SS wt l m) {a b : List α} (hm : m = a ++ b) (x : α) (ha : ∀ y ∈ a, wt y ≤ wt x) (hb : ∀ y ∈ b, wt x < wt y) : SS wt (l ++ [x]) (a ++ x :: b) := by
  subst hm
  obtain ⟨h1, h2, h3⟩ := Srt.append.1 h.1
  refine ⟨Srt.append.2 ⟨h1, ?_, ?_⟩, ?_⟩
  · unfold Srt
    rw [List.pairwise_cons]
    exact ⟨fun y hy => by have := hb y hy; omega, h2⟩
  · intro y hy z hz
    rw [List.mem_cons] at hz
    rcases hz with rfl | hz
    · exact ha y hy
    · exact h3 y hy z hz
  · have e1 : FEq wt (l ++ [x]) ((a ++ b) ++ [x]) := h.2.append (FEq.refl _)
    refine e1.trans ?_
    rw [List.append_assoc]
    refine (FEq.refl a).append ?_
    exact FEq.swap (fun y hy z hz => by
      have : z = x := by simpa using hz
      subst this
      exact hb y hy)
theorem stab_ss (l : List α) : SS wt l (stab wt l) := by
  induction l using snoc_ind with
  | h0 => exact SS.of Srt.nil_
  | h1 l x ih =>
    unfold stab at ih ⊢
    rw [List.foldl_append]
    exact ih.insert (List.takeWhile_append_dropWhile).symm x takeWhile_le (Srt.drop_gt ih.1)
theorem SS.eq_stab {l m : List α} (h : SS wt l m) : m = stab wt l := h.uniq (stab_ss l)
theorem stab_snoc {l a b : List α} {x : α} (hm : stab wt l = a ++ b) (ha : ∀ y ∈ a, wt y ≤ wt x) (hb : ∀ y ∈ b, wt x < wt y) : stab wt (l ++ [x]) = a ++ x :: b :=
  ((stab_ss l).insert hm x ha hb).eq_stab.symm
end
end Go.Proofs.Ytpbegikdohafbaa
