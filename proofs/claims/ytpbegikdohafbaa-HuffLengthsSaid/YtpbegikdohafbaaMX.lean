/- The document's members: a tree, and where the row of its places lies. -/
import Derived.Test.YtpbegikdohafbaaMem
import Derived.Test.YtpbegikdohafbaaRowI
namespace Go.Proofs.Ytpbegikdohafbaa
set_option linter.all false
open Go.RowKit

abbrev MX := Mem × Option Addr × Nat × Nat
def mxw (x : MX) : Int := x.1.w
def plI (l : List Nat) : List Int := l.map fun (x : Nat) => (x : Int)
theorem plI_append (a b : List Nat) : plI (a ++ b) = plI a ++ plI b := by simp [plI]
/-- Each member's places lie in its row, below B. -/
def MOk (w : World) (B : Nat) (l : List MX) : Prop := ∀ x ∈ l, RdI w B x.2.1 x.2.2.1 (plI x.1.items)
theorem MOk.blw {w w' : World} {B : Nat} {l : List MX} (h : MOk w B l) (hb : Below B w w') : MOk w' B l := fun x hx => (h x hx).blw hb
theorem MOk.more {w : World} {B B' : Nat} {l : List MX} (h : MOk w B l) (hB : B ≤ B') : MOk w B' l := fun x hx => (h x hx).more hB
theorem MOk.nil (w : World) (B : Nat) : MOk w B [] := fun x hx => by cases hx
theorem MOk.app {w : World} {B : Nat} {a b : List MX} (h : MOk w B a) (k : MOk w B b) : MOk w B (a ++ b) := fun x hx => by
  rcases List.mem_append.1 hx with h1 | h1
  · exact h x h1
  · exact k x h1
theorem MOk.one {w : World} {B : Nat} {x : MX} (h : RdI w B x.2.1 x.2.2.1 (plI x.1.items)) : MOk w B [x] := fun y hy => by
  rw [List.mem_singleton] at hy
  rw [hy]
  exact h
theorem MOk.at {w : World} {B : Nat} {l : List MX} (h : MOk w B l) {k : Nat} {x : MX} (hx : l[k]? = some x) : RdI w B x.2.1 x.2.2.1 (plI x.1.items) := h x (List.mem_of_getElem? hx)
theorem mx_map : ∀ (n : Nat) (a b : List MX), a.length + b.length ≤ n → (mrgBy mxw a b).map (·.1) = mrgBy Mem.w (a.map (·.1)) (b.map (·.1)) := by
  intro n
  induction n with
  | zero =>
    intro a b h
    obtain rfl : a = [] := List.eq_nil_of_length_eq_zero (by omega)
    obtain rfl : b = [] := List.eq_nil_of_length_eq_zero (by omega)
    simp [mrgBy]
  | succ n ih =>
    intro a b h
    cases a with
    | nil => simp [mrgBy]
    | cons x r =>
      cases b with
      | nil => simp [mrgBy]
      | cons y s =>
        simp only [List.length_cons] at h
        rw [mrgBy, List.map_cons, List.map_cons, mrgBy]
        unfold mxw
        split
        · rw [List.map_cons]
          have := ih (x :: r) s (by simp only [List.length_cons]; omega)
          unfold mxw at this
          rw [this, List.map_cons]
        · rw [List.map_cons]
          have := ih r (y :: s) (by simp only [List.length_cons]; omega)
          unfold mxw at this
          rw [this, List.map_cons]
theorem mx_mem : ∀ (n : Nat) (a b : List MX), a.length + b.length ≤ n → ∀ x ∈ mrgBy mxw a b, x ∈ a ∨ x ∈ b := by
  intro n
  induction n with
  | zero =>
    intro a b h x hx
    obtain rfl : a = [] := List.eq_nil_of_length_eq_zero (by omega)
    obtain rfl : b = [] := List.eq_nil_of_length_eq_zero (by omega)
    simp [mrgBy] at hx
  | succ n ih =>
    intro a b h x hx
    cases a with
    | nil => rw [mrgBy] at hx; exact .inr hx
    | cons p r =>
      cases b with
      | nil => simp [mrgBy] at hx; left; simpa using hx
      | cons q s =>
        simp only [List.length_cons] at h
        rw [mrgBy] at hx
        split at hx
        · rcases List.mem_cons.1 hx with e | hx
          · right; rw [e]; simp
          · rcases ih (p :: r) s (by simp only [List.length_cons]; omega) x hx with h1 | h1
            · exact .inl h1
            · right; simp [h1]
        · rcases List.mem_cons.1 hx with e | hx
          · left; rw [e]; simp
          · rcases ih r (q :: s) (by simp only [List.length_cons]; omega) x hx with h1 | h1
            · left; simp [h1]
            · exact .inr h1
/-- The merge, by where it stands in both lists. -/
theorem mx_takeA {a b : List MX} {i k : Nat} {x : MX} (hx : a[i]? = some x) (h : b.length ≤ k ∨ ∃ y, b[k]? = some y ∧ mxw x ≤ mxw y) : mrgBy mxw (a.drop i) (b.drop k) = x :: mrgBy mxw (a.drop (i + 1)) (b.drop k) := by
  obtain ⟨hi, e⟩ := List.getElem?_eq_some_iff.1 hx
  rw [List.drop_eq_getElem_cons hi, e]
  rcases h with h | ⟨y, hy, hle⟩
  · rw [List.drop_eq_nil_of_le h]
    cases a.drop (i + 1) <;> simp [mrgBy]
  · obtain ⟨hk, e2⟩ := List.getElem?_eq_some_iff.1 hy
    rw [List.drop_eq_getElem_cons hk, e2, mrgBy, if_neg (by omega)]
theorem mx_takeB {a b : List MX} {i k : Nat} {y : MX} (hy : b[k]? = some y) (h : a.length ≤ i ∨ ∃ x, a[i]? = some x ∧ mxw y < mxw x) : mrgBy mxw (a.drop i) (b.drop k) = y :: mrgBy mxw (a.drop i) (b.drop (k + 1)) := by
  obtain ⟨hk, e⟩ := List.getElem?_eq_some_iff.1 hy
  rw [List.drop_eq_getElem_cons hk, e]
  rcases h with h | ⟨x, hx, hlt⟩
  · rw [List.drop_eq_nil_of_le h, mrgBy, mrgBy]
  · obtain ⟨hi, e2⟩ := List.getElem?_eq_some_iff.1 hx
    rw [List.drop_eq_getElem_cons hi, e2, mrgBy, if_pos hlt]
theorem mx_len : ∀ (n : Nat) (a b : List MX), a.length + b.length ≤ n → (mrgBy mxw a b).length = a.length + b.length := by
  intro n
  induction n with
  | zero =>
    intro a b h
    obtain rfl : a = [] := List.eq_nil_of_length_eq_zero (by omega)
    obtain rfl : b = [] := List.eq_nil_of_length_eq_zero (by omega)
    simp [mrgBy]
  | succ n ih =>
    intro a b h
    cases a with
    | nil => simp [mrgBy]
    | cons p r =>
      cases b with
      | nil => simp [mrgBy]
      | cons q s =>
        simp only [List.length_cons] at h
        rw [mrgBy]
        split
        · rw [List.length_cons, ih (p :: r) s (by simp only [List.length_cons]; omega)]; simp only [List.length_cons]; omega
        · rw [List.length_cons, ih r (q :: s) (by simp only [List.length_cons]; omega)]; simp only [List.length_cons]; omega
end Go.Proofs.Ytpbegikdohafbaa
