/- Lists of pictures: a row of five cells each. -/
import Derived.Test.YtmffmijjdpjaiaaBox
import Derived.Test.YtmffmijjdpjaiaaOpenR
import Derived.Deep.Slices
namespace Go.Proofs.Ytmffmijjdpjaiaa
set_option linter.all false
open Go.ChangeShapes Go.WideShapes Go.ChangeAt Go.RowKit

/-- A picture in memory: its shape, where its bytes are, and these. -/
structure Ra where
  s : Sh
  A : Option Addr
  n : Nat
  c : Nat
  bs : List UInt8
instance : Inhabited Ra := ⟨⟨⟨0, 0, 0, 0⟩, none, 0, 0, []⟩⟩

def Ra.cells (x : Ra) : List Value := [.int .i64 x.s.w, .int .i64 x.s.h, .int .i64 x.s.c, .int .i64 x.s.d, .slice x.A x.n x.c]
def Ra.f (x : Ra) : Nat → Option Value := r5 (.int .i64 x.s.w) (.int .i64 x.s.h) (.int .i64 x.s.c) (.int .i64 x.s.d) (.slice x.A x.n x.c)
def rcs (l : List Ra) : List Value := l.flatMap Ra.cells
theorem Ra.cells_len (x : Ra) : x.cells.length = 5 := rfl
theorem Ra.cells_get (x : Ra) : ∀ j, x.cells[j]? = x.f j
  | 0 => rfl | 1 => rfl | 2 => rfl | 3 => rfl | 4 => rfl | j + 5 => by simp [Ra.cells, Ra.f, r5]
theorem rcs_len : ∀ l : List Ra, (rcs l).length = l.length * 5
  | [] => rfl
  | x :: l => by
    have := rcs_len l
    unfold rcs at this ⊢
    rw [List.flatMap_cons, List.length_append, this, Ra.cells_len, List.length_cons]
    omega
theorem rcs_append (l m : List Ra) : rcs (l ++ m) = rcs l ++ rcs m := by simp [rcs]
theorem rcs_one (x : Ra) : rcs [x] = x.cells := by simp [rcs]
theorem rcs_get : ∀ (l : List Ra) (i j : Nat) (hi : i < l.length), j < 5 → (rcs l)[i * 5 + j]? = l[i].cells[j]?
  | x :: l, 0, j, _, hj => by
    unfold rcs
    rw [List.flatMap_cons, List.getElem?_append_left (by rw [Ra.cells_len]; omega)]
    simp
  | x :: l, i + 1, j, hi, hj => by
    have := rcs_get l i j (by simpa using hi) hj
    unfold rcs at this ⊢
    rw [List.flatMap_cons, List.getElem?_append_right (by rw [Ra.cells_len]; omega), Ra.cells_len, List.getElem_cons_succ, ← this]
    congr 1
    omega
theorem cells_one (x : Ra) : ∀ u ∈ x.cells, u.oneCell' = true := by
  intro u hu
  simp only [Ra.cells, List.mem_cons, List.not_mem_nil, or_false] at hu
  rcases hu with rfl | rfl | rfl | rfl | rfl <;> rfl

/-- The cells of the i-th picture of a list. -/
theorem Rd.ras {w : World} {B n : Nat} {A : Option Addr} {l : List Ra} (h : Rd w B 5 A n (rcs l)) {i : Nat} (hi : i < l.length) :
    ∃ b o, A = some ⟨b, o, none⟩ ∧ b < B ∧ n = l.length ∧ (∀ j, j < 5 → w.cell? ⟨b, o + i * 5 + j, none⟩ = l[i].f j) := by
  have hl := h.1
  rw [rcs_len] at hl
  obtain ⟨b, o, e, hb, hc⟩ := h.2 (by omega)
  refine ⟨b, o, e, hb, by omega, fun j hj => ?_⟩
  rw [Nat.add_assoc]
  have h5 := rcs_get l i j hi hj
  rw [l[i].cells_get] at h5
  rcases e5 : l[i].f j with _ | u
  · exfalso
    match j, hj with
    | 0, _ => cases e5
    | 1, _ => cases e5
    | 2, _ => cases e5
    | 3, _ => cases e5
    | 4, _ => cases e5
  · exact hc _ u (by rw [h5, e5])

/-- A list of pictures, each with its bytes. -/
def RdR (w : World) (B : Nat) (A : Option Addr) (n : Nat) (l : List Ra) : Prop := Rd w B 5 A n (rcs l) ∧ ∀ x ∈ l, RdB w B x.A x.n x.bs ∧ x.n ≤ x.c ∧ x.c ≤ maxLen
theorem RdR.len {w : World} {B n : Nat} {A : Option Addr} {l : List Ra} (h : RdR w B A n l) : l.length = n := by have := h.1.1; rw [rcs_len] at this; omega
theorem RdR.blw {w w' : World} {B n : Nat} {A : Option Addr} {l : List Ra} (h : RdR w B A n l) (hb : Below B w w') : RdR w' B A n l :=
  ⟨Rd.below h.1 hb, fun x hx => ⟨(h.2 x hx).1.blw hb, (h.2 x hx).2⟩⟩
theorem RdR.more {w : World} {B B' n : Nat} {A : Option Addr} {l : List Ra} (h : RdR w B A n l) (hB : B ≤ B') : RdR w B' A n l :=
  ⟨Rd.more h.1 hB, fun x hx => ⟨(h.2 x hx).1.more hB, (h.2 x hx).2⟩⟩

theorem add_addr (a : Addr) (i j : Nat) : (a.add i).add j = a.add (i + j) := add_of_add a i j

theorem cells5_of {w : World} {base : Nat} {a : Addr} {cs : List Value} (h : w.cells? base a 5 = some cs) : ∃ c0 c1 c2 c3 c4, cs = [c0, c1, c2, c3, c4] ∧ w.cell? a = some c0 ∧ w.cell? (a.add 1) = some c1 ∧ w.cell? (a.add 2) = some c2 ∧ w.cell? (a.add 3) = some c3 ∧ w.cell? (a.add 4) = some c4 := by
  obtain ⟨_, hlen, hc⟩ := World.cells?_some h
  match cs, hlen with
  | [c0, c1, c2, c3, c4], _ =>
    have h0 := hc 0 (by omega)
    have h1 := hc 1 (by omega)
    have h2 := hc 2 (by omega)
    have h3 := hc 3 (by omega)
    have h4 := hc 4 (by omega)
    exact ⟨_, _, _, _, _, rfl, by simpa [Addr.add] using h0, by simpa using h1, by simpa using h2, by simpa using h3, by simpa using h4⟩

end Go.Proofs.Ytmffmijjdpjaiaa
