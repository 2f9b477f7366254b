/- Items and packages, plainly: a tree each. -/
import Derived.Test.YtpbegikdohafbaaStab
namespace Go.Proofs.Ytpbegikdohafbaa
set_option linter.all false
open Go.RowKit

inductive Mem where
  | leaf (w : Int) (p : Nat)
  | node (l r : Mem)
instance : Inhabited Mem := ⟨.leaf 0 0⟩
/-- How heavy. -/
def Mem.w : Mem → Int
  | .leaf x _ => x
  | .node l r => l.w + r.w
/-- Which items, in their order. -/
def Mem.items : Mem → List Nat
  | .leaf _ p => [p]
  | .node l r => l.items ++ r.items
/-- A member and where it stands. -/
abbrev MP := Nat × Mem
/-- Block a holds t; every block of it is in S. -/
def isM (w : World) (S : Nat → Prop) : Nat → Mem → Prop
  | a, .leaf x p => S a ∧ w.cell? ⟨a, 0, none⟩ = some (.int .i64 x) ∧ w.cell? ⟨a, 1, none⟩ = some (.int .i64 p) ∧ w.cell? ⟨a, 2, none⟩ = some (.slice none 0 0)
  | a, .node l r => S a ∧ w.cell? ⟨a, 0, none⟩ = some (.int .i64 (l.w + r.w)) ∧ w.cell? ⟨a, 1, none⟩ = some (.int .i64 0) ∧
      ∃ g o c x y, w.cell? ⟨a, 2, none⟩ = some (.slice (some ⟨g, o, none⟩) 2 c) ∧ S g ∧ 2 ≤ c ∧ c ≤ maxLen ∧ w.cell? ⟨g, o, none⟩ = some (.pointer (some ⟨x, 0, none⟩)) ∧ w.cell? ⟨g, o + 1, none⟩ = some (.pointer (some ⟨y, 0, none⟩)) ∧ isM w S x l ∧ isM w S y r
theorem isM.keep {w w' : World} {S S' : Nat → Prop} (hk : ∀ p : Addr, S p.block → w'.cell? p = w.cell? p) (hS : ∀ b, S b → S' b) : ∀ {t : Mem} {a : Nat}, isM w S a t → isM w' S' a t := by
  intro t
  induction t with
  | leaf x p =>
    intro a h
    obtain ⟨h0, h1, h2, h3⟩ := h
    exact ⟨hS _ h0, (hk ⟨a, 0, none⟩ h0).trans h1, (hk ⟨a, 1, none⟩ h0).trans h2, (hk ⟨a, 2, none⟩ h0).trans h3⟩
  | node l r ihl ihr =>
    intro a h
    obtain ⟨h0, h1, h2, g, o, c, x, y, h3, h4, h5, h6, h7, h8, h9, h10⟩ := h
    exact ⟨hS _ h0, (hk ⟨a, 0, none⟩ h0).trans h1, (hk ⟨a, 1, none⟩ h0).trans h2, g, o, c, x, y, (hk ⟨a, 2, none⟩ h0).trans h3, hS _ h4, h5, h6, (hk ⟨g, o, none⟩ h4).trans h7, (hk ⟨g, o + 1, none⟩ h4).trans h8, ihl h9, ihr h10⟩
theorem isM.root {w : World} {S : Nat → Prop} {t : Mem} {a : Nat} (h : isM w S a t) : S a := by
  cases t with
  | leaf x p => exact h.1
  | node l r => exact h.1
theorem isM.weight {w : World} {S : Nat → Prop} {t : Mem} {a : Nat} (h : isM w S a t) : w.cell? ⟨a, 0, none⟩ = some (.int .i64 t.w) := by
  cases t with
  | leaf x p => exact h.2.1
  | node l r => exact h.2.1
/-- The blocks from lo on, but for v's own. -/
def Out (lo : Nat) (w : World) (v : Value) : Nat → Prop := fun b => lo ≤ b ∧ b < w.heap.size ∧ v.ownBlock ≠ some b
/-- The blocks from lo on, below hi. -/
def Rng (lo hi : Nat) : Nat → Prop := fun b => lo ≤ b ∧ b < hi
theorem isM.alloc {lo : Nat} {w : World} {v : Value} {a : Nat} {t : Mem} (h : isM w (Out lo w v) a t) (o : Obj) : isM (w.alloc o) (Out lo (w.alloc o) v) a t :=
  h.keep (fun p hp => World.cell?_alloc_lt w o p hp.2.1) (fun b hb => ⟨hb.1, by have := hb.2.1; simp; omega, hb.2.2⟩)
theorem isM.drewN {w : World} {S : Nat → Prop} {a : Nat} {t : Mem} (h : isM w S a t) (k : Nat) : isM (w.drewN k) S a t := isM.keep (w := w) (w' := w.drewN k) (S := S) (S' := S) (fun _ _ => rfl) (fun _ hb => hb) h
theorem isM.drewO {lo : Nat} {w : World} {v : Value} {a : Nat} {t : Mem} (h : isM w (Out lo w v) a t) (k : Nat) : isM (w.drewN k) (Out lo (w.drewN k) v) a t := isM.keep (w := w) (w' := w.drewN k) (S := Out lo w v) (S' := Out lo (w.drewN k) v) (fun _ _ => rfl) (fun _ hb => hb) h
theorem isM.app {lo : Nat} {w w' : World} {v v' : Value} {a : Nat} {t : Mem} (h : isM w (Out lo w v) a t) (hg : w.grownBy w' v.ownBlock) (hv : v'.ownBlock = v.ownBlock ∨ v'.ownBlock = some w.heap.size) : isM w' (Out lo w' v') a t :=
  h.keep (fun p hp => World.cell?_of_block (hg.block p.block hp.2.1 (fun e => hp.2.2 e.symm))) (fun b hb => ⟨hb.1, by have := hb.2.1; have := hg.size; omega, by
    rcases hv with e | e
    · rw [e]; exact hb.2.2
    · rw [e]; intro e'; injection e' with e'; have := hb.2.1; omega⟩)
theorem isM.rng {lo : Nat} {w : World} {v : Value} {a : Nat} {t : Mem} (h : isM w (Out lo w v) a t) : isM w (Rng lo w.heap.size) a t := h.keep (fun _ _ => rfl) (fun b hb => ⟨hb.1, hb.2.1⟩)
theorem isM.blw {w w' : World} {lo hi B : Nat} {t : Mem} {a : Nat} (h : isM w (Rng lo hi) a t) (hb : Below B w w') (hB : hi ≤ B) : isM w' (Rng lo hi) a t := h.keep (fun p hp => hb.cell (by have := hp.2; omega)) (fun _ h => h)
theorem isM.more {w : World} {lo lo' hi hi' : Nat} {t : Mem} {a : Nat} (h : isM w (Rng lo hi) a t) (h1 : lo' ≤ lo) (h2 : hi ≤ hi') : isM w (Rng lo' hi') a t := h.keep (fun _ _ => rfl) (fun b hb => ⟨by have := hb.1; omega, by have := hb.2; omega⟩)
/-- The items of weights, with their places. -/
def leaves (ws : List Int) : List Mem := ws.zipIdx.filterMap fun x => if 0 < x.1 then some (.leaf x.1 x.2) else none
theorem leaves_snoc (ws : List Int) (x : Int) : leaves (ws ++ [x]) = leaves ws ++ if 0 < x then [.leaf x ws.length] else [] := by
  unfold leaves
  rw [List.zipIdx_append, List.filterMap_append]
  by_cases h : 0 < x
  · simp [h]
  · simp [h]
/-- What is packed two by two. -/
def packs : List Mem → List Mem
  | a :: b :: r => .node a b :: packs r
  | _ => []
/-- Two lists as one, the first one's ahead of the second's as heavy. -/
def mrgBy {α : Type} (wt : α → Int) : List α → List α → List α
  | [], b => b
  | a :: r, [] => a :: r
  | a :: r, b :: s => if wt b < wt a then b :: mrgBy wt (a :: r) s else a :: mrgBy wt r (b :: s)
termination_by a b => a.length + b.length
/-- So many rounds. -/
def pmL (first : List Mem) : Nat → List Mem
  | 0 => first
  | k + 1 => mrgBy Mem.w first (packs (pmL first k))
def bump (xs : List Int) (p : Nat) : List Int := xs.set p (xs.getD p 0 + 1)
def bumps (xs : List Int) (ps : List Nat) : List Int := ps.foldl bump xs
/-- The lengths that weights have. -/
def lensOf (ws : List Int) (m : Nat) : List Int :=
  if (leaves ws).length = 1 then bumps (List.replicate ws.length 0) ((leaves ws).flatMap Mem.items)
  else bumps (List.replicate ws.length 0) (((pmL (stab Mem.w (leaves ws)) (m - 1)).take (2 * (leaves ws).length - 2)).flatMap Mem.items)
def posn (ws : List Int) : Nat := (ws.filter fun x => decide (0 < x)).length
def badW (ws : List Int) : Bool := ws.any fun x => decide (x < 0) || decide (1073741824 < x)
/-- May weights not be? -/
def wrongH (ws : List Int) (most : Int) : Bool := decide (ws.length < 1) || decide (300 < ws.length) || decide (most < 1) || decide (15 < most) || badW ws || decide (2 ^ most.toNat < posn ws)
theorem leaves_length (ws : List Int) : (leaves ws).length = posn ws := by
  induction ws using snoc_ind with
  | h0 => rfl
  | h1 l x ih =>
    rw [leaves_snoc, List.length_append, ih]
    unfold posn
    rw [List.filter_append, List.length_append]
    by_cases h : 0 < x <;> simp [h]
end Go.Proofs.Ytpbegikdohafbaa
