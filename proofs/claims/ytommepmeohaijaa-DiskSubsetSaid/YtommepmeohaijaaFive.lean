/- Five disks at once: what one does leaves the others. -/
import Derived.Test.YtommepmeohaijaaSubP
namespace Go.Proofs.Ytommepmeohaijaa
set_option linter.all false
open Go.RowKit Go.Maps

theorem pend_len (s : Dk) (l : List (Int × UInt8)) : (wS s l).pend.length ≤ s.pend.length + l.length := by
  induction l generalizing s with
  | nil => exact Nat.le_refl _
  | cons x r ih =>
    have h1 := ih (writeS s x.1 (fillB x.2))
    have h2 : (writeS s x.1 (fillB x.2)).pend.length ≤ s.pend.length + 1 := by
      unfold writeS
      split
      · simp
      · omega
    show (wS (writeS s x.1 (fillB x.2)) r).pend.length ≤ _
    rw [List.length_cons]
    omega
theorem RowAt.arg {w : World} {B n : Nat} {A : Option Addr} {bs : Bs} {T : Nat → Prop} (h : RdB w B A n bs) (hT : ∀ g, T g → B ≤ g) (hB : B ≤ w.heap.size) : RowAt w T A n bs :=
  ⟨h.len, fun hn => by
    obtain ⟨b, o, e, hlt, -⟩ := h.at_ hn
    exact ⟨b, o, e, fun q => by have := hT b q; omega, by omega⟩, Rd.more h hB⟩
/-- Beside the disk that turns. -/
theorem other_step {w w' : World} {lo d : Nat} {h : Hn} {s : Dk} {T2 T3 : Nat → Prop} (k : DkOk w lo d h s) (F : Fr T2 w w') (T : TT w T2 T3) (R1 : ∀ g, T2 g → h.U g) (R2 : ∀ g, h.T d g → ¬ T2 g) (R3 : ∀ g, w.heap.size ≤ g → h.U g) :
    DkOk w' lo d h s ∧ (∀ g, T3 g → h.U g) ∧ ∀ g, h.T d g → ¬ T3 g := by
  refine ⟨k.keep F R1 R2, fun g hg => (T g hg).elim (R1 g) (R3 g), fun g hg e => (T g e).elim (R2 g hg) (fun q => ?_)⟩
  have := (k.Tlt g hg).2
  omega
structure Five (w : World) (X : Nat) (d1 d2 d3 d4 d5 : Nat) (h1 h2 h3 h4 h5 : Hn) (s1 s2 s3 s4 s5 : Dk) : Prop where
  k1 : DkOk w d1 d1 h1 s1
  k2 : DkOk w d2 d2 h2 s2
  k3 : DkOk w d3 d3 h3 s3
  k4 : DkOk w d4 d4 h4 s4
  k5 : DkOk w d5 d5 h5 s5
  C1 : ∀ g, X ≤ g → h1.U g
  C2 : ∀ g, X ≤ g → h2.U g
  C3 : ∀ g, X ≤ g → h3.U g
  C4 : ∀ g, X ≤ g → h4.U g
  C5 : ∀ g, X ≤ g → h5.U g
  B3 : ∀ g, h3.T d3 g → X ≤ g
  B4 : ∀ g, h4.T d4 g → X ≤ g
  B5 : ∀ g, h5.T d5 g → X ≤ g
  D13 : ∀ g, h1.T d1 g → ¬ h3.T d3 g
  D23 : ∀ g, h2.T d2 g → ¬ h3.T d3 g
  D43 : ∀ g, h4.T d4 g → ¬ h3.T d3 g
  D53 : ∀ g, h5.T d5 g → ¬ h3.T d3 g
  D14 : ∀ g, h1.T d1 g → ¬ h4.T d4 g
  D24 : ∀ g, h2.T d2 g → ¬ h4.T d4 g
  D34 : ∀ g, h3.T d3 g → ¬ h4.T d4 g
  D54 : ∀ g, h5.T d5 g → ¬ h4.T d4 g
  D15 : ∀ g, h1.T d1 g → ¬ h5.T d5 g
  D25 : ∀ g, h2.T d2 g → ¬ h5.T d5 g
  D35 : ∀ g, h3.T d3 g → ¬ h5.T d5 g
  D45 : ∀ g, h4.T d4 g → ¬ h5.T d5 g
  sz : X ≤ w.heap.size
theorem Five.later {w w' : World} {X d1 d2 d3 d4 d5 : Nat} {h1 h2 h3 h4 h5 : Hn} {s1 s2 s3 s4 s5 : Dk} (q : Five w X d1 d2 d3 d4 d5 h1 h2 h3 h4 h5 s1 s2 s3 s4 s5) (hb : Below w.heap.size w w') : Five w' X d1 d2 d3 d4 d5 h1 h2 h3 h4 h5 s1 s2 s3 s4 s5 :=
  { q with
    k1 := q.k1.later hb
    k2 := q.k2.later hb
    k3 := q.k3.later hb
    k4 := q.k4.later hb
    k5 := q.k5.later hb
    sz := Nat.le_trans q.sz hb.size }
theorem Five.op3 {w w' : World} {X d1 d2 d3 d4 d5 : Nat} {h1 h2 h3 h4 h5 : Hn} {s1 s2 s3 s4 s5 : Dk} {h3' : Hn} {s3' : Dk} (q : Five w X d1 d2 d3 d4 d5 h1 h2 h3 h4 h5 s1 s2 s3 s4 s5) (F : Fr (h3.T d3) w w') (T : TT w (h3.T d3) (h3'.T d3)) (k : DkOk w' d3 d3 h3' s3') (U : h3'.U = h3.U) : Five w' X d1 d2 d3 d4 d5 h1 h2 h3' h4 h5 s1 s2 s3' s4 s5 :=
  { q with
    k1 := q.k1.keep F (fun g hg => q.C1 g (q.B3 g hg)) q.D13
    k2 := q.k2.keep F (fun g hg => q.C2 g (q.B3 g hg)) q.D23
    k3 := k
    C3 := fun g hg => by rw [U]; exact q.C3 g hg
    k4 := q.k4.keep F (fun g hg => q.C4 g (q.B3 g hg)) q.D43
    k5 := q.k5.keep F (fun g hg => q.C5 g (q.B3 g hg)) q.D53
    B3 := fun g hg => (T g hg).elim (q.B3 g) (fun e => Nat.le_trans q.sz e)
    D13 := fun g hg e => (T g e).elim (q.D13 g hg) (fun z => by have := (q.k1.Tlt g hg).2; omega)
    D23 := fun g hg e => (T g e).elim (q.D23 g hg) (fun z => by have := (q.k2.Tlt g hg).2; omega)
    D43 := fun g hg e => (T g e).elim (q.D43 g hg) (fun z => by have := (q.k4.Tlt g hg).2; omega)
    D34 := fun g hg e => (T g hg).elim (fun z => q.D34 g z e) (fun z => by have := (q.k4.Tlt g e).2; omega)
    D53 := fun g hg e => (T g e).elim (q.D53 g hg) (fun z => by have := (q.k5.Tlt g hg).2; omega)
    D35 := fun g hg e => (T g hg).elim (fun z => q.D35 g z e) (fun z => by have := (q.k5.Tlt g e).2; omega)
    sz := Nat.le_trans q.sz F.size }
theorem Five.op4 {w w' : World} {X d1 d2 d3 d4 d5 : Nat} {h1 h2 h3 h4 h5 : Hn} {s1 s2 s3 s4 s5 : Dk} {h4' : Hn} {s4' : Dk} (q : Five w X d1 d2 d3 d4 d5 h1 h2 h3 h4 h5 s1 s2 s3 s4 s5) (F : Fr (h4.T d4) w w') (T : TT w (h4.T d4) (h4'.T d4)) (k : DkOk w' d4 d4 h4' s4') (U : h4'.U = h4.U) : Five w' X d1 d2 d3 d4 d5 h1 h2 h3 h4' h5 s1 s2 s3 s4' s5 :=
  { q with
    k1 := q.k1.keep F (fun g hg => q.C1 g (q.B4 g hg)) q.D14
    k2 := q.k2.keep F (fun g hg => q.C2 g (q.B4 g hg)) q.D24
    k3 := q.k3.keep F (fun g hg => q.C3 g (q.B4 g hg)) q.D34
    k4 := k
    C4 := fun g hg => by rw [U]; exact q.C4 g hg
    k5 := q.k5.keep F (fun g hg => q.C5 g (q.B4 g hg)) q.D54
    B4 := fun g hg => (T g hg).elim (q.B4 g) (fun e => Nat.le_trans q.sz e)
    D14 := fun g hg e => (T g e).elim (q.D14 g hg) (fun z => by have := (q.k1.Tlt g hg).2; omega)
    D24 := fun g hg e => (T g e).elim (q.D24 g hg) (fun z => by have := (q.k2.Tlt g hg).2; omega)
    D34 := fun g hg e => (T g e).elim (q.D34 g hg) (fun z => by have := (q.k3.Tlt g hg).2; omega)
    D43 := fun g hg e => (T g hg).elim (fun z => q.D43 g z e) (fun z => by have := (q.k3.Tlt g e).2; omega)
    D54 := fun g hg e => (T g e).elim (q.D54 g hg) (fun z => by have := (q.k5.Tlt g hg).2; omega)
    D45 := fun g hg e => (T g hg).elim (fun z => q.D45 g z e) (fun z => by have := (q.k5.Tlt g e).2; omega)
    sz := Nat.le_trans q.sz F.size }
theorem Five.op5 {w w' : World} {X d1 d2 d3 d4 d5 : Nat} {h1 h2 h3 h4 h5 : Hn} {s1 s2 s3 s4 s5 : Dk} {h5' : Hn} {s5' : Dk} (q : Five w X d1 d2 d3 d4 d5 h1 h2 h3 h4 h5 s1 s2 s3 s4 s5) (F : Fr (h5.T d5) w w') (T : TT w (h5.T d5) (h5'.T d5)) (k : DkOk w' d5 d5 h5' s5') (U : h5'.U = h5.U) : Five w' X d1 d2 d3 d4 d5 h1 h2 h3 h4 h5' s1 s2 s3 s4 s5' :=
  { q with
    k1 := q.k1.keep F (fun g hg => q.C1 g (q.B5 g hg)) q.D15
    k2 := q.k2.keep F (fun g hg => q.C2 g (q.B5 g hg)) q.D25
    k3 := q.k3.keep F (fun g hg => q.C3 g (q.B5 g hg)) q.D35
    k4 := q.k4.keep F (fun g hg => q.C4 g (q.B5 g hg)) q.D45
    k5 := k
    C5 := fun g hg => by rw [U]; exact q.C5 g hg
    B5 := fun g hg => (T g hg).elim (q.B5 g) (fun e => Nat.le_trans q.sz e)
    D15 := fun g hg e => (T g e).elim (q.D15 g hg) (fun z => by have := (q.k1.Tlt g hg).2; omega)
    D25 := fun g hg e => (T g e).elim (q.D25 g hg) (fun z => by have := (q.k2.Tlt g hg).2; omega)
    D35 := fun g hg e => (T g e).elim (q.D35 g hg) (fun z => by have := (q.k3.Tlt g hg).2; omega)
    D53 := fun g hg e => (T g hg).elim (fun z => q.D53 g z e) (fun z => by have := (q.k3.Tlt g e).2; omega)
    D45 := fun g hg e => (T g e).elim (q.D45 g hg) (fun z => by have := (q.k4.Tlt g hg).2; omega)
    D54 := fun g hg e => (T g hg).elim (fun z => q.D54 g z e) (fun z => by have := (q.k4.Tlt g e).2; omega)
    sz := Nat.le_trans q.sz F.size }
end Go.Proofs.Ytommepmeohaijaa
