/- Boxed structs: one fact a box. -/
import Derived.Test.YtmffmijjdpjaiaaPix7
namespace Go.Proofs.Ytmffmijjdpjaiaa
set_option linter.all false
open Go.RowKit

/-- The cells of a boxed picture, of a boxed shape. -/
def r5 (a b c d e : Value) : Nat → Option Value
  | 0 => some a
  | 1 => some b
  | 2 => some c
  | 3 => some d
  | 4 => some e
  | _ => none
def s4 (a b c d : Value) : Nat → Option Value
  | 0 => some a
  | 1 => some b
  | 2 => some c
  | 3 => some d
  | _ => none
@[go_sem] theorem r5_0 (a b c d e : Value) : r5 a b c d e 0 = some a := rfl
@[go_sem] theorem r5_1 (a b c d e : Value) : r5 a b c d e 1 = some b := rfl
@[go_sem] theorem r5_2 (a b c d e : Value) : r5 a b c d e 2 = some c := rfl
@[go_sem] theorem r5_3 (a b c d e : Value) : r5 a b c d e 3 = some d := rfl
@[go_sem] theorem r5_4 (a b c d e : Value) : r5 a b c d e 4 = some e := rfl
@[go_sem] theorem s4_0 (a b c d : Value) : s4 a b c d 0 = some a := rfl
@[go_sem] theorem s4_1 (a b c d : Value) : s4 a b c d 1 = some b := rfl
@[go_sem] theorem s4_2 (a b c d : Value) : s4 a b c d 2 = some c := rfl
@[go_sem] theorem s4_3 (a b c d : Value) : s4 a b c d 3 = some d := rfl

theorem new5 (w : World) (a b c d e : Value) (t : TypeId) (fr : Nat × Nat) : ∀ i, (w.alloc (.cells #[a, b, c, d, e] t fr)).cell? ⟨w.heap.size, i, none⟩ = r5 a b c d e i := by
  intro i
  rw [cell_of_row (w.alloc (.cells #[a, b, c, d, e] t fr)) w.heap.size i #[a, b, c, d, e] t fr (heap_alloc_new w _)]
  match i with
  | 0 => rfl
  | 1 => rfl
  | 2 => rfl
  | 3 => rfl
  | 4 => rfl
  | j + 5 => simp [r5]
theorem new4 (w : World) (a b c d : Value) (t : TypeId) (fr : Nat × Nat) : ∀ i, (w.alloc (.cells #[a, b, c, d] t fr)).cell? ⟨w.heap.size, i, none⟩ = s4 a b c d i := by
  intro i
  rw [cell_of_row (w.alloc (.cells #[a, b, c, d] t fr)) w.heap.size i #[a, b, c, d] t fr (heap_alloc_new w _)]
  match i with
  | 0 => rfl
  | 1 => rfl
  | 2 => rfl
  | 3 => rfl
  | j + 4 => simp [s4]
theorem box5 {w w1 : World} {a b c d e : Value} {t : TypeId} {fr : Nat × Nat} (h : Below (w.alloc (.cells #[a, b, c, d, e] t fr)).heap.size (w.alloc (.cells #[a, b, c, d, e] t fr)) w1) :
    ∀ i, w1.cell? ⟨w.heap.size, i, none⟩ = r5 a b c d e i := fun i => by
  rw [h.cell (p := ⟨w.heap.size, i, none⟩) (by simp), new5]
theorem box4 {w w1 : World} {a b c d : Value} {t : TypeId} {fr : Nat × Nat} (h : Below (w.alloc (.cells #[a, b, c, d] t fr)).heap.size (w.alloc (.cells #[a, b, c, d] t fr)) w1) :
    ∀ i, w1.cell? ⟨w.heap.size, i, none⟩ = s4 a b c d i := fun i => by
  rw [h.cell (p := ⟨w.heap.size, i, none⟩) (by simp), new4]
theorem boxF {w w1 : World} {cs : Array Value} {t : TypeId} (h : Below (w.alloc (.cells cs t)).heap.size (w.alloc (.cells cs t)) w1) :
    ∀ i, w1.frozen? ⟨w.heap.size, i, none⟩ = false := fun i => free5 (by simp) h i
theorem kept {w w' : World} {b : Nat} {F : Nat → Option Value} {v : Value} (c : ∀ i, w.cell? ⟨b, i, none⟩ = F i) (h0 : F 0 = some v) (h : Below w.heap.size w w') : ∀ i, w'.cell? ⟨b, i, none⟩ = F i :=
  fun i => (h.cell (p := ⟨b, i, none⟩) (show b < w.heap.size from block_lt_of_cell (a := ⟨b, 0, none⟩) ((c 0).trans h0))).trans (c i)
theorem keptF {w w' : World} {b : Nat} (hb : b < w.heap.size) (f : ∀ i, w.frozen? ⟨b, i, none⟩ = false) (h : Below w.heap.size w w') : ∀ i, w'.frozen? ⟨b, i, none⟩ = false :=
  fun i => (h.frozen (p := ⟨b, i, none⟩) hb).trans (f i)
theorem keptA {w : World} {b : Nat} {F : Nat → Option Value} {v : Value} (c : ∀ i, w.cell? ⟨b, i, none⟩ = F i) (h0 : F 0 = some v) (o : Obj) : ∀ i, (w.alloc o).cell? ⟨b, i, none⟩ = F i :=
  kept c h0 ((Below.refl _ _).alloc (Nat.le_refl _) _)
theorem keptS {w : World} {b : Nat} {F : Nat → Option Value} (c : ∀ i, w.cell? ⟨b, i, none⟩ = F i) {p : Addr} (hp : b ≠ p.block) (v : Value) : ∀ i, (w.setCell p v).cell? ⟨b, i, none⟩ = F i :=
  fun i => (World.cell?_setCell_other w p ⟨b, i, none⟩ v (fun e => hp (by rw [e]))).trans (c i)
theorem ltOf {w : World} {b : Nat} {F : Nat → Option Value} {v : Value} (c : ∀ i, w.cell? ⟨b, i, none⟩ = F i) (h0 : F 0 = some v) : b < w.heap.size := block_lt_of_cell (a := ⟨b, 0, none⟩) ((c 0).trans h0)

theorem keptD {w w' : World} {b : Nat} {F : Nat → Option Value} {v : Value} (c : ∀ i, w.cell? ⟨b, i, none⟩ = F i) (h0 : F 0 = some v) (h : Below w.drew.heap.size w.drew w') : ∀ i, w'.cell? ⟨b, i, none⟩ = F i :=
  kept (w := w.drew) c h0 h
theorem keptN {w w' : World} {b k : Nat} {F : Nat → Option Value} {v : Value} (c : ∀ i, w.cell? ⟨b, i, none⟩ = F i) (h0 : F 0 = some v) (h : Below (w.drewN k).heap.size (w.drewN k) w') : ∀ i, w'.cell? ⟨b, i, none⟩ = F i :=
  kept (w := w.drewN k) c h0 h
theorem laterD {w w' : World} {base : Nat} {v : Value} {bs : List UInt8} (h : ownB w base v bs) (hb : Below w.drew.heap.size w.drew w') : ownB w' base v bs := ownB.later (w := w.drew) h hb
theorem laterN {w w' : World} {base k : Nat} {v : Value} {bs : List UInt8} (h : ownB w base v bs) (hb : Below (w.drewN k).heap.size (w.drewN k) w') : ownB w' base v bs := ownB.later (w := w.drewN k) h hb

theorem setAt {w : World} {b k : Nat} {F : Nat → Option Value} {u : Value} (c : ∀ i, w.cell? ⟨b, i, none⟩ = F i) (hk : F k = some u) (v : Value) : ∀ i, (w.setCell ⟨b, k, none⟩ v).cell? ⟨b, i, none⟩ = if i = k then some v else F i := by
  intro i
  by_cases h : i = k
  · subst h
    rw [if_pos rfl]
    exact World.cell?_setCell_same w ⟨b, i, none⟩ v ((c i).trans hk)
  · rw [if_neg h, World.cell?_setCell_other w ⟨b, k, none⟩ ⟨b, i, none⟩ v (by intro e; injection e with _ e; exact h e.symm)]
    exact c i
theorem setR {w : World} {b k : Nat} {F G : Nat → Option Value} {u : Value} (c : ∀ i, w.cell? ⟨b, i, none⟩ = F i) (hk : F k = some u) (v : Value) (hG : ∀ i, (if i = k then some v else F i) = G i) : ∀ i, (w.setCell ⟨b, k, none⟩ v).cell? ⟨b, i, none⟩ = G i :=
  fun i => (setAt c hk v i).trans (hG i)
theorem r5_set0 (a b c d e v : Value) : ∀ i, (if i = 0 then some v else r5 a b c d e i) = r5 v b c d e i
  | 0 => rfl | 1 => rfl | 2 => rfl | 3 => rfl | 4 => rfl | j + 5 => by simp [r5]
theorem r5_set1 (a b c d e v : Value) : ∀ i, (if i = 1 then some v else r5 a b c d e i) = r5 a v c d e i
  | 0 => rfl | 1 => rfl | 2 => rfl | 3 => rfl | 4 => rfl | j + 5 => by simp [r5]
theorem r5_set2 (a b c d e v : Value) : ∀ i, (if i = 2 then some v else r5 a b c d e i) = r5 a b v d e i
  | 0 => rfl | 1 => rfl | 2 => rfl | 3 => rfl | 4 => rfl | j + 5 => by simp [r5]
theorem r5_set3 (a b c d e v : Value) : ∀ i, (if i = 3 then some v else r5 a b c d e i) = r5 a b c v e i
  | 0 => rfl | 1 => rfl | 2 => rfl | 3 => rfl | 4 => rfl | j + 5 => by simp [r5]
theorem r5_set4 (a b c d e v : Value) : ∀ i, (if i = 4 then some v else r5 a b c d e i) = r5 a b c d v i
  | 0 => rfl | 1 => rfl | 2 => rfl | 3 => rfl | 4 => rfl | j + 5 => by simp [r5]
/-- A box written anew. -/
theorem set5 {w : World} {b : Nat} {a0 a1 a2 a3 a4 : Value} (c : ∀ i, w.cell? ⟨b, i, none⟩ = r5 a0 a1 a2 a3 a4 i) (v0 v1 v2 v3 v4 : Value) :
    ∀ i, (((((w.setCell ⟨b, 0, none⟩ v0).setCell ⟨b, 1, none⟩ v1).setCell ⟨b, 2, none⟩ v2).setCell ⟨b, 3, none⟩ v3).setCell ⟨b, 4, none⟩ v4).cell? ⟨b, i, none⟩ = r5 v0 v1 v2 v3 v4 i :=
  setR (setR (setR (setR (setR c rfl v0 (r5_set0 _ _ _ _ _ _)) rfl v1 (r5_set1 _ _ _ _ _ _)) rfl v2 (r5_set2 _ _ _ _ _ _)) rfl v3 (r5_set3 _ _ _ _ _ _)) rfl v4 (r5_set4 _ _ _ _ _ _)
theorem keptS5 {w : World} {b g : Nat} {F : Nat → Option Value} (c : ∀ i, w.cell? ⟨b, i, none⟩ = F i) (hne : b ≠ g) (v0 v1 v2 v3 v4 : Value) :
    ∀ i, (((((w.setCell ⟨g, 0, none⟩ v0).setCell ⟨g, 1, none⟩ v1).setCell ⟨g, 2, none⟩ v2).setCell ⟨g, 3, none⟩ v3).setCell ⟨g, 4, none⟩ v4).cell? ⟨b, i, none⟩ = F i :=
  keptS (keptS (keptS (keptS (keptS c (p := ⟨g, 0, none⟩) hne v0) (p := ⟨g, 1, none⟩) hne v1) (p := ⟨g, 2, none⟩) hne v2) (p := ⟨g, 3, none⟩) hne v3) (p := ⟨g, 4, none⟩) hne v4
theorem Below.set5 {B g : Nat} {a w : World} (h : Below B a w) (hg : B ≤ g) (v0 v1 v2 v3 v4 : Value) :
    Below B a (((((w.setCell ⟨g, 0, none⟩ v0).setCell ⟨g, 1, none⟩ v1).setCell ⟨g, 2, none⟩ v2).setCell ⟨g, 3, none⟩ v3).setCell ⟨g, 4, none⟩ v4) :=
  ((((h.setCell (p := ⟨g, 0, none⟩) hg v0).setCell (p := ⟨g, 1, none⟩) hg v1).setCell (p := ⟨g, 2, none⟩) hg v2).setCell (p := ⟨g, 3, none⟩) hg v3).setCell (p := ⟨g, 4, none⟩) hg v4
theorem ownB.far5 {w : World} {base g : Nat} {v : Value} {bs : List UInt8} (h : ownB w base v bs) (hg : v.ownBlock ≠ some g) (v0 v1 v2 v3 v4 : Value) :
    ownB (((((w.setCell ⟨g, 0, none⟩ v0).setCell ⟨g, 1, none⟩ v1).setCell ⟨g, 2, none⟩ v2).setCell ⟨g, 3, none⟩ v3).setCell ⟨g, 4, none⟩ v4) base v bs :=
  ((((h.far hg 0 v0).far hg 1 v1).far hg 2 v2).far hg 3 v3).far hg 4 v4
theorem RdB.here {w : World} {B n : Nat} {A : Option Addr} {bs : List UInt8} (h : RdB w B A n bs) : RdB w w.heap.size A n bs := Rd.here h
theorem boxFD {w w1 : World} {cs : Array Value} {t : TypeId} (h : Below (w.alloc (.cells cs t)).drew.heap.size (w.alloc (.cells cs t)).drew w1) :
    ∀ i, w1.frozen? ⟨w.heap.size, i, none⟩ = false := fun i => by
  rw [h.frozen (p := ⟨w.heap.size, i, none⟩) (by show w.heap.size < (w.alloc (.cells cs t)).heap.size; simp)]
  show (w.alloc (.cells cs t)).frozen? _ = false
  unfold World.frozen?
  rw [heap_alloc_new]
  simp
theorem box5D {w w1 : World} {a b c d e : Value} {t : TypeId} {fr : Nat × Nat} (h : Below (w.alloc (.cells #[a, b, c, d, e] t fr)).drew.heap.size (w.alloc (.cells #[a, b, c, d, e] t fr)).drew w1) :
    ∀ i, w1.cell? ⟨w.heap.size, i, none⟩ = r5 a b c d e i := fun i => by
  rw [h.cell (p := ⟨w.heap.size, i, none⟩) (by show w.heap.size < (w.alloc (.cells #[a, b, c, d, e] t fr)).heap.size; simp)]
  exact new5 w a b c d e t fr i

theorem keptFA {w : World} {b : Nat} (hb : b < w.heap.size) (f : ∀ i, w.frozen? ⟨b, i, none⟩ = false) (o : Obj) : ∀ i, (w.alloc o).frozen? ⟨b, i, none⟩ = false :=
  keptF hb f ((Below.refl _ _).alloc (Nat.le_refl _) _)
theorem keptFD {w w' : World} {b : Nat} (hb : b < w.heap.size) (f : ∀ i, w.frozen? ⟨b, i, none⟩ = false) (h : Below w.drew.heap.size w.drew w') : ∀ i, w'.frozen? ⟨b, i, none⟩ = false :=
  keptF (w := w.drew) hb f h
theorem keptF5 {w : World} {b g : Nat} (f : ∀ i, w.frozen? ⟨b, i, none⟩ = false) (v0 v1 v2 v3 v4 : Value) :
    ∀ i, (((((w.setCell ⟨g, 0, none⟩ v0).setCell ⟨g, 1, none⟩ v1).setCell ⟨g, 2, none⟩ v2).setCell ⟨g, 3, none⟩ v3).setCell ⟨g, 4, none⟩ v4).frozen? ⟨b, i, none⟩ = false := fun i => by
  simp only [World.frozen?_setCell]
  exact f i
theorem keptFS {w : World} {b : Nat} (f : ∀ i, w.frozen? ⟨b, i, none⟩ = false) (p : Addr) (v : Value) : ∀ i, (w.setCell p v).frozen? ⟨b, i, none⟩ = false := fun i => by
  simp only [World.frozen?_setCell]
  exact f i

theorem RdB.alloc {w : World} {B n : Nat} {A : Option Addr} {bs : List UInt8} (h : RdB w B A n bs) (hB : B ≤ w.heap.size) (o : Obj) : RdB (w.alloc o) B A n bs := Rd.alloc h hB o
theorem RdB.drewN {w : World} {B n : Nat} {A : Option Addr} {bs : List UInt8} (h : RdB w B A n bs) (k : Nat) : RdB (w.drewN k) B A n bs := h
theorem RdB.drew {w : World} {B n : Nat} {A : Option Addr} {bs : List UInt8} (h : RdB w B A n bs) : RdB w.drew B A n bs := h
theorem RdB.more {w : World} {B B' n : Nat} {A : Option Addr} {bs : List UInt8} (h : RdB w B A n bs) (hB : B ≤ B') : RdB w B' A n bs := Rd.more h hB
theorem flipW {P : Program} {f : FuncId} {args : Array Value} {w : World} {v : Value} (h : Calls P f args w fun e w' => e = .returned v ∧ w = w') : Calls P f args w fun e w' => e = .returned v ∧ w' = w :=
  h.mono fun _ _ ⟨a, b⟩ => ⟨a, b.symm⟩

theorem new4' (w : World) (o : Obj) (a b c d : Value) (t : TypeId) (fr : Nat × Nat) : ∀ i, ((w.alloc o).alloc (.cells #[a, b, c, d] t fr)).cell? ⟨w.heap.size + 1, i, none⟩ = s4 a b c d i := fun i => by
  have h := new4 (w.alloc o) a b c d t fr i
  rw [World.size_alloc] at h
  exact h
theorem new5' (w : World) (o : Obj) (a b c d e : Value) (t : TypeId) (fr : Nat × Nat) : ∀ i, ((w.alloc o).alloc (.cells #[a, b, c, d, e] t fr)).cell? ⟨w.heap.size + 1, i, none⟩ = r5 a b c d e i := fun i => by
  have h := new5 (w.alloc o) a b c d e t fr i
  rw [World.size_alloc] at h
  exact h

theorem keptBl {w w' : World} {b B : Nat} {F : Nat → Option Value} (c : ∀ i, w.cell? ⟨b, i, none⟩ = F i) (h : Below B w w') (hb : b < B) : ∀ i, w'.cell? ⟨b, i, none⟩ = F i :=
  fun i => (h.cell (p := ⟨b, i, none⟩) hb).trans (c i)

end Go.Proofs.Ytmffmijjdpjaiaa
