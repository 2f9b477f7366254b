/- Boxed structs: one fact a box. -/
import Derived.Test.YtcgpeijmmongoaaPix7
namespace Go.Proofs.Ytcgpeijmmongoaa
set_option linter.all false
open Go.RowKit

/-- The cells of a boxed picture, of a boxed shape. -/
def r5 (a b c d e : Value) : Nat → Option Value
  | 0 => some a
  | 1 => some b
  | 2 => some c
  | 3 => some d
  | 4 => some e
  | _ => none
def s4 (a b c d : Value) : Nat → Option Value
  | 0 => some a
  | 1 => some b
  | 2 => some c
  | 3 => some d
  | _ => none
@[go_sem] theorem r5_0 (a b c d e : Value) : r5 a b c d e 0 = some a := rfl
@[go_sem] theorem r5_1 (a b c d e : Value) : r5 a b c d e 1 = some b := rfl
@[go_sem] theorem r5_2 (a b c d e : Value) : r5 a b c d e 2 = some c := rfl
@[go_sem] theorem r5_3 (a b c d e : Value) : r5 a b c d e 3 = some d := rfl
@[go_sem] theorem r5_4 (a b c d e : Value) : r5 a b c d e 4 = some e := rfl
@[go_sem] theorem s4_0 (a b c d : Value) : s4 a b c d 0 = some a := rfl
@[go_sem] theorem s4_1 (a b c d : Value) : s4 a b c d 1 = some b := rfl
@[go_sem] theorem s4_2 (a b c d : Value) : s4 a b c d 2 = some c := rfl
@[go_sem] theorem s4_3 (a b c d : Value) : s4 a b c d 3 = some d := rfl

theorem new5 (w : World) (a b c d e : Value) (t : TypeId) (fr : Nat × Nat) : ∀ i, (w.alloc (.cells #[a, b, c, d, e] t fr)).cell? ⟨w.heap.size, i, none⟩ = r5 a b c d e i := by
  intro i
  rw [cell_of_row (w.alloc (.cells #[a, b, c, d, e] t fr)) w.heap.size i #[a, b, c, d, e] t fr (heap_alloc_new w _)]
  match i with
  | 0 => rfl
  | 1 => rfl
  | 2 => rfl
  | 3 => rfl
  | 4 => rfl
  | j + 5 => simp [r5]
theorem new4 (w : World) (a b c d : Value) (t : TypeId) (fr : Nat × Nat) : ∀ i, (w.alloc (.cells #[a, b, c, d] t fr)).cell? ⟨w.heap.size, i, none⟩ = s4 a b c d i := by
  intro i
  rw [cell_of_row (w.alloc (.cells #[a, b, c, d] t fr)) w.heap.size i #[a, b, c, d] t fr (heap_alloc_new w _)]
  match i with
  | 0 => rfl
  | 1 => rfl
  | 2 => rfl
  | 3 => rfl
  | j + 4 => simp [s4]
theorem box5 {w w1 : World} {a b c d e : Value} {t : TypeId} {fr : Nat × Nat} (h : Below (w.alloc (.cells #[a, b, c, d, e] t fr)).heap.size (w.alloc (.cells #[a, b, c, d, e] t fr)) w1) :
    ∀ i, w1.cell? ⟨w.heap.size, i, none⟩ = r5 a b c d e i := fun i => by
  rw [h.cell (p := ⟨w.heap.size, i, none⟩) (by simp), new5]
theorem box4 {w w1 : World} {a b c d : Value} {t : TypeId} {fr : Nat × Nat} (h : Below (w.alloc (.cells #[a, b, c, d] t fr)).heap.size (w.alloc (.cells #[a, b, c, d] t fr)) w1) :
    ∀ i, w1.cell? ⟨w.heap.size, i, none⟩ = s4 a b c d i := fun i => by
  rw [h.cell (p := ⟨w.heap.size, i, none⟩) (by simp), new4]
theorem boxF {w w1 : World} {cs : Array Value} {t : TypeId} (h : Below (w.alloc (.cells cs t)).heap.size (w.alloc (.cells cs t)) w1) :
    ∀ i, w1.frozen? ⟨w.heap.size, i, none⟩ = false := fun i => free5 (by simp) h i
theorem kept {w w' : World} {b : Nat} {F : Nat → Option Value} {v : Value} (c : ∀ i, w.cell? ⟨b, i, none⟩ = F i) (h0 : F 0 = some v) (h : Below w.heap.size w w') : ∀ i, w'.cell? ⟨b, i, none⟩ = F i :=
  fun i => (h.cell (p := ⟨b, i, none⟩) (show b < w.heap.size from block_lt_of_cell (a := ⟨b, 0, none⟩) ((c 0).trans h0))).trans (c i)
theorem keptF {w w' : World} {b : Nat} (hb : b < w.heap.size) (f : ∀ i, w.frozen? ⟨b, i, none⟩ = false) (h : Below w.heap.size w w') : ∀ i, w'.frozen? ⟨b, i, none⟩ = false :=
  fun i => (h.frozen (p := ⟨b, i, none⟩) hb).trans (f i)
theorem keptA {w : World} {b : Nat} {F : Nat → Option Value} {v : Value} (c : ∀ i, w.cell? ⟨b, i, none⟩ = F i) (h0 : F 0 = some v) (o : Obj) : ∀ i, (w.alloc o).cell? ⟨b, i, none⟩ = F i :=
  kept c h0 ((Below.refl _ _).alloc (Nat.le_refl _) _)
theorem keptS {w : World} {b : Nat} {F : Nat → Option Value} (c : ∀ i, w.cell? ⟨b, i, none⟩ = F i) {p : Addr} (hp : b ≠ p.block) (v : Value) : ∀ i, (w.setCell p v).cell? ⟨b, i, none⟩ = F i :=
  fun i => (World.cell?_setCell_other w p ⟨b, i, none⟩ v (fun e => hp (by rw [e]))).trans (c i)
theorem ltOf {w : World} {b : Nat} {F : Nat → Option Value} {v : Value} (c : ∀ i, w.cell? ⟨b, i, none⟩ = F i) (h0 : F 0 = some v) : b < w.heap.size := block_lt_of_cell (a := ⟨b, 0, none⟩) ((c 0).trans h0)

theorem keptD {w w' : World} {b : Nat} {F : Nat → Option Value} {v : Value} (c : ∀ i, w.cell? ⟨b, i, none⟩ = F i) (h0 : F 0 = some v) (h : Below w.drew.heap.size w.drew w') : ∀ i, w'.cell? ⟨b, i, none⟩ = F i :=
  kept (w := w.drew) c h0 h
theorem keptN {w w' : World} {b k : Nat} {F : Nat → Option Value} {v : Value} (c : ∀ i, w.cell? ⟨b, i, none⟩ = F i) (h0 : F 0 = some v) (h : Below (w.drewN k).heap.size (w.drewN k) w') : ∀ i, w'.cell? ⟨b, i, none⟩ = F i :=
  kept (w := w.drewN k) c h0 h
theorem laterD {w w' : World} {base : Nat} {v : Value} {bs : List UInt8} (h : ownB w base v bs) (hb : Below w.drew.heap.size w.drew w') : ownB w' base v bs := ownB.later (w := w.drew) h hb
theorem laterN {w w' : World} {base k : Nat} {v : Value} {bs : List UInt8} (h : ownB w base v bs) (hb : Below (w.drewN k).heap.size (w.drewN k) w') : ownB w' base v bs := ownB.later (w := w.drewN k) h hb

end Go.Proofs.Ytcgpeijmmongoaa
