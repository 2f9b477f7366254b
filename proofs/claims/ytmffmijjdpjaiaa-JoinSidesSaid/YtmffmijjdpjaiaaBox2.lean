/- Boxed structs: what is kept, with the cells written out. -/
import Derived.Test.YtmffmijjdpjaiaaBox
namespace Go.Proofs.Ytmffmijjdpjaiaa
set_option linter.all false
open Go.RowKit

theorem bcell {W w1 : World} (hb : Below W.heap.size W w1) : (∀ b o, b < W.heap.size → w1.cell? ⟨b, o, none⟩ = W.cell? ⟨b, o, none⟩) ∧ (∀ b o, b < W.heap.size → w1.frozen? ⟨b, o, none⟩ = W.frozen? ⟨b, o, none⟩) :=
  ⟨fun b o h => hb.cell (p := ⟨b, o, none⟩) h, fun b o h => hb.frozen (p := ⟨b, o, none⟩) h⟩
theorem kD5 {w : World} {b : Nat} {a0 a1 a2 a3 a4 : Value} (c : ∀ i, w.cell? ⟨b, i, none⟩ = r5 a0 a1 a2 a3 a4 i) : ∀ i, w.drew.cell? ⟨b, i, none⟩ = r5 a0 a1 a2 a3 a4 i := c
theorem kA5 {w : World} {b : Nat} {a0 a1 a2 a3 a4 : Value} (c : ∀ i, w.cell? ⟨b, i, none⟩ = r5 a0 a1 a2 a3 a4 i) (o : Obj) : ∀ i, (w.alloc o).cell? ⟨b, i, none⟩ = r5 a0 a1 a2 a3 a4 i := keptA c rfl o
theorem kX5 {w w' : World} {b : Nat} {a0 a1 a2 a3 a4 : Value} (h : Below w.heap.size w w') (c : ∀ i, w.cell? ⟨b, i, none⟩ = r5 a0 a1 a2 a3 a4 i) : ∀ i, w'.cell? ⟨b, i, none⟩ = r5 a0 a1 a2 a3 a4 i := kept c rfl h
theorem kDX5 {w w' : World} {b : Nat} {a0 a1 a2 a3 a4 : Value} (h : Below w.drew.heap.size w.drew w') (c : ∀ i, w.cell? ⟨b, i, none⟩ = r5 a0 a1 a2 a3 a4 i) : ∀ i, w'.cell? ⟨b, i, none⟩ = r5 a0 a1 a2 a3 a4 i := keptD c rfl h
theorem kD4 {w : World} {b : Nat} {a0 a1 a2 a3 : Value} (c : ∀ i, w.cell? ⟨b, i, none⟩ = s4 a0 a1 a2 a3 i) : ∀ i, w.drew.cell? ⟨b, i, none⟩ = s4 a0 a1 a2 a3 i := c
theorem kA4 {w : World} {b : Nat} {a0 a1 a2 a3 : Value} (c : ∀ i, w.cell? ⟨b, i, none⟩ = s4 a0 a1 a2 a3 i) (o : Obj) : ∀ i, (w.alloc o).cell? ⟨b, i, none⟩ = s4 a0 a1 a2 a3 i := keptA c rfl o
theorem kX4 {w w' : World} {b : Nat} {a0 a1 a2 a3 : Value} (h : Below w.heap.size w w') (c : ∀ i, w.cell? ⟨b, i, none⟩ = s4 a0 a1 a2 a3 i) : ∀ i, w'.cell? ⟨b, i, none⟩ = s4 a0 a1 a2 a3 i := kept c rfl h
theorem kDX4 {w w' : World} {b : Nat} {a0 a1 a2 a3 : Value} (h : Below w.drew.heap.size w.drew w') (c : ∀ i, w.cell? ⟨b, i, none⟩ = s4 a0 a1 a2 a3 i) : ∀ i, w'.cell? ⟨b, i, none⟩ = s4 a0 a1 a2 a3 i := keptD c rfl h

end Go.Proofs.Ytmffmijjdpjaiaa
