/- Rows of the operations of chapter 14: of each its place and its byte. -/
import Derived.Test.YtommepmeohaijaaFrame
import Derived.Deep.Slices
namespace Go.Proofs.Ytommepmeohaijaa
set_option linter.all false
open Go.ChangeShapes Go.WideShapes Go.ChangeAt Go.RowKit
open Go.ChangeMaps (open_string shut_string)

/-- A slice of operations: place and byte of each. -/
def RdO (w : World) (B : Nat) (A : Option Addr) (n : Nat) (l : List (Int × UInt8)) : Prop :=
  l.length = n ∧ (0 < n → ∃ b o, A = some ⟨b, o, none⟩ ∧ b < B ∧ ∀ i x, l[i]? = some x → w.cell? ⟨b, o + i * 6 + 1, none⟩ = some (.int .i64 x.1) ∧ w.cell? ⟨b, o + i * 6 + 4, none⟩ = some (.int .u8 (x.2.toNat : Int)))
theorem RdO.blw {w w' : World} {B n : Nat} {A : Option Addr} {l : List (Int × UInt8)} (h : RdO w B A n l) (hb : Below B w w') : RdO w' B A n l :=
  ⟨h.1, fun hn => by
    obtain ⟨b, o, e, hlt, hc⟩ := h.2 hn
    refine ⟨b, o, e, hlt, fun i x hx => ?_⟩
    obtain ⟨h1, h2⟩ := hc i x hx
    exact ⟨(hb.cell (p := ⟨b, _, none⟩) hlt).trans h1, (hb.cell (p := ⟨b, _, none⟩) hlt).trans h2⟩⟩
theorem RdO.one {w : World} {B n : Nat} {A : Option Addr} {l : List (Int × UInt8)} (h : RdO w B A n l) {i : Nat} (hi : i < n) :
    ∃ b o x, A = some ⟨b, o, none⟩ ∧ b < B ∧ Hid (l[i]? = some x) ∧ w.cell? ⟨b, o + i * 6 + 1, none⟩ = some (.int .i64 x.1) ∧ w.cell? ⟨b, o + i * 6 + 4, none⟩ = some (.int .u8 (x.2.toNat : Int)) := by
  obtain ⟨b, o, e, hlt, hc⟩ := h.2 (by omega)
  have hil : i < l.length := by rw [h.1]; exact hi
  obtain ⟨h1, h2⟩ := hc i _ (List.getElem?_eq_getElem hil)
  exact ⟨b, o, l[i], e, hlt, List.getElem?_eq_getElem hil, h1, h2⟩
theorem six_op : Try.prog.cellsOf 31 = 6 := by kernel_rfl
theorem cells6_of {w : World} {base : Nat} {a : Addr} {cs : List Value} (h : w.cells? base a 6 = some cs) : ∃ c0 c1 c2 c3 c4 c5, cs = [c0, c1, c2, c3, c4, c5] ∧ w.cell? a = some c0 ∧ w.cell? (a.add 1) = some c1 ∧ w.cell? (a.add 4) = some c4 := by
  obtain ⟨_, hlen, hc⟩ := World.cells?_some h
  match cs, hlen with
  | [c0, c1, c2, c3, c4, c5], _ =>
    have h0 := hc 0 (by omega)
    have h1 := hc 1 (by omega)
    have h4 := hc 4 (by omega)
    exact ⟨_, _, _, _, _, _, rfl, by simpa [Addr.add] using h0, by simpa using h1, by simpa using h4⟩
theorem op_int {H : Type} {enc : TypeId × Value → H} {W : World} {sp : Nat → Bool} {held : Bool} {fuel i : Nat} {v : Value} {xs : List (DataW H × List MemPlace)} (hi : i < xs.length)
    (h : DataW.trod enc Try.prog W 0 sp held fuel 3 [v] = xs[i]?) : ∃ n, v = .int .i64 n := by
  rw [List.getElem?_eq_getElem hi] at h
  obtain ⟨n, e, _, _⟩ := DataW.trod_int Try.underlying3 h
  injection e with e
  exact ⟨n, e⟩
theorem op_byte {H : Type} {enc : TypeId × Value → H} {W : World} {sp : Nat → Bool} {held : Bool} {fuel i : Nat} {v : Value} {xs : List (DataW H × List MemPlace)} (hi : i < xs.length)
    (h : DataW.trod enc Try.prog W 0 sp held fuel 5 [v] = xs[i]?) : ∃ c : UInt8, v = .int .u8 (c.toNat : Int) := by
  rw [List.getElem?_eq_getElem hi] at h
  obtain ⟨n, e, _, hw⟩ := DataW.trod_int Try.underlying5 h
  injection e with e
  exact ⟨UInt8.ofNat n.toNat, by rw [e, u8_back n hw]⟩
theorem op_cells {H : Type} {enc : TypeId × Value → H} {W : World} {sp : Nat → Bool} {held : Bool} {fuel : Nat} {c0 c1 c2 c3 c4 c5 : Value} {x : DataW H × List MemPlace}
    (h : DataW.trod enc Try.prog W 0 sp held fuel 31 [c0, c1, c2, c3, c4, c5] = some x) : ∃ (k : Int) (c : UInt8), c1 = .int .i64 k ∧ c4 = .int .u8 (c.toNat : Int) := by
  obtain ⟨xs, n, rfl, hx, hcl, hlen, hg⟩ := DataW.trod_struct Try.underlying31 h
  have h1 := hg 1 _ rfl
  have h4 := hg 4 _ rfl
  have hl : xs.length = 6 := hlen
  have e1 : Try.prog.cellsOf 3 = 1 := by kernel_rfl
  have e4 : Try.prog.cellsOf 5 = 1 := by kernel_rfl
  simp only [List.getElem_toArray, List.getElem_cons_zero, List.getElem_cons_succ, e1, e4, List.drop_succ_cons, List.drop_zero, List.take_succ_cons, List.take_zero] at h1 h4
  obtain ⟨k, r1⟩ := op_int (by omega) h1
  obtain ⟨c, r4⟩ := op_byte (by omega) h4
  exact ⟨k, c, r1, r4⟩
theorem open_ops {H : Type} {enc : TypeId × Value → H} {W : World} {sp : Nat → Bool} {held : Bool} {a : Option Addr} {n c : Nat} {d : DataW H} {p : List MemPlace}
    (h : DataW.Trod enc Try.prog W 0 sp held 22 (.slice a n c) d p) : ∃ l, RdO W W.heap.size a n l ∧ n ≤ c ∧ c ≤ maxLen := by
  obtain ⟨fuel, hf⟩ := h
  rcases Go.Deep.open_slice Try.underlying22 hf with ⟨hcs, _⟩ | ⟨x, l, cc, m, k, D, Pl, hcs, _, hl, hm, hmm, _, hx⟩
  · simp [Value.cells] at hcs
    obtain ⟨rfl, rfl, rfl⟩ := hcs
    exact ⟨[], ⟨rfl, fun h => absurd h (by omega)⟩, by omega, by simp⟩
  · simp [Value.cells] at hcs
    obtain ⟨rfl, rfl, rfl⟩ := hcs
    have hnm : n ≤ m := by rw [hmm]; split <;> omega
    rw [six_op] at hx
    have each : ∀ i, i < n → ∃ y : Int × UInt8, (∃ v, W.cell? (x.add (i * 6)) = some v) ∧ W.cell? ((x.add (i * 6)).add 1) = some (.int .i64 y.1) ∧ W.cell? ((x.add (i * 6)).add 4) = some (.int .u8 (y.2.toNat : Int)) := by
      intro i hi
      obtain ⟨cs', h1, h2⟩ := hx i (by omega)
      obtain ⟨c0, c1, c2, c3, c4, c5, rfl, k0, k1, k4⟩ := cells6_of h1
      obtain ⟨q, u, rfl, rfl⟩ := op_cells h2
      exact ⟨(q, u), ⟨_, k0⟩, k1, k4⟩
    obtain ⟨Y, hY⟩ := Go.Deep.choose_lt (α := Int × UInt8) (p := fun i y => (∃ v, W.cell? (x.add (i * 6)) = some v) ∧ W.cell? ((x.add (i * 6)).add 1) = some (.int .i64 y.1) ∧ W.cell? ((x.add (i * 6)).add 4) = some (.int .u8 (y.2.toNat : Int))) each
    refine ⟨(List.range n).map Y, ⟨by simp, fun hn => ?_⟩, hl, hm⟩
    obtain ⟨b, o, spot⟩ := x
    obtain ⟨v0, hc0⟩ := (hY 0 hn).1
    have hspot : spot = none := by simpa [Addr.add] using World.cell?_spot hc0
    subst hspot
    refine ⟨b, o, rfl, ?_, fun i y hy => ?_⟩
    · have := block_lt_of_cell hc0
      simpa [add_none] using this
    · have hi := (List.getElem?_eq_some_iff.1 hy).1
      have hi2 : i < n := by simpa using hi
      obtain ⟨_, g1, g4⟩ := hY i hi2
      have : y = Y i := by
        rw [List.getElem?_map, List.getElem?_range hi2] at hy
        injection hy with hy
        exact hy.symm
      subst this
      rw [add_none, add_none] at g1 g4
      exact ⟨g1, g4⟩
end Go.Proofs.Ytommepmeohaijaa
