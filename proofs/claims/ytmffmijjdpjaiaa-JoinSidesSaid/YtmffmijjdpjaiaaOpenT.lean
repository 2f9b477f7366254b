/- Arguments opened: lists of texts, masks, trees. -/
import Derived.Test.YtmffmijjdpjaiaaOpenR
import Derived.Test.YtmffmijjdpjaiaaRowT
import Derived.Test.YtmffmijjdpjaiaaRowL
import Derived.SliceStrings
import Derived.Deep.Slices
namespace Go.Proofs.Ytmffmijjdpjaiaa
set_option linter.all false
open Go.ChangeShapes Go.WideShapes Go.ChangeAt Go.RowKit

theorem one_string : Try.prog.cellsOf 9 = 1 := by kernel_rfl
theorem one_bool : Try.prog.cellsOf 4 = 1 := by kernel_rfl
theorem one_texts : Try.prog.cellsOf 24 = 1 := by kernel_rfl
theorem five_tree : Try.prog.cellsOf 26 = 5 := by kernel_rfl

theorem row_read {W : World} {x : Addr} {n : Nat} {V : Nat → Value} (h : ∀ i, i < n → W.cell? (x.add i) = some (V i)) :
    Rd W W.heap.size 1 (some x) n ((List.range n).map V) := by
  refine ⟨by simp, fun hn => ?_⟩
  have h0 := h 0 hn
  obtain ⟨b, o, spot⟩ := x
  have hspot : spot = none := by simpa [Addr.add] using World.cell?_spot h0
  subst hspot
  refine ⟨b, o, rfl, ?_, fun j u hu => ?_⟩
  · have := block_lt_of_cell h0
    simpa [add_none] using this
  · have hj := (List.getElem?_eq_some_iff.1 hu).1
    simp at hj
    have hc := h j hj
    rw [add_none] at hc
    rw [hc]
    simpa [hj] using hu

theorem open_texts {H : Type} {enc : TypeId × Value → H} {W : World} {sp : Nat → Bool} {held : Bool} {a : Option Addr} {n c : Nat} {d : DataW H} {p : List MemPlace}
    (h : DataW.Trod enc Try.prog W 0 sp held 24 (.slice a n c) d p) : ∃ l, RdT W W.heap.size a n l ∧ n ≤ c ∧ c ≤ maxLen := by
  obtain ⟨fuel, hf⟩ := h
  rcases open_strings Try.underlying24 Try.underlying9 (by kernel_rfl) hf with ⟨hcs, _⟩ | ⟨x, l, cc, zs, hcs, _, hl, hm, hz, _, hcell, hwz⟩
  · simp [Value.cells] at hcs
    obtain ⟨rfl, rfl, rfl⟩ := hcs
    exact ⟨[], RdT.nil_, by omega, by simp⟩
  · simp [Value.cells] at hcs
    obtain ⟨rfl, rfl, rfl⟩ := hcs
    have hzn : n ≤ zs.length := by rw [hz]; split <;> omega
    have hr := row_read (W := W) (x := x) (n := n) (V := fun i => .string (zs.getD i ByteArray.empty)) (fun i hi => hcell i (by omega))
    refine ⟨(List.range n).map fun i => zs.getD i ByteArray.empty, ?_, hl, hm⟩
    unfold RdT
    have e : cT ((List.range n).map fun i => zs.getD i ByteArray.empty) = (List.range n).map fun i => Value.string (zs.getD i ByteArray.empty) := by simp [cT]
    rw [e]
    exact hr

theorem open_masks {H : Type} {enc : TypeId × Value → H} {W : World} {sp : Nat → Bool} {held : Bool} {a : Option Addr} {n c : Nat} {d : DataW H} {p : List MemPlace}
    (h : DataW.Trod enc Try.prog W 0 sp held 29 (.slice a n c) d p) : ∃ l, RdL W W.heap.size a n l ∧ n ≤ c ∧ c ≤ maxLen := by
  obtain ⟨fuel, hf⟩ := h
  rcases Go.Deep.open_slice1 Try.underlying29 one_bool hf with ⟨hcs, _⟩ | ⟨x, l, cc, m, k, V, D, Pl, hcs, _, hl, hm, hmm, _, hx⟩
  · simp [Value.cells] at hcs
    obtain ⟨rfl, rfl, rfl⟩ := hcs
    exact ⟨[], RdL.nil_, by omega, by simp⟩
  · simp [Value.cells] at hcs
    obtain ⟨rfl, rfl, rfl⟩ := hcs
    have hzn : n ≤ m := by rw [hmm]; split <;> omega
    have hb : ∀ i, i < n → ∃ b : Bool, V i = .bool b := fun i hi => by
      obtain ⟨b, e, _⟩ := DataW.trod_bool Try.underlying4 (hx i (by omega)).2
      injection e with e
      exact ⟨b, e⟩
    obtain ⟨Y, hY⟩ := Go.Deep.choose_lt (α := Bool) (p := fun i y => V i = .bool y) hb
    have hr := row_read (W := W) (x := x) (n := n) (V := fun i => .bool (Y i)) (fun i hi => by rw [← hY i hi]; exact (hx i (by omega)).1)
    refine ⟨(List.range n).map Y, ?_, hl, hm⟩
    unfold RdL
    have e : cL ((List.range n).map Y) = (List.range n).map fun i => Value.bool (Y i) := by simp [cL]
    rw [e]
    exact hr

theorem open_tree {H : Type} {enc : TypeId × Value → H} {W : World} {r : Reach} {b0 : Nat} {sp : Nat → Bool} {held : Bool} {v : Value} {d : DataW H} {p : List MemPlace}
    (hv : Value.okWide Try.prog W r b0 26 v) (h : DataW.Trod enc Try.prog W 0 sp held 26 v d p) :
    ∃ (s : Sh) (A : Option Addr) (n c : Nat) (l : List ByteArray), v = s.r A n c ∧ RdT W W.heap.size A n l ∧ n ≤ c ∧ c ≤ maxLen := by
  obtain ⟨cs, rfl, hsz⟩ := okWide_struct Try.underlying26 hv
  rw [five_tree] at hsz
  obtain ⟨l⟩ := cs
  match l, hsz with
  | [c0, c1, c2, c3, c4], _ =>
    obtain ⟨fuel, hf⟩ := h
    obtain ⟨xs, n, rfl, hx, hcl, hlen, hg⟩ := DataW.trod_struct Try.underlying26 hf
    have h0 := hg 0 _ rfl
    have h1 := hg 1 _ rfl
    have hl : xs.length = 2 := hlen
    simp only [List.getElem_toArray, List.getElem_cons_zero, List.getElem_cons_succ, Value.cells, four_shape, one_texts, List.drop_succ_cons, List.drop_zero, List.take_succ_cons, List.take_zero] at h0 h1
    rw [List.getElem?_eq_getElem (by omega)] at h0 h1
    obtain ⟨s, e⟩ := shape_cells h0
    have hs : ∃ A n c, c4 = .slice A n c := by
      rcases open_strings Try.underlying24 Try.underlying9 (by kernel_rfl) h1 with ⟨hcs, _⟩ | ⟨x, l, cc, zs, hcs, _⟩
      · injection hcs with hcs; exact ⟨_, _, _, hcs⟩
      · injection hcs with hcs; exact ⟨_, _, _, hcs⟩
    obtain ⟨A, m, c, rfl⟩ := hs
    obtain ⟨ts, hr, hc, hm⟩ := open_texts ⟨_, h1⟩
    injection e with e0 e
    injection e with e1 e
    injection e with e2 e
    injection e with e3 e
    exact ⟨s, A, m, c, ts, by rw [e0, e1, e2, e3]; rfl, hr, hc, hm⟩

end Go.Proofs.Ytmffmijjdpjaiaa
