/- Arguments opened: shapes and pictures. -/
import Derived.Test.YtcancpnepfnhmaaMa27
import Derived.Test.YtcancpnepfnhmaaMaPix2
namespace Go.Proofs.Ytcancpnepfnhmaa
set_option linter.all false
open Go.ChangeShapes Go.WideShapes Go.ChangeAt Go.RowKit

theorem one_int : Try.prog.cellsOf 3 = 1 := by kernel_rfl
theorem one_bytes : Try.prog.cellsOf 22 = 1 := by kernel_rfl
theorem four_shape : Try.prog.cellsOf 57 = 4 := by kernel_rfl
theorem five_raster : Try.prog.cellsOf 104 = 5 := by kernel_rfl

theorem int_at {H : Type} {enc : TypeId × Value → H} {W : World} {sp : Nat → Bool} {held : Bool} {fuel i : Nat} {v : Value} {xs : List (DataW H × List MemPlace)} (hi : i < xs.length)
    (h : DataW.trod enc Try.prog W 0 sp held fuel 3 [v] = xs[i]?) : ∃ n, v = .int .i64 n := by
  rw [List.getElem?_eq_getElem hi] at h
  obtain ⟨n, e, _, _⟩ := DataW.trod_int Try.underlying3 h
  injection e with e
  exact ⟨n, e⟩

theorem shape_cells {H : Type} {enc : TypeId × Value → H} {W : World} {sp : Nat → Bool} {held : Bool} {fuel : Nat} {c0 c1 c2 c3 : Value} {x : DataW H × List MemPlace}
    (h : DataW.trod enc Try.prog W 0 sp held fuel 57 [c0, c1, c2, c3] = some x) : ∃ s : Sh, [c0, c1, c2, c3] = [.int .i64 s.w, .int .i64 s.h, .int .i64 s.c, .int .i64 s.d] := by
  obtain ⟨xs, n, rfl, hx, hcl, hlen, hg⟩ := DataW.trod_struct Try.underlying57 h
  have h0 := hg 0 _ rfl
  have h1 := hg 1 _ rfl
  have h2 := hg 2 _ rfl
  have h3 := hg 3 _ rfl
  have hl : xs.length = 4 := hlen
  simp only [List.getElem_toArray, List.getElem_cons_zero, List.getElem_cons_succ, one_int, List.drop_succ_cons, List.drop_zero, List.take_succ_cons, List.take_zero] at h0 h1 h2 h3
  obtain ⟨n0, rfl⟩ := int_at (by omega) h0
  obtain ⟨n1, rfl⟩ := int_at (by omega) h1
  obtain ⟨n2, rfl⟩ := int_at (by omega) h2
  obtain ⟨n3, rfl⟩ := int_at (by omega) h3
  exact ⟨⟨n0, n1, n2, n3⟩, rfl⟩

set_option maxRecDepth 100000 in
theorem open_shape {H : Type} {enc : TypeId × Value → H} {W : World} {r : Reach} {b0 : Nat} {sp : Nat → Bool} {held : Bool} {v : Value} {d : DataW H} {p : List MemPlace}
    (hv : Value.okWide Try.prog W r b0 57 v) (h : DataW.Trod enc Try.prog W 0 sp held 57 v d p) : ∃ s : Sh, v = s.v := by
  obtain ⟨cs, rfl, hsz⟩ := okWide_struct Try.underlying57 hv
  rw [four_shape] at hsz
  obtain ⟨l⟩ := cs
  match l, hsz with
  | [c0, c1, c2, c3], _ =>
    obtain ⟨fuel, hf⟩ := h
    obtain ⟨s, e⟩ := shape_cells (by simpa [Value.cells] using hf)
    exact ⟨s, by rw [e]; rfl⟩

set_option maxRecDepth 100000 in
theorem open_raster {H : Type} {enc : TypeId × Value → H} {W : World} {r : Reach} {b0 : Nat} {sp : Nat → Bool} {held : Bool} {v : Value} {d : DataW H} {p : List MemPlace}
    (hv : Value.okWide Try.prog W r b0 104 v) (h : DataW.Trod enc Try.prog W 0 sp held 104 v d p) :
    ∃ (s : Sh) (A : Option Addr) (n c : Nat) (bs : List UInt8), v = s.r A n c ∧ RdB W W.heap.size A n bs ∧ n ≤ c ∧ c ≤ maxLen := by
  obtain ⟨cs, rfl, hsz⟩ := okWide_struct Try.underlying104 hv
  rw [five_raster] at hsz
  obtain ⟨l⟩ := cs
  match l, hsz with
  | [c0, c1, c2, c3, c4], _ =>
    obtain ⟨fuel, hf⟩ := h
    obtain ⟨xs, n, rfl, hx, hcl, hlen, hg⟩ := DataW.trod_struct Try.underlying104 hf
    have h0 := hg 0 _ rfl
    have h1 := hg 1 _ rfl
    have hl : xs.length = 2 := hlen
    simp only [List.getElem_toArray, List.getElem_cons_zero, List.getElem_cons_succ, Value.cells, four_shape, one_bytes, List.drop_succ_cons, List.drop_zero, List.take_succ_cons, List.take_zero] at h0 h1
    rw [List.getElem?_eq_getElem (by omega)] at h0 h1
    obtain ⟨s, e⟩ := shape_cells h0
    have hs : ∃ A n c, c4 = .slice A n c := by
      rcases open_ints Try.underlying22 Try.underlying5 (by kernel_rfl) h1 with ⟨hcs, _⟩ | ⟨x, l, cc, zs, hcs, _⟩
      · injection hcs with hcs; exact ⟨_, _, _, hcs⟩
      · injection hcs with hcs; exact ⟨_, _, _, hcs⟩
    obtain ⟨A, m, c, rfl⟩ := hs
    obtain ⟨bs, hr, hc, hm⟩ := open_bytes ⟨_, h1⟩
    injection e with e0 e
    injection e with e1 e
    injection e with e2 e
    injection e with e3 e
    exact ⟨s, A, m, c, bs, by rw [e0, e1, e2, e3]; rfl, hr, hc, hm⟩

end Go.Proofs.Ytcancpnepfnhmaa
