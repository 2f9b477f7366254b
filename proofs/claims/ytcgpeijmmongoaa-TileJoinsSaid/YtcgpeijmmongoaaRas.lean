/- Lists of pictures: a row of five cells each. -/
import Derived.Test.YtcgpeijmmongoaaBox
import Derived.Test.YtcgpeijmmongoaaOpenR
import Derived.Deep.Slices
namespace Go.Proofs.Ytcgpeijmmongoaa
set_option linter.all false
open Go.ChangeShapes Go.WideShapes Go.ChangeAt Go.RowKit

/-- A picture in memory: its shape, where its bytes are, and these. -/
structure Ra where
  s : Sh
  A : Option Addr
  n : Nat
  c : Nat
  bs : List UInt8
instance : Inhabited Ra := ⟨⟨⟨0, 0, 0, 0⟩, none, 0, 0, []⟩⟩

def Ra.cells (x : Ra) : List Value := [.int .i64 x.s.w, .int .i64 x.s.h, .int .i64 x.s.c, .int .i64 x.s.d, .slice x.A x.n x.c]
def Ra.f (x : Ra) : Nat → Option Value := r5 (.int .i64 x.s.w) (.int .i64 x.s.h) (.int .i64 x.s.c) (.int .i64 x.s.d) (.slice x.A x.n x.c)
def rcs (l : List Ra) : List Value := l.flatMap Ra.cells
theorem Ra.cells_len (x : Ra) : x.cells.length = 5 := rfl
theorem Ra.cells_get (x : Ra) : ∀ j, x.cells[j]? = x.f j
  | 0 => rfl | 1 => rfl | 2 => rfl | 3 => rfl | 4 => rfl | j + 5 => by simp [Ra.cells, Ra.f, r5]
theorem rcs_len : ∀ l : List Ra, (rcs l).length = l.length * 5
  | [] => rfl
  | x :: l => by
    have := rcs_len l
    unfold rcs at this ⊢
    rw [List.flatMap_cons, List.length_append, this, Ra.cells_len, List.length_cons]
    omega
theorem rcs_append (l m : List Ra) : rcs (l ++ m) = rcs l ++ rcs m := by simp [rcs]
theorem rcs_one (x : Ra) : rcs [x] = x.cells := by simp [rcs]
theorem rcs_get : ∀ (l : List Ra) (i j : Nat) (hi : i < l.length), j < 5 → (rcs l)[i * 5 + j]? = l[i].cells[j]?
  | x :: l, 0, j, _, hj => by
    unfold rcs
    rw [List.flatMap_cons, List.getElem?_append_left (by rw [Ra.cells_len]; omega)]
    simp
  | x :: l, i + 1, j, hi, hj => by
    have := rcs_get l i j (by simpa using hi) hj
    unfold rcs at this ⊢
    rw [List.flatMap_cons, List.getElem?_append_right (by rw [Ra.cells_len]; omega), Ra.cells_len, List.getElem_cons_succ, ← this]
    congr 1
    omega
theorem cells_one (x : Ra) : ∀ u ∈ x.cells, u.oneCell' = true := by
  intro u hu
  simp only [Ra.cells, List.mem_cons, List.not_mem_nil, or_false] at hu
  rcases hu with rfl | rfl | rfl | rfl | rfl <;> rfl

theorem Try.info_ras : (Try.prog.info? 33).map (fun i => (i.zero, i.size, i.bytes)) = some (some (.agg #[.int .i64 0, .int .i64 0, .int .i64 0, .int .i64 0, .slice none 0 0]), 5, 56) := by kernel_rfl

/-- v is a list of pictures of the call's own. -/
def ownR (w : World) (base : Nat) (v : Value) (l : List Ra) : Prop := w.ownsRow base 33 5 v l.length (rcs l)
theorem ownR.nil_ (w : World) (base : Nat) : ownR w base (.slice none 0 0) [] := ⟨rfl, .inl ⟨rfl, rfl⟩⟩
theorem ownR.mono {w : World} {base base' : Nat} {v : Value} {l : List Ra} (h : ownR w base v l) (hb : base' ≤ base) : ownR w base' v l := by
  refine ⟨h.1, ?_⟩
  rcases h.2 with hn | ⟨g, cap, cur, rfl, hbg, rest⟩
  · exact .inl hn
  · exact .inr ⟨g, cap, cur, rfl, by omega, rest⟩
theorem ownR.later {w w' : World} {base : Nat} {v : Value} {l : List Ra} (h : ownR w base v l) (hb : Below w.heap.size w w') : ownR w' base v l :=
  Below.ownsRow h hb (fun g hg => (World.ownsRow.lt h g hg).2)
theorem ownR.kept {w w' : World} {base : Nat} {v : Value} {l : List Ra} {row : Option Nat} (h : ownR w base v l) (hg : w.grownBy w' row) (hne : v.ownBlock = none ∨ v.ownBlock ≠ row) : ownR w' base v l := World.ownsRow.kept h hg hne
theorem ownR.form {w : World} {base : Nat} {v : Value} {l : List Ra} (h : ownR w base v l) :
    ∃ A c, v = .slice A l.length c ∧ Rd w w.heap.size 5 A l.length (rcs l) ∧ l.length ≤ c ∧ c ≤ maxLen := by
  rcases h.2 with ⟨rfl, h0⟩ | ⟨g, cap, cur, rfl, _, _, h1, h2, _⟩
  · have : l = [] := List.eq_nil_of_length_eq_zero h0
    subst this
    exact ⟨none, 0, rfl, Rd.none_, by simp, by simp⟩
  · exact ⟨_, _, rfl, Rd.of_own h, h1, h2⟩

/-- append(v, x) of one picture that lies in a block. -/
theorem wpList_appendR {w : World} {ops : Array Oper} {rest : List Oper} {o : Oper} {a : Act} {Q : Exit → Act → World → Prop} (hgd : o.guard = none) (s x : Operand)
    (ho : o.op = .call { callee := .builtin .append, args := #[s, x], argTypes := #[40, 40] })
    (base : Nat) (v : Value) (l : List Ra) (hs : a.eval s = v) (hown : ownR w base v l) (b c : Nat) (y : Ra) (hx : a.eval x = .slice (some ⟨b, 0, none⟩) 1 c) (hr : ∀ i, w.cell? ⟨b, i, none⟩ = y.f i)
    (hb : l.length + 1 ≤ 1099511627776) (hbase : base ≤ w.heap.size)
    (h : ∀ v' w', ownR w' base v' (l ++ [y]) → w.grownBy w' v.ownBlock → Below base w w' → (v'.ownBlock = v.ownBlock ∨ v'.ownBlock = some w.heap.size) → wpList Try.prog ops Q rest (a.put o.dst v') w') :
    wpList Try.prog ops Q (o :: rest) a w := by
  refine wpList_plain hgd fun K hK => ?_
  obtain ⟨i0, hi, hz0, hz1, hz2⟩ := info_parts Try.info_ras
  obtain ⟨v', w', hrun, h2, h3, h4, h5⟩ := run_append_own_at (P := Try.prog) w base 40 o.type 33 i0 _ 5 56 Try.underlying40 hi hz0 hz1 hz2 rfl (by omega) v l.length (rcs l) hown ⟨b, 0, none⟩ 1 c y.cells y.cells_len
    (by intro j u hu; rw [add_none, Nat.zero_add, hr, ← y.cells_get]; exact hu) (cells_one y) (by unfold maxLen; omega) (by omega) hbase
  unfold Oper.wp execOp
  simp only [ho, resolve, invoke, builtin, Sem.run_bind, Sem.run_pure, Result.andThen_ok, List.map_toArray, List.map_cons, List.map_nil, hs, hx, hrun]
  refine hK _ _ (h v' w' ?_ h3 ((Below.refl _ _).grown h3 hbase (fun k hk => (World.ownsRow.lt hown k hk).1)) h5)
  unfold ownR
  rw [List.length_append, rcs_append, rcs_one]
  exact h2

/-- The cells of the i-th picture of a list. -/
theorem Rd.ras {w : World} {B n : Nat} {A : Option Addr} {l : List Ra} (h : Rd w B 5 A n (rcs l)) {i : Nat} (hi : i < l.length) :
    ∃ b o, A = some ⟨b, o, none⟩ ∧ b < B ∧ n = l.length ∧ (∀ j, j < 5 → w.cell? ⟨b, o + i * 5 + j, none⟩ = l[i].f j) := by
  have hl := h.1
  rw [rcs_len] at hl
  obtain ⟨b, o, e, hb, hc⟩ := h.2 (by omega)
  refine ⟨b, o, e, hb, by omega, fun j hj => ?_⟩
  rw [Nat.add_assoc]
  have h5 := rcs_get l i j hi hj
  rw [l[i].cells_get] at h5
  rcases e5 : l[i].f j with _ | u
  · exfalso
    match j, hj with
    | 0, _ => cases e5
    | 1, _ => cases e5
    | 2, _ => cases e5
    | 3, _ => cases e5
    | 4, _ => cases e5
  · exact hc _ u (by rw [h5, e5])

/-- A list of pictures, each with its bytes. -/
def RdR (w : World) (B : Nat) (A : Option Addr) (n : Nat) (l : List Ra) : Prop := Rd w B 5 A n (rcs l) ∧ ∀ x ∈ l, RdB w B x.A x.n x.bs ∧ x.n ≤ x.c ∧ x.c ≤ maxLen
theorem RdR.len {w : World} {B n : Nat} {A : Option Addr} {l : List Ra} (h : RdR w B A n l) : l.length = n := by have := h.1.1; rw [rcs_len] at this; omega
theorem RdR.blw {w w' : World} {B n : Nat} {A : Option Addr} {l : List Ra} (h : RdR w B A n l) (hb : Below B w w') : RdR w' B A n l :=
  ⟨Rd.below h.1 hb, fun x hx => ⟨(h.2 x hx).1.blw hb, (h.2 x hx).2⟩⟩
theorem RdR.more {w : World} {B B' n : Nat} {A : Option Addr} {l : List Ra} (h : RdR w B A n l) (hB : B ≤ B') : RdR w B' A n l :=
  ⟨Rd.more h.1 hB, fun x hx => ⟨(h.2 x hx).1.more hB, (h.2 x hx).2⟩⟩

theorem add_addr (a : Addr) (i j : Nat) : (a.add i).add j = a.add (i + j) := add_of_add a i j

theorem cells5_of {w : World} {base : Nat} {a : Addr} {cs : List Value} (h : w.cells? base a 5 = some cs) : ∃ c0 c1 c2 c3 c4, cs = [c0, c1, c2, c3, c4] ∧ w.cell? a = some c0 ∧ w.cell? (a.add 1) = some c1 ∧ w.cell? (a.add 2) = some c2 ∧ w.cell? (a.add 3) = some c3 ∧ w.cell? (a.add 4) = some c4 := by
  obtain ⟨_, hlen, hc⟩ := World.cells?_some h
  match cs, hlen with
  | [c0, c1, c2, c3, c4], _ =>
    have h0 := hc 0 (by omega)
    have h1 := hc 1 (by omega)
    have h2 := hc 2 (by omega)
    have h3 := hc 3 (by omega)
    have h4 := hc 4 (by omega)
    exact ⟨_, _, _, _, _, rfl, by simpa [Addr.add] using h0, by simpa using h1, by simpa using h2, by simpa using h3, by simpa using h4⟩

theorem raster_cells {H : Type} {enc : TypeId × Value → H} {W : World} {sp : Nat → Bool} {held : Bool} {fuel : Nat} {c0 c1 c2 c3 c4 : Value} {x : DataW H × List MemPlace}
    (h : DataW.trod enc Try.prog W 0 sp held fuel 33 [c0, c1, c2, c3, c4] = some x) :
    ∃ y : Ra, [c0, c1, c2, c3, c4] = y.cells ∧ RdB W W.heap.size y.A y.n y.bs ∧ y.n ≤ y.c ∧ y.c ≤ maxLen := by
  obtain ⟨xs, n, rfl, hx, hcl, hlen, hg⟩ := DataW.trod_struct Try.underlying33 h
  have h0 := hg 0 _ rfl
  have h1 := hg 1 _ rfl
  have hl : xs.length = 2 := hlen
  simp only [List.getElem_toArray, List.getElem_cons_zero, List.getElem_cons_succ, Value.cells, four_shape, one_bytes, List.drop_succ_cons, List.drop_zero, List.take_succ_cons, List.take_zero] at h0 h1
  rw [List.getElem?_eq_getElem (by omega)] at h0 h1
  obtain ⟨s, e⟩ := shape_cells h0
  have hs : ∃ A n c, c4 = .slice A n c := by
    rcases open_ints Try.underlying31 Try.underlying5 (by kernel_rfl) h1 with ⟨hcs, _⟩ | ⟨x, l, cc, zs, hcs, _⟩
    · injection hcs with hcs; exact ⟨_, _, _, hcs⟩
    · injection hcs with hcs; exact ⟨_, _, _, hcs⟩
  obtain ⟨A, m, c, rfl⟩ := hs
  obtain ⟨bs, hr, hc, hm⟩ := open_bytes ⟨_, h1⟩
  injection e with e0 e
  injection e with e1 e
  injection e with e2 e
  injection e with e3 e
  exact ⟨⟨s, A, m, c, bs⟩, by rw [e0, e1, e2, e3]; rfl, hr, hc, hm⟩

theorem open_rasters {H : Type} {enc : TypeId × Value → H} {W : World} {sp : Nat → Bool} {held : Bool} {a : Option Addr} {n c : Nat} {d : DataW H} {p : List MemPlace}
    (h : DataW.Trod enc Try.prog W 0 sp held 40 (.slice a n c) d p) : ∃ l, RdR W W.heap.size a n l ∧ n ≤ c ∧ c ≤ maxLen := by
  obtain ⟨fuel, hf⟩ := h
  rcases Go.Deep.open_slice Try.underlying40 hf with ⟨hcs, _⟩ | ⟨x, l, cc, m, k, D, Pl, hcs, _, hl, hm, hmm, _, hx⟩
  · simp [Value.cells] at hcs
    obtain ⟨rfl, rfl, rfl⟩ := hcs
    exact ⟨[], ⟨Rd.none_, fun x hx => by cases hx⟩, by omega, by simp⟩
  · simp [Value.cells] at hcs
    obtain ⟨rfl, rfl, rfl⟩ := hcs
    have hnm : n ≤ m := by rw [hmm]; split <;> omega
    rw [five_raster] at hx
    have each : ∀ i, i < n → ∃ y : Ra, (∀ j, j < 5 → W.cell? ((x.add (i * 5)).add j) = y.f j) ∧ RdB W W.heap.size y.A y.n y.bs ∧ y.n ≤ y.c ∧ y.c ≤ maxLen := by
      intro i hi
      obtain ⟨cs', h1, h2⟩ := hx i (by omega)
      obtain ⟨c0, c1, c2, c3, c4, rfl, k0, k1, k2, k3, k4⟩ := cells5_of h1
      obtain ⟨y, e, hy, hy2, hy3⟩ := raster_cells h2
      unfold Ra.cells at e
      injection e with e0 e
      injection e with e1 e
      injection e with e2 e
      injection e with e3 e
      injection e with e4 e
      subst e0 e1 e2 e3 e4
      refine ⟨y, fun j hj => ?_, hy, hy2, hy3⟩
      match j, hj with
      | 0, _ => exact k0
      | 1, _ => exact k1
      | 2, _ => exact k2
      | 3, _ => exact k3
      | 4, _ => exact k4
    obtain ⟨Y, hY⟩ := Go.Deep.choose_lt (α := Ra) (p := fun i y => (∀ j, j < 5 → W.cell? ((x.add (i * 5)).add j) = y.f j) ∧ RdB W W.heap.size y.A y.n y.bs ∧ y.n ≤ y.c ∧ y.c ≤ maxLen) each
    refine ⟨(List.range n).map Y, ⟨⟨by rw [rcs_len]; simp, fun hn => ?_⟩, fun y hy => ?_⟩, hl, hm⟩
    · obtain ⟨b, o, spot⟩ := x
      have hc0 := (hY 0 hn).1 0 (by omega)
      have hspot : spot = none := by simpa [Addr.add] using World.cell?_spot hc0
      subst hspot
      refine ⟨b, o, rfl, ?_, fun j u hu => ?_⟩
      · have := block_lt_of_cell hc0
        simpa [add_none] using this
      · have hj := (List.getElem?_eq_some_iff.1 hu).1
        rw [rcs_len] at hj
        have hq : j / 5 < n := by simp at hj; omega
        have e5 : j = j / 5 * 5 + j % 5 := by omega
        have hg := rcs_get ((List.range n).map Y) (j / 5) (j % 5) (by simpa using hq) (by omega)
        rw [← e5, hu] at hg
        have := (hY (j / 5) hq).1 (j % 5) (by omega)
        rw [add_none, add_none, Nat.add_assoc, ← e5] at this
        rw [this, ← Ra.cells_get]
        simpa using hg.symm
    · simp only [List.mem_map, List.mem_range] at hy
      obtain ⟨i, hi, rfl⟩ := hy
      exact (hY i hi).2

end Go.Proofs.Ytcgpeijmmongoaa
