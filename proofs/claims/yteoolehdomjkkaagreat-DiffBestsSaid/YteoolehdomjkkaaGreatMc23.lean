/- Merged: RowJ, Lz1, Lz0, Lz2. -/
import Derived.Maps.OwnSet
import Derived.DeepKeys5
import Derived.Test.YteoolehdomjkkaaGreatMc01
import Derived.Test.YteoolehdomjkkaaGreatMc22
import Derived.Test.YteoolehdomjkkaaGreatMc08
import Derived.Test.YteoolehdomjkkaaGreatMc21
/- Rows of aquref5.Token: 3 cells an element. -/
namespace Go.Proofs.YteoolehdomjkkaaGreat
set_option linter.all false
open Go.RowKit

def eJ (x : (Nat × Nat × Nat)) : List Value := [Value.int .i64 (x.1 : Int), Value.int .i64 (x.2.1 : Int), Value.int .i64 (x.2.2 : Int)]
theorem eJ_len (x : (Nat × Nat × Nat)) : (eJ x).length = 3 := rfl
/-- The cells of a list. -/
def cJ (l : List (Nat × Nat × Nat)) : List Value := l.flatMap eJ
theorem cJ_length : ∀ l : List (Nat × Nat × Nat), (cJ l).length = l.length * 3
  | [] => rfl
  | x :: l => by
    have := cJ_length l
    unfold cJ at this ⊢
    rw [List.flatMap_cons, List.length_append, this, eJ_len, List.length_cons]
    omega
theorem cJ_append (a b : List (Nat × Nat × Nat)) : cJ (a ++ b) = cJ a ++ cJ b := by simp [cJ]
theorem cJ_single (x : (Nat × Nat × Nat)) : cJ [x] = eJ x := by simp [cJ]
theorem cJ_get : ∀ (l : List (Nat × Nat × Nat)) (k j : Nat) (hk : k < l.length), j < 3 → (cJ l)[k * 3 + j]? = (eJ l[k])[j]?
  | x :: l, 0, j, _, hj => by
    unfold cJ
    rw [List.flatMap_cons, List.getElem?_append_left (by rw [eJ_len]; omega)]
    simp
  | x :: l, i + 1, j, hi, hj => by
    have := cJ_get l i j (by simpa using hi) hj
    unfold cJ at this ⊢
    rw [List.flatMap_cons, List.getElem?_append_right (by rw [eJ_len]; omega), eJ_len, List.getElem_cons_succ, ← this]
    congr 1
    omega
theorem cJ_one (l : List (Nat × Nat × Nat)) : ∀ u ∈ cJ l, u.oneCell' = true := by
  intro u hu
  simp only [cJ, List.mem_flatMap] at hu
  obtain ⟨x, _, hx⟩ := hu
  simp only [eJ, List.mem_cons, List.not_mem_nil, or_false] at hx
  rcases hx with rfl | rfl | rfl <;> rfl
theorem cJ_set (l : List (Nat × Nat × Nat)) (k : Nat) (x : (Nat × Nat × Nat)) (hk : k < l.length) : cJ (l.set k x) = (((cJ l).set (k * 3) (Value.int .i64 (x.1 : Int))).set (k * 3 + 1) (Value.int .i64 (x.2.1 : Int))).set (k * 3 + 2) (Value.int .i64 (x.2.2 : Int)) := by
  have e1 : l = l.take k ++ l[k] :: l.drop (k + 1) := by rw [← List.drop_eq_getElem_cons hk, List.take_append_drop]
  have e2 : l.set k x = l.take k ++ x :: l.drop (k + 1) := by rw [List.set_eq_take_append_cons_drop, if_pos hk]
  rw [e2]
  have hl : (cJ (l.take k)).length = k * 3 := by rw [cJ_length, List.length_take, Nat.min_eq_left (by omega)]
  have e3 : cJ l = cJ (l.take k) ++ (eJ l[k] ++ cJ (l.drop (k + 1))) := by
    conv => lhs; rw [e1]
    rw [cJ_append]
    simp only [cJ, List.flatMap_cons]
  have e4 : cJ (l.take k ++ x :: l.drop (k + 1)) = cJ (l.take k) ++ (eJ x ++ cJ (l.drop (k + 1))) := by
    rw [cJ_append]
    simp only [cJ, List.flatMap_cons]
  rw [e3, e4]
  generalize cJ (l.take k) = P at *
  rw [← hl]
  simp [eJ, List.set_append]
theorem Tryz.info_J : (Tryz.prog.info? 143).map (fun i => (i.zero, i.size, i.bytes)) = some (some (.agg #[.int .i64 0, .int .i64 0, .int .i64 0]), 3, 24) := by kernel_rfl
def ownJ (w : World) (base : Nat) (v : Value) (l : List (Nat × Nat × Nat)) : Prop := w.ownsRow base 143 3 v l.length (cJ l)
def RdJ (w : World) (B : Nat) (A : Option Addr) (n : Nat) (l : List (Nat × Nat × Nat)) : Prop := Rd w B 3 A n (cJ l)
theorem RdJ.len {w : World} {B n : Nat} {A : Option Addr} {l : List (Nat × Nat × Nat)} (h : RdJ w B A n l) : l.length = n := by
  have := h.1; rw [cJ_length] at this; omega
theorem RdJ.one {w : World} {B n : Nat} {A : Option Addr} {l : List (Nat × Nat × Nat)} (h : RdJ w B A n l) {k : Nat} (hk : k < n) :
    ∃ b o x, A = some ⟨b, o, none⟩ ∧ b < B ∧ Hid (l[k]? = some x) ∧ w.cell? ⟨b, o + k * 3, none⟩ = some (Value.int .i64 (x.1 : Int)) ∧ w.cell? ⟨b, o + k * 3 + 1, none⟩ = some (Value.int .i64 (x.2.1 : Int)) ∧ w.cell? ⟨b, o + k * 3 + 2, none⟩ = some (Value.int .i64 (x.2.2 : Int)) := by
  obtain ⟨b, o, e, hb, hc⟩ := h.2 (by omega)
  have hl := h.len
  have hk' : k < l.length := by omega
  refine ⟨b, o, l[k], e, hb, List.getElem?_eq_getElem hk', ?_, ?_, ?_⟩
  · exact hc (k * 3) _ ((cJ_get l k 0 hk' (by omega)).trans rfl)
  · exact hc (k * 3 + 1) _ ((cJ_get l k 1 hk' (by omega)).trans rfl)
  · exact hc (k * 3 + 2) _ ((cJ_get l k 2 hk' (by omega)).trans rfl)
theorem RdJ.blw {w w' : World} {B n : Nat} {A : Option Addr} {l : List (Nat × Nat × Nat)} (h : RdJ w B A n l) (hb : Below B w w') : RdJ w' B A n l := Rd.below h hb
theorem RdJ.more {w : World} {B B' n : Nat} {A : Option Addr} {l : List (Nat × Nat × Nat)} (h : RdJ w B A n l) (hB : B ≤ B') : RdJ w B' A n l := Rd.more h hB
theorem RdJ.here {w : World} {B n : Nat} {A : Option Addr} {l : List (Nat × Nat × Nat)} (h : RdJ w B A n l) : RdJ w w.heap.size A n l :=
  ⟨h.1, fun hn => by
    obtain ⟨b, o, e, hb, hc⟩ := h.2 hn
    have hl := h.1
    exact ⟨b, o, e, block_lt_of_cell (a := ⟨b, o + 0, none⟩) (hc 0 (cJ l)[0] (List.getElem?_eq_getElem (by omega))), hc⟩⟩
theorem RdJ.later {w w' : World} {n : Nat} {A : Option Addr} {l : List (Nat × Nat × Nat)} (h : RdJ w w.heap.size A n l) (hb : Below w.heap.size w w') : RdJ w' w'.heap.size A n l := RdJ.here (RdJ.blw h hb)
theorem RdJ.alloc {w : World} {B n : Nat} {A : Option Addr} {l : List (Nat × Nat × Nat)} (h : RdJ w B A n l) (hB : B ≤ w.heap.size) (o : Obj) : RdJ (w.alloc o) B A n l := Rd.alloc h hB o
theorem RdJ.nil_ {w : World} {B : Nat} {A : Option Addr} : RdJ w B A 0 [] := ⟨by simp [cJ], fun h => absurd h (by omega)⟩
theorem RdJ.cut {w : World} {B n : Nat} {A : Option Addr} {l : List (Nat × Nat × Nat)} (h : RdJ w B A n l) {k m : Nat} (hk : k + m ≤ n) {A' : Option Addr} (hA : 0 < m → A' = A.map (·.add (k * 3))) :
    RdJ w B A' m ((l.drop k).take m) := by
  have := Rd.cut h hk (A' := A') hA
  unfold RdJ
  have e1 : ∀ (q : Nat) (l : List (Nat × Nat × Nat)), cJ (l.take q) = (cJ l).take (q * 3) := fun q l => by
    rcases Nat.lt_or_ge q l.length with hq | hq
    · conv => rhs; rw [← List.take_append_drop q l, cJ_append]
      rw [List.take_left' (by rw [cJ_length, List.length_take, Nat.min_eq_left (by omega)])]
    · rw [List.take_of_length_le hq, List.take_of_length_le (by rw [cJ_length]; exact Nat.mul_le_mul_right _ hq)]
  have e2 : ∀ (q : Nat) (l : List (Nat × Nat × Nat)), cJ (l.drop q) = (cJ l).drop (q * 3) := fun q l => by
    rcases Nat.lt_or_ge q l.length with hq | hq
    · conv => rhs; rw [← List.take_append_drop q l, cJ_append]
      rw [List.drop_left' (by rw [cJ_length, List.length_take, Nat.min_eq_left (by omega)])]
    · rw [List.drop_eq_nil_of_le hq, List.drop_eq_nil_of_le (by rw [cJ_length]; exact Nat.mul_le_mul_right _ hq)]
      rfl
  rw [e1, e2]
  exact this
theorem ownJ.nil_ (w : World) (base : Nat) : ownJ w base (.slice none 0 0) [] := World.ownsRow_nil _ _ _ _
theorem ownJ.mono {w : World} {base base' : Nat} {v : Value} {l : List (Nat × Nat × Nat)} (h : ownJ w base v l) (hb : base' ≤ base) : ownJ w base' v l := by
  refine ⟨h.1, ?_⟩
  rcases h.2 with hn | ⟨g, cap, cur, rfl, hbg, rest⟩
  · exact .inl hn
  · exact .inr ⟨g, cap, cur, rfl, by omega, rest⟩
theorem ownJ.later {w w' : World} {base : Nat} {v : Value} {l : List (Nat × Nat × Nat)} (h : ownJ w base v l) (hb : Below w.heap.size w w') : ownJ w' base v l :=
  Below.ownsRow h hb (fun g hg => (World.ownsRow.lt h g hg).2)
theorem ownJ.laterD {w w' : World} {base : Nat} {v : Value} {l : List (Nat × Nat × Nat)} (h : ownJ w base v l) (hb : Below w.drew.heap.size w.drew w') : ownJ w' base v l := ownJ.later (w := w.drew) h hb
theorem ownJ.alloc {w : World} {base : Nat} {v : Value} {l : List (Nat × Nat × Nat)} (h : ownJ w base v l) (o : Obj) : ownJ (w.alloc o) base v l := World.ownsRow.alloc h o
theorem ownJ.drew {w : World} {base : Nat} {v : Value} {l : List (Nat × Nat × Nat)} (h : ownJ w base v l) : ownJ w.drew base v l := h
theorem ownJ.drewN {w : World} {base : Nat} {v : Value} {l : List (Nat × Nat × Nat)} (h : ownJ w base v l) (n : Nat) : ownJ (w.drewN n) base v l := h
theorem ownJ.form {w : World} {base : Nat} {v : Value} {l : List (Nat × Nat × Nat)} (h : ownJ w base v l) :
    ∃ A c, v = .slice A l.length c ∧ RdJ w w.heap.size A l.length l ∧ l.length ≤ c ∧ c ≤ maxLen := by
  rcases h.2 with ⟨rfl, h0⟩ | ⟨g, cap, cur, rfl, _, _, h1, h2, _⟩
  · have : l = [] := List.eq_nil_of_length_eq_zero h0
    subst this
    exact ⟨none, 0, rfl, Rd.none_, by simp, by simp⟩
  · exact ⟨_, _, rfl, Rd.of_own h, h1, h2⟩
theorem ownJ.kept {w w' : World} {base : Nat} {v : Value} {l : List (Nat × Nat × Nat)} {row : Option Nat} (h : ownJ w base v l) (hg : w.grownBy w' row) (hne : v.ownBlock = none ∨ v.ownBlock ≠ row) : ownJ w' base v l :=
  World.ownsRow.kept h hg hne
theorem ownJ.far {w : World} {base g : Nat} {v : Value} {l : List (Nat × Nat × Nat)} (h : ownJ w base v l) (hg : v.ownBlock ≠ some g) (o : Nat) (u : Value) :
    ownJ (w.setCell ⟨g, o, none⟩ u) base v l := by
  refine ⟨h.1, ?_⟩
  rcases h.2 with hn | ⟨g', cap, cur, rfl, hb, hgg, rest⟩
  · exact .inl hn
  · refine .inr ⟨g', cap, cur, rfl, hb, ?_, rest⟩
    rw [Below.heap_setCell _ _ _ _ (by intro e; apply hg; simp [Value.ownBlock]; exact e)]
    exact hgg
theorem ownJ.ne {w : World} {base g : Nat} {v : Value} {l : List (Nat × Nat × Nat)} (h : ownJ w base v l) (hg : g < base) : v.ownBlock ≠ some g := by
  intro e
  have := (World.ownsRow.lt h g e).1
  omega
theorem ownJ.pos {w : World} {base n c : Nat} {A : Option Addr} {l : List (Nat × Nat × Nat)} (h : ownJ w base (.slice A n c) l) (hn : 0 < n) : n = l.length ∧ ∃ g, A = some ⟨g, 0, none⟩ ∧ base ≤ g ∧ g < w.heap.size := by
  rcases h.2 with ⟨h', _⟩ | ⟨g, cap, cur, h', hb, hg, _⟩
  · injection h' with _ h2; omega
  · injection h' with h1 h2
    exact ⟨h2, g, h1, hb, (World.ownsRow.lt h g (by rw [h1]; rfl)).2⟩
theorem ownJ.cell {w : World} {base g n c : Nat} {l : List (Nat × Nat × Nat)} (h : ownJ w base (.slice (some ⟨g, 0, none⟩) n c) l) (hn : n = l.length) {k : Nat} (hk : k < l.length) :
    w.cell? ⟨g, k * 3, none⟩ = some ((fun x : (Nat × Nat × Nat) => Value.int .i64 (x.1 : Int)) l[k]) ∧ w.cell? ⟨g, k * 3 + 1, none⟩ = some ((fun x : (Nat × Nat × Nat) => Value.int .i64 (x.2.1 : Int)) l[k]) ∧ w.cell? ⟨g, k * 3 + 2, none⟩ = some ((fun x : (Nat × Nat × Nat) => Value.int .i64 (x.2.2 : Int)) l[k]) := by
  subst hn
  refine ⟨?_, ?_, ?_⟩
  · exact (World.ownsRow.cellAt h (k * 3) (by have := hk; omega)).trans ((cJ_get l k 0 hk (by omega)).trans rfl)
  · exact (World.ownsRow.cellAt h (k * 3 + 1) (by have := hk; omega)).trans ((cJ_get l k 1 hk (by omega)).trans rfl)
  · exact (World.ownsRow.cellAt h (k * 3 + 2) (by have := hk; omega)).trans ((cJ_get l k 2 hk (by omega)).trans rfl)
theorem ownJ.frozen {w : World} {base g n c : Nat} {l : List (Nat × Nat × Nat)} (h : ownJ w base (.slice (some ⟨g, 0, none⟩) n c) l) (hn : n = l.length) (k : Nat) :
    w.frozen? ⟨g, k, none⟩ = false := by
  subst hn
  exact World.ownsRow.frozenAt h k
theorem ownJ.store {w : World} {base g n c : Nat} {l : List (Nat × Nat × Nat)} (h : ownJ w base (.slice (some ⟨g, 0, none⟩) n c) l) (hn : n = l.length) (k : Nat) (x : (Nat × Nat × Nat)) (hk : k < l.length) :
    ownJ (((w.setCell ⟨g, k * 3, none⟩ (Value.int .i64 (x.1 : Int))).setCell ⟨g, k * 3 + 1, none⟩ (Value.int .i64 (x.2.1 : Int))).setCell ⟨g, k * 3 + 2, none⟩ (Value.int .i64 (x.2.2 : Int))) base (.slice (some ⟨g, 0, none⟩) n c) (l.set k x) := by
  subst hn
  have h0 : w.ownsRow base 143 3 (.slice (some ⟨g, 0, none⟩) l.length c) l.length (cJ l) := h
  have h1 := (World.ownsRow.stored h0 (k * 3) (Value.int .i64 (x.1 : Int))).1
  have h2 := (World.ownsRow.stored h1 (k * 3 + 1) (Value.int .i64 (x.2.1 : Int))).1
  have h3 := (World.ownsRow.stored h2 (k * 3 + 2) (Value.int .i64 (x.2.2 : Int))).1
  unfold ownJ
  rw [List.length_set, cJ_set l k x hk]
  exact h3
theorem ownJ.rd {w : World} {base n c : Nat} {A : Option Addr} {l : List (Nat × Nat × Nat)} (h : ownJ w base (.slice A n c) l) : RdJ w w.heap.size A n l := by
  obtain ⟨A4, c4, e5, hd4, _, _⟩ := h.form
  injection e5 with e1 e2 e3
  rw [e1, e2]
  exact hd4
/-- make of n zeros, in a new block. -/
theorem wpList_makeJ {w : World} {ops : Array Oper} {rest : List Oper} {o : Oper} {a : Act} {Q : Exit → Act → World → Prop}
    (hg : o.guard = none) (l c : Operand) (hop : o.op = Op.makeSlice 87 l c) (n : Nat) (L : Int) (hl : a.eval l = .int .i64 L) (hc : a.eval c = .int .i64 L)
    (hL : L = (n : Int)) (hn : n ≤ 1099511627776)
    (hK : ∀ w', ownJ w' w.heap.size (.slice (some ⟨w.heap.size, 0, none⟩) n n) (List.replicate n ((0, 0, 0) : Nat × Nat × Nat)) → Below w.heap.size w w' → w.heap.size < w'.heap.size →
      wpList Tryz.prog ops Q rest (a.put o.dst (.slice (some ⟨w.heap.size, 0, none⟩) n n)) w') :
    wpList Tryz.prog ops Q (o :: rest) a w := by
  obtain ⟨i0, hi, hz0, hz1, hz2⟩ := info_parts Tryz.info_J
  refine wpList_make_full w hg l c 87 hop w.heap.size 143 i0 _ 3 Tryz.underlying87 hi hz0 hz1 _ _ _ _ n hl hc hL hL (by rw [hz2]; omega) (by unfold maxLen; omega) (Nat.le_refl _) ?_
  intro w' h1 h2
  have h3 : ownJ w' w.heap.size (.slice (some ⟨w.heap.size, 0, none⟩) n n) (List.replicate n ((0, 0, 0) : Nat × Nat × Nat)) := by
    unfold ownJ
    have e1 : (madeCells (.agg #[.int .i64 0, .int .i64 0, .int .i64 0] : Value).cells (n * 3)).toList = cJ (List.replicate n ((0, 0, 0) : Nat × Nat × Nat)) := by
      apply List.ext_getElem?
      intro j
      by_cases hj : j < n * 3
      · have hq : j / 3 < n := by omega
        have ej : j = j / 3 * 3 + j % 3 := by omega
        have hg := cJ_get (List.replicate n ((0, 0, 0) : Nat × Nat × Nat)) (j / 3) (j % 3) (by simpa using hq) (by omega)
        rw [← ej] at hg
        rw [hg, List.getElem_replicate]
        have hm : j % 3 < 3 := by omega
        rw [Array.getElem?_toList]
        rw [madeCells, Array.getElem?_map, Array.getElem?_range, if_pos hj]
        show some ((#[.int .i64 0, .int .i64 0, .int .i64 0] : Array Value)[j % 3]!) = _
        match j % 3, hm with
        | 0, _ => rfl
        | 1, _ => rfl
        | 2, _ => rfl
      · rw [List.getElem?_eq_none (by simp [madeCells]; omega), List.getElem?_eq_none (by rw [cJ_length]; simp; omega)]
    rw [e1] at h1
    rw [List.length_replicate]
    exact h1
  exact hK w' h3 ((Below.refl _ _).grown h2 (Nat.le_refl _) (by simp)) (World.ownsRow.lt h3 _ rfl).2
/-- One element that lies in a block, whole. -/
theorem rd_oneJ (w : World) (x : (Nat × Nat × Nat)) (t : TypeId) (fr : Nat × Nat) : RdJ (w.alloc (.cells (eJ x).toArray t fr)) (w.heap.size + 1) (some ⟨w.heap.size, 0, none⟩) 1 [x] := by
  refine ⟨by rw [cJ_length]; rfl, fun _ => ⟨_, _, rfl, by omega, fun j u hu => ?_⟩⟩
  rw [Nat.zero_add]
  have := cell_of_row (w.alloc (.cells (eJ x).toArray t fr)) w.heap.size j (eJ x).toArray t fr (heap_alloc_new w _)
  rw [this]
  rw [cJ_single] at hu
  simpa using hu

set_option maxRecDepth 100000 in
theorem run_appendJ (w : World) (base : Nat) (t2 : TypeId) (v : Value) (l : List (Nat × Nat × Nat)) (hown : ownJ w base v l) (B m c : Nat) (A : Option Addr) (news : List (Nat × Nat × Nat)) (hr : RdJ w B A m news)
    (hb : l.length + m ≤ 1099511627776) (hbase : base ≤ w.heap.size) :
    ∃ v' w', (Builtin.append_ #[87, 87] t2 #[v, .slice A m c]).run Tryz.prog w = .ok v' w' ∧ ownJ w' base v' (l ++ news) ∧ w.grownBy w' v.ownBlock ∧
      (v'.ownBlock = v.ownBlock ∨ v'.ownBlock = some w.heap.size) ∧ (v' = .slice none 0 0 ↔ v = .slice none 0 0 ∧ m = 0) := by
  obtain ⟨i0, hi, hz0, hz1, hz2⟩ := info_parts Tryz.info_J
  have hl := hr.len
  subst hl
  unfold ownJ
  rw [List.length_append, cJ_append]
  rcases A with _ | ad
  · have hn : news = [] := by
      rcases Nat.eq_zero_or_pos news.length with h0 | h0
      · exact List.eq_nil_of_length_eq_zero h0
      · obtain ⟨b, o, h, _⟩ := hr.2 h0
        cases h
    subst hn
    refine ⟨v, w, ?_, by simpa [cJ, ownJ] using hown, World.grownBy.refl w _, .inl rfl, by simp⟩
    rcases hown.2 with ⟨rfl, h0⟩ | ⟨g, cap, cur, rfl, _, _, hnc, _⟩
    · simp [Builtin.append_, run_underlying Tryz.underlying87, sizeOf, typeInfo, hi, Builtin.lenOf, Builtin.firstCells]
    · simp [Builtin.append_, run_underlying Tryz.underlying87, sizeOf, typeInfo, hi, Builtin.lenOf, Builtin.firstCells, hnc, storeCells]
  · have hcells : ∀ j u, (cJ news)[j]? = some u → w.cell? (ad.add j) = some u := by
      intro j u hu
      rcases Nat.eq_zero_or_pos news.length with h0 | h0
      · have hn : news = [] := List.eq_nil_of_length_eq_zero h0
        subst hn
        simp [cJ] at hu
      · obtain ⟨b, o, h, _, hc⟩ := hr.2 h0
        injection h with h
        subst h
        rw [add_none]
        exact hc j u hu
    obtain ⟨v', w', hrun, h2, h3, h4, h5⟩ := run_append_own_at (P := Tryz.prog) w base 87 t2 143 i0 _ 3 24 Tryz.underlying87 hi hz0 hz1 hz2 rfl (by omega) v l.length (cJ l) hown ad news.length c (cJ news) (by rw [cJ_length]) hcells (cJ_one _) (by unfold maxLen; omega) (by omega) hbase
    exact ⟨v', w', hrun, h2, h3, h5, h4⟩

/-- append(v, x...): v the call's own, x whatever. -/
theorem wpList_appendJ {w : World} {ops : Array Oper} {rest : List Oper} {o : Oper} {a : Act} {Q : Exit → Act → World → Prop} (hgd : o.guard = none) (s x : Operand)
    (ho : o.op = .call { callee := .builtin .append, args := #[s, x], argTypes := #[87, 87] })
    (base : Nat) (v : Value) (l : List (Nat × Nat × Nat)) (hs : a.eval s = v) (hown : ownJ w base v l) (B m c : Nat) (A : Option Addr) (news : List (Nat × Nat × Nat)) (hx : a.eval x = .slice A m c) (hr : RdJ w B A m news)
    (hb : l.length + m ≤ 1099511627776) (hbase : base ≤ w.heap.size)
    (h : ∀ v' w', ownJ w' base v' (l ++ news) → w.grownBy w' v.ownBlock → Below base w w' → (v'.ownBlock = v.ownBlock ∨ v'.ownBlock = some w.heap.size) → wpList Tryz.prog ops Q rest (a.put o.dst v') w') :
    wpList Tryz.prog ops Q (o :: rest) a w := by
  refine wpList_plain hgd fun K hK => ?_
  obtain ⟨v', w', hrun, h2, h3, h4, _⟩ := run_appendJ w base o.type v l hown B m c A news hr hb hbase
  unfold Oper.wp execOp
  simp only [ho, resolve, invoke, builtin, Sem.run_bind, Sem.run_pure, Result.andThen_ok, List.map_toArray, List.map_cons, List.map_nil, hs, hx, hrun]
  exact hK _ _ (h v' w' h2 h3 ((Below.refl _ _).grown h3 hbase (fun k hk => (World.ownsRow.lt hown k hk).1)) h4)
/-- append of bytes as a step of a region that draws its order. -/
theorem step_appendJ {w : World} {ops : Array Oper} {o : Oper} {a : Act} {K : Act → World → Prop} {Q : Exit → Act → World → Prop} {E : Prop} (hgd : o.guard = none) (s x : Operand)
    (ho : o.op = .call { callee := .builtin .append, args := #[s, x], argTypes := #[87, 87] })
    (base : Nat) (v : Value) (bs : List (Nat × Nat × Nat)) (hs : a.eval s = v) (hown : ownJ w base v bs) (B m c : Nat) (A : Option Addr) (news : List (Nat × Nat × Nat)) (hx : a.eval x = .slice A m c) (hr : RdJ w B A m news)
    (hb : bs.length + m ≤ 1099511627776) (hbase : base ≤ w.heap.size)
    (h : ∀ v' w', ownJ w' base v' (bs ++ news) → w.grownBy w' v.ownBlock → Below base w w' → (v'.ownBlock = v.ownBlock ∨ v'.ownBlock = some w.heap.size) → K (a.put o.dst v') w') :
    if Region.wanted o (yielded ops a.tmps) = true then Oper.wp Tryz.prog o a w K Q else E := by
  have hw : Region.wanted o (yielded ops a.tmps) = true := by simp [Region.wanted, hgd]
  rw [if_pos hw]
  obtain ⟨v', w', hrun, h2, h3, h4, _⟩ := run_appendJ w base o.type v bs hown B m c A news hr hb hbase
  unfold Oper.wp execOp
  simp only [ho, resolve, invoke, builtin, Sem.run_bind, Sem.run_pure, Result.andThen_ok, List.map_toArray, List.map_cons, List.map_nil, hs, hx, hrun]
  exact h v' w' h2 h3 ((Below.refl _ _).grown h3 hbase (fun k hk => (World.ownsRow.lt hown k hk).1)) h4
end Go.Proofs.YteoolehdomjkkaaGreat

/- lz: how many bytes from two places on are the same. -/
namespace Go.Proofs.YteoolehdomjkkaaGreat
set_option linter.all false
open Go.RowKit


set_option maxRecDepth 100000 in
set_option maxHeartbeats 1600000 in
theorem common_any (B n c i k : Nat) (A : Option Addr) (bs : List UInt8) (w : World) (h : RdB w B A n bs) (hik : i ≤ k) (hkn : k ≤ n) (hn : n ≤ 40000) :
    Calls Tryz.prog 150 #[.slice A n c, .int .i64 (i : Int), .int .i64 (k : Int)] w fun e w' => e = .returned (.int .i64 ((comP bs i k : Nat) : Int)) ∧ ∃ q, w' = w.drewN q := by
  have HR := Lib.hid h
  have hl := h.len
  have HC0 : Hid (comF bs i k (258 - 0) 0 = comP bs i k) := (show _ = _ from rfl)
  clear h
  go_enter Tryz.func150, Tryz.ntmps150
  go_wp2_with fail
  go_loopw [7] (fun vm wr => ∃ m : Nat, m ≤ 258 ∧ vm = .int .i64 m ∧ Hid (comF bs i k (258 - m) m = comP bs i k) ∧ Hid (∃ q, wr = w.drewN q)) (fun vm _ => 258 - (intOf vm).toNat)
  case atStart => exact ⟨0, by omega, rfl, HC0, (show ∃ q, _ from ⟨0, rfl⟩)⟩
  case round =>
    clear HC0
    obtain ⟨m, hm, rfl, HC, HW⟩ := hrel
    have HRr : Hid (RdB wr B A n bs) := (show RdB _ _ _ _ _ by obtain ⟨q, rfl⟩ := HW.out; exact Rd.drewN HR.out q)
    have HWN : ∀ nq, Hid (∃ q, wr.drewN nq = w.drewN q) := fun nq => (show ∃ q, _ by obtain ⟨q, rfl⟩ := HW.out; exact ⟨q + nq, by rw [World.drewN_drewN]⟩)
    have HS : Hid (m < 258 → comF bs i k (258 - m) m = if k + m < bs.length ∧ bs.getD (i + m) 0 = bs.getD (k + m) 0 then comF bs i k (258 - (m + 1)) (m + 1) else m) := (show _ → _ from fun h => by rw [show 258 - m = (258 - (m + 1)) + 1 by omega]; rfl)
    have hs1 : IntKind.i64.wrap ((k : Int) + (m : Int)) = ((k + m : Nat) : Int) := by have := wrap_i64_lt (k + m) (by omega); simpa using this
    have hs2 : IntKind.i64.wrap ((i : Int) + (m : Int)) = ((i + m : Nat) : Int) := by have := wrap_i64_lt (i + m) (by omega); simpa using this
    by_cases h1 : m < 258
    · have h1i : (m : Int) < 258 := by omega
      by_cases h2 : k + m < n
      · have h2i : (k : Int) + (m : Int) < (n : Int) := by omega
        have h3i : (i : Int) + (m : Int) < (n : Int) := by omega
        obtain ⟨b, o, x, rfl, hb, HX, e1⟩ := HRr.out.byte (k := i + m) (by omega)
        obtain ⟨b2, o2, y, hA2, hb2, HY, e2⟩ := HRr.out.byte (k := k + m) h2
        injection hA2 with hA2
        injection hA2 with hA2 hA3
        subst hA2 hA3
        have HS2 := Lib.hid (HS.out h1)
        rw [getD_at HX.out, getD_at HY.out] at HS2
        have x8 := x.toNat_lt
        have y8 := y.toNat_lt
        obtain ⟨p, hp⟩ : ∃ p, i + m = p := ⟨_, rfl⟩
        obtain ⟨r, hr⟩ : ∃ r, k + m = r := ⟨_, rfl⟩
        have hp2 : (i : Int) + (m : Int) = (p : Int) := by omega
        have hr2 : (k : Int) + (m : Int) = (r : Int) := by omega
        have hp3 : (p : Int) < (n : Int) := by omega
        have hr3 : (r : Int) < (n : Int) := by omega
        have hpn : p < n := by omega
        have hrn : r < n := by omega
        have hb3 : k + m < bs.length := by omega
        rw [hp] at e1 hs2
        rw [hr] at e2 hs1
        by_cases hxy : x = y
        · have d1 : ((x.toNat : Int) == (y.toNat : Int)) = true := by rw [hxy]; exact beq_self_eq_true _
          rw [if_pos ⟨hb3, hxy⟩, HC.out] at HS2
          clear HX HY HS
          go_wp2_with fail
          go_quiet (fail)
          go_wp2_with fail
          go_roundw
          case rel => exact ⟨m + 1, by omega, by go_num, HS2.out.symm, HWN _⟩
          case measure => simp [intOf]; omega
        · have d1 : ((x.toNat : Int) == (y.toNat : Int)) = false := beq_eq_false_iff_ne.2 (fun e => hxy (UInt8.toNat_inj.1 (by omega)))
          rw [if_neg (fun e => hxy e.2), HC.out] at HS2
          clear HX HY HS
          go_wp2_with fail
          go_quiet (fail)
          go_wp2_with fail
          go_ret
          exact ⟨by rw [HS2.out]; rfl, (HWN _).out⟩
      · have h2i : ¬ (k : Int) + (m : Int) < (n : Int) := by omega
        have HS2 := Lib.hid (HS.out h1)
        rw [if_neg (fun e => h2 (hl ▸ e.1)), HC.out] at HS2
        obtain ⟨r, hr⟩ : ∃ r, k + m = r := ⟨_, rfl⟩
        have hr2 : (k : Int) + (m : Int) = (r : Int) := by omega
        have hr3 : ¬ (r : Int) < (n : Int) := by omega
        have hrn : ¬ r < n := by omega
        have hrn2 : n ≤ r := by omega
        have hr4 : decide ((r : Int) < (n : Int)) = false := decide_eq_false hr3
        rw [hr] at hs1
        clear HS hs2
        go_wp2_with fail
        go_quiet (fail)
        go_wp2_with fail
        go_ret
        exact ⟨by rw [HS2.out]; rfl, (HWN _).out⟩
    · obtain rfl : m = 258 := by omega
      have h1i : ¬ (258 : Int) < 258 := by omega
      have HS2 : Hid (comP bs i k = 258) := (show _ = _ by rw [← HC.out]; rfl)
      clear HS
      go_wp2_with fail
      go_quiet (fail)
      go_wp2_with fail
      go_ret
      exact ⟨by rw [HS2.out]; rfl, (HWN _).out⟩
end Go.Proofs.YteoolehdomjkkaaGreat

/- lz: a map of places by three bytes. -/
namespace Go.Proofs.YteoolehdomjkkaaGreat
set_option linter.all false
open Go.RowKit Go.Maps Go.WideElems Go.WideShapes

abbrev MD3 := DataW Value
/-- Three bytes as a value. -/
def triV (t : UInt8 × UInt8 × UInt8) : Value := .agg #[.int .u8 (t.1.toNat : Int), .int .u8 (t.2.1.toNat : Int), .int .u8 (t.2.2.toNat : Int)]
theorem triV_inj {s t : UInt8 × UInt8 × UInt8} (h : triV s = triV t) : s = t := by
  obtain ⟨a, b, c⟩ := s
  obtain ⟨d, e, f⟩ := t
  simp only [triV, Value.agg.injEq, Array.mk.injEq, List.cons.injEq, Value.int.injEq, and_true, true_and, Int.natCast_inj, UInt8.toNat_inj] at h
  obtain ⟨h1, h2, h3⟩ := h
  subst h1 h2 h3
  rfl
/-- An element reads as itself. -/
def held3 (v : Value) : Option (MD3 × List MemPlace) := some (.held v, [])
theorem keyed3 : Keyed Tryz.prog 183 := Keyed.of_law (deep_law_gate (by kernel_rfl) (of_decide_eq_true (by kernel_rfl)) (of_decide_eq_true (by kernel_rfl)) (by kernel_rfl) (by kernel_rfl))
theorem zeroI0 (w : World) : (zeroValue 3).run Tryz.prog w = .ok (.int .i64 0) w := by kernel_rfl
theorem key3_gen {P : Program} {k e : TypeId} {n : Nat} (hu : P.underlying k = some (.array 3 e)) (he : P.underlying e = some (.int .u8)) (hk : P.keyType k = true) (hc : P.cellsOf k = 3) (hc1 : P.cellsOf e = 1) (hs : P.types.size = n + 1) (a b c : UInt8) :
    ∃ l, keyOf P k (.agg #[.int .u8 (a.toNat : Int), .int .u8 (b.toNat : Int), .int .u8 (c.toNat : Int)]) = some l := by
  have hf : Value.formed P k (.agg #[.int .u8 (a.toNat : Int), .int .u8 (b.toNat : Int), .int .u8 (c.toNat : Int)]) = true := by simp [Value.formed, hu, hc]
  have hw : ∀ a : UInt8, P.keyLits (n + 1) e [.int .u8 (a.toNat : Int)] = some [.int .u8 (a.toNat : Int)] := fun a => by
    have h1 := a.toNat_lt
    have h2 : (Lit.int .u8 (a.toNat : Int)).wf = true := by
      simp [Lit.wf, IntKind.min, IntKind.max, IntKind.bits, IntKind.signed]; omega
    rw [Program.keyLits.eq_def]
    simp [he, h2]
  have hL : P.keyLits (P.types.size + 1) k [.int .u8 (a.toNat : Int), .int .u8 (b.toNat : Int), .int .u8 (c.toNat : Int)] = some [.int .u8 (a.toNat : Int), .int .u8 (b.toNat : Int), .int .u8 (c.toNat : Int)] := by
    rw [hs]
    rw [Program.keyLits.eq_def]
    simp [hu, hc, hc1, List.range, List.range.loop, hw]
  have hL2 : keyOf P k (.agg #[.int .u8 (a.toNat : Int), .int .u8 (b.toNat : Int), .int .u8 (c.toNat : Int)]) = (P.keyLits (P.types.size + 1) k [.int .u8 (a.toNat : Int), .int .u8 (b.toNat : Int), .int .u8 (c.toNat : Int)]).map fun ls => .string (keyBytes ls) := by
    unfold keyOf
    rw [hu]
    simp only [hk, hf, Bool.and_self, if_true, Value.cells]
  exact ⟨_, by rw [hL2, hL]; rfl⟩
theorem key3_is (t : UInt8 × UInt8 × UInt8) : ∃ l, keyOf Tryz.prog 183 (triV t) = some l :=
  key3_gen (e := 5) (n := Tryz.prog.types.size - 1) (by kernel_rfl) (by kernel_rfl) (by kernel_rfl) (by kernel_rfl) (by kernel_rfl) (by kernel_rfl) t.1 t.2.1 t.2.2
/-- Block b is a map that says f of three bytes. -/
def isM3 (w : World) (b m : Nat) (f : UInt8 × UInt8 × UInt8 → Nat) : Prop :=
  ∃ D : MD3, w.ownsMap Tryz.prog 183 held3 b m D ∧ ∀ t l, keyOf Tryz.prog 183 (triV t) = some l → D.atKey l (.held (.int .i64 0)) = .held (.int .i64 ((f t : Nat) : Int))
theorem isM3.made (w : World) : isM3 (w.alloc (.map #[] 0)) w.heap.size 0 (fun _ => 0) :=
  ⟨_, World.ownsMap_made w Tryz.prog 183 held3, fun t l _ => rfl⟩
theorem isM3.lt {w : World} {b m : Nat} {f : UInt8 × UInt8 × UInt8 → Nat} (h : isM3 w b m f) : b < w.heap.size := by
  obtain ⟨D, h, _⟩ := h
  exact h.lt
theorem isM3.keep {w w' : World} {b m : Nat} {f : UInt8 × UInt8 × UInt8 → Nat} (h : isM3 w b m f) (hb : w'.heap[b]? = w.heap[b]?) : isM3 w' b m f := by
  obtain ⟨D, ⟨es, clock, e, F, hs, hD⟩, h2⟩ := h
  exact ⟨D, ⟨es, clock, hb.trans e, F, hs, hD⟩, h2⟩
set_option maxRecDepth 100000 in
theorem isM3.look {w : World} {b m : Nat} {f : UInt8 × UInt8 × UInt8 → Nat} (h : isM3 w b m f) (t : UInt8 × UInt8 × UInt8) :
    (Instr.lookup 117 (.map (some b)) (triV t) false).run Tryz.prog w = .ok (.int .i64 ((f t : Nat) : Int)) w := by
  obtain ⟨D, hD, h1⟩ := h
  obtain ⟨l, hl⟩ := key3_is t
  obtain ⟨v, ps, hrun, hv⟩ := hD.lookup keyed3 Tryz.underlying117 (zeroI0 w) (zd := .held (.int .i64 0)) (zp := []) rfl hl
  have e0 : DataW.held v = D.atKey l (.held (.int .i64 0)) := congrArg Prod.fst (Option.some.inj hv)
  rw [h1 t l hl] at e0
  injection e0 with e0
  rw [hrun, e0]
def updT (f : UInt8 × UInt8 × UInt8 → Nat) (t : UInt8 × UInt8 × UInt8) (v : Nat) : UInt8 × UInt8 × UInt8 → Nat := fun s => if t = s then v else f s
set_option maxRecDepth 100000 in
theorem isM3.store {w : World} {b m : Nat} {f : UInt8 × UInt8 × UInt8 → Nat} (h : isM3 w b m f) (hm : m ≤ 1000000) (t : UInt8 × UInt8 × UInt8) (v : Nat) :
    ∃ w', (Instr.mapUpdate 117 (.map (some b)) (triV t) (.int .i64 (v : Int))).run Tryz.prog w = .ok () w' ∧ isM3 w' b (m + 1) (updT f t v) ∧ w.grownBy w' (some b) := by
  obtain ⟨D, hD, h1⟩ := h
  obtain ⟨l, hl⟩ := key3_is t
  obtain ⟨w', hrun, hown, ht⟩ := hD.update keyed3 Tryz.underlying117 (by unfold maxLen; omega) hl (val := .int .i64 (v : Int)) rfl
  refine ⟨w', hrun, ⟨_, hown, fun s l2 hl2 => ?_⟩, ht⟩
  by_cases e : t = s
  · subst e
    rw [hl] at hl2
    injection hl2 with hl2
    subst hl2
    rw [Maps.atKey_put_same hD.isMap (keyed3.key hl)]
    unfold updT
    rw [if_pos rfl]
  · have hne : l2 ≠ l := fun e2 => by
      subst e2
      exact e (triV_inj (keyed3.inj hl hl2))
    rw [Maps.atKey_put_other hne, h1 s l2 hl2]
    unfold updT
    rw [if_neg e]
end Go.Proofs.YteoolehdomjkkaaGreat

/- lz: the places of all three bytes: the next place added. -/
namespace Go.Proofs.YteoolehdomjkkaaGreat
set_option linter.all false
open Go.RowKit

theorem isM3.far {w : World} {b m : Nat} {f : UInt8 × UInt8 × UInt8 → Nat} (h : isM3 w b m f) {p : Addr} (hp : p.block ≠ b) (v : Value) : isM3 (w.setCell p v) b m f := h.keep (Below.heap_setCell _ _ _ _ (fun e => hp e.symm))
theorem isM3.alloc {w : World} {b m : Nat} {f : UInt8 × UInt8 × UInt8 → Nat} (h : isM3 w b m f) (o : Obj) : isM3 (w.alloc o) b m f := h.keep (heap_alloc_old w o h.lt)
theorem isM3.more {w : World} {b m m' : Nat} {f : UInt8 × UInt8 × UInt8 → Nat} (h : isM3 w b m f) (hm : m ≤ m') : isM3 w b m' f := by
  obtain ⟨D, h, h2⟩ := h
  exact ⟨D, h.mono hm, h2⟩
/-- Of a block c the map and the places. -/
structure Ch (w : World) (c m i : Nat) (vp : Value) (bs : List UInt8) : Prop where
  arr : Arr w c [.map (some m), vp]
  map : isM3 w m i (lastP bs i)
  own : ownI w (c + 1) vp (prevL bs i)
  lt : m < c
section
variable {w w' : World} {c m i : Nat} {vp : Value} {bs : List UInt8}
theorem Ch.drewN (h : Ch w c m i vp bs) (q : Nat) : Ch (w.drewN q) c m i vp bs := ⟨h.arr.drewN q, h.map.keep rfl, h.own.drewN q, h.lt⟩
theorem Ch.alloc (h : Ch w c m i vp bs) (o : Obj) : Ch (w.alloc o) c m i vp bs := ⟨h.arr.alloc o, h.map.alloc o, ownI.alloc h.own o, h.lt⟩
end
/-- m[k] as a region's operation. -/
theorem step_look3 {w : World} {ops : Array Oper} {o : Oper} {a : Act} {K : Act → World → Prop} {Q : Exit → Act → World → Prop} {E : Prop} (hgd : o.guard = none) (m x : Operand) (ho : o.op = Op.lookup 117 m x false)
    (b cnt : Nat) (f : UInt8 × UInt8 × UInt8 → Nat) (t : UInt8 × UInt8 × UInt8) (hm : a.eval m = .map (some b)) (hx : a.eval x = triV t) (hM : isM3 w b cnt f)
    (hK : K (a.put o.dst (.int .i64 ((f t : Nat) : Int))) w) :
    if Region.wanted o (yielded ops a.tmps) = true then Oper.wp Tryz.prog o a w K Q else E := by
  have hw : Region.wanted o (yielded ops a.tmps) = true := by simp [Region.wanted, hgd]
  rw [if_pos hw]
  have hrun := hM.look t
  unfold Oper.wp
  simp [execOp, ho, hm, hx, hrun, Result.andThen]
  exact hK
/-- m[k] = v as a region's operation. -/
theorem step_put3 {w : World} {ops : Array Oper} {o : Oper} {a : Act} {K : Act → World → Prop} {Q : Exit → Act → World → Prop} {E : Prop} (hgd : o.guard = none) (m x v : Operand) (ho : o.op = Op.mapUpdate 117 m x v)
    (b cnt j : Nat) (J : Int) (f : UInt8 × UInt8 × UInt8 → Nat) (t : UInt8 × UInt8 × UInt8) (hm : a.eval m = .map (some b)) (hx : a.eval x = triV t) (hJ : J = (j : Int)) (hv : a.eval v = .int .i64 J) (hM : isM3 w b cnt f) (hcnt : cnt ≤ 1000000)
    (hK : ∀ w', isM3 w' b (cnt + 1) (updT f t j) → w.grownBy w' (some b) → K (a.put o.dst undef) w') :
    if Region.wanted o (yielded ops a.tmps) = true then Oper.wp Tryz.prog o a w K Q else E := by
  have hw : Region.wanted o (yielded ops a.tmps) = true := by simp [Region.wanted, hgd]
  rw [if_pos hw]
  subst hJ
  obtain ⟨w', hrun, h2, h3⟩ := hM.store hcnt t j
  unfold Oper.wp
  simp [execOp, ho, hm, hx, hv, hrun, Result.andThen]
  exact hK w' h2 h3
theorem last_past {bs : List UInt8} {i : Nat} (h : bs.length < i + 3) : lastP bs (i + 1) = lastP bs i := by
  funext t
  show (if i + 3 ≤ bs.length ∧ tri bs i = t then i + 1 else lastP bs i t) = _
  rw [if_neg (by omega)]
theorem last_upd {bs : List UInt8} {i : Nat} (h : i + 3 ≤ bs.length) : lastP bs (i + 1) = updT (lastP bs i) (tri bs i) (i + 1) := by
  funext t
  show (if i + 3 ≤ bs.length ∧ tri bs i = t then i + 1 else lastP bs i t) = if tri bs i = t then i + 1 else lastP bs i t
  by_cases e : tri bs i = t
  · rw [if_pos ⟨h, e⟩, if_pos e]
  · rw [if_neg (fun a => e a.2), if_neg e]
set_option maxRecDepth 100000 in
set_option maxHeartbeats 3200000 in
theorem adds_short (B n c0 c m i : Nat) (A : Option Addr) (bs : List UInt8) (vp : Value) (w : World) (h : Ch w c m i vp bs) (hr : RdB w B A n bs) (hB : B ≤ m) (hi : i < n) (hn : n ≤ 40000) (hi3 : n < i + 3) :
    Calls Tryz.prog 103 #[.pointer (some ⟨c, 0, none⟩), .slice A n c0] w fun e w' => e = .returned (.tuple #[]) ∧ ∃ vp', Ch w' c m (i + 1) vp' bs ∧ RFr w w' c m vp vp' := by
  have hf := h.own.form
  rw [prevL_len] at hf
  obtain ⟨Ap, cp, rfl, -, -, -⟩ := hf
  have H := Lib.hid h
  have e0 := h.arr.cell (k := 0) rfl
  have e1 := h.arr.cell (k := 1) rfl
  have f1 := h.arr.frozen 1
  have hcw := h.arr.lt
  have hmw := h.map.lt
  have hmc := h.lt
  have hl := hr.len
  have hi3i : (n : Int) < (i : Int) + 3 := by omega
  have HPV : Hid (prevL bs i ++ [0] = prevL bs (i + 1)) := (show _ = _ by rw [prevL_snoc]; unfold prevP; rw [if_pos (by omega)]; rfl)
  have HLS : Hid (lastP bs (i + 1) = lastP bs i) := (show _ = _ from last_past (by omega))
  have HPL := Lib.hid (prevL_len bs i)
  clear h hr
  go_enter Tryz.func103, Tryz.ntmps103
  go_wp2_with (at_builtin; go_must (refine wpList_appendI rfl (.tmp 20) (.tmp 21) rfl (c + 1) _ (prevL bs i) rfl (ownI.alloc H.out.own _) (w.heap.size + 1) 1 1 (some ⟨w.heap.size, 0, none⟩) [0] rfl (rd_oneI w 0) (by rw [HPL.out]; omega) (by rw [World.size_alloc]; omega) ?_; intro v1 w3 hown hgb hbl hat; rw [HPV.out] at hown; obtain ⟨A3, c3, rfl, hr3, -, -⟩ := hown.form; clear hr3; have HF3 := Lib.hid (show RFr w w3 c m (.slice Ap i cp) (.slice A3 (prevL bs (i + 1)).length c3) from RFr.grown _ hgb hat); have HA3 := Lib.hid (show Arr w3 c [.map (some m), .slice Ap i cp] from (H.out.arr.alloc _).blw hbl (by omega)); have HM3 := Lib.hid (show isM3 w3 m i (lastP bs i) from H.out.map.keep ((hbl.block m (by omega)).trans (heap_alloc_old w _ hmw))); have HO3 := Lib.hid hown; have e31 := HA3.out.cell (k := 1) rfl; have f31 := HA3.out.frozen 1; have hcw3 := HA3.out.lt; clear hown hgb hbl hat))
  (try simp only [Exit.inBlock, Exit.then])
  first | (refine bodyPost_ret (results_none rfl _ _ _) rfl ?_) | (refine bodyPost_end (results_none rfl _ _ _) rfl ?_)
  refine ⟨rfl, _, ⟨HA3.out.set 1 _, ?_, ownI.far HO3.out (ownI.ne HO3.out (by omega)) 1 _, hmc⟩, HF3.out.set1 1 _⟩
  rw [HLS.out]
  exact (HM3.out.far (by show c ≠ m; omega) _).more (Nat.le_succ i)
set_option maxRecDepth 100000 in
set_option maxHeartbeats 3200000 in
theorem adds_full (B n c0 c m i : Nat) (A : Option Addr) (bs : List UInt8) (vp : Value) (w : World) (h : Ch w c m i vp bs) (hr : RdB w B A n bs) (hB : B ≤ m) (hi : i < n) (hn : n ≤ 40000) (hcap : n ≤ c0) (hi3 : i + 3 ≤ n) :
    Calls Tryz.prog 103 #[.pointer (some ⟨c, 0, none⟩), .slice A n c0] w fun e w' => e = .returned (.tuple #[]) ∧ ∃ vp', Ch w' c m (i + 1) vp' bs ∧ RFr w w' c m vp vp' := by
  have hf := h.own.form
  rw [prevL_len] at hf
  obtain ⟨Ap, cp, rfl, -, -, -⟩ := hf
  have H := Lib.hid h
  have e0 := h.arr.cell (k := 0) rfl
  have e1 := h.arr.cell (k := 1) rfl
  have f1 := h.arr.frozen 1
  have hcw := h.arr.lt
  have hmw := h.map.lt
  have hmc := h.lt
  have hl := hr.len
  obtain ⟨b, o, rfl, hb, hcell⟩ := hr.at_ (by omega)
  have k0 := hcell i (by omega)
  have k1 := hcell (i + 1) (by omega)
  have k2 := hcell (i + 2) (by omega)
  rw [← Nat.add_assoc] at k1 k2
  have HT : Hid (tri bs i = (bs[i], bs[i + 1], bs[i + 2])) := (show _ = _ by unfold tri; rw [getD_at (List.getElem?_eq_getElem (by omega)), getD_at (List.getElem?_eq_getElem (by omega)), getD_at (List.getElem?_eq_getElem (by omega))])
  generalize bs[i] = x at *
  generalize bs[i + 1] = y at *
  generalize bs[i + 2] = z at *
  have hi3i : ¬ (n : Int) < (i : Int) + 3 := by omega
  have hi4 : (0 : Int) ≤ (i : Int) + 3 ∧ (i : Int) + 3 ≤ (c0 : Int) := by omega
  have hi5 : ¬ c0 = i := by omega
  have HPV : Hid (prevL bs i ++ [((lastP bs i (x, y, z) : Nat) : Int)] = prevL bs (i + 1)) := (show _ = _ by rw [prevL_snoc]; unfold prevP; rw [if_neg (by omega), HT.out])
  have HLS : Hid (lastP bs (i + 1) = updT (lastP bs i) (x, y, z) (i + 1)) := (show _ = _ by rw [last_upd (by omega), HT.out])
  have HPL := Lib.hid (prevL_len bs i)
  have hat : ∀ (w : World) (a : Option Addr) (l c : Nat), 3 ≤ l → (Instr.arrayAt 183 (.slice a l c)).run Tryz.prog w = .ok (.pointer a) w := fun w a l c hl => run_arrayAt w 183 _ 3 a l c Tryz.underlying183 hl
  clear h hr hcell
  go_enter Tryz.func103, Tryz.ntmps103
  go_upto_region 4 with (simp only [hat])
  generalize hw1 : w.alloc _ = w1
  obtain ⟨k5, hk5⟩ : ∃ b, w.heap.size = b := ⟨_, rfl⟩
  simp only [hk5]
  have HCH : Hid (Ch w1 c m i (.slice Ap i cp) bs) := (show Ch _ _ _ _ _ _ by rw [← hw1]; exact H.out.alloc _)
  have HK : Hid (Arr w1 k5 [.int .u8 (x.toNat : Int), .int .u8 (y.toNat : Int), .int .u8 (z.toNat : Int)]) := (show Arr _ _ _ by rw [← hw1, ← hk5]; exact Arr.new w [.int .u8 (x.toNat : Int), .int .u8 (y.toNat : Int), .int .u8 (z.toNat : Int)] _)
  have HFW : Hid (RFr w w1 c m (.slice Ap i cp) (.slice Ap i cp)) := (show RFr _ _ _ _ _ _ by rw [← hw1]; exact RFr.ofB ((Below.refl w.heap.size w).alloc (Nat.le_refl _) _) _ _ _)
  have hsz1 : w1.heap.size = k5 + 1 := by rw [← hw1, World.size_alloc, hk5]
  have hck : c < k5 := by omega
  have HPB : Hid (∀ q, (Value.slice Ap i cp).ownBlock = some q → q < k5) := (show ∀ q, _ from fun q hq => by have := (World.ownsRow.lt H.out.own q hq).2; omega)
  clear hw1 e0 e1 f1 k0 k1 k2 hat hk5 H
  have e0 := HCH.out.arr.cell (k := 0) rfl
  have e1 := HCH.out.arr.cell (k := 1) rfl
  have k0 := HK.out.cell (k := 0) rfl
  have k1 := HK.out.cell (k := 1) rfl
  have k2 := HK.out.cell (k := 2) rfl
  have HMD : Hid (isM3 w1.drew m i (lastP bs i)) := (show isM3 _ _ _ _ from HCH.out.map)
  have hq1 : (prevL bs i).length + 1 ≤ 1099511627776 := by rw [HPL.out]; omega
  have hckN : ¬ c = k5 := by omega
  have hc1 : c < w1.heap.size := by omega
  have hc1N : ¬ c = w1.heap.size := by omega
  have hk1 : k5 < w1.heap.size := by omega
  have hk1N : ¬ k5 = w1.heap.size := by omega
  generalize hL : lastP bs i (x, y, z) = L at *
  have hrun : (Instr.lookup 117 (.map (some m)) (.agg #[.int .u8 (x.toNat : Int), .int .u8 (y.toNat : Int), .int .u8 (z.toNat : Int)]) false).run Tryz.prog w1.drew = .ok (.int .i64 (L : Int)) w1.drew := by rw [← hL]; exact HMD.out.look (x, y, z)
  clear hL
  have HOD : Hid (ownI (w1.alloc (.cells #[Value.int .i64 (L : Int)] 3)).drew (c + 1) (.slice Ap i cp) (prevL bs i)) := (show ownI _ _ _ _ from HCH.out.own.alloc _)
  have HRD : Hid (RdI (w1.alloc (.cells #[Value.int .i64 (L : Int)] 3)).drew (k5 + 1 + 1) (some ⟨k5 + 1, 0, none⟩) 1 [(L : Int)]) := (show RdI _ _ _ _ _ by have := rd_oneI w1 (L : Int); rw [hsz1] at this; exact this)
  have HAD : Hid (Arr (w1.alloc (.cells #[Value.int .i64 (L : Int)] 3)).drew c [.map (some m), .slice Ap i cp]) := (show Arr _ _ _ from HCH.out.arr.alloc _)
  have HND : Hid (isM3 (w1.alloc (.cells #[Value.int .i64 (L : Int)] 3)).drew m i (lastP bs i)) := (show isM3 _ _ _ _ from HCH.out.map.alloc _)
  have HKD : Hid (Arr (w1.alloc (.cells #[Value.int .i64 (L : Int)] 3)).drew k5 [.int .u8 (x.toNat : Int), .int .u8 (y.toNat : Int), .int .u8 (z.toNat : Int)]) := (show Arr _ _ _ from HK.out.alloc _)
  have hq2 : c + 1 ≤ (w1.alloc (.cells #[Value.int .i64 (L : Int)] 3)).drew.heap.size := by show c + 1 ≤ (w1.alloc _).heap.size; rw [World.size_alloc]; omega
  have hq3 : k5 < (w1.alloc (.cells #[Value.int .i64 (L : Int)] 3)).drew.heap.size := by show k5 < (w1.alloc _).heap.size; rw [World.size_alloc]; omega
  have hq4 : (Value.slice Ap i cp).ownBlock ≠ some k5 := fun e => absurd (HPB.out _ e) (Nat.lt_irrefl _)
  have HGR : Hid (∀ (w3 : World) (v : Value), (w1.alloc (.cells #[Value.int .i64 (L : Int)] 3)).drew.grownBy w3 (Value.slice Ap i cp).ownBlock → (v.ownBlock = (Value.slice Ap i cp).ownBlock ∨ v.ownBlock = some (w1.alloc (.cells #[Value.int .i64 (L : Int)] 3)).drew.heap.size) → RFr w w3 c m (.slice Ap i cp) v) := (show ∀ w3 v, _ from fun w3 v hg ha => RFr.trans HFW.out (by
    have h := RFr.grown (r := c) (g := m) (w := w1.drew) (.cells #[Value.int .i64 (L : Int)] 3) hg ha
    exact ⟨h.os, h.tape, h.output, h.size, h.block, h.own⟩))
  go_cut [5] (fun v wc => v = .pointer (some ⟨k5, 0, none⟩) ∧ ∃ vp', Hid (Arr wc k5 [.int .u8 (x.toNat : Int), .int .u8 (y.toNat : Int), .int .u8 (z.toNat : Int)]) ∧ Hid (Arr wc c [.map (some m), vp']) ∧ Hid (isM3 wc m i (lastP bs i)) ∧ Hid (ownI wc (c + 1) vp' (prevL bs (i + 1))) ∧ Hid (RFr w wc c m (.slice Ap i cp) vp'))
  case first =>
    go_region_law (first
      | (refine step_appendI rfl (.tmp 36) (.tmp 43) rfl (c + 1) _ (prevL bs i) rfl HOD.out (k5 + 1 + 1) 1 1 (some ⟨k5 + 1, 0, none⟩) [(L : Int)] rfl HRD.out hq1 hq2 ?_; intro v1 w3 hown hgb hbl hat; rw [HPV.out] at hown; obtain ⟨A3, c3, rfl, hr3, -, -⟩ := hown.form; clear hr3; have HF3 := Lib.hid (HGR.out w3 _ hgb hat); have HA3 := Lib.hid (HAD.out.blw hbl (Nat.lt_succ_self c)); have HM3 := Lib.hid (HND.out.keep (hbl.block m (Nat.lt_succ_of_lt hmc))); have HK3 := Lib.hid (show Arr w3 k5 [.int .u8 (x.toNat : Int), .int .u8 (y.toNat : Int), .int .u8 (z.toNat : Int)] from by obtain ⟨ty, hty⟩ := HKD.out; exact ⟨ty, (hgb.block k5 hq3 (fun e => hq4 e.symm)).trans hty⟩); have HO3 := Lib.hid hown; have e31 := HA3.out.cell (k := 1) rfl; have f31 := HA3.out.frozen 1; have hcw3 := HA3.out.lt; clear hown hgb hbl hat))
    all_goals
      go_wp2_with fail
      go_meet
      case rel => exact ⟨rfl, _, HK3.out.far (p := ⟨c, 1, none⟩) hckN _, HA3.out.set 1 _, HM3.out.far (p := ⟨c, 1, none⟩) (fun e => by have : c = m := e; omega) _, ownI.far HO3.out (ownI.ne HO3.out (Nat.lt_succ_self c)) 1 _, HF3.out.set1 1 _⟩
  case rest =>
    obtain ⟨rfl, vp', HKC, HAC, HMC, HOC, HFC⟩ := hcut
    clear hrun HOD HRD HAD HND HKD hq2 hq3 hq4 HGR HMD HCH HK HFW e0 e1 k0 k1 k2 hq1
    have e0 := HAC.out.cell (k := 0) rfl
    have k0 := HKC.out.cell (k := 0) rfl
    have k1 := HKC.out.cell (k := 1) rfl
    have k2 := HKC.out.cell (k := 2) rfl
    have HMD : Hid (isM3 wc.drew m i (lastP bs i)) := (show isM3 _ _ _ _ from HMC.out)
    have hq1 : i ≤ 1000000 := by omega
    have hq2 : IntKind.i64.wrap ((i : Int) + 1) = (i : Int) + 1 := (by have := wrap_i64_lt (i + 1) (by omega); simpa using this)
    obtain ⟨w8, hrun0, hm8, hg8⟩ := HMD.out.store hq1 (x, y, z) (i + 1)
    have hrun : (Instr.mapUpdate 117 (.map (some m)) (.agg #[.int .u8 (x.toNat : Int), .int .u8 (y.toNat : Int), .int .u8 (z.toNat : Int)]) (.int .i64 ((i : Int) + 1))).run Tryz.prog wc.drew = .ok () w8 := hrun0
    have HM8 := Lib.hid hm8
    have HG8 : Hid (wc.grownBy w8 (some m)) := (show World.grownBy _ _ _ from ⟨hg8.os, hg8.tape, hg8.output, hg8.size, hg8.block⟩)
    clear hrun0 hm8 hg8
    go_upto_region 5 with fail
    go_region_law (fail)
    all_goals
      go_wp2_with fail
      (try simp only [Exit.inBlock, Exit.then])
      first | (refine bodyPost_ret (results_none rfl _ _ _) rfl ?_) | (refine bodyPost_end (results_none rfl _ _ _) rfl ?_)
      have hm8 := HM8.out
      have hg8 := HG8.out
      rw [← HLS.out] at hm8
      refine ⟨rfl, vp', ⟨HAC.out.gro hg8 (by omega), hm8, World.ownsRow.kept HOC.out hg8 ?_, hmc⟩, RFr.trans HFC.out (RFr.ofG hg8 c vp')⟩
      have := ownI.ne HOC.out (show m < c + 1 by omega)
      exact .inr this
theorem adds_any (B n c0 c m i : Nat) (A : Option Addr) (bs : List UInt8) (vp : Value) (w : World) (h : Ch w c m i vp bs) (hr : RdB w B A n bs) (hB : B ≤ m) (hi : i < n) (hn : n ≤ 40000) (hcap : n ≤ c0) :
    Calls Tryz.prog 103 #[.pointer (some ⟨c, 0, none⟩), .slice A n c0] w fun e w' => e = .returned (.tuple #[]) ∧ ∃ vp', Ch w' c m (i + 1) vp' bs ∧ RFr w w' c m vp vp' := by
  by_cases h3 : i + 3 ≤ n
  · exact adds_full B n c0 c m i A bs vp w h hr hB hi hn hcap h3
  · exact adds_short B n c0 c m i A bs vp w h hr hB hi hn (by omega)
end Go.Proofs.YteoolehdomjkkaaGreat
