/- Merged: RowK, Stab, Mem. -/
import Derived.Test.YtfafijhmjnkjeaaMa01
/- Rows of lz.Token: 3 cells an element. -/
namespace Go.Proofs.Ytfafijhmjnkjeaa
set_option linter.all false
open Go.RowKit

def eK (x : (Nat × Nat × Nat)) : List Value := [Value.int .i64 (x.1 : Int), Value.int .i64 (x.2.1 : Int), Value.int .i64 (x.2.2 : Int)]
theorem eK_len (x : (Nat × Nat × Nat)) : (eK x).length = 3 := rfl
/-- The cells of a list. -/
def cK (l : List (Nat × Nat × Nat)) : List Value := l.flatMap eK
theorem cK_length : ∀ l : List (Nat × Nat × Nat), (cK l).length = l.length * 3
  | [] => rfl
  | x :: l => by
    have := cK_length l
    unfold cK at this ⊢
    rw [List.flatMap_cons, List.length_append, this, eK_len, List.length_cons]
    omega
theorem cK_append (a b : List (Nat × Nat × Nat)) : cK (a ++ b) = cK a ++ cK b := by simp [cK]
theorem cK_single (x : (Nat × Nat × Nat)) : cK [x] = eK x := by simp [cK]
theorem cK_get : ∀ (l : List (Nat × Nat × Nat)) (k j : Nat) (hk : k < l.length), j < 3 → (cK l)[k * 3 + j]? = (eK l[k])[j]?
  | x :: l, 0, j, _, hj => by
    unfold cK
    rw [List.flatMap_cons, List.getElem?_append_left (by rw [eK_len]; omega)]
    simp
  | x :: l, i + 1, j, hi, hj => by
    have := cK_get l i j (by simpa using hi) hj
    unfold cK at this ⊢
    rw [List.flatMap_cons, List.getElem?_append_right (by rw [eK_len]; omega), eK_len, List.getElem_cons_succ, ← this]
    congr 1
    omega
theorem cK_one (l : List (Nat × Nat × Nat)) : ∀ u ∈ cK l, u.oneCell' = true := by
  intro u hu
  simp only [cK, List.mem_flatMap] at hu
  obtain ⟨x, _, hx⟩ := hu
  simp only [eK, List.mem_cons, List.not_mem_nil, or_false] at hx
  rcases hx with rfl | rfl | rfl <;> rfl
theorem cK_set (l : List (Nat × Nat × Nat)) (k : Nat) (x : (Nat × Nat × Nat)) (hk : k < l.length) : cK (l.set k x) = (((cK l).set (k * 3) (Value.int .i64 (x.1 : Int))).set (k * 3 + 1) (Value.int .i64 (x.2.1 : Int))).set (k * 3 + 2) (Value.int .i64 (x.2.2 : Int)) := by
  have e1 : l = l.take k ++ l[k] :: l.drop (k + 1) := by rw [← List.drop_eq_getElem_cons hk, List.take_append_drop]
  have e2 : l.set k x = l.take k ++ x :: l.drop (k + 1) := by rw [List.set_eq_take_append_cons_drop, if_pos hk]
  rw [e2]
  have hl : (cK (l.take k)).length = k * 3 := by rw [cK_length, List.length_take, Nat.min_eq_left (by omega)]
  have e3 : cK l = cK (l.take k) ++ (eK l[k] ++ cK (l.drop (k + 1))) := by
    conv => lhs; rw [e1]
    rw [cK_append]
    simp only [cK, List.flatMap_cons]
  have e4 : cK (l.take k ++ x :: l.drop (k + 1)) = cK (l.take k) ++ (eK x ++ cK (l.drop (k + 1))) := by
    rw [cK_append]
    simp only [cK, List.flatMap_cons]
  rw [e3, e4]
  generalize cK (l.take k) = P at *
  rw [← hl]
  simp [eK, List.set_append]
theorem Try.info_K : (Try.prog.info? 121).map (fun i => (i.zero, i.size, i.bytes)) = some (some (.agg #[.int .i64 0, .int .i64 0, .int .i64 0]), 3, 24) := by kernel_rfl
def ownK (w : World) (base : Nat) (v : Value) (l : List (Nat × Nat × Nat)) : Prop := w.ownsRow base 121 3 v l.length (cK l)
def RdK (w : World) (B : Nat) (A : Option Addr) (n : Nat) (l : List (Nat × Nat × Nat)) : Prop := Rd w B 3 A n (cK l)
theorem RdK.len {w : World} {B n : Nat} {A : Option Addr} {l : List (Nat × Nat × Nat)} (h : RdK w B A n l) : l.length = n := by
  have := h.1; rw [cK_length] at this; omega
theorem RdK.one {w : World} {B n : Nat} {A : Option Addr} {l : List (Nat × Nat × Nat)} (h : RdK w B A n l) {k : Nat} (hk : k < n) :
    ∃ b o x, A = some ⟨b, o, none⟩ ∧ b < B ∧ Hid (l[k]? = some x) ∧ w.cell? ⟨b, o + k * 3, none⟩ = some (Value.int .i64 (x.1 : Int)) ∧ w.cell? ⟨b, o + k * 3 + 1, none⟩ = some (Value.int .i64 (x.2.1 : Int)) ∧ w.cell? ⟨b, o + k * 3 + 2, none⟩ = some (Value.int .i64 (x.2.2 : Int)) := by
  obtain ⟨b, o, e, hb, hc⟩ := h.2 (by omega)
  have hl := h.len
  have hk' : k < l.length := by omega
  refine ⟨b, o, l[k], e, hb, List.getElem?_eq_getElem hk', ?_, ?_, ?_⟩
  · exact hc (k * 3) _ ((cK_get l k 0 hk' (by omega)).trans rfl)
  · exact hc (k * 3 + 1) _ ((cK_get l k 1 hk' (by omega)).trans rfl)
  · exact hc (k * 3 + 2) _ ((cK_get l k 2 hk' (by omega)).trans rfl)
theorem RdK.blw {w w' : World} {B n : Nat} {A : Option Addr} {l : List (Nat × Nat × Nat)} (h : RdK w B A n l) (hb : Below B w w') : RdK w' B A n l := Rd.below h hb
theorem RdK.more {w : World} {B B' n : Nat} {A : Option Addr} {l : List (Nat × Nat × Nat)} (h : RdK w B A n l) (hB : B ≤ B') : RdK w B' A n l := Rd.more h hB
theorem RdK.here {w : World} {B n : Nat} {A : Option Addr} {l : List (Nat × Nat × Nat)} (h : RdK w B A n l) : RdK w w.heap.size A n l :=
  ⟨h.1, fun hn => by
    obtain ⟨b, o, e, hb, hc⟩ := h.2 hn
    have hl := h.1
    exact ⟨b, o, e, block_lt_of_cell (a := ⟨b, o + 0, none⟩) (hc 0 (cK l)[0] (List.getElem?_eq_getElem (by omega))), hc⟩⟩
theorem RdK.later {w w' : World} {n : Nat} {A : Option Addr} {l : List (Nat × Nat × Nat)} (h : RdK w w.heap.size A n l) (hb : Below w.heap.size w w') : RdK w' w'.heap.size A n l := RdK.here (RdK.blw h hb)
theorem RdK.alloc {w : World} {B n : Nat} {A : Option Addr} {l : List (Nat × Nat × Nat)} (h : RdK w B A n l) (hB : B ≤ w.heap.size) (o : Obj) : RdK (w.alloc o) B A n l := Rd.alloc h hB o
theorem RdK.nil_ {w : World} {B : Nat} {A : Option Addr} : RdK w B A 0 [] := ⟨by simp [cK], fun h => absurd h (by omega)⟩
theorem RdK.cut {w : World} {B n : Nat} {A : Option Addr} {l : List (Nat × Nat × Nat)} (h : RdK w B A n l) {k m : Nat} (hk : k + m ≤ n) {A' : Option Addr} (hA : 0 < m → A' = A.map (·.add (k * 3))) :
    RdK w B A' m ((l.drop k).take m) := by
  have := Rd.cut h hk (A' := A') hA
  unfold RdK
  have e1 : ∀ (q : Nat) (l : List (Nat × Nat × Nat)), cK (l.take q) = (cK l).take (q * 3) := fun q l => by
    rcases Nat.lt_or_ge q l.length with hq | hq
    · conv => rhs; rw [← List.take_append_drop q l, cK_append]
      rw [List.take_left' (by rw [cK_length, List.length_take, Nat.min_eq_left (by omega)])]
    · rw [List.take_of_length_le hq, List.take_of_length_le (by rw [cK_length]; exact Nat.mul_le_mul_right _ hq)]
  have e2 : ∀ (q : Nat) (l : List (Nat × Nat × Nat)), cK (l.drop q) = (cK l).drop (q * 3) := fun q l => by
    rcases Nat.lt_or_ge q l.length with hq | hq
    · conv => rhs; rw [← List.take_append_drop q l, cK_append]
      rw [List.drop_left' (by rw [cK_length, List.length_take, Nat.min_eq_left (by omega)])]
    · rw [List.drop_eq_nil_of_le hq, List.drop_eq_nil_of_le (by rw [cK_length]; exact Nat.mul_le_mul_right _ hq)]
      rfl
  rw [e1, e2]
  exact this
theorem ownK.nil_ (w : World) (base : Nat) : ownK w base (.slice none 0 0) [] := World.ownsRow_nil _ _ _ _
theorem ownK.mono {w : World} {base base' : Nat} {v : Value} {l : List (Nat × Nat × Nat)} (h : ownK w base v l) (hb : base' ≤ base) : ownK w base' v l := by
  refine ⟨h.1, ?_⟩
  rcases h.2 with hn | ⟨g, cap, cur, rfl, hbg, rest⟩
  · exact .inl hn
  · exact .inr ⟨g, cap, cur, rfl, by omega, rest⟩
theorem ownK.later {w w' : World} {base : Nat} {v : Value} {l : List (Nat × Nat × Nat)} (h : ownK w base v l) (hb : Below w.heap.size w w') : ownK w' base v l :=
  Below.ownsRow h hb (fun g hg => (World.ownsRow.lt h g hg).2)
theorem ownK.laterD {w w' : World} {base : Nat} {v : Value} {l : List (Nat × Nat × Nat)} (h : ownK w base v l) (hb : Below w.drew.heap.size w.drew w') : ownK w' base v l := ownK.later (w := w.drew) h hb
theorem ownK.alloc {w : World} {base : Nat} {v : Value} {l : List (Nat × Nat × Nat)} (h : ownK w base v l) (o : Obj) : ownK (w.alloc o) base v l := World.ownsRow.alloc h o
theorem ownK.drew {w : World} {base : Nat} {v : Value} {l : List (Nat × Nat × Nat)} (h : ownK w base v l) : ownK w.drew base v l := h
theorem ownK.drewN {w : World} {base : Nat} {v : Value} {l : List (Nat × Nat × Nat)} (h : ownK w base v l) (n : Nat) : ownK (w.drewN n) base v l := h
theorem ownK.form {w : World} {base : Nat} {v : Value} {l : List (Nat × Nat × Nat)} (h : ownK w base v l) :
    ∃ A c, v = .slice A l.length c ∧ RdK w w.heap.size A l.length l ∧ l.length ≤ c ∧ c ≤ maxLen := by
  rcases h.2 with ⟨rfl, h0⟩ | ⟨g, cap, cur, rfl, _, _, h1, h2, _⟩
  · have : l = [] := List.eq_nil_of_length_eq_zero h0
    subst this
    exact ⟨none, 0, rfl, Rd.none_, by simp, by simp⟩
  · exact ⟨_, _, rfl, Rd.of_own h, h1, h2⟩
theorem ownK.kept {w w' : World} {base : Nat} {v : Value} {l : List (Nat × Nat × Nat)} {row : Option Nat} (h : ownK w base v l) (hg : w.grownBy w' row) (hne : v.ownBlock = none ∨ v.ownBlock ≠ row) : ownK w' base v l :=
  World.ownsRow.kept h hg hne
theorem ownK.far {w : World} {base g : Nat} {v : Value} {l : List (Nat × Nat × Nat)} (h : ownK w base v l) (hg : v.ownBlock ≠ some g) (o : Nat) (u : Value) :
    ownK (w.setCell ⟨g, o, none⟩ u) base v l := by
  refine ⟨h.1, ?_⟩
  rcases h.2 with hn | ⟨g', cap, cur, rfl, hb, hgg, rest⟩
  · exact .inl hn
  · refine .inr ⟨g', cap, cur, rfl, hb, ?_, rest⟩
    rw [Below.heap_setCell _ _ _ _ (by intro e; apply hg; simp [Value.ownBlock]; exact e)]
    exact hgg
theorem ownK.ne {w : World} {base g : Nat} {v : Value} {l : List (Nat × Nat × Nat)} (h : ownK w base v l) (hg : g < base) : v.ownBlock ≠ some g := by
  intro e
  have := (World.ownsRow.lt h g e).1
  omega
theorem ownK.pos {w : World} {base n c : Nat} {A : Option Addr} {l : List (Nat × Nat × Nat)} (h : ownK w base (.slice A n c) l) (hn : 0 < n) : n = l.length ∧ ∃ g, A = some ⟨g, 0, none⟩ ∧ base ≤ g ∧ g < w.heap.size := by
  rcases h.2 with ⟨h', _⟩ | ⟨g, cap, cur, h', hb, hg, _⟩
  · injection h' with _ h2; omega
  · injection h' with h1 h2
    exact ⟨h2, g, h1, hb, (World.ownsRow.lt h g (by rw [h1]; rfl)).2⟩
theorem ownK.cell {w : World} {base g n c : Nat} {l : List (Nat × Nat × Nat)} (h : ownK w base (.slice (some ⟨g, 0, none⟩) n c) l) (hn : n = l.length) {k : Nat} (hk : k < l.length) :
    w.cell? ⟨g, k * 3, none⟩ = some ((fun x : (Nat × Nat × Nat) => Value.int .i64 (x.1 : Int)) l[k]) ∧ w.cell? ⟨g, k * 3 + 1, none⟩ = some ((fun x : (Nat × Nat × Nat) => Value.int .i64 (x.2.1 : Int)) l[k]) ∧ w.cell? ⟨g, k * 3 + 2, none⟩ = some ((fun x : (Nat × Nat × Nat) => Value.int .i64 (x.2.2 : Int)) l[k]) := by
  subst hn
  refine ⟨?_, ?_, ?_⟩
  · exact (World.ownsRow.cellAt h (k * 3) (by have := hk; omega)).trans ((cK_get l k 0 hk (by omega)).trans rfl)
  · exact (World.ownsRow.cellAt h (k * 3 + 1) (by have := hk; omega)).trans ((cK_get l k 1 hk (by omega)).trans rfl)
  · exact (World.ownsRow.cellAt h (k * 3 + 2) (by have := hk; omega)).trans ((cK_get l k 2 hk (by omega)).trans rfl)
theorem ownK.frozen {w : World} {base g n c : Nat} {l : List (Nat × Nat × Nat)} (h : ownK w base (.slice (some ⟨g, 0, none⟩) n c) l) (hn : n = l.length) (k : Nat) :
    w.frozen? ⟨g, k, none⟩ = false := by
  subst hn
  exact World.ownsRow.frozenAt h k
theorem ownK.store {w : World} {base g n c : Nat} {l : List (Nat × Nat × Nat)} (h : ownK w base (.slice (some ⟨g, 0, none⟩) n c) l) (hn : n = l.length) (k : Nat) (x : (Nat × Nat × Nat)) (hk : k < l.length) :
    ownK (((w.setCell ⟨g, k * 3, none⟩ (Value.int .i64 (x.1 : Int))).setCell ⟨g, k * 3 + 1, none⟩ (Value.int .i64 (x.2.1 : Int))).setCell ⟨g, k * 3 + 2, none⟩ (Value.int .i64 (x.2.2 : Int))) base (.slice (some ⟨g, 0, none⟩) n c) (l.set k x) := by
  subst hn
  have h0 : w.ownsRow base 121 3 (.slice (some ⟨g, 0, none⟩) l.length c) l.length (cK l) := h
  have h1 := (World.ownsRow.stored h0 (k * 3) (Value.int .i64 (x.1 : Int))).1
  have h2 := (World.ownsRow.stored h1 (k * 3 + 1) (Value.int .i64 (x.2.1 : Int))).1
  have h3 := (World.ownsRow.stored h2 (k * 3 + 2) (Value.int .i64 (x.2.2 : Int))).1
  unfold ownK
  rw [List.length_set, cK_set l k x hk]
  exact h3
theorem ownK.rd {w : World} {base n c : Nat} {A : Option Addr} {l : List (Nat × Nat × Nat)} (h : ownK w base (.slice A n c) l) : RdK w w.heap.size A n l := by
  obtain ⟨A4, c4, e5, hd4, _, _⟩ := h.form
  injection e5 with e1 e2 e3
  rw [e1, e2]
  exact hd4
/-- make of n zeros, in a new block. -/
theorem wpList_makeK {w : World} {ops : Array Oper} {rest : List Oper} {o : Oper} {a : Act} {Q : Exit → Act → World → Prop}
    (hg : o.guard = none) (l c : Operand) (hop : o.op = Op.makeSlice 82 l c) (n : Nat) (L : Int) (hl : a.eval l = .int .i64 L) (hc : a.eval c = .int .i64 L)
    (hL : L = (n : Int)) (hn : n ≤ 1099511627776)
    (hK : ∀ w', ownK w' w.heap.size (.slice (some ⟨w.heap.size, 0, none⟩) n n) (List.replicate n ((0, 0, 0) : Nat × Nat × Nat)) → Below w.heap.size w w' → w.heap.size < w'.heap.size →
      wpList Try.prog ops Q rest (a.put o.dst (.slice (some ⟨w.heap.size, 0, none⟩) n n)) w') :
    wpList Try.prog ops Q (o :: rest) a w := by
  obtain ⟨i0, hi, hz0, hz1, hz2⟩ := info_parts Try.info_K
  refine wpList_make_full w hg l c 82 hop w.heap.size 121 i0 _ 3 Try.underlying82 hi hz0 hz1 _ _ _ _ n hl hc hL hL (by rw [hz2]; omega) (by unfold maxLen; omega) (Nat.le_refl _) ?_
  intro w' h1 h2
  have h3 : ownK w' w.heap.size (.slice (some ⟨w.heap.size, 0, none⟩) n n) (List.replicate n ((0, 0, 0) : Nat × Nat × Nat)) := by
    unfold ownK
    have e1 : (madeCells (.agg #[.int .i64 0, .int .i64 0, .int .i64 0] : Value).cells (n * 3)).toList = cK (List.replicate n ((0, 0, 0) : Nat × Nat × Nat)) := by
      apply List.ext_getElem?
      intro j
      by_cases hj : j < n * 3
      · have hq : j / 3 < n := by omega
        have ej : j = j / 3 * 3 + j % 3 := by omega
        have hg := cK_get (List.replicate n ((0, 0, 0) : Nat × Nat × Nat)) (j / 3) (j % 3) (by simpa using hq) (by omega)
        rw [← ej] at hg
        rw [hg, List.getElem_replicate]
        have hm : j % 3 < 3 := by omega
        rw [Array.getElem?_toList]
        rw [madeCells, Array.getElem?_map, Array.getElem?_range, if_pos hj]
        show some ((#[.int .i64 0, .int .i64 0, .int .i64 0] : Array Value)[j % 3]!) = _
        match j % 3, hm with
        | 0, _ => rfl
        | 1, _ => rfl
        | 2, _ => rfl
      · rw [List.getElem?_eq_none (by simp [madeCells]; omega), List.getElem?_eq_none (by rw [cK_length]; simp; omega)]
    rw [e1] at h1
    rw [List.length_replicate]
    exact h1
  exact hK w' h3 ((Below.refl _ _).grown h2 (Nat.le_refl _) (by simp)) (World.ownsRow.lt h3 _ rfl).2
/-- One element that lies in a block, whole. -/
theorem rd_oneK (w : World) (x : (Nat × Nat × Nat)) (t : TypeId) (fr : Nat × Nat) : RdK (w.alloc (.cells (eK x).toArray t fr)) (w.heap.size + 1) (some ⟨w.heap.size, 0, none⟩) 1 [x] := by
  refine ⟨by rw [cK_length]; rfl, fun _ => ⟨_, _, rfl, by omega, fun j u hu => ?_⟩⟩
  rw [Nat.zero_add]
  have := cell_of_row (w.alloc (.cells (eK x).toArray t fr)) w.heap.size j (eK x).toArray t fr (heap_alloc_new w _)
  rw [this]
  rw [cK_single] at hu
  simpa using hu

set_option maxRecDepth 100000 in
theorem run_appendK (w : World) (base : Nat) (t2 : TypeId) (v : Value) (l : List (Nat × Nat × Nat)) (hown : ownK w base v l) (B m c : Nat) (A : Option Addr) (news : List (Nat × Nat × Nat)) (hr : RdK w B A m news)
    (hb : l.length + m ≤ 1099511627776) (hbase : base ≤ w.heap.size) :
    ∃ v' w', (Builtin.append_ #[82, 82] t2 #[v, .slice A m c]).run Try.prog w = .ok v' w' ∧ ownK w' base v' (l ++ news) ∧ w.grownBy w' v.ownBlock ∧
      (v'.ownBlock = v.ownBlock ∨ v'.ownBlock = some w.heap.size) ∧ (v' = .slice none 0 0 ↔ v = .slice none 0 0 ∧ m = 0) := by
  obtain ⟨i0, hi, hz0, hz1, hz2⟩ := info_parts Try.info_K
  have hl := hr.len
  subst hl
  unfold ownK
  rw [List.length_append, cK_append]
  rcases A with _ | ad
  · have hn : news = [] := by
      rcases Nat.eq_zero_or_pos news.length with h0 | h0
      · exact List.eq_nil_of_length_eq_zero h0
      · obtain ⟨b, o, h, _⟩ := hr.2 h0
        cases h
    subst hn
    refine ⟨v, w, ?_, by simpa [cK, ownK] using hown, World.grownBy.refl w _, .inl rfl, by simp⟩
    rcases hown.2 with ⟨rfl, h0⟩ | ⟨g, cap, cur, rfl, _, _, hnc, _⟩
    · simp [Builtin.append_, run_underlying Try.underlying82, sizeOf, typeInfo, hi, Builtin.lenOf, Builtin.firstCells]
    · simp [Builtin.append_, run_underlying Try.underlying82, sizeOf, typeInfo, hi, Builtin.lenOf, Builtin.firstCells, hnc, storeCells]
  · have hcells : ∀ j u, (cK news)[j]? = some u → w.cell? (ad.add j) = some u := by
      intro j u hu
      rcases Nat.eq_zero_or_pos news.length with h0 | h0
      · have hn : news = [] := List.eq_nil_of_length_eq_zero h0
        subst hn
        simp [cK] at hu
      · obtain ⟨b, o, h, _, hc⟩ := hr.2 h0
        injection h with h
        subst h
        rw [add_none]
        exact hc j u hu
    obtain ⟨v', w', hrun, h2, h3, h4, h5⟩ := run_append_own_at (P := Try.prog) w base 82 t2 121 i0 _ 3 24 Try.underlying82 hi hz0 hz1 hz2 rfl (by omega) v l.length (cK l) hown ad news.length c (cK news) (by rw [cK_length]) hcells (cK_one _) (by unfold maxLen; omega) (by omega) hbase
    exact ⟨v', w', hrun, h2, h3, h5, h4⟩

/-- append(v, x...): v the call's own, x whatever. -/
theorem wpList_appendK {w : World} {ops : Array Oper} {rest : List Oper} {o : Oper} {a : Act} {Q : Exit → Act → World → Prop} (hgd : o.guard = none) (s x : Operand)
    (ho : o.op = .call { callee := .builtin .append, args := #[s, x], argTypes := #[82, 82] })
    (base : Nat) (v : Value) (l : List (Nat × Nat × Nat)) (hs : a.eval s = v) (hown : ownK w base v l) (B m c : Nat) (A : Option Addr) (news : List (Nat × Nat × Nat)) (hx : a.eval x = .slice A m c) (hr : RdK w B A m news)
    (hb : l.length + m ≤ 1099511627776) (hbase : base ≤ w.heap.size)
    (h : ∀ v' w', ownK w' base v' (l ++ news) → w.grownBy w' v.ownBlock → Below base w w' → (v'.ownBlock = v.ownBlock ∨ v'.ownBlock = some w.heap.size) → wpList Try.prog ops Q rest (a.put o.dst v') w') :
    wpList Try.prog ops Q (o :: rest) a w := by
  refine wpList_plain hgd fun K hK => ?_
  obtain ⟨v', w', hrun, h2, h3, h4, _⟩ := run_appendK w base o.type v l hown B m c A news hr hb hbase
  unfold Oper.wp execOp
  simp only [ho, resolve, invoke, builtin, Sem.run_bind, Sem.run_pure, Result.andThen_ok, List.map_toArray, List.map_cons, List.map_nil, hs, hx, hrun]
  exact hK _ _ (h v' w' h2 h3 ((Below.refl _ _).grown h3 hbase (fun k hk => (World.ownsRow.lt hown k hk).1)) h4)
/-- append of bytes as a step of a region that draws its order. -/
theorem step_appendK {w : World} {ops : Array Oper} {o : Oper} {a : Act} {K : Act → World → Prop} {Q : Exit → Act → World → Prop} {E : Prop} (hgd : o.guard = none) (s x : Operand)
    (ho : o.op = .call { callee := .builtin .append, args := #[s, x], argTypes := #[82, 82] })
    (base : Nat) (v : Value) (bs : List (Nat × Nat × Nat)) (hs : a.eval s = v) (hown : ownK w base v bs) (B m c : Nat) (A : Option Addr) (news : List (Nat × Nat × Nat)) (hx : a.eval x = .slice A m c) (hr : RdK w B A m news)
    (hb : bs.length + m ≤ 1099511627776) (hbase : base ≤ w.heap.size)
    (h : ∀ v' w', ownK w' base v' (bs ++ news) → w.grownBy w' v.ownBlock → Below base w w' → (v'.ownBlock = v.ownBlock ∨ v'.ownBlock = some w.heap.size) → K (a.put o.dst v') w') :
    if Region.wanted o (yielded ops a.tmps) = true then Oper.wp Try.prog o a w K Q else E := by
  have hw : Region.wanted o (yielded ops a.tmps) = true := by simp [Region.wanted, hgd]
  rw [if_pos hw]
  obtain ⟨v', w', hrun, h2, h3, h4, _⟩ := run_appendK w base o.type v bs hown B m c A news hr hb hbase
  unfold Oper.wp execOp
  simp only [ho, resolve, invoke, builtin, Sem.run_bind, Sem.run_pure, Result.andThen_ok, List.map_toArray, List.map_cons, List.map_nil, hs, hx, hrun]
  exact h v' w' h2 h3 ((Below.refl _ _).grown h3 hbase (fun k hk => (World.ownsRow.lt hown k hk).1)) h4
end Go.Proofs.Ytfafijhmjnkjeaa

/- Stable sorting, plainly: lists with the same elements of each weight in the same order, and rising, are one. -/
namespace Go.Proofs.Ytfafijhmjnkjeaa
set_option linter.all false

section
variable {α : Type} (wt : α → Int)

/-- The same elements of each weight, in the same order. -/
def FEq (l l' : List α) : Prop := ∀ v : Int, l'.filter (fun x => wt x == v) = l.filter (fun x => wt x == v)
def Srt (l : List α) : Prop := l.Pairwise (fun x y => wt x ≤ wt y)
/-- l' is l, sorted stably. -/
def SS (l l' : List α) : Prop := Srt wt l' ∧ FEq wt l l'

variable {wt}
theorem FEq.refl (l : List α) : FEq wt l l := fun _ => rfl
theorem FEq.trans {a b c : List α} (h : FEq wt a b) (k : FEq wt b c) : FEq wt a c := fun v => (k v).trans (h v)
theorem FEq.symm {a b : List α} (h : FEq wt a b) : FEq wt b a := fun v => (h v).symm
theorem FEq.append {a b a' b' : List α} (h : FEq wt a a') (k : FEq wt b b') : FEq wt (a ++ b) (a' ++ b') := fun v => by
  rw [List.filter_append, List.filter_append, h v, k v]
theorem FEq.swap {U V : List α} (h : ∀ x ∈ U, ∀ y ∈ V, wt y < wt x) : FEq wt (U ++ V) (V ++ U) := fun v => by
  rw [List.filter_append, List.filter_append]
  by_cases hU : U.filter (fun x => wt x == v) = []
  · rw [hU, List.append_nil, List.nil_append]
  · have hV : V.filter (fun x => wt x == v) = [] := by
      obtain ⟨x, hx⟩ := List.exists_mem_of_ne_nil _ hU
      rw [List.mem_filter, beq_iff_eq] at hx
      rw [List.filter_eq_nil_iff]
      intro y hy e
      rw [beq_iff_eq] at e
      have := h x hx.1 y hy
      omega
    rw [hV, List.append_nil, List.nil_append]
theorem FEq.mem {a b : List α} (h : FEq wt a b) (x : α) : x ∈ b ↔ x ∈ a := by
  have e := h (wt x)
  have h1 : ∀ l : List α, x ∈ l ↔ x ∈ l.filter (fun y => wt y == wt x) := fun l => by simp [List.mem_filter]
  rw [h1 a, h1 b, e]
theorem FEq.perm [DecidableEq α] {a b : List α} (h : FEq wt a b) : a.Perm b := by
  rw [List.perm_iff_count]
  intro x
  have h1 : ∀ l : List α, l.count x = (l.filter (fun y => wt y == wt x)).count x := fun l => by rw [List.count_filter (by simp)]
  rw [h1 a, h1 b, h (wt x)]
theorem FEq.length {a b : List α} (h : FEq wt a b) : b.length = a.length := by
  classical
  exact h.perm.length_eq.symm

theorem Srt.uniq {l : List α} : ∀ {l' : List α}, Srt wt l → Srt wt l' → FEq wt l l' → l = l' := by
  induction l with
  | nil =>
    intro l' _ _ h
    have := h.length
    exact (List.eq_nil_of_length_eq_zero (by simpa using this)).symm
  | cons x t ih =>
    intro l' h1 h2 h
    cases l' with
    | nil => have := h.length; simp at this
    | cons y s =>
      unfold Srt at h1 h2
      rw [List.pairwise_cons] at h1 h2
      have hxy : wt x = wt y := by
        have hx : x ∈ y :: s := (h.mem x).2 (by simp)
        have hy : y ∈ x :: t := (h.mem y).1 (by simp)
        rw [List.mem_cons] at hx hy
        rcases hx with rfl | hx
        · rfl
        rcases hy with rfl | hy
        · rfl
        have := h1.1 y hy
        have := h2.1 x hx
        omega
      have e := h (wt x)
      rw [List.filter_cons_of_pos (by simp [hxy]), List.filter_cons_of_pos (by simp)] at e
      injection e with e1 e2
      subst e1
      congr 1
      refine ih h1.2 h2.2 (fun v => ?_)
      by_cases hv : wt y = v
      · subst hv; exact e2
      · have e := h v
        rwa [List.filter_cons_of_neg (by simpa using hv), List.filter_cons_of_neg (by simpa using hv)] at e
theorem SS.uniq {l a b : List α} (h : SS wt l a) (k : SS wt l b) : a = b := Srt.uniq h.1 k.1 (h.2.symm.trans k.2)
theorem SS.of {l : List α} (h : Srt wt l) : SS wt l l := ⟨h, FEq.refl l⟩

theorem Srt.append {a b : List α} : Srt wt (a ++ b) ↔ Srt wt a ∧ Srt wt b ∧ ∀ x ∈ a, ∀ y ∈ b, wt x ≤ wt y := List.pairwise_append
theorem Srt.one (x : α) : Srt wt [x] := List.pairwise_singleton _ _
theorem Srt.nil_ : Srt wt [] := List.Pairwise.nil

/-- Two runs with a gap between them, each sorted. -/
theorem SS.join {U V M N : List α} (h : SS wt U M) (k : SS wt V N) (hg : ∀ x ∈ U, ∀ y ∈ V, wt x ≤ wt y) : SS wt (U ++ V) (M ++ N) :=
  ⟨Srt.append.2 ⟨h.1, k.1, fun x hx y hy => hg x ((h.2.mem x).1 hx) y ((k.2.mem y).1 hy)⟩, h.2.append k.2⟩
theorem SS.feq {l l' m : List α} (h : FEq wt l l') (k : SS wt l' m) : SS wt l m := ⟨k.1, h.trans k.2⟩

/-- An element set behind all that are no heavier. -/
def insR (wt : α → Int) (acc : List α) (x : α) : List α := acc.takeWhile (fun y => decide (wt y ≤ wt x)) ++ x :: acc.dropWhile (fun y => decide (wt y ≤ wt x))
def stab (wt : α → Int) (l : List α) : List α := l.foldl (insR wt) []
theorem Srt.drop_gt {l : List α} {v : Int} (h : Srt wt l) : ∀ y ∈ l.dropWhile (fun y => decide (wt y ≤ v)), v < wt y := by
  induction l with
  | nil => simp
  | cons x t ih =>
    unfold Srt at h
    rw [List.pairwise_cons] at h
    rw [List.dropWhile_cons]
    split
    · exact ih h.2
    · rename_i hx
      intro y hy
      rw [List.mem_cons] at hy
      have hx' : v < wt x := by simpa using hx
      rcases hy with rfl | hy
      · exact hx'
      · have := h.1 y hy; omega
theorem takeWhile_le {l : List α} {v : Int} : ∀ y ∈ l.takeWhile (fun y => decide (wt y ≤ v)), wt y ≤ v := by
  induction l with
  | nil => simp
  | cons x t ih =>
    intro y hy
    rw [List.takeWhile_cons] at hy
    split at hy
    · rename_i hx
      rw [List.mem_cons] at hy
      rcases hy with rfl | hy
      · simpa using hx
      · exact ih y hy
    · cases hy
theorem SS.insert {l m : List α} (h : SS wt l m) {a b : List α} (hm : m = a ++ b) (x : α) (ha : ∀ y ∈ a, wt y ≤ wt x) (hb : ∀ y ∈ b, wt x < wt y) : SS wt (l ++ [x]) (a ++ x :: b) := by
  subst hm
  obtain ⟨h1, h2, h3⟩ := Srt.append.1 h.1
  refine ⟨Srt.append.2 ⟨h1, ?_, ?_⟩, ?_⟩
  · unfold Srt
    rw [List.pairwise_cons]
    exact ⟨fun y hy => by have := hb y hy; omega, h2⟩
  · intro y hy z hz
    rw [List.mem_cons] at hz
    rcases hz with rfl | hz
    · exact ha y hy
    · exact h3 y hy z hz
  · have e1 : FEq wt (l ++ [x]) ((a ++ b) ++ [x]) := h.2.append (FEq.refl _)
    refine e1.trans ?_
    rw [List.append_assoc]
    refine (FEq.refl a).append ?_
    exact FEq.swap (fun y hy z hz => by
      have : z = x := by simpa using hz
      subst this
      exact hb y hy)
theorem stab_ss (l : List α) : SS wt l (stab wt l) := by
  induction l using snoc_ind with
  | h0 => exact SS.of Srt.nil_
  | h1 l x ih =>
    unfold stab at ih ⊢
    rw [List.foldl_append]
    exact ih.insert (List.takeWhile_append_dropWhile).symm x takeWhile_le (Srt.drop_gt ih.1)
theorem SS.eq_stab {l m : List α} (h : SS wt l m) : m = stab wt l := h.uniq (stab_ss l)
theorem stab_snoc {l a b : List α} {x : α} (hm : stab wt l = a ++ b) (ha : ∀ y ∈ a, wt y ≤ wt x) (hb : ∀ y ∈ b, wt x < wt y) : stab wt (l ++ [x]) = a ++ x :: b :=
  ((stab_ss l).insert hm x ha hb).eq_stab.symm
end
end Go.Proofs.Ytfafijhmjnkjeaa

/- Items and packages, plainly: a tree each. -/
namespace Go.Proofs.Ytfafijhmjnkjeaa
set_option linter.all false
open Go.RowKit

inductive Mem where
  | leaf (w : Int) (p : Nat)
  | node (l r : Mem)
instance : Inhabited Mem := ⟨.leaf 0 0⟩
/-- How heavy. -/
def Mem.w : Mem → Int
  | .leaf x _ => x
  | .node l r => l.w + r.w
/-- Which items, in their order. -/
def Mem.items : Mem → List Nat
  | .leaf _ p => [p]
  | .node l r => l.items ++ r.items
/-- A member and where it stands. -/
abbrev MP := Nat × Mem
/-- Block a holds t; every block of it is in S. -/
def isM (w : World) (S : Nat → Prop) : Nat → Mem → Prop
  | a, .leaf x p => S a ∧ w.cell? ⟨a, 0, none⟩ = some (.int .i64 x) ∧ w.cell? ⟨a, 1, none⟩ = some (.int .i64 p) ∧ w.cell? ⟨a, 2, none⟩ = some (.slice none 0 0)
  | a, .node l r => S a ∧ w.cell? ⟨a, 0, none⟩ = some (.int .i64 (l.w + r.w)) ∧ w.cell? ⟨a, 1, none⟩ = some (.int .i64 0) ∧
      ∃ g o c x y, w.cell? ⟨a, 2, none⟩ = some (.slice (some ⟨g, o, none⟩) 2 c) ∧ S g ∧ 2 ≤ c ∧ c ≤ maxLen ∧ w.cell? ⟨g, o, none⟩ = some (.pointer (some ⟨x, 0, none⟩)) ∧ w.cell? ⟨g, o + 1, none⟩ = some (.pointer (some ⟨y, 0, none⟩)) ∧ isM w S x l ∧ isM w S y r
theorem isM.keep {w w' : World} {S S' : Nat → Prop} (hk : ∀ p : Addr, S p.block → w'.cell? p = w.cell? p) (hS : ∀ b, S b → S' b) : ∀ {t : Mem} {a : Nat}, isM w S a t → isM w' S' a t := by
  intro t
  induction t with
  | leaf x p =>
    intro a h
    obtain ⟨h0, h1, h2, h3⟩ := h
    exact ⟨hS _ h0, (hk ⟨a, 0, none⟩ h0).trans h1, (hk ⟨a, 1, none⟩ h0).trans h2, (hk ⟨a, 2, none⟩ h0).trans h3⟩
  | node l r ihl ihr =>
    intro a h
    obtain ⟨h0, h1, h2, g, o, c, x, y, h3, h4, h5, h6, h7, h8, h9, h10⟩ := h
    exact ⟨hS _ h0, (hk ⟨a, 0, none⟩ h0).trans h1, (hk ⟨a, 1, none⟩ h0).trans h2, g, o, c, x, y, (hk ⟨a, 2, none⟩ h0).trans h3, hS _ h4, h5, h6, (hk ⟨g, o, none⟩ h4).trans h7, (hk ⟨g, o + 1, none⟩ h4).trans h8, ihl h9, ihr h10⟩
theorem isM.root {w : World} {S : Nat → Prop} {t : Mem} {a : Nat} (h : isM w S a t) : S a := by
  cases t with
  | leaf x p => exact h.1
  | node l r => exact h.1
theorem isM.weight {w : World} {S : Nat → Prop} {t : Mem} {a : Nat} (h : isM w S a t) : w.cell? ⟨a, 0, none⟩ = some (.int .i64 t.w) := by
  cases t with
  | leaf x p => exact h.2.1
  | node l r => exact h.2.1
/-- The blocks from lo on, but for v's own. -/
def Out (lo : Nat) (w : World) (v : Value) : Nat → Prop := fun b => lo ≤ b ∧ b < w.heap.size ∧ v.ownBlock ≠ some b
/-- The blocks from lo on, below hi. -/
def Rng (lo hi : Nat) : Nat → Prop := fun b => lo ≤ b ∧ b < hi
theorem isM.alloc {lo : Nat} {w : World} {v : Value} {a : Nat} {t : Mem} (h : isM w (Out lo w v) a t) (o : Obj) : isM (w.alloc o) (Out lo (w.alloc o) v) a t :=
  h.keep (fun p hp => World.cell?_alloc_lt w o p hp.2.1) (fun b hb => ⟨hb.1, by have := hb.2.1; simp; omega, hb.2.2⟩)
theorem isM.drewN {w : World} {S : Nat → Prop} {a : Nat} {t : Mem} (h : isM w S a t) (k : Nat) : isM (w.drewN k) S a t := isM.keep (w := w) (w' := w.drewN k) (S := S) (S' := S) (fun _ _ => rfl) (fun _ hb => hb) h
theorem isM.drewO {lo : Nat} {w : World} {v : Value} {a : Nat} {t : Mem} (h : isM w (Out lo w v) a t) (k : Nat) : isM (w.drewN k) (Out lo (w.drewN k) v) a t := isM.keep (w := w) (w' := w.drewN k) (S := Out lo w v) (S' := Out lo (w.drewN k) v) (fun _ _ => rfl) (fun _ hb => hb) h
theorem isM.app {lo : Nat} {w w' : World} {v v' : Value} {a : Nat} {t : Mem} (h : isM w (Out lo w v) a t) (hg : w.grownBy w' v.ownBlock) (hv : v'.ownBlock = v.ownBlock ∨ v'.ownBlock = some w.heap.size) : isM w' (Out lo w' v') a t :=
  h.keep (fun p hp => World.cell?_of_block (hg.block p.block hp.2.1 (fun e => hp.2.2 e.symm))) (fun b hb => ⟨hb.1, by have := hb.2.1; have := hg.size; omega, by
    rcases hv with e | e
    · rw [e]; exact hb.2.2
    · rw [e]; intro e'; injection e' with e'; have := hb.2.1; omega⟩)
theorem isM.rng {lo : Nat} {w : World} {v : Value} {a : Nat} {t : Mem} (h : isM w (Out lo w v) a t) : isM w (Rng lo w.heap.size) a t := h.keep (fun _ _ => rfl) (fun b hb => ⟨hb.1, hb.2.1⟩)
theorem isM.blw {w w' : World} {lo hi B : Nat} {t : Mem} {a : Nat} (h : isM w (Rng lo hi) a t) (hb : Below B w w') (hB : hi ≤ B) : isM w' (Rng lo hi) a t := h.keep (fun p hp => hb.cell (by have := hp.2; omega)) (fun _ h => h)
theorem isM.more {w : World} {lo lo' hi hi' : Nat} {t : Mem} {a : Nat} (h : isM w (Rng lo hi) a t) (h1 : lo' ≤ lo) (h2 : hi ≤ hi') : isM w (Rng lo' hi') a t := h.keep (fun _ _ => rfl) (fun b hb => ⟨by have := hb.1; omega, by have := hb.2; omega⟩)
/-- The items of weights, with their places. -/
def leaves (ws : List Int) : List Mem := ws.zipIdx.filterMap fun x => if 0 < x.1 then some (.leaf x.1 x.2) else none
theorem leaves_snoc (ws : List Int) (x : Int) : leaves (ws ++ [x]) = leaves ws ++ if 0 < x then [.leaf x ws.length] else [] := by
  unfold leaves
  rw [List.zipIdx_append, List.filterMap_append]
  by_cases h : 0 < x
  · simp [h]
  · simp [h]
/-- What is packed two by two. -/
def packs : List Mem → List Mem
  | a :: b :: r => .node a b :: packs r
  | _ => []
/-- Two lists as one, the first one's ahead of the second's as heavy. -/
def mrgBy {α : Type} (wt : α → Int) : List α → List α → List α
  | [], b => b
  | a :: r, [] => a :: r
  | a :: r, b :: s => if wt b < wt a then b :: mrgBy wt (a :: r) s else a :: mrgBy wt r (b :: s)
termination_by a b => a.length + b.length
/-- So many rounds. -/
def pmL (first : List Mem) : Nat → List Mem
  | 0 => first
  | k + 1 => mrgBy Mem.w first (packs (pmL first k))
def bump (xs : List Int) (p : Nat) : List Int := xs.set p (xs.getD p 0 + 1)
def bumps (xs : List Int) (ps : List Nat) : List Int := ps.foldl bump xs
/-- The lengths that weights have. -/
def lensOf (ws : List Int) (m : Nat) : List Int :=
  if (leaves ws).length = 1 then bumps (List.replicate ws.length 0) ((leaves ws).flatMap Mem.items)
  else bumps (List.replicate ws.length 0) (((pmL (stab Mem.w (leaves ws)) (m - 1)).take (2 * (leaves ws).length - 2)).flatMap Mem.items)
def posn (ws : List Int) : Nat := (ws.filter fun x => decide (0 < x)).length
def badW (ws : List Int) : Bool := ws.any fun x => decide (x < 0) || decide (1073741824 < x)
/-- May weights not be? -/
def wrongH (ws : List Int) (most : Int) : Bool := decide (ws.length < 1) || decide (300 < ws.length) || decide (most < 1) || decide (15 < most) || badW ws || decide (2 ^ most.toNat < posn ws)
theorem leaves_length (ws : List Int) : (leaves ws).length = posn ws := by
  induction ws using snoc_ind with
  | h0 => rfl
  | h1 l x ih =>
    rw [leaves_snoc, List.length_append, ih]
    unfold posn
    rw [List.filter_append, List.length_append]
    by_cases h : 0 < x <;> simp [h]
end Go.Proofs.Ytfafijhmjnkjeaa
