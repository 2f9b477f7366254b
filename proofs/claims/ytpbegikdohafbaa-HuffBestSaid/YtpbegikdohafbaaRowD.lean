/- Rows of aquref5.Code: 2 cells an element. -/
import Derived.Test.YtpbegikdohafbaaBase
namespace Go.Proofs.Ytpbegikdohafbaa
set_option linter.all false
open Go.RowKit

def eD (x : (Nat × Int)) : List Value := [Value.int .u32 (x.1 : Int), Value.int .i64 x.2]
theorem eD_len (x : (Nat × Int)) : (eD x).length = 2 := rfl
/-- The cells of a list. -/
def cD (l : List (Nat × Int)) : List Value := l.flatMap eD
theorem cD_length : ∀ l : List (Nat × Int), (cD l).length = l.length * 2
  | [] => rfl
  | x :: l => by
    have := cD_length l
    unfold cD at this ⊢
    rw [List.flatMap_cons, List.length_append, this, eD_len, List.length_cons]
    omega
theorem cD_append (a b : List (Nat × Int)) : cD (a ++ b) = cD a ++ cD b := by simp [cD]
theorem cD_single (x : (Nat × Int)) : cD [x] = eD x := by simp [cD]
theorem cD_get : ∀ (l : List (Nat × Int)) (k j : Nat) (hk : k < l.length), j < 2 → (cD l)[k * 2 + j]? = (eD l[k])[j]?
  | x :: l, 0, j, _, hj => by
    unfold cD
    rw [List.flatMap_cons, List.getElem?_append_left (by rw [eD_len]; omega)]
    simp
  | x :: l, i + 1, j, hi, hj => by
    have := cD_get l i j (by simpa using hi) hj
    unfold cD at this ⊢
    rw [List.flatMap_cons, List.getElem?_append_right (by rw [eD_len]; omega), eD_len, List.getElem_cons_succ, ← this]
    congr 1
    omega
theorem cD_one (l : List (Nat × Int)) : ∀ u ∈ cD l, u.oneCell' = true := by
  intro u hu
  simp only [cD, List.mem_flatMap] at hu
  obtain ⟨x, _, hx⟩ := hu
  simp only [eD, List.mem_cons, List.not_mem_nil, or_false] at hx
  rcases hx with rfl | rfl <;> rfl
theorem cD_set (l : List (Nat × Int)) (k : Nat) (x : (Nat × Int)) (hk : k < l.length) : cD (l.set k x) = ((cD l).set (k * 2) (Value.int .u32 (x.1 : Int))).set (k * 2 + 1) (Value.int .i64 x.2) := by
  have e1 : l = l.take k ++ l[k] :: l.drop (k + 1) := by rw [← List.drop_eq_getElem_cons hk, List.take_append_drop]
  have e2 : l.set k x = l.take k ++ x :: l.drop (k + 1) := by rw [List.set_eq_take_append_cons_drop, if_pos hk]
  rw [e2]
  have hl : (cD (l.take k)).length = k * 2 := by rw [cD_length, List.length_take, Nat.min_eq_left (by omega)]
  have e3 : cD l = cD (l.take k) ++ (eD l[k] ++ cD (l.drop (k + 1))) := by
    conv => lhs; rw [e1]
    rw [cD_append]
    simp only [cD, List.flatMap_cons]
  have e4 : cD (l.take k ++ x :: l.drop (k + 1)) = cD (l.take k) ++ (eD x ++ cD (l.drop (k + 1))) := by
    rw [cD_append]
    simp only [cD, List.flatMap_cons]
  rw [e3, e4]
  generalize cD (l.take k) = P at *
  rw [← hl]
  simp [eD, List.set_append]
theorem Try.info_D : (Try.prog.info? 41).map (fun i => (i.zero, i.size, i.bytes)) = some (some (.agg #[.int .u32 0, .int .i64 0]), 2, 16) := by kernel_rfl
def ownD (w : World) (base : Nat) (v : Value) (l : List (Nat × Int)) : Prop := w.ownsRow base 41 2 v l.length (cD l)
def RdD (w : World) (B : Nat) (A : Option Addr) (n : Nat) (l : List (Nat × Int)) : Prop := Rd w B 2 A n (cD l)
theorem RdD.len {w : World} {B n : Nat} {A : Option Addr} {l : List (Nat × Int)} (h : RdD w B A n l) : l.length = n := by
  have := h.1; rw [cD_length] at this; omega
theorem RdD.one {w : World} {B n : Nat} {A : Option Addr} {l : List (Nat × Int)} (h : RdD w B A n l) {k : Nat} (hk : k < n) :
    ∃ b o x, A = some ⟨b, o, none⟩ ∧ b < B ∧ Hid (l[k]? = some x) ∧ w.cell? ⟨b, o + k * 2, none⟩ = some (Value.int .u32 (x.1 : Int)) ∧ w.cell? ⟨b, o + k * 2 + 1, none⟩ = some (Value.int .i64 x.2) := by
  obtain ⟨b, o, e, hb, hc⟩ := h.2 (by omega)
  have hl := h.len
  have hk' : k < l.length := by omega
  refine ⟨b, o, l[k], e, hb, List.getElem?_eq_getElem hk', ?_, ?_⟩
  · exact hc (k * 2) _ ((cD_get l k 0 hk' (by omega)).trans rfl)
  · exact hc (k * 2 + 1) _ ((cD_get l k 1 hk' (by omega)).trans rfl)
theorem RdD.blw {w w' : World} {B n : Nat} {A : Option Addr} {l : List (Nat × Int)} (h : RdD w B A n l) (hb : Below B w w') : RdD w' B A n l := Rd.below h hb
theorem RdD.more {w : World} {B B' n : Nat} {A : Option Addr} {l : List (Nat × Int)} (h : RdD w B A n l) (hB : B ≤ B') : RdD w B' A n l := Rd.more h hB
theorem RdD.here {w : World} {B n : Nat} {A : Option Addr} {l : List (Nat × Int)} (h : RdD w B A n l) : RdD w w.heap.size A n l :=
  ⟨h.1, fun hn => by
    obtain ⟨b, o, e, hb, hc⟩ := h.2 hn
    have hl := h.1
    exact ⟨b, o, e, block_lt_of_cell (a := ⟨b, o + 0, none⟩) (hc 0 (cD l)[0] (List.getElem?_eq_getElem (by omega))), hc⟩⟩
theorem RdD.later {w w' : World} {n : Nat} {A : Option Addr} {l : List (Nat × Int)} (h : RdD w w.heap.size A n l) (hb : Below w.heap.size w w') : RdD w' w'.heap.size A n l := RdD.here (RdD.blw h hb)
theorem RdD.alloc {w : World} {B n : Nat} {A : Option Addr} {l : List (Nat × Int)} (h : RdD w B A n l) (hB : B ≤ w.heap.size) (o : Obj) : RdD (w.alloc o) B A n l := Rd.alloc h hB o
theorem RdD.nil_ {w : World} {B : Nat} {A : Option Addr} : RdD w B A 0 [] := ⟨by simp [cD], fun h => absurd h (by omega)⟩
theorem RdD.cut {w : World} {B n : Nat} {A : Option Addr} {l : List (Nat × Int)} (h : RdD w B A n l) {k m : Nat} (hk : k + m ≤ n) {A' : Option Addr} (hA : 0 < m → A' = A.map (·.add (k * 2))) :
    RdD w B A' m ((l.drop k).take m) := by
  have := Rd.cut h hk (A' := A') hA
  unfold RdD
  have e1 : ∀ (q : Nat) (l : List (Nat × Int)), cD (l.take q) = (cD l).take (q * 2) := fun q l => by
    rcases Nat.lt_or_ge q l.length with hq | hq
    · conv => rhs; rw [← List.take_append_drop q l, cD_append]
      rw [List.take_left' (by rw [cD_length, List.length_take, Nat.min_eq_left (by omega)])]
    · rw [List.take_of_length_le hq, List.take_of_length_le (by rw [cD_length]; exact Nat.mul_le_mul_right _ hq)]
  have e2 : ∀ (q : Nat) (l : List (Nat × Int)), cD (l.drop q) = (cD l).drop (q * 2) := fun q l => by
    rcases Nat.lt_or_ge q l.length with hq | hq
    · conv => rhs; rw [← List.take_append_drop q l, cD_append]
      rw [List.drop_left' (by rw [cD_length, List.length_take, Nat.min_eq_left (by omega)])]
    · rw [List.drop_eq_nil_of_le hq, List.drop_eq_nil_of_le (by rw [cD_length]; exact Nat.mul_le_mul_right _ hq)]
      rfl
  rw [e1, e2]
  exact this
theorem ownD.nil_ (w : World) (base : Nat) : ownD w base (.slice none 0 0) [] := World.ownsRow_nil _ _ _ _
theorem ownD.mono {w : World} {base base' : Nat} {v : Value} {l : List (Nat × Int)} (h : ownD w base v l) (hb : base' ≤ base) : ownD w base' v l := by
  refine ⟨h.1, ?_⟩
  rcases h.2 with hn | ⟨g, cap, cur, rfl, hbg, rest⟩
  · exact .inl hn
  · exact .inr ⟨g, cap, cur, rfl, by omega, rest⟩
theorem ownD.later {w w' : World} {base : Nat} {v : Value} {l : List (Nat × Int)} (h : ownD w base v l) (hb : Below w.heap.size w w') : ownD w' base v l :=
  Below.ownsRow h hb (fun g hg => (World.ownsRow.lt h g hg).2)
theorem ownD.laterD {w w' : World} {base : Nat} {v : Value} {l : List (Nat × Int)} (h : ownD w base v l) (hb : Below w.drew.heap.size w.drew w') : ownD w' base v l := ownD.later (w := w.drew) h hb
theorem ownD.alloc {w : World} {base : Nat} {v : Value} {l : List (Nat × Int)} (h : ownD w base v l) (o : Obj) : ownD (w.alloc o) base v l := World.ownsRow.alloc h o
theorem ownD.drew {w : World} {base : Nat} {v : Value} {l : List (Nat × Int)} (h : ownD w base v l) : ownD w.drew base v l := h
theorem ownD.drewN {w : World} {base : Nat} {v : Value} {l : List (Nat × Int)} (h : ownD w base v l) (n : Nat) : ownD (w.drewN n) base v l := h
theorem ownD.form {w : World} {base : Nat} {v : Value} {l : List (Nat × Int)} (h : ownD w base v l) :
    ∃ A c, v = .slice A l.length c ∧ RdD w w.heap.size A l.length l ∧ l.length ≤ c ∧ c ≤ maxLen := by
  rcases h.2 with ⟨rfl, h0⟩ | ⟨g, cap, cur, rfl, _, _, h1, h2, _⟩
  · have : l = [] := List.eq_nil_of_length_eq_zero h0
    subst this
    exact ⟨none, 0, rfl, Rd.none_, by simp, by simp⟩
  · exact ⟨_, _, rfl, Rd.of_own h, h1, h2⟩
theorem ownD.kept {w w' : World} {base : Nat} {v : Value} {l : List (Nat × Int)} {row : Option Nat} (h : ownD w base v l) (hg : w.grownBy w' row) (hne : v.ownBlock = none ∨ v.ownBlock ≠ row) : ownD w' base v l :=
  World.ownsRow.kept h hg hne
theorem ownD.far {w : World} {base g : Nat} {v : Value} {l : List (Nat × Int)} (h : ownD w base v l) (hg : v.ownBlock ≠ some g) (o : Nat) (u : Value) :
    ownD (w.setCell ⟨g, o, none⟩ u) base v l := by
  refine ⟨h.1, ?_⟩
  rcases h.2 with hn | ⟨g', cap, cur, rfl, hb, hgg, rest⟩
  · exact .inl hn
  · refine .inr ⟨g', cap, cur, rfl, hb, ?_, rest⟩
    rw [Below.heap_setCell _ _ _ _ (by intro e; apply hg; simp [Value.ownBlock]; exact e)]
    exact hgg
theorem ownD.ne {w : World} {base g : Nat} {v : Value} {l : List (Nat × Int)} (h : ownD w base v l) (hg : g < base) : v.ownBlock ≠ some g := by
  intro e
  have := (World.ownsRow.lt h g e).1
  omega
theorem ownD.pos {w : World} {base n c : Nat} {A : Option Addr} {l : List (Nat × Int)} (h : ownD w base (.slice A n c) l) (hn : 0 < n) : n = l.length ∧ ∃ g, A = some ⟨g, 0, none⟩ ∧ base ≤ g ∧ g < w.heap.size := by
  rcases h.2 with ⟨h', _⟩ | ⟨g, cap, cur, h', hb, hg, _⟩
  · injection h' with _ h2; omega
  · injection h' with h1 h2
    exact ⟨h2, g, h1, hb, (World.ownsRow.lt h g (by rw [h1]; rfl)).2⟩
theorem ownD.cell {w : World} {base g n c : Nat} {l : List (Nat × Int)} (h : ownD w base (.slice (some ⟨g, 0, none⟩) n c) l) (hn : n = l.length) {k : Nat} (hk : k < l.length) :
    w.cell? ⟨g, k * 2, none⟩ = some ((fun x : (Nat × Int) => Value.int .u32 (x.1 : Int)) l[k]) ∧ w.cell? ⟨g, k * 2 + 1, none⟩ = some ((fun x : (Nat × Int) => Value.int .i64 x.2) l[k]) := by
  subst hn
  refine ⟨?_, ?_⟩
  · exact (World.ownsRow.cellAt h (k * 2) (by have := hk; omega)).trans ((cD_get l k 0 hk (by omega)).trans rfl)
  · exact (World.ownsRow.cellAt h (k * 2 + 1) (by have := hk; omega)).trans ((cD_get l k 1 hk (by omega)).trans rfl)
theorem ownD.frozen {w : World} {base g n c : Nat} {l : List (Nat × Int)} (h : ownD w base (.slice (some ⟨g, 0, none⟩) n c) l) (hn : n = l.length) (k : Nat) :
    w.frozen? ⟨g, k, none⟩ = false := by
  subst hn
  exact World.ownsRow.frozenAt h k
theorem ownD.store {w : World} {base g n c : Nat} {l : List (Nat × Int)} (h : ownD w base (.slice (some ⟨g, 0, none⟩) n c) l) (hn : n = l.length) (k : Nat) (x : (Nat × Int)) (hk : k < l.length) :
    ownD ((w.setCell ⟨g, k * 2, none⟩ (Value.int .u32 (x.1 : Int))).setCell ⟨g, k * 2 + 1, none⟩ (Value.int .i64 x.2)) base (.slice (some ⟨g, 0, none⟩) n c) (l.set k x) := by
  subst hn
  have h0 : w.ownsRow base 41 2 (.slice (some ⟨g, 0, none⟩) l.length c) l.length (cD l) := h
  have h1 := (World.ownsRow.stored h0 (k * 2) (Value.int .u32 (x.1 : Int))).1
  have h2 := (World.ownsRow.stored h1 (k * 2 + 1) (Value.int .i64 x.2)).1
  unfold ownD
  rw [List.length_set, cD_set l k x hk]
  exact h2
theorem ownD.rd {w : World} {base n c : Nat} {A : Option Addr} {l : List (Nat × Int)} (h : ownD w base (.slice A n c) l) : RdD w w.heap.size A n l := by
  obtain ⟨A4, c4, e5, hd4, _, _⟩ := h.form
  injection e5 with e1 e2 e3
  rw [e1, e2]
  exact hd4
/-- make of n zeros, in a new block. -/
theorem wpList_makeD {w : World} {ops : Array Oper} {rest : List Oper} {o : Oper} {a : Act} {Q : Exit → Act → World → Prop}
    (hg : o.guard = none) (l c : Operand) (hop : o.op = Op.makeSlice 35 l c) (n : Nat) (L : Int) (hl : a.eval l = .int .i64 L) (hc : a.eval c = .int .i64 L)
    (hL : L = (n : Int)) (hn : n ≤ 1099511627776)
    (hK : ∀ w', ownD w' w.heap.size (.slice (some ⟨w.heap.size, 0, none⟩) n n) (List.replicate n ((0, 0) : Nat × Int)) → Below w.heap.size w w' → w.heap.size < w'.heap.size →
      wpList Try.prog ops Q rest (a.put o.dst (.slice (some ⟨w.heap.size, 0, none⟩) n n)) w') :
    wpList Try.prog ops Q (o :: rest) a w := by
  obtain ⟨i0, hi, hz0, hz1, hz2⟩ := info_parts Try.info_D
  refine wpList_make_full w hg l c 35 hop w.heap.size 41 i0 _ 2 Try.underlying35 hi hz0 hz1 _ _ _ _ n hl hc hL hL (by rw [hz2]; omega) (by unfold maxLen; omega) (Nat.le_refl _) ?_
  intro w' h1 h2
  have h3 : ownD w' w.heap.size (.slice (some ⟨w.heap.size, 0, none⟩) n n) (List.replicate n ((0, 0) : Nat × Int)) := by
    unfold ownD
    have e1 : (madeCells (.agg #[.int .u32 0, .int .i64 0] : Value).cells (n * 2)).toList = cD (List.replicate n ((0, 0) : Nat × Int)) := by
      apply List.ext_getElem?
      intro j
      by_cases hj : j < n * 2
      · have hq : j / 2 < n := by omega
        have ej : j = j / 2 * 2 + j % 2 := by omega
        have hg := cD_get (List.replicate n ((0, 0) : Nat × Int)) (j / 2) (j % 2) (by simpa using hq) (by omega)
        rw [← ej] at hg
        rw [hg, List.getElem_replicate]
        have hm : j % 2 < 2 := by omega
        rw [Array.getElem?_toList]
        rw [madeCells, Array.getElem?_map, Array.getElem?_range, if_pos hj]
        show some ((#[.int .u32 0, .int .i64 0] : Array Value)[j % 2]!) = _
        match j % 2, hm with
        | 0, _ => rfl
        | 1, _ => rfl
      · rw [List.getElem?_eq_none (by simp [madeCells]; omega), List.getElem?_eq_none (by rw [cD_length]; simp; omega)]
    rw [e1] at h1
    rw [List.length_replicate]
    exact h1
  exact hK w' h3 ((Below.refl _ _).grown h2 (Nat.le_refl _) (by simp)) (World.ownsRow.lt h3 _ rfl).2
/-- One element that lies in a block, whole. -/
theorem rd_oneD (w : World) (x : (Nat × Int)) (t : TypeId) (fr : Nat × Nat) : RdD (w.alloc (.cells (eD x).toArray t fr)) (w.heap.size + 1) (some ⟨w.heap.size, 0, none⟩) 1 [x] := by
  refine ⟨by rw [cD_length]; rfl, fun _ => ⟨_, _, rfl, by omega, fun j u hu => ?_⟩⟩
  rw [Nat.zero_add]
  have := cell_of_row (w.alloc (.cells (eD x).toArray t fr)) w.heap.size j (eD x).toArray t fr (heap_alloc_new w _)
  rw [this]
  rw [cD_single] at hu
  simpa using hu

theorem run_appendD (w : World) (base : Nat) (t2 : TypeId) (v : Value) (l : List (Nat × Int)) (hown : ownD w base v l) (B m c : Nat) (A : Option Addr) (news : List (Nat × Int)) (hr : RdD w B A m news)
    (hb : l.length + m ≤ 1099511627776) (hbase : base ≤ w.heap.size) :
    ∃ v' w', (Builtin.append_ #[35, 35] t2 #[v, .slice A m c]).run Try.prog w = .ok v' w' ∧ ownD w' base v' (l ++ news) ∧ w.grownBy w' v.ownBlock ∧
      (v'.ownBlock = v.ownBlock ∨ v'.ownBlock = some w.heap.size) ∧ (v' = .slice none 0 0 ↔ v = .slice none 0 0 ∧ m = 0) := by
  obtain ⟨i0, hi, hz0, hz1, hz2⟩ := info_parts Try.info_D
  have hl := hr.len
  subst hl
  unfold ownD
  rw [List.length_append, cD_append]
  rcases A with _ | ad
  · have hn : news = [] := by
      rcases Nat.eq_zero_or_pos news.length with h0 | h0
      · exact List.eq_nil_of_length_eq_zero h0
      · obtain ⟨b, o, h, _⟩ := hr.2 h0
        cases h
    subst hn
    refine ⟨v, w, ?_, by simpa [cD, ownD] using hown, World.grownBy.refl w _, .inl rfl, by simp⟩
    rcases hown.2 with ⟨rfl, h0⟩ | ⟨g, cap, cur, rfl, _, _, hnc, _⟩
    · simp [Builtin.append_, run_underlying Try.underlying35, sizeOf, typeInfo, hi, Builtin.lenOf, Builtin.firstCells]
    · simp [Builtin.append_, run_underlying Try.underlying35, sizeOf, typeInfo, hi, Builtin.lenOf, Builtin.firstCells, hnc, storeCells]
  · have hcells : ∀ j u, (cD news)[j]? = some u → w.cell? (ad.add j) = some u := by
      intro j u hu
      rcases Nat.eq_zero_or_pos news.length with h0 | h0
      · have hn : news = [] := List.eq_nil_of_length_eq_zero h0
        subst hn
        simp [cD] at hu
      · obtain ⟨b, o, h, _, hc⟩ := hr.2 h0
        injection h with h
        subst h
        rw [add_none]
        exact hc j u hu
    obtain ⟨v', w', hrun, h2, h3, h4, h5⟩ := run_append_own_at (P := Try.prog) w base 35 t2 41 i0 _ 2 16 Try.underlying35 hi hz0 hz1 hz2 rfl (by omega) v l.length (cD l) hown ad news.length c (cD news) (by rw [cD_length]) hcells (cD_one _) (by unfold maxLen; omega) (by omega) hbase
    exact ⟨v', w', hrun, h2, h3, h5, h4⟩

/-- append(v, x...): v the call's own, x whatever. -/
theorem wpList_appendD {w : World} {ops : Array Oper} {rest : List Oper} {o : Oper} {a : Act} {Q : Exit → Act → World → Prop} (hgd : o.guard = none) (s x : Operand)
    (ho : o.op = .call { callee := .builtin .append, args := #[s, x], argTypes := #[35, 35] })
    (base : Nat) (v : Value) (l : List (Nat × Int)) (hs : a.eval s = v) (hown : ownD w base v l) (B m c : Nat) (A : Option Addr) (news : List (Nat × Int)) (hx : a.eval x = .slice A m c) (hr : RdD w B A m news)
    (hb : l.length + m ≤ 1099511627776) (hbase : base ≤ w.heap.size)
    (h : ∀ v' w', ownD w' base v' (l ++ news) → w.grownBy w' v.ownBlock → Below base w w' → (v'.ownBlock = v.ownBlock ∨ v'.ownBlock = some w.heap.size) → wpList Try.prog ops Q rest (a.put o.dst v') w') :
    wpList Try.prog ops Q (o :: rest) a w := by
  refine wpList_plain hgd fun K hK => ?_
  obtain ⟨v', w', hrun, h2, h3, h4, _⟩ := run_appendD w base o.type v l hown B m c A news hr hb hbase
  unfold Oper.wp execOp
  simp only [ho, resolve, invoke, builtin, Sem.run_bind, Sem.run_pure, Result.andThen_ok, List.map_toArray, List.map_cons, List.map_nil, hs, hx, hrun]
  exact hK _ _ (h v' w' h2 h3 ((Below.refl _ _).grown h3 hbase (fun k hk => (World.ownsRow.lt hown k hk).1)) h4)
/-- append of bytes as a step of a region that draws its order. -/
theorem step_appendD {w : World} {ops : Array Oper} {o : Oper} {a : Act} {K : Act → World → Prop} {Q : Exit → Act → World → Prop} {E : Prop} (hgd : o.guard = none) (s x : Operand)
    (ho : o.op = .call { callee := .builtin .append, args := #[s, x], argTypes := #[35, 35] })
    (base : Nat) (v : Value) (bs : List (Nat × Int)) (hs : a.eval s = v) (hown : ownD w base v bs) (B m c : Nat) (A : Option Addr) (news : List (Nat × Int)) (hx : a.eval x = .slice A m c) (hr : RdD w B A m news)
    (hb : bs.length + m ≤ 1099511627776) (hbase : base ≤ w.heap.size)
    (h : ∀ v' w', ownD w' base v' (bs ++ news) → w.grownBy w' v.ownBlock → Below base w w' → (v'.ownBlock = v.ownBlock ∨ v'.ownBlock = some w.heap.size) → K (a.put o.dst v') w') :
    if Region.wanted o (yielded ops a.tmps) = true then Oper.wp Try.prog o a w K Q else E := by
  have hw : Region.wanted o (yielded ops a.tmps) = true := by simp [Region.wanted, hgd]
  rw [if_pos hw]
  obtain ⟨v', w', hrun, h2, h3, h4, _⟩ := run_appendD w base o.type v bs hown B m c A news hr hb hbase
  unfold Oper.wp execOp
  simp only [ho, resolve, invoke, builtin, Sem.run_bind, Sem.run_pure, Result.andThen_ok, List.map_toArray, List.map_cons, List.map_nil, hs, hx, hrun]
  exact h v' w' h2 h3 ((Below.refl _ _).grown h3 hbase (fun k hk => (World.ownsRow.lt hown k hk).1)) h4
end Go.Proofs.Ytpbegikdohafbaa
