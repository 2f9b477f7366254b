/- Rows of string: one cell an element. -/
import Derived.Test.YtmffmijjdpjaiaaBase
namespace Go.Proofs.Ytmffmijjdpjaiaa
set_option linter.all false
open Go.RowKit

/-- The cells of a list. -/
def cT (l : List ByteArray) : List Value := l.map fun x => Value.string x
theorem cT_length (l : List ByteArray) : (cT l).length = l.length := by simp [cT]
theorem cT_append (a b : List ByteArray) : cT (a ++ b) = cT a ++ cT b := by simp [cT]
theorem cT_get {l : List ByteArray} {k : Nat} (h : k < l.length) : (cT l)[k]? = some ((fun x : ByteArray => Value.string x) l[k]) := by simp [cT, h]
theorem cT_one (l : List ByteArray) : ∀ u ∈ cT l, u.oneCell' = true := by
  intro u hu
  simp only [cT, List.mem_map] at hu
  obtain ⟨b, _, rfl⟩ := hu
  rfl
theorem Try.info_T : (Try.prog.info? 9).map (fun i => (i.zero, i.size, i.bytes)) = some (some (Value.string ByteArray.empty), 1, 16) := by kernel_rfl
def ownT (w : World) (base : Nat) (v : Value) (l : List ByteArray) : Prop := w.ownsRow base 9 1 v l.length (cT l)
def RdT (w : World) (B : Nat) (A : Option Addr) (n : Nat) (l : List ByteArray) : Prop := Rd w B 1 A n (cT l)
theorem RdT.len {w : World} {B n : Nat} {A : Option Addr} {l : List ByteArray} (h : RdT w B A n l) : l.length = n := by
  have := h.1; rw [cT_length] at this; omega
theorem RdT.at_ {w : World} {B n : Nat} {A : Option Addr} {l : List ByteArray} (h : RdT w B A n l) (hn : 0 < n) :
    ∃ b o, A = some ⟨b, o, none⟩ ∧ b < B ∧ ∀ j (hj : j < l.length), w.cell? ⟨b, o + j, none⟩ = some ((fun x : ByteArray => Value.string x) l[j]) := by
  obtain ⟨b, o, e, hb, hc⟩ := h.2 hn
  exact ⟨b, o, e, hb, fun j hj => hc j _ (cT_get hj)⟩
theorem RdT.one {w : World} {B n : Nat} {A : Option Addr} {l : List ByteArray} (h : RdT w B A n l) {k : Nat} (hk : k < n) :
    ∃ b o x, A = some ⟨b, o, none⟩ ∧ b < B ∧ Hid (l[k]? = some x) ∧ w.cell? ⟨b, o + k, none⟩ = some (Value.string x) := by
  obtain ⟨b, o, e, hb, hc⟩ := h.at_ (by omega)
  have hl := h.len
  exact ⟨b, o, l[k], e, hb, List.getElem?_eq_getElem (by omega), hc k (by omega)⟩
theorem RdT.blw {w w' : World} {B n : Nat} {A : Option Addr} {l : List ByteArray} (h : RdT w B A n l) (hb : Below B w w') : RdT w' B A n l := Rd.below h hb
theorem RdT.more {w : World} {B B' n : Nat} {A : Option Addr} {l : List ByteArray} (h : RdT w B A n l) (hB : B ≤ B') : RdT w B' A n l := Rd.more h hB
theorem RdT.here {w : World} {B n : Nat} {A : Option Addr} {l : List ByteArray} (h : RdT w B A n l) : RdT w w.heap.size A n l := Rd.here h
theorem RdT.later {w w' : World} {n : Nat} {A : Option Addr} {l : List ByteArray} (h : RdT w w.heap.size A n l) (hb : Below w.heap.size w w') : RdT w' w'.heap.size A n l := Rd.here (Rd.below h hb)
theorem RdT.alloc {w : World} {B n : Nat} {A : Option Addr} {l : List ByteArray} (h : RdT w B A n l) (hB : B ≤ w.heap.size) (o : Obj) : RdT (w.alloc o) B A n l := Rd.alloc h hB o
theorem RdT.nil_ {w : World} {B : Nat} {A : Option Addr} : RdT w B A 0 [] := ⟨by simp [cT], fun h => absurd h (by omega)⟩
theorem RdT.cut {w : World} {B n : Nat} {A : Option Addr} {l : List ByteArray} (h : RdT w B A n l) {k m : Nat} (hk : k + m ≤ n) {A' : Option Addr} (hA : 0 < m → A' = A.map (·.add k)) :
    RdT w B A' m ((l.drop k).take m) := by
  have := Rd.cut h hk (A' := A') (by simpa using hA)
  unfold RdT
  simpa [cT, List.map_drop, List.map_take] using this
theorem ownT.nil_ (w : World) (base : Nat) : ownT w base (.slice none 0 0) [] := World.ownsRow_nil _ _ _ _
theorem ownT.mono {w : World} {base base' : Nat} {v : Value} {l : List ByteArray} (h : ownT w base v l) (hb : base' ≤ base) : ownT w base' v l := by
  refine ⟨h.1, ?_⟩
  rcases h.2 with hn | ⟨g, cap, cur, rfl, hbg, rest⟩
  · exact .inl hn
  · exact .inr ⟨g, cap, cur, rfl, by omega, rest⟩
theorem ownT.later {w w' : World} {base : Nat} {v : Value} {l : List ByteArray} (h : ownT w base v l) (hb : Below w.heap.size w w') : ownT w' base v l :=
  Below.ownsRow h hb (fun g hg => (World.ownsRow.lt h g hg).2)
theorem ownT.laterD {w w' : World} {base : Nat} {v : Value} {l : List ByteArray} (h : ownT w base v l) (hb : Below w.drew.heap.size w.drew w') : ownT w' base v l := ownT.later (w := w.drew) h hb
theorem ownT.alloc {w : World} {base : Nat} {v : Value} {l : List ByteArray} (h : ownT w base v l) (o : Obj) : ownT (w.alloc o) base v l := World.ownsRow.alloc h o
theorem ownT.drew {w : World} {base : Nat} {v : Value} {l : List ByteArray} (h : ownT w base v l) : ownT w.drew base v l := h
theorem ownT.drewN {w : World} {base : Nat} {v : Value} {l : List ByteArray} (h : ownT w base v l) (n : Nat) : ownT (w.drewN n) base v l := h
theorem ownT.form {w : World} {base : Nat} {v : Value} {l : List ByteArray} (h : ownT w base v l) :
    ∃ A c, v = .slice A l.length c ∧ RdT w w.heap.size A l.length l ∧ l.length ≤ c ∧ c ≤ maxLen := by
  rcases h.2 with ⟨rfl, h0⟩ | ⟨g, cap, cur, rfl, _, _, h1, h2, _⟩
  · have : l = [] := List.eq_nil_of_length_eq_zero h0
    subst this
    exact ⟨none, 0, rfl, Rd.none_, by simp, by simp⟩
  · exact ⟨_, _, rfl, Rd.of_own h, h1, h2⟩
theorem ownT.kept {w w' : World} {base : Nat} {v : Value} {l : List ByteArray} {row : Option Nat} (h : ownT w base v l) (hg : w.grownBy w' row) (hne : v.ownBlock = none ∨ v.ownBlock ≠ row) : ownT w' base v l :=
  World.ownsRow.kept h hg hne
theorem ownT.far {w : World} {base g : Nat} {v : Value} {l : List ByteArray} (h : ownT w base v l) (hg : v.ownBlock ≠ some g) (o : Nat) (u : Value) :
    ownT (w.setCell ⟨g, o, none⟩ u) base v l := by
  refine ⟨h.1, ?_⟩
  rcases h.2 with hn | ⟨g', cap, cur, rfl, hb, hgg, rest⟩
  · exact .inl hn
  · refine .inr ⟨g', cap, cur, rfl, hb, ?_, rest⟩
    rw [Below.heap_setCell _ _ _ _ (by intro e; apply hg; simp [Value.ownBlock]; exact e)]
    exact hgg
theorem ownT.ne {w : World} {base g : Nat} {v : Value} {l : List ByteArray} (h : ownT w base v l) (hg : g < base) : v.ownBlock ≠ some g := by
  intro e
  have := (World.ownsRow.lt h g e).1
  omega
theorem ownT.pos {w : World} {base n c : Nat} {A : Option Addr} {l : List ByteArray} (h : ownT w base (.slice A n c) l) (hn : 0 < n) : n = l.length ∧ ∃ g, A = some ⟨g, 0, none⟩ ∧ base ≤ g ∧ g < w.heap.size := by
  rcases h.2 with ⟨h', _⟩ | ⟨g, cap, cur, h', hb, hg, _⟩
  · injection h' with _ h2; omega
  · injection h' with h1 h2
    exact ⟨h2, g, h1, hb, (World.ownsRow.lt h g (by rw [h1]; rfl)).2⟩
theorem ownT.cell {w : World} {base g n c : Nat} {l : List ByteArray} (h : ownT w base (.slice (some ⟨g, 0, none⟩) n c) l) (hn : n = l.length) {k : Nat} (hk : k < l.length) :
    w.cell? ⟨g, k, none⟩ = some ((fun x : ByteArray => Value.string x) l[k]) := by
  subst hn
  rw [World.ownsRow.cellAt h k (by omega), cT_get hk]
theorem ownT.frozen {w : World} {base g n c : Nat} {l : List ByteArray} (h : ownT w base (.slice (some ⟨g, 0, none⟩) n c) l) (hn : n = l.length) (k : Nat) :
    w.frozen? ⟨g, k, none⟩ = false := by
  subst hn
  exact World.ownsRow.frozenAt h k
theorem ownT.store {w : World} {base g n c : Nat} {l : List ByteArray} (h : ownT w base (.slice (some ⟨g, 0, none⟩) n c) l) (hn : n = l.length) (k : Nat) (x : ByteArray) :
    ownT (w.setCell ⟨g, k, none⟩ (Value.string x)) base (.slice (some ⟨g, 0, none⟩) n c) (l.set k x) := by
  subst hn
  have := (World.ownsRow.stored h k (Value.string x)).1
  unfold ownT
  rw [List.length_set]
  have e : cT (l.set k x) = (cT l).set k (Value.string x) := by simp [cT, List.map_set]
  rwa [e]
theorem ownT.rd {w : World} {base n c : Nat} {A : Option Addr} {l : List ByteArray} (h : ownT w base (.slice A n c) l) : RdT w w.heap.size A n l := by
  obtain ⟨A4, c4, e5, hd4, _, _⟩ := h.form
  injection e5 with e1 e2 e3
  rw [e1, e2]
  exact hd4
/-- make of n zeros, in a new block. -/
theorem wpList_makeT {w : World} {ops : Array Oper} {rest : List Oper} {o : Oper} {a : Act} {Q : Exit → Act → World → Prop}
    (hg : o.guard = none) (l c : Operand) (hop : o.op = Op.makeSlice 24 l c) (n : Nat) (L : Int) (hl : a.eval l = .int .i64 L) (hc : a.eval c = .int .i64 L)
    (hL : L = (n : Int)) (hn : n ≤ 1099511627776)
    (hK : ∀ w', ownT w' w.heap.size (.slice (some ⟨w.heap.size, 0, none⟩) n n) (List.replicate n ByteArray.empty) → Below w.heap.size w w' → w.heap.size < w'.heap.size →
      wpList Try.prog ops Q rest (a.put o.dst (.slice (some ⟨w.heap.size, 0, none⟩) n n)) w') :
    wpList Try.prog ops Q (o :: rest) a w := by
  obtain ⟨i0, hi, hz0, hz1, hz2⟩ := info_parts Try.info_T
  refine wpList_make_full w hg l c 24 hop w.heap.size 9 i0 _ 1 Try.underlying24 hi hz0 hz1 _ _ _ _ n hl hc hL hL (by rw [hz2]; omega) (by unfold maxLen; omega) (Nat.le_refl _) ?_
  intro w' h1 h2
  have h3 : ownT w' w.heap.size (.slice (some ⟨w.heap.size, 0, none⟩) n n) (List.replicate n ByteArray.empty) := by
    unfold ownT
    have e1 : cT (List.replicate n ByteArray.empty) = List.replicate n (Value.string ByteArray.empty) := by simp [cT]
    rw [e1, List.length_replicate]
    have : (madeCells (Value.string ByteArray.empty).cells (n * 1)).toList = List.replicate n (Value.string ByteArray.empty) := by
      rw [Nat.mul_one]; exact toList_madeCells_one _ _
    rwa [this] at h1
  exact hK w' h3 ((Below.refl _ _).grown h2 (Nat.le_refl _) (by simp)) (World.ownsRow.lt h3 _ rfl).2
/-- A literal's own row. -/
theorem own_litT (w : World) (l : List ByteArray) (hm : l.length ≤ 1099511627776) : ownT (w.alloc (.cells (cT l).toArray 9)) w.heap.size (.slice (some ⟨w.heap.size, 0, none⟩) l.length l.length) l := by
  have := World.ownsRow_lit (base := w.heap.size) (size := 1) (e := 9) w (cT l).toArray l.length (Nat.le_refl _) (by unfold maxLen; omega) (by simp [cT])
  exact this
theorem rd_litT (w : World) (t : TypeId) (fr : Nat × Nat) (l : List ByteArray) : RdT (w.alloc (.cells (cT l).toArray t fr)) (w.heap.size + 1) (some ⟨w.heap.size, 0, none⟩) l.length l := by
  refine ⟨by simp [cT], fun _ => ⟨_, _, rfl, by omega, fun j u hu => ?_⟩⟩
  rw [Nat.zero_add]
  have := cell_of_row (w.alloc (.cells (cT l).toArray t fr)) w.heap.size j (cT l).toArray t fr (heap_alloc_new w _)
  rw [this]
  simpa using hu
theorem rd_oneT (w : World) (x : ByteArray) : RdT (w.alloc (.cells #[Value.string x] 9)) (w.heap.size + 1) (some ⟨w.heap.size, 0, none⟩) 1 [x] := rd_litT w 9 (0, 0) [x]

set_option maxRecDepth 100000 in
theorem run_appendT (w : World) (base : Nat) (t2 : TypeId) (v : Value) (l : List ByteArray) (hown : ownT w base v l) (B m c : Nat) (A : Option Addr) (news : List ByteArray) (hr : RdT w B A m news)
    (hb : l.length + m ≤ 1099511627776) (hbase : base ≤ w.heap.size) :
    ∃ v' w', (Builtin.append_ #[24, 24] t2 #[v, .slice A m c]).run Try.prog w = .ok v' w' ∧ ownT w' base v' (l ++ news) ∧ w.grownBy w' v.ownBlock ∧
      (v'.ownBlock = v.ownBlock ∨ v'.ownBlock = some w.heap.size) ∧ (v' = .slice none 0 0 ↔ v = .slice none 0 0 ∧ m = 0) := by
  obtain ⟨i0, hi, hz0, hz1, hz2⟩ := info_parts Try.info_T
  have hl := hr.len
  subst hl
  unfold ownT
  rw [List.length_append, cT_append]
  rcases A with _ | ad
  · have hn : news = [] := by
      rcases Nat.eq_zero_or_pos news.length with h0 | h0
      · exact List.eq_nil_of_length_eq_zero h0
      · obtain ⟨b, o, h, _⟩ := hr.2 h0
        cases h
    subst hn
    refine ⟨v, w, ?_, by simpa [cT, ownT] using hown, World.grownBy.refl w _, .inl rfl, by simp⟩
    rcases hown.2 with ⟨rfl, h0⟩ | ⟨g, cap, cur, rfl, _, _, hnc, _⟩
    · simp [Builtin.append_, run_underlying Try.underlying24, sizeOf, typeInfo, hi, Builtin.lenOf, Builtin.firstCells]
    · simp [Builtin.append_, run_underlying Try.underlying24, sizeOf, typeInfo, hi, Builtin.lenOf, Builtin.firstCells, hnc, storeCells]
  · have hcells : ∀ j u, (cT news)[j]? = some u → w.cell? (ad.add j) = some u := by
      intro j u hu
      rcases Nat.eq_zero_or_pos news.length with h0 | h0
      · have hn : news = [] := List.eq_nil_of_length_eq_zero h0
        subst hn
        simp [cT] at hu
      · obtain ⟨b, o, h, _, hc⟩ := hr.2 h0
        injection h with h
        subst h
        rw [add_none]
        exact hc j u hu
    obtain ⟨v', w', hrun, h2, h3, h4, h5⟩ := run_append_own_at (P := Try.prog) w base 24 t2 9 i0 _ 1 16 Try.underlying24 hi hz0 hz1 hz2 rfl (by omega) v l.length (cT l) hown ad news.length c (cT news) (by simp [cT]) hcells (cT_one _) (by unfold maxLen; omega) (by omega) hbase
    exact ⟨v', w', hrun, h2, h3, h5, h4⟩

/-- append(v, x...): v the call's own, x whatever. -/
theorem wpList_appendT {w : World} {ops : Array Oper} {rest : List Oper} {o : Oper} {a : Act} {Q : Exit → Act → World → Prop} (hgd : o.guard = none) (s x : Operand)
    (ho : o.op = .call { callee := .builtin .append, args := #[s, x], argTypes := #[24, 24] })
    (base : Nat) (v : Value) (l : List ByteArray) (hs : a.eval s = v) (hown : ownT w base v l) (B m c : Nat) (A : Option Addr) (news : List ByteArray) (hx : a.eval x = .slice A m c) (hr : RdT w B A m news)
    (hb : l.length + m ≤ 1099511627776) (hbase : base ≤ w.heap.size)
    (h : ∀ v' w', ownT w' base v' (l ++ news) → w.grownBy w' v.ownBlock → Below base w w' → (v'.ownBlock = v.ownBlock ∨ v'.ownBlock = some w.heap.size) → wpList Try.prog ops Q rest (a.put o.dst v') w') :
    wpList Try.prog ops Q (o :: rest) a w := by
  refine wpList_plain hgd fun K hK => ?_
  obtain ⟨v', w', hrun, h2, h3, h4, _⟩ := run_appendT w base o.type v l hown B m c A news hr hb hbase
  unfold Oper.wp execOp
  simp only [ho, resolve, invoke, builtin, Sem.run_bind, Sem.run_pure, Result.andThen_ok, List.map_toArray, List.map_cons, List.map_nil, hs, hx, hrun]
  exact hK _ _ (h v' w' h2 h3 ((Below.refl _ _).grown h3 hbase (fun k hk => (World.ownsRow.lt hown k hk).1)) h4)
/-- append of bytes as a step of a region that draws its order. -/
theorem step_appendT {w : World} {ops : Array Oper} {o : Oper} {a : Act} {K : Act → World → Prop} {Q : Exit → Act → World → Prop} {E : Prop} (hgd : o.guard = none) (s x : Operand)
    (ho : o.op = .call { callee := .builtin .append, args := #[s, x], argTypes := #[24, 24] })
    (base : Nat) (v : Value) (bs : List ByteArray) (hs : a.eval s = v) (hown : ownT w base v bs) (B m c : Nat) (A : Option Addr) (news : List ByteArray) (hx : a.eval x = .slice A m c) (hr : RdT w B A m news)
    (hb : bs.length + m ≤ 1099511627776) (hbase : base ≤ w.heap.size)
    (h : ∀ v' w', ownT w' base v' (bs ++ news) → w.grownBy w' v.ownBlock → Below base w w' → (v'.ownBlock = v.ownBlock ∨ v'.ownBlock = some w.heap.size) → K (a.put o.dst v') w') :
    if Region.wanted o (yielded ops a.tmps) = true then Oper.wp Try.prog o a w K Q else E := by
  have hw : Region.wanted o (yielded ops a.tmps) = true := by simp [Region.wanted, hgd]
  rw [if_pos hw]
  obtain ⟨v', w', hrun, h2, h3, h4, _⟩ := run_appendT w base o.type v bs hown B m c A news hr hb hbase
  unfold Oper.wp execOp
  simp only [ho, resolve, invoke, builtin, Sem.run_bind, Sem.run_pure, Result.andThen_ok, List.map_toArray, List.map_cons, List.map_nil, hs, hx, hrun]
  exact h v' w' h2 h3 ((Below.refl _ _).grown h3 hbase (fun k hk => (World.ownsRow.lt hown k hk).1)) h4
end Go.Proofs.Ytmffmijjdpjaiaa
