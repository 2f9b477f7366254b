/- Rows of *huff.member: one cell an element. -/
import Derived.Test.YtpbegikdohafbaaMem
namespace Go.Proofs.Ytpbegikdohafbaa
set_option linter.all false
open Go.RowKit

/-- The cells of a list. -/
def cP (l : List MP) : List Value := l.map fun x => Value.pointer (some ⟨x.1, 0, none⟩)
theorem cP_length (l : List MP) : (cP l).length = l.length := by simp [cP]
theorem cP_append (a b : List MP) : cP (a ++ b) = cP a ++ cP b := by simp [cP]
theorem cP_get {l : List MP} {k : Nat} (h : k < l.length) : (cP l)[k]? = some ((fun x : MP => Value.pointer (some ⟨x.1, 0, none⟩)) l[k]) := by simp [cP, h]
theorem cP_one (l : List MP) : ∀ u ∈ cP l, u.oneCell' = true := by
  intro u hu
  simp only [cP, List.mem_map] at hu
  obtain ⟨b, _, rfl⟩ := hu
  rfl
theorem Try.info_P : (Try.prog.info? 70).map (fun i => (i.zero, i.size, i.bytes)) = some (some (Value.pointer none), 1, 8) := by kernel_rfl
def ownP (w : World) (base : Nat) (v : Value) (l : List MP) : Prop := w.ownsRow base 70 1 v l.length (cP l)
def RdP (w : World) (B : Nat) (A : Option Addr) (n : Nat) (l : List MP) : Prop := Rd w B 1 A n (cP l)
theorem RdP.len {w : World} {B n : Nat} {A : Option Addr} {l : List MP} (h : RdP w B A n l) : l.length = n := by
  have := h.1; rw [cP_length] at this; omega
theorem RdP.at_ {w : World} {B n : Nat} {A : Option Addr} {l : List MP} (h : RdP w B A n l) (hn : 0 < n) :
    ∃ b o, A = some ⟨b, o, none⟩ ∧ b < B ∧ ∀ j (hj : j < l.length), w.cell? ⟨b, o + j, none⟩ = some ((fun x : MP => Value.pointer (some ⟨x.1, 0, none⟩)) l[j]) := by
  obtain ⟨b, o, e, hb, hc⟩ := h.2 hn
  exact ⟨b, o, e, hb, fun j hj => hc j _ (cP_get hj)⟩
theorem RdP.one {w : World} {B n : Nat} {A : Option Addr} {l : List MP} (h : RdP w B A n l) {k : Nat} (hk : k < n) :
    ∃ b o x, A = some ⟨b, o, none⟩ ∧ b < B ∧ Hid (l[k]? = some x) ∧ w.cell? ⟨b, o + k, none⟩ = some (Value.pointer (some ⟨x.1, 0, none⟩)) := by
  obtain ⟨b, o, e, hb, hc⟩ := h.at_ (by omega)
  have hl := h.len
  exact ⟨b, o, l[k], e, hb, List.getElem?_eq_getElem (by omega), hc k (by omega)⟩
theorem RdP.blw {w w' : World} {B n : Nat} {A : Option Addr} {l : List MP} (h : RdP w B A n l) (hb : Below B w w') : RdP w' B A n l := Rd.below h hb
theorem RdP.more {w : World} {B B' n : Nat} {A : Option Addr} {l : List MP} (h : RdP w B A n l) (hB : B ≤ B') : RdP w B' A n l := Rd.more h hB
theorem RdP.here {w : World} {B n : Nat} {A : Option Addr} {l : List MP} (h : RdP w B A n l) : RdP w w.heap.size A n l := Rd.here h
theorem RdP.later {w w' : World} {n : Nat} {A : Option Addr} {l : List MP} (h : RdP w w.heap.size A n l) (hb : Below w.heap.size w w') : RdP w' w'.heap.size A n l := Rd.here (Rd.below h hb)
theorem RdP.alloc {w : World} {B n : Nat} {A : Option Addr} {l : List MP} (h : RdP w B A n l) (hB : B ≤ w.heap.size) (o : Obj) : RdP (w.alloc o) B A n l := Rd.alloc h hB o
theorem RdP.nil_ {w : World} {B : Nat} {A : Option Addr} : RdP w B A 0 [] := ⟨by simp [cP], fun h => absurd h (by omega)⟩
theorem RdP.cut {w : World} {B n : Nat} {A : Option Addr} {l : List MP} (h : RdP w B A n l) {k m : Nat} (hk : k + m ≤ n) {A' : Option Addr} (hA : 0 < m → A' = A.map (·.add k)) :
    RdP w B A' m ((l.drop k).take m) := by
  have := Rd.cut h hk (A' := A') (by simpa using hA)
  unfold RdP
  simpa [cP, List.map_drop, List.map_take] using this
theorem ownP.nil_ (w : World) (base : Nat) : ownP w base (.slice none 0 0) [] := World.ownsRow_nil _ _ _ _
theorem ownP.mono {w : World} {base base' : Nat} {v : Value} {l : List MP} (h : ownP w base v l) (hb : base' ≤ base) : ownP w base' v l := by
  refine ⟨h.1, ?_⟩
  rcases h.2 with hn | ⟨g, cap, cur, rfl, hbg, rest⟩
  · exact .inl hn
  · exact .inr ⟨g, cap, cur, rfl, by omega, rest⟩
theorem ownP.later {w w' : World} {base : Nat} {v : Value} {l : List MP} (h : ownP w base v l) (hb : Below w.heap.size w w') : ownP w' base v l :=
  Below.ownsRow h hb (fun g hg => (World.ownsRow.lt h g hg).2)
theorem ownP.laterD {w w' : World} {base : Nat} {v : Value} {l : List MP} (h : ownP w base v l) (hb : Below w.drew.heap.size w.drew w') : ownP w' base v l := ownP.later (w := w.drew) h hb
theorem ownP.alloc {w : World} {base : Nat} {v : Value} {l : List MP} (h : ownP w base v l) (o : Obj) : ownP (w.alloc o) base v l := World.ownsRow.alloc h o
theorem ownP.drew {w : World} {base : Nat} {v : Value} {l : List MP} (h : ownP w base v l) : ownP w.drew base v l := h
theorem ownP.drewN {w : World} {base : Nat} {v : Value} {l : List MP} (h : ownP w base v l) (n : Nat) : ownP (w.drewN n) base v l := h
theorem ownP.form {w : World} {base : Nat} {v : Value} {l : List MP} (h : ownP w base v l) :
    ∃ A c, v = .slice A l.length c ∧ RdP w w.heap.size A l.length l ∧ l.length ≤ c ∧ c ≤ maxLen := by
  rcases h.2 with ⟨rfl, h0⟩ | ⟨g, cap, cur, rfl, _, _, h1, h2, _⟩
  · have : l = [] := List.eq_nil_of_length_eq_zero h0
    subst this
    exact ⟨none, 0, rfl, Rd.none_, by simp, by simp⟩
  · exact ⟨_, _, rfl, Rd.of_own h, h1, h2⟩
theorem ownP.kept {w w' : World} {base : Nat} {v : Value} {l : List MP} {row : Option Nat} (h : ownP w base v l) (hg : w.grownBy w' row) (hne : v.ownBlock = none ∨ v.ownBlock ≠ row) : ownP w' base v l :=
  World.ownsRow.kept h hg hne
theorem ownP.far {w : World} {base g : Nat} {v : Value} {l : List MP} (h : ownP w base v l) (hg : v.ownBlock ≠ some g) (o : Nat) (u : Value) :
    ownP (w.setCell ⟨g, o, none⟩ u) base v l := by
  refine ⟨h.1, ?_⟩
  rcases h.2 with hn | ⟨g', cap, cur, rfl, hb, hgg, rest⟩
  · exact .inl hn
  · refine .inr ⟨g', cap, cur, rfl, hb, ?_, rest⟩
    rw [Below.heap_setCell _ _ _ _ (by intro e; apply hg; simp [Value.ownBlock]; exact e)]
    exact hgg
theorem ownP.ne {w : World} {base g : Nat} {v : Value} {l : List MP} (h : ownP w base v l) (hg : g < base) : v.ownBlock ≠ some g := by
  intro e
  have := (World.ownsRow.lt h g e).1
  omega
theorem ownP.pos {w : World} {base n c : Nat} {A : Option Addr} {l : List MP} (h : ownP w base (.slice A n c) l) (hn : 0 < n) : n = l.length ∧ ∃ g, A = some ⟨g, 0, none⟩ ∧ base ≤ g ∧ g < w.heap.size := by
  rcases h.2 with ⟨h', _⟩ | ⟨g, cap, cur, h', hb, hg, _⟩
  · injection h' with _ h2; omega
  · injection h' with h1 h2
    exact ⟨h2, g, h1, hb, (World.ownsRow.lt h g (by rw [h1]; rfl)).2⟩
theorem ownP.cell {w : World} {base g n c : Nat} {l : List MP} (h : ownP w base (.slice (some ⟨g, 0, none⟩) n c) l) (hn : n = l.length) {k : Nat} (hk : k < l.length) :
    w.cell? ⟨g, k, none⟩ = some ((fun x : MP => Value.pointer (some ⟨x.1, 0, none⟩)) l[k]) := by
  subst hn
  rw [World.ownsRow.cellAt h k (by omega), cP_get hk]
theorem ownP.frozen {w : World} {base g n c : Nat} {l : List MP} (h : ownP w base (.slice (some ⟨g, 0, none⟩) n c) l) (hn : n = l.length) (k : Nat) :
    w.frozen? ⟨g, k, none⟩ = false := by
  subst hn
  exact World.ownsRow.frozenAt h k
theorem ownP.store {w : World} {base g n c : Nat} {l : List MP} (h : ownP w base (.slice (some ⟨g, 0, none⟩) n c) l) (hn : n = l.length) (k : Nat) (x : MP) :
    ownP (w.setCell ⟨g, k, none⟩ (Value.pointer (some ⟨x.1, 0, none⟩))) base (.slice (some ⟨g, 0, none⟩) n c) (l.set k x) := by
  subst hn
  have := (World.ownsRow.stored h k (Value.pointer (some ⟨x.1, 0, none⟩))).1
  unfold ownP
  rw [List.length_set]
  have e : cP (l.set k x) = (cP l).set k (Value.pointer (some ⟨x.1, 0, none⟩)) := by simp [cP, List.map_set]
  rwa [e]
theorem ownP.rd {w : World} {base n c : Nat} {A : Option Addr} {l : List MP} (h : ownP w base (.slice A n c) l) : RdP w w.heap.size A n l := by
  obtain ⟨A4, c4, e5, hd4, _, _⟩ := h.form
  injection e5 with e1 e2 e3
  rw [e1, e2]
  exact hd4
/-- A literal's own row. -/
theorem own_litP (w : World) (l : List MP) (hm : l.length ≤ 1099511627776) : ownP (w.alloc (.cells (cP l).toArray 70)) w.heap.size (.slice (some ⟨w.heap.size, 0, none⟩) l.length l.length) l := by
  have := World.ownsRow_lit (base := w.heap.size) (size := 1) (e := 70) w (cP l).toArray l.length (Nat.le_refl _) (by unfold maxLen; omega) (by simp [cP])
  exact this
theorem rd_litP (w : World) (t : TypeId) (fr : Nat × Nat) (l : List MP) : RdP (w.alloc (.cells (cP l).toArray t fr)) (w.heap.size + 1) (some ⟨w.heap.size, 0, none⟩) l.length l := by
  refine ⟨by simp [cP], fun _ => ⟨_, _, rfl, by omega, fun j u hu => ?_⟩⟩
  rw [Nat.zero_add]
  have := cell_of_row (w.alloc (.cells (cP l).toArray t fr)) w.heap.size j (cP l).toArray t fr (heap_alloc_new w _)
  rw [this]
  simpa using hu
theorem rd_oneP (w : World) (x : MP) : RdP (w.alloc (.cells #[Value.pointer (some ⟨x.1, 0, none⟩)] 70)) (w.heap.size + 1) (some ⟨w.heap.size, 0, none⟩) 1 [x] := rd_litP w 70 (0, 0) [x]

theorem run_appendP (w : World) (base : Nat) (t2 : TypeId) (v : Value) (l : List MP) (hown : ownP w base v l) (B m c : Nat) (A : Option Addr) (news : List MP) (hr : RdP w B A m news)
    (hb : l.length + m ≤ 1099511627776) (hbase : base ≤ w.heap.size) :
    ∃ v' w', (Builtin.append_ #[66, 66] t2 #[v, .slice A m c]).run Try.prog w = .ok v' w' ∧ ownP w' base v' (l ++ news) ∧ w.grownBy w' v.ownBlock ∧
      (v'.ownBlock = v.ownBlock ∨ v'.ownBlock = some w.heap.size) ∧ (v' = .slice none 0 0 ↔ v = .slice none 0 0 ∧ m = 0) := by
  obtain ⟨i0, hi, hz0, hz1, hz2⟩ := info_parts Try.info_P
  have hl := hr.len
  subst hl
  unfold ownP
  rw [List.length_append, cP_append]
  rcases A with _ | ad
  · have hn : news = [] := by
      rcases Nat.eq_zero_or_pos news.length with h0 | h0
      · exact List.eq_nil_of_length_eq_zero h0
      · obtain ⟨b, o, h, _⟩ := hr.2 h0
        cases h
    subst hn
    refine ⟨v, w, ?_, by simpa [cP, ownP] using hown, World.grownBy.refl w _, .inl rfl, by simp⟩
    rcases hown.2 with ⟨rfl, h0⟩ | ⟨g, cap, cur, rfl, _, _, hnc, _⟩
    · simp [Builtin.append_, run_underlying Try.underlying66, sizeOf, typeInfo, hi, Builtin.lenOf, Builtin.firstCells]
    · simp [Builtin.append_, run_underlying Try.underlying66, sizeOf, typeInfo, hi, Builtin.lenOf, Builtin.firstCells, hnc, storeCells]
  · have hcells : ∀ j u, (cP news)[j]? = some u → w.cell? (ad.add j) = some u := by
      intro j u hu
      rcases Nat.eq_zero_or_pos news.length with h0 | h0
      · have hn : news = [] := List.eq_nil_of_length_eq_zero h0
        subst hn
        simp [cP] at hu
      · obtain ⟨b, o, h, _, hc⟩ := hr.2 h0
        injection h with h
        subst h
        rw [add_none]
        exact hc j u hu
    obtain ⟨v', w', hrun, h2, h3, h4, h5⟩ := run_append_own_at (P := Try.prog) w base 66 t2 70 i0 _ 1 8 Try.underlying66 hi hz0 hz1 hz2 rfl (by omega) v l.length (cP l) hown ad news.length c (cP news) (by simp [cP]) hcells (cP_one _) (by unfold maxLen; omega) (by omega) hbase
    exact ⟨v', w', hrun, h2, h3, h5, h4⟩

/-- append(v, x...): v the call's own, x whatever. -/
theorem wpList_appendP {w : World} {ops : Array Oper} {rest : List Oper} {o : Oper} {a : Act} {Q : Exit → Act → World → Prop} (hgd : o.guard = none) (s x : Operand)
    (ho : o.op = .call { callee := .builtin .append, args := #[s, x], argTypes := #[66, 66] })
    (base : Nat) (v : Value) (l : List MP) (hs : a.eval s = v) (hown : ownP w base v l) (B m c : Nat) (A : Option Addr) (news : List MP) (hx : a.eval x = .slice A m c) (hr : RdP w B A m news)
    (hb : l.length + m ≤ 1099511627776) (hbase : base ≤ w.heap.size)
    (h : ∀ v' w', ownP w' base v' (l ++ news) → w.grownBy w' v.ownBlock → Below base w w' → (v'.ownBlock = v.ownBlock ∨ v'.ownBlock = some w.heap.size) → wpList Try.prog ops Q rest (a.put o.dst v') w') :
    wpList Try.prog ops Q (o :: rest) a w := by
  refine wpList_plain hgd fun K hK => ?_
  obtain ⟨v', w', hrun, h2, h3, h4, _⟩ := run_appendP w base o.type v l hown B m c A news hr hb hbase
  unfold Oper.wp execOp
  simp only [ho, resolve, invoke, builtin, Sem.run_bind, Sem.run_pure, Result.andThen_ok, List.map_toArray, List.map_cons, List.map_nil, hs, hx, hrun]
  exact hK _ _ (h v' w' h2 h3 ((Below.refl _ _).grown h3 hbase (fun k hk => (World.ownsRow.lt hown k hk).1)) h4)
/-- append of bytes as a step of a region that draws its order. -/
theorem step_appendP {w : World} {ops : Array Oper} {o : Oper} {a : Act} {K : Act → World → Prop} {Q : Exit → Act → World → Prop} {E : Prop} (hgd : o.guard = none) (s x : Operand)
    (ho : o.op = .call { callee := .builtin .append, args := #[s, x], argTypes := #[66, 66] })
    (base : Nat) (v : Value) (bs : List MP) (hs : a.eval s = v) (hown : ownP w base v bs) (B m c : Nat) (A : Option Addr) (news : List MP) (hx : a.eval x = .slice A m c) (hr : RdP w B A m news)
    (hb : bs.length + m ≤ 1099511627776) (hbase : base ≤ w.heap.size)
    (h : ∀ v' w', ownP w' base v' (bs ++ news) → w.grownBy w' v.ownBlock → Below base w w' → (v'.ownBlock = v.ownBlock ∨ v'.ownBlock = some w.heap.size) → K (a.put o.dst v') w') :
    if Region.wanted o (yielded ops a.tmps) = true then Oper.wp Try.prog o a w K Q else E := by
  have hw : Region.wanted o (yielded ops a.tmps) = true := by simp [Region.wanted, hgd]
  rw [if_pos hw]
  obtain ⟨v', w', hrun, h2, h3, h4, _⟩ := run_appendP w base o.type v bs hown B m c A news hr hb hbase
  unfold Oper.wp execOp
  simp only [ho, resolve, invoke, builtin, Sem.run_bind, Sem.run_pure, Result.andThen_ok, List.map_toArray, List.map_cons, List.map_nil, hs, hx, hrun]
  exact h v' w' h2 h3 ((Below.refl _ _).grown h3 hbase (fun k hk => (World.ownsRow.lt hown k hk).1)) h4
end Go.Proofs.Ytpbegikdohafbaa
