/- HuffBack: places written and read, plainly. -/
import Derived.Test.YtpbegikdohafbaaWrite2
import Derived.Test.YtpbegikdohafbaaHuffReads
namespace Go.Proofs.Ytpbegikdohafbaa
set_option linter.all false
open Go.RowKit

/-- The bits of places' codes. -/
def codesB (ls : List Int) (D : List Nat) : List Nat := D.flatMap (codeB ls)
def intsN (D : List Nat) : List Int := D.map fun (x : Nat) => (x : Int)
theorem intsN_len (D : List Nat) : (intsN D).length = D.length := by simp [intsN]
/-- Places that have a code. -/
def HasC (ls : List Int) (D : List Nat) : Prop := ∀ p ∈ D, ∃ t : Nat, ls[p]? = some (t : Int) ∧ 0 < t
theorem codesB_snoc (ls : List Int) (D : List Nat) (p : Nat) : codesB ls (D ++ [p]) = codesB ls D ++ codeB ls p := by simp [codesB]
theorem codeB_at {ls : List Int} {p t : Nat} (hp : ls[p]? = some (t : Int)) (h0 : 0 < t) : codeB ls p = msb (fst ls t + cnt (ls.take p) t) t t := by
  unfold codeB
  rw [codeAt_pos hp h0]
  rfl
theorem codesB_le {ls : List Int} (hbad : badL ls = false) : ∀ D : List Nat, HasC ls D → (codesB ls D).length ≤ 15 * D.length := by
  intro D
  induction D with
  | nil => intro _; simp [codesB]
  | cons p r ih =>
    intro h
    obtain ⟨t, hp, h0⟩ := h p (by simp)
    have := good_at hbad hp
    have h2 := ih (fun q hq => h q (by simp [hq]))
    unfold codesB at h2 ⊢
    rw [List.flatMap_cons, List.length_append, codeB_at hp h0, msb_len, List.length_cons]
    omega
theorem HasC.snoc {ls : List Int} {D : List Nat} (h : HasC ls D) {p t : Nat} (hp : ls[p]? = some (t : Int)) (h0 : 0 < t) : HasC ls (D ++ [p]) := by
  intro q hq
  rw [List.mem_append, List.mem_singleton] at hq
  rcases hq with hq | rfl
  · exact h q hq
  · exact ⟨t, hp, h0⟩
theorem codesB_take {ls : List Int} {D : List Nat} {i : Nat} (hi : i < D.length) : codesB ls D = codesB ls (D.take i) ++ (codeB ls D[i] ++ codesB ls (D.drop (i + 1))) := by
  have e : D = D.take i ++ D[i] :: D.drop (i + 1) := by rw [← List.drop_eq_getElem_cons hi, List.take_append_drop]
  refine (congrArg (codesB ls) e).trans ?_
  unfold codesB
  rw [List.flatMap_append, List.flatMap_cons]
theorem codesB_next {ls : List Int} {D : List Nat} {i : Nat} (hi : i < D.length) : (codesB ls (D.take (i + 1))).length = (codesB ls (D.take i)).length + (codeB ls D[i]).length := by
  rw [List.take_succ_eq_append_getElem hi, codesB_snoc, List.length_append]
/-- What Next reads at the i-th place that was written. -/
theorem nx_back {ls : List Int} (hbad : badL ls = false) (hk : krN ls ≤ 32768) {bs : List UInt8} {D : List Nat} (hD : HasC ls D) (hW : WB bs (codesB ls D)) {i : Nat} (hi : i < D.length) :
    nx ls bs 15 1 0 (codesB ls (D.take i)).length = ((D[i] : Int), 0, (codesB ls (D.take (i + 1))).length) := by
  obtain ⟨t, hp, h0⟩ := hD D[i] (List.getElem_mem hi)
  rw [codesB_take hi] at hW
  rw [codesB_next hi]
  exact nx_place hbad hk hp h0 hW
theorem codesB_bound {ls : List Int} {bs : List UInt8} {D : List Nat} (hW : WB bs (codesB ls D)) (i : Nat) : (codesB ls (D.take i)).length ≤ 8 * bs.length := by
  have h1 := hW.1
  have h2 : (codesB ls (D.take i)).length ≤ (codesB ls D).length := by
    have e : codesB ls D = codesB ls (D.take i) ++ codesB ls (D.drop i) := by unfold codesB; rw [← List.flatMap_append, List.take_append_drop]
    rw [e, List.length_append]
    omega
  omega
theorem bytes_any (g : Nat) (pv : Value) (bs : List UInt8) (L : List Nat) (w : World) (h : Wr w g pv bs L) (hb : L.length ≤ 1000000) :
    Calls Try.prog 28 #[.pointer (some ⟨g, 0, none⟩)] w fun e w' => ∃ v, e = .returned v ∧ ownB w' w.heap.size v bs ∧ Below w.heap.size w w' := by
  obtain ⟨h1, h2, h3⟩ := h
  obtain ⟨A, c, rfl, hr, -, -⟩ := h2.form
  have c0 := h1.cell (k := 0) rfl
  have HC := Lib.hid (cloneB2_any w.heap.size bs.length c A bs w hr (by have := h3.1; omega))
  clear h1 h2 h3 hr
  go_enter Try.func28, Try.ntmps28
  go_wp2_with (go_at_call 36; (with_reducible refine HC.out.mono ?_); go_must (rintro e w1 ⟨v, rfl, ho, hb⟩))
  go_ret
  exact ⟨_, rfl, ho, hb⟩
theorem Wr.drew {w : World} {g : Nat} {pv : Value} {bs : List UInt8} {L : List Nat} (h : Wr w g pv bs L) : Wr w.drew g pv bs L := ⟨h.1.drew, h.2.1.drew, h.2.2⟩
theorem Wr.drewN {w : World} {g : Nat} {pv : Value} {bs : List UInt8} {L : List Nat} (h : Wr w g pv bs L) (q : Nat) : Wr (w.drewN q) g pv bs L := ⟨h.1.drewN q, h.2.1.drewN q, h.2.2⟩
theorem WrFr.undrew {w w' : World} {g : Nat} {pv pv' : Value} (h : WrFr w.drew w' g pv pv') : WrFr w w' g pv pv' := ⟨h.os, h.tape, h.output, h.size, h.block, h.own⟩
/-- Two rows in unlike blocks. -/
def Dis (a b : Value) : Prop := ∀ k, a.ownBlock = some k → b.ownBlock ≠ some k
theorem ownI.same {w w' : World} {base : Nat} {v : Value} {l : List Int} (h : ownI w base v l) (hb : ∀ k, v.ownBlock = some k → w'.heap[k]? = w.heap[k]?) : ownI w' base v l := by
  refine ⟨h.1, ?_⟩
  rcases h.2 with hn | ⟨g, cap, cur, rfl, hbg, hg, rest⟩
  · exact .inl hn
  · exact .inr ⟨g, cap, cur, rfl, hbg, (hb g rfl).trans hg, rest⟩
theorem ownI.wr {w w' : World} {g : Nat} {pv pv' v : Value} {l : List Int} (h : ownI w (g + 1) v l) (hf : WrFr w w' g pv pv') (hd : Dis pv v) : ownI w' (g + 1) v l :=
  h.same fun k hk => hf.block k (World.ownsRow.lt h k hk).2 (by have := (World.ownsRow.lt h k hk).1; omega) (fun e => hd k e hk)
theorem Dis.wr {w w' : World} {g : Nat} {pv pv' v : Value} {l : List Int} (h : ownI w (g + 1) v l) (hf : WrFr w w' g pv pv') (hd : Dis pv v) : Dis pv' v := by
  intro k hk hv
  rcases hf.own with e | ⟨j, hj, e⟩
  · exact hd k (e.symm.trans hk) hv
  · rw [e] at hk
    injection hk with hk
    have := (World.ownsRow.lt h k hv).2
    omega
/-- The writer while another row grows. -/
theorem Wr.gro {w w' : World} {g : Nat} {pv v : Value} {bs : List UInt8} {L : List Nat} {l : List Int} (o : Obj) (h : Wr w g pv bs L) (hv : ownI w (g + 1) v l) (hd : Dis pv v) (hg : (w.alloc o).grownBy w' v.ownBlock) : Wr w' g pv bs L := by
  obtain ⟨h1, h2, h3⟩ := h
  refine ⟨?_, ?_, h3⟩
  · have hl := (h1.alloc o).lt
    obtain ⟨t, h1⟩ := h1.alloc o
    exact ⟨t, (hg.block g hl (fun e => by have := (World.ownsRow.lt hv g e.symm).1; omega)).trans h1⟩
  · refine ownB.kept (h2.alloc o) hg ?_
    cases e : pv.ownBlock with
    | none => exact .inl rfl
    | some k => exact .inr (fun e2 => hd k e e2.symm)
theorem Dis.gro {w : World} {g : Nat} {pv v v' : Value} {bs : List UInt8} {L : List Nat} (o : Obj) (h : Wr w g pv bs L) (hd : Dis pv v) (hat : v'.ownBlock = v.ownBlock ∨ v'.ownBlock = some (w.alloc o).heap.size) : Dis pv v' := by
  intro k hk hv
  rcases hat with e | e
  · exact hd k hk (e.symm.trans hv)
  · rw [e] at hv
    injection hv with hv
    have := (World.ownsRow.lt h.2.1 k hk).2
    simp at hv
    omega
end Go.Proofs.Ytpbegikdohafbaa
