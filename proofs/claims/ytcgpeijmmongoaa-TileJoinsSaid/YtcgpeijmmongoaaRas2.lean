/- Lists of pictures in walks. -/
import Derived.Test.YtcgpeijmmongoaaTileB
namespace Go.Proofs.Ytcgpeijmmongoaa
set_option linter.all false
open Go.RowKit

theorem RdR.later {w w' : World} {n : Nat} {A : Option Addr} {l : List Ra} (h : RdR w w.heap.size A n l) (hb : Below w.heap.size w w') : RdR w' w'.heap.size A n l := (h.blw hb).more hb.size
theorem RdR.alloc {w : World} {n : Nat} {A : Option Addr} {l : List Ra} (h : RdR w w.heap.size A n l) (o : Obj) : RdR (w.alloc o) (w.alloc o).heap.size A n l := h.later ((Below.refl _ _).alloc (Nat.le_refl _) _)
theorem RdR.drew {w : World} {B n : Nat} {A : Option Addr} {l : List Ra} (h : RdR w B A n l) : RdR w.drew B A n l := ⟨h.1, h.2⟩
/-- A list of the call's own, read. -/
theorem ownR.rd {w : World} {base base' : Nat} {v : Value} {s : Sh} {bs : List UInt8} {l : List Ra} (h : ownR w base v l) (ht : Tiles w base' s bs l) : ∃ A c, v = .slice A l.length c ∧ RdR w w.heap.size A l.length l ∧ l.length ≤ c ∧ c ≤ maxLen := by
  obtain ⟨A, c, e, hr, h1, h2⟩ := h.form
  refine ⟨A, c, e, ⟨hr, fun x hx => ?_⟩, h1, h2⟩
  obtain ⟨j, hj, rfl⟩ := List.getElem_of_mem hx
  obtain ⟨-, -, a3, a4⟩ := ht j hj
  refine ⟨a4.rd, ?_⟩
  obtain ⟨A', c', e', -, q1, q2⟩ := a4.form
  injection e' with _ e2 e3
  omega
theorem AsCut.of {w : World} {base' : Nat} {s : Sh} {bs : List UInt8} {l : List Ra} (h : l.length = (s.gw * s.gh).toNat) (ht : Tiles w base' s bs l) : AsCut s bs l :=
  ⟨h, fun j hj => ⟨(ht j hj).1, (ht j hj).2.1, (ht j hj).2.2.1⟩⟩

/-- The five cells of an element. -/
def Cell5 (w : World) (b p : Nat) (x : Ra) : Prop :=
  w.cell? ⟨b, p, none⟩ = some (.int .i64 x.s.w) ∧ w.cell? ⟨b, p + 1, none⟩ = some (.int .i64 x.s.h) ∧ w.cell? ⟨b, p + 2, none⟩ = some (.int .i64 x.s.c) ∧ w.cell? ⟨b, p + 3, none⟩ = some (.int .i64 x.s.d) ∧ w.cell? ⟨b, p + 4, none⟩ = some (.slice x.A x.n x.c)
theorem RdR.cell5 {w : World} {B n : Nat} {A : Option Addr} {l : List Ra} (h : RdR w B A n l) {i : Nat} (hi : i < l.length) : ∃ b o, A = some ⟨b, o, none⟩ ∧ b < B ∧ Cell5 w b (o + i * 5) l[i] := by
  obtain ⟨b, o, e, hb, -, hc⟩ := Rd.ras h.1 hi
  have h0 := hc 0 (by omega)
  have h1 := hc 1 (by omega)
  have h2 := hc 2 (by omega)
  have h3 := hc 3 (by omega)
  have h4 := hc 4 (by omega)
  rw [Nat.add_zero] at h0
  exact ⟨b, o, e, hb, h0, h1, h2, h3, h4⟩
theorem Cell5.kept {w w' : World} {b p : Nat} {x : Ra} (h : Cell5 w b p x) (hb : Below w.heap.size w w') : Cell5 w' b p x := by
  have hl := block_lt_of_cell (a := ⟨b, p, none⟩) h.1
  obtain ⟨h0, h1, h2, h3, h4⟩ := h
  exact ⟨(hb.cell (p := ⟨b, p, none⟩) hl).trans h0, (hb.cell (p := ⟨b, p + 1, none⟩) hl).trans h1, (hb.cell (p := ⟨b, p + 2, none⟩) hl).trans h2, (hb.cell (p := ⟨b, p + 3, none⟩) hl).trans h3, (hb.cell (p := ⟨b, p + 4, none⟩) hl).trans h4⟩
theorem Cell5.keptD {w w' : World} {b p : Nat} {x : Ra} (h : Cell5 w b p x) (hb : Below w.drew.heap.size w.drew w') : Cell5 w' b p x := Cell5.kept (w := w.drew) h hb
theorem Cell5.alloc {w : World} {b p : Nat} {x : Ra} (h : Cell5 w b p x) (o : Obj) : Cell5 (w.alloc o) b p x := h.kept ((Below.refl _ _).alloc (Nat.le_refl _) _)
theorem Cell5.drew {w : World} {b p : Nat} {x : Ra} (h : Cell5 w b p x) : Cell5 w.drew b p x := h

/-- Join's contract with all its cases. -/
theorem join_any (s : Sh) (B n c : Nat) (A : Option Addr) (l : List Ra) (w : World) (hr : RdR w B A n l) (hB1 : B ≤ w.heap.size) (hc : n ≤ c) (hmx : c ≤ maxLen) :
    Calls Try.prog 31 #[s.v, .slice A n c] w fun e w' => ∃ A' n' c', e = .returned (.tuple #[(s.joinR l).1.r A' n' c', .int .i64 (s.joinE l)]) ∧ ownB w' w.heap.size (.slice A' n' c') (s.joinR l).2 ∧ Below w.heap.size w w' := by
  have hl := hr.len
  cases hm : s.may with
  | false =>
    have HE : s.joinE l = 4 := by unfold Sh.joinE; rw [hm]; rfl
    have HJ : s.joinR l = (⟨0, 0, 0, 0⟩, []) := by unfold Sh.joinR; rw [if_neg (by rw [HE]; decide)]
    rw [HE, HJ]
    refine (join_early s n c A w 4 (.inl ⟨hm, rfl⟩)).mono ?_
    rintro e w' ⟨rfl, hb⟩
    exact ⟨_, _, _, rfl, ownB.nil_ _ _, hb⟩
  | true =>
    by_cases hn : (n : Int) = s.gw * s.gh
    · exact join_loop s B n c A l w hr hB1 hc hmx hm hn
    · have HE : s.joinE l = 1 := by unfold Sh.joinE; rw [hm, if_pos rfl, if_neg (by rw [hl]; exact hn)]
      have HJ : s.joinR l = (⟨0, 0, 0, 0⟩, []) := by unfold Sh.joinR; rw [if_neg (by rw [HE]; decide)]
      rw [HE, HJ]
      refine (join_early s n c A w 1 (.inr ⟨hm, hn, rfl⟩)).mono ?_
      rintro e w' ⟨rfl, hb⟩
      exact ⟨_, _, _, rfl, ownB.nil_ _ _, hb⟩

/-- Cut's contract with all its cases. -/
theorem cut_no (s : Sh) (n c : Nat) (A : Option Addr) (w : World) (hmr : s.mayR n = false) :
    Calls Try.prog 26 #[s.r A n c] w fun e w' => e = .returned (.tuple #[.slice none 0 0, .int .i64 4]) ∧ Below w.heap.size w w' := by
  have hB := Below.refl w.heap.size w
  have HM := Lib.hid (fun w => may_any s A n c w)
  have HMV := Lib.hid hmr
  clear hmr
  dsimp only [Sh.r, Sh.v] at *
  go_enter Try.func26, Try.ntmps26
  go_wp2_with (first
    | (go_at_call 20; (with_reducible refine (HM.out _).mono ?_); go_must (rintro e w1 ⟨rfl, hb1⟩; rw [HMV.out]; replace hB := bxd hb1; clear hb1)))
  go_ret2
  exact ⟨rfl, hB⟩
end Go.Proofs.Ytcgpeijmmongoaa
