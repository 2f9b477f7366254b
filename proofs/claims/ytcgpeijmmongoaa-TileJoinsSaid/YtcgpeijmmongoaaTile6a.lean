/- tile: all rows of a tile cut. -/
import Derived.Test.YtcgpeijmmongoaaTileL
namespace Go.Proofs.Ytcgpeijmmongoaa
set_option linter.all false
open Go.RowKit

def Sh.cutB (s : Sh) (bs : List UInt8) (j : Nat) : List UInt8 := TG.cut s.W s.H s.B bs j
def fillB (s : Sh) (bs : List UInt8) (j q : Nat) : List UInt8 := TG.cutTo s.W s.B bs j q ++ List.replicate (TG.tH s.W s.H j * TG.tN s.W s.B j - q * TG.tN s.W s.B j) 0
theorem cutB_len {s : Sh} {bs : List UInt8} (hm : s.may = true) (hl : bs.length = s.H * (s.W * s.B)) (j : Nat) : (s.cutB bs j).length = TG.tH s.W s.H j * TG.tN s.W s.B j := TG.cut_len (Sh.B_pos (Sh.may_nums hm)).1 hl j
theorem fillB_len {s : Sh} {bs : List UInt8} (hm : s.may = true) (hl : bs.length = s.H * (s.W * s.B)) {j q : Nat} (hq : q ≤ TG.tH s.W s.H j) : (fillB s bs j q).length = TG.tH s.W s.H j * TG.tN s.W s.B j := by
  have h1 := TG.cutTo_len (Sh.B_pos (Sh.may_nums hm)).1 hl (i := j) q hq
  have h2 : q * TG.tN s.W s.B j ≤ TG.tH s.W s.H j * TG.tN s.W s.B j := Nat.mul_le_mul_right _ hq
  unfold fillB
  rw [List.length_append, h1, List.length_replicate]
  omega

structure CutInv (B gt rb g m n c base : Nat) (A : Option Addr) (bs : List UInt8) (s : Sh) (k : Nat) (p0 p1 p2 p3 q0 q1 q2 q3 : Value) (q : Nat) (w : World) : Prop where
  t : ∀ i, w.cell? ⟨gt, i, none⟩ = r5 p0 p1 p2 p3 (.slice (some ⟨g, 0, none⟩) m m) i
  r : ∀ i, w.cell? ⟨rb, i, none⟩ = r5 q0 q1 q2 q3 (.slice A n c) i
  o : ownB w base (.slice (some ⟨g, 0, none⟩) m m) (fillB s bs k q)
  d : RdB w B A n bs
  b : B ≤ w.heap.size
  h : q ≤ TG.tH s.W s.H k

theorem rowsCut_fill (s : Sh) (k B gt rb g m n c base : Nat) (A : Option Addr) (bs : List UInt8) (p0 p1 p2 p3 q0 q1 q2 q3 : Value) (w : World)
    (hm : s.may = true) (hk : (k : Int) < s.gw * s.gh) (hl : bs.length = s.H * (s.W * s.B)) (hB : B ≤ w.heap.size) (hBg : B ≤ g) (hg : g < w.heap.size) (hne : gt ≠ g) (hne2 : rb ≠ g)
    (hmk : m = TG.tH s.W s.H k * TG.tN s.W s.B k) (hn : n ≤ 140737488355328) (hm2 : m ≤ 140737488355328) (hc : n ≤ c) (hmx : c ≤ maxLen)
    (cT : ∀ i, w.cell? ⟨gt, i, none⟩ = r5 p0 p1 p2 p3 (.slice (some ⟨g, 0, none⟩) m m) i) (cR : ∀ i, w.cell? ⟨rb, i, none⟩ = r5 q0 q1 q2 q3 (.slice A n c) i)
    (hO : ownB w base (.slice (some ⟨g, 0, none⟩) m m) (List.replicate m 0)) (hr : RdB w B A n bs) :
    Calls Try.prog 59 #[s.v, .int .i64 k, .func (.func 60) #[] #[.pointer (some ⟨gt, 0, none⟩), .pointer (some ⟨rb, 0, none⟩)]] w fun e w' =>
      e = .returned (.tuple #[]) ∧ (∀ i, w'.cell? ⟨gt, i, none⟩ = r5 p0 p1 p2 p3 (.slice (some ⟨g, 0, none⟩) m m) i) ∧ ownB w' base (.slice (some ⟨g, 0, none⟩) m m) (s.cutB bs k) ∧ w.grownBy w' (some g) := by
  have hnum := Sh.may_nums hm
  have hW := (Sh.B_pos hnum).1
  have hBp := (Sh.B_pos hnum).2
  have hH := Sh.part_h hm k
  have hR := Sh.part_row hm hk
  have hA := Sh.at_nat hm hk
  have hph : 0 ≤ (s.part (k : Int)).h := by obtain ⟨-, -, ⟨h, -⟩, -⟩ := Sh.rows_facts hm (Int.natCast_nonneg k) hk; omega
  refine (rowsCut_any (Inv := CutInv B gt rb g m n c base A bs s k p0 p1 p2 p3 q0 q1 q2 q3) s k g _ _ w hm (Int.natCast_nonneg k) hk hg ?_ ?_ ?_).mono ?_
  · exact ⟨cT, cR, by unfold fillB; rw [TG.fill_zero, ← hmk]; exact hO, hr, hB, Nat.zero_le _⟩
  · intro q w1 w2 h hb
    exact ⟨kept h.t rfl hb, kept h.r rfl hb, h.o.later hb, h.d.blw (hb.mono h.b), Nat.le_trans h.b hb.size, h.h⟩
  · intro q hq w1 hg1 h
    have hq' : q < TG.tH s.W s.H k := by have := hH.2; omega
    have hfit := TG.tP_fit (B := s.B) hW hq'
    have hnl := hr.len
    have e2 : (q : Int) * ((TG.tN s.W s.B k : Nat) : Int) = ((q * TG.tN s.W s.B k : Nat) : Int) := by push_cast; rfl
    have h3 : (q + 1) * TG.tN s.W s.B k ≤ TG.tH s.W s.H k * TG.tN s.W s.B k := Nat.mul_le_mul_right _ hq'
    rw [Nat.succ_mul] at h3
    have hN1 : 1 ≤ TG.tN s.W s.B k := by
      have := TG.tX_lt hW k
      unfold TG.tN
      exact Nat.mul_pos (by omega) hBp
    rw [hA q, hR, e2]
    refine (cutClo_any base gt rb g m B n c A bs (fillB s bs k q) p0 p1 p2 p3 q0 q1 q2 q3 (TG.tP s.W s.B k q) (q * TG.tN s.W s.B k) (TG.tN s.W s.B k) w1 h.t h.r h.o (by rw [fillB_len hm hl (by omega)]; exact hmk) h.d hc hmx hm2 hn hN1 (by omega) (by omega)).mono ?_
    rintro e w' ⟨rfl, ho, hg2⟩
    refine ⟨rfl, ⟨kG5 h.t hg2 hne, kG5 h.r hg2 hne2, ?_, ?_, Nat.le_trans h.b hg2.size, hq'⟩, hg2⟩
    · have := TG.fill_step hW hl hq'
      unfold fillB at ho ⊢
      rw [this] at ho
      exact ho
    · exact Rd.grown h.d hg2 h.b (fun r e => by injection e with e; omega)
  · rintro e w' ⟨rfl, h, hg'⟩
    refine ⟨rfl, h.t, ?_, hg'⟩
    have := h.o
    rw [hH.2] at this
    unfold fillB at this
    rw [TG.fill_end] at this
    exact this

end Go.Proofs.Ytcgpeijmmongoaa
