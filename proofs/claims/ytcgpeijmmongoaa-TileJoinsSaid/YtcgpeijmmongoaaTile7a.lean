/- tile: all rows of a tile laid into a picture. -/
import Derived.Test.YtcgpeijmmongoaaTile6a
namespace Go.Proofs.Ytcgpeijmmongoaa
set_option linter.all false
open Go.RowKit

structure JoinInv (B gt rb g m n c base : Nat) (A : Option Addr) (ts L : List UInt8) (s : Sh) (k : Nat) (p0 p1 p2 p3 q0 q1 q2 q3 : Value) (q : Nat) (w : World) : Prop where
  t : ∀ i, w.cell? ⟨gt, i, none⟩ = r5 p0 p1 p2 p3 (.slice (some ⟨g, 0, none⟩) m m) i
  r : ∀ i, w.cell? ⟨rb, i, none⟩ = r5 q0 q1 q2 q3 (.slice A n c) i
  o : ownB w base (.slice (some ⟨g, 0, none⟩) m m) (TG.put s.W s.B ts k L q)
  d : RdB w B A n ts
  b : B ≤ w.heap.size
  h : q ≤ TG.tH s.W s.H k

theorem rowsJoin_fill (s : Sh) (k B gt rb g m n c base : Nat) (A : Option Addr) (ts L : List UInt8) (p0 p1 p2 p3 q0 q1 q2 q3 : Value) (w : World)
    (hm : s.may = true) (hk : (k : Int) < s.gw * s.gh) (hB : B ≤ w.heap.size) (hBg : B ≤ g) (hg : g < w.heap.size) (hne : gt ≠ g) (hne2 : rb ≠ g)
    (hl : L.length = m) (hmk : m = s.H * (s.W * s.B)) (hnk : n = TG.tH s.W s.H k * TG.tN s.W s.B k) (hn : n ≤ 140737488355328) (hm2 : m ≤ 140737488355328) (hc : n ≤ c) (hmx : c ≤ maxLen)
    (cT : ∀ i, w.cell? ⟨gt, i, none⟩ = r5 p0 p1 p2 p3 (.slice (some ⟨g, 0, none⟩) m m) i) (cR : ∀ i, w.cell? ⟨rb, i, none⟩ = r5 q0 q1 q2 q3 (.slice A n c) i)
    (hO : ownB w base (.slice (some ⟨g, 0, none⟩) m m) L) (hr : RdB w B A n ts) :
    Calls Try.prog 59 #[s.v, .int .i64 k, .func (.func 61) #[] #[.pointer (some ⟨gt, 0, none⟩), .pointer (some ⟨rb, 0, none⟩)]] w fun e w' =>
      e = .returned (.tuple #[]) ∧ ownB w' base (.slice (some ⟨g, 0, none⟩) m m) (TG.put s.W s.B ts k L (TG.tH s.W s.H k)) ∧ w.grownBy w' (some g) := by
  have hnum := Sh.may_nums hm
  have hW := (Sh.B_pos hnum).1
  have hBp := (Sh.B_pos hnum).2
  have hH := Sh.part_h hm k
  have hR := Sh.part_row hm hk
  have hA := Sh.at_nat hm hk
  have hnl := hr.len
  have hts : ts.length = TG.tH s.W s.H k * TG.tN s.W s.B k := by omega
  have hLl : L.length = s.H * (s.W * s.B) := by omega
  refine (rowsJoin_any (Inv := JoinInv B gt rb g m n c base A ts L s k p0 p1 p2 p3 q0 q1 q2 q3) s k g _ _ w hm (Int.natCast_nonneg k) hk hg ?_ ?_ ?_).mono ?_
  · exact ⟨cT, cR, hO, hr, hB, Nat.zero_le _⟩
  · intro q w1 w2 h hb
    exact ⟨kept h.t rfl hb, kept h.r rfl hb, h.o.later hb, h.d.blw (hb.mono h.b), Nat.le_trans h.b hb.size, h.h⟩
  · intro q hq w1 hg1 h
    have hph : 0 ≤ (s.part (k : Int)).h := by obtain ⟨-, -, ⟨h, -⟩, -⟩ := Sh.rows_facts hm (Int.natCast_nonneg k) hk; omega
    have hq' : q < TG.tH s.W s.H k := by have := hH.2; omega
    have hfit := TG.tP_fit (B := s.B) hW hq'
    have e2 : (q : Int) * ((TG.tN s.W s.B k : Nat) : Int) = ((q * TG.tN s.W s.B k : Nat) : Int) := by push_cast; rfl
    have h3 : (q + 1) * TG.tN s.W s.B k ≤ TG.tH s.W s.H k * TG.tN s.W s.B k := Nat.mul_le_mul_right _ hq'
    rw [Nat.succ_mul] at h3
    have hN1 : 1 ≤ TG.tN s.W s.B k := by
      have := TG.tX_lt hW k
      unfold TG.tN
      exact Nat.mul_pos (by omega) hBp
    have hpl := TG.put_len hW hts hLl q (by omega)
    rw [hA q, hR, e2]
    refine (joinClo_any base gt rb g m B n c A ts (TG.put s.W s.B ts k L q) p0 p1 p2 p3 q0 q1 q2 q3 (q * TG.tN s.W s.B k) (TG.tP s.W s.B k q) (TG.tN s.W s.B k) w1 h.t h.r h.o (by rw [hpl]; exact hmk) h.d hc hmx hm2 hn hN1 (by omega) (by omega)).mono ?_
    rintro e w' ⟨rfl, ho, hg2⟩
    exact ⟨rfl, ⟨kG5 h.t hg2 hne, kG5 h.r hg2 hne2, ho, Rd.grown h.d hg2 h.b (fun r e => by injection e with e; omega), Nat.le_trans h.b hg2.size, hq'⟩, hg2⟩
  · rintro e w' ⟨rfl, h, hg'⟩
    refine ⟨rfl, ?_, hg'⟩
    have := h.o
    rw [hH.2] at this
    exact this

end Go.Proofs.Ytcgpeijmmongoaa
