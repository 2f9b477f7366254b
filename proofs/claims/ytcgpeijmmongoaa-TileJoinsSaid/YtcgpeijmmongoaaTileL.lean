/- tile: the shapes' numbers as the plain law has them. -/
import Derived.Test.YtcgpeijmmongoaaTile5
import Derived.Test.YtcgpeijmmongoaaTileG
namespace Go.Proofs.Ytcgpeijmmongoaa
set_option linter.all false
open Go.RowKit

def Sh.W (s : Sh) : Nat := s.w.toNat
def Sh.H (s : Sh) : Nat := s.h.toNat
def Sh.B (s : Sh) : Nat := (s.c * (s.d / 8)).toNat

/-- A shape whose numbers may be, written with naturals. -/
theorem Sh.nat {s : Sh} (h : s.nums = true) : ∃ c d : Nat, s = ⟨s.W, s.H, c, 8 * d⟩ ∧ s.B = c * d ∧ 1 ≤ c ∧ c ≤ 4 ∧ (d = 1 ∨ d = 2) ∧ 1 ≤ s.W ∧ s.W ≤ 256 ∧ 1 ≤ s.H ∧ s.H ≤ 256 := by
  obtain ⟨⟨a1, a2⟩, ⟨a3, a4⟩, ⟨a5, a6⟩, a7⟩ := (Sh.nums_iff s).1 h
  obtain ⟨w, hh, c, d⟩ := s
  dsimp only [Sh.W, Sh.H, Sh.B] at *
  refine ⟨c.toNat, (d / 8).toNat, ?_, ?_, by omega, by omega, by omega, by omega, by omega, by omega, by omega⟩
  · congr <;> omega
  · rw [Int.toNat_mul (by omega) (by omega)]
theorem rowN {c d : Nat} (w : Nat) : ((w : Int) * (c : Int) * ((8 : Int) * (d : Int))) / 8 = ((w * (c * d) : Nat) : Int) := by
  have e : (w : Int) * (c : Int) * ((8 : Int) * (d : Int)) = 8 * ((w * (c * d) : Nat) : Int) := by
    push_cast
    rw [Int.mul_left_comm]
    simp only [Int.mul_assoc]
  rw [e]
  exact Int.mul_ediv_cancel_left _ (by omega)
theorem Sh.row_nat {s : Sh} (h : s.nums = true) : s.row = ((s.W * s.B : Nat) : Int) := by
  obtain ⟨c, d, e, eb, -⟩ := Sh.nat h
  have e1 : s.row = s.w * s.c * s.d / 8 := by unfold Sh.row; rw [if_pos h]
  have ew : s.w = (s.W : Int) := by rw [e]; rfl
  have ec : s.c = (c : Int) := by rw [e]
  have ed : s.d = 8 * (d : Int) := by rw [e]
  rw [e1, ew, ec, ed, rowN, eb]
theorem Sh.size_nat {s : Sh} (h : s.nums = true) : s.size = ((s.H * (s.W * s.B) : Nat) : Int) := by
  rw [Sh.size_ok h, Sh.row_nat h]
  obtain ⟨c, d, e, eb, -⟩ := Sh.nat h
  have eh : s.h = (s.H : Int) := by rw [e]; rfl
  rw [eh, Int.mul_comm, ← Int.natCast_mul]
theorem Sh.B_pos {s : Sh} (h : s.nums = true) : 1 ≤ s.W ∧ 1 ≤ s.B := by
  obtain ⟨c, d, e, eb, c1, c2, d1, w1, w2, -⟩ := Sh.nat h
  refine ⟨w1, ?_⟩
  rw [eb]
  rcases d1 with rfl | rfl <;> omega

section
variable {s : Sh} (hm : s.may = true)
include hm
theorem Sh.gw_nat : s.gw = (TG.g s.W : Int) ∧ s.gh = (((s.H + 7) / 8 : Nat) : Int) := by
  obtain ⟨-, -, -, -, e1, e2⟩ := Sh.gw_rng hm
  obtain ⟨⟨a1, a2⟩, ⟨a3, a4⟩, -, -⟩ := (Sh.nums_iff s).1 (Sh.may_nums hm)
  unfold TG.g Sh.W Sh.H
  omega
theorem Sh.count_nat : (s.gw * s.gh).toNat = TG.g s.W * ((s.H + 7) / 8) := by
  obtain ⟨e1, e2⟩ := Sh.gw_nat hm
  rw [e1, e2, ← Int.natCast_mul]
  rfl
theorem Sh.cx_nat (j : Nat) : s.cx j = (TG.tX s.W j : Int) := by
  unfold Sh.cx TG.tX
  rw [(Sh.gw_nat hm).1]
  push_cast
  rfl
theorem Sh.cy_nat (j : Nat) : s.cy j = (TG.tY s.W j : Int) := by
  unfold Sh.cy TG.tY
  rw [(Sh.gw_nat hm).1]
  push_cast
  rfl
theorem Sh.part_h (j : Nat) : (s.part j).H = TG.tH s.W s.H j ∧ (s.part j).h.toNat = TG.tH s.W s.H j := by
  have e : (s.part j).h = min 8 (s.h - s.cy j) := rfl
  have ec := Sh.cy_nat hm j
  obtain ⟨c, d, e3, -⟩ := Sh.nat (Sh.may_nums hm)
  have eh : s.h = (s.H : Int) := by rw [e3]; rfl
  unfold Sh.H at *
  unfold TG.tH
  rw [e, ec]
  omega
theorem Sh.part_w (j : Nat) : (s.part j).W = min 8 (s.W - TG.tX s.W j) := by
  have e : (s.part j).w = min 8 (s.w - s.cx j) := rfl
  have ec := Sh.cx_nat hm j
  obtain ⟨c, d, e3, -⟩ := Sh.nat (Sh.may_nums hm)
  have eh : s.w = (s.W : Int) := by rw [e3]; rfl
  unfold Sh.W at *
  rw [e, ec]
  omega
theorem Sh.part_nums {j : Nat} (hj : (j : Int) < s.gw * s.gh) : (s.part j).nums = true := by
  obtain ⟨⟨x0, x1⟩, ⟨y0, y1⟩⟩ := Sh.corner_rng hm (Int.natCast_nonneg j) hj
  obtain ⟨⟨a1, a2⟩, ⟨a3, a4⟩, a5, a6⟩ := (Sh.nums_iff s).1 (Sh.may_nums hm)
  refine (Sh.nums_iff _).2 ⟨?_, ?_, a5, a6⟩
  · show 1 ≤ min 8 (s.w - s.cx j) ∧ min 8 (s.w - s.cx j) ≤ 256
    omega
  · show 1 ≤ min 8 (s.h - s.cy j) ∧ min 8 (s.h - s.cy j) ≤ 256
    omega
theorem Sh.part_row {j : Nat} (hj : (j : Int) < s.gw * s.gh) : (s.part j).row = (TG.tN s.W s.B j : Int) := by
  rw [Sh.row_nat (Sh.part_nums hm hj), Sh.part_w hm j]
  rfl
theorem Sh.part_size {j : Nat} (hj : (j : Int) < s.gw * s.gh) : (s.part j).size = ((TG.tH s.W s.H j * TG.tN s.W s.B j : Nat) : Int) := by
  rw [Sh.size_nat (Sh.part_nums hm hj), Sh.part_w hm j, (Sh.part_h hm j).1]
  rfl
theorem Sh.part_may {j : Nat} (hj : (j : Int) < s.gw * s.gh) : (s.part j).may = true := by
  have h1 := Sh.part_nums hm hj
  unfold Sh.may
  rw [h1, Sh.part_size hm hj]
  obtain ⟨c, d, e, eb, c1, c2, d1, -⟩ := Sh.nat (Sh.may_nums hm)
  have hb : s.B ≤ 8 := by
    rw [eb]
    rcases d1 with rfl | rfl <;> omega
  have h2 : TG.tH s.W s.H j ≤ 8 := by unfold TG.tH; omega
  have h3 : TG.tN s.W s.B j ≤ 8 * 8 := Nat.le_trans (TG.tN_8 _ _ _) (Nat.mul_le_mul_left _ hb)
  have h4 : TG.tH s.W s.H j * TG.tN s.W s.B j ≤ 8 * (8 * 8) := Nat.mul_le_mul h2 h3
  simp
  omega
theorem Sh.left_nat {j : Nat} (hj : (j : Int) < s.gw * s.gh) : s.left j = ((TG.tX s.W j * s.B : Nat) : Int) := by
  unfold Sh.left
  have ex := Sh.cx_nat hm j
  by_cases h0 : 0 < s.cx j
  · rw [if_pos h0]
    obtain ⟨⟨x0, x1⟩, -⟩ := Sh.corner_rng hm (Int.natCast_nonneg j) hj
    obtain ⟨⟨a1, a2⟩, ⟨a3, a4⟩, a5, a6⟩ := (Sh.nums_iff s).1 (Sh.may_nums hm)
    have hn : (⟨s.cx j, 1, s.c, s.d⟩ : Sh).nums = true := (Sh.nums_iff _).2 ⟨by show 1 ≤ s.cx j ∧ s.cx j ≤ 256; omega, by show (1 : Int) ≤ 1 ∧ (1 : Int) ≤ 256; omega, a5, a6⟩
    rw [Sh.row_nat hn]
    unfold Sh.W
    show ((s.cx j).toNat * s.B : Nat) = ((TG.tX s.w.toNat j * s.B : Nat) : Int)
    rw [ex]
    rfl
  · rw [if_neg h0]
    have : TG.tX s.W j = 0 := by omega
    rw [this]
    simp
theorem Sh.at_nat {j : Nat} (hj : (j : Int) < s.gw * s.gh) (k : Nat) : (s.cy j + k) * s.row + s.left j = ((TG.tP s.W s.B j k : Nat) : Int) := by
  rw [Sh.left_nat hm hj, Sh.cy_nat hm j, Sh.row_nat (Sh.may_nums hm)]
  unfold TG.tP
  push_cast
  rfl
end

/-- A row on its way: what was cut, then zeros. -/
theorem TG.fill_step {W H B : Nat} {bs : List UInt8} (h : 1 ≤ W) (hl : bs.length = H * (W * B)) {i k : Nat} (hk : k < TG.tH W H i) :
    splice (TG.cutTo W B bs i k ++ List.replicate (TG.tH W H i * TG.tN W B i - k * TG.tN W B i) 0) (k * TG.tN W B i) ((bs.drop (TG.tP W B i k)).take (TG.tN W B i)) =
      TG.cutTo W B bs i (k + 1) ++ List.replicate (TG.tH W H i * TG.tN W B i - (k + 1) * TG.tN W B i) 0 := by
  have h1 := TG.cutTo_len h hl (i := i) k (by omega)
  have h2 := TG.cutRow_len h hl hk
  have h3 : (k + 1) * TG.tN W B i ≤ TG.tH W H i * TG.tN W B i := Nat.mul_le_mul_right _ hk
  rw [Nat.succ_mul] at h3 ⊢
  change splice _ _ (TG.cutRow W B bs i k) = _
  unfold splice
  rw [List.take_append_of_le_length (by omega), List.take_of_length_le (by omega), h2, List.drop_append, List.drop_of_length_le (by omega), List.nil_append, List.drop_replicate, h1]
  show _ = (TG.cutTo W B bs i k ++ TG.cutRow W B bs i k) ++ _
  rw [List.append_assoc]
  congr 3
  omega
theorem TG.fill_zero {W H B : Nat} {bs : List UInt8} {i : Nat} : TG.cutTo W B bs i 0 ++ List.replicate (TG.tH W H i * TG.tN W B i - 0 * TG.tN W B i) 0 = List.replicate (TG.tH W H i * TG.tN W B i) 0 := by
  simp [TG.cutTo]
theorem TG.fill_end {W H B : Nat} {bs : List UInt8} {i : Nat} : TG.cutTo W B bs i (TG.tH W H i) ++ List.replicate (TG.tH W H i * TG.tN W B i - TG.tH W H i * TG.tN W B i) 0 = TG.cut W H B bs i := by
  simp [TG.cut]
end Go.Proofs.Ytcgpeijmmongoaa
