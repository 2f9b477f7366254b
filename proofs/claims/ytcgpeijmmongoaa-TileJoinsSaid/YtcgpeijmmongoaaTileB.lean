/- tile: the plain law of TileBack: each number lies in its tile; cut and joined a picture is itself. -/
import Derived.Test.YtcgpeijmmongoaaTile7
namespace Go.Proofs.Ytcgpeijmmongoaa
set_option linter.all false
open Go.RowKit

theorem mayR_iff {s : Sh} {n : Nat} (h : s.mayR n = true) : s.may = true ∧ n = s.H * (s.W * s.B) := by
  unfold Sh.mayR at h
  simp only [Bool.and_eq_true, decide_eq_true_eq] at h
  obtain ⟨h1, h2⟩ := h
  rw [Sh.size_nat (Sh.may_nums h1)] at h2
  exact ⟨h1, by omega⟩

/-- The tiles of a list, each as it was cut. -/
def AsCut (s : Sh) (bs : List UInt8) (l : List Ra) : Prop := l.length = (s.gw * s.gh).toNat ∧ ∀ j (hj : j < l.length), l[j].s = s.part j ∧ l[j].bs = s.cutB bs j ∧ l[j].n = l[j].bs.length

theorem AsCut.fit {s : Sh} {bs : List UInt8} {l : List Ra} (h : AsCut s bs l) (hm : s.mayR bs.length = true) {j : Nat} (hj : j < l.length) : s.fit l j = true := by
  obtain ⟨m1, m2⟩ := mayR_iff hm
  obtain ⟨e1, e2, e3⟩ := h.2 j hj
  obtain ⟨g1, g2⟩ := Sh.gw_rng m1
  have hjj : (j : Int) < s.gw * s.gh := by have := h.1; omega
  rw [Sh.fit_at hj, e1, e3, e2, cutB_len m1 m2]
  unfold Sh.mayR
  rw [Sh.part_may m1 hjj, Sh.part_size m1 hjj]
  simp
theorem AsCut.joinE {s : Sh} {bs : List UInt8} {l : List Ra} (h : AsCut s bs l) (hm : s.mayR bs.length = true) : s.joinE l = 0 := by
  obtain ⟨m1, m2⟩ := mayR_iff hm
  obtain ⟨a1, a2, a3, a4, -, -⟩ := Sh.gw_rng m1
  have hmul0 : 0 ≤ s.gw * s.gh := Int.mul_nonneg (by omega) (by omega)
  unfold Sh.joinE
  rw [m1, if_pos rfl, if_pos (by have := h.1; omega), Sh.fits_of (fun j hj => h.fit hm hj)]
  rfl
theorem AsCut.joinR {s : Sh} {bs : List UInt8} {l : List Ra} (h : AsCut s bs l) (hm : s.mayR bs.length = true) : s.joinR l = (s, bs) := by
  obtain ⟨m1, m2⟩ := mayR_iff hm
  obtain ⟨w1, b1⟩ := Sh.B_pos (Sh.may_nums m1)
  unfold Sh.joinR
  rw [if_pos (h.joinE hm)]
  have hl : l.length = TG.g s.W * ((s.H + 7) / 8) := by rw [h.1, Sh.count_nat m1]
  have : s.joinB l l.length = bs := by
    unfold Sh.joinB
    rw [hl]
    refine TG.join_cut w1 b1 m2 (fun i hi => ?_)
    have hi' : i < l.length := by omega
    have := (h.2 i hi').2.1
    simp only [List.getD, List.getElem?_map, List.getElem?_eq_getElem hi', Option.map_some, Option.getD_some]
    exact this
  rw [this]

theorem at_tile {s : Sh} {bs : List UInt8} {x y c : Int} (hm : s.mayR bs.length = true) (h : (s.at_ bs x y c).2 = 0) :
    0 ≤ x ∧ 0 ≤ y ∧ ∃ k : Nat, (y / 8 * s.gw + x / 8 = k) ∧ (k : Int) < s.gw * s.gh ∧ (s.part k).at_ (s.cutB bs k) (x % 8) (y % 8) c = s.at_ bs x y c := by
  obtain ⟨m1, m2⟩ := mayR_iff hm
  have hnum := Sh.may_nums m1
  obtain ⟨w1, b1⟩ := Sh.B_pos hnum
  have hp : (s.place bs.length x y c).2 = 0 := by
    unfold Sh.at_ at h
    split at h
    · assumption
    · exact h
  have hin : s.inB x y c = true := by
    cases hi : s.inB x y c with
    | true => rfl
    | false => unfold Sh.place at hp; rw [hm, hi] at hp; simp at hp
  have hpl : s.place bs.length x y c = (y * s.row + (x * s.c + c) * s.d / 8, 0) := by unfold Sh.place; rw [hm, hin]; rfl
  obtain ⟨⟨x0, x1⟩, ⟨y0, y1⟩, ⟨c0, c1⟩⟩ := (Sh.inB_iff s x y c).1 hin
  obtain ⟨X, rfl⟩ := Int.eq_ofNat_of_zero_le x0
  obtain ⟨Y, rfl⟩ := Int.eq_ofNat_of_zero_le y0
  obtain ⟨q, rfl⟩ := Int.eq_ofNat_of_zero_le c0
  obtain ⟨C, d, es, eb, C1, C4, d12, W1, W2, H1, H2⟩ := Sh.nat hnum
  have ew : s.w = (s.W : Int) := by rw [es]; rfl
  have eh : s.h = (s.H : Int) := by rw [es]; rfl
  have ec : s.c = (C : Int) := by rw [es]
  have ed : s.d = 8 * (d : Int) := by rw [es]
  have hXW : X < s.W := by omega
  have hYH : Y < s.H := by omega
  have hqC : q < C := by omega
  obtain ⟨g1, g2⟩ := Sh.gw_nat m1
  obtain ⟨gp1, gp2, gp3⟩ := TG.g_pos w1
  refine ⟨x0, y0, Y / 8 * TG.g s.W + X / 8, ?_, ?_, ?_⟩
  · rw [g1]; push_cast; rfl
  · rw [g1, g2, ← Int.natCast_mul]
    have h1 : X / 8 < TG.g s.W := by omega
    have h2 : (Y / 8 + 1) * TG.g s.W ≤ (s.H + 7) / 8 * TG.g s.W := Nat.mul_le_mul_right _ (by omega)
    rw [Nat.succ_mul, Nat.mul_comm ((s.H + 7) / 8)] at h2
    omega
  · have hkg : (Y / 8 * TG.g s.W + X / 8) % TG.g s.W = X / 8 := by rw [Nat.mul_comm, Nat.mul_add_mod, Nat.mod_eq_of_lt (by omega)]
    have hkd : (Y / 8 * TG.g s.W + X / 8) / TG.g s.W = Y / 8 := by rw [Nat.mul_comm, Nat.mul_add_div (by omega), Nat.div_eq_of_lt (show X / 8 < TG.g s.W by omega), Nat.add_zero]
    have hk : ((Y / 8 * TG.g s.W + X / 8 : Nat) : Int) < s.gw * s.gh := by
      rw [g1, g2, ← Int.natCast_mul]
      have h2 : (Y / 8 + 1) * TG.g s.W ≤ (s.H + 7) / 8 * TG.g s.W := Nat.mul_le_mul_right _ (by omega)
      rw [Nat.succ_mul, Nat.mul_comm ((s.H + 7) / 8)] at h2
      omega
    obtain ⟨k, hkk⟩ : ∃ k, k = Y / 8 * TG.g s.W + X / 8 := ⟨_, rfl⟩
    rw [← hkk] at hkg hkd hk ⊢
    have hX : TG.tX s.W k = X / 8 * 8 := by unfold TG.tX; rw [hkg]
    have hY : TG.tY s.W k = Y / 8 * 8 := by unfold TG.tY; rw [hkd]
    have hH8 : Y % 8 < TG.tH s.W s.H k := by unfold TG.tH; rw [hY]; omega
    have hpm : (s.part (k : Int)).mayR (s.cutB bs k).length = true := by
      unfold Sh.mayR
      rw [Sh.part_may m1 hk, Sh.part_size m1 hk, cutB_len m1 m2]
      simp
    have hcx := Sh.cx_nat m1 k
    have hcy := Sh.cy_nat m1 k
    have hpi : (s.part (k : Int)).inB ((X : Int) % 8) ((Y : Int) % 8) q = true := by
      refine (Sh.inB_iff _ _ _ _).2 ⟨⟨by omega, ?_⟩, ⟨by omega, ?_⟩, ⟨by omega, ?_⟩⟩
      · show (X : Int) % 8 < min 8 (s.w - s.cx k)
        rw [hcx, hX]; omega
      · show (Y : Int) % 8 < min 8 (s.h - s.cy k)
        rw [hcy, hY]; omega
      · show (q : Int) < s.c
        omega
    have hpl2 : (s.part (k : Int)).place (s.cutB bs k).length ((X : Int) % 8) ((Y : Int) % 8) q = (((Y : Int) % 8) * (s.part (k : Int)).row + (((X : Int) % 8) * s.c + q) * s.d / 8, 0) := by
      unfold Sh.place
      rw [hpm, hpi]
      rfl
    have hrow := Sh.part_row m1 hk
    -- the two places as naturals
    have eplace : (Y : Int) * s.row + ((X : Int) * s.c + q) * s.d / 8 = ((Y * (s.W * s.B) + (X * C + q) * d : Nat) : Int) := by
      rw [Sh.row_nat hnum, ec, ed]
      have : ((X : Int) * C + q) * (8 * (d : Int)) = 8 * (((X * C + q) * d : Nat) : Int) := by
        push_cast
        rw [Int.mul_left_comm]
      rw [this, Int.mul_ediv_cancel_left _ (by omega)]
      push_cast
      rfl
    have eplace2 : ((Y : Int) % 8) * (s.part (k : Int)).row + (((X : Int) % 8) * s.c + q) * s.d / 8 = ((Y % 8 * TG.tN s.W s.B k + (X % 8 * C + q) * d : Nat) : Int) := by
      rw [hrow, ec, ed]
      have : (((X : Int) % 8) * C + q) * (8 * (d : Int)) = 8 * (((X % 8 * C + q) * d : Nat) : Int) := by
        push_cast
        rw [Int.mul_left_comm]
      rw [this, Int.mul_ediv_cancel_left _ (by omega)]
      push_cast
      rfl
    unfold Sh.at_
    rw [hpl, hpl2, eplace, eplace2, if_pos rfl, if_pos rfl]
    have hqd : (q + 1) * d ≤ C * d := Nat.mul_le_mul_right _ (by omega)
    have hN : (X % 8 * C + q) * d + d ≤ TG.tN s.W s.B k := by
      have h1 : (X % 8 + 1) * (C * d) ≤ min 8 (s.W - TG.tX s.W k) * (C * d) := Nat.mul_le_mul_right _ (by rw [hX]; omega)
      unfold TG.tN
      rw [eb]
      rw [Nat.succ_mul] at h1 hqd
      rw [Nat.add_mul, Nat.mul_assoc]
      omega
    have hsum : TG.tP s.W s.B k (Y % 8) + (X % 8 * C + q) * d = Y * (s.W * s.B) + (X * C + q) * d := by
      unfold TG.tP
      rw [hX, hY]
      have e1 : Y / 8 * 8 + Y % 8 = Y := by omega
      rw [e1, eb, Nat.add_mul, Nat.add_mul, Nat.mul_assoc X, Nat.mul_assoc (X % 8)]
      have e2 : X / 8 * 8 * (C * d) + X % 8 * (C * d) = X * (C * d) := by rw [← Nat.add_mul]; congr 1; omega
      omega
    have hbytes : ((s.cutB bs k).drop (Y % 8 * TG.tN s.W s.B k + (X % 8 * C + q) * d)).take d = (bs.drop (Y * (s.W * s.B) + (X * C + q) * d)).take d := by
      apply List.ext_getElem?
      intro e
      rw [List.getElem?_take, List.getElem?_take]
      by_cases he : e < d
      · rw [if_pos he, if_pos he, List.getElem?_drop, List.getElem?_drop]
        have := TG.cut_get (bs := bs) w1 m2 (i := k) hH8 (j := (X % 8 * C + q) * d + e) (by omega)
        unfold Sh.cutB
        rw [Nat.add_assoc, this, ← hsum, Nat.add_assoc]
      · rw [if_neg he, if_neg he]
    have hdd : (s.d / 8).toNat = d := by omega
    show (((beV (((s.cutB bs k).drop (Int.toNat _)).take (s.d / 8).toNat) : Nat) : Int), (0 : Int)) = _
    rw [hdd]
    simp only [Int.toNat_natCast]
    rw [hbytes]
end Go.Proofs.Ytcgpeijmmongoaa
