/- tile: a tile's corner and shape. -/
import Derived.Test.YtcgpeijmmongoaaTile1
namespace Go.Proofs.Ytcgpeijmmongoaa
set_option linter.all false
open Go.RowKit

theorem Sh.gw_rng {s : Sh} (h : s.may = true) : 1 ≤ s.gw ∧ s.gw ≤ 32 ∧ 1 ≤ s.gh ∧ s.gh ≤ 32 ∧ s.gw = (s.w + 7) / 8 ∧ s.gh = (s.h + 7) / 8 := by
  obtain ⟨⟨a1, a2⟩, ⟨a3, a4⟩, -, -⟩ := (Sh.nums_iff s).1 (Sh.may_nums h)
  have e1 : s.gw = (s.w + 7) / 8 := by unfold Sh.gw; rw [h]; rfl
  have e2 : s.gh = (s.h + 7) / 8 := by unfold Sh.gh; rw [h]; rfl
  omega

/-- Where tile i begins. -/
def Sh.cx (s : Sh) (i : Int) : Int := i % s.gw * 8
def Sh.cy (s : Sh) (i : Int) : Int := i / s.gw * 8
def Sh.part (s : Sh) (i : Int) : Sh := ⟨min 8 (s.w - s.cx i), min 8 (s.h - s.cy i), s.c, s.d⟩
theorem Sh.corner_rng {s : Sh} {i : Int} (h : s.may = true) (h0 : 0 ≤ i) (h1 : i < s.gw * s.gh) : (0 ≤ s.cx i ∧ s.cx i < s.w) ∧ (0 ≤ s.cy i ∧ s.cy i < s.h) := by
  obtain ⟨a1, a2, a3, a4, e1, e2⟩ := Sh.gw_rng h
  have b1 := Int.emod_nonneg i (show s.gw ≠ 0 by omega)
  have b2 := Int.emod_lt_of_pos i (show 0 < s.gw by omega)
  have b3 : 0 ≤ i / s.gw := Int.ediv_nonneg h0 (by omega)
  have b4 : i / s.gw < s.gh := Int.ediv_lt_of_lt_mul (by omega) (by rw [Int.mul_comm]; exact h1)
  unfold Sh.cx Sh.cy
  omega

set_option maxHeartbeats 800000 in
theorem corner_any (s : Sh) (i : Int) (w : World) (hm : s.may = true) (h0 : 0 ≤ i) (h1 : i < s.gw * s.gh) :
    Calls Try.prog 72 #[s.v, .int .i64 i] w fun e w' => e = .returned (.tuple #[.int .i64 (s.cx i), .int .i64 (s.cy i)]) ∧ Below w.heap.size w w' := by
  have hB := Below.refl w.heap.size w
  have HV := Lib.hid (fun w => grid_any s w)
  have hr := Sh.corner_rng hm h0 h1
  obtain ⟨a1, a2, a3, a4, e1, e2⟩ := Sh.gw_rng hm
  have hnum := (Sh.nums_iff s).1 (Sh.may_nums hm)
  have hmul : s.gw * s.gh ≤ 32 * 32 := Int.mul_le_mul a2 a4 (by omega) (by omega)
  unfold Sh.cx Sh.cy at hr ⊢
  obtain ⟨g, hg⟩ : ∃ g, g = s.gw := ⟨_, rfl⟩
  obtain ⟨g2, hg2⟩ : ∃ g, g = s.gh := ⟨_, rfl⟩
  have HG := Lib.hid hg.symm
  have HG2 := Lib.hid hg2.symm
  rw [← hg] at hr a1 a2 e1 ⊢
  have t1 : i.tmod g = i % g := Int.tmod_eq_emod_of_nonneg h0
  have t2 : i.tdiv g = i / g := Int.tdiv_eq_ediv_of_nonneg h0
  have q1 : 0 ≤ i % g := by omega
  have q2 : 0 ≤ i / g := by omega
  have v1 := wrapI (i % g * 8) (by omega) (by omega)
  have v2 := wrapI (i / g * 8) (by omega) (by omega)
  have v3 := wrapI (i % g) (by omega) (by omega)
  have v4 := wrapI (i / g) (by omega) (by omega)
  have z : (g == 0) = false := by rw [beq_eq_false_iff_ne]; omega
  have z' : ¬ g = 0 := by omega
  clear hr hnum hmul e1 e2 hg hg2 h1 a2 a3 a4 q1 q2
  obtain ⟨W, H, C, D⟩ := s
  show Calls _ _ #[.agg #[.int .i64 W, .int .i64 H, .int .i64 C, .int .i64 D], .int .i64 i] w _
  go_enter Try.func72, Try.ntmps72
  go_wp2_with (go_at_call 16; go_must (refine (HV.out _).mono ?_; rintro e w1 ⟨rfl, hb1⟩; rw [HG.out, HG2.out]; replace hB := bxd hb1; clear hb1))
  go_quiet (fail)
  go_wp2
  go_ret2
  exact ⟨rfl, bdrewN hB _⟩

end Go.Proofs.Ytcgpeijmmongoaa
