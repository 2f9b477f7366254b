/- tile: a tile's shape. -/
import Derived.Test.YtcgpeijmmongoaaTile2
namespace Go.Proofs.Ytcgpeijmmongoaa
set_option linter.all false
open Go.RowKit

set_option maxHeartbeats 1600000 in
theorem part_any (s : Sh) (i : Int) (w : World) (hm : s.may = true) (h0 : 0 ≤ i) (h1 : i < s.gw * s.gh) :
    Calls Try.prog 57 #[s.v, .int .i64 i] w fun e w' => e = .returned (s.part i).v ∧ Below w.heap.size w w' := by
  have hB := Below.refl w.heap.size w
  have HV := Lib.hid (fun w => corner_any s i w hm h0 h1)
  have hr := Sh.corner_rng hm h0 h1
  obtain ⟨⟨a1, a2⟩, ⟨a3, a4⟩, -, -⟩ := (Sh.nums_iff s).1 (Sh.may_nums hm)
  unfold Sh.part
  obtain ⟨x, hx⟩ : ∃ x, x = s.cx i := ⟨_, rfl⟩
  obtain ⟨y, hy⟩ : ∃ y, y = s.cy i := ⟨_, rfl⟩
  have HX := Lib.hid hx.symm
  have HY := Lib.hid hy.symm
  rw [← hx, ← hy] at hr ⊢
  obtain ⟨⟨x1, x2⟩, ⟨y1, y2⟩⟩ := hr
  obtain ⟨mx, hmx⟩ : ∃ m, m = min 8 (s.w - x) := ⟨_, rfl⟩
  obtain ⟨my, hmy⟩ : ∃ m, m = min 8 (s.h - y) := ⟨_, rfl⟩
  rw [← hmx, ← hmy]
  have MX := Lib.hid hmx
  have MY := Lib.hid hmy
  clear hx hy hm h0 h1 hmx hmy
  obtain ⟨W, H, C, D⟩ := s
  dsimp only at a1 a2 a3 a4 x2 y2 MX MY ⊢
  show Calls _ _ #[.agg #[.int .i64 W, .int .i64 H, .int .i64 C, .int .i64 D], .int .i64 i] w _
  go_enter Try.func57, Try.ntmps57
  go_wp2_with (go_at_call 72; go_must (refine (HV.out _).mono ?_; rintro e w1 ⟨rfl, hb1⟩; rw [HX.out, HY.out]; obtain ⟨d0, d1, d2, d3⟩ := cells4 (by simp) hb1; rw [World.size_alloc] at d0 d1 d2 d3; have g0 := free5 (by simp) hb1 0; have g1 := free5 (by simp) hb1 1; have g2 := free5 (by simp) hb1 2; have g3 := free5 (by simp) hb1 3; rw [World.size_alloc] at g0 g1 g2 g3; obtain ⟨c0, c1, c2, c3⟩ := cells4 (by simp) (bxd hb1); have f0 := free5 (by simp) (bxd hb1) 0; have f1 := free5 (by simp) (bxd hb1) 1; replace hB := bxd (bxd hb1); clear hb1))
  all_goals
    have ex := MX.out
    have ey := MY.out
    refine bodyPost_ret (v := .agg #[.int .i64 mx, .int .i64 my, .int .i64 C, .int .i64 D]) ?_ rfl ?_
    · unfold results
      go_simp
      omega
    · refine ⟨rfl, ?_⟩
      exact (((((hB.setCell (Nat.le_refl _) _).setCell (Nat.le_refl _) _).setCell (Nat.le_succ _) _).setCell (Nat.le_succ _) _).setCell (Nat.le_succ _) _).setCell (Nat.le_succ _) _

def Sh.tile (s : Sh) (i : Int) : Sh × Int := if s.may then (if 0 ≤ i ∧ i < s.gw * s.gh then (s.part i, 0) else (⟨0, 0, 0, 0⟩, 1)) else (⟨0, 0, 0, 0⟩, 4)

set_option maxHeartbeats 1600000 in
theorem tile_any (s : Sh) (i : Int) (w : World) :
    Calls Try.prog 18 #[s.v, .int .i64 i] w fun e w' => e = .returned (.tuple #[(s.tile i).1.v, .int .i64 (s.tile i).2]) ∧ Below w.heap.size w w' := by
  have hB := Below.refl w.heap.size w
  have HV := Lib.hid (fun w => grid_any s w)
  cases hm : s.may with
  | false =>
    have HT := Lib.hid (show s.tile i = (⟨0, 0, 0, 0⟩, 4) by unfold Sh.tile; rw [hm]; rfl)
    have HG := Lib.hid (show s.gw = 0 ∧ s.gh = 0 by unfold Sh.gw Sh.gh; rw [hm]; exact ⟨rfl, rfl⟩)
    rw [HT.out]
    clear hm HT
    obtain ⟨W, H, C, D⟩ := s
    show Calls _ _ #[.agg #[.int .i64 W, .int .i64 H, .int .i64 C, .int .i64 D], .int .i64 i] w _
    go_enter Try.func18, Try.ntmps18
    go_wp2_with (go_at_call 16; go_must (refine (HV.out _).mono ?_; rintro e w1 ⟨rfl, hb1⟩; rw [HG.out.1, HG.out.2]; obtain ⟨d0, d1, d2, d3⟩ := cells4 (by simp) hb1; rw [World.size_alloc] at d0 d1 d2 d3; have g0 := free5 (by simp) hb1 0; have g1 := free5 (by simp) hb1 1; have g2 := free5 (by simp) hb1 2; have g3 := free5 (by simp) hb1 3; rw [World.size_alloc] at g0 g1 g2 g3; replace hB := bxd (bxd hb1); clear hb1))
    refine bodyPost_ret (v := .tuple #[.agg #[.int .i64 0, .int .i64 0, .int .i64 0, .int .i64 0], .int .i64 4]) ?_ rfl ?_
    · unfold results
      go_simp
    · exact ⟨rfl, (((hB.setCell (Nat.le_succ _) _).setCell (Nat.le_succ _) _).setCell (Nat.le_succ _) _).setCell (Nat.le_succ _) _⟩
  | true =>
    obtain ⟨a1, a2, a3, a4, e1, e2⟩ := Sh.gw_rng hm
    obtain ⟨g, hg⟩ : ∃ g, g = s.gw := ⟨_, rfl⟩
    obtain ⟨g2, hg2⟩ : ∃ g, g = s.gh := ⟨_, rfl⟩
    have HG := Lib.hid hg.symm
    have HG2 := Lib.hid hg2.symm
    have hmul : s.gw * s.gh ≤ 32 * 32 := Int.mul_le_mul a2 a4 (by omega) (by omega)
    have hmul0 : 0 ≤ s.gw * s.gh := Int.mul_nonneg (by omega) (by omega)
    have z : (g == 0) = false := by rw [beq_eq_false_iff_ne]; omega
    by_cases hi : 0 ≤ i ∧ i < s.gw * s.gh
    · have HT := Lib.hid (show s.tile i = (s.part i, 0) by unfold Sh.tile; rw [hm, if_pos rfl, if_pos hi])
      have HP := Lib.hid (fun w => part_any s i w hm hi.1 hi.2)
      rw [HT.out]
      obtain ⟨i0, i1⟩ := hi
      generalize s.part i = pt at HP ⊢
      rw [← hg, ← hg2] at i1 hmul hmul0
      clear hm HT hg hg2 a1 a2 a3 a4 e1 e2
      obtain ⟨W, H, C, D⟩ := s
      obtain ⟨W', H', C', D'⟩ := pt
      show Calls _ _ #[.agg #[.int .i64 W, .int .i64 H, .int .i64 C, .int .i64 D], .int .i64 i] w _
      go_enter Try.func18, Try.ntmps18
      go_wp2_with (first
        | (go_at_call 16; go_must (refine (HV.out _).mono ?_; rintro e w1 ⟨rfl, hb1⟩; rw [HG.out, HG2.out]; obtain ⟨d0, d1, d2, d3⟩ := cells4 (by simp) hb1; rw [World.size_alloc] at d0 d1 d2 d3; have g0 := free5 (by simp) hb1 0; have g1 := free5 (by simp) hb1 1; have g2 := free5 (by simp) hb1 2; have g3 := free5 (by simp) hb1 3; rw [World.size_alloc] at g0 g1 g2 g3; obtain ⟨c0, c1, c2, c3⟩ := cells4 (by simp) (bxd hb1); have hz : w.heap.size + 1 < w1.heap.size := (by have := hb1.size; simp at this; omega); replace hB := bxd (bxd hb1); clear hb1))
        | (go_at_call 57; go_must (refine (HP.out _).mono ?_; rintro e w2 ⟨rfl, hb2⟩; replace d0 := bsame hb2 hz d0; replace d1 := bsame hb2 hz d1; replace d2 := bsame hb2 hz d2; replace d3 := bsame hb2 hz d3; replace g0 := (hb2.frozen (p := ⟨w.heap.size + 1, 0, none⟩) hz).trans g0; replace g1 := (hb2.frozen (p := ⟨w.heap.size + 1, 1, none⟩) hz).trans g1; replace g2 := (hb2.frozen (p := ⟨w.heap.size + 1, 2, none⟩) hz).trans g2; replace g3 := (hb2.frozen (p := ⟨w.heap.size + 1, 3, none⟩) hz).trans g3; replace hB := bstep hB hb2 (Nat.le_refl _); clear hb2; simp only [Sh.v])))
      all_goals first
        | (exfalso; omega)
        | (refine bodyPost_ret (v := .tuple #[.agg #[.int .i64 W', .int .i64 H', .int .i64 C', .int .i64 D'], .int .i64 0]) ?_ rfl ?_
           · unfold results
             go_simp
           · exact ⟨rfl, (((hB.setCell (Nat.le_succ _) _).setCell (Nat.le_succ _) _).setCell (Nat.le_succ _) _).setCell (Nat.le_succ _) _⟩)
    · have HT := Lib.hid (show s.tile i = (⟨0, 0, 0, 0⟩, 1) by unfold Sh.tile; rw [hm, if_pos rfl, if_neg hi])
      rw [HT.out]
      rw [← hg, ← hg2] at hi hmul hmul0
      clear hm HT hg hg2 a1 a2 a3 a4 e1 e2
      obtain ⟨W, H, C, D⟩ := s
      show Calls _ _ #[.agg #[.int .i64 W, .int .i64 H, .int .i64 C, .int .i64 D], .int .i64 i] w _
      go_enter Try.func18, Try.ntmps18
      go_wp2_with (first
        | (go_at_call 16; go_must (refine (HV.out _).mono ?_; rintro e w1 ⟨rfl, hb1⟩; rw [HG.out, HG2.out]; obtain ⟨d0, d1, d2, d3⟩ := cells4 (by simp) hb1; rw [World.size_alloc] at d0 d1 d2 d3; have g0 := free5 (by simp) hb1 0; have g1 := free5 (by simp) hb1 1; have g2 := free5 (by simp) hb1 2; have g3 := free5 (by simp) hb1 3; rw [World.size_alloc] at g0 g1 g2 g3; obtain ⟨c0, c1, c2, c3⟩ := cells4 (by simp) (bxd hb1); have hz : w.heap.size + 1 < w1.heap.size := (by have := hb1.size; simp at this; omega); replace hB := bxd (bxd hb1); clear hb1))
        | (go_at_call 57; exfalso; omega))
      all_goals first
        | (exfalso; omega)
        | (refine bodyPost_ret (v := .tuple #[.agg #[.int .i64 0, .int .i64 0, .int .i64 0, .int .i64 0], .int .i64 1]) ?_ rfl ?_
           · unfold results
             go_simp
           · exact ⟨rfl, (((hB.setCell (Nat.le_succ _) _).setCell (Nat.le_succ _) _).setCell (Nat.le_succ _) _).setCell (Nat.le_succ _) _⟩)
end Go.Proofs.Ytcgpeijmmongoaa
