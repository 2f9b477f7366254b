/- The walk of TileShapes. -/
import Derived.Test.YtcgpeijmmongoaaTilePure
namespace Go.Proofs.Ytcgpeijmmongoaa
set_option linter.all false
open Go.RowKit

theorem first10_grid : (⟨9, 8, 1, 8⟩ : Sh).gw = 2 ∧ (⟨9, 8, 1, 8⟩ : Sh).gh = 1 := by decide +kernel
theorem first10_tile : Sh.tile ⟨9, 8, 1, 8⟩ 1 = (⟨1, 8, 1, 8⟩, 0) := by decide +kernel

set_option maxHeartbeats 800000 in
theorem first10_any (w : World) : Calls Try.prog 15 #[] w fun e w' => e = .returned (.bool true) ∧ Below w.heap.size w w' := by
  have hB := Below.refl w.heap.size w
  have HV := Lib.hid (fun w => grid_any ⟨9, 8, 1, 8⟩ w)
  have HT := Lib.hid (fun w => tile_any ⟨9, 8, 1, 8⟩ 1 w)
  go_enter Try.func15, Try.ntmps15
  go_wp2_with (first
    | (go_at_call 16; go_must (refine (HV.out _).mono ?_; rintro e w1 ⟨rfl, hb1⟩; rw [first10_grid.1, first10_grid.2]; replace hB := bstep hB hb1 (Nat.le_refl _); clear hb1))
    | (go_at_call 18; go_must (refine (HT.out _).mono ?_; rintro e w2 ⟨rfl, hb1⟩; rw [first10_tile]; simp only [Sh.v]; replace hB := bstep hB hb1 (Nat.le_refl _); clear hb1)))
  go_ret
  exact ⟨rfl, hB.alloc hB.size _⟩

theorem acell {w : World} {o : Obj} {b k : Nat} {v : Value} (hb : b < w.heap.size) (h : w.cell? ⟨b, k, none⟩ = some v) : (w.alloc o).cell? ⟨b, k, none⟩ = some v :=
  (World.cell?_alloc_lt w o ⟨b, k, none⟩ hb).trans h

set_option maxRecDepth 100000 in
set_option maxHeartbeats 3200000 in
theorem shapes_walk (s : Sh) (w : World) : Calls Try.prog 3 #[s.v] w fun e w' => e = .returned (.bool true) ∧ Below w.heap.size w w' := by
  have hB := Below.refl w.heap.size w
  have HG := Lib.hid (fun w => grid_any s w)
  have HM := Lib.hid (fun w => mayS_any s w)
  cases hm : s.may with
  | false =>
    have HMV := Lib.hid hm
    have HGV := Lib.hid (show s.gw = 0 ∧ s.gh = 0 by unfold Sh.gw Sh.gh; rw [hm]; exact ⟨rfl, rfl⟩)
    have HT := Lib.hid (fun w => show Calls Try.prog 18 #[s.v, .int .i64 0] w fun e w' => e = .returned (.tuple #[(⟨0, 0, 0, 0⟩ : Sh).v, .int .i64 4]) ∧ Below w.heap.size w w' by
      have e : s.tile 0 = (⟨0, 0, 0, 0⟩, 4) := by unfold Sh.tile; rw [hm]; rfl
      have := tile_any s 0 w
      rwa [e] at this)
    clear hm
    obtain ⟨W, H, C, D⟩ := s
    dsimp only [Sh.v] at HT HG HM
    show Calls _ _ #[.agg #[.int .i64 W, .int .i64 H, .int .i64 C, .int .i64 D]] w _
    go_enter Try.func3, Try.ntmps3
    go_wp2_with (first
      | (go_at_call 15; go_must (refine (first10_any _).mono ?_; rintro e w1 ⟨rfl, hb1⟩; first | (replace c0 := bsame hb1 hz c0; replace c1 := bsame hb1 hz c1; replace c2 := bsame hb1 hz c2; replace c3 := bsame hb1 hz c3; replace hB := bstep hB hb1 (Nat.le_refl _); replace hz := Nat.lt_of_lt_of_le hz hb1.size; clear hb1) | (replace hb1 := bxd hb1; replace c0 := bsame hb1 hz c0; replace c1 := bsame hb1 hz c1; replace c2 := bsame hb1 hz c2; replace c3 := bsame hb1 hz c3; replace hB := bstep hB hb1 (Nat.le_refl _); replace hz := Nat.lt_of_lt_of_le hz hb1.size; clear hb1) | (obtain ⟨c0, c1, c2, c3⟩ := cells4 (by simp) hb1; replace hB := bxd hb1; have hz : w.heap.size < w1.heap.size := (by have := hb1.size; simp at this; omega); clear hb1)))
      | (go_at_call 16; go_must (refine (HG.out _).mono ?_; rintro e w2 ⟨rfl, hb1⟩; rw [HGV.out.1, HGV.out.2]; replace c0 := bsame hb1 hz c0; replace c1 := bsame hb1 hz c1; replace c2 := bsame hb1 hz c2; replace c3 := bsame hb1 hz c3; replace hB := bstep hB hb1 (Nat.le_refl _); replace hz := Nat.lt_of_lt_of_le hz hb1.size; clear hb1))
      | (go_at_call 17; go_must (refine (HM.out _).mono ?_; rintro e w3 ⟨rfl, hb1⟩; rw [HMV.out]; replace c0 := bsame hb1 hz c0; replace c1 := bsame hb1 hz c1; replace c2 := bsame hb1 hz c2; replace c3 := bsame hb1 hz c3; replace hB := bstep hB hb1 (Nat.le_refl _); replace hz := Nat.lt_of_lt_of_le hz hb1.size; clear hb1))
      | (go_at_call 18; (with_reducible refine (HT.out _).mono ?_); rintro e w4 ⟨rfl, hb1⟩; first | (replace hb1 := bxd hb1; replace c0 := bsame hb1 hz c0; replace c1 := bsame hb1 hz c1; replace c2 := bsame hb1 hz c2; replace c3 := bsame hb1 hz c3; replace hB := bstep hB hb1 (Nat.le_refl _); replace hz := Nat.lt_of_lt_of_le hz hb1.size; clear hb1) | (replace c0 := bsame hb1 hz c0; replace c1 := bsame hb1 hz c1; replace c2 := bsame hb1 hz c2; replace c3 := bsame hb1 hz c3; replace hB := bstep hB hb1 (Nat.le_refl _); replace hz := Nat.lt_of_lt_of_le hz hb1.size; clear hb1)))
    go_ret
    exact ⟨rfl, hB⟩
  | true =>
    have HMV := Lib.hid hm
    obtain ⟨a1, a2, a3, a4, e1, e2⟩ := Sh.gw_rng hm
    have hall := Sh.areas_all hm
    have hall2 := fun k => Sh.areas_rng hm k
    have hmul : s.gw * s.gh ≤ 32 * 32 := Int.mul_le_mul a2 a4 (by omega) (by omega)
    have hmul0 : 0 ≤ s.gw * s.gh := Int.mul_nonneg (by omega) (by omega)
    have hrg := fun k : Nat => Sh.area_rng (s := s) (i := (k : Int)) hm (by omega)
    have hfl := fun k : Nat => Sh.part_full (s := s) (i := (k : Int)) hm (by omega)
    have hT := fun k : Nat => fun (hk : (k : Int) < s.gw * s.gh) => show s.tile k = (s.part k, 0) by unfold Sh.tile; rw [hm, if_pos rfl, if_pos ⟨by omega, hk⟩]
    have hT1 : s.tile (s.gw * s.gh) = (⟨0, 0, 0, 0⟩, 1) := by unfold Sh.tile; rw [hm, if_pos rfl, if_neg (by omega)]
    have hT2 : s.tile (-1) = (⟨0, 0, 0, 0⟩, 1) := by unfold Sh.tile; rw [hm, if_pos rfl, if_neg (by omega)]
    have htl := fun i w => tile_any s i w
    obtain ⟨g, hg⟩ : ∃ g, g = s.gw := ⟨_, rfl⟩
    obtain ⟨g2, hg2⟩ : ∃ g, g = s.gh := ⟨_, rfl⟩
    rw [← hg, ← hg2] at hall hmul hmul0 hT1
    rw [← hg] at a1 a2
    rw [← hg2] at a3 a4
    simp only [← hg, ← hg2] at hall2 hrg hfl hT
    have HGV := Lib.hid (show s.gw = g ∧ s.gh = g2 from ⟨hg.symm, hg2.symm⟩)
    have HALL := Lib.hid hall
    have HAL2 := Lib.hid hall2
    have HRG := Lib.hid hrg
    have HFL := Lib.hid hfl
    have HTT := Lib.hid (fun (k : Nat) (hk : (k : Int) < g * g2) w => show Calls Try.prog 18 #[s.v, .int .i64 k] w fun e w' => e = .returned (.tuple #[(s.part k).v, .int .i64 0]) ∧ Below w.heap.size w w' by
      have := htl k w
      rwa [hT k hk] at this)
    have HT1 := Lib.hid (fun w => show Calls Try.prog 18 #[s.v, .int .i64 (g * g2)] w fun e w' => e = .returned (.tuple #[(⟨0, 0, 0, 0⟩ : Sh).v, .int .i64 1]) ∧ Below w.heap.size w w' by
      have := htl (g * g2) w
      rwa [hT1] at this)
    have HT2 := Lib.hid (fun w => show Calls Try.prog 18 #[s.v, .int .i64 (-1)] w fun e w' => e = .returned (.tuple #[(⟨0, 0, 0, 0⟩ : Sh).v, .int .i64 1]) ∧ Below w.heap.size w w' by
      have := htl (-1) w
      rwa [hT2] at this)
    obtain ⟨⟨n1, n2⟩, ⟨n3, n4⟩, -, -⟩ := (Sh.nums_iff s).1 (Sh.may_nums hm)
    have wh1 : s.w * s.h ≤ 256 * 256 := Int.mul_le_mul n2 n4 (by omega) (by omega)
    have wh0 : 0 ≤ s.w * s.h := Int.mul_nonneg (by omega) (by omega)
    have HAR : Hid (∀ k : Nat, s.areas (k + 1) = s.areas k + (s.part k).w * (s.part k).h) := fun _ => rfl
    have HPC : Hid (∀ k : Nat, (s.part k).c = s.c ∧ (s.part k).d = s.d) := fun _ => ⟨rfl, rfl⟩
    clear hm hall hall2 hrg hfl hT hT1 hT2 htl hg hg2 e1 e2
    obtain ⟨W, H, C, D⟩ := s
    dsimp only at n1 n2 n3 n4 wh1 wh0
    replace wh1 : W * H ≤ 65536 := wh1
    replace hmul : g * g2 ≤ 1024 := hmul
    dsimp only [Sh.v] at HTT HT1 HT2 HG HM
    show Calls _ _ #[.agg #[.int .i64 W, .int .i64 H, .int .i64 C, .int .i64 D]] w _
    go_enter Try.func3, Try.ntmps3
    go_wp2_with (first
      | (go_at_call 15; go_must (refine (first10_any _).mono ?_; rintro e w1 ⟨rfl, hb1⟩; first | (replace c0 := bsame hb1 hz c0; replace c1 := bsame hb1 hz c1; replace c2 := bsame hb1 hz c2; replace c3 := bsame hb1 hz c3; replace hB := bstep hB hb1 (Nat.le_refl _); replace hz := Nat.lt_of_lt_of_le hz hb1.size; clear hb1) | (replace hb1 := bxd hb1; replace c0 := bsame hb1 hz c0; replace c1 := bsame hb1 hz c1; replace c2 := bsame hb1 hz c2; replace c3 := bsame hb1 hz c3; replace hB := bstep hB hb1 (Nat.le_refl _); replace hz := Nat.lt_of_lt_of_le hz hb1.size; clear hb1) | (obtain ⟨c0, c1, c2, c3⟩ := cells4 (by simp) hb1; replace hB := bxd hb1; have hz : w.heap.size < w1.heap.size := (by have := hb1.size; simp at this; omega); clear hb1)))
      | (go_at_call 16; go_must (refine (HG.out _).mono ?_; rintro e w2 ⟨rfl, hb1⟩; rw [HGV.out.1, HGV.out.2]; replace c0 := bsame hb1 hz c0; replace c1 := bsame hb1 hz c1; replace c2 := bsame hb1 hz c2; replace c3 := bsame hb1 hz c3; replace hB := bstep hB hb1 (Nat.le_refl _); replace hz := Nat.lt_of_lt_of_le hz hb1.size; clear hb1))
      | (go_at_call 17; go_must (refine (HM.out _).mono ?_; rintro e w3 ⟨rfl, hb1⟩; rw [HMV.out]; replace c0 := bsame hb1 hz c0; replace c1 := bsame hb1 hz c1; replace c2 := bsame hb1 hz c2; replace c3 := bsame hb1 hz c3; replace hB := bstep hB hb1 (Nat.le_refl _); replace hz := Nat.lt_of_lt_of_le hz hb1.size; clear hb1)))
    go_loopw [7, 8] (fun n i wr => ∃ k : Nat, (k : Int) ≤ g * g2 ∧ i = .int .i64 k ∧ n = .int .i64 (Sh.areas ⟨W, H, C, D⟩ k) ∧ wr.cell? ⟨w.heap.size, 0, none⟩ = some (.int .i64 W) ∧ wr.cell? ⟨w.heap.size, 1, none⟩ = some (.int .i64 H) ∧ wr.cell? ⟨w.heap.size, 2, none⟩ = some (.int .i64 C) ∧ wr.cell? ⟨w.heap.size, 3, none⟩ = some (.int .i64 D) ∧ w.heap.size < wr.heap.size ∧ Below w.heap.size w wr)
      (fun _ i _ => (g * g2).toNat - (intOf i).toNat)
    case atStart => exact ⟨0, hmul0, rfl, rfl, c0, c1, c2, c3, hz, hB⟩
    case round =>
      clear c0 c1 c2 c3 hz hB
      obtain ⟨k, hk, rfl, rfl, c0, c1, c2, c3, hz, hB⟩ := hrel
      by_cases hlt : (k : Int) < g * g2
      · have hra := HAL2.out k hk
        obtain ⟨r1, r2, r3, r4, r5, r6⟩ := HRG.out k hlt
        obtain ⟨f1, f2⟩ := HFL.out k hlt
        have HP := Lib.hid (HTT.out k hlt)
        have hpc := HPC.out k
        have har := HAR.out k
        have hae : Sh.area ⟨W, H, C, D⟩ k = (Sh.part ⟨W, H, C, D⟩ k).w * (Sh.part ⟨W, H, C, D⟩ k).h := rfl
        rw [hae] at r1 r2
        generalize Sh.part ⟨W, H, C, D⟩ k = pt at HP hpc har r1 r2 r3 r4 r5 r6 f1 f2
        have HAK := Lib.hid har
        clear har hae
        generalize hsa : Sh.areas ⟨W, H, C, D⟩ k = sa at hra HAK ⊢
        clear hsa
        obtain ⟨pw, ph, pc, pd⟩ := pt
        dsimp only at hpc HAK r1 r2 r3 r4 r5 r6 f1 f2
        obtain ⟨rfl, rfl⟩ := hpc
        have z : (g == 0) = false := by rw [beq_eq_false_iff_ne]; omega
        have z' : ¬ g = 0 := by omega
        have t1 : (k : Int).tmod g = (k : Int) % g := Int.tmod_eq_emod_of_nonneg (by omega)
        have t2 : (k : Int).tdiv g = (k : Int) / g := Int.tdiv_eq_ediv_of_nonneg (by omega)
        have u1 := Int.emod_nonneg (k : Int) z'
        have u2 := Int.emod_lt_of_pos (k : Int) (show 0 < g by omega)
        have u3 : 0 ≤ (k : Int) / g := Int.ediv_nonneg (by omega) (by omega)
        have u4 : (k : Int) / g < g2 := Int.ediv_lt_of_lt_mul (by omega) (by rw [Int.mul_comm]; exact hlt)
        generalize (k : Int) % g = qq at t1 u1 u2 f1
        generalize (k : Int) / g = rr at t2 u3 u4 f2
        go_wp2_with (go_at_call 18; (with_reducible refine (HP.out _).mono ?_); rintro e w4 ⟨rfl, hb1⟩; first | (replace hb1 := bxd hb1; replace c0 := bsame hb1 hz c0; replace c1 := bsame hb1 hz c1; replace c2 := bsame hb1 hz c2; replace c3 := bsame hb1 hz c3; replace hB := bstep hB hb1 (Nat.le_refl _); replace hz := Nat.lt_of_lt_of_le hz hb1.size; clear hb1) | (replace c0 := bsame hb1 hz c0; replace c1 := bsame hb1 hz c1; replace c2 := bsame hb1 hz c2; replace c3 := bsame hb1 hz c3; replace hB := bstep hB hb1 (Nat.le_refl _); replace hz := Nat.lt_of_lt_of_le hz hb1.size; clear hb1))
        all_goals first
          | (exfalso; omega)
          | (go_roundw
             case rel => exact ⟨k + 1, by omega, by go_num, by first | (rw [HAK.out]; done) | (rw [HAK.out, show pw = 8 by omega, show ph = 8 by omega]; rfl) | (rw [HAK.out, show pw = 8 by omega]) | (rw [HAK.out, show ph = 8 by omega]), acell hz c0, acell hz c1, acell hz c2, acell hz c3, (by have := hz; simp only [World.size_alloc]; omega), hB.alloc hB.size _⟩
             case measure => simp [intOf]; omega)
      · have hkk : (k : Int) = g * g2 := by omega
        have hfin : Sh.areas ⟨W, H, C, D⟩ k = W * H := by have := HALL.out; rw [← hkk, Int.toNat_natCast] at this; exact this
        rw [hfin]
        have HK2 := Lib.hid hkk
        go_wp2_with (first
          | (go_at_call 15; go_must (refine (first10_any _).mono ?_; rintro e w1 ⟨rfl, hb1⟩; first | (replace c0 := bsame hb1 hz c0; replace c1 := bsame hb1 hz c1; replace c2 := bsame hb1 hz c2; replace c3 := bsame hb1 hz c3; replace hB := bstep hB hb1 (Nat.le_refl _); replace hz := Nat.lt_of_lt_of_le hz hb1.size; clear hb1) | (replace hb1 := bxd hb1; replace c0 := bsame hb1 hz c0; replace c1 := bsame hb1 hz c1; replace c2 := bsame hb1 hz c2; replace c3 := bsame hb1 hz c3; replace hB := bstep hB hb1 (Nat.le_refl _); replace hz := Nat.lt_of_lt_of_le hz hb1.size; clear hb1) | (obtain ⟨c0, c1, c2, c3⟩ := cells4 (by simp) hb1; replace hB := bxd hb1; have hz : w.heap.size < w1.heap.size := (by have := hb1.size; simp at this; omega); clear hb1)))
          | (go_at_call 18; (with_reducible refine (HT1.out _).mono ?_); rintro e w4 ⟨rfl, hb1⟩; first | (replace hb1 := bxd hb1; replace c0 := bsame hb1 hz c0; replace c1 := bsame hb1 hz c1; replace c2 := bsame hb1 hz c2; replace c3 := bsame hb1 hz c3; replace hB := bstep hB hb1 (Nat.le_refl _); replace hz := Nat.lt_of_lt_of_le hz hb1.size; clear hb1) | (replace c0 := bsame hb1 hz c0; replace c1 := bsame hb1 hz c1; replace c2 := bsame hb1 hz c2; replace c3 := bsame hb1 hz c3; replace hB := bstep hB hb1 (Nat.le_refl _); replace hz := Nat.lt_of_lt_of_le hz hb1.size; clear hb1))
          | (go_at_call 18; (with_reducible refine (HT2.out _).mono ?_); rintro e w4 ⟨rfl, hb1⟩; first | (replace hb1 := bxd hb1; replace c0 := bsame hb1 hz c0; replace c1 := bsame hb1 hz c1; replace c2 := bsame hb1 hz c2; replace c3 := bsame hb1 hz c3; replace hB := bstep hB hb1 (Nat.le_refl _); replace hz := Nat.lt_of_lt_of_le hz hb1.size; clear hb1) | (replace c0 := bsame hb1 hz c0; replace c1 := bsame hb1 hz c1; replace c2 := bsame hb1 hz c2; replace c3 := bsame hb1 hz c3; replace hB := bstep hB hb1 (Nat.le_refl _); replace hz := Nat.lt_of_lt_of_le hz hb1.size; clear hb1)))
        all_goals
          go_ret
          exact ⟨by first | rfl | simp, hB⟩

end Go.Proofs.Ytcgpeijmmongoaa
