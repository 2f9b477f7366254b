/- tile: the grid and the shapes of the reference. -/
import Derived.Test.YtcgpeijmmongoaaTile3
import Derived.Test.YtcgpeijmmongoaaBox2
import Derived.Deep.RegionHeld3
namespace Go.Proofs.Ytcgpeijmmongoaa
set_option linter.all false
open Go.RowKit

set_option maxHeartbeats 800000 in
theorem grid9_any (s : Sh) (w : World) : Calls Try.prog 25 #[s.v] w fun e w' => e = .returned (.tuple #[.int .i64 s.gw, .int .i64 s.gh]) ∧ Below w.heap.size w w' := by
  have hB := Below.refl w.heap.size w
  have HV := Lib.hid (fun w => mayS9_any s w)
  cases hm : s.may with
  | false =>
    have HM := Lib.hid hm
    have HG := Lib.hid (show s.gw = 0 ∧ s.gh = 0 by unfold Sh.gw Sh.gh; rw [hm]; exact ⟨rfl, rfl⟩)
    rw [HG.out.1, HG.out.2]
    clear hm HG
    obtain ⟨W, H, C, D⟩ := s
    show Calls _ _ #[.agg #[.int .i64 W, .int .i64 H, .int .i64 C, .int .i64 D]] w _
    go_enter Try.func25, Try.ntmps25
    go_wp2_with (go_at_call 52; go_must (refine (HV.out _).mono ?_; rintro e w1 ⟨rfl, hb1⟩; rw [HM.out]; replace hB := bxd hb1; clear hb1))
    go_ret2
    exact ⟨rfl, hB⟩
  | true =>
    have HM := Lib.hid hm
    obtain ⟨⟨a1, a2⟩, ⟨a3, a4⟩, -, -⟩ := (Sh.nums_iff s).1 (Sh.may_nums hm)
    have HG := Lib.hid (show s.gw = (s.w + 7) / 8 ∧ s.gh = (s.h + 7) / 8 by unfold Sh.gw Sh.gh; rw [hm]; exact ⟨rfl, rfl⟩)
    rw [HG.out.1, HG.out.2]
    have v1 := wrapI (s.w + 8) (by omega) (by omega)
    have v2 := wrapI (s.w + 8 - 1) (by omega) (by omega)
    have v3 := wrapI (s.h + 8) (by omega) (by omega)
    have v4 := wrapI (s.h + 8 - 1) (by omega) (by omega)
    have e1 : (s.w + 8 - 1).tdiv 8 = (s.w + 7) / 8 := by rw [Int.tdiv_eq_ediv_of_nonneg (by omega)]; congr 1; omega
    have e2 : (s.h + 8 - 1).tdiv 8 = (s.h + 7) / 8 := by rw [Int.tdiv_eq_ediv_of_nonneg (by omega)]; congr 1; omega
    have v5 := wrapI ((s.w + 7) / 8) (by omega) (by omega)
    have v6 := wrapI ((s.h + 7) / 8) (by omega) (by omega)
    clear hm HG a1 a2 a3 a4
    obtain ⟨W, H, C, D⟩ := s
    dsimp only at v1 v2 v3 v4 v5 v6 e1 e2 ⊢
    show Calls _ _ #[.agg #[.int .i64 W, .int .i64 H, .int .i64 C, .int .i64 D]] w _
    go_enter Try.func25, Try.ntmps25
    go_wp2_with (go_at_call 52; go_must (refine (HV.out _).mono ?_; rintro e w1 ⟨rfl, hb1⟩; rw [HM.out]; obtain ⟨c0, c1, c2, c3⟩ := cells4 (by simp) hb1; replace hB := bxd hb1; clear hb1))
    go_quiet (fail)
    go_wp2
    go_ret2
    exact ⟨rfl, bdrewN hB _⟩


set_option maxRecDepth 100000 in
set_option maxHeartbeats 1600000 in
theorem tile9_no (s : Sh) (i : Int) (w : World) (hm : s.may = false) :
    Calls Try.prog 28 #[s.v, .int .i64 i] w fun e w' => e = .returned (.tuple #[(⟨0, 0, 0, 0⟩ : Sh).v, .int .i64 4]) ∧ Below w.heap.size w w' := by
  have hB := Below.refl w.heap.size w
  have HV := Lib.hid (fun w => grid9_any s w)
  have HG := Lib.hid (show s.gw = 0 by unfold Sh.gw; rw [hm]; rfl)
  clear hm
  dsimp only [Sh.v] at *
  go_enter Try.func28, Try.ntmps28
  go_wp2_with (first
    | (go_at_call 25; (with_reducible refine (HV.out _).mono ?_); go_must (rintro e w1 ⟨rfl, hb1⟩; rw [HG.out]; have rr := box4 hb1; rw [World.size_alloc] at rr; have ff := boxF hb1; rw [World.size_alloc] at ff; replace hb1 := bxd hb1; have cS := box4 hb1; replace hB := bxd hb1; clear hb1)))
  refine bodyPost_ret (v := .tuple #[.agg #[.int .i64 0, .int .i64 0, .int .i64 0, .int .i64 0], .int .i64 4]) ?_ rfl ?_
  · unfold results
    go_simp
  · exact ⟨rfl, (((hB.setCell (Nat.le_succ _) _).setCell (Nat.le_succ _) _).setCell (Nat.le_succ _) _).setCell (Nat.le_succ _) _⟩

set_option maxRecDepth 100000 in
set_option maxHeartbeats 1600000 in
theorem tile9_range (s : Sh) (i : Int) (w : World) (hm : s.may = true) (hi : i < 0 ∨ s.gw * s.gh ≤ i) :
    Calls Try.prog 28 #[s.v, .int .i64 i] w fun e w' => e = .returned (.tuple #[(⟨0, 0, 0, 0⟩ : Sh).v, .int .i64 1]) ∧ Below w.heap.size w w' := by
  have hB := Below.refl w.heap.size w
  have HV := Lib.hid (fun w => grid9_any s w)
  obtain ⟨a1, a2, a3, a4, -, -⟩ := Sh.gw_rng hm
  have hmul : s.gw * s.gh ≤ 32 * 32 := Int.mul_le_mul a2 a4 (by omega) (by omega)
  have hmul0 : 0 ≤ s.gw * s.gh := Int.mul_nonneg (by omega) (by omega)
  clear hm
  dsimp only [Sh.v] at *
  generalize s.gw = g at *
  generalize s.gh = g2 at *
  have z : (g == 0) = false := by rw [beq_eq_false_iff_ne]; omega
  by_cases h0 : i < 0
  · clear hi
    go_enter Try.func28, Try.ntmps28
    go_wp2_with (first
      | (go_at_call 25; (with_reducible refine (HV.out _).mono ?_); go_must (rintro e w1 ⟨rfl, hb1⟩; have rr := box4 hb1; rw [World.size_alloc] at rr; have ff := boxF hb1; rw [World.size_alloc] at ff; replace hb1 := bxd hb1; have cS := box4 hb1; replace hB := bxd hb1; clear hb1)))
    refine bodyPost_ret (v := .tuple #[.agg #[.int .i64 0, .int .i64 0, .int .i64 0, .int .i64 0], .int .i64 1]) ?_ rfl ?_
    · unfold results
      go_simp
    · exact ⟨rfl, (((hB.setCell (Nat.le_succ _) _).setCell (Nat.le_succ _) _).setCell (Nat.le_succ _) _).setCell (Nat.le_succ _) _⟩
  · have h1 : g * g2 ≤ i := by omega
    clear hi
    go_enter Try.func28, Try.ntmps28
    go_wp2_with (first
      | (go_at_call 25; (with_reducible refine (HV.out _).mono ?_); go_must (rintro e w1 ⟨rfl, hb1⟩; have rr := box4 hb1; rw [World.size_alloc] at rr; have ff := boxF hb1; rw [World.size_alloc] at ff; replace hb1 := bxd hb1; have cS := box4 hb1; replace hB := bxd hb1; clear hb1)))
    refine bodyPost_ret (v := .tuple #[.agg #[.int .i64 0, .int .i64 0, .int .i64 0, .int .i64 0], .int .i64 1]) ?_ rfl ?_
    · unfold results
      go_simp
    · exact ⟨rfl, (((hB.setCell (Nat.le_succ _) _).setCell (Nat.le_succ _) _).setCell (Nat.le_succ _) _).setCell (Nat.le_succ _) _⟩

set_option maxRecDepth 100000 in
set_option maxHeartbeats 3200000 in
theorem tile9_ok (s : Sh) (i : Int) (w : World) (hm : s.may = true) (i0 : 0 ≤ i) (i1 : i < s.gw * s.gh) :
    Calls Try.prog 28 #[s.v, .int .i64 i] w fun e w' => e = .returned (.tuple #[(s.part i).v, .int .i64 0]) ∧ Below w.heap.size w w' := by
  have hB := Below.refl w.heap.size w
  have HV := Lib.hid (fun w => grid9_any s w)
  obtain ⟨a1, a2, a3, a4, -, -⟩ := Sh.gw_rng hm
  have hmul : s.gw * s.gh ≤ 32 * 32 := Int.mul_le_mul a2 a4 (by omega) (by omega)
  obtain ⟨⟨x0, x1⟩, ⟨y0, y1⟩⟩ := Sh.corner_rng hm i0 i1
  obtain ⟨⟨n1, n2⟩, ⟨n3, n4⟩, -, -⟩ := (Sh.nums_iff s).1 (Sh.may_nums hm)
  clear hm
  unfold Sh.part
  unfold Sh.cx at *
  unfold Sh.cy at *
  dsimp only [Sh.v] at *
  generalize s.gw = g at *
  generalize s.gh = g2 at *
  obtain ⟨W, H, C, D⟩ := s
  dsimp only at *
  have z : (g == 0) = false := by rw [beq_eq_false_iff_ne]; omega
  have z2 : ¬ g = 0 := by omega
  have q0 : 0 ≤ i / g := Int.ediv_nonneg i0 (by omega)
  have q1 : 0 ≤ i % g := Int.emod_nonneg _ (by omega)
  have q2 : i / g ≤ 32 := by omega
  have q3 : i % g ≤ 32 := by omega
  have e1 : i.tmod g = i % g := Int.tmod_eq_emod_of_nonneg i0
  have e2 : i.tdiv g = i / g := Int.tdiv_eq_ediv_of_nonneg i0
  have v0 : IntKind.i64.wrap (i % g) = i % g := wrapI _ (by omega) (by omega)
  have v1 : IntKind.i64.wrap (i % g * 8) = i % g * 8 := wrapI _ (by omega) (by omega)
  have v2 : IntKind.i64.wrap (W - i % g * 8) = W - i % g * 8 := wrapI _ (by omega) (by omega)
  have v3 : IntKind.i64.wrap (i / g) = i / g := wrapI _ (by omega) (by omega)
  have v4 : IntKind.i64.wrap (i / g * 8) = i / g * 8 := wrapI _ (by omega) (by omega)
  have v5 : IntKind.i64.wrap (H - i / g * 8) = H - i / g * 8 := wrapI _ (by omega) (by omega)
  have z3 : decide (i < 0) = false := by simp; omega
  have z4 : decide (g * g2 ≤ i) = false := by simp; omega
  obtain ⟨mx, hmx⟩ : ∃ m, m = min 8 (W - i % g * 8) := ⟨_, rfl⟩
  obtain ⟨my, hmy⟩ : ∃ m, m = min 8 (H - i / g * 8) := ⟨_, rfl⟩
  rw [← hmx, ← hmy]
  have MX := Lib.hid hmx
  have MY := Lib.hid hmy
  clear hmx hmy
  by_cases c1 : W - i % g * 8 < 8 <;> by_cases c2 : H - i / g * 8 < 8
  all_goals
    have HX : mx = if W - i % g * 8 < 8 then W - i % g * 8 else 8 := by rw [MX.out]; split <;> omega
    have HY : my = if H - i / g * 8 < 8 then H - i / g * 8 else 8 := by rw [MY.out]; split <;> omega
    (first | rw [if_pos c1] at HX | rw [if_neg c1] at HX)
    (first | rw [if_pos c2] at HY | rw [if_neg c2] at HY)
    subst HX HY
    go_enter Try.func28, Try.ntmps28
    go_upto_region 7 with (first
      | (go_at_call 25; (with_reducible refine (HV.out _).mono ?_); go_must (rintro e w1 ⟨rfl, hb1⟩; have rr := box4 hb1; rw [World.size_alloc] at rr; have ff := boxF hb1; rw [World.size_alloc] at ff; replace hb1 := bxd hb1; have cS := box4 hb1; replace hB := bxd hb1; clear hb1)))
    have hw1 : w.heap.size + 1 < w1.heap.size := ltOf rr rfl
    have hw0 : w.heap.size < w1.heap.size := by omega
    have hn1 : ¬ w.heap.size = w1.heap.size := by omega
    have hn2 : ¬ w.heap.size + 1 = w1.heap.size := by omega
    go_region_held3 (fun w' => ∀ i, w'.cell? ⟨w.heap.size, i, none⟩ = s4 (.int .i64 W) (.int .i64 H) (.int .i64 C) (.int .i64 D) i)
      (first | (with_reducible exact cS) | (with_reducible exact kA4 cS _) | (repeat (first | with_reducible exact cS | (with_reducible refine kD4 ?_) | (with_reducible refine kA4 ?_ _) | ((with_reducible refine keptS ?_ ?_ _); rotate_left 1; (show w.heap.size ≠ w1.heap.size; omega)))))
      (fail)
    all_goals
      go_wp2_with fail
      (first | refine bodyPost_ret (v := .tuple #[.agg #[.int .i64 (W - i % g * 8), .int .i64 (H - i / g * 8), .int .i64 C, .int .i64 D], .int .i64 0]) ?_ rfl ⟨rfl, ?_⟩ | refine bodyPost_ret (v := .tuple #[.agg #[.int .i64 8, .int .i64 (H - i / g * 8), .int .i64 C, .int .i64 D], .int .i64 0]) ?_ rfl ⟨rfl, ?_⟩ | refine bodyPost_ret (v := .tuple #[.agg #[.int .i64 (W - i % g * 8), .int .i64 8, .int .i64 C, .int .i64 D], .int .i64 0]) ?_ rfl ⟨rfl, ?_⟩ | refine bodyPost_ret (v := .tuple #[.agg #[.int .i64 8, .int .i64 8, .int .i64 C, .int .i64 D], .int .i64 0]) ?_ rfl ⟨rfl, ?_⟩)
      · unfold results
        go_simp
      · exact (Below.alloc ((((hB.setCell (p := ⟨w.heap.size + 1, 0, none⟩) (Nat.le_succ _) _).setCell (p := ⟨w.heap.size + 1, 1, none⟩) (Nat.le_succ _) _).setCell (p := ⟨w.heap.size + 1, 2, none⟩) (Nat.le_succ _) _).setCell (p := ⟨w.heap.size + 1, 3, none⟩) (Nat.le_succ _) _) (by simp; exact hB.size) _).drew

end Go.Proofs.Ytcgpeijmmongoaa
