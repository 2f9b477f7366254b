/- tile: rows, with what Cut and what Join hand to it. -/
import Derived.Test.YtcgpeijmmongoaaTile4
namespace Go.Proofs.Ytcgpeijmmongoaa
set_option linter.all false
open Go.RowKit

/-- Where a tile's rows begin within a row of the picture. -/
def Sh.left (s : Sh) (i : Int) : Int := if 0 < s.cx i then (⟨s.cx i, 1, s.c, s.d⟩ : Sh).row else 0
theorem kG4 {w w' : World} {b g : Nat} {x0 x1 x2 x3 : Value} (c : ∀ i, w.cell? ⟨b, i, none⟩ = s4 x0 x1 x2 x3 i) (h : w.grownBy w' (some g)) (hb : b ≠ g) : ∀ i, w'.cell? ⟨b, i, none⟩ = s4 x0 x1 x2 x3 i := keptG c rfl h hb
theorem kG5 {w w' : World} {b g : Nat} {x0 x1 x2 x3 x4 : Value} (c : ∀ i, w.cell? ⟨b, i, none⟩ = r5 x0 x1 x2 x3 x4 i) (h : w.grownBy w' (some g)) (hb : b ≠ g) : ∀ i, w'.cell? ⟨b, i, none⟩ = r5 x0 x1 x2 x3 x4 i := keptG c rfl h hb
theorem Sh.rows_facts {s : Sh} {i : Int} (hm : s.may = true) (h0 : 0 ≤ i) (h1 : i < s.gw * s.gh) :
    (0 ≤ s.cx i ∧ s.cx i ≤ 256) ∧ (0 ≤ s.cy i ∧ s.cy i ≤ 256) ∧ (1 ≤ (s.part i).h ∧ (s.part i).h ≤ 8) ∧ (0 ≤ s.row ∧ s.row ≤ 2048) ∧ (0 ≤ (s.part i).row ∧ (s.part i).row ≤ 2048) ∧ (0 ≤ s.left i ∧ s.left i ≤ 2048) := by
  obtain ⟨⟨x0, x1⟩, ⟨y0, y1⟩⟩ := Sh.corner_rng hm h0 h1
  obtain ⟨⟨a1, a2⟩, ⟨a3, a4⟩, -, -⟩ := (Sh.nums_iff s).1 (Sh.may_nums hm)
  have hr : ∀ s : Sh, 0 ≤ s.row ∧ s.row ≤ 2048 := by
    intro s
    cases hn : s.nums with
    | true => obtain ⟨-, -, h, -⟩ := Sh.bounds s hn; omega
    | false => unfold Sh.row; rw [hn]; simp
  have hl : 0 ≤ s.left i ∧ s.left i ≤ 2048 := by
    unfold Sh.left
    split
    · exact hr _
    · omega
  have hp : (s.part i).h = min 8 (s.h - s.cy i) := rfl
  exact ⟨by omega, by omega, by omega, hr s, hr _, hl⟩

set_option maxRecDepth 100000 in
set_option maxHeartbeats 3200000 in
theorem rowsCut_any {Inv : Nat → World → Prop} (s : Sh) (i : Int) (g : Nat) (v1 v2 : Value) (w : World) (hm : s.may = true) (h0 : 0 ≤ i) (h1 : i < s.gw * s.gh) (hg : g < w.heap.size)
    (hI : Inv 0 w) (hst : ∀ k w1 w2, Inv k w1 → Below w1.heap.size w1 w2 → Inv k w2)
    (hc : ∀ k : Nat, (k : Int) < (s.part i).h → ∀ w1, w.grownBy w1 (some g) → Inv k w1 → Calls Try.prog 60 #[.int .i64 ((s.cy i + k) * s.row + s.left i), .int .i64 (k * (s.part i).row), .int .i64 (s.part i).row, v1, v2] w1 fun e w' => e = .returned (.tuple #[]) ∧ Inv (k + 1) w' ∧ w1.grownBy w' (some g)) :
    Calls Try.prog 59 #[s.v, .int .i64 i, .func (.func 60) #[] #[v1, v2]] w fun e w' => e = .returned (.tuple #[]) ∧ Inv (s.part i).h.toNat w' ∧ w.grownBy w' (some g) := by
  obtain ⟨⟨x0, x1⟩, ⟨y0, y1⟩, ⟨q0, q1⟩, ⟨r0, r1⟩, ⟨n0, n1⟩, ⟨l0, l1⟩⟩ := Sh.rows_facts hm h0 h1
  have HV := Lib.hid (fun w => corner_any s i w hm h0 h1)
  have HP := Lib.hid (fun w => part_any s i w hm h0 h1)
  have HR := Lib.hid (fun w => row_any s w)
  have HQ := Lib.hid (fun w => row_any (s.part i) w)
  have HX := Lib.hid (fun w => row_any ⟨s.cx i, 1, s.c, s.d⟩ w)
  have HS := Lib.hid hst
  have HL : Hid (s.left i = if 0 < s.cx i then (⟨s.cx i, 1, s.c, s.d⟩ : Sh).row else 0) := (show _ = _ from rfl)
  generalize s.left i = l at hc l0 l1 HL
  generalize (⟨s.cx i, 1, s.c, s.d⟩ : Sh).row = l' at HX HL
  generalize s.row = R at hc HR r0 r1
  generalize s.cy i = y at hc HV y0 y1
  generalize s.cx i = x at HV HX HL x0 x1
  have hpp : (s.part i).c = s.c ∧ (s.part i).d = s.d := ⟨rfl, rfl⟩
  generalize (s.part i).row = nn at hc HQ n0 n1
  generalize s.part i = p at hc HP HQ q0 q1 hpp ⊢
  obtain ⟨pW, pH, pC, pD⟩ := p
  obtain ⟨W, H, C, D⟩ := s
  obtain ⟨rfl, rfl⟩ := hpp
  dsimp only [Sh.v] at *
  obtain ⟨ph, rfl⟩ := Int.eq_ofNat_of_zero_le (show 0 ≤ pH by omega)
  have HC : Hid (∀ k : Nat, k < ph → ∀ w1, w.grownBy w1 (some g) → Inv k w1 → Calls Try.prog 60 #[.int .i64 ((y + k) * R + l), .int .i64 (k * nn), .int .i64 nn, v1, v2] w1 fun e w' => e = .returned (.tuple #[]) ∧ Inv (k + 1) w' ∧ w1.grownBy w' (some g)) := (show _ from fun k hk => hc k (by omega))
  clear hm h0 h1 hc hst
  have hT : ∀ w0 : World, (ph : Int).toNat = ph := fun _ => rfl
  have HI := Lib.hid hI
  clear hI hT
  have hG := grown_refl w (some g)
  by_cases hx : 0 < x
  all_goals
    have hl' := HL.out
    (first | rw [if_pos hx] at hl' | rw [if_neg hx] at hl')
    subst hl'
    clear HL
  · go_enter Try.func59, Try.ntmps59
    go_wp2_with (first
      | (go_at_call 72; (with_reducible refine (HV.out _).mono ?_); go_must (rintro e w1 ⟨rfl, hb1⟩; have cS := box4 hb1; have b0 := ltOf cS rfl; have HI1 := Lib.hid (HS.out _ _ _ HI.out (bxd hb1)); replace hG := hG.trans (grown_below (bxd hb1) _); clear hb1))
      | (go_at_call 57; (with_reducible refine (HP.out _).mono ?_); go_must (rintro e w2 ⟨rfl, hb1⟩; replace HI1 := Lib.hid (HS.out _ _ _ HI1.out hb1); replace cS := kept cS rfl hb1; replace hG := hG.trans (grown_below hb1 _); clear hb1))
      | (go_at_call 35; (with_reducible refine (HQ.out _).mono ?_); go_must (rintro e w3 ⟨rfl, hb1⟩; have cP := box4 hb1; have HI0 := Lib.hid (HS.out _ _ _ HI1.out (bxd hb1)); replace cS := kept cS rfl (bxd hb1); replace hG := hG.trans (grown_below (bxd hb1) _); clear hb1 HI1))
      | (go_at_call 35; (with_reducible refine (HX.out _).mono ?_); go_must (rintro e w4 ⟨rfl, hb1⟩; replace HI0 := Lib.hid (HS.out _ _ _ HI0.out hb1); replace cS := kept cS rfl hb1; replace cP := kept cP rfl hb1; replace hG := hG.trans (grown_below hb1 _); clear hb1)))
    go_loopw [34] (fun i wr => ∃ k : Nat, k ≤ ph ∧ i = .int .i64 k ∧ Inv k wr ∧ w.grownBy wr (some g) ∧ (∀ i, wr.cell? ⟨w.heap.size, i, none⟩ = s4 (.int .i64 W) (.int .i64 H) (.int .i64 pC) (.int .i64 pD) i))
      (fun i _ => ph - (intOf i).toNat)
    case atStart => exact ⟨0, Nat.zero_le _, rfl, HI0.out, hG, cS⟩
    case round =>
      clear hG cS HI0 cP
      obtain ⟨k, hk, rfl, hI, hG, cS⟩ := hrel
      have HI := Lib.hid hI
      clear hI
      by_cases hlt : k < ph
      · have m0 : 0 ≤ (y + (k : Int)) * R := Int.mul_nonneg (by omega) r0
        have m1 : (y + (k : Int)) * R ≤ 264 * 2048 := Int.mul_le_mul (by omega) r1 r0 (by omega)
        have m2 : 0 ≤ (k : Int) * nn := Int.mul_nonneg (by omega) n0
        have m3 : (k : Int) * nn ≤ 8 * 2048 := Int.mul_le_mul (by omega) n1 n0 (by omega)
        go_wp2_with (first
          | (go_at_call 35; (with_reducible refine (HR.out _).mono ?_); go_must (rintro e w5 ⟨rfl, hb1⟩; replace HI := Lib.hid (HS.out _ _ _ HI.out hb1); replace cS := kept cS rfl hb1; replace hG := hG.trans (grown_below hb1 _); clear hb1))
          | (go_at_call 60; (with_reducible refine (HC.out k hlt _ hG HI.out).mono ?_); go_must (rintro e w6 ⟨rfl, hI6, hG6⟩; replace HI := Lib.hid hI6; clear hI6; replace cS := kG4 cS hG6 (by omega); replace hG := hG.trans hG6; clear hG6)))
        go_roundw
        case rel => exact ⟨k + 1, by omega, by go_num, HI.out, hG, cS⟩
        case measure => simp [intOf]; omega
      · obtain rfl : k = ph := by omega
        go_wp2
        go_end0
        exact ⟨rfl, HI.out, hG⟩
  · simp only [Int.add_zero] at HC
    go_enter Try.func59, Try.ntmps59
    go_wp2_with (first
      | (go_at_call 72; (with_reducible refine (HV.out _).mono ?_); go_must (rintro e w1 ⟨rfl, hb1⟩; have cS := box4 hb1; have b0 := ltOf cS rfl; have HI1 := Lib.hid (HS.out _ _ _ HI.out (bxd hb1)); replace hG := hG.trans (grown_below (bxd hb1) _); clear hb1))
      | (go_at_call 57; (with_reducible refine (HP.out _).mono ?_); go_must (rintro e w2 ⟨rfl, hb1⟩; replace HI1 := Lib.hid (HS.out _ _ _ HI1.out hb1); replace cS := kept cS rfl hb1; replace hG := hG.trans (grown_below hb1 _); clear hb1))
      | (go_at_call 35; (with_reducible refine (HQ.out _).mono ?_); go_must (rintro e w3 ⟨rfl, hb1⟩; have cP := box4 hb1; have HI0 := Lib.hid (HS.out _ _ _ HI1.out (bxd hb1)); replace cS := kept cS rfl (bxd hb1); replace hG := hG.trans (grown_below (bxd hb1) _); clear hb1 HI1)))
    go_loopw [34] (fun i wr => ∃ k : Nat, k ≤ ph ∧ i = .int .i64 k ∧ Inv k wr ∧ w.grownBy wr (some g) ∧ (∀ i, wr.cell? ⟨w.heap.size, i, none⟩ = s4 (.int .i64 W) (.int .i64 H) (.int .i64 pC) (.int .i64 pD) i))
      (fun i _ => ph - (intOf i).toNat)
    case atStart => exact ⟨0, Nat.zero_le _, rfl, HI0.out, hG, cS⟩
    case round =>
      clear hG cS HI0 cP
      obtain ⟨k, hk, rfl, hI, hG, cS⟩ := hrel
      have HI := Lib.hid hI
      clear hI
      by_cases hlt : k < ph
      · have m0 : 0 ≤ (y + (k : Int)) * R := Int.mul_nonneg (by omega) r0
        have m1 : (y + (k : Int)) * R ≤ 264 * 2048 := Int.mul_le_mul (by omega) r1 r0 (by omega)
        have m2 : 0 ≤ (k : Int) * nn := Int.mul_nonneg (by omega) n0
        have m3 : (k : Int) * nn ≤ 8 * 2048 := Int.mul_le_mul (by omega) n1 n0 (by omega)
        go_wp2_with (first
          | (go_at_call 35; (with_reducible refine (HR.out _).mono ?_); go_must (rintro e w5 ⟨rfl, hb1⟩; replace HI := Lib.hid (HS.out _ _ _ HI.out hb1); replace cS := kept cS rfl hb1; replace hG := hG.trans (grown_below hb1 _); clear hb1))
          | (go_at_call 60; (with_reducible refine (HC.out k hlt _ hG HI.out).mono ?_); go_must (rintro e w6 ⟨rfl, hI6, hG6⟩; replace HI := Lib.hid hI6; clear hI6; replace cS := kG4 cS hG6 (by omega); replace hG := hG.trans hG6; clear hG6)))
        go_roundw
        case rel => exact ⟨k + 1, by omega, by go_num, HI.out, hG, cS⟩
        case measure => simp [intOf]; omega
      · obtain rfl : k = ph := by omega
        go_wp2
        go_end0
        exact ⟨rfl, HI.out, hG⟩

set_option maxRecDepth 100000 in
set_option maxHeartbeats 3200000 in
theorem rowsJoin_any {Inv : Nat → World → Prop} (s : Sh) (i : Int) (g : Nat) (v1 v2 : Value) (w : World) (hm : s.may = true) (h0 : 0 ≤ i) (h1 : i < s.gw * s.gh) (hg : g < w.heap.size)
    (hI : Inv 0 w) (hst : ∀ k w1 w2, Inv k w1 → Below w1.heap.size w1 w2 → Inv k w2)
    (hc : ∀ k : Nat, (k : Int) < (s.part i).h → ∀ w1, w.grownBy w1 (some g) → Inv k w1 → Calls Try.prog 61 #[.int .i64 ((s.cy i + k) * s.row + s.left i), .int .i64 (k * (s.part i).row), .int .i64 (s.part i).row, v1, v2] w1 fun e w' => e = .returned (.tuple #[]) ∧ Inv (k + 1) w' ∧ w1.grownBy w' (some g)) :
    Calls Try.prog 59 #[s.v, .int .i64 i, .func (.func 61) #[] #[v1, v2]] w fun e w' => e = .returned (.tuple #[]) ∧ Inv (s.part i).h.toNat w' ∧ w.grownBy w' (some g) := by
  obtain ⟨⟨x0, x1⟩, ⟨y0, y1⟩, ⟨q0, q1⟩, ⟨r0, r1⟩, ⟨n0, n1⟩, ⟨l0, l1⟩⟩ := Sh.rows_facts hm h0 h1
  have HV := Lib.hid (fun w => corner_any s i w hm h0 h1)
  have HP := Lib.hid (fun w => part_any s i w hm h0 h1)
  have HR := Lib.hid (fun w => row_any s w)
  have HQ := Lib.hid (fun w => row_any (s.part i) w)
  have HX := Lib.hid (fun w => row_any ⟨s.cx i, 1, s.c, s.d⟩ w)
  have HS := Lib.hid hst
  have HL : Hid (s.left i = if 0 < s.cx i then (⟨s.cx i, 1, s.c, s.d⟩ : Sh).row else 0) := (show _ = _ from rfl)
  generalize s.left i = l at hc l0 l1 HL
  generalize (⟨s.cx i, 1, s.c, s.d⟩ : Sh).row = l' at HX HL
  generalize s.row = R at hc HR r0 r1
  generalize s.cy i = y at hc HV y0 y1
  generalize s.cx i = x at HV HX HL x0 x1
  have hpp : (s.part i).c = s.c ∧ (s.part i).d = s.d := ⟨rfl, rfl⟩
  generalize (s.part i).row = nn at hc HQ n0 n1
  generalize s.part i = p at hc HP HQ q0 q1 hpp ⊢
  obtain ⟨pW, pH, pC, pD⟩ := p
  obtain ⟨W, H, C, D⟩ := s
  obtain ⟨rfl, rfl⟩ := hpp
  dsimp only [Sh.v] at *
  obtain ⟨ph, rfl⟩ := Int.eq_ofNat_of_zero_le (show 0 ≤ pH by omega)
  have HC : Hid (∀ k : Nat, k < ph → ∀ w1, w.grownBy w1 (some g) → Inv k w1 → Calls Try.prog 61 #[.int .i64 ((y + k) * R + l), .int .i64 (k * nn), .int .i64 nn, v1, v2] w1 fun e w' => e = .returned (.tuple #[]) ∧ Inv (k + 1) w' ∧ w1.grownBy w' (some g)) := (show _ from fun k hk => hc k (by omega))
  clear hm h0 h1 hc hst
  have hT : ∀ w0 : World, (ph : Int).toNat = ph := fun _ => rfl
  have HI := Lib.hid hI
  clear hI hT
  have hG := grown_refl w (some g)
  by_cases hx : 0 < x
  all_goals
    have hl' := HL.out
    (first | rw [if_pos hx] at hl' | rw [if_neg hx] at hl')
    subst hl'
    clear HL
  · go_enter Try.func59, Try.ntmps59
    go_wp2_with (first
      | (go_at_call 72; (with_reducible refine (HV.out _).mono ?_); go_must (rintro e w1 ⟨rfl, hb1⟩; have cS := box4 hb1; have b0 := ltOf cS rfl; have HI1 := Lib.hid (HS.out _ _ _ HI.out (bxd hb1)); replace hG := hG.trans (grown_below (bxd hb1) _); clear hb1))
      | (go_at_call 57; (with_reducible refine (HP.out _).mono ?_); go_must (rintro e w2 ⟨rfl, hb1⟩; replace HI1 := Lib.hid (HS.out _ _ _ HI1.out hb1); replace cS := kept cS rfl hb1; replace hG := hG.trans (grown_below hb1 _); clear hb1))
      | (go_at_call 35; (with_reducible refine (HQ.out _).mono ?_); go_must (rintro e w3 ⟨rfl, hb1⟩; have cP := box4 hb1; have HI0 := Lib.hid (HS.out _ _ _ HI1.out (bxd hb1)); replace cS := kept cS rfl (bxd hb1); replace hG := hG.trans (grown_below (bxd hb1) _); clear hb1 HI1))
      | (go_at_call 35; (with_reducible refine (HX.out _).mono ?_); go_must (rintro e w4 ⟨rfl, hb1⟩; replace HI0 := Lib.hid (HS.out _ _ _ HI0.out hb1); replace cS := kept cS rfl hb1; replace cP := kept cP rfl hb1; replace hG := hG.trans (grown_below hb1 _); clear hb1)))
    go_loopw [34] (fun i wr => ∃ k : Nat, k ≤ ph ∧ i = .int .i64 k ∧ Inv k wr ∧ w.grownBy wr (some g) ∧ (∀ i, wr.cell? ⟨w.heap.size, i, none⟩ = s4 (.int .i64 W) (.int .i64 H) (.int .i64 pC) (.int .i64 pD) i))
      (fun i _ => ph - (intOf i).toNat)
    case atStart => exact ⟨0, Nat.zero_le _, rfl, HI0.out, hG, cS⟩
    case round =>
      clear hG cS HI0 cP
      obtain ⟨k, hk, rfl, hI, hG, cS⟩ := hrel
      have HI := Lib.hid hI
      clear hI
      by_cases hlt : k < ph
      · have m0 : 0 ≤ (y + (k : Int)) * R := Int.mul_nonneg (by omega) r0
        have m1 : (y + (k : Int)) * R ≤ 264 * 2048 := Int.mul_le_mul (by omega) r1 r0 (by omega)
        have m2 : 0 ≤ (k : Int) * nn := Int.mul_nonneg (by omega) n0
        have m3 : (k : Int) * nn ≤ 8 * 2048 := Int.mul_le_mul (by omega) n1 n0 (by omega)
        go_wp2_with (first
          | (go_at_call 35; (with_reducible refine (HR.out _).mono ?_); go_must (rintro e w5 ⟨rfl, hb1⟩; replace HI := Lib.hid (HS.out _ _ _ HI.out hb1); replace cS := kept cS rfl hb1; replace hG := hG.trans (grown_below hb1 _); clear hb1))
          | (go_at_call 61; (with_reducible refine (HC.out k hlt _ hG HI.out).mono ?_); go_must (rintro e w6 ⟨rfl, hI6, hG6⟩; replace HI := Lib.hid hI6; clear hI6; replace cS := kG4 cS hG6 (by omega); replace hG := hG.trans hG6; clear hG6)))
        go_roundw
        case rel => exact ⟨k + 1, by omega, by go_num, HI.out, hG, cS⟩
        case measure => simp [intOf]; omega
      · obtain rfl : k = ph := by omega
        go_wp2
        go_end0
        exact ⟨rfl, HI.out, hG⟩
  · simp only [Int.add_zero] at HC
    go_enter Try.func59, Try.ntmps59
    go_wp2_with (first
      | (go_at_call 72; (with_reducible refine (HV.out _).mono ?_); go_must (rintro e w1 ⟨rfl, hb1⟩; have cS := box4 hb1; have b0 := ltOf cS rfl; have HI1 := Lib.hid (HS.out _ _ _ HI.out (bxd hb1)); replace hG := hG.trans (grown_below (bxd hb1) _); clear hb1))
      | (go_at_call 57; (with_reducible refine (HP.out _).mono ?_); go_must (rintro e w2 ⟨rfl, hb1⟩; replace HI1 := Lib.hid (HS.out _ _ _ HI1.out hb1); replace cS := kept cS rfl hb1; replace hG := hG.trans (grown_below hb1 _); clear hb1))
      | (go_at_call 35; (with_reducible refine (HQ.out _).mono ?_); go_must (rintro e w3 ⟨rfl, hb1⟩; have cP := box4 hb1; have HI0 := Lib.hid (HS.out _ _ _ HI1.out (bxd hb1)); replace cS := kept cS rfl (bxd hb1); replace hG := hG.trans (grown_below (bxd hb1) _); clear hb1 HI1)))
    go_loopw [34] (fun i wr => ∃ k : Nat, k ≤ ph ∧ i = .int .i64 k ∧ Inv k wr ∧ w.grownBy wr (some g) ∧ (∀ i, wr.cell? ⟨w.heap.size, i, none⟩ = s4 (.int .i64 W) (.int .i64 H) (.int .i64 pC) (.int .i64 pD) i))
      (fun i _ => ph - (intOf i).toNat)
    case atStart => exact ⟨0, Nat.zero_le _, rfl, HI0.out, hG, cS⟩
    case round =>
      clear hG cS HI0 cP
      obtain ⟨k, hk, rfl, hI, hG, cS⟩ := hrel
      have HI := Lib.hid hI
      clear hI
      by_cases hlt : k < ph
      · have m0 : 0 ≤ (y + (k : Int)) * R := Int.mul_nonneg (by omega) r0
        have m1 : (y + (k : Int)) * R ≤ 264 * 2048 := Int.mul_le_mul (by omega) r1 r0 (by omega)
        have m2 : 0 ≤ (k : Int) * nn := Int.mul_nonneg (by omega) n0
        have m3 : (k : Int) * nn ≤ 8 * 2048 := Int.mul_le_mul (by omega) n1 n0 (by omega)
        go_wp2_with (first
          | (go_at_call 35; (with_reducible refine (HR.out _).mono ?_); go_must (rintro e w5 ⟨rfl, hb1⟩; replace HI := Lib.hid (HS.out _ _ _ HI.out hb1); replace cS := kept cS rfl hb1; replace hG := hG.trans (grown_below hb1 _); clear hb1))
          | (go_at_call 61; (with_reducible refine (HC.out k hlt _ hG HI.out).mono ?_); go_must (rintro e w6 ⟨rfl, hI6, hG6⟩; replace HI := Lib.hid hI6; clear hI6; replace cS := kG4 cS hG6 (by omega); replace hG := hG.trans hG6; clear hG6)))
        go_roundw
        case rel => exact ⟨k + 1, by omega, by go_num, HI.out, hG, cS⟩
        case measure => simp [intOf]; omega
      · obtain rfl : k = ph := by omega
        go_wp2
        go_end0
        exact ⟨rfl, HI.out, hG⟩

end Go.Proofs.Ytcgpeijmmongoaa
