/- The walk of TileBack. -/
import Derived.Test.YtcgpeijmmongoaaRas2
import Derived.Test.YtcgpeijmmongoaaTileShapes
import Derived.Test.YtcgpeijmmongoaaPixFirst
import Derived.Test.YtcgpeijmmongoaaPix5
import Derived.Deep.RegionHeld3
namespace Go.Proofs.Ytcgpeijmmongoaa
set_option linter.all false
open Go.RowKit

theorem cell_below {w w' : World} {b p : Nat} {v : Value} (h : Below w.heap.size w w') (e : w.cell? ⟨b, p, none⟩ = some v) : w'.cell? ⟨b, p, none⟩ = some v :=
  (h.cell (p := ⟨b, p, none⟩) (block_lt_of_cell (a := ⟨b, p, none⟩) e)).trans e
theorem cell_belowD {w w' : World} {b p : Nat} {v : Value} (h : Below w.drew.heap.size w.drew w') (e : w.cell? ⟨b, p, none⟩ = some v) : w'.cell? ⟨b, p, none⟩ = some v := cell_below (w := w.drew) h e
theorem cell_alloc {w : World} {b p : Nat} {v : Value} (e : w.cell? ⟨b, p, none⟩ = some v) (o : Obj) : (w.alloc o).cell? ⟨b, p, none⟩ = some v := cell_below ((Below.refl _ _).alloc (Nat.le_refl _) _) e
theorem cell_drew {w : World} {b p : Nat} {v : Value} (e : w.cell? ⟨b, p, none⟩ = some v) : w.drew.cell? ⟨b, p, none⟩ = some v := e

set_option maxRecDepth 100000 in
set_option maxHeartbeats 1600000 in
theorem tileBack_early (s : Sh) (A : Option Addr) (n c : Nat) (x y q : Int) (w : World) (h : ¬ (n ≤ 20000 ∧ s.mayR n = true)) :
    Calls Try.prog 14 #[s.r A n c, .int .i64 x, .int .i64 y, .int .i64 q] w fun e w' => e = .returned (.bool true) ∧ Below w.heap.size w w' := by
  have hB := Below.refl w.heap.size w
  have HF := Lib.hid (fun w => few_any s A n c w)
  have HM := Lib.hid (fun w => may_any s A n c w)
  by_cases h0 : n ≤ 20000
  · have HV := Lib.hid (show decide (n ≤ 20000) = true by simpa using h0)
    have HMV := Lib.hid (show s.mayR n = false by cases e : s.mayR n with
      | false => rfl
      | true => exact absurd ⟨h0, e⟩ h)
    clear h
    dsimp only [Sh.r] at *
    go_enter Try.func14, Try.ntmps14
    go_wp2_with (first
      | (go_at_call 15; (with_reducible refine (first10_any _).mono ?_); go_must (rintro e w1 ⟨rfl, hb1⟩; first | (have _t := c1; (try replace c1 := kept c1 rfl hb1); (try replace qb := kept qb rfl hb1); (try replace rl := rl.later hb1); (try replace rq := rq.later hb1); replace hB := bstep hB hb1 (Nat.le_refl _); clear hb1) | (have c1 := box5 hb1; replace hB := bxd hb1; clear hb1)))
      | (go_at_call 23; (with_reducible refine (HF.out _).mono ?_); go_must (rintro e w1 ⟨rfl, hb1⟩; rw [HV.out]; (try replace c1 := kept c1 rfl hb1); (try replace qb := kept qb rfl hb1); (try replace rl := rl.later hb1); (try replace rq := rq.later hb1); replace hB := bstep hB hb1 (Nat.le_refl _); clear hb1))
      | (go_at_call 20; (with_reducible refine (HM.out _).mono ?_); go_must (rintro e w1 ⟨rfl, hb1⟩; rw [HMV.out]; (try replace c1 := kept c1 rfl hb1); (try replace qb := kept qb rfl hb1); (try replace rl := rl.later hb1); (try replace rq := rq.later hb1); replace hB := bstep hB hb1 (Nat.le_refl _); clear hb1)))
    go_ret
    exact ⟨rfl, hB⟩
  · have HV := Lib.hid (show decide (n ≤ 20000) = false by simpa using h0)
    clear h
    dsimp only [Sh.r] at *
    go_enter Try.func14, Try.ntmps14
    go_wp2_with (first
      | (go_at_call 15; (with_reducible refine (first10_any _).mono ?_); go_must (rintro e w1 ⟨rfl, hb1⟩; first | (have _t := c1; (try replace c1 := kept c1 rfl hb1); (try replace qb := kept qb rfl hb1); (try replace rl := rl.later hb1); (try replace rq := rq.later hb1); replace hB := bstep hB hb1 (Nat.le_refl _); clear hb1) | (have c1 := box5 hb1; replace hB := bxd hb1; clear hb1)))
      | (go_at_call 23; (with_reducible refine (HF.out _).mono ?_); go_must (rintro e w1 ⟨rfl, hb1⟩; rw [HV.out]; (try replace c1 := kept c1 rfl hb1); (try replace qb := kept qb rfl hb1); (try replace rl := rl.later hb1); (try replace rq := rq.later hb1); replace hB := bstep hB hb1 (Nat.le_refl _); clear hb1)))
    go_ret
    exact ⟨rfl, hB⟩

set_option maxRecDepth 100000 in
set_option maxHeartbeats 12800000 in
theorem tileBack_main (s : Sh) (A : Option Addr) (n c : Nat) (x y q : Int) (bs : List UInt8) (w : World) (h1 : RdB w w.heap.size A n bs) (l1 : n ≤ c) (m1 : c ≤ maxLen) (h0 : n ≤ 20000) (hm : s.mayR n = true) :
    Calls Try.prog 14 #[s.r A n c, .int .i64 x, .int .i64 y, .int .i64 q] w fun e w' => e = .returned (.bool true) ∧ Below w.heap.size w w' := by
  have hB := Below.refl w.heap.size w
  have HF := Lib.hid (fun w => few_any s A n c w)
  have HV := Lib.hid (show decide (n ≤ 20000) = true by simpa using h0)
  have HM := Lib.hid (fun w => may_any s A n c w)
  have HMV := Lib.hid hm
  have hl := h1.len
  have hmb : s.mayR bs.length = true := by rw [hl]; exact hm
  have HMB := Lib.hid hmb
  obtain ⟨ms, -⟩ := mayR_iff hmb
  obtain ⟨g1, g2, g3, g4, -, -⟩ := Sh.gw_rng ms
  have hmul : s.gw * s.gh ≤ 32 * 32 := Int.mul_le_mul g2 g4 (by omega) (by omega)
  have hmul0 : 0 ≤ s.gw * s.gh := Int.mul_nonneg (by omega) (by omega)
  obtain ⟨N, hN⟩ := Int.eq_ofNat_of_zero_le hmul0
  have hN2 : N ≤ 1024 := by omega
  have HN := Lib.hid hN
  have HS := Lib.hid ms
  have HG := Lib.hid (fun w => grid_any s w)
  have HC := Lib.hid (fun (w' : World) (hb : Below w.heap.size w w') => cut_ok s w.heap.size n c A bs w' (h1.blw hb) hb.size l1 m1 hm)
  have HJ := Lib.hid (fun (w' : World) (A' : Option Addr) (c' : Nat) (l : List Ra) (h : RdR w' w'.heap.size A' N l) (hc : N ≤ c') (hmx : c' ≤ maxLen) (ha : AsCut s bs l) => (show Calls Try.prog 31 #[s.v, .slice A' N c'] w' fun e w'' => ∃ A2 n2 c2, e = .returned (.tuple #[s.r A2 n2 c2, .int .i64 0]) ∧ ownB w'' w'.heap.size (.slice A2 n2 c2) bs ∧ Below w'.heap.size w' w'' from by
    have := join_any s w'.heap.size N c' A' l w' h (Nat.le_refl _) hc hmx
    rwa [ha.joinE hmb, ha.joinR hmb] at this))
  have HR := Lib.hid (fun (w' : World) (n2 c2 : Nat) (A2 : Option Addr) (r2 : RdB w' w'.heap.size A2 n2 bs) (hb : Below w.heap.size w w') => sameR_any s s w'.heap.size n2 c2 w.heap.size n c A2 A bs bs w' r2 (h1.blw hb) (Nat.le_refl _) hb.size)
  have e1 : (decide (s = s) && (bs == bs)) = true := by simp
  rw [e1] at HR
  have HT := Lib.hid (fun (k : Nat) (hk : k < N) w => (show Calls Try.prog 18 #[s.v, .int .i64 k] w fun e w' => e = .returned (.tuple #[(s.part k).v, .int .i64 0]) ∧ Below w.heap.size w w' from by
    have e : s.tile k = (s.part k, 0) := by unfold Sh.tile; rw [ms, if_pos rfl, if_pos ⟨by omega, by rw [hN]; omega⟩]
    have := tile_any s k w
    rwa [e] at this))
  have HSE := Lib.hid (fun (p : Sh) w => shape_any p p w)
  have HA := Lib.hid (fun (w' : World) (hb : Below w.heap.size w w') => at_any s w.heap.size A n c bs x y q w' (h1.blw hb) hb.size l1 (by omega))
  have HAT := Lib.hid (fun (h : (s.at_ bs x y q).2 = 0) => at_tile hmb h)
  have HPM := Lib.hid (fun (k : Nat) (hk : k < N) => Sh.part_may ms (j := k) (by rw [hN]; omega))
  have HPB := Lib.hid (fun (k : Nat) (hk : k < N) => Sh.area_rng (s := s) (i := (k : Int)) ms (by omega) (by rw [hN]; omega))
  have HGG : Hid (s.gw * s.gh = N) := Lib.hid hN
  have z1 : (s.gw == 0) = false := by rw [beq_eq_false_iff_ne]; omega
  have z2 : decide (s.gw < 1) = false := by simp; omega
  rw [hN] at hmul hmul0
  have b1 : s.gw * s.gh ≤ 1024 := by rw [hN]; omega
  have b2 : 0 ≤ s.gw * s.gh := by rw [hN]; omega
  clear e1 hl hmb ms hN h1 hm l1 m1 hmul hmul0
  generalize hgw : s.gw = gw at *
  generalize hgh : s.gh = gh at *
  have HGH := Lib.hid hgh
  have HGW := Lib.hid hgw
  clear hgw hgh
  have z3 : ((N : Int) != gw * gh) = false := by rw [HGG.out]; simp
  dsimp only [Sh.r, Sh.v] at *
  go_enter Try.func14, Try.ntmps14
  go_wp2_with (first
    | (go_at_call 15; (with_reducible refine (first10_any _).mono ?_); go_must (rintro e w1 ⟨rfl, hb1⟩; first | (have _t := c1; (try replace c1 := kept c1 rfl hb1); (try replace qb := kept qb rfl hb1); (try replace rl := rl.later hb1); (try replace rq := rq.later hb1); replace hB := bstep hB hb1 (Nat.le_refl _); clear hb1) | (have c1 := box5 hb1; replace hB := bxd hb1; clear hb1)))
    | (go_at_call 23; (with_reducible refine (HF.out _).mono ?_); go_must (rintro e w1 ⟨rfl, hb1⟩; rw [HV.out]; (try replace c1 := kept c1 rfl hb1); (try replace qb := kept qb rfl hb1); (try replace rl := rl.later hb1); (try replace rq := rq.later hb1); replace hB := bstep hB hb1 (Nat.le_refl _); clear hb1))
    | (go_at_call 20; (with_reducible refine (HM.out _).mono ?_); go_must (rintro e w1 ⟨rfl, hb1⟩; rw [HMV.out]; (try replace c1 := kept c1 rfl hb1); (try replace qb := kept qb rfl hb1); (try replace rl := rl.later hb1); (try replace rq := rq.later hb1); replace hB := bstep hB hb1 (Nat.le_refl _); clear hb1))
    | (go_at_call 26; (with_reducible refine (HC.out _ hB).mono ?_); go_must (rintro e w2 ⟨v, l, rfl, hO, hlen, hT, hb1⟩; (try replace c1 := kept c1 rfl hb1); (try replace qb := kept qb rfl hb1); (try replace rl := rl.later hb1); (try replace rq := rq.later hb1); replace hB := bstep hB hb1 (Nat.le_refl _); have hAC := Lib.hid (AsCut.of (by rw [HGW.out, HGH.out]; exact hlen) hT); obtain ⟨Al, cl, rfl, rl, ll, lm⟩ := hO.rd hT; have HLN : Hid (l.length = N) := (show _ = _ by rw [hlen, HGG.out]; rfl); rw [HLN.out] at rl ll ⊢; clear hO hlen hT hb1))
    | (go_at_call 31; (with_reducible refine (HJ.out _ _ _ _ rl ll lm hAC.out).mono ?_); go_must (rintro e w3 ⟨A2, n2, c2, rfl, hx, hb1⟩; (try replace c1 := kept c1 rfl hb1); (try replace qb := kept qb rfl hb1); (try replace rl := rl.later hb1); (try replace rq := rq.later hb1); replace hB := bstep hB hb1 (Nat.le_refl _); have rq := hx.rd; clear hx hb1; have q1 : w.heap.size < w3.heap.size := ltOf c1 rfl; have q1n : ¬ w.heap.size = w3.heap.size := Nat.ne_of_lt q1))
    | (go_at_call 16; (with_reducible refine (HG.out _).mono ?_); go_must (rintro e w4 ⟨rfl, hb1⟩; (try (have qb := box5 hb1; replace hb1 := bxd hb1)); (try replace c1 := kept c1 rfl hb1); (try replace qb := kept qb rfl hb1); (try replace rl := rl.later hb1); (try replace rq := rq.later hb1); replace hB := bstep hB hb1 (Nat.le_refl _); clear hb1))
    | (go_at_call 30; (with_reducible refine (HR.out _ _ _ _ rq hB).mono ?_); go_must (rintro e w5 ⟨rfl, hb1⟩; (try replace c1 := kept c1 rfl hb1); (try replace qb := kept qb rfl hb1); (try replace rl := rl.later hb1); (try replace rq := rq.later hb1); replace hB := bstep hB hb1 (Nat.le_refl _); clear hb1)))
  go_loopw [15] (fun i wr => ∃ k : Nat, k ≤ N ∧ i = .int .i64 k ∧ (∀ i, wr.cell? ⟨w.heap.size, i, none⟩ = r5 (.int .i64 s.w) (.int .i64 s.h) (.int .i64 s.c) (.int .i64 s.d) (.slice A n c) i) ∧ RdR wr wr.heap.size Al N l ∧ Below w.heap.size w wr)
    (fun i _ => N - (intOf i).toNat)
  case atStart => exact ⟨0, Nat.zero_le _, rfl, c1, rl, hB⟩
  case round =>
    clear c1 qb rl rq hB q1 q1n
    obtain ⟨k, hk, rfl, c1, rl, hB⟩ := hrel
    have hwr : w.heap.size < wr.heap.size := ltOf c1 rfl
    by_cases hlt : k < N
    · have hkl : k < l.length := by rw [HLN.out]; exact hlt
      obtain ⟨b, o, rfl, hbw, HE⟩ := rl.cell5 hkl
      obtain ⟨a1, a2, a3⟩ := hAC.out.2 k hkl
      have hx1 := (rl.2 l[k] (List.getElem_mem hkl)).2.1
      have HMX := Lib.hid (fun w => may_any (s.part k) l[k].A l[k].n l[k].c w)
      have HMXV : Hid ((s.part (k : Int)).mayR l[k].n = true) := (show _ = _ by
        obtain ⟨m1, m2⟩ := mayR_iff HMB.out
        have hj : (k : Int) < s.gw * s.gh := by rw [HGW.out, HGH.out, HGG.out]; omega
        rw [a3, a2, cutB_len m1 m2]
        unfold Sh.mayR
        rw [Sh.part_may m1 hj, Sh.part_size m1 hj]
        simp)
      obtain ⟨-, -, p1, p2, p3, p4⟩ := HPB.out k hlt
      have HTk := Lib.hid (HT.out k hlt)
      have HSk := Lib.hid (HSE.out (s.part k))
      unfold Cell5 at HE
      rw [a1] at HE
      generalize s.part (k : Int) = p at HE HMX HMXV p1 p2 p3 p4 HTk HSk
      generalize l[k].A = xA at HE HMX
      generalize l[k].n = xn at HE HMX HMXV
      generalize l[k].c = xc at HE HMX
      clear a1 a2 a3 hx1 hkl
      obtain ⟨e0, e1, e2, e3, e4⟩ := HE
      have d1 : decide (8 < p.w) = false := by simp; omega
      have d2 : decide (8 < p.h) = false := by simp; omega
      have d3 : decide (p = p) = true := by simp
      dsimp only [Sh.r, Sh.v] at HMX HTk HSk
      go_upto_region 14 with (first
        | (go_at_call 18; (with_reducible refine (HTk.out _).mono ?_); go_must (rintro e w1 ⟨rfl, hb1⟩; have HB1 := Lib.hid hb1; have z1' := hb1.size; replace e0 := cell_below hb1 e0; replace e1 := cell_below hb1 e1; replace e2 := cell_below hb1 e2; replace e3 := cell_below hb1 e3; replace e4 := cell_below hb1 e4; clear hb1)))
      have cT := new4 w1 (.int .i64 p.w) (.int .i64 p.h) (.int .i64 p.c) (.int .i64 p.d) 23 (0, 0)
      have hbn : ¬ b = w1.heap.size := by omega
      go_cut [118] (fun v wc => v = .bool false ∧ Below wr.heap.size wr wc)
      case first =>
        go_region_held3 (fun w' => (∀ i, w'.cell? ⟨w1.heap.size, i, none⟩ = s4 (.int .i64 p.w) (.int .i64 p.h) (.int .i64 p.c) (.int .i64 p.d) i) ∧ w'.cell? ⟨b, o + k * 5, none⟩ = some (.int .i64 p.w) ∧ w'.cell? ⟨b, o + k * 5 + 1, none⟩ = some (.int .i64 p.h) ∧ w'.cell? ⟨b, o + k * 5 + 2, none⟩ = some (.int .i64 p.c) ∧ w'.cell? ⟨b, o + k * 5 + 3, none⟩ = some (.int .i64 p.d) ∧ w'.cell? ⟨b, o + k * 5 + 4, none⟩ = some (.slice xA xn xc))
          (first | (with_reducible exact ⟨cT, cell_alloc e0 _, cell_alloc e1 _, cell_alloc e2 _, cell_alloc e3 _, cell_alloc e4 _⟩) | (refine ⟨?_, ?_, ?_, ?_, ?_, ?_⟩ <;> (repeat (first | with_reducible exact cT | with_reducible exact e0 | with_reducible exact e1 | with_reducible exact e2 | with_reducible exact e3 | with_reducible exact e4 | (with_reducible refine cell_drew ?_) | (with_reducible refine cell_alloc ?_ _) | (with_reducible refine kD4 ?_) | (with_reducible refine kA4 ?_ _) | (with_reducible refine kX4 hb5 ?_) | (with_reducible refine kDX4 hb5 ?_) | (with_reducible refine cell_below hb5 ?_) | (with_reducible refine cell_belowD hb5 ?_) | (with_reducible refine kX4 hb3 ?_) | (with_reducible refine kDX4 hb3 ?_) | (with_reducible refine cell_below hb3 ?_) | (with_reducible refine cell_belowD hb3 ?_)))))
          (first
            | (go_at_call 21; (with_reducible refine (HSk.out _).mono ?_); go_must (rintro e w3 ⟨rfl, hb3⟩; rw [d3]))
            | (go_at_call 20; (with_reducible refine (HMX.out _).mono ?_); go_must (rintro e w5 ⟨rfl, hb5⟩; rw [HMXV.out])))
        all_goals
          go_wp2_with fail
          go_meet
          case rel =>
            refine ⟨rfl, ?_⟩
            have h3 : Below wr.heap.size wr w3 := (by first | with_reducible exact bstep (Below.drew (Below.alloc HB1.out HB1.out.size _)) hb3 (Nat.le_refl _) | with_reducible exact bstep (Below.alloc HB1.out HB1.out.size _) hb3 (Nat.le_refl _))
            (first | with_reducible exact bstep h3 hb5 (Nat.le_refl _) | with_reducible exact bstep (Below.drew h3) hb5 (Nat.le_refl _))
      case rest =>
        obtain ⟨rfl, hbr⟩ := hcut
        replace c1 := kept c1 rfl hbr
        replace rl := rl.later hbr
        replace hB := bstep hB hbr (Nat.le_refl _)
        clear e0 e1 e2 e3 e4 cT hbr
        go_wp2_with fail
        go_roundw
        case rel => exact ⟨k + 1, by omega, by go_num, c1, rl, hB⟩
        case measure => simp [intOf]; omega
    · obtain rfl : k = N := by omega
      by_cases he : (s.at_ bs x y q).2 = 0
      · obtain ⟨x0, y0, k2, hk2, hk3, hat⟩ := HAT.out he
        rw [HGG.out] at hk3
        have hlt : k2 < k := by omega
        have hkl : k2 < l.length := by rw [HLN.out]; exact hlt
        obtain ⟨b, o, rfl, hbw, HE⟩ := rl.cell5 hkl
        obtain ⟨a1, a2, a3⟩ := hAC.out.2 k2 hkl
        have rx := (rl.2 l[k2] (List.getElem_mem hkl)).1
        have hx1 := (rl.2 l[k2] (List.getElem_mem hkl)).2.1
        have hxn : l[k2].n ≤ 16384 := by
          obtain ⟨m1, m2⟩ := mayR_iff HMB.out
          have hj : (k2 : Int) < s.gw * s.gh := by rw [HGW.out, HGH.out, HGG.out]; omega
          have h9 := Sh.part_size m1 hj
          have h10 := Sh.part_may m1 hj
          rw [a3, a2, cutB_len m1 m2]
          unfold Sh.may at h10
          simp at h10
          omega
        rw [a2] at rx
        have HA2 := Lib.hid (fun (w' : World) (r : RdB w' w'.heap.size l[k2].A l[k2].n (s.cutB bs k2)) => at_any (s.part k2) w'.heap.size l[k2].A l[k2].n l[k2].c (s.cutB bs k2) (x % 8) (y % 8) q w' r (Nat.le_refl _) hx1 (by omega))
        rw [hat, he] at HA2
        rw [he] at HA
        unfold Cell5 at HE
        rw [a1] at HE
        generalize (s.at_ bs x y q).1 = v at HA HA2
        generalize s.part (k2 : Int) = p at HE HA2
        generalize s.cutB bs k2 = xbs at HA2 rx
        generalize l[k2].A = xA at HE HA2 rx
        generalize l[k2].n = xn at HE HA2 rx
        generalize l[k2].c = xc at HE HA2
        clear a1 a2 a3 hx1 hkl he hat rl hxn
        obtain ⟨e0, e1, e2, e3, e4⟩ := HE
        have m0 : 0 ≤ y / 8 * gw := Int.mul_nonneg (by omega) (by omega)
        have m1 : y / 8 * gw ≤ 1024 := by omega
        have m2 : y / 8 * 1 ≤ y / 8 * gw := Int.mul_le_mul_of_nonneg_left g1 (by omega)
        have m3 : y ≤ 8200 := by omega
        have m4 : x ≤ 8200 := by omega
        dsimp only [Sh.r, Sh.v] at HA2
        go_wp2_with (first
          | (go_at_call 34; (with_reducible refine (HA.out _ hB).mono ?_); go_must (rintro e w1 ⟨rfl, hb1⟩; (try replace e0 := cell_below hb1 e0); (try replace e1 := cell_below hb1 e1); (try replace e2 := cell_below hb1 e2); (try replace e3 := cell_below hb1 e3); (try replace e4 := cell_below hb1 e4); (try replace rx := rx.later hb1); (try replace c1 := kept c1 rfl hb1); replace hB := bstep hB hb1 (Nat.le_refl _); clear hb1))
          | (go_at_call 34; (with_reducible refine (HA2.out _ rx).mono ?_); go_must (rintro e w2 ⟨rfl, hb1⟩; (try replace e0 := cell_below hb1 e0); (try replace e1 := cell_below hb1 e1); (try replace e2 := cell_below hb1 e2); (try replace e3 := cell_below hb1 e3); (try replace e4 := cell_below hb1 e4); (try replace rx := rx.later hb1); (try replace c1 := kept c1 rfl hb1); replace hB := bstep hB hb1 (Nat.le_refl _); clear hb1))
          | (go_at_call 15; (with_reducible refine (first10_any _).mono ?_); go_must (rintro e w3 ⟨rfl, hb1⟩; (try replace e0 := cell_below hb1 e0); (try replace e1 := cell_below hb1 e1); (try replace e2 := cell_below hb1 e2); (try replace e3 := cell_below hb1 e3); (try replace e4 := cell_below hb1 e4); (try replace rx := rx.later hb1); (try replace c1 := kept c1 rfl hb1); replace hB := bstep hB hb1 (Nat.le_refl _); clear hb1)))
        go_ret
        exact ⟨ret_bool (by first | rfl | simp), hB⟩
      · have hE : ((s.at_ bs x y q).2 != 0) = true := by rw [bne_iff_ne]; exact he
        generalize (s.at_ bs x y q).1 = v at HA
        generalize (s.at_ bs x y q).2 = E at HA hE
        clear he HAT
        go_wp2_with (first
          | (go_at_call 34; (with_reducible refine (HA.out _ hB).mono ?_); go_must (rintro e w1 ⟨rfl, hb1⟩; replace hB := bstep hB hb1 (Nat.le_refl _); clear hb1))
          | (go_at_call 15; (with_reducible refine (first10_any _).mono ?_); go_must (rintro e w3 ⟨rfl, hb1⟩; replace hB := bstep hB hb1 (Nat.le_refl _); clear hb1)))
        go_ret
        exact ⟨rfl, hB⟩

theorem tileBack_walk (s : Sh) (A : Option Addr) (n c : Nat) (x y q : Int) (bs : List UInt8) (w : World) (h1 : RdB w w.heap.size A n bs) (l1 : n ≤ c) (m1 : c ≤ maxLen) :
    Calls Try.prog 14 #[s.r A n c, .int .i64 x, .int .i64 y, .int .i64 q] w fun e w' => e = .returned (.bool true) ∧ Below w.heap.size w w' := by
  by_cases h : n ≤ 20000 ∧ s.mayR n = true
  · exact tileBack_main s A n c x y q bs w h1 l1 m1 h.1 h.2
  · exact tileBack_early s A n c x y q w h


end Go.Proofs.Ytcgpeijmmongoaa
