/- The walk of TileCuts. -/
import Derived.Test.YtcgpeijmmongoaaCuts1
namespace Go.Proofs.Ytcgpeijmmongoaa
set_option linter.all false
open Go.RowKit

set_option maxRecDepth 100000 in
set_option maxHeartbeats 1600000 in
theorem tileCuts_early (s : Sh) (A : Option Addr) (n a : Nat) (z : Int) (w : World) (h : ¬ n ≤ 20000) :
    Calls Try.prog 5 #[s.r A n a, .int .i64 z] w fun e w' => e = .returned (.bool true) ∧ Below w.heap.size w w' := by
  have hB := Below.refl w.heap.size w
  have HF := Lib.hid (fun w => few_any s A n a w)
  have HV := Lib.hid (show decide (n ≤ 20000) = false by simpa using h)
  clear h
  dsimp only [Sh.r] at *
  go_enter Try.func5, Try.ntmps5
  go_wp2_with (first
    | (go_at_call 15; (with_reducible refine (first10_any _).mono ?_); go_must (rintro e w1 ⟨rfl, hb1⟩; first | (have _t := c1; (try replace c1 := kept c1 rfl hb1); (try replace ci := kept ci rfl hb1); (try replace cs := kept cs rfl hb1); (try replace ct := kept ct rfl hb1); (try replace hO := hO.later hb1); (try replace hU := hU.later hb1); (try replace rl := rl.later hb1); (try replace rm := rm.later hb1); (try replace hB4 := bstep hB4 hb1 (Nat.le_refl _)); replace hB := bstep hB hb1 (Nat.le_refl _); clear hb1) | (have c1 := box5 hb1; replace hB := bxd hb1; clear hb1)))
    | (go_at_call 23; (with_reducible refine (HF.out _).mono ?_); go_must (rintro e w1 ⟨rfl, hb1⟩; rw [HV.out]; (try replace c1 := kept c1 rfl hb1); (try replace ci := kept ci rfl hb1); (try replace cs := kept cs rfl hb1); (try replace ct := kept ct rfl hb1); (try replace hO := hO.later hb1); (try replace hU := hU.later hb1); (try replace rl := rl.later hb1); (try replace rm := rm.later hb1); (try replace hB4 := bstep hB4 hb1 (Nat.le_refl _)); replace hB := bstep hB hb1 (Nat.le_refl _); clear hb1)))
  go_ret
  exact ⟨rfl, hB⟩

theorem grown_setCell1 (w : World) (g p : Nat) (v : Value) : w.grownBy (w.setCell ⟨g, p, none⟩ v) (some g) :=
  ⟨by simp [World.setCell], by simp [World.setCell], by simp [World.setCell], by simp, fun k _ hk => Below.heap_setCell w ⟨g, p, none⟩ v k (fun e => hk (by rw [e]))⟩
theorem cell_ras {w : World} {base N c k : Nat} {A : Option Addr} {l : List Ra} (h : ownR w base (.slice A N c) l) (hk : k < l.length) {g c' : Nat} (e : Value.slice A N c = .slice (some ⟨g, 0, none⟩) l.length c') : Cell5 w g (k * 5) l[k] ∧ N ≤ c ∧ c ≤ maxLen := by
  obtain ⟨A1, c1, e1, hr, h1, h2⟩ := h.form
  injection e with q1 q2 q3
  injection e1 with q4 q5 q6
  subst q1 q2 q4
  obtain ⟨b, o, e, hb, -, hc⟩ := Rd.ras hr hk
  injection e with e
  injection e with e1 e2 _
  subst e1 e2
  have h0 := hc 0 (by omega)
  have h1' := hc 1 (by omega)
  have h2' := hc 2 (by omega)
  have h3 := hc 3 (by omega)
  have h4 := hc 4 (by omega)
  rw [Nat.zero_add] at h0 h1' h2' h3 h4
  exact ⟨⟨h0, h1', h2', h3, h4⟩, by omega, by omega⟩
theorem rasters0 (w : World) : Calls Try.prog 29 #[.slice none 0 0, .slice none 0 0] w fun e w' => e = .returned (.bool true) ∧ Below w.heap.size w w' :=
  rasters_eq 0 0 0 0 0 none none [] [] w ⟨Rd.none_, fun x hx => by cases hx⟩ ⟨Rd.none_, fun x hx => by cases hx⟩ (Nat.zero_le _) (Nat.zero_le _) (by omega) (fun j hj => absurd hj (by simp))

set_option maxRecDepth 100000 in
set_option maxHeartbeats 12800000 in
theorem tileCuts_no (s : Sh) (A : Option Addr) (n a : Nat) (z : Int) (bs : List UInt8) (w : World) (h1 : RdB w w.heap.size A n bs) (l1 : n ≤ a) (m1 : a ≤ maxLen) (h0 : n ≤ 20000) (hm : s.mayR n = false) :
    Calls Try.prog 5 #[s.r A n a, .int .i64 z] w fun e w' => e = .returned (.bool true) ∧ Below w.heap.size w w' := by
  have hB := Below.refl w.heap.size w
  have HF := Lib.hid (fun w => few_any s A n a w)
  have HV := Lib.hid (show decide (n ≤ 20000) = true by simpa using h0)
  have HNN := Lib.hid h1.len
  have HC := Lib.hid (fun (w' : World) (hb : Below w.heap.size w w') => copyR_any s w.heap.size A n a bs w' (h1.blw hb) hb.size (by omega))
  have HG := Lib.hid (fun w => grid_any s w)
  have HG9 := Lib.hid (fun w => grid9_any s w)
  have HT := Lib.hid (fun w => tile_any s z w)
  have HT9 := Lib.hid (fun w => tile9_any s z w)
  have HSS := Lib.hid (fun (p : Sh) w => shape_any p p w)
  have HRR := Lib.hid (fun (w' : World) (B k2 : Nat) (A2 : Option Addr) (r : RdB w' B A2 n bs) (hBB : B ≤ w'.heap.size) (hb : Below w.heap.size w w') => sameR_any s s B n k2 w.heap.size n a A2 A bs bs w' r (h1.blw hb) hBB hb.size)
  have e0 : (decide (s = s) && (bs == bs)) = true := by simp
  rw [e0] at HRR
  have HH := Lib.hid h1
  have HCN := Lib.hid (fun (A2 : Option Addr) (k2 : Nat) w => cut_no s n k2 A2 w hm)
  have HC9 := Lib.hid (fun w => cut9_no s n a A w hm)
  clear e0 h1 hm l1 m1
  obtain ⟨p, E, hp⟩ : ∃ p E, s.tile z = (p, E) := ⟨_, _, rfl⟩
  rw [hp] at HT HT9
  clear hp
  have HSP := Lib.hid (HSS.out p)
  have d3 : decide (p = p) = true := by simp
  dsimp only [Sh.r, Sh.v] at *
  go_enter Try.func5, Try.ntmps5
  go_wp2_with (first
    | (go_at_call 15; (with_reducible refine (first10_any _).mono ?_); go_must (rintro e w1 ⟨rfl, hb1⟩; first | (have _t := c1; (try replace c1 := kept c1 rfl hb1); (try replace ci := kept ci rfl hb1); (try replace cs := kept cs rfl hb1); (try replace ct := kept ct rfl hb1); (try replace hO := hO.later hb1); (try replace hU := hU.later hb1); (try replace rl := rl.later hb1); (try replace rm := rm.later hb1); (try replace hB4 := bstep hB4 hb1 (Nat.le_refl _)); replace hB := bstep hB hb1 (Nat.le_refl _); clear hb1) | (have c1 := box5 hb1; replace hB := bxd hb1; clear hb1)))
    | (go_at_call 23; (with_reducible refine (HF.out _).mono ?_); go_must (rintro e w1 ⟨rfl, hb1⟩; rw [HV.out]; (try replace c1 := kept c1 rfl hb1); (try replace ci := kept ci rfl hb1); (try replace cs := kept cs rfl hb1); (try replace ct := kept ct rfl hb1); (try replace hO := hO.later hb1); (try replace hU := hU.later hb1); (try replace rl := rl.later hb1); (try replace rm := rm.later hb1); (try replace hB4 := bstep hB4 hb1 (Nat.le_refl _)); replace hB := bstep hB hb1 (Nat.le_refl _); clear hb1))
    | (go_at_call 24; (with_reducible refine (HC.out _ hB).mono ?_); go_must (rintro e w2 ⟨A2, n2, k2, rfl, hx, hb1⟩; (try replace c1 := kept c1 rfl hb1); (try replace ci := kept ci rfl hb1); (try replace cs := kept cs rfl hb1); (try replace ct := kept ct rfl hb1); (try replace hO := hO.later hb1); (try replace hU := hU.later hb1); (try replace rl := rl.later hb1); (try replace rm := rm.later hb1); (try replace hB4 := bstep hB4 hb1 (Nat.le_refl _)); replace hB := bstep hB hb1 (Nat.le_refl _); obtain ⟨A3, k3, ev, ri, li, mi⟩ := hx.form; injection ev with ev1 ev2 ev3; subst ev1 ev3; rw [HNN.out] at ri li ev2; replace ev2 := ev2.symm; subst ev2; clear hx hb1; have q1 : w.heap.size < w2.heap.size := ltOf c1 rfl; have q1n : ¬ w.heap.size = w2.heap.size := Nat.ne_of_lt q1))
    | (go_at_call 16; (with_reducible refine (HG.out _).mono ?_); go_must (rintro e w3 ⟨rfl, hb1⟩; replace ri := (RdB.here (ri.alloc (Nat.le_refl _) _)).later hb1; (try (have ci := box5 hb1; replace hb1 := bxd hb1)); (try replace c1 := kept c1 rfl hb1); (try replace ci := kept ci rfl hb1); (try replace cs := kept cs rfl hb1); (try replace ct := kept ct rfl hb1); (try replace hO := hO.later hb1); (try replace hU := hU.later hb1); (try replace rl := rl.later hb1); (try replace rm := rm.later hb1); (try replace hB4 := bstep hB4 hb1 (Nat.le_refl _)); replace hB := bstep hB hb1 (Nat.le_refl _); clear hb1))
    | (go_at_call 25; (with_reducible refine (HG9.out _).mono ?_); go_must (rintro e w4 ⟨rfl, hb1⟩; replace ri := ri.later hb1; (try replace c1 := kept c1 rfl hb1); (try replace ci := kept ci rfl hb1); (try replace cs := kept cs rfl hb1); (try replace ct := kept ct rfl hb1); (try replace hO := hO.later hb1); (try replace hU := hU.later hb1); (try replace rl := rl.later hb1); (try replace rm := rm.later hb1); (try replace hB4 := bstep hB4 hb1 (Nat.le_refl _)); replace hB := bstep hB hb1 (Nat.le_refl _); clear hb1))
    | (go_at_call 26; (with_reducible refine (HCN.out _ _ _).mono ?_); go_must (rintro e w5 ⟨rfl, hb1⟩; have HRI := Lib.hid ri; have hB4 := hb1; (try replace c1 := kept c1 rfl hb1); (try replace ci := kept ci rfl hb1); (try replace cs := kept cs rfl hb1); (try replace ct := kept ct rfl hb1); (try replace hO := hO.later hb1); (try replace hU := hU.later hb1); (try replace rl := rl.later hb1); (try replace rm := rm.later hb1); replace hB := bstep hB hb1 (Nat.le_refl _); clear hb1; clear ri))
    | (go_at_call 27; (with_reducible refine (HC9.out _).mono ?_); go_must (rintro e w6 ⟨rfl, hb1⟩; (try replace c1 := kept c1 rfl hb1); (try replace ci := kept ci rfl hb1); (try replace cs := kept cs rfl hb1); (try replace ct := kept ct rfl hb1); (try replace hO := hO.later hb1); (try replace hU := hU.later hb1); (try replace rl := rl.later hb1); (try replace rm := rm.later hb1); (try replace hB4 := bstep hB4 hb1 (Nat.le_refl _)); replace hB := bstep hB hb1 (Nat.le_refl _); clear hb1))
    | (go_at_call 18; (with_reducible refine (HT.out _).mono ?_); go_must (rintro e w7 ⟨rfl, hb1⟩; have h67 := hb1.size; (try replace c1 := kept c1 rfl hb1); (try replace ci := kept ci rfl hb1); (try replace cs := kept cs rfl hb1); (try replace ct := kept ct rfl hb1); (try replace hO := hO.later hb1); (try replace hU := hU.later hb1); (try replace rl := rl.later hb1); (try replace rm := rm.later hb1); (try replace hB4 := bstep hB4 hb1 (Nat.le_refl _)); replace hB := bstep hB hb1 (Nat.le_refl _); clear hb1; have q7 : w.heap.size < w7.heap.size := ltOf c1 rfl; have q7n : ¬ w.heap.size = w7.heap.size := Nat.ne_of_lt q7))
    | (go_at_call 28; (with_reducible refine (HT9.out _).mono ?_); go_must (rintro e w8 ⟨rfl, hb1⟩; have cs := box4 hb1; replace hb1 := bxd hb1; have h78 := hb1.size; (try replace c1 := kept c1 rfl hb1); (try replace ci := kept ci rfl hb1); (try replace cs := kept cs rfl hb1); (try replace ct := kept ct rfl hb1); (try replace hO := hO.later hb1); (try replace hU := hU.later hb1); (try replace rl := rl.later hb1); (try replace rm := rm.later hb1); (try replace hB4 := bstep hB4 hb1 (Nat.le_refl _)); replace hB := bstep hB hb1 (Nat.le_refl _); clear hb1))
    | (go_at_call 29; (with_reducible refine (rasters0 _).mono ?_); go_must (rintro e w9 ⟨rfl, hb1⟩; have ct := box4 hb1; replace hb1 := bxd hb1; (try replace c1 := kept c1 rfl hb1); (try replace ci := kept ci rfl hb1); (try replace cs := kept cs rfl hb1); (try replace ct := kept ct rfl hb1); (try replace hO := hO.later hb1); (try replace hU := hU.later hb1); (try replace rl := rl.later hb1); (try replace rm := rm.later hb1); (try replace hB4 := bstep hB4 hb1 (Nat.le_refl _)); replace hB := bstep hB hb1 (Nat.le_refl _); clear hb1)))
  have rf := HRI.out.blw hB4
  have hlo2 : w4.heap.size ≤ w9.heap.size := hB4.size
  go_loopw [19] (fun i wr => i = .int .i64 0 ∧ (∀ i, wr.cell? ⟨w.heap.size, i, none⟩ = r5 (.int .i64 s.w) (.int .i64 s.h) (.int .i64 s.c) (.int .i64 s.d) (.slice A n a) i) ∧ (∀ i, wr.cell? ⟨w2.heap.size, i, none⟩ = r5 (.int .i64 s.w) (.int .i64 s.h) (.int .i64 s.c) (.int .i64 s.d) (.slice A2 n k2) i) ∧ (∀ i, wr.cell? ⟨w7.heap.size, i, none⟩ = s4 (.int .i64 p.w) (.int .i64 p.h) (.int .i64 p.c) (.int .i64 p.d) i) ∧ (∀ i, wr.cell? ⟨w8.heap.size, i, none⟩ = s4 (.int .i64 p.w) (.int .i64 p.h) (.int .i64 p.c) (.int .i64 p.d) i) ∧ RdB wr w4.heap.size A2 n bs ∧ w4.heap.size ≤ wr.heap.size ∧ Below w.heap.size w wr) (fun _ _ => 0)
  case atStart => exact ⟨rfl, c1, ci, cs, ct, rf, hlo2, hB⟩
  case round =>
    clear c1 ci cs ct rf hlo2 hB hB4
    obtain ⟨rfl, c1, ci, cs, ct, rf, hlo2, hB⟩ := hrel
    go_wp2_with (first
      | (go_at_call 15; (with_reducible refine (first10_any _).mono ?_); go_must (rintro e w1 ⟨rfl, hb1⟩; (try replace c1 := kept c1 rfl hb1); (try replace ci := kept ci rfl hb1); (try replace cs := kept cs rfl hb1); (try replace ct := kept ct rfl hb1); replace rf := rf.blw (hb1.mono hlo2); replace hlo2 := Nat.le_trans hlo2 hb1.size; replace hB := bstep hB hb1 (Nat.le_refl _); clear hb1))
      | (go_at_call 21; (with_reducible refine (HSP.out _).mono ?_); go_must (rintro e w1 ⟨rfl, hb1⟩; rw [d3]; (try replace c1 := kept c1 rfl hb1); (try replace ci := kept ci rfl hb1); (try replace cs := kept cs rfl hb1); (try replace ct := kept ct rfl hb1); replace rf := rf.blw (hb1.mono hlo2); replace hlo2 := Nat.le_trans hlo2 hb1.size; replace hB := bstep hB hb1 (Nat.le_refl _); clear hb1))
      | (go_at_call 30; (with_reducible refine (HRR.out _ _ _ _ rf hlo2 hB).mono ?_); go_must (rintro e w1 ⟨rfl, hb1⟩; (try replace c1 := kept c1 rfl hb1); (try replace ci := kept ci rfl hb1); (try replace cs := kept cs rfl hb1); (try replace ct := kept ct rfl hb1); replace rf := rf.blw (hb1.mono hlo2); replace hlo2 := Nat.le_trans hlo2 hb1.size; replace hB := bstep hB hb1 (Nat.le_refl _); clear hb1)))
    go_ret
    exact ⟨ret_bool (by first | rfl | simp), hB⟩

set_option maxRecDepth 100000 in
set_option maxHeartbeats 12800000 in
theorem tileCuts_ok (s : Sh) (A : Option Addr) (n a : Nat) (z : Int) (bs : List UInt8) (w : World) (h1 : RdB w w.heap.size A n bs) (l1 : n ≤ a) (m1 : a ≤ maxLen) (h0 : n ≤ 20000) (hm : s.mayR n = true) :
    Calls Try.prog 5 #[s.r A n a, .int .i64 z] w fun e w' => e = .returned (.bool true) ∧ Below w.heap.size w w' := by
  have hB := Below.refl w.heap.size w
  have HF := Lib.hid (fun w => few_any s A n a w)
  have HV := Lib.hid (show decide (n ≤ 20000) = true by simpa using h0)
  have HNN := Lib.hid h1.len
  have HC := Lib.hid (fun (w' : World) (hb : Below w.heap.size w w') => copyR_any s w.heap.size A n a bs w' (h1.blw hb) hb.size (by omega))
  have HG := Lib.hid (fun w => grid_any s w)
  have HG9 := Lib.hid (fun w => grid9_any s w)
  have HT := Lib.hid (fun w => tile_any s z w)
  have HT9 := Lib.hid (fun w => tile9_any s z w)
  have HSS := Lib.hid (fun (p : Sh) w => shape_any p p w)
  have HRR := Lib.hid (fun (w' : World) (B k2 : Nat) (A2 : Option Addr) (r : RdB w' B A2 n bs) (hBB : B ≤ w'.heap.size) (hb : Below w.heap.size w w') => sameR_any s s B n k2 w.heap.size n a A2 A bs bs w' r (h1.blw hb) hBB hb.size)
  have e0 : (decide (s = s) && (bs == bs)) = true := by simp
  rw [e0] at HRR
  have HH := Lib.hid h1
  have hl := h1.len
  have hmb : s.mayR bs.length = true := by rw [hl]; exact hm
  obtain ⟨ms, -⟩ := mayR_iff hmb
  obtain ⟨g1, g2, g3, g4, -, -⟩ := Sh.gw_rng ms
  have hmul : s.gw * s.gh ≤ 32 * 32 := Int.mul_le_mul g2 g4 (by omega) (by omega)
  have hmul0 : 0 ≤ s.gw * s.gh := Int.mul_nonneg (by omega) (by omega)
  obtain ⟨N, hN⟩ := Int.eq_ofNat_of_zero_le hmul0
  have hN2 : N ≤ 1024 := by omega
  have HNt : Hid ((s.gw * s.gh).toNat = N) := (show _ = _ by rw [hN]; rfl)
  have HCU := Lib.hid (fun (w' : World) (A2 : Option Addr) (k2 : Nat) (r : RdB w' w'.heap.size A2 n bs) (l : n ≤ k2) (m : k2 ≤ maxLen) => cut_ok s w'.heap.size n k2 A2 bs w' r (Nat.le_refl _) l m hm)
  have HC9 := Lib.hid (fun (w' : World) (hb : Below w.heap.size w w') => cut9_ok s w.heap.size n a A bs w' (h1.blw hb) hb.size l1 m1 hm)
  clear e0 hl hmb ms g1 g2 g3 g4 hmul hmul0 hN h1 hm l1 m1
  obtain ⟨p, E, hp⟩ : ∃ p E, s.tile z = (p, E) := ⟨_, _, rfl⟩
  rw [hp] at HT HT9
  clear hp
  have HSP := Lib.hid (HSS.out p)
  have d3 : decide (p = p) = true := by simp
  dsimp only [Sh.r, Sh.v] at *
  go_enter Try.func5, Try.ntmps5
  go_wp2_with (first
    | (go_at_call 15; (with_reducible refine (first10_any _).mono ?_); go_must (rintro e w1 ⟨rfl, hb1⟩; first | (have _t := c1; (try replace c1 := kept c1 rfl hb1); (try replace ci := kept ci rfl hb1); (try replace cs := kept cs rfl hb1); (try replace ct := kept ct rfl hb1); (try replace hO := hO.later hb1); (try replace hU := hU.later hb1); (try replace rl := rl.later hb1); (try replace rm := rm.later hb1); (try replace hB4 := bstep hB4 hb1 (Nat.le_refl _)); replace hB := bstep hB hb1 (Nat.le_refl _); clear hb1) | (have c1 := box5 hb1; replace hB := bxd hb1; clear hb1)))
    | (go_at_call 23; (with_reducible refine (HF.out _).mono ?_); go_must (rintro e w1 ⟨rfl, hb1⟩; rw [HV.out]; (try replace c1 := kept c1 rfl hb1); (try replace ci := kept ci rfl hb1); (try replace cs := kept cs rfl hb1); (try replace ct := kept ct rfl hb1); (try replace hO := hO.later hb1); (try replace hU := hU.later hb1); (try replace rl := rl.later hb1); (try replace rm := rm.later hb1); (try replace hB4 := bstep hB4 hb1 (Nat.le_refl _)); replace hB := bstep hB hb1 (Nat.le_refl _); clear hb1))
    | (go_at_call 24; (with_reducible refine (HC.out _ hB).mono ?_); go_must (rintro e w2 ⟨A2, n2, k2, rfl, hx, hb1⟩; (try replace c1 := kept c1 rfl hb1); (try replace ci := kept ci rfl hb1); (try replace cs := kept cs rfl hb1); (try replace ct := kept ct rfl hb1); (try replace hO := hO.later hb1); (try replace hU := hU.later hb1); (try replace rl := rl.later hb1); (try replace rm := rm.later hb1); (try replace hB4 := bstep hB4 hb1 (Nat.le_refl _)); replace hB := bstep hB hb1 (Nat.le_refl _); obtain ⟨A3, k3, ev, ri, li, mi⟩ := hx.form; injection ev with ev1 ev2 ev3; subst ev1 ev3; rw [HNN.out] at ri li ev2; replace ev2 := ev2.symm; subst ev2; clear hx hb1; have q1 : w.heap.size < w2.heap.size := ltOf c1 rfl; have q1n : ¬ w.heap.size = w2.heap.size := Nat.ne_of_lt q1))
    | (go_at_call 16; (with_reducible refine (HG.out _).mono ?_); go_must (rintro e w3 ⟨rfl, hb1⟩; replace ri := (RdB.here (ri.alloc (Nat.le_refl _) _)).later hb1; (try (have ci := box5 hb1; replace hb1 := bxd hb1)); (try replace c1 := kept c1 rfl hb1); (try replace ci := kept ci rfl hb1); (try replace cs := kept cs rfl hb1); (try replace ct := kept ct rfl hb1); (try replace hO := hO.later hb1); (try replace hU := hU.later hb1); (try replace rl := rl.later hb1); (try replace rm := rm.later hb1); (try replace hB4 := bstep hB4 hb1 (Nat.le_refl _)); replace hB := bstep hB hb1 (Nat.le_refl _); clear hb1))
    | (go_at_call 25; (with_reducible refine (HG9.out _).mono ?_); go_must (rintro e w4 ⟨rfl, hb1⟩; replace ri := ri.later hb1; (try replace c1 := kept c1 rfl hb1); (try replace ci := kept ci rfl hb1); (try replace cs := kept cs rfl hb1); (try replace ct := kept ct rfl hb1); (try replace hO := hO.later hb1); (try replace hU := hU.later hb1); (try replace rl := rl.later hb1); (try replace rm := rm.later hb1); (try replace hB4 := bstep hB4 hb1 (Nat.le_refl _)); replace hB := bstep hB hb1 (Nat.le_refl _); clear hb1))
    | (go_at_call 26; (with_reducible refine (HCU.out _ _ _ ri li mi).mono ?_); go_must (rintro e w5 ⟨va, la, rfl, hO, hlen, hT, hb1⟩; have h24 : w2.heap.size < w4.heap.size := ltOf ci rfl; have h14 : w.heap.size < w4.heap.size := ltOf c1 rfl; (try replace c1 := kept c1 rfl hb1); (try replace ci := kept ci rfl hb1); (try replace cs := kept cs rfl hb1); (try replace ct := kept ct rfl hb1); (try replace hO := hO.later hb1); (try replace hU := hU.later hb1); (try replace rl := rl.later hb1); (try replace rm := rm.later hb1); (try replace hB4 := bstep hB4 hb1 (Nat.le_refl _)); replace hB := bstep hB hb1 (Nat.le_refl _); have HRI := Lib.hid ri; have hB4 := hb1; have HAC := Lib.hid (AsCut.of hlen hT); have hU := URows.of hT; obtain ⟨Al, cl, rfl, rl, ll, lm⟩ := hO.rd hT; rw [HNt.out] at hlen; have HLN := Lib.hid hlen; rw [HLN.out] at rl ll hO ⊢; clear hlen hT hb1 ri))
    | (go_at_call 27; (with_reducible refine (HC9.out _ hB).mono ?_); go_must (rintro e w6 ⟨vb, lb, rfl, hP, hlen, hT, hb1⟩; have h56 : w5.heap.size ≤ w6.heap.size := hb1.size; (try replace c1 := kept c1 rfl hb1); (try replace ci := kept ci rfl hb1); (try replace cs := kept cs rfl hb1); (try replace ct := kept ct rfl hb1); (try replace hO := hO.later hb1); (try replace hU := hU.later hb1); (try replace rl := rl.later hb1); (try replace rm := rm.later hb1); (try replace hB4 := bstep hB4 hb1 (Nat.le_refl _)); replace hB := bstep hB hb1 (Nat.le_refl _); have HBC := Lib.hid (AsCut.of hlen hT); obtain ⟨Am, cm, rfl, rm, lm1, lm2⟩ := hP.rd hT; rw [HNt.out] at hlen; have HLM := Lib.hid hlen; rw [HLM.out] at rm lm1 ⊢; clear hlen hT hP hb1))
    | (go_at_call 18; (with_reducible refine (HT.out _).mono ?_); go_must (rintro e w7 ⟨rfl, hb1⟩; have h67 := hb1.size; (try replace c1 := kept c1 rfl hb1); (try replace ci := kept ci rfl hb1); (try replace cs := kept cs rfl hb1); (try replace ct := kept ct rfl hb1); (try replace hO := hO.later hb1); (try replace hU := hU.later hb1); (try replace rl := rl.later hb1); (try replace rm := rm.later hb1); (try replace hB4 := bstep hB4 hb1 (Nat.le_refl _)); replace hB := bstep hB hb1 (Nat.le_refl _); clear hb1; have q7 : w.heap.size < w7.heap.size := ltOf c1 rfl; have q7n : ¬ w.heap.size = w7.heap.size := Nat.ne_of_lt q7))
    | (go_at_call 28; (with_reducible refine (HT9.out _).mono ?_); go_must (rintro e w8 ⟨rfl, hb1⟩; have cs := box4 hb1; replace hb1 := bxd hb1; have h78 := hb1.size; (try replace c1 := kept c1 rfl hb1); (try replace ci := kept ci rfl hb1); (try replace cs := kept cs rfl hb1); (try replace ct := kept ct rfl hb1); (try replace hO := hO.later hb1); (try replace hU := hU.later hb1); (try replace rl := rl.later hb1); (try replace rm := rm.later hb1); (try replace hB4 := bstep hB4 hb1 (Nat.le_refl _)); replace hB := bstep hB hb1 (Nat.le_refl _); clear hb1))
    | (go_at_call 29; go_must (refine (rasters_eq _ N _ _ _ _ _ la lb _ (rl.alloc _) (rm.alloc _) (Nat.le_refl _) (Nat.le_refl _) (by omega) (fun j hj hj2 => ⟨(HAC.out.2 j hj).1.trans (HBC.out.2 j hj2).1.symm, (HAC.out.2 j hj).2.1.trans (HBC.out.2 j hj2).2.1.symm⟩)).mono ?_; rintro e w9 ⟨rfl, hb1⟩; have ct := box4 hb1; replace hb1 := bxd hb1; (try replace c1 := kept c1 rfl hb1); (try replace ci := kept ci rfl hb1); (try replace cs := kept cs rfl hb1); (try replace ct := kept ct rfl hb1); (try replace hO := hO.later hb1); (try replace hU := hU.later hb1); (try replace rl := rl.later hb1); (try replace rm := rm.later hb1); (try replace hB4 := bstep hB4 hb1 (Nat.le_refl _)); replace hB := bstep hB hb1 (Nat.le_refl _); clear hb1)))
  have rf := HRI.out.blw hB4
  have hlo2 : w4.heap.size ≤ w9.heap.size := hB4.size
  have HO := Lib.hid hO
  have HU := Lib.hid hU
  clear hO hU
  go_loopw [19] (fun i wr => ∃ k : Nat, k ≤ N ∧ i = .int .i64 k ∧ Hid (ownR wr w4.heap.size (.slice Al N cl) la) ∧ Hid (URows wr w4.heap.size w5.heap.size la) ∧ (∀ i, wr.cell? ⟨w.heap.size, i, none⟩ = r5 (.int .i64 s.w) (.int .i64 s.h) (.int .i64 s.c) (.int .i64 s.d) (.slice A n a) i) ∧ (∀ i, wr.cell? ⟨w2.heap.size, i, none⟩ = r5 (.int .i64 s.w) (.int .i64 s.h) (.int .i64 s.c) (.int .i64 s.d) (.slice A2 n k2) i) ∧ (∀ i, wr.cell? ⟨w7.heap.size, i, none⟩ = s4 (.int .i64 p.w) (.int .i64 p.h) (.int .i64 p.c) (.int .i64 p.d) i) ∧ (∀ i, wr.cell? ⟨w8.heap.size, i, none⟩ = s4 (.int .i64 p.w) (.int .i64 p.h) (.int .i64 p.c) (.int .i64 p.d) i) ∧ RdB wr w4.heap.size A2 n bs ∧ w4.heap.size ≤ wr.heap.size ∧ Below w.heap.size w wr)
    (fun i _ => N - (intOf i).toNat)
  case atStart => exact ⟨0, Nat.zero_le _, rfl, HO, HU, c1, ci, cs, ct, rf, hlo2, hB⟩
  case round =>
    clear c1 ci cs ct rf hlo2 hB hB4 HO HU rl rm
    obtain ⟨k, hk, rfl, HO, HU, c1, ci, cs, ct, rf, hlo2, hB⟩ := hrel
    by_cases hlt : k < N
    · obtain ⟨wo, rfl⟩ : ∃ wo : World, wo = wr := ⟨_, rfl⟩
      have hkl : k < la.length := by rw [HLN.out]; exact hlt
      have HAA : Hid (Al = Al) := (show _ = _ from rfl)
      go_wp2_with fail
      go_loopw [20] (fun i wr => ∃ q : Nat, q ≤ la[k].n ∧ i = .int .i64 q ∧ Hid (ownR wr w4.heap.size (.slice Al N cl) la) ∧ Hid (URows wr w4.heap.size w5.heap.size la) ∧ (∀ i, wr.cell? ⟨w.heap.size, i, none⟩ = r5 (.int .i64 s.w) (.int .i64 s.h) (.int .i64 s.c) (.int .i64 s.d) (.slice A n a) i) ∧ (∀ i, wr.cell? ⟨w2.heap.size, i, none⟩ = r5 (.int .i64 s.w) (.int .i64 s.h) (.int .i64 s.c) (.int .i64 s.d) (.slice A2 n k2) i) ∧ (∀ i, wr.cell? ⟨w7.heap.size, i, none⟩ = s4 (.int .i64 p.w) (.int .i64 p.h) (.int .i64 p.c) (.int .i64 p.d) i) ∧ (∀ i, wr.cell? ⟨w8.heap.size, i, none⟩ = s4 (.int .i64 p.w) (.int .i64 p.h) (.int .i64 p.c) (.int .i64 p.d) i) ∧ RdB wr w4.heap.size A2 n bs ∧ w4.heap.size ≤ wr.heap.size ∧ Below w.heap.size w wr)
        (fun i _ => la[k].n - (intOf i).toNat)
      case atStart => exact ⟨0, Nat.zero_le _, rfl, HO, HU, c1, ci, cs, ct, rf, hlo2, hB⟩
      case round =>
        clear c1 ci cs ct rf hlo2 hB HO HU
        obtain ⟨q, hq, rfl, HO, HU, c1, ci, cs, ct, rf, hlo2, hB⟩ := hrel
        obtain ⟨ga, ca2, ea, hga1, hga2⟩ := HO.out.at0 (by omega)
        obtain ⟨HE, hnc, hcm⟩ := cell_ras HO.out hkl ea
        injection ea with ea1 ea2 ea3
        subst ea1
        by_cases hlq : q < la[k].n
        · obtain ⟨g, x, e5, hg1, hg2, cx, fx, hnc, ys, hys⟩ := HU.out.pos hkl hlq
          unfold Cell5 at HE
          rw [e5] at HE
          obtain ⟨-, -, -, -, e4⟩ := HE
          have hne : ga ≠ g := fun e => own_ne hys HO.out (by rw [← e]; rfl)
          have HO2 := Lib.hid (HO.out.kept (grown_setCell1 wr g q (.int .u8 ((x + 1).toNat : Int))) (.inr (fun e => hne (by injection e))))
          have HU2 := Lib.hid (HU.out.store (g := g) (k := q) (x + 1))
          have hx1 : (((x + 1 : UInt8).toNat : Nat) : Int) = ((x.toNat : Int) + 1) % 256 := by rw [UInt8.toNat_add]; rfl
          rw [hx1] at HO2 HU2
          clear hx1
          have hq9 : la[k].n ≤ 9223372036854775807 := by
            obtain ⟨A9, c9, e9, -, h91, h92⟩ := hys.form
            injection e9 with _ e92 e93
            unfold maxLen at h92
            omega
          clear hys HO HU ys
          go_wp2
          go_roundw
          case rel =>
            refine ⟨q + 1, by omega, by go_num, ?_, ?_, ?_, ?_, ?_, ?_, ?_, ?_, ?_⟩
            · exact HO2
            · exact HU2
            · exact keptS c1 (p := ⟨g, q, none⟩) (show w.heap.size ≠ g by omega) _
            · exact keptS ci (p := ⟨g, q, none⟩) (show w2.heap.size ≠ g by omega) _
            · exact keptS cs (p := ⟨g, q, none⟩) (show w7.heap.size ≠ g by omega) _
            · exact keptS ct (p := ⟨g, q, none⟩) (show w8.heap.size ≠ g by omega) _
            · exact Rd.setCell rf (p := ⟨g, q, none⟩) (show w4.heap.size ≤ g by omega) _
            · simp; omega
            · exact hB.setCell (p := ⟨g, q, none⟩) (show w.heap.size ≤ g by omega) _
          case measure => simp [intOf]; omega
        · unfold Cell5 at HE
          obtain ⟨-, -, -, -, e4⟩ := HE
          obtain ⟨xn, hxn⟩ : ∃ xn, xn = la[k].n := ⟨_, rfl⟩
          rw [← hxn] at e4 hlq hq
          clear hxn
          go_wp2
          go_roundw
          case rel => exact ⟨k + 1, by omega, by go_num, HO, HU, c1, ci, cs, ct, rf, hlo2, hB⟩
          case measure => simp [intOf]; omega
    · obtain rfl : k = N := by omega
      go_wp2_with (first
        | (go_at_call 15; (with_reducible refine (first10_any _).mono ?_); go_must (rintro e w1 ⟨rfl, hb1⟩; (try replace c1 := kept c1 rfl hb1); (try replace ci := kept ci rfl hb1); (try replace cs := kept cs rfl hb1); (try replace ct := kept ct rfl hb1); replace rf := rf.blw (hb1.mono hlo2); replace hlo2 := Nat.le_trans hlo2 hb1.size; replace hB := bstep hB hb1 (Nat.le_refl _); clear hb1))
        | (go_at_call 21; (with_reducible refine (HSP.out _).mono ?_); go_must (rintro e w1 ⟨rfl, hb1⟩; rw [d3]; (try replace c1 := kept c1 rfl hb1); (try replace ci := kept ci rfl hb1); (try replace cs := kept cs rfl hb1); (try replace ct := kept ct rfl hb1); replace rf := rf.blw (hb1.mono hlo2); replace hlo2 := Nat.le_trans hlo2 hb1.size; replace hB := bstep hB hb1 (Nat.le_refl _); clear hb1))
        | (go_at_call 30; (with_reducible refine (HRR.out _ _ _ _ rf hlo2 hB).mono ?_); go_must (rintro e w1 ⟨rfl, hb1⟩; (try replace c1 := kept c1 rfl hb1); (try replace ci := kept ci rfl hb1); (try replace cs := kept cs rfl hb1); (try replace ct := kept ct rfl hb1); replace rf := rf.blw (hb1.mono hlo2); replace hlo2 := Nat.le_trans hlo2 hb1.size; replace hB := bstep hB hb1 (Nat.le_refl _); clear hb1)))
      go_ret
      exact ⟨ret_bool (by first | rfl | simp), hB⟩

theorem tileCuts_walk (s : Sh) (A : Option Addr) (n a : Nat) (z : Int) (bs : List UInt8) (w : World) (h1 : RdB w w.heap.size A n bs) (l1 : n ≤ a) (m1 : a ≤ maxLen) :
    Calls Try.prog 5 #[s.r A n a, .int .i64 z] w fun e w' => e = .returned (.bool true) ∧ Below w.heap.size w w' := by
  by_cases h : n ≤ 20000
  · cases hm : s.mayR n with
    | true => exact tileCuts_ok s A n a z bs w h1 l1 m1 h hm
    | false => exact tileCuts_no s A n a z bs w h1 l1 m1 h hm
  · exact tileCuts_early s A n a z w h

end Go.Proofs.Ytcgpeijmmongoaa
