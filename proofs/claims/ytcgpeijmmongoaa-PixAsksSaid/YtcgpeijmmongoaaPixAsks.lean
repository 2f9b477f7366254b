/- The walk of PixAsks. -/
import Derived.Test.YtcgpeijmmongoaaPixFirst
import Derived.Test.YtcgpeijmmongoaaAt9
import Derived.Test.YtcgpeijmmongoaaSet9
import Derived.Test.YtcgpeijmmongoaaPixBackPure
import Derived.Deep.RegionHeld3
namespace Go.Proofs.Ytcgpeijmmongoaa
set_option linter.all false
open Go.RowKit

theorem keepBD {w w' : World} {B n : Nat} {A : Option Addr} {bs : List UInt8} (h : RdB w B A n bs) (hb : Below w.drew.heap.size w.drew w') (hB : B ≤ w.heap.size) : RdB w' B A n bs := RdB.blw (w := w.drew) h (hb.mono hB)
theorem RdB.keepB {w w' : World} {B n : Nat} {A : Option Addr} {bs : List UInt8} (h : RdB w B A n bs) (hb : Below w.heap.size w w') (hB : B ≤ w.heap.size) : RdB w' B A n bs := h.blw (hb.mono hB)

theorem ownB.lenLe {w : World} {base n c : Nat} {A : Option Addr} {bs : List UInt8} (h : ownB w base (.slice A n c) bs) : n ≤ 9223372036854775807 := by
  obtain ⟨A2, n2, c2, e, _, h1, h2⟩ := h.slice
  injection e with e1 e2 e3
  unfold maxLen at h2
  omega

set_option maxHeartbeats 1600000 in
theorem pixAsks_early (s t : Sh) (A : Option Addr) (n a : Nat) (A' : Option Addr) (n' a' : Nat) (x y c v : Int) (w : World) (h : n ≤ 20000 → ¬ n' ≤ 20000) :
    Calls Try.prog 13 #[s.r A n a, t.r A' n' a', .int .i64 x, .int .i64 y, .int .i64 c, .int .i64 v] w fun e w' => e = .returned (.bool true) ∧ Below w.heap.size w w' := by
  have hB := Below.refl w.heap.size w
  have HF1 := Lib.hid (fun w => few_any s A n a w)
  have HF2 := Lib.hid (fun w => few_any t A' n' a' w)
  by_cases h0 : n ≤ 20000
  · have HV1 := Lib.hid (show decide (n ≤ 20000) = true by simpa using h0)
    have HV2 := Lib.hid (show decide (n' ≤ 20000) = false by simpa using h h0)
    clear h
    obtain ⟨W, H, C, D⟩ := s
    obtain ⟨tW, tH, tC, tD⟩ := t
    dsimp only [Sh.r] at HF1 HF2 ⊢
    go_enter Try.func13, Try.ntmps13
    go_wp2_with (first
      | (go_at_call 33; (with_reducible refine (first_any _).mono ?_); go_must (rintro e w1 ⟨rfl, hb1⟩; first | (have _t := c1; (try replace c1 := kept c1 rfl hb1); (try replace c2 := kept c2 rfl hb1); (try replace b3 := kept b3 rfl hb1); (try replace b8 := kept b8 rfl hb1); (try replace b0 := kept b0 rfl hb1); (try replace ri := RdB.keepB ri hb1 hBt); (try replace ri := ri.later hb1); (try replace rt := rt.later hb1); (try replace ru := ru.later hb1); (try replace ht := ht.later hb1); (try replace hBt := Nat.le_trans hBt hb1.size); replace hB := bstep hB hb1 (Nat.le_refl _); clear hb1) | (have c2 := box5 hb1; rw [World.size_alloc] at c2; replace hb1 := bxd hb1; have c1 := box5 hb1; replace hB := bxd hb1; clear hb1)))
      | (go_at_call 23; (with_reducible refine (HF1.out _).mono ?_); go_must (rintro e w1 ⟨rfl, hb1⟩; rw [HV1.out]; (try replace c1 := kept c1 rfl hb1); (try replace c2 := kept c2 rfl hb1); (try replace b3 := kept b3 rfl hb1); (try replace b8 := kept b8 rfl hb1); (try replace b0 := kept b0 rfl hb1); (try replace ri := RdB.keepB ri hb1 hBt); (try replace ri := ri.later hb1); (try replace rt := rt.later hb1); (try replace ru := ru.later hb1); (try replace ht := ht.later hb1); (try replace hBt := Nat.le_trans hBt hb1.size); replace hB := bstep hB hb1 (Nat.le_refl _); clear hb1))
      | (go_at_call 23; (with_reducible refine (HF2.out _).mono ?_); go_must (rintro e w1 ⟨rfl, hb1⟩; rw [HV2.out]; (try replace c1 := kept c1 rfl hb1); (try replace c2 := kept c2 rfl hb1); (try replace b3 := kept b3 rfl hb1); (try replace b8 := kept b8 rfl hb1); (try replace b0 := kept b0 rfl hb1); (try replace ri := RdB.keepB ri hb1 hBt); (try replace ri := ri.later hb1); (try replace rt := rt.later hb1); (try replace ru := ru.later hb1); (try replace ht := ht.later hb1); (try replace hBt := Nat.le_trans hBt hb1.size); replace hB := bstep hB hb1 (Nat.le_refl _); clear hb1)))
    go_ret
    exact ⟨rfl, hB⟩
  · have HV1 := Lib.hid (show decide (n ≤ 20000) = false by simpa using h0)
    clear h
    obtain ⟨W, H, C, D⟩ := s
    obtain ⟨tW, tH, tC, tD⟩ := t
    dsimp only [Sh.r] at HF1 HF2 ⊢
    go_enter Try.func13, Try.ntmps13
    go_wp2_with (first
      | (go_at_call 33; (with_reducible refine (first_any _).mono ?_); go_must (rintro e w1 ⟨rfl, hb1⟩; first | (have _t := c1; (try replace c1 := kept c1 rfl hb1); (try replace c2 := kept c2 rfl hb1); (try replace b3 := kept b3 rfl hb1); (try replace b8 := kept b8 rfl hb1); (try replace b0 := kept b0 rfl hb1); (try replace ri := RdB.keepB ri hb1 hBt); (try replace ri := ri.later hb1); (try replace rt := rt.later hb1); (try replace ru := ru.later hb1); (try replace ht := ht.later hb1); (try replace hBt := Nat.le_trans hBt hb1.size); replace hB := bstep hB hb1 (Nat.le_refl _); clear hb1) | (have c2 := box5 hb1; rw [World.size_alloc] at c2; replace hb1 := bxd hb1; have c1 := box5 hb1; replace hB := bxd hb1; clear hb1)))
      | (go_at_call 23; (with_reducible refine (HF1.out _).mono ?_); go_must (rintro e w1 ⟨rfl, hb1⟩; rw [HV1.out]; (try replace c1 := kept c1 rfl hb1); (try replace c2 := kept c2 rfl hb1); (try replace b3 := kept b3 rfl hb1); (try replace b8 := kept b8 rfl hb1); (try replace b0 := kept b0 rfl hb1); (try replace ri := RdB.keepB ri hb1 hBt); (try replace ri := ri.later hb1); (try replace rt := rt.later hb1); (try replace ru := ru.later hb1); (try replace ht := ht.later hb1); (try replace hBt := Nat.le_trans hBt hb1.size); replace hB := bstep hB hb1 (Nat.le_refl _); clear hb1)))
    go_ret
    exact ⟨rfl, hB⟩

set_option maxRecDepth 100000 in
set_option maxHeartbeats 12800000 in
theorem pixAsks_main (s t : Sh) (A : Option Addr) (n a : Nat) (A' : Option Addr) (n' a' : Nat) (x y c v : Int) (bs ds : List UInt8) (w : World) (h1 : RdB w w.heap.size A n bs) (h2 : RdB w w.heap.size A' n' ds) (hc : n ≤ a) (h0 : n ≤ 20000) (h0' : n' ≤ 20000) (hv : -9223372036854775808 ≤ v ∧ v ≤ 9223372036854775807) :
    Calls Try.prog 13 #[s.r A n a, t.r A' n' a', .int .i64 x, .int .i64 y, .int .i64 c, .int .i64 v] w fun e w' => e = .returned (.bool true) ∧ Below w.heap.size w w' := by
  have hB := Below.refl w.heap.size w
  have HF1 := Lib.hid (fun w => few_any s A n a w)
  have HF2 := Lib.hid (fun w => few_any t A' n' a' w)
  have HV1 := Lib.hid (show decide (n ≤ 20000) = true by simpa using h0)
  have HV2 := Lib.hid (show decide (n' ≤ 20000) = true by simpa using h0')
  have HN := Lib.hid h1.len
  have HC := Lib.hid (fun (w' : World) (hb : Below w.heap.size w w') => copyR_any s w.heap.size A n a bs w' (h1.blw hb) hb.size (by omega))
  have HA := Lib.hid (fun (w' : World) (a : Nat) (A : Option Addr) (hr : RdB w' w'.heap.size A n bs) (hc : n ≤ a) => at_any s w'.heap.size A n a bs x y c w' hr (Nat.le_refl _) hc (by omega))
  have HA9 := Lib.hid (fun (w' : World) (hb : Below w.heap.size w w') => at9_any s w.heap.size A n a bs x y c w' (h1.blw hb) hb.size)
  have HS := Lib.hid (fun (w' : World) (a : Nat) (A : Option Addr) (hr : RdB w' w'.heap.size A n bs) => set_any s w'.heap.size A n a bs x y c v w' hr (Nat.le_refl _))
  have HS9 := Lib.hid (fun (w' : World) (hb : Below w.heap.size w w') => set9_any s w.heap.size A n a bs x y c v w' (h1.blw hb) hb.size hv)
  have HM1 := Lib.hid (fun w => mayS_any s w)
  have HM2 := Lib.hid (fun w => mayS9_any s w)
  have HM3 := Lib.hid (fun A a w => may_any s A n a w)
  have HM4 := Lib.hid (fun A a w => may9_any s A n a w)
  have HR1 := Lib.hid (fun w => row_any s w)
  have HR2 := Lib.hid (fun w => row9_any s w)
  have HZ1 := Lib.hid (fun w => size_any s w)
  have HZ2 := Lib.hid (fun w => size9_any s w)
  have HP1 := Lib.hid (fun (w' : World) (a : Nat) (B : Nat) (A : Option Addr) (hr : RdB w' B A n bs) (hBl : B ≤ w'.heap.size) (h2' : RdB w' w.heap.size A' n' ds) (hb : w.heap.size ≤ w'.heap.size) => samP_any s t B n a w.heap.size n' a' A A' bs ds w' hr h2' hBl hb)
  have HP2 := Lib.hid (fun (w' : World) (hb : Below w.heap.size w w') => sameR_any s t w.heap.size n a w.heap.size n' a' A A' bs ds w' (h1.blw hb) (h2.blw hb) hb.size hb.size)
  have HP3 := Lib.hid (fun (w' : World) (a1 : Nat) (B : Nat) (A1 : Option Addr) (hr : RdB w' B A1 n bs) (hBl : B ≤ w'.heap.size) (hb : Below w.heap.size w w') => sameR_any s s B n a1 w.heap.size n a A1 A bs bs w' hr (h1.blw hb) hBl hb.size)
  have H2 := Lib.hid h2
  generalize (s.at_ bs x y c).1 = d at HA HA9
  generalize (s.at_ bs x y c).2 = E at HA HA9
  generalize (s.setR bs x y c v).1 = q at HS HS9
  generalize (s.setR bs x y c v).2 = Q at HS HS9
  generalize s.setE n x y c v = E2 at HS HS9
  generalize s.may = m1 at HM1 HM2
  generalize s.mayR n = m2 at HM3 HM4
  generalize s.row = r1 at HR1 HR2
  generalize s.size = z1 at HZ1 HZ2
  generalize (decide (s = t) && (bs == ds)) = eq1 at HP1 HP2
  have HD : Hid ((decide (s = s) && (bs == bs)) = true) := by show _ = _; simp
  rw [HD.out] at HP3
  clear h1 h2 hv
  obtain ⟨W, H, C, D⟩ := s
  obtain ⟨tW, tH, tC, tD⟩ := t
  obtain ⟨qW, qH, qC, qD⟩ := q
  dsimp only [Sh.r, Sh.v] at *
  go_enter Try.func13, Try.ntmps13
  go_wp2_with (first
    | (go_at_call 33; (with_reducible refine (first_any _).mono ?_); go_must (rintro e w1 ⟨rfl, hb1⟩; first | (have _t := c1; (try replace c1 := kept c1 rfl hb1); (try replace c2 := kept c2 rfl hb1); (try replace b3 := kept b3 rfl hb1); (try replace b8 := kept b8 rfl hb1); (try replace b0 := kept b0 rfl hb1); (try replace ri := RdB.keepB ri hb1 hBt); (try replace ri := ri.later hb1); (try replace rt := rt.later hb1); (try replace ru := ru.later hb1); (try replace ht := ht.later hb1); (try replace hBt := Nat.le_trans hBt hb1.size); replace hB := bstep hB hb1 (Nat.le_refl _); clear hb1) | (have c2 := box5 hb1; rw [World.size_alloc] at c2; replace hb1 := bxd hb1; have c1 := box5 hb1; replace hB := bxd hb1; clear hb1)))
    | (go_at_call 23; (with_reducible refine (HF1.out _).mono ?_); go_must (rintro e w1 ⟨rfl, hb1⟩; rw [HV1.out]; (try replace c1 := kept c1 rfl hb1); (try replace c2 := kept c2 rfl hb1); (try replace b3 := kept b3 rfl hb1); (try replace b8 := kept b8 rfl hb1); (try replace b0 := kept b0 rfl hb1); (try replace ri := RdB.keepB ri hb1 hBt); (try replace ri := ri.later hb1); (try replace rt := rt.later hb1); (try replace ru := ru.later hb1); (try replace ht := ht.later hb1); (try replace hBt := Nat.le_trans hBt hb1.size); replace hB := bstep hB hb1 (Nat.le_refl _); clear hb1))
    | (go_at_call 23; (with_reducible refine (HF2.out _).mono ?_); go_must (rintro e w1 ⟨rfl, hb1⟩; rw [HV2.out]; (try replace c1 := kept c1 rfl hb1); (try replace c2 := kept c2 rfl hb1); (try replace b3 := kept b3 rfl hb1); (try replace b8 := kept b8 rfl hb1); (try replace b0 := kept b0 rfl hb1); (try replace ri := RdB.keepB ri hb1 hBt); (try replace ri := ri.later hb1); (try replace rt := rt.later hb1); (try replace ru := ru.later hb1); (try replace ht := ht.later hb1); (try replace hBt := Nat.le_trans hBt hb1.size); replace hB := bstep hB hb1 (Nat.le_refl _); clear hb1))
    | (go_at_call 24; (with_reducible refine (HC.out _ hB).mono ?_); go_must (rintro e w2 ⟨Ai, ni, ci, rfl, hx, hb1⟩; (try replace c1 := kept c1 rfl hb1); (try replace c2 := kept c2 rfl hb1); (try replace b3 := kept b3 rfl hb1); (try replace b8 := kept b8 rfl hb1); (try replace b0 := kept b0 rfl hb1); (try replace ri := RdB.keepB ri hb1 hBt); (try replace ri := ri.later hb1); (try replace rt := rt.later hb1); (try replace ru := ru.later hb1); (try replace ht := ht.later hb1); (try replace hBt := Nat.le_trans hBt hb1.size); replace hB := bstep hB hb1 (Nat.le_refl _); obtain ⟨Ai2, ci2, ev, ri, li, mi⟩ := hx.form; injection ev with e1 e2 e3; subst e1 e2 e3; rw [HN.out] at ri li ⊢; clear hx hb1))
    | (go_at_call 34; (with_reducible refine (HA.out _ _ _ (RdB.here (ri.alloc (Nat.le_refl _) _)) li).mono ?_); go_must (rintro e w3 ⟨rfl, hb1⟩; (try (have b3 := box5 hb1; replace hb1 := bxd hb1)); (try replace c1 := kept c1 rfl hb1); (try replace c2 := kept c2 rfl hb1); (try replace b3 := kept b3 rfl hb1); (try replace b8 := kept b8 rfl hb1); (try replace b0 := kept b0 rfl hb1); (try replace ri := RdB.keepB ri hb1 hBt); (try replace ri := ri.later hb1); (try replace rt := rt.later hb1); (try replace ru := ru.later hb1); (try replace ht := ht.later hb1); (try replace hBt := Nat.le_trans hBt hb1.size); replace hB := bstep hB hb1 (Nat.le_refl _); clear hb1))
    | (go_at_call 50; (with_reducible refine (HA9.out _ hB).mono ?_); go_must (rintro e w4 ⟨rfl, hb1⟩; (try replace c1 := kept c1 rfl hb1); (try replace c2 := kept c2 rfl hb1); (try replace b3 := kept b3 rfl hb1); (try replace b8 := kept b8 rfl hb1); (try replace b0 := kept b0 rfl hb1); (try replace ri := RdB.keepB ri hb1 hBt); (try replace ri := ri.later hb1); (try replace rt := rt.later hb1); (try replace ru := ru.later hb1); (try replace ht := ht.later hb1); (try replace hBt := Nat.le_trans hBt hb1.size); replace hB := bstep hB hb1 (Nat.le_refl _); clear hb1))
    | (go_at_call 49; (with_reducible refine (HS.out _ _ _ ri).mono ?_); go_must (rintro e w5 ⟨At, nt, ct, rfl, ht, hb1⟩; replace ri := ri.blw hb1; have hBt := hb1.size; have p1 : w.heap.size < w4.heap.size := ltOf c1 rfl; have p2 : w.heap.size + 1 < w4.heap.size := ltOf c2 rfl; have p3 : w2.heap.size < w4.heap.size := ltOf b3 rfl; have HG := Lib.hid (fun g (hg : (Value.slice At nt ct).ownBlock = some g) => (World.ownsRow.lt ht g hg).2); replace c1 := kept c1 rfl hb1; replace c2 := kept c2 rfl hb1; replace b3 := kept b3 rfl hb1; replace hB := bstep hB hb1 (Nat.le_refl _); clear hb1; have q1 : w.heap.size < w5.heap.size := ltOf c1 rfl; have n1 : ¬ w.heap.size = w5.heap.size := Nat.ne_of_lt q1; have q3 : w2.heap.size < w5.heap.size := ltOf b3 rfl; have n3 : ¬ w2.heap.size = w5.heap.size := Nat.ne_of_lt q3))
    | (go_at_call 51; (with_reducible refine (HS9.out _ (hB.alloc hB.size _)).mono ?_); go_must (rintro e w6 ⟨Au, nu, cu, rfl, hu, hb1⟩; (try (have b8 := box5 hb1; replace hb1 := bxd hb1)); replace b8 := b8; (try replace c1 := kept c1 rfl hb1); (try replace c2 := kept c2 rfl hb1); (try replace b3 := kept b3 rfl hb1); (try replace b8 := kept b8 rfl hb1); (try replace b0 := kept b0 rfl hb1); (try replace ri := RdB.keepB ri hb1 hBt); (try replace ri := ri.later hb1); (try replace rt := rt.later hb1); (try replace ru := ru.later hb1); (try replace ht := ht.later hb1); (try replace hBt := Nat.le_trans hBt hb1.size); replace hB := bstep hB hb1 (Nat.le_refl _); have ru := hu.rd; clear hu hb1; have q8 : w5.heap.size < w6.heap.size := ltOf b8 rfl; have n8 : ¬ w5.heap.size = w6.heap.size := Nat.ne_of_lt q8))
    | (go_at_call 30; go_must (refine (sameR_any ⟨qW, qH, qC, qD⟩ ⟨qW, qH, qC, qD⟩ _ _ _ _ _ _ _ _ Q Q _ (RdB.alloc ht.rd (Nat.le_refl _) _) (RdB.alloc ru (Nat.le_refl _) _) (by simp) (by simp)).mono ?_; rintro e w7 ⟨rfl, hb1⟩; (try (have b0 := box5 hb1; replace hb1 := bxd hb1)); (try replace c1 := kept c1 rfl hb1); (try replace c2 := kept c2 rfl hb1); (try replace b3 := kept b3 rfl hb1); (try replace b8 := kept b8 rfl hb1); (try replace b0 := kept b0 rfl hb1); (try replace ri := RdB.keepB ri hb1 hBt); (try replace ri := ri.later hb1); (try replace rt := rt.later hb1); (try replace ru := ru.later hb1); (try replace ht := ht.later hb1); (try replace hBt := Nat.le_trans hBt hb1.size); replace hB := bstep hB hb1 (Nat.le_refl _); clear hb1)))
  go_loopw [23] (fun i wr => ∃ (k : Nat) (ys : List UInt8), k ≤ nt ∧ Hid (ys.length = nt) ∧ i = .int .i64 k ∧ ownB wr w4.heap.size (.slice At nt ct) ys ∧ (∀ i, wr.cell? ⟨w5.heap.size, i, none⟩ = r5 (.int .i64 qW) (.int .i64 qH) (.int .i64 qC) (.int .i64 qD) (.slice At nt ct) i) ∧ Below w4.heap.size w7 wr)
    (fun i _ => nt - (intOf i).toNat)
  case atStart => exact ⟨0, Q, Nat.zero_le _, ht.rd.len, rfl, ht, b8, Below.refl _ _⟩
  case round =>
    clear ht b8
    obtain ⟨k, ys, hk, hys, rfl, ht, b8, hL⟩ := hrel
    have hnt := ht.lenLe
    by_cases hlt : k < nt
    · obtain ⟨-, g, rfl, hg1, hg2⟩ := ht.pos (by omega)
      have hg3 := HG.out g rfl
      obtain ⟨x0, _, cx⟩ := ht.byte hys.out.symm hlt
      have fx := ht.frozen hys.out.symm k
      have Hs : Hid (ownB (wr.setCell ⟨g, k, none⟩ (.int .u8 (((x0.toNat : Int) + 1) % 256))) w4.heap.size (.slice (some ⟨g, 0, none⟩) nt ct) (ys.set k (x0 + 1))) := by
        show ownB _ _ _ _
        have e : ((x0.toNat : Int) + 1) % 256 = ((x0 + 1).toNat : Int) := by rw [UInt8.toNat_add]; show _ = (((x0.toNat + 1) % 256 : Nat) : Int); omega
        rw [e]
        exact ht.store hys.out.symm k _
      have Hy : Hid ((ys.set k (x0 + 1)).length = nt) := by show _ = _; rw [List.length_set]; exact hys.out
      go_wp2
      go_roundw
      case rel => exact ⟨k + 1, ys.set k (x0 + 1), by omega, Hy, by go_num, Hs.out, keptS b8 (by show w5.heap.size ≠ g; omega) _, hL.setCell (by show w4.heap.size ≤ g; exact hg1) _⟩
      case measure => simp [intOf]; omega
    · have hkn : ¬ (k : Int) < nt := by omega
      replace c1 := keptBl c1 hL p1
      replace c2 := keptBl c2 hL p2
      replace b3 := keptBl b3 hL p3
      replace ri := ri.blw hL
      replace hBt := Nat.le_trans hBt hL.size
      replace hB := hB.trans (hL.mono (Nat.le_of_lt p1))
      clear ht hL p1 p2 p3 q1 n1 q3 n3 q8 n8
      go_wp2
      go_region_held3 (fun w' => (∀ i, w'.cell? ⟨w.heap.size, i, none⟩ = r5 (.int .i64 W) (.int .i64 H) (.int .i64 C) (.int .i64 D) (.slice A n a) i) ∧ (∀ i, w'.cell? ⟨w.heap.size + 1, i, none⟩ = r5 (.int .i64 tW) (.int .i64 tH) (.int .i64 tC) (.int .i64 tD) (.slice A' n' a') i) ∧ (∀ i, w'.cell? ⟨w2.heap.size, i, none⟩ = r5 (.int .i64 W) (.int .i64 H) (.int .i64 C) (.int .i64 D) (.slice Ai n ci) i))
        (first | exact ⟨c1, c2, b3⟩ | go_keep)
        (first
          | (go_at_call 33; (with_reducible refine (first_any _).mono ?_); go_must (rintro e w9 ⟨rfl, hb1⟩; (first | replace c1 := kept c1 rfl hb1 | replace c1 := keptD c1 rfl hb1); (first | replace c2 := kept c2 rfl hb1 | replace c2 := keptD c2 rfl hb1); (first | replace b3 := kept b3 rfl hb1 | replace b3 := keptD b3 rfl hb1); (first | replace ri := RdB.keepB ri hb1 hBt | replace ri := RdB.keepB (w := w7.drew) (RdB.drew ri) hb1 hBt | replace ri := keepBD ri hb1 hBt); replace hBt := Nat.le_trans hBt hb1.size; (first | replace hB := bstep hB hb1 (Nat.le_refl _) | replace hB := bstep hB.drew hb1 (Nat.le_refl _)); clear hb1))
          | (go_at_call 17; (with_reducible refine (HM1.out _).mono ?_); go_must (rintro e w9 ⟨rfl, hb1⟩; (first | replace c1 := kept c1 rfl hb1 | replace c1 := keptD c1 rfl hb1); (first | replace c2 := kept c2 rfl hb1 | replace c2 := keptD c2 rfl hb1); (first | replace b3 := kept b3 rfl hb1 | replace b3 := keptD b3 rfl hb1); (first | replace ri := RdB.keepB ri hb1 hBt | replace ri := RdB.keepB (w := w7.drew) (RdB.drew ri) hb1 hBt | replace ri := keepBD ri hb1 hBt); replace hBt := Nat.le_trans hBt hb1.size; (first | replace hB := bstep hB hb1 (Nat.le_refl _) | replace hB := bstep hB.drew hb1 (Nat.le_refl _)); clear hb1))
          | (go_at_call 52; (with_reducible refine (HM2.out _).mono ?_); go_must (rintro e w9 ⟨rfl, hb1⟩; (first | replace c1 := kept c1 rfl hb1 | replace c1 := keptD c1 rfl hb1); (first | replace c2 := kept c2 rfl hb1 | replace c2 := keptD c2 rfl hb1); (first | replace b3 := kept b3 rfl hb1 | replace b3 := keptD b3 rfl hb1); (first | replace ri := RdB.keepB ri hb1 hBt | replace ri := RdB.keepB (w := w7.drew) (RdB.drew ri) hb1 hBt | replace ri := keepBD ri hb1 hBt); replace hBt := Nat.le_trans hBt hb1.size; (first | replace hB := bstep hB hb1 (Nat.le_refl _) | replace hB := bstep hB.drew hb1 (Nat.le_refl _)); clear hb1))
          | (go_at_call 20; (with_reducible refine (HM3.out _ _ _).mono ?_); go_must (rintro e w9 ⟨rfl, hb1⟩; (first | replace c1 := kept c1 rfl hb1 | replace c1 := keptD c1 rfl hb1); (first | replace c2 := kept c2 rfl hb1 | replace c2 := keptD c2 rfl hb1); (first | replace b3 := kept b3 rfl hb1 | replace b3 := keptD b3 rfl hb1); (first | replace ri := RdB.keepB ri hb1 hBt | replace ri := RdB.keepB (w := w7.drew) (RdB.drew ri) hb1 hBt | replace ri := keepBD ri hb1 hBt); replace hBt := Nat.le_trans hBt hb1.size; (first | replace hB := bstep hB hb1 (Nat.le_refl _) | replace hB := bstep hB.drew hb1 (Nat.le_refl _)); clear hb1))
          | (go_at_call 53; (with_reducible refine (HM4.out _ _ _).mono ?_); go_must (rintro e w9 ⟨rfl, hb1⟩; (first | replace c1 := kept c1 rfl hb1 | replace c1 := keptD c1 rfl hb1); (first | replace c2 := kept c2 rfl hb1 | replace c2 := keptD c2 rfl hb1); (first | replace b3 := kept b3 rfl hb1 | replace b3 := keptD b3 rfl hb1); (first | replace ri := RdB.keepB ri hb1 hBt | replace ri := RdB.keepB (w := w7.drew) (RdB.drew ri) hb1 hBt | replace ri := keepBD ri hb1 hBt); replace hBt := Nat.le_trans hBt hb1.size; (first | replace hB := bstep hB hb1 (Nat.le_refl _) | replace hB := bstep hB.drew hb1 (Nat.le_refl _)); clear hb1))
          | (go_at_call 35; (with_reducible refine (HR1.out _).mono ?_); go_must (rintro e w9 ⟨rfl, hb1⟩; (first | replace c1 := kept c1 rfl hb1 | replace c1 := keptD c1 rfl hb1); (first | replace c2 := kept c2 rfl hb1 | replace c2 := keptD c2 rfl hb1); (first | replace b3 := kept b3 rfl hb1 | replace b3 := keptD b3 rfl hb1); (first | replace ri := RdB.keepB ri hb1 hBt | replace ri := RdB.keepB (w := w7.drew) (RdB.drew ri) hb1 hBt | replace ri := keepBD ri hb1 hBt); replace hBt := Nat.le_trans hBt hb1.size; (first | replace hB := bstep hB hb1 (Nat.le_refl _) | replace hB := bstep hB.drew hb1 (Nat.le_refl _)); clear hb1))
          | (go_at_call 54; (with_reducible refine (HR2.out _).mono ?_); go_must (rintro e w9 ⟨rfl, hb1⟩; (first | replace c1 := kept c1 rfl hb1 | replace c1 := keptD c1 rfl hb1); (first | replace c2 := kept c2 rfl hb1 | replace c2 := keptD c2 rfl hb1); (first | replace b3 := kept b3 rfl hb1 | replace b3 := keptD b3 rfl hb1); (first | replace ri := RdB.keepB ri hb1 hBt | replace ri := RdB.keepB (w := w7.drew) (RdB.drew ri) hb1 hBt | replace ri := keepBD ri hb1 hBt); replace hBt := Nat.le_trans hBt hb1.size; (first | replace hB := bstep hB hb1 (Nat.le_refl _) | replace hB := bstep hB.drew hb1 (Nat.le_refl _)); clear hb1))
          | (go_at_call 36; (with_reducible refine (HZ1.out _).mono ?_); go_must (rintro e w9 ⟨rfl, hb1⟩; (first | replace c1 := kept c1 rfl hb1 | replace c1 := keptD c1 rfl hb1); (first | replace c2 := kept c2 rfl hb1 | replace c2 := keptD c2 rfl hb1); (first | replace b3 := kept b3 rfl hb1 | replace b3 := keptD b3 rfl hb1); (first | replace ri := RdB.keepB ri hb1 hBt | replace ri := RdB.keepB (w := w7.drew) (RdB.drew ri) hb1 hBt | replace ri := keepBD ri hb1 hBt); replace hBt := Nat.le_trans hBt hb1.size; (first | replace hB := bstep hB hb1 (Nat.le_refl _) | replace hB := bstep hB.drew hb1 (Nat.le_refl _)); clear hb1))
          | (go_at_call 55; (with_reducible refine (HZ2.out _).mono ?_); go_must (rintro e w9 ⟨rfl, hb1⟩; (first | replace c1 := kept c1 rfl hb1 | replace c1 := keptD c1 rfl hb1); (first | replace c2 := kept c2 rfl hb1 | replace c2 := keptD c2 rfl hb1); (first | replace b3 := kept b3 rfl hb1 | replace b3 := keptD b3 rfl hb1); (first | replace ri := RdB.keepB ri hb1 hBt | replace ri := RdB.keepB (w := w7.drew) (RdB.drew ri) hb1 hBt | replace ri := keepBD ri hb1 hBt); replace hBt := Nat.le_trans hBt hb1.size; (first | replace hB := bstep hB hb1 (Nat.le_refl _) | replace hB := bstep hB.drew hb1 (Nat.le_refl _)); clear hb1))
          | (go_at_call 48; (with_reducible refine (HP1.out _ _ _ _ ri hBt (H2.out.blw hB) hB.size).mono ?_); go_must (rintro e w9 ⟨rfl, hb1⟩; (first | replace c1 := kept c1 rfl hb1 | replace c1 := keptD c1 rfl hb1); (first | replace c2 := kept c2 rfl hb1 | replace c2 := keptD c2 rfl hb1); (first | replace b3 := kept b3 rfl hb1 | replace b3 := keptD b3 rfl hb1); (first | replace ri := RdB.keepB ri hb1 hBt | replace ri := RdB.keepB (w := w7.drew) (RdB.drew ri) hb1 hBt | replace ri := keepBD ri hb1 hBt); replace hBt := Nat.le_trans hBt hb1.size; (first | replace hB := bstep hB hb1 (Nat.le_refl _) | replace hB := bstep hB.drew hb1 (Nat.le_refl _)); clear hb1))
          | (go_at_call 30; (with_reducible refine (HP2.out _ hB).mono ?_); go_must (rintro e w9 ⟨rfl, hb1⟩; (first | replace c1 := kept c1 rfl hb1 | replace c1 := keptD c1 rfl hb1); (first | replace c2 := kept c2 rfl hb1 | replace c2 := keptD c2 rfl hb1); (first | replace b3 := kept b3 rfl hb1 | replace b3 := keptD b3 rfl hb1); (first | replace ri := RdB.keepB ri hb1 hBt | replace ri := RdB.keepB (w := w7.drew) (RdB.drew ri) hb1 hBt | replace ri := keepBD ri hb1 hBt); replace hBt := Nat.le_trans hBt hb1.size; (first | replace hB := bstep hB hb1 (Nat.le_refl _) | replace hB := bstep hB.drew hb1 (Nat.le_refl _)); clear hb1))
          | (go_at_call 30; (with_reducible refine (HP3.out _ _ _ _ ri hBt hB).mono ?_); go_must (rintro e w9 ⟨rfl, hb1⟩; (first | replace c1 := kept c1 rfl hb1 | replace c1 := keptD c1 rfl hb1); (first | replace c2 := kept c2 rfl hb1 | replace c2 := keptD c2 rfl hb1); (first | replace b3 := kept b3 rfl hb1 | replace b3 := keptD b3 rfl hb1); (first | replace ri := RdB.keepB ri hb1 hBt | replace ri := RdB.keepB (w := w7.drew) (RdB.drew ri) hb1 hBt | replace ri := keepBD ri hb1 hBt); replace hBt := Nat.le_trans hBt hb1.size; (first | replace hB := bstep hB hb1 (Nat.le_refl _) | replace hB := bstep hB.drew hb1 (Nat.le_refl _)); clear hb1)))
      all_goals
        go_wp2
        go_ret
        exact ⟨ret_bool (by first | rfl | simp), hB⟩

theorem pixAsks_walk (s t : Sh) (A : Option Addr) (n a : Nat) (A' : Option Addr) (n' a' : Nat) (x y c v : Int) (bs ds : List UInt8) (w : World) (h1 : RdB w w.heap.size A n bs) (h2 : RdB w w.heap.size A' n' ds) (hc : n ≤ a) (hv : -9223372036854775808 ≤ v ∧ v ≤ 9223372036854775807) :
    Calls Try.prog 13 #[s.r A n a, t.r A' n' a', .int .i64 x, .int .i64 y, .int .i64 c, .int .i64 v] w fun e w' => e = .returned (.bool true) ∧ Below w.heap.size w w' := by
  by_cases h : n ≤ 20000 ∧ n' ≤ 20000
  · exact pixAsks_main s t A n a A' n' a' x y c v bs ds w h1 h2 hc h.1 h.2 hv
  · exact pixAsks_early s t A n a A' n' a' x y c v w (fun p q => h ⟨p, q⟩)

end Go.Proofs.Ytcgpeijmmongoaa
