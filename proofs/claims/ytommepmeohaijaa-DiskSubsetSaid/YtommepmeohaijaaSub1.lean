/- DiskSubset: its early ends; the first two loops. -/
import Derived.Test.YtommepmeohaijaaFive
namespace Go.Proofs.Ytommepmeohaijaa
set_option linter.all false
open Go.RowKit Go.Maps

set_option maxRecDepth 100000 in
set_option maxHeartbeats 3200000 in
theorem diskSubset_early (n : Int) (A : Option Addr) (m c : Nat) (A2 : Option Addr) (m2 c2 : Nat) (A3 : Option Addr) (m3 c3 : Nat) (w : World) (h : n < 4 ∨ 40 < n ∨ 100 < m ∨ 100 < m2 ∨ 100 < m3) :
    Calls Try.prog 4 #[.int .i64 n, .slice A m c, .slice A2 m2 c2, .slice A3 m3 c3] w fun e w' => e = .returned (.bool true) ∧ Below w.heap.size w w' := by
  have hB := Below.refl w.heap.size w
  by_cases h1 : n < 4 ∨ 4096 < n
  · have HN := Lib.hid (fun w' => newD_bad n w' h1)
    clear h h1
    go_enter Try.func4, Try.ntmps4
    go_wp2_with (first
      | (go_at_call 8; (with_reducible refine (first14_any _).mono ?_); go_must (rintro e wf ⟨rfl, hb1⟩; replace hB := bstep hB hb1 (Nat.le_refl _); clear hb1))
      | (go_at_call 9; (with_reducible refine (HN.out _).mono ?_); go_must (rintro e w1 ⟨rfl, rfl⟩)))
    go_ret
    exact ⟨rfl, hB⟩
  obtain ⟨N, rfl⟩ := Int.eq_ofNat_of_zero_le (show 0 ≤ n by omega)
  have HN := Lib.hid (fun w' => newD_any N w' (by omega) (by omega))
  by_cases q0 : 40 < N
  · have t0 : decide ((N : Int) > 40) = true := decide_eq_true (by omega)
    clear h h1
    go_enter Try.func4, Try.ntmps4
    go_wp2_with (first
      | (go_at_call 8; (with_reducible refine (first14_any _).mono ?_); go_must (rintro e wf ⟨rfl, hb1⟩; replace hB := bstep hB hb1 (Nat.le_refl _); clear hb1))
      | (go_at_call 9; (with_reducible refine (HN.out _).mono ?_); go_must (rintro e w1 ⟨d, h0, rfl, hd, hu, hb1⟩; replace hB := bstep hB hb1 (Nat.le_refl _); clear hd hb1 hu)))
    go_ret
    exact ⟨rfl, hB⟩
  have t0 : decide ((N : Int) > 40) = false := decide_eq_false (by omega)
  by_cases q1 : 100 < m
  · have t1 : decide ((m : Int) > 100) = true := decide_eq_true (by omega)
    clear h h1
    go_enter Try.func4, Try.ntmps4
    go_wp2_with (first
      | (go_at_call 8; (with_reducible refine (first14_any _).mono ?_); go_must (rintro e wf ⟨rfl, hb1⟩; replace hB := bstep hB hb1 (Nat.le_refl _); clear hb1))
      | (go_at_call 9; (with_reducible refine (HN.out _).mono ?_); go_must (rintro e w1 ⟨d, h0, rfl, hd, hu, hb1⟩; replace hB := bstep hB hb1 (Nat.le_refl _); clear hd hb1 hu)))
    go_ret
    exact ⟨rfl, hB⟩
  have t1 : decide ((m : Int) > 100) = false := decide_eq_false (by omega)
  by_cases q2 : 100 < m2
  · have t2 : decide ((m2 : Int) > 100) = true := decide_eq_true (by omega)
    clear h h1
    go_enter Try.func4, Try.ntmps4
    go_wp2_with (first
      | (go_at_call 8; (with_reducible refine (first14_any _).mono ?_); go_must (rintro e wf ⟨rfl, hb1⟩; replace hB := bstep hB hb1 (Nat.le_refl _); clear hb1))
      | (go_at_call 9; (with_reducible refine (HN.out _).mono ?_); go_must (rintro e w1 ⟨d, h0, rfl, hd, hu, hb1⟩; replace hB := bstep hB hb1 (Nat.le_refl _); clear hd hb1 hu)))
    go_ret
    exact ⟨rfl, hB⟩
  have t2 : decide ((m2 : Int) > 100) = false := decide_eq_false (by omega)
  have t3 : decide ((m3 : Int) > 100) = true := decide_eq_true (by omega)
  clear h h1
  go_enter Try.func4, Try.ntmps4
  go_wp2_with (first
    | (go_at_call 8; (with_reducible refine (first14_any _).mono ?_); go_must (rintro e wf ⟨rfl, hb1⟩; replace hB := bstep hB hb1 (Nat.le_refl _); clear hb1))
    | (go_at_call 9; (with_reducible refine (HN.out _).mono ?_); go_must (rintro e w1 ⟨d, h0, rfl, hd, hu, hb1⟩; replace hB := bstep hB hb1 (Nat.le_refl _); clear hd hb1 hu)))
  go_ret
  exact ⟨rfl, hB⟩
theorem fillB_len (c : UInt8) : (fillB c).length = 256 := List.length_replicate

set_option maxRecDepth 100000 in
set_option maxHeartbeats 6400000 in
def diskSubset_A :
    (P1 : Prop) ×' (P1 → ∀ (N : Nat) (A : Option Addr) (m c : Nat) (l : List (Int × UInt8)) (A2 : Option Addr) (m2 c2 : Nat) (l2 : List (Int × UInt8)) (A3 : Option Addr) (m3 c3 : Nat) (ms : Bs) (w : World) (hr : RdO w w.heap.size A m l) (hr2 : RdO w w.heap.size A2 m2 l2) (hr3 : RdB w w.heap.size A3 m3 ms) (h1 : 4 ≤ N) (h2 : N ≤ 40) (h3 : m ≤ 100) (h4 : m2 ≤ 100) (h5 : m3 ≤ 100), Calls Try.prog 4 #[.int .i64 (N : Int), .slice A m c, .slice A2 m2 c2, .slice A3 m3 c3] w fun e w' => e = .returned (.bool true) ∧ Below w.heap.size w w') := by
  refine' ⟨_, fun k1 => _⟩
  rotate_left 1
  · have K1 := Lib.hid k1
    clear k1
    intro N A m c l A2 m2 c2 l2 A3 m3 c3 ms w hr hr2 hr3 h1 h2 h3 h4 h5
    have hB := Below.refl w.heap.size w
    have HN := Lib.hid (fun w' => newD_any N w' (by omega) (by omega))
    have t1 : decide ((N : Int) > 40) = false := decide_eq_false (by omega)
    have t2 : decide ((m : Int) > 100) = false := decide_eq_false (by omega)
    have t3 : decide ((m2 : Int) > 100) = false := decide_eq_false (by omega)
    have t4 : decide ((m3 : Int) > 100) = false := decide_eq_false (by omega)
    have HR := Lib.hid hr
    have HR2 := Lib.hid hr2
    have HR3 := Lib.hid hr3
    have hlm := hr.1
    have hlm2 := hr2.1
    have HLM3 := Lib.hid hr3.len
    clear hr hr2 hr3
    go_enter Try.func4, Try.ntmps4
    go_wp2_with (first
      | (go_at_call 8; (with_reducible refine (first14_any _).mono ?_); go_must (rintro e wf ⟨rfl, hb1⟩; replace hB := bstep hB hb1 (Nat.le_refl _); have HSZ := Lib.hid hb1.size; clear hb1))
      | (go_at_call 9; (with_reducible refine (HN.out _).mono ?_); go_must (rintro e w1 ⟨d, h0, rfl, hd, hu, hb1⟩; have HU := Lib.hid hu; have HD := Lib.hid hd; have HLO := Lib.hid hB.size; replace hB := bstep hB hb1 (Nat.le_refl _); clear hd hb1 hu)))
    clear HN t1 t2 t3 t4
    obtain ⟨lo, hlo⟩ : ∃ lo, lo = wf.heap.size := ⟨_, rfl⟩
    rw [← hlo] at HD HLO
    clear hlo HSZ
    go_loopw [11] (fun vi wr => ∃ (i : Nat) (h : Hn), vi = .int .i64 i ∧ i ≤ m ∧ Hid (DkOk wr lo d h (wS (newD N) (l.take i))) ∧ Hid (∀ g, ¬ h.U g) ∧ Hid (Below w.heap.size w wr)) (fun vi _ => m - (intOf vi).toNat)
    case atStart => exact ⟨0, _, rfl, Nat.zero_le _, HD, HU, hB⟩
    case round =>
      clear HD hB HU 
      obtain ⟨i, h, rfl, hi, HD, HU, HB⟩ := hrel
      by_cases hlt : i < m
      · obtain ⟨b, o, x, rfl, hbX, HX, e1, e2⟩ := (HR.out.blw HB.out).one hlt
        have HLK := Lib.hid ((Lk.new N).writes_ (l.take i))
        have hti : (l.take i).length ≤ 100 := by rw [List.length_take]; omega
        have HWS := Lib.hid (wS_snoc ((newD N)) HX.out)
        have hbX2 : b < wr.heap.size := by have := HB.out.size; omega
        have HF := Lib.hid (fun w' => filled_any x.2 w')
        generalize wS ((newD N)) (l.take i) = s at *
        clear HX
        go_upto_region 9 with fail
        go_region_law (first
          | (go_simp; go_at_call 11; (with_reducible refine (HF.out _).mono ?_); go_must (rintro e w5 ⟨g5, rfl, ho, hb5⟩; have HB5 := Lib.hid (show Below wr.heap.size wr w5 by first | exact hb5 | exact bstep (Below.drew (Below.refl wr.heap.size wr)) hb5 (Nat.le_refl _)); have e15 := (HB5.out.cell (p := ⟨b, _, none⟩) hbX2).trans e1; have e25 := (HB5.out.cell (p := ⟨b, _, none⟩) hbX2).trans e2; have HRW := Lib.hid (RowAt.own ho (fillB_len x.2).symm HD.out.fresh); have HW := Lib.hid (writeD_any lo d h s x.1 256 _ (fillB x.2) w5 (HD.out.later HB5.out) (Nat.le_trans (HD.out.size_) HB5.out.size) HRW.out HLK.out.falls (by have := HLK.out.writes; omega) (by have := HLK.out.pend; omega) HU.out); clear ho hb5))
          | (go_simp; go_at_call 10; (with_reducible refine HW.out.mono ?_); go_must (rintro e w6 ⟨rfl, h6, hd6, F6, T6, U6⟩; have HU6 := Lib.hid (show ∀ g, ¬ h6.U g by rw [U6]; exact HU.out); have HD6 := Lib.hid hd6; have HF6 := Lib.hid F6; have HT6 := Lib.hid T6; clear hd6 F6 T6 U6)))
        all_goals
          go_wp2_with fail
          go_roundw
          case rel =>
            exact ⟨i + 1, h6, by go_num, by omega, (by rw [HWS.out]; exact HD6.out), HU6, HB.out.trans (((HB5.out.mono HB.out.size)).trans ((HF6.out.bel (HD.out.later HB5.out)).mono HLO.out))⟩
          case measure => simp [intOf]; omega
      · obtain rfl : i = m := by omega
        have HLK := Lib.hid ((Lk.new N).writes_ (l.take i))
        have hti : (l.take i).length ≤ 100 := by rw [List.length_take]; omega
        have HJ := Lib.hid ((Jk.new N).writes (l.take i))
        have HMS : Hid ((wS (newD N) (l.take i)).mask = []) := (show _ = _ from (wS_dur (newD N) (l.take i)).2)
        generalize wS (newD N) (l.take i) = s at *
        have HFL := Lib.hid (flushD_any lo d h s wr HD.out (by have := HLK.out.pend; omega))
        rw [HLK.out.down] at HFL
        go_upto_region 11 with (go_at_call 14; (with_reducible refine HFL.out.mono ?_); go_must (rintro e w3 ⟨rfl, h2, hd2, F2, T2, U2⟩; have HU2 := Lib.hid (show ∀ g, ¬ h2.U g by rw [U2]; exact HU.out); have HD3 := Lib.hid hd2; have hB := HB.out.trans ((F2.bel HD.out).mono HLO.out); clear hd2 F2 T2 U2))
        obtain ⟨f1, f2, f3, f4⟩ := flush_eq HLK.out.down HJ.out
        have HLA := Lib.hid HLK.out.flush.1
        have HAd : Hid ((flushS s).dur = (flushS s).now) := (show _ = _ by rw [f1, f2])
        have HAp := Lib.hid f3
        have HAj := Lib.hid f4
        have HAm : Hid ((flushS s).mask = []) := (show _ = _ by rw [flush_mask]; exact HMS.out)
        clear f1 f2 f3 f4 HFL HD HB HLK HJ HMS HU hi hlt HR
        generalize flushS s = sA at *
        have HCP := Lib.hid (copyD_any lo d h2 sA w3 HD3.out HAm.out (by rw [HAp.out]; decide))
        go_upto_region 12 with (go_at_call 17; (with_reducible refine HCP.out.mono ?_); go_must (rintro e w4 ⟨hW, rfl, hw, hu, hb1⟩; have HW0 := Lib.hid hw; have HUW := Lib.hid hu; have HD4 := Lib.hid (HD3.out.later hb1); replace hB := bstep hB hb1 (Nat.le_refl _); clear hw hu hb1))
        clear HCP
        have HTL3 : Hid (∀ g, h2.T d g → g < w3.heap.size) := (show ∀ g, _ → _ from fun g hg => (HD3.out.Tlt g hg).2)
        clear HD3
        obtain ⟨dW, hdW⟩ : ∃ dW, dW = w3.heap.size := ⟨_, rfl⟩
        have HD3T : Hid (∀ g, h2.T d g → g < dW) := (show ∀ g, _ → _ by
          rw [hdW]
          intro g hg
          exact HTL3.out g hg)
        rw [← hdW] at HW0 HUW
        rw [← hdW]
        clear hdW HTL3
        have HR1 : Hid (∀ g, h2.T d g → hW.U g) := (show ∀ g, _ → _ from fun g hg => (HUW.out g).2 (.inl (.inl hg)))
        have HR2w : Hid (∀ g, hW.T dW g → ¬ h2.T d g) := (show ∀ g, _ → _ from fun g hg e => by have := HD3T.out g e; have := (HW0.out.Tlt g hg).1; omega)
        have HR3w : Hid (∀ g, dW ≤ g → hW.U g) := (show ∀ g, _ → _ from fun g hg => (HUW.out g).2 (.inr hg))
        clear HD3T HUW
        have HD := HD4
        have HU := HU2
        clear HD4 HU2
        go_wp2_with fail
        go_loopw [13] (fun vi wr => ∃ (i : Nat) (h : Hn), vi = .int .i64 i ∧ i ≤ m2 ∧ Hid (DkOk wr lo d h (wS sA (l2.take i))) ∧ Hid (∀ g, ¬ h.U g) ∧ Hid (DkOk wr dW dW hW sA) ∧ Hid (∀ g, h.T d g → hW.U g) ∧ Hid (∀ g, hW.T dW g → ¬ h.T d g) ∧ Hid (Below w.heap.size w wr)) (fun vi _ => m2 - (intOf vi).toNat)
        case atStart => exact ⟨0, _, rfl, Nat.zero_le _, HD, HU, HW0, HR1, HR2w, hB⟩
        case round =>
          clear HD hB HU HW0 HR1 HR2w
          obtain ⟨i, h, rfl, hi, HD, HU, HW0, HR1, HR2w, HB⟩ := hrel
          by_cases hlt : i < m2
          · obtain ⟨b, o, x, rfl, hbX, HX, e1, e2⟩ := (HR2.out.blw HB.out).one hlt
            have HLK := Lib.hid (HLA.out.writes_ (l2.take i))
            have hti : (l2.take i).length ≤ 100 := by rw [List.length_take]; omega
            have HWS := Lib.hid (wS_snoc (sA) HX.out)
            have hbX2 : b < wr.heap.size := by have := HB.out.size; omega
            have HF := Lib.hid (fun w' => filled_any x.2 w')
            generalize wS (sA) (l2.take i) = s at *
            clear HX
            go_upto_region 15 with fail
            go_region_law (first
              | (go_simp; go_at_call 11; (with_reducible refine (HF.out _).mono ?_); go_must (rintro e w5 ⟨g5, rfl, ho, hb5⟩; have HB5 := Lib.hid (show Below wr.heap.size wr w5 by first | exact hb5 | exact bstep (Below.drew (Below.refl wr.heap.size wr)) hb5 (Nat.le_refl _)); have e15 := (HB5.out.cell (p := ⟨b, _, none⟩) hbX2).trans e1; have e25 := (HB5.out.cell (p := ⟨b, _, none⟩) hbX2).trans e2; have HRW := Lib.hid (RowAt.own ho (fillB_len x.2).symm HD.out.fresh); have HW := Lib.hid (writeD_any lo d h s x.1 256 _ (fillB x.2) w5 (HD.out.later HB5.out) (Nat.le_trans (HD.out.size_) HB5.out.size) HRW.out HLK.out.falls (by have := HLK.out.writes; omega) (by have := HLK.out.pend; omega) HU.out); clear ho hb5))
              | (go_simp; go_at_call 10; (with_reducible refine HW.out.mono ?_); go_must (rintro e w6 ⟨rfl, h6, hd6, F6, T6, U6⟩; have HU6 := Lib.hid (show ∀ g, ¬ h6.U g by rw [U6]; exact HU.out); have HD6 := Lib.hid hd6; have HF6 := Lib.hid F6; have HT6 := Lib.hid T6; clear hd6 F6 T6 U6)))
            all_goals
              go_wp2_with fail
              go_roundw
              case rel =>
                obtain ⟨z1, z2, z3⟩ := other_step (HW0.out.later HB5.out) HF6.out HT6.out HR1.out HR2w.out (fun g hg => HR3w.out g (by have := HW0.out.arr.lt; have := HB5.out.size; omega))
                exact ⟨i + 1, h6, by go_num, by omega, (by rw [HWS.out]; exact HD6.out), HU6, z1, z2, z3, HB.out.trans (((HB5.out.mono HB.out.size)).trans ((HF6.out.bel (HD.out.later HB5.out)).mono HLO.out))⟩
              case measure => simp [intOf]; omega
          · obtain rfl : i = m2 := by omega
            rename_i z0 z1 z2 z3 z4 z5 z6 z7 z8 z9 z10
            revert N A c l A2 c2 l2 A3 m3 c3 ms w h1 z0 h5 HR3 HLM3 z1 wf w1 d h0 z2 lo HLO z3 u66 u67 u68 u69 u70 u71 u72 u73 u74 u75 u76 u77 u78 u79 u80 u81 u82 u83 u84 z4 z5 h3 hlm hti s z6 w3 h2 sA HLA HAd HAp HAj HAm w4 hW z7 z8 dW HR3w wr u89 u90 u91 u92 u93 u94 u95 u96 u97 u98 u99 u100 u101 u102 u103 u104 u105 u106 u107 i h HD HU HW0 HR1 HR2w HB h4 HR2 hlm2 z9 z10 hi hlt
            exact K1.out
end Go.Proofs.Ytommepmeohaijaa
