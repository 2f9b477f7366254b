/- DiskTurns: bits turned. -/
import Derived.Test.YtommepmeohaijaaTurnsP
namespace Go.Proofs.Ytommepmeohaijaa
set_option linter.all false
open Go.RowKit Go.Maps

set_option maxRecDepth 100000 in
set_option maxHeartbeats 3200000 in
theorem diskTurns_early (n : Int) (A : Option Addr) (m c : Nat) (k bit : Int) (w : World) (h : n < 4 ∨ 40 < n ∨ 100 < m) :
    Calls Try.prog 3 #[.int .i64 n, .slice A m c, .int .i64 k, .int .i64 bit] w fun e w' => e = .returned (.bool true) ∧ Below w.heap.size w w' := by
  have hB := Below.refl w.heap.size w
  by_cases h1 : n < 4 ∨ 4096 < n
  · have HN := Lib.hid (fun w' => newD_bad n w' h1)
    clear h h1
    go_enter Try.func3, Try.ntmps3
    go_wp2_with (first
      | (go_at_call 8; (with_reducible refine (first14_any _).mono ?_); go_must (rintro e wf ⟨rfl, hb1⟩; replace hB := bstep hB hb1 (Nat.le_refl _); clear hb1))
      | (go_at_call 9; (with_reducible refine (HN.out _).mono ?_); go_must (rintro e w1 ⟨rfl, rfl⟩)))
    go_ret
    exact ⟨rfl, hB⟩
  obtain ⟨N, rfl⟩ := Int.eq_ofNat_of_zero_le (show 0 ≤ n by omega)
  have HN := Lib.hid (fun w' => newD_any N w' (by omega) (by omega))
  by_cases h2 : 40 < N
  · have t1 : decide ((N : Int) > 40) = true := decide_eq_true (by omega)
    clear h h1
    go_enter Try.func3, Try.ntmps3
    go_wp2_with (first
      | (go_at_call 8; (with_reducible refine (first14_any _).mono ?_); go_must (rintro e wf ⟨rfl, hb1⟩; replace hB := bstep hB hb1 (Nat.le_refl _); clear hb1))
      | (go_at_call 9; (with_reducible refine (HN.out _).mono ?_); go_must (rintro e w1 ⟨d, h0, rfl, hd, hb1⟩; replace hB := bstep hB hb1 (Nat.le_refl _); clear hd hb1)))
    go_ret
    exact ⟨rfl, hB⟩
  have t1 : decide ((N : Int) > 40) = false := decide_eq_false (by omega)
  have t2 : decide ((m : Int) > 100) = true := decide_eq_true (by omega)
  clear h h1
  go_enter Try.func3, Try.ntmps3
  go_wp2_with (first
    | (go_at_call 8; (with_reducible refine (first14_any _).mono ?_); go_must (rintro e wf ⟨rfl, hb1⟩; replace hB := bstep hB hb1 (Nat.le_refl _); clear hb1))
    | (go_at_call 9; (with_reducible refine (HN.out _).mono ?_); go_must (rintro e w1 ⟨d, h0, rfl, hd, hb1⟩; replace hB := bstep hB hb1 (Nat.le_refl _); clear hd hb1)))
  go_ret
  exact ⟨rfl, hB⟩
theorem fillB_len (c : UInt8) : (fillB c).length = 256 := List.length_replicate

set_option maxRecDepth 100000 in
set_option maxHeartbeats 6400000 in
theorem diskTurns_main (N : Nat) (A : Option Addr) (m c : Nat) (l : List (Int × UInt8)) (k bit : Int) (w : World) (hr : RdO w w.heap.size A m l) (h1 : 4 ≤ N) (h2 : N ≤ 40) (h3 : m ≤ 100) :
    Calls Try.prog 3 #[.int .i64 (N : Int), .slice A m c, .int .i64 k, .int .i64 bit] w fun e w' => e = .returned (.bool true) ∧ Below w.heap.size w w' := by
  have hB := Below.refl w.heap.size w
  have HN := Lib.hid (fun w' => newD_any N w' (by omega) (by omega))
  have t1 : decide ((N : Int) > 40) = false := decide_eq_false (by omega)
  have t2 : decide ((m : Int) > 100) = false := decide_eq_false (by omega)
  have HR := Lib.hid hr
  have hlm := hr.1
  clear hr
  go_enter Try.func3, Try.ntmps3
  go_wp2_with (first
    | (go_at_call 8; (with_reducible refine (first14_any _).mono ?_); go_must (rintro e wf ⟨rfl, hb1⟩; replace hB := bstep hB hb1 (Nat.le_refl _); have HSZ := Lib.hid hb1.size; clear hb1))
    | (go_at_call 9; (with_reducible refine (HN.out _).mono ?_); go_must (rintro e w1 ⟨d, h0, rfl, hd, hb1⟩; have HD := Lib.hid hd; have HLO := Lib.hid hB.size; replace hB := bstep hB hb1 (Nat.le_refl _); clear hd hb1)))
  clear HN t1 t2
  obtain ⟨lo, hlo⟩ : ∃ lo, lo = wf.heap.size := ⟨_, rfl⟩
  rw [← hlo] at HD HLO
  clear hlo HSZ
  go_loopw [11] (fun vi wr => ∃ (i : Nat) (h : Hn), vi = .int .i64 i ∧ i ≤ m ∧ Hid (DkOk wr lo d h (wS (newD N) (l.take i))) ∧ Hid (Below w.heap.size w wr)) (fun vi _ => m - (intOf vi).toNat)
  case atStart => exact ⟨0, h0, rfl, Nat.zero_le _, HD, hB⟩
  case round =>
    clear HD hB
    obtain ⟨i, h, rfl, hi, HD, HB⟩ := hrel
    by_cases hlt : i < m
    · obtain ⟨b, o, x, rfl, hbX, HX, e1, e2⟩ := (HR.out.blw HB.out).one hlt
      have HLK := Lib.hid ((Lk.new N).writes_ (l.take i))
      have hti : (l.take i).length ≤ 100 := by rw [List.length_take]; omega
      have HWS := Lib.hid (wS_snoc (newD N) HX.out)
      have hbX2 : b < wr.heap.size := by have := HB.out.size; omega
      have HF := Lib.hid (fun w' => filled_any x.2 w')
      generalize wS (newD N) (l.take i) = s at *
      clear HX
      go_upto_region 9 with fail
      go_region_law (first
        | (go_simp; go_at_call 11; (with_reducible refine (HF.out _).mono ?_); go_must (rintro e w5 ⟨g5, rfl, ho, hb5⟩; have HB5 := Lib.hid (show Below wr.heap.size wr w5 by first | exact hb5 | exact bstep (Below.drew (Below.refl wr.heap.size wr)) hb5 (Nat.le_refl _)); have e15 := (HB5.out.cell (p := ⟨b, _, none⟩) hbX2).trans e1; have e25 := (HB5.out.cell (p := ⟨b, _, none⟩) hbX2).trans e2; have HRW := Lib.hid (RowAt.own ho (fillB_len x.2).symm (fun q hq => (HD.out.Tlt q hq).2)); have HW := Lib.hid (writeD_any lo d h s x.1 256 _ (fillB x.2) w5 (HD.out.later HB5.out) (Nat.le_trans (HD.out.size_) HB5.out.size) HRW.out HLK.out.falls (by have := HLK.out.writes; omega) (by have := HLK.out.pend; omega)); clear ho hb5))
        | (go_simp; go_at_call 10; (with_reducible refine HW.out.mono ?_); go_must (rintro e w6 ⟨rfl, h6, hd6, F6, T6⟩; have HD6 := Lib.hid hd6; have HF6 := Lib.hid F6; clear hd6 F6 T6)))
      all_goals
        go_wp2_with fail
        go_roundw
        case rel => exact ⟨i + 1, h6, by go_num, by omega, (by rw [HWS.out]; exact HD6.out), HB.out.trans (((HB5.out.mono HB.out.size)).trans ((HF6.out.bel (HD.out.later HB5.out)).mono HLO.out))⟩
        case measure => simp [intOf]; omega
    · obtain rfl : i = m := by omega
      have HLK := Lib.hid ((Lk.new N).writes_ (l.take i))
      have hti : (l.take i).length ≤ 100 := by rw [List.length_take]; omega
      generalize wS (newD N) (l.take i) = s at *
      clear hi hlt HR
      have HPN := Lib.hid (pendingD_any lo d h s wr HD.out)
      go_upto_region 11 with (go_at_call 12; (with_reducible refine HPN.out.mono ?_); go_must (rintro e w2 ⟨rfl, rfl⟩))
      clear HPN
      by_cases hp : s.pend = []
      · have t5 : decide ((s.pend.length : Int) > 0) = false := decide_eq_false (by rw [hp]; decide)
        have t5n : decide (0 < s.pend.length) = false := decide_eq_false (by rw [hp]; decide)
        have HFL := Lib.hid (flushD_any lo d h s wr HD.out (by have := HLK.out.pend; omega))
        rw [HLK.out.down] at HFL
        go_upto_region 14 with (go_at_call 14; (with_reducible refine HFL.out.mono ?_); go_must (rintro e w3 ⟨rfl, h2, hd2, F2, T2⟩; have HD3 := Lib.hid hd2; have HB3 := Lib.hid (HB.out.trans ((F2.bel HD.out).mono HLO.out)); clear hd2 F2 T2))
        have HL2 := Lib.hid HLK.out.flush
        clear HFL HD HB HLK
        generalize flushS s = s2 at *
        by_cases hg : goodT s2 k bit
        · obtain ⟨g1, g2, g3, g4, g5⟩ := id hg
          rw [HL2.out.1.n] at g2
          obtain ⟨q, rfl⟩ := Int.eq_ofNat_of_zero_le g1
          obtain ⟨j, rfl⟩ := Int.eq_ofNat_of_zero_le g3
          have hE : wrongD s2 (q : Int) = 0 := by rw [wrongD_up HL2.out.1.down, HL2.out.1.n, if_neg (by omega)]
          have HRL := Lib.hid (getS_len HD3.out.now q)
          have HR1 := Lib.hid (readD_ok lo d h2 s2 q w3 HD3.out hE)
          have HTR := Lib.hid (turnS_read (j := j) hE)
          have HG2 := Lib.hid (turnS_good hg)
          have HNN : Hid (getS (turnS (turnS s2 (q : Int) (j : Int)) (q : Int) (j : Int)).now q = turnB (turnB (getS s2.now q) j) j) := (show _ = _ by rw [turnS_now, turnS_now])
          have HTR2 := Lib.hid (turnS_read (j := j) HTR.out.1)
          go_upto_region 15 with (go_at_call 15; (with_reducible refine HR1.out.mono ?_); go_must (rintro e w4 ⟨A1, c1, rfl, ho1, hb1⟩; have HPR := Lib.hid ((RowAt.own2 ho1 (fun q hq => (HD3.out.Tlt q hq).2)) : RowAt _ (h2.T d) _ _ _); replace HD3 := Lib.hid (HD3.out.later hb1); replace HB3 := Lib.hid (bstep HB3.out hb1 (Nat.le_refl _)); clear ho1 hb1))
          have HT := Lib.hid (turnD_any lo d h2 s2 q j w4 HD3.out hg)
          clear hg g1 g3 g5 HL2 HR1
          go_upto_region 16 with (go_at_call 13; (with_reducible refine HT.out.mono ?_); go_must (rintro e w5 ⟨rfl, hd, F⟩; replace HPR := Lib.hid (HPR.out.fr F (TT.refl _ _)); replace HB3 := Lib.hid (HB3.out.trans ((F.bel HD3.out).mono HLO.out)); replace HD3 := Lib.hid hd; clear hd F))
          clear HT
          have HR2 := Lib.hid (readD_ok lo d h2 (turnS s2 (q : Int) (j : Int)) q w5 HD3.out HTR.out.1)
          rw [turnS_now] at HR2
          go_upto_region 17 with (go_at_call 15; (with_reducible refine HR2.out.mono ?_); go_must (rintro e w6 ⟨A2, c2, rfl, ho2, hb1⟩; have HQR := Lib.hid ((RowAt.own2 ho2 (fun q hq => (HD3.out.Tlt q hq).2)) : RowAt _ (h2.T d) _ _ _); replace HPR := Lib.hid (HPR.out.later hb1); replace HD3 := Lib.hid (HD3.out.later hb1); replace HB3 := Lib.hid (bstep HB3.out hb1 (Nat.le_refl _)); clear ho2 hb1))
          clear HR2
          have u1 : decide ((q : Int) ≥ 0) = true := decide_eq_true (by omega)
          have u2 : decide ((q : Int) < (N : Int)) = true := decide_eq_true (by omega)
          have u2n : decide (q < N) = true := decide_eq_true (by omega)
          have u3 : decide ((j : Int) ≥ 0) = true := decide_eq_true (by omega)
          have u4 : decide ((j : Int) < 2048) = true := decide_eq_true (by omega)
          have u4n : decide (j < 2048) = true := decide_eq_true (by omega)
          go_wp2_with fail
          clear u1 u2 u2n u3 u4 u4n
          generalize getS s2.now q = row at *
          go_loopw [19] (fun vi wr => ∃ i : Nat, vi = .int .i64 i ∧ i ≤ 256 ∧ Hid (Below w6.heap.size w6 wr)) (fun vi _ => 256 - (intOf vi).toNat)
          case atStart => exact ⟨0, rfl, Nat.zero_le _, Below.refl _ _⟩
          case round =>
            obtain ⟨i, rfl, hi, HB⟩ := hrel
            by_cases hlt : i < 256
            · obtain ⟨b, o, x, rfl, hb, HX, e1⟩ := (HPR.out.later HB.out).2.2.byte hlt
              obtain ⟨b2, o2, y, rfl, hb2, HY, e2⟩ := (HQR.out.later HB.out).2.2.byte hlt
              have HYT := Lib.hid (turnB_at (j := j) HX.out)
              obtain ⟨p, hp⟩ : ∃ p, p = j / 8 := ⟨_, rfl⟩
              obtain ⟨t, ht⟩ : ∃ t, t = j % 8 := ⟨_, rfl⟩
              have hq1 : (j : Int).tdiv 8 = (p : Int) := by rw [hp]; rfl
              have hq2 : (j : Int).tmod 8 = (t : Int) := by rw [ht]; rfl
              have hp2 : p < 256 := by omega
              have ht2 : t < 8 := by omega
              have hM := bitM_pow ht2
              rw [← hp, ← ht] at HYT
              have HBN := Lib.hid (fun q => bdrewN HB.out q)
              clear hp ht hb hb2
              by_cases hip : i = p
              · obtain rfl : y = x ^^^ bitM t := by
                  have h1 := HY.out.symm.trans HYT.out
                  rw [if_pos hip] at h1
                  injection h1
                have hz : x.toNat ^^^ (bitM t).toNat ^^^ x.toNat = (bitM t).toNat := by rw [← UInt8.toNat_xor, ← UInt8.toNat_xor, UInt8.xor_comm x, xor_xor]
                have v1 : ((i : Int) == (p : Int)) = true := by rw [hip]; exact beq_self_eq_true _
                have v2 : ((i : Int) != (p : Int)) = false := by rw [hip]; simp
                clear HX HY HYT hip HB
                go_wp2_with fail
                go_quiet (fail)
                go_wp2_with fail
                go_roundw
                case rel => exact ⟨i + 1, by go_num, by omega, HBN.out _⟩
                case measure => simp [intOf]; omega
              · obtain rfl : y = x := by
                  have h1 := HY.out.symm.trans HYT.out
                  rw [if_neg hip] at h1
                  injection h1
                have hz : y.toNat ^^^ y.toNat = 0 := Nat.xor_self _
                have v1 : ((i : Int) == (p : Int)) = false := beq_eq_false_iff_ne.2 (by omega)
                have v2 : ((i : Int) != (p : Int)) = true := by rw [bne, v1]; rfl
                clear HX HY HYT hip HB
                go_wp2_with fail
                go_quiet (fail)
                go_wp2_with fail
                go_roundw
                case rel => exact ⟨i + 1, by go_num, by omega, HBN.out _⟩
                case measure => simp [intOf]; omega
            · obtain rfl : i = 256 := by omega
              replace HPR := Lib.hid (HPR.out.later HB.out)
              replace HD3 := Lib.hid (HD3.out.later HB.out)
              replace HB3 := Lib.hid (bstep HB3.out HB.out (Nat.le_refl _))
              have HT2 := Lib.hid (turnD_any lo d h2 _ q j wr HD3.out HG2.out)
              clear HQR HB
              go_upto_region 31 with (go_at_call 13; (with_reducible refine HT2.out.mono ?_); go_must (rintro e w7 ⟨rfl, hd, F⟩; replace HPR := Lib.hid (HPR.out.fr F (TT.refl _ _)); replace HB3 := Lib.hid (HB3.out.trans ((F.bel HD3.out).mono HLO.out)); replace HD3 := Lib.hid hd; clear hd F))
              clear HT2
              have HR3 := Lib.hid (readD_ok lo d h2 _ q w7 HD3.out HTR2.out.1)
              rw [HNN.out, turnB_back _ _ (by rw [HRL.out]; omega)] at HR3
              go_upto_region 32 with (go_at_call 15; (with_reducible refine HR3.out.mono ?_); go_must (rintro e w8 ⟨A3, c3, rfl, ho3, hb1⟩; have HS := Lib.hid ho3.rd; replace HPR := Lib.hid (HPR.out.later hb1); replace HB3 := Lib.hid (bstep HB3.out hb1 (Nat.le_refl _)); clear ho3 hb1))
              clear HR3 HD3
              go_wp2_with (first
                | (go_at_call 8; (with_reducible refine (first14_any _).mono ?_); go_must (rintro e wf2 ⟨rfl, hb1⟩; replace HPR := Lib.hid (HPR.out.later hb1); replace HS := Lib.hid (HS.out.later hb1); replace HB3 := Lib.hid (bstep HB3.out hb1 (Nat.le_refl _)); have HBY := Lib.hid (bytes_any _ 256 c3 _ 256 c1 A3 A1 row row wf2 HS.out HPR.out.2.2); rw [beq_self_eq_true] at HBY; clear hb1))
                | (go_at_call 16; (with_reducible refine HBY.out.mono ?_); go_must (rintro e wb ⟨rfl, rfl⟩)))
              go_ret
              exact ⟨rfl, HB3.out⟩
        · have HR1 := Lib.hid (readD_any lo d h2 s2 k w3 HD3.out)
          go_upto_region 15 with (go_at_call 15; (with_reducible refine HR1.out.mono ?_); go_must (rintro e w4 ⟨A1, n1, c1, rfl, hn1, hc1, hm1, ho1, hb1⟩; have HP := Lib.hid ho1.rd; replace HD3 := Lib.hid (HD3.out.later hb1); replace HB3 := Lib.hid (bstep HB3.out hb1 (Nat.le_refl _)); clear hc1 hm1 ho1 hb1))
          clear HR1
          have HT := Lib.hid (turnD_bad lo d h2 s2 k bit w4 HD3.out hg)
          have HR2 := Lib.hid (readD_any lo d h2 s2 k w4 HD3.out)
          go_upto_region 16 with (go_at_call 13; (with_reducible refine HT.out.mono ?_); go_must (rintro e w5 ⟨rfl, rfl⟩))
          go_upto_region 17 with (go_at_call 15; (with_reducible refine HR2.out.mono ?_); go_must (rintro e w5 ⟨A2, n2, c2, rfl, hn2, hc2, hm2, ho2, hb1⟩; have HQ := Lib.hid ho2.rd; replace HP := Lib.hid (HP.out.later hb1); replace HB3 := Lib.hid (bstep HB3.out hb1 (Nat.le_refl _)); clear hc2 hm2 ho2 hb1))
          clear HT HR2 HD3 hn1 hn2
          have hw := wrongD_up HL2.out.1.down k
          rw [HL2.out.1.n] at hw
          generalize readV s2 k = V at *
          obtain rfl : V.length = n1 := HP.out.len
          obtain rfl : V.length = n2 := HQ.out.len
          have hng : ¬ (0 ≤ k ∧ k < N ∧ 0 ≤ bit ∧ bit < 2048) := fun h => hg ⟨h.1, by rw [HL2.out.1.n]; exact h.2.1, h.2.2.1, h.2.2.2, HL2.out.2⟩
          clear hg HL2
          by_cases k1 : k < 0
          · rw [if_pos (.inl k1)] at hw
            rw [hw]
            clear hw hng
            have u1 : decide (k ≥ (0 : Int)) = false := decide_eq_false (by omega)
            go_wp2_with (first
              | (go_at_call 8; (with_reducible refine (first14_any _).mono ?_); go_must (rintro e wf2 ⟨rfl, hb1⟩; replace HP := Lib.hid (HP.out.later hb1); replace HQ := Lib.hid (HQ.out.later hb1); replace HB3 := Lib.hid (bstep HB3.out hb1 (Nat.le_refl _)); have HBY := Lib.hid (bytes_any _ V.length c2 _ V.length c1 A2 A1 V V wf2 HQ.out HP.out); rw [beq_self_eq_true] at HBY; clear hb1))
              | (go_at_call 16; (with_reducible refine HBY.out.mono ?_); go_must (rintro e wb ⟨rfl, rfl⟩)))
            go_ret
            exact ⟨rfl, HB3.out⟩
          have u1 : decide (k ≥ (0 : Int)) = true := decide_eq_true (by omega)
          by_cases k2 : (N : Int) ≤ k
          · rw [if_pos (.inr k2)] at hw
            rw [hw]
            clear hw hng
            have u2 : decide (k < (N : Int)) = false := decide_eq_false (by omega)
            go_wp2_with (first
              | (go_at_call 8; (with_reducible refine (first14_any _).mono ?_); go_must (rintro e wf2 ⟨rfl, hb1⟩; replace HP := Lib.hid (HP.out.later hb1); replace HQ := Lib.hid (HQ.out.later hb1); replace HB3 := Lib.hid (bstep HB3.out hb1 (Nat.le_refl _)); have HBY := Lib.hid (bytes_any _ V.length c2 _ V.length c1 A2 A1 V V wf2 HQ.out HP.out); rw [beq_self_eq_true] at HBY; clear hb1))
              | (go_at_call 16; (with_reducible refine HBY.out.mono ?_); go_must (rintro e wb ⟨rfl, rfl⟩)))
            go_ret
            exact ⟨rfl, HB3.out⟩
          have u2 : decide (k < (N : Int)) = true := decide_eq_true (by omega)
          rw [if_neg (by omega)] at hw
          rw [hw]
          clear hw
          by_cases k3 : bit < 0
          · have u3 : decide (bit ≥ (0 : Int)) = false := decide_eq_false (by omega)
            clear hng
            go_wp2_with (first
              | (go_at_call 8; (with_reducible refine (first14_any _).mono ?_); go_must (rintro e wf2 ⟨rfl, hb1⟩; replace HP := Lib.hid (HP.out.later hb1); replace HQ := Lib.hid (HQ.out.later hb1); replace HB3 := Lib.hid (bstep HB3.out hb1 (Nat.le_refl _)); have HBY := Lib.hid (bytes_any _ V.length c2 _ V.length c1 A2 A1 V V wf2 HQ.out HP.out); rw [beq_self_eq_true] at HBY; clear hb1))
              | (go_at_call 16; (with_reducible refine HBY.out.mono ?_); go_must (rintro e wb ⟨rfl, rfl⟩)))
            go_ret
            exact ⟨rfl, HB3.out⟩
          have u3 : decide (bit ≥ (0 : Int)) = true := decide_eq_true (by omega)
          have u4 : decide (bit < (2048 : Int)) = false := decide_eq_false (by omega)
          clear hng
          go_wp2_with (first
            | (go_at_call 8; (with_reducible refine (first14_any _).mono ?_); go_must (rintro e wf2 ⟨rfl, hb1⟩; replace HP := Lib.hid (HP.out.later hb1); replace HQ := Lib.hid (HQ.out.later hb1); replace HB3 := Lib.hid (bstep HB3.out hb1 (Nat.le_refl _)); have HBY := Lib.hid (bytes_any _ V.length c2 _ V.length c1 A2 A1 V V wf2 HQ.out HP.out); rw [beq_self_eq_true] at HBY; clear hb1))
            | (go_at_call 16; (with_reducible refine HBY.out.mono ?_); go_must (rintro e wb ⟨rfl, rfl⟩)))
          go_ret
          exact ⟨rfl, HB3.out⟩
      · have t5 : decide ((s.pend.length : Int) > 0) = true := decide_eq_true (by have := List.length_pos_iff.2 hp; omega)
        have t5n : decide (0 < s.pend.length) = true := decide_eq_true (List.length_pos_iff.2 hp)
        have HTB := Lib.hid (turnD_bad lo d h s k bit wr HD.out (fun g => hp g.2.2.2.2))
        have HFL := Lib.hid (flushD_any lo d h s wr HD.out (by have := HLK.out.pend; omega))
        rw [HLK.out.down] at HFL
        go_upto_region 14 with (first
          | (go_at_call 13; (with_reducible refine HTB.out.mono ?_); go_must (rintro e w2 ⟨rfl, rfl⟩))
          | (go_at_call 14; (with_reducible refine HFL.out.mono ?_); go_must (rintro e w3 ⟨rfl, h2, hd2, F2, T2⟩; have HD3 := Lib.hid hd2; have HB3 := Lib.hid (HB.out.trans ((F2.bel HD.out).mono HLO.out)); clear hd2 F2 T2)))
        have HL2 := Lib.hid HLK.out.flush
        clear HFL HD HB HLK
        generalize flushS s = s2 at *
        by_cases hg : goodT s2 k bit
        · obtain ⟨g1, g2, g3, g4, g5⟩ := id hg
          rw [HL2.out.1.n] at g2
          obtain ⟨q, rfl⟩ := Int.eq_ofNat_of_zero_le g1
          obtain ⟨j, rfl⟩ := Int.eq_ofNat_of_zero_le g3
          have hE : wrongD s2 (q : Int) = 0 := by rw [wrongD_up HL2.out.1.down, HL2.out.1.n, if_neg (by omega)]
          have HRL := Lib.hid (getS_len HD3.out.now q)
          have HR1 := Lib.hid (readD_ok lo d h2 s2 q w3 HD3.out hE)
          have HTR := Lib.hid (turnS_read (j := j) hE)
          have HG2 := Lib.hid (turnS_good hg)
          have HNN : Hid (getS (turnS (turnS s2 (q : Int) (j : Int)) (q : Int) (j : Int)).now q = turnB (turnB (getS s2.now q) j) j) := (show _ = _ by rw [turnS_now, turnS_now])
          have HTR2 := Lib.hid (turnS_read (j := j) HTR.out.1)
          go_upto_region 15 with (go_at_call 15; (with_reducible refine HR1.out.mono ?_); go_must (rintro e w4 ⟨A1, c1, rfl, ho1, hb1⟩; have HPR := Lib.hid ((RowAt.own2 ho1 (fun q hq => (HD3.out.Tlt q hq).2)) : RowAt _ (h2.T d) _ _ _); replace HD3 := Lib.hid (HD3.out.later hb1); replace HB3 := Lib.hid (bstep HB3.out hb1 (Nat.le_refl _)); clear ho1 hb1))
          have HT := Lib.hid (turnD_any lo d h2 s2 q j w4 HD3.out hg)
          clear hg g1 g3 g5 HL2 HR1
          go_upto_region 16 with (go_at_call 13; (with_reducible refine HT.out.mono ?_); go_must (rintro e w5 ⟨rfl, hd, F⟩; replace HPR := Lib.hid (HPR.out.fr F (TT.refl _ _)); replace HB3 := Lib.hid (HB3.out.trans ((F.bel HD3.out).mono HLO.out)); replace HD3 := Lib.hid hd; clear hd F))
          clear HT
          have HR2 := Lib.hid (readD_ok lo d h2 (turnS s2 (q : Int) (j : Int)) q w5 HD3.out HTR.out.1)
          rw [turnS_now] at HR2
          go_upto_region 17 with (go_at_call 15; (with_reducible refine HR2.out.mono ?_); go_must (rintro e w6 ⟨A2, c2, rfl, ho2, hb1⟩; have HQR := Lib.hid ((RowAt.own2 ho2 (fun q hq => (HD3.out.Tlt q hq).2)) : RowAt _ (h2.T d) _ _ _); replace HPR := Lib.hid (HPR.out.later hb1); replace HD3 := Lib.hid (HD3.out.later hb1); replace HB3 := Lib.hid (bstep HB3.out hb1 (Nat.le_refl _)); clear ho2 hb1))
          clear HR2
          have u1 : decide ((q : Int) ≥ 0) = true := decide_eq_true (by omega)
          have u2 : decide ((q : Int) < (N : Int)) = true := decide_eq_true (by omega)
          have u2n : decide (q < N) = true := decide_eq_true (by omega)
          have u3 : decide ((j : Int) ≥ 0) = true := decide_eq_true (by omega)
          have u4 : decide ((j : Int) < 2048) = true := decide_eq_true (by omega)
          have u4n : decide (j < 2048) = true := decide_eq_true (by omega)
          go_wp2_with fail
          clear u1 u2 u2n u3 u4 u4n
          generalize getS s2.now q = row at *
          go_loopw [19] (fun vi wr => ∃ i : Nat, vi = .int .i64 i ∧ i ≤ 256 ∧ Hid (Below w6.heap.size w6 wr)) (fun vi _ => 256 - (intOf vi).toNat)
          case atStart => exact ⟨0, rfl, Nat.zero_le _, Below.refl _ _⟩
          case round =>
            obtain ⟨i, rfl, hi, HB⟩ := hrel
            by_cases hlt : i < 256
            · obtain ⟨b, o, x, rfl, hb, HX, e1⟩ := (HPR.out.later HB.out).2.2.byte hlt
              obtain ⟨b2, o2, y, rfl, hb2, HY, e2⟩ := (HQR.out.later HB.out).2.2.byte hlt
              have HYT := Lib.hid (turnB_at (j := j) HX.out)
              obtain ⟨p, hp⟩ : ∃ p, p = j / 8 := ⟨_, rfl⟩
              obtain ⟨t, ht⟩ : ∃ t, t = j % 8 := ⟨_, rfl⟩
              have hq1 : (j : Int).tdiv 8 = (p : Int) := by rw [hp]; rfl
              have hq2 : (j : Int).tmod 8 = (t : Int) := by rw [ht]; rfl
              have hp2 : p < 256 := by omega
              have ht2 : t < 8 := by omega
              have hM := bitM_pow ht2
              rw [← hp, ← ht] at HYT
              have HBN := Lib.hid (fun q => bdrewN HB.out q)
              clear hp ht hb hb2
              by_cases hip : i = p
              · obtain rfl : y = x ^^^ bitM t := by
                  have h1 := HY.out.symm.trans HYT.out
                  rw [if_pos hip] at h1
                  injection h1
                have hz : x.toNat ^^^ (bitM t).toNat ^^^ x.toNat = (bitM t).toNat := by rw [← UInt8.toNat_xor, ← UInt8.toNat_xor, UInt8.xor_comm x, xor_xor]
                have v1 : ((i : Int) == (p : Int)) = true := by rw [hip]; exact beq_self_eq_true _
                have v2 : ((i : Int) != (p : Int)) = false := by rw [hip]; simp
                clear HX HY HYT hip HB
                go_wp2_with fail
                go_quiet (fail)
                go_wp2_with fail
                go_roundw
                case rel => exact ⟨i + 1, by go_num, by omega, HBN.out _⟩
                case measure => simp [intOf]; omega
              · obtain rfl : y = x := by
                  have h1 := HY.out.symm.trans HYT.out
                  rw [if_neg hip] at h1
                  injection h1
                have hz : y.toNat ^^^ y.toNat = 0 := Nat.xor_self _
                have v1 : ((i : Int) == (p : Int)) = false := beq_eq_false_iff_ne.2 (by omega)
                have v2 : ((i : Int) != (p : Int)) = true := by rw [bne, v1]; rfl
                clear HX HY HYT hip HB
                go_wp2_with fail
                go_quiet (fail)
                go_wp2_with fail
                go_roundw
                case rel => exact ⟨i + 1, by go_num, by omega, HBN.out _⟩
                case measure => simp [intOf]; omega
            · obtain rfl : i = 256 := by omega
              replace HPR := Lib.hid (HPR.out.later HB.out)
              replace HD3 := Lib.hid (HD3.out.later HB.out)
              replace HB3 := Lib.hid (bstep HB3.out HB.out (Nat.le_refl _))
              have HT2 := Lib.hid (turnD_any lo d h2 _ q j wr HD3.out HG2.out)
              clear HQR HB
              go_upto_region 31 with (go_at_call 13; (with_reducible refine HT2.out.mono ?_); go_must (rintro e w7 ⟨rfl, hd, F⟩; replace HPR := Lib.hid (HPR.out.fr F (TT.refl _ _)); replace HB3 := Lib.hid (HB3.out.trans ((F.bel HD3.out).mono HLO.out)); replace HD3 := Lib.hid hd; clear hd F))
              clear HT2
              have HR3 := Lib.hid (readD_ok lo d h2 _ q w7 HD3.out HTR2.out.1)
              rw [HNN.out, turnB_back _ _ (by rw [HRL.out]; omega)] at HR3
              go_upto_region 32 with (go_at_call 15; (with_reducible refine HR3.out.mono ?_); go_must (rintro e w8 ⟨A3, c3, rfl, ho3, hb1⟩; have HS := Lib.hid ho3.rd; replace HPR := Lib.hid (HPR.out.later hb1); replace HB3 := Lib.hid (bstep HB3.out hb1 (Nat.le_refl _)); clear ho3 hb1))
              clear HR3 HD3
              go_wp2_with (first
                | (go_at_call 8; (with_reducible refine (first14_any _).mono ?_); go_must (rintro e wf2 ⟨rfl, hb1⟩; replace HPR := Lib.hid (HPR.out.later hb1); replace HS := Lib.hid (HS.out.later hb1); replace HB3 := Lib.hid (bstep HB3.out hb1 (Nat.le_refl _)); have HBY := Lib.hid (bytes_any _ 256 c3 _ 256 c1 A3 A1 row row wf2 HS.out HPR.out.2.2); rw [beq_self_eq_true] at HBY; clear hb1))
                | (go_at_call 16; (with_reducible refine HBY.out.mono ?_); go_must (rintro e wb ⟨rfl, rfl⟩)))
              go_ret
              exact ⟨rfl, HB3.out⟩
        · have HR1 := Lib.hid (readD_any lo d h2 s2 k w3 HD3.out)
          go_upto_region 15 with (go_at_call 15; (with_reducible refine HR1.out.mono ?_); go_must (rintro e w4 ⟨A1, n1, c1, rfl, hn1, hc1, hm1, ho1, hb1⟩; have HP := Lib.hid ho1.rd; replace HD3 := Lib.hid (HD3.out.later hb1); replace HB3 := Lib.hid (bstep HB3.out hb1 (Nat.le_refl _)); clear hc1 hm1 ho1 hb1))
          clear HR1
          have HT := Lib.hid (turnD_bad lo d h2 s2 k bit w4 HD3.out hg)
          have HR2 := Lib.hid (readD_any lo d h2 s2 k w4 HD3.out)
          go_upto_region 16 with (go_at_call 13; (with_reducible refine HT.out.mono ?_); go_must (rintro e w5 ⟨rfl, rfl⟩))
          go_upto_region 17 with (go_at_call 15; (with_reducible refine HR2.out.mono ?_); go_must (rintro e w5 ⟨A2, n2, c2, rfl, hn2, hc2, hm2, ho2, hb1⟩; have HQ := Lib.hid ho2.rd; replace HP := Lib.hid (HP.out.later hb1); replace HB3 := Lib.hid (bstep HB3.out hb1 (Nat.le_refl _)); clear hc2 hm2 ho2 hb1))
          clear HT HR2 HD3 hn1 hn2
          have hw := wrongD_up HL2.out.1.down k
          rw [HL2.out.1.n] at hw
          generalize readV s2 k = V at *
          obtain rfl : V.length = n1 := HP.out.len
          obtain rfl : V.length = n2 := HQ.out.len
          have hng : ¬ (0 ≤ k ∧ k < N ∧ 0 ≤ bit ∧ bit < 2048) := fun h => hg ⟨h.1, by rw [HL2.out.1.n]; exact h.2.1, h.2.2.1, h.2.2.2, HL2.out.2⟩
          clear hg HL2
          by_cases k1 : k < 0
          · rw [if_pos (.inl k1)] at hw
            rw [hw]
            clear hw hng
            have u1 : decide (k ≥ (0 : Int)) = false := decide_eq_false (by omega)
            go_wp2_with (first
              | (go_at_call 8; (with_reducible refine (first14_any _).mono ?_); go_must (rintro e wf2 ⟨rfl, hb1⟩; replace HP := Lib.hid (HP.out.later hb1); replace HQ := Lib.hid (HQ.out.later hb1); replace HB3 := Lib.hid (bstep HB3.out hb1 (Nat.le_refl _)); have HBY := Lib.hid (bytes_any _ V.length c2 _ V.length c1 A2 A1 V V wf2 HQ.out HP.out); rw [beq_self_eq_true] at HBY; clear hb1))
              | (go_at_call 16; (with_reducible refine HBY.out.mono ?_); go_must (rintro e wb ⟨rfl, rfl⟩)))
            go_ret
            exact ⟨rfl, HB3.out⟩
          have u1 : decide (k ≥ (0 : Int)) = true := decide_eq_true (by omega)
          by_cases k2 : (N : Int) ≤ k
          · rw [if_pos (.inr k2)] at hw
            rw [hw]
            clear hw hng
            have u2 : decide (k < (N : Int)) = false := decide_eq_false (by omega)
            go_wp2_with (first
              | (go_at_call 8; (with_reducible refine (first14_any _).mono ?_); go_must (rintro e wf2 ⟨rfl, hb1⟩; replace HP := Lib.hid (HP.out.later hb1); replace HQ := Lib.hid (HQ.out.later hb1); replace HB3 := Lib.hid (bstep HB3.out hb1 (Nat.le_refl _)); have HBY := Lib.hid (bytes_any _ V.length c2 _ V.length c1 A2 A1 V V wf2 HQ.out HP.out); rw [beq_self_eq_true] at HBY; clear hb1))
              | (go_at_call 16; (with_reducible refine HBY.out.mono ?_); go_must (rintro e wb ⟨rfl, rfl⟩)))
            go_ret
            exact ⟨rfl, HB3.out⟩
          have u2 : decide (k < (N : Int)) = true := decide_eq_true (by omega)
          rw [if_neg (by omega)] at hw
          rw [hw]
          clear hw
          by_cases k3 : bit < 0
          · have u3 : decide (bit ≥ (0 : Int)) = false := decide_eq_false (by omega)
            clear hng
            go_wp2_with (first
              | (go_at_call 8; (with_reducible refine (first14_any _).mono ?_); go_must (rintro e wf2 ⟨rfl, hb1⟩; replace HP := Lib.hid (HP.out.later hb1); replace HQ := Lib.hid (HQ.out.later hb1); replace HB3 := Lib.hid (bstep HB3.out hb1 (Nat.le_refl _)); have HBY := Lib.hid (bytes_any _ V.length c2 _ V.length c1 A2 A1 V V wf2 HQ.out HP.out); rw [beq_self_eq_true] at HBY; clear hb1))
              | (go_at_call 16; (with_reducible refine HBY.out.mono ?_); go_must (rintro e wb ⟨rfl, rfl⟩)))
            go_ret
            exact ⟨rfl, HB3.out⟩
          have u3 : decide (bit ≥ (0 : Int)) = true := decide_eq_true (by omega)
          have u4 : decide (bit < (2048 : Int)) = false := decide_eq_false (by omega)
          clear hng
          go_wp2_with (first
            | (go_at_call 8; (with_reducible refine (first14_any _).mono ?_); go_must (rintro e wf2 ⟨rfl, hb1⟩; replace HP := Lib.hid (HP.out.later hb1); replace HQ := Lib.hid (HQ.out.later hb1); replace HB3 := Lib.hid (bstep HB3.out hb1 (Nat.le_refl _)); have HBY := Lib.hid (bytes_any _ V.length c2 _ V.length c1 A2 A1 V V wf2 HQ.out HP.out); rw [beq_self_eq_true] at HBY; clear hb1))
            | (go_at_call 16; (with_reducible refine HBY.out.mono ?_); go_must (rintro e wb ⟨rfl, rfl⟩)))
          go_ret
          exact ⟨rfl, HB3.out⟩
theorem diskTurns_walk (n : Int) (m c : Nat) (A : Option Addr) (l : List (Int × UInt8)) (k bit : Int) (w : World) (hr : RdO w w.heap.size A m l) :
    Calls Try.prog 3 #[.int .i64 n, .slice A m c, .int .i64 k, .int .i64 bit] w fun e w' => e = .returned (.bool true) ∧ Below w.heap.size w w' := by
  by_cases h : n < 4 ∨ 40 < n ∨ 100 < m
  · exact diskTurns_early n A m c k bit w h
  · obtain ⟨N, rfl⟩ := Int.eq_ofNat_of_zero_le (show 0 ≤ n by omega)
    exact diskTurns_main N A m c l k bit w hr (by omega) (by omega) (by omega)
end Go.Proofs.Ytommepmeohaijaa
