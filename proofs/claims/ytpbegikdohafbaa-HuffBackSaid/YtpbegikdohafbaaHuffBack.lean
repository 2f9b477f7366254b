/- HuffBack: places that are written by their codes are read. -/
import Derived.Test.YtpbegikdohafbaaHuffBackP
namespace Go.Proofs.Ytpbegikdohafbaa
set_option linter.all false
open Go.RowKit

set_option maxRecDepth 100000 in
set_option maxHeartbeats 6400000 in
theorem huffBack_walk (n c : Nat) (A : Option Addr) (ls : List Int) (n2 c2 : Nat) (A2 : Option Addr) (ps : List Int) (w : World) (h : RdI w w.heap.size A n ls) (hnc : n ≤ c) (hcm : c ≤ maxLen) (h' : RdI w w.heap.size A2 n2 ps) (hnc2 : n2 ≤ c2) (hcm2 : c2 ≤ maxLen) :
    Calls Try.prog 10 #[.slice A n c, .slice A2 n2 c2] w fun e w' => e = .returned (.bool true) ∧ Below w.heap.size w w' := by
  unfold maxLen at hcm hcm2
  have hB := Below.refl w.heap.size w
  by_cases hbig : 300 < n ∨ 500 < n2
  · clear h h'
    by_cases h3 : 300 < n
    · go_enter Try.func10, Try.ntmps10
      go_wp2_with (go_at_call 11; (with_reducible refine (first5_any _).mono ?_); go_must (rintro e wf ⟨rfl, hb1⟩; replace hB := bstep hB hb1 (Nat.le_refl _); clear hb1))
      go_ret
      exact ⟨rfl, hB⟩
    · have h5 : 500 < n2 := by omega
      go_enter Try.func10, Try.ntmps10
      go_wp2_with (go_at_call 11; (with_reducible refine (first5_any _).mono ?_); go_must (rintro e wf ⟨rfl, hb1⟩; replace hB := bstep hB hb1 (Nat.le_refl _); clear hb1))
      go_ret
      exact ⟨rfl, hB⟩
  · have hn3 : n ≤ 300 := by omega
    have hm5 : n2 ≤ 500 := by omega
    clear hbig
    have HCD := Lib.hid (fun (w' : World) (hb : Below w.heap.size w w') => codes_any w.heap.size n c A ls w' (h.blw hb) hb.size (by omega))
    have HNW := Lib.hid (fun (w' : World) (hb : Below w.heap.size w w') => new_any w.heap.size n c A ls w' (h.blw hb) hb.size (by omega))
    have HPS := Lib.hid h'
    have HLN := Lib.hid h.len
    unfold NewPost at HNW
    clear h'
    by_cases hcd : cdE ls = 0
    · have hL : cdL ls = codesL ls := by unfold cdL; rw [if_pos hcd]
      have hlen : (codesL ls).length = n := by rw [← h.len]; simp [codesL]
      have HZ := Lib.hid (cdE_zero hcd)
      rw [hcd, hL, hlen] at HCD
      by_cases hE : nwE ls = 0
      · rw [hE] at HNW
        clear h hcd hE hL hlen
        go_enter Try.func10, Try.ntmps10
        go_wp2_with (first
          | (go_at_call 11; (with_reducible refine (first5_any _).mono ?_); go_must (rintro e wf ⟨rfl, hb1⟩; replace hB := bstep hB hb1 (Nat.le_refl _); clear hb1))
          | (go_at_call 18; (with_reducible refine (HCD.out _ hB).mono ?_); go_must (rintro e w1 ⟨A1, n1, c1, rfl, rfl, ho1, hb1⟩; have HRC1 := Lib.hid (RdC.here ho1.rd); replace hB := bstep hB hb1 (Nat.le_refl _); clear ho1 hb1))
          | (go_at_call 20; (with_reducible refine (HNW.out _ hB).mono ?_); go_must (rintro e w2 ⟨v2, rfl, hd2, -, hb2⟩; obtain ⟨gd, rfl, hd⟩ := hd2 (by first | trivial | rfl); have HD2 := Lib.hid hd; have HRC2 := Lib.hid (RdC.later HRC1.out hb2); replace hB := bstep hB hb2 (Nat.le_refl _); clear hd2 hd hb2))
          | (go_at_call 26; (with_reducible refine (newWriter_any _).mono ?_); go_must (rintro e w3 ⟨rfl, hw3, hb3, hz3⟩; have HW3 := Lib.hid hw3; have HD3 := Lib.hid (HD2.out.blw hb3); have HRC3 := Lib.hid (RdC.blw HRC2.out hb3); have zw := hB.size; replace hB := bstep hB hb3 (Nat.le_refl _); clear hw3 hb3)))
        clear HCD HNW HRC1 HRC2 HD2
        have HBW := Lib.hid hB
        clear hB
        generalize w2.heap.size = gw at *
        go_loopw [11, 10] (fun vi vd wr => ∃ (i : Nat) (D : List Nat) (pv : Value) (bs : List UInt8) (Ad : Option Addr) (cd : Nat), i ≤ n2 ∧ vi = .int .i64 i ∧ vd = .slice Ad D.length cd ∧ D.length ≤ i ∧ Hid (HasC ls D) ∧ Hid (Wr wr gw pv bs (codesB ls D)) ∧ Hid (ownI wr (gw + 1) (.slice Ad D.length cd) (intsN D)) ∧ Hid (Dis pv (.slice Ad D.length cd)) ∧ Hid (Below gw w3 wr)) (fun vi _ _ => n2 - (intOf vi).toNat)
        case atStart => exact ⟨0, [], .slice none 0 0, [], none, 0, Nat.zero_le _, rfl, rfl, Nat.le_refl _, (show HasC ls [] from fun p hp => by cases hp), HW3, ownI.nil_ _ _, (show Dis _ _ from fun k hk => by cases hk), Below.refl _ _⟩
        case round =>
          clear HW3
          obtain ⟨i, D, pv, bs, Ad, cd, hi, rfl, rfl, hDi, HH, HW, HO, HDI, HB⟩ := hrel
          by_cases hlt : i < n2
          · obtain ⟨b, o, x, rfl, hb, HX, e1⟩ := (HPS.out.blw (HBW.out.trans (HB.out.mono zw))).one hlt
            by_cases hx0 : x < 0
            · have d0 : decide (x < 0) = true := decide_eq_true hx0
              go_wp2_with fail
              go_roundw
              case rel => exact ⟨i + 1, D, pv, bs, Ad, cd, by omega, by go_num, rfl, by omega, HH, HW, HO, HDI, HB⟩
              case measure => simp [intOf]; omega
            · by_cases hxn : (n1 : Int) ≤ x
              · have d0 : decide (x < 0) = false := decide_eq_false hx0
                have d1 : decide (x ≥ (n1 : Int)) = true := decide_eq_true hxn
                go_wp2_with fail
                go_roundw
                case rel => exact ⟨i + 1, D, pv, bs, Ad, cd, by omega, by go_num, rfl, by omega, HH, HW, HO, HDI, HB⟩
                case measure => simp [intOf]; omega
              · obtain ⟨p, rfl⟩ := Int.eq_ofNat_of_zero_le (show 0 ≤ x by omega)
                have hpn : p < n1 := by omega
                have d0 : decide ((p : Int) < 0) = false := decide_eq_false hx0
                have d1 : decide ((p : Int) ≥ (n1 : Int)) = false := decide_eq_false hxn
                obtain ⟨b2, o2, y, rfl, hb2, HY, e2, e3⟩ := (HRC3.out.blw HB.out).one hpn
                have hy := codesL_at HY.out
                obtain ⟨x, hx⟩ : ∃ x, ls[p]? = some x := ⟨_, List.getElem?_eq_getElem (by rw [HLN.out]; exact hpn)⟩
                obtain ⟨x0, x1⟩ := good_at HZ.out.1 hx
                obtain ⟨t, rfl⟩ := Int.eq_ofNat_of_zero_le x0
                by_cases h0 : t = 0
                · subst h0
                  rw [codeAt_zero hx (by omega)] at hy
                  subst hy
                  clear HX HY hx
                  go_wp2_with fail
                  go_roundw
                  case rel => exact ⟨i + 1, D, pv, bs, Ad, cd, by omega, by go_num, rfl, by omega, HH, HW, HO, HDI, HB⟩
                  case measure => simp [intOf]; omega
                · have h0' : 0 < t := by omega
                  have hcode := codeB_at hx h0'
                  have hlt2 : fst ls t + cnt (ls.take p) t < 2 ^ t := Nat.lt_of_lt_of_le (hit_bound h0' ⟨hx, rfl⟩).2 (fst_pow ls HZ.out.1 HZ.out.2.1 t (by omega))
                  rw [codeAt_pos hx h0'] at hy
                  have HH2 := Lib.hid (HasC.snoc HH.out hx h0')
                  have hle := codesB_le HZ.out.1 D HH.out
                  generalize fst ls t + cnt (ls.take p) t = V at *
                  subst hy
                  have HCO := Lib.hid (fun (wx : World) (hwx : Wr wx gw pv bs (codesB ls D)) => code_any gw V t pv bs (codesB ls D) wx hwx (by omega) (by omega) hlt2)
                  rw [← hcode, ← codesB_snoc] at HCO
                  have dt0 : ((t : Int) == 0) = false := beq_eq_false_iff_ne.2 (by omega)
                  clear HX HY hx hcode hlt2 hle
                  obtain ⟨wo, rfl⟩ : ∃ wo : World, wo = wr := ⟨_, rfl⟩
                  go_upto_region 16 with (fail)
                  go_cut [114] (fun q wc => q = .bool false ∧ ∃ pv' bs', Hid (Wr wc gw pv' bs' (codesB ls (D ++ [p]))) ∧ Hid (WrFr wo wc gw pv pv'))
                  case first =>
                    go_region_law (first | (go_simp; go_at_call 27; (first | (with_reducible refine (HCO.out _ HW.out).mono ?_) | (with_reducible refine (HCO.out _ HW.out.drew).mono ?_)); go_must (rintro e w5 ⟨rfl, pv5, bs5, hW5, hF5⟩; have HW5 := Lib.hid hW5; have HF5 := Lib.hid hF5; clear hW5 hF5)))
                    all_goals
                      go_simp
                      go_wp2_with fail
                      go_meet
                      case rel => exact ⟨rfl, pv5, bs5, (by first | exact HW5 | exact HW5.out.drew), (by first | exact HF5.out.undrew | exact HF5.out.drew | exact HF5.out)⟩
                  case rest =>
                    obtain ⟨rfl, pv5, bs5, HW5, HF5⟩ := hcut
                    have hso := HW.out.1.lt
                    have HO5 := Lib.hid (ownI.wr HO.out HF5.out HDI.out)
                    have HDI5 := Lib.hid (Dis.wr HO.out HF5.out HDI.out)
                    have HB5 := Lib.hid (HB.out.trans (HF5.out.below (by omega) (Nat.le_refl gw) (fun k hk => by have := (World.ownsRow.lt HW.out.2.1 k hk).1; omega)))
                    have hsc := HW5.out.1.lt
                    have HLE : Hid ((D ++ [p]).length = D.length + 1) := (show _ = _ by simp)
                    have HIE : Hid (intsN D ++ [(p : Int)] = intsN (D ++ [p])) := (show _ = _ by simp [intsN])
                    have HIL := Lib.hid (intsN_len (D ++ [p]))
                    have hdl : (intsN D).length ≤ 500 := by rw [intsN_len]; omega
                    clear HW HO HDI HF5 HB
                    go_wp2_with (at_builtin; go_must (refine wpList_appendI rfl (.tmp 115) (.tmp 117) rfl (gw + 1) (.slice Ad D.length cd) (intsN D) rfl (ownI.alloc HO5.out _) (wc.heap.size + 1) 1 1 (some ⟨wc.heap.size, 0, none⟩) [(p : Int)] rfl (rd_oneI wc (p : Int)) (by omega) (by simp; omega) ?_; intro v1 w7 hown hgb hbl hat; rw [HIE.out] at hown; obtain ⟨A3, c3, rfl, hr3, -, -⟩ := hown.form; rw [HIL.out, HLE.out] at hown hat ⊢; have HO7 := Lib.hid hown; have HD7 := Lib.hid (Dis.gro _ HW5.out HDI5.out hat); have HW7 := Lib.hid (Wr.gro _ HW5.out HO5.out HDI5.out hgb); have HB7 := Lib.hid ((HB5.out.alloc (by omega) (.cells #[.int .i64 (p : Int)] 3)).trans (hbl.mono (by omega))); clear hown hgb hbl hat hr3))
                    go_roundw
                    case rel => exact ⟨i + 1, D ++ [p], pv5, bs5, A3, c3, by omega, by go_num, by rw [HLE.out], by rw [HLE.out]; omega, HH2, HW7, by rw [HLE.out]; exact HO7, by rw [HLE.out]; exact HD7, HB7⟩
                    case measure => simp [intOf]; omega
          · obtain rfl : i = n2 := by omega
            have hle := codesB_le HZ.out.1 D HH.out
            have hWB := HW.out.2.2
            have hbl : bs.length ≤ 1000 := by have := hWB.1; omega
            have hso := HW.out.1.lt
            have HBY := Lib.hid (bytes_any gw pv bs (codesB ls D) wr HW.out (by omega))
            have HRD := Lib.hid (show RdI wr wr.heap.size Ad D.length (intsN D) from RdI.here HO.out.rd)
            have HNR := Lib.hid (fun (w' : World) (A' : Option Addr) (c' : Nat) (hr : RdB w' w'.heap.size A' bs.length bs) => newReader_any w'.heap.size bs.length c' A' bs w' hr (by omega))
            have HWB := Lib.hid hWB
            have hdl : D.length ≤ 500 := by omega
            clear hle hWB HW HO HDI
            obtain ⟨wo, rfl⟩ : ∃ wo : World, wo = wr := ⟨_, rfl⟩
            go_wp2_with (first
              | (go_at_call 28; (with_reducible refine HBY.out.mono ?_); go_must (rintro e w6 ⟨v6, rfl, ho6, hb6⟩; obtain ⟨A6, c6, rfl, hr6, -, -⟩ := ho6.form; have HR6 := Lib.hid hr6; have HB6 := Lib.hid hb6; have z6 := hb6.size; clear ho6 hr6 hb6))
              | (go_at_call 22; (with_reducible refine (HNR.out _ _ _ HR6.out).mono ?_); go_must (rintro e w7 ⟨gr, A7, c7, rfl, hgr, hgr2, hA7, hR7, hb7⟩; have HA7 := Lib.hid hA7; have HR7 := Lib.hid hR7; have HB7 := Lib.hid hb7; clear hA7 hR7 hb7)))
            have HB67 := Lib.hid (HB6.out.trans (HB7.out.mono z6))
            have HD7 := Lib.hid (((HD3.out.blw HB.out).blw (HB67.out.mono (show gw ≤ wo.heap.size by omega))).more (show gw ≤ gr by omega))
            have HRD7 := Lib.hid ((HRD.out.blw HB67.out).more (show wo.heap.size ≤ gr by omega))
            have HBW7 := Lib.hid ((HBW.out.trans (HB.out.mono zw)).trans (HB67.out.mono (by omega)))
            clear HB6 HB7 HB67 HB HBY HNR HR6 HRD
            generalize hm : D.length = m at *
            have HM := Lib.hid hm
            generalize hnb : bs.length = nb at *
            have HNB := Lib.hid hnb
            clear hm hnb
            go_loopw [14] (fun vi wr => ∃ k : Nat, k ≤ m ∧ vi = .int .i64 k ∧ Hid (Arr wr gr (rdr A7 nb c7 (codesB ls (D.take k)).length)) ∧ Hid (Below gr w7 wr)) (fun vi _ => m - (intOf vi).toNat)
            case atStart => exact ⟨0, Nat.zero_le _, rfl, (show Arr _ _ _ from HA7.out), Below.refl _ _⟩
            case round =>
              clear HA7
              obtain ⟨k, hk, rfl, HA, HB⟩ := hrel
              by_cases hlt3 : k < m
              · have hkD : k < D.length := by rw [HM.out]; exact hlt3
                have hbound := codesB_bound HWB.out k
                rw [HNB.out] at hbound
                have hNA := next_any gr nb c7 gd gr _ A7 ls bs wr (HD7.out.blw HB.out) HA.out (RdB.blw HR7.out HB.out) (Nat.le_refl _) hbound (by omega) HZ.out.1 HZ.out.2.1 HZ.out.2.2
                unfold NextPost at hNA
                rw [nx_back HZ.out.1 HZ.out.2.1 HH.out HWB.out hkD] at hNA
                have HNA := Lib.hid hNA
                obtain ⟨b, o, x, rfl, hb, HX, e1⟩ := (HRD7.out.blw HB.out).one hlt3
                have hxv : x = (D[k] : Int) := by
                  have h1 := HX.out
                  unfold intsN at h1
                  rw [List.getElem?_map, List.getElem?_eq_getElem hkD] at h1
                  exact (Option.some.inj h1).symm
                have zr := HA.out.lt
                have HRW := Lib.hid (HRD7.out.blw HB.out)
                generalize D[k] = p at *
                subst hxv
                have dpp : ((p : Int) != (p : Int)) = false := by simp
                clear hNA hbound HX
                go_wp2_with (go_at_call 23; (with_reducible refine HNA.out.mono ?_); go_must (rintro e w8 ⟨rfl, hA8, hG8⟩; have HA8 := Lib.hid hA8; have hB8 := below_gb hG8 (by omega) (Nat.le_refl gr); have HB8 := Lib.hid (HB.out.trans hB8); have e8 := bsame hB8 hb e1; clear hA8 hG8 hB8))
                go_roundw
                case rel => exact ⟨k + 1, by omega, by go_num, HA8, HB8⟩
                case measure => simp [intOf]; omega
              · obtain rfl : k = m := by omega
                have HBE := Lib.hid (HBW7.out.trans (HB.out.mono (by omega)))
                go_wp2_with (go_at_call 11; (with_reducible refine (first5_any _).mono ?_); go_must (rintro e wf ⟨rfl, hb1⟩; have hBC := bstep HBE.out hb1 (Nat.le_refl _)))
                go_ret
                exact ⟨rfl, hBC⟩
      · have hE4 : nwE ls = 4 := by
          unfold nwE at hE ⊢
          rw [if_pos hcd] at hE ⊢
          by_cases h4 : (allP ls 15).length = 0
          · rw [if_pos h4]
          · rw [if_neg h4] at hE; exact absurd rfl hE
        rw [hE4] at HNW
        clear h hcd hE hL hlen hE4
        go_enter Try.func10, Try.ntmps10
        go_wp2_with (first
          | (go_at_call 11; (with_reducible refine (first5_any _).mono ?_); go_must (rintro e wf ⟨rfl, hb1⟩; replace hB := bstep hB hb1 (Nat.le_refl _); clear hb1))
          | (go_at_call 18; (with_reducible refine (HCD.out _ hB).mono ?_); go_must (rintro e w1 ⟨A1, n1, c1, rfl, rfl, ho1, hb1⟩; replace hB := bstep hB hb1 (Nat.le_refl _); clear ho1 hb1))
          | (go_at_call 20; (with_reducible refine (HNW.out _ hB).mono ?_); go_must (rintro e w2 ⟨v2, rfl, -, -, hb2⟩; replace hB := bstep hB hb2 (Nat.le_refl _); clear hb2))
          | (go_at_call 26; (with_reducible refine (newWriter_any _).mono ?_); go_must (rintro e w3 ⟨rfl, -, hb3, -⟩; replace hB := bstep hB hb3 (Nat.le_refl _); clear hb3)))
        go_ret
        exact ⟨rfl, hB⟩
    · have hEE : nwE ls = cdE ls := by unfold nwE; rw [if_neg hcd]
      rw [hEE] at HNW
      generalize cdE ls = E at *
      have de : (E != 0) = true := by simp [bne]; exact hcd
      clear h hEE
      go_enter Try.func10, Try.ntmps10
      go_wp2_with (first
        | (go_at_call 11; (with_reducible refine (first5_any _).mono ?_); go_must (rintro e wf ⟨rfl, hb1⟩; replace hB := bstep hB hb1 (Nat.le_refl _); clear hb1))
        | (go_at_call 18; (with_reducible refine (HCD.out _ hB).mono ?_); go_must (rintro e w1 ⟨A1, n1, c1, rfl, -, ho1, hb1⟩; replace hB := bstep hB hb1 (Nat.le_refl _); clear ho1 hb1))
        | (go_at_call 20; (with_reducible refine (HNW.out _ hB).mono ?_); go_must (rintro e w2 ⟨v2, rfl, -, hv2, hb2⟩; obtain rfl := hv2 hcd; replace hB := bstep hB hb2 (Nat.le_refl _); clear hb2))
        | (go_at_call 26; (with_reducible refine (newWriter_any _).mono ?_); go_must (rintro e w3 ⟨rfl, -, hb3, -⟩; replace hB := bstep hB hb3 (Nat.le_refl _); clear hb3)))
      go_ret
      exact ⟨rfl, hB⟩
end Go.Proofs.Ytpbegikdohafbaa
