/- HuffFull: the lengths of weights fill their code just. -/
import Derived.Test.YtpbegikdohafbaaFirst5
import Derived.Test.YtpbegikdohafbaaHuffT
namespace Go.Proofs.Ytpbegikdohafbaa
set_option linter.all false
open Go.RowKit

theorem lens_kr {ws : List Int} {m : Nat} (hm : 1 ≤ m) (hm2 : m ≤ 15) (hq : (leaves ws).length ≤ 2 ^ m) (hl : ws.length ≤ 300) : krE (lensOf ws m) = 0 ∧ krV (lensOf ws m) = (if posn ws = 0 then 0 else if posn ws = 1 then 16384 else 32768) := by
  have hb := lens_bad hm hm2 hq
  have hk := lens_kraft hm hm2 hq
  rw [leaves_length] at hk
  have hn : ¬ (300 < (lensOf ws m).length ∨ badL (lensOf ws m) = true) := by
    rw [lensOf_len, hb]
    rintro (h | h)
    · omega
    · cases h
  unfold krE krV
  rw [if_neg hn, if_neg hn, hk]
  refine ⟨rfl, ?_⟩
  split
  · rfl
  · split <;> rfl
theorem lens_iff {ws : List Int} {m : Nat} (hm : 1 ≤ m) (hq : (leaves ws).length ≤ 2 ^ m) {i : Nat} {x : Int} (hx : ws[i]? = some x) (h0 : 0 ≤ x) : (x = 0 ∧ lnat ws m i = 0) ∨ (0 < x ∧ 0 < lnat ws m i) := by
  have hi := (List.getElem?_eq_some_iff.1 hx).1
  by_cases h : 0 < x
  · exact .inr ⟨h, lnat_pos hm hq hi (by rw [wOf_get hx]; exact h)⟩
  · exact .inl ⟨by omega, lnat_zero (by rw [wOf_get hx]; exact h)⟩

set_option maxRecDepth 100000 in
set_option maxHeartbeats 6400000 in
theorem huffFull_walk (n c : Nat) (A : Option Addr) (ws : List Int) (most : Int) (w : World) (h : RdI w w.heap.size A n ws) (hnc : n ≤ c) (hcm : c ≤ maxLen) :
    Calls Try.prog 5 #[.slice A n c, .int .i64 most] w fun e w' => e = .returned (.bool true) ∧ Below w.heap.size w w' := by
  unfold maxLen at hcm
  have hB := Below.refl w.heap.size w
  by_cases hbig : 300 < n
  · clear h
    go_enter Try.func5, Try.ntmps5
    go_wp2_with (go_at_call 11; (with_reducible refine (first5_any _).mono ?_); go_must (rintro e wf ⟨rfl, hb1⟩; replace hB := bstep hB hb1 (Nat.le_refl _); clear hb1))
    go_ret
    exact ⟨rfl, hB⟩
  · have HC := Lib.hid (fun (w' : World) (hb : Below w.heap.size w w') => lengths_any w.heap.size n c A ws most w' (h.blw hb) hb.size (by omega))
    have H := Lib.hid h
    have HL := Lib.hid h.len
    clear h
    cases hw : wrongH ws most with
    | true =>
      have hE : lenE ws most = 1 ∧ lenR ws most = [] := by unfold lenE lenR; rw [hw]; exact ⟨rfl, rfl⟩
      have HE := Lib.hid hE
      clear hE hw
      go_enter Try.func5, Try.ntmps5
      go_wp2_with (first
        | (go_at_call 11; (with_reducible refine (first5_any _).mono ?_); go_must (rintro e wf ⟨rfl, hb1⟩; replace hB := bstep hB hb1 (Nat.le_refl _); clear hb1))
        | (go_at_call 13; (with_reducible refine (HC.out _ hB).mono ?_); go_must (rintro e w1 ⟨A1, n1, c1, rfl, hn1, ho1, hb1⟩; rw [HE.out.1]; rw [HE.out.2] at hn1; obtain rfl : n1 = 0 := hn1; replace hB := bstep hB hb1 (Nat.le_refl _); clear ho1 hb1)))
      go_ret
      exact ⟨rfl, hB⟩
    | false =>
      obtain ⟨q1, q2, q3, q4, q5, q6⟩ := wrongH_false hw
      obtain ⟨m, rfl⟩ := Int.eq_ofNat_of_zero_le (show 0 ≤ most by omega)
      have hE : lenE ws (m : Int) = 0 ∧ lenR ws (m : Int) = lensOf ws m := by unfold lenE lenR; rw [hw]; exact ⟨rfl, rfl⟩
      have HE := Lib.hid hE
      have hm1 : 1 ≤ m := by omega
      have hm2 : m ≤ 15 := by omega
      have HQ := Lib.hid (show (leaves ws).length ≤ 2 ^ m by simpa using q6)
      have HP := Lib.hid q5
      clear hE hw q3 q4 q5 q6
      go_enter Try.func5, Try.ntmps5
      go_wp2_with (first
        | (go_at_call 11; (with_reducible refine (first5_any _).mono ?_); go_must (rintro e wf ⟨rfl, hb1⟩; replace hB := bstep hB hb1 (Nat.le_refl _); clear hb1))
        | (go_at_call 13; (with_reducible refine (HC.out _ hB).mono ?_); go_must (rintro e w1 ⟨A1, n1, c1, rfl, hn1, ho1, hb1⟩; rw [HE.out.1]; rw [HE.out.2] at hn1 ho1; obtain rfl : n1 = n := hn1.trans ((lensOf_len ws m).trans HL.out); clear hn1; have HR := Lib.hid ho1.rd; replace hB := bstep hB hb1 (Nat.le_refl _); clear ho1 hb1)))
      go_loopw [8, 7] (fun vi vn wr => ∃ i : Nat, vi = .int .i64 i ∧ i ≤ n1 ∧ vn = .int .i64 (posn (ws.take i) : Nat) ∧ Hid (Below w1.heap.size w1 wr)) (fun vi _ _ => n1 - (intOf vi).toNat)
      case atStart => exact ⟨0, rfl, Nat.zero_le _, rfl, Below.refl _ _⟩
      case round =>
        obtain ⟨i, rfl, hi, rfl, HB⟩ := hrel
        by_cases hlt : i < n1
        · obtain ⟨b, o, x, rfl, hb, HX, e1⟩ := (((H.out.blw hB).more hB.size).blw HB.out).one hlt
          obtain ⟨b2, o2, y, rfl, hb2, HY, e2⟩ := (HR.out.blw HB.out).one hlt
          have hx0 := HP.out x (List.mem_of_getElem? HX.out)
          have hil : i < ws.length := by rw [HL.out]; exact hlt
          have hy : y = (lnat ws m i : Int) := by
            have h1 := HY.out
            rw [lensOf_get ws m hil] at h1
            injection h1 with h1
            exact h1.symm
          subst hy
          have hcl := lnat_le hm1 HQ.out hil
          have HPO := Lib.hid (posn_snoc HX.out)
          have hpo : posn (ws.take i) ≤ 300 := Nat.le_trans (posn_le _) (by simp; omega)
          have HB2 := Lib.hid (fun q => bdrewN HB.out q)
          have HLI : Hid (lnat ws m i = lnat ws m i) := (show _ = _ from rfl)
          rcases lens_iff hm1 HQ.out HX.out hx0.1 with ⟨rfl, hz⟩ | ⟨hxp, hzp⟩
          · rw [hz] at e2 HY
            have HPO2 : Hid (posn (ws.take (i + 1)) = posn (ws.take i)) := (show _ = _ by rw [HPO.out, if_neg (by omega)]; rfl)
            generalize hpg : posn (ws.take i) = N at *
            clear hpg HPO hz hcl
            go_wp2_with fail
            go_quiet (fail)
            go_wp2_with fail
            clear e1 e2 HB
            go_loopw [9] (fun vk wr => ∃ k : Nat, vk = .int .i64 k ∧ k ≤ i ∧ Hid (Below w1.heap.size w1 wr)) (fun vk _ => i - (intOf vk).toNat)
            case atStart => exact ⟨0, rfl, Nat.zero_le _, HB2.out nq⟩
            case round =>
              clear HB2
              obtain ⟨k, rfl, hk, HB⟩ := hrel
              by_cases hgo : k < i ∧ n1 ≤ 60
              · obtain ⟨hki, h60⟩ := hgo
                obtain ⟨b9, o9, y9, eA, hb9, HXi, f1⟩ := (((H.out.blw hB).more hB.size).blw HB.out).one hlt
                injection eA with eA
                injection eA with eb eo
                subst eb eo
                obtain rfl : (0 : Int) = y9 := (Option.some.inj (HXi.out.symm.trans HX.out)).symm
                obtain ⟨b9, o9, y9, eA, hb9, HYi, f2⟩ := (HR.out.blw HB.out).one hlt
                injection eA with eA
                injection eA with eb eo
                subst eb eo
                obtain rfl : y9 = (lnat ws m i : Int) := Option.some.inj (HYi.out.symm.trans (lensOf_get ws m hil))
                obtain ⟨b9, o9, xk, eA, hb9, HXk, g1⟩ := (((H.out.blw hB).more hB.size).blw HB.out).one (show k < n1 by omega)
                injection eA with eA
                injection eA with eb eo
                subst eb eo
                have hkl : k < ws.length := by rw [HL.out]; omega
                obtain ⟨b9, o9, y9, eA, hb9, HYk, g2⟩ := (HR.out.blw HB.out).one (show k < n1 by omega)
                injection eA with eA
                injection eA with eb eo
                subst eb eo
                obtain rfl : y9 = (lnat ws m k : Int) := Option.some.inj (HYk.out.symm.trans (lensOf_get ws m hkl))
                have hxk := HP.out xk (List.mem_of_getElem? HXk.out)
                have hm12 : xk < (0 : Int) → 0 < xk → lnat ws m i ≤ lnat ws m k := fun h1 h2 => lnat_mono hm1 HQ.out hil hkl (by rw [wOf_get HXk.out, wOf_get HX.out]; exact h1) (by rw [wOf_get HXk.out]; exact h2)
                have hm21 : (0 : Int) < xk → 0 < (0 : Int) → lnat ws m k ≤ lnat ws m i := fun h1 h2 => lnat_mono hm1 HQ.out hkl hil (by rw [wOf_get HXk.out, wOf_get HX.out]; exact h1) (by rw [wOf_get HX.out]; exact h2)
                have HB3 := Lib.hid (fun q => bdrewN HB.out q)
                generalize lnat ws m i = li at *
                generalize lnat ws m k = lk at *
                have d60 : decide ((n1 : Int) ≤ 60) = true := decide_eq_true (by omega)
                clear HB HXi HYi HXk HYk
                by_cases hxp : 0 < xk
                · have t1 : decide ((0 : Int) > (xk : Int)) = false := decide_eq_false (by omega)
                  have t2 : decide ((xk : Int) > (0 : Int)) = true := decide_eq_true (by omega)
                  clear hm12 hm21
                  go_wp2_with fail
                  go_quiet (fail)
                  go_wp2_with fail
                  go_roundw
                  case rel => exact ⟨k + 1, by go_num, by omega, HB3.out _⟩
                  case measure => simp [intOf]; omega
                · obtain rfl : xk = 0 := by omega
                  clear hm12 hm21
                  go_wp2_with fail
                  go_quiet (fail)
                  go_wp2_with fail
                  go_roundw
                  case rel => exact ⟨k + 1, by go_num, by omega, HB3.out _⟩
                  case measure => simp [intOf]; omega
              · by_cases hki : k < i
                · have d60 : decide ((n1 : Int) ≤ 60) = false := decide_eq_false (by omega)
                  go_wp2_with fail
                  go_roundw
                  case rel => exact ⟨i + 1, by go_num, by omega, by rw [HPO2.out] <;> (first | rfl | go_num), HB⟩
                  case measure => simp [intOf]; omega
                · obtain rfl : k = i := by omega
                  go_wp2_with fail
                  go_roundw
                  case rel => exact ⟨k + 1, by go_num, by omega, by rw [HPO2.out] <;> (first | rfl | go_num), HB⟩
                  case measure => simp [intOf]; omega
          · have HPO2 : Hid (posn (ws.take (i + 1)) = posn (ws.take i) + 1) := (show _ = _ by rw [HPO.out, if_pos hxp])
            generalize hpg : posn (ws.take i) = N at *
            clear hpg HPO
            obtain ⟨l, hl⟩ : ∃ l, l = lnat ws m i := ⟨_, rfl⟩
            rw [← hl] at e2 hzp hcl
            have HLQ := Lib.hid hl
            have d1 : ((x : Int) == 0) = false := beq_eq_false_iff_ne.2 (by omega)
            have d2 : ((l : Int) == 0) = false := beq_eq_false_iff_ne.2 (by omega)
            have d3 : decide ((l : Int) > (m : Int)) = false := decide_eq_false (by omega)
            have d3n : decide (m < l) = false := decide_eq_false (by omega)
            clear hl HY
            go_wp2_with fail
            go_quiet (fail)
            go_wp2_with fail
            try rw [d3n]
            clear e1 e2 HB d1 d2 d3 d3n
            go_loopw [9] (fun vk wr => ∃ k : Nat, vk = .int .i64 k ∧ k ≤ i ∧ Hid (Below w1.heap.size w1 wr)) (fun vk _ => i - (intOf vk).toNat)
            case atStart => exact ⟨0, rfl, Nat.zero_le _, HB2.out nq⟩
            case round =>
              clear HB2
              obtain ⟨k, rfl, hk, HB⟩ := hrel
              by_cases hgo : k < i ∧ n1 ≤ 60
              · obtain ⟨hki, h60⟩ := hgo
                obtain ⟨b9, o9, y9, eA, hb9, HXi, f1⟩ := (((H.out.blw hB).more hB.size).blw HB.out).one hlt
                injection eA with eA
                injection eA with eb eo
                subst eb eo
                obtain rfl : x = y9 := (Option.some.inj (HXi.out.symm.trans HX.out)).symm
                obtain ⟨b9, o9, y9, eA, hb9, HYi, f2⟩ := (HR.out.blw HB.out).one hlt
                injection eA with eA
                injection eA with eb eo
                subst eb eo
                obtain rfl : y9 = (lnat ws m i : Int) := Option.some.inj (HYi.out.symm.trans (lensOf_get ws m hil))
                obtain ⟨b9, o9, xk, eA, hb9, HXk, g1⟩ := (((H.out.blw hB).more hB.size).blw HB.out).one (show k < n1 by omega)
                injection eA with eA
                injection eA with eb eo
                subst eb eo
                have hkl : k < ws.length := by rw [HL.out]; omega
                obtain ⟨b9, o9, y9, eA, hb9, HYk, g2⟩ := (HR.out.blw HB.out).one (show k < n1 by omega)
                injection eA with eA
                injection eA with eb eo
                subst eb eo
                obtain rfl : y9 = (lnat ws m k : Int) := Option.some.inj (HYk.out.symm.trans (lensOf_get ws m hkl))
                have hxk := HP.out xk (List.mem_of_getElem? HXk.out)
                have hm12 : xk < x → 0 < xk → lnat ws m i ≤ lnat ws m k := fun h1 h2 => lnat_mono hm1 HQ.out hil hkl (by rw [wOf_get HXk.out, wOf_get HX.out]; exact h1) (by rw [wOf_get HXk.out]; exact h2)
                have hm21 : x < xk → 0 < x → lnat ws m k ≤ lnat ws m i := fun h1 h2 => lnat_mono hm1 HQ.out hkl hil (by rw [wOf_get HXk.out, wOf_get HX.out]; exact h1) (by rw [wOf_get HX.out]; exact h2)
                have HB3 := Lib.hid (fun q => bdrewN HB.out q)
                generalize lnat ws m i = li at *
                generalize lnat ws m k = lk at *
                have d60 : decide ((n1 : Int) ≤ 60) = true := decide_eq_true (by omega)
                clear HB HXi HYi HXk HYk
                by_cases c1 : xk < x
                · by_cases c2 : 0 < xk
                  · have c3 := hm12 c1 c2
                    have t1 : decide ((x : Int) > (xk : Int)) = true := decide_eq_true (by omega)
                    have t2 : decide ((xk : Int) > (0 : Int)) = true := decide_eq_true (by omega)
                    have t3 : decide ((li : Int) > (lk : Int)) = false := decide_eq_false (by omega)
                    have t3n : decide ((lk : Nat) < li) = false := decide_eq_false (by omega)
                    have t4 : decide ((xk : Int) > (x : Int)) = false := decide_eq_false (by omega)
                    clear hm12 hm21
                    go_wp2_with fail
                    go_quiet (fail)
                    go_wp2_with fail
                    go_roundw
                    case rel => exact ⟨k + 1, by go_num, by omega, HB3.out _⟩
                    case measure => simp [intOf]; omega
                  · have t1 : decide ((x : Int) > (xk : Int)) = true := decide_eq_true (by omega)
                    have t2 : decide ((xk : Int) > (0 : Int)) = false := decide_eq_false (by omega)
                    have t4 : decide ((xk : Int) > (x : Int)) = false := decide_eq_false (by omega)
                    clear hm12 hm21
                    go_wp2_with fail
                    go_quiet (fail)
                    go_wp2_with fail
                    go_roundw
                    case rel => exact ⟨k + 1, by go_num, by omega, HB3.out _⟩
                    case measure => simp [intOf]; omega
                · by_cases c2 : x < xk
                  · have c3 := hm21 c2 hxp
                    have t1 : decide ((x : Int) > (xk : Int)) = false := decide_eq_false (by omega)
                    have t4 : decide ((xk : Int) > (x : Int)) = true := decide_eq_true (by omega)
                    have t5 : decide ((x : Int) > (0 : Int)) = true := decide_eq_true (by omega)
                    have t6 : decide ((lk : Int) > (li : Int)) = false := decide_eq_false (by omega)
                    have t6n : decide ((li : Nat) < lk) = false := decide_eq_false (by omega)
                    clear hm12 hm21
                    go_wp2_with fail
                    go_quiet (fail)
                    go_wp2_with fail
                    go_roundw
                    case rel => exact ⟨k + 1, by go_num, by omega, HB3.out _⟩
                    case measure => simp [intOf]; omega
                  · obtain rfl : x = xk := by omega
                    have t1 : decide ((x : Int) > (x : Int)) = false := decide_eq_false (by omega)
                    clear hm12 hm21
                    go_wp2_with fail
                    go_quiet (fail)
                    go_wp2_with fail
                    go_roundw
                    case rel => exact ⟨k + 1, by go_num, by omega, HB3.out _⟩
                    case measure => simp [intOf]; omega
              · by_cases hki : k < i
                · have d60 : decide ((n1 : Int) ≤ 60) = false := decide_eq_false (by omega)
                  go_wp2_with fail
                  go_roundw
                  case rel => exact ⟨i + 1, by go_num, by omega, by rw [HPO2.out] <;> (first | rfl | go_num), HB⟩
                  case measure => simp [intOf]; omega
                · obtain rfl : k = i := by omega
                  go_wp2_with fail
                  go_roundw
                  case rel => exact ⟨k + 1, by go_num, by omega, by rw [HPO2.out] <;> (first | rfl | go_num), HB⟩
                  case measure => simp [intOf]; omega
        · obtain rfl : i = n1 := by omega
          have e9 : ws.take i = ws := List.take_of_length_le (by rw [HL.out]; exact Nat.le_refl _)
          rw [e9]
          clear e9
          have hBB := hB.trans (HB.out.mono hB.size)
          have hkr := lens_kr hm1 hm2 HQ.out q2
          have HKR := Lib.hid (kraft_any wr.heap.size i c1 A1 (lensOf ws m) wr (HR.out.later HB.out) (by omega))
          rw [hkr.1, hkr.2] at HKR
          have hp3 : posn ws ≤ 300 := Nat.le_trans (posn_le _) q2
          clear hkr
          generalize posn ws = N at *
          by_cases hN0 : N = 0
          · subst hN0
            rw [if_pos rfl] at HKR
            go_wp2_with (first
              | (go_at_call 16; (with_reducible refine HKR.out.mono ?_); go_must (rintro e w8 ⟨rfl, rfl⟩))
              | (go_at_call 11; (with_reducible refine (first5_any _).mono ?_); go_must (rintro e wf ⟨rfl, hb1⟩; have hBC := bstep hBB hb1 (Nat.le_refl _))))
            go_ret
            exact ⟨rfl, hBC⟩
          · rw [if_neg hN0] at HKR
            by_cases hN1 : N = 1
            · subst hN1
              rw [if_pos rfl] at HKR
              go_wp2_with (first
                | (go_at_call 16; (with_reducible refine HKR.out.mono ?_); go_must (rintro e w8 ⟨rfl, rfl⟩))
                | (go_at_call 11; (with_reducible refine (first5_any _).mono ?_); go_must (rintro e wf ⟨rfl, hb1⟩; have hBC := bstep hBB hb1 (Nat.le_refl _))))
              go_ret
              exact ⟨rfl, hBC⟩
            · rw [if_neg hN1] at HKR
              have d1 : decide ((N : Int) < 2) = false := decide_eq_false (by omega)
              have d2 : ((N : Int) != 1) = true := by rw [bne, beq_eq_false_iff_ne.2 (show (N : Int) ≠ 1 by omega)]; rfl
              have d3 : decide ((N : Int) > 0) = true := decide_eq_true (by omega)
              go_wp2_with (first
                | (go_at_call 16; (with_reducible refine HKR.out.mono ?_); go_must (rintro e w8 ⟨rfl, rfl⟩))
                | (go_at_call 11; (with_reducible refine (first5_any _).mono ?_); go_must (rintro e wf ⟨rfl, hb1⟩; have hBC := bstep hBB hb1 (Nat.le_refl _))))
              go_ret
              exact ⟨rfl, hBC⟩
end Go.Proofs.Ytpbegikdohafbaa
