/- HuffPrefix: no code begins another one. -/
import Derived.Test.YtpbegikdohafbaaFirst5
namespace Go.Proofs.Ytpbegikdohafbaa
set_option linter.all false
open Go.RowKit

theorem codeAt_good {ls : List Int} (hb : badL ls = false) (hk : krN ls ≤ 32768) {i t : Nat} (h : ls[i]? = some (t : Int)) (h0 : 0 < t) : t ≤ 15 ∧ fst ls t + cnt (ls.take i) t < fst ls t + cz ls t ∧ fst ls t + cz ls t ≤ 2 ^ t := by
  have h15 := (good_at hb h).2
  have ht : t ≤ 15 := by omega
  refine ⟨ht, ?_, fst_pow ls hb hk t ht⟩
  have hcz : cz ls t = cnt ls t := by
    cases t with
    | zero => omega
    | succ t => rfl
  obtain ⟨hi, hx⟩ := List.getElem?_eq_some_iff.1 h
  have e : cnt ls t = cnt (ls.take i) t + cnt (ls.drop i) t := by
    unfold cnt
    rw [← List.count_append, List.take_append_drop]
  have e2 : 0 < cnt (ls.drop i) t := by
    unfold cnt
    rw [List.drop_eq_getElem_cons hi, hx]
    simp
  omega
theorem fst_step (ls : List Int) {a b : Nat} (h : a < b) : (fst ls a + cz ls a) * 2 ^ (b - a) ≤ fst ls b := by
  induction b with
  | zero => omega
  | succ b ih =>
    rw [fst]
    rcases Nat.lt_or_ge a b with h1 | h1
    · have := ih h1
      rw [show b + 1 - a = (b - a) + 1 by omega, Nat.pow_succ, ← Nat.mul_assoc]
      omega
    · obtain rfl : a = b := by omega
      rw [show a + 1 - a = 1 by omega]
      omega
theorem cnt_lt {ls : List Int} {i k t : Nat} (h : ls[i]? = some (t : Int)) (hik : i < k) : cnt (ls.take i) t < cnt (ls.take k) t := by
  obtain ⟨hi, hx⟩ := List.getElem?_eq_some_iff.1 h
  have e : ls.take k = ls.take i ++ (ls.drop i).take (k - i) := by
    rw [show k = i + (k - i) by omega, List.take_add]
    simp
  unfold cnt
  rw [e, List.count_append, List.drop_eq_getElem_cons hi, hx, show k - i = (k - i - 1) + 1 by omega, List.take_succ_cons]
  simp

theorem codesL_get {ls : List Int} {i : Nat} {y : Nat × Int} (h : (codesL ls)[i]? = some y) : y = codeAt ls i := by
  unfold codesL at h
  rw [List.getElem?_map] at h
  cases hr : (List.range ls.length)[i]? with
  | none => rw [hr] at h; cases h
  | some j =>
    obtain ⟨hj, e⟩ := List.getElem?_eq_some_iff.1 hr
    rw [List.getElem_range] at e
    rw [hr] at h
    injection h with h
    rw [← h, e]
theorem shr_zero {v t : Nat} (h : v < 2 ^ t) : (v : Int) / 2 ^ t = 0 := by
  rw [show ((2 : Int) ^ t) = ((2 ^ t : Nat) : Int) by push_cast; rfl, ← Int.natCast_ediv, Nat.div_eq_of_lt h]
  rfl

set_option maxRecDepth 100000 in
set_option maxHeartbeats 6400000 in
theorem huffPrefix_walk (n c : Nat) (A : Option Addr) (ls : List Int) (w : World) (h : RdI w w.heap.size A n ls) (hnc : n ≤ c) (hcm : c ≤ maxLen) :
    Calls Try.prog 6 #[.slice A n c] w fun e w' => e = .returned (.bool true) ∧ Below w.heap.size w w' := by
  unfold maxLen at hcm
  have hB := Below.refl w.heap.size w
  by_cases hbig : 300 < n
  · clear h
    go_enter Try.func6, Try.ntmps6
    go_wp2_with (go_at_call 11; (with_reducible refine (first5_any _).mono ?_); go_must (rintro e wf ⟨rfl, hb1⟩; replace hB := bstep hB hb1 (Nat.le_refl _); clear hb1))
    go_ret
    exact ⟨rfl, hB⟩
  · have HC := Lib.hid (fun (w' : World) (hb : Below w.heap.size w w') => codes_any w.heap.size n c A ls w' (h.blw hb) hb.size (by omega))
    have H := Lib.hid h
    have HL := Lib.hid h.len
    clear h
    by_cases hE : cdE ls = 0
    · have hL : cdL ls = codesL ls := by unfold cdL; rw [if_pos hE]
      have hg : badL ls = false ∧ krN ls ≤ 32768 := by
        unfold cdE at hE
        split at hE
        · rename_i h0
          split at hE
          · cases hE
          · exact ⟨(krE_zero h0).2.1, by omega⟩
        · cases hE
      rw [hE, hL] at HC
      have HG := Lib.hid hg
      clear hE hL hg
      have hlen : (codesL ls).length = n := by rw [← HL.out]; simp [codesL]
      have HLN := Lib.hid hlen
      clear hlen
      go_enter Try.func6, Try.ntmps6
      go_wp2_with (first
        | (go_at_call 11; (with_reducible refine (first5_any _).mono ?_); go_must (rintro e wf ⟨rfl, hb1⟩; replace hB := bstep hB hb1 (Nat.le_refl _); clear hb1))
        | (go_at_call 18; (with_reducible refine (HC.out _ hB).mono ?_); go_must (rintro e w1 ⟨A1, n1, c1, rfl, hn1, ho1, hb1⟩; obtain rfl : n1 = n := hn1.trans HLN.out; clear hn1; have HR := Lib.hid ho1.rd; replace hB := bstep hB hb1 (Nat.le_refl _); clear ho1 hb1)))
      go_loopw [5] (fun vi wr => ∃ i : Nat, vi = .int .i64 i ∧ i ≤ n1 ∧ Hid (Below w1.heap.size w1 wr)) (fun vi _ => n1 - (intOf vi).toNat)
      case atStart => exact ⟨0, rfl, Nat.zero_le _, Below.refl _ _⟩
      case round =>
        obtain ⟨i, rfl, hi, HB⟩ := hrel
        by_cases hlt : i < n1
        · obtain ⟨b, o, x, rfl, hb, HX, e1⟩ := ((H.out.blw hB).more hB.size |>.blw HB.out).one hlt
          obtain ⟨b2, o2, y, rfl, hb2, HY, e2, e3⟩ := (HR.out.blw HB.out).one hlt
          obtain ⟨x0, x1⟩ := good_at HG.out.1 HX.out
          obtain ⟨t, rfl⟩ := Int.eq_ofNat_of_zero_le x0
          have hy := codesL_get HY.out
          have HVI := Lib.hid hy.symm
          have HB2 := Lib.hid (fun q => bdrewN HB.out q)
          by_cases h0 : 0 < t
          · obtain ⟨t1, t2, t3⟩ := codeAt_good HG.out.1 HG.out.2 HX.out h0
            rw [codeAt_pos HX.out h0] at hy
            subst hy
            obtain ⟨v, hv⟩ : ∃ v, fst ls t + cnt (ls.take i) t = v := ⟨_, rfl⟩
            rw [hv] at e2 e3 t2 HVI
            have HVV := Lib.hid hv
            have hz := shr_zero (show v < 2 ^ t by omega)
            have d1 : ((t : Int) == 0) = false := beq_eq_false_iff_ne.2 (by omega)
            have d2 : decide ((t : Int) > 0) = true := decide_eq_true (by omega)
            have d3 : ((t : Int) != (t : Int)) = false := by simp
            clear hv HY
            go_wp2_with fail
            go_quiet (fail)
            go_wp2_with fail
            clear e1 e2 e3 hz d2 d3 HB
            go_loopw [6] (fun vk wr => ∃ k : Nat, vk = .int .i64 k ∧ k ≤ n1 ∧ Hid (Below w1.heap.size w1 wr)) (fun vk _ => n1 - (intOf vk).toNat)
            case atStart => exact ⟨0, rfl, Nat.zero_le _, HB2.out nq⟩
            case round =>
              clear HB2
              obtain ⟨k, rfl, hk, HB⟩ := hrel
              by_cases hltk : k < n1
              · obtain ⟨b9, o9, y9, eA, hb9, HYi, f2, f3⟩ := (HR.out.blw HB.out).one hlt
                injection eA with eA
                injection eA with eb eo
                subst eb eo
                have hyi := (codesL_get HYi.out).trans HVI.out
                subst hyi
                obtain ⟨b9, o9, y9, eA, hb9, HYk, g2, g3⟩ := (HR.out.blw HB.out).one hltk
                injection eA with eA
                injection eA with eb eo
                subst eb eo
                have hyk := codesL_get HYk.out
                have HB3 := Lib.hid (fun q => bdrewN HB.out q)
                by_cases hik : i = k
                · subst hik
                  clear hyk g2 g3
                  clear HB
                  go_wp2_with fail
                  go_quiet (fail)
                  go_wp2_with fail
                  go_roundw
                  case rel => exact ⟨i + 1, by go_num, by omega, HB3.out _⟩
                  case measure => simp [intOf]; omega
                · have dik : ((i : Int) == (k : Int)) = false := beq_eq_false_iff_ne.2 (by omega)
                  obtain ⟨b7, o7, x7, -, -, HXk, -⟩ := H.out.one hltk
                  obtain ⟨x70, x71⟩ := good_at HG.out.1 HXk.out
                  obtain ⟨tk, rfl⟩ := Int.eq_ofNat_of_zero_le x70
                  by_cases hk0 : 0 < tk
                  · obtain ⟨k1, k2, k3⟩ := codeAt_good HG.out.1 HG.out.2 HXk.out hk0
                    rw [codeAt_pos HXk.out hk0] at hyk
                    subst hyk
                    have HVK := Lib.hid (show fst ls tk + cnt (ls.take k) tk = fst ls tk + cnt (ls.take k) tk from rfl)
                    have dk0 : ((tk : Int) == 0) = false := beq_eq_false_iff_ne.2 (by omega)
                    by_cases htk : tk < t
                    · generalize fst ls tk + cnt (ls.take k) tk = vk at *
                      have dlt : decide ((t : Int) > (tk : Int)) = true := decide_eq_true (by omega)
                      clear HVK
                      clear HB
                      go_wp2_with fail
                      go_quiet (fail)
                      go_wp2_with fail
                      go_roundw
                      case rel => exact ⟨k + 1, by go_num, by omega, HB3.out _⟩
                      case measure => simp [intOf]; omega
                    · have dlt : decide ((t : Int) > (tk : Int)) = false := decide_eq_false (by omega)
                      obtain ⟨s, rfl⟩ : ∃ s, tk = t + s := ⟨tk - t, by omega⟩
                      by_cases hs : s = 0
                      · subst hs
                        rw [Nat.add_zero] at *
                        by_cases hlk : i < k
                        · have hvv : fst ls t + cnt (ls.take i) t < fst ls t + cnt (ls.take k) t := by have := cnt_lt HX.out hlk; omega
                          rw [HVV.out] at hvv
                          generalize fst ls t + cnt (ls.take k) t = vk at *
                          have deq : ((vk : Int) == (v : Int)) = false := beq_eq_false_iff_ne.2 (by omega)
                          have dlk : decide ((i : Int) < (k : Int)) = true := decide_eq_true (by omega)
                          have dge : decide ((v : Int) ≥ (vk : Int)) = false := decide_eq_false (by omega)
                          clear HB HVK
                          go_wp2_with fail
                          go_quiet (fail)
                          go_wp2_with fail
                          go_quiet (fail)
                          go_wp2_with fail
                          go_roundw
                          case rel => exact ⟨k + 1, by go_num, by omega, HB3.out _⟩
                          case measure => simp [intOf]; omega
                        · have hvv : fst ls t + cnt (ls.take k) t < fst ls t + cnt (ls.take i) t := by have := cnt_lt HXk.out (show k < i by omega); omega
                          rw [HVV.out] at hvv
                          generalize fst ls t + cnt (ls.take k) t = vk at *
                          have deq : ((vk : Int) == (v : Int)) = false := beq_eq_false_iff_ne.2 (by omega)
                          have dlk : decide ((i : Int) < (k : Int)) = false := decide_eq_false (by omega)
                          clear HB HVK
                          go_wp2_with fail
                          go_quiet (fail)
                          go_wp2_with fail
                          go_quiet (fail)
                          go_wp2_with fail
                          go_roundw
                          case rel => exact ⟨k + 1, by go_num, by omega, HB3.out _⟩
                          case measure => simp [intOf]; omega
                      · have hvv : v < (fst ls (t + s) + cnt (ls.take k) (t + s)) / 2 ^ s := by
                          have h1 := fst_step ls (show t < t + s by omega)
                          rw [show t + s - t = s by omega] at h1
                          have h2 : (v + 1) * 2 ^ s ≤ fst ls (t + s) := Nat.le_trans (Nat.mul_le_mul_right _ (by omega)) h1
                          exact Nat.lt_of_lt_of_le (Nat.lt_succ_self v) ((Nat.le_div_iff_mul_le (Nat.two_pow_pos s)).2 (show (v + 1) * 2 ^ s ≤ _ by omega))
                        generalize fst ls (t + s) + cnt (ls.take k) (t + s) = vk at *
                        have ediv : (vk : Int) / 2 ^ s = ((vk / 2 ^ s : Nat) : Int) := by rw [show ((2 : Int) ^ s) = ((2 ^ s : Nat) : Int) by push_cast; rfl, ← Int.natCast_ediv]
                        have deq : ((vk : Int) / 2 ^ s == (v : Int)) = false := by rw [ediv]; exact beq_eq_false_iff_ne.2 (by omega)
                        have dts : ((t : Int) == (t : Int) + (s : Int)) = false := beq_eq_false_iff_ne.2 (by omega)
                        simp only [Int.natCast_add] at g3 dk0 dlt
                        clear ediv HB HVK
                        go_wp2_with fail
                        go_quiet (fail)
                        go_wp2_with fail
                        go_quiet (fail)
                        go_wp2_with fail
                        go_roundw
                        case rel => exact ⟨k + 1, by go_num, by omega, HB3.out _⟩
                        case measure => simp [intOf]; omega
                  · obtain rfl : tk = 0 := by omega
                    rw [codeAt_zero HXk.out (by omega)] at hyk
                    subst hyk
                    clear HB
                    go_wp2_with fail
                    go_quiet (fail)
                    go_wp2_with fail
                    go_roundw
                    case rel => exact ⟨k + 1, by go_num, by omega, HB3.out _⟩
                    case measure => simp [intOf]; omega
              · obtain rfl : k = n1 := by omega
                go_wp2_with fail
                go_roundw
                case rel => exact ⟨i + 1, by go_num, by omega, HB⟩
                case measure => simp [intOf]; omega
          · obtain rfl : t = 0 := by omega
            rw [codeAt_zero HX.out (by omega)] at hy
            subst hy
            clear HY
            go_wp2_with fail
            go_quiet (fail)
            go_wp2_with fail
            clear e1 e2 e3 HB
            go_loopw [6] (fun vk wr => ∃ k : Nat, vk = .int .i64 k ∧ k ≤ n1 ∧ Hid (Below w1.heap.size w1 wr)) (fun vk _ => n1 - (intOf vk).toNat)
            case atStart => exact ⟨0, rfl, Nat.zero_le _, HB2.out nq⟩
            case round =>
              clear HB2
              obtain ⟨k, rfl, hk, HB⟩ := hrel
              by_cases hltk : k < n1
              · obtain ⟨b9, o9, y9, eA, hb9, HYi, f2, f3⟩ := (HR.out.blw HB.out).one hlt
                injection eA with eA
                injection eA with eb eo
                subst eb eo
                have hyi := (codesL_get HYi.out).trans HVI.out
                subst hyi
                obtain ⟨b9, o9, y9, eA, hb9, HYk, g2, g3⟩ := (HR.out.blw HB.out).one hltk
                injection eA with eA
                injection eA with eb eo
                subst eb eo
                have hyk := codesL_get HYk.out
                have HB3 := Lib.hid (fun q => bdrewN HB.out q)
                by_cases hik : i = k
                · subst hik
                  clear hyk g2 g3
                  clear HB
                  go_wp2_with fail
                  go_quiet (fail)
                  go_wp2_with fail
                  go_roundw
                  case rel => exact ⟨i + 1, by go_num, by omega, HB3.out _⟩
                  case measure => simp [intOf]; omega
                · have dik : ((i : Int) == (k : Int)) = false := beq_eq_false_iff_ne.2 (by omega)
                  clear hyk
                  clear HB
                  go_wp2_with fail
                  go_quiet (fail)
                  go_wp2_with fail
                  go_roundw
                  case rel => exact ⟨k + 1, by go_num, by omega, HB3.out _⟩
                  case measure => simp [intOf]; omega
              · obtain rfl : k = n1 := by omega
                go_wp2_with fail
                go_roundw
                case rel => exact ⟨i + 1, by go_num, by omega, HB⟩
                case measure => simp [intOf]; omega
        · obtain rfl : i = n1 := by omega
          have hBB := hB.trans (HB.out.mono hB.size)
          go_wp2_with (go_at_call 11; (with_reducible refine (first5_any _).mono ?_); go_must (rintro e wf ⟨rfl, hb1⟩; have hBC := bstep hBB hb1 (Nat.le_refl _)))
          go_ret
          exact ⟨rfl, hBC⟩
    · have hL : cdL ls = [] := by unfold cdL; rw [if_neg hE]
      have hE2 : cdE ls = 1 ∨ cdE ls = 4 := by
        unfold cdE at hE ⊢
        split
        · split
          · exact .inr rfl
          · exact absurd (by rw [if_pos ‹_›, if_neg ‹_›]) hE
        · exact .inl rfl
      rw [hL] at HC
      clear hL
      generalize cdE ls = E at *
      have de : ((E : Int) != 0) = true := by simpa using hE
      clear hE
      go_enter Try.func6, Try.ntmps6
      go_wp2_with (first
        | (go_at_call 11; (with_reducible refine (first5_any _).mono ?_); go_must (rintro e wf ⟨rfl, hb1⟩; replace hB := bstep hB hb1 (Nat.le_refl _); clear hb1))
        | (go_at_call 18; (with_reducible refine (HC.out _ hB).mono ?_); go_must (rintro e w1 ⟨A1, n1, c1, rfl, hn1, ho1, hb1⟩; obtain rfl : n1 = 0 := hn1; replace hB := bstep hB hb1 (Nat.le_refl _); clear ho1 hb1)))
      go_ret
      exact ⟨rfl, hB⟩
end Go.Proofs.Ytpbegikdohafbaa
