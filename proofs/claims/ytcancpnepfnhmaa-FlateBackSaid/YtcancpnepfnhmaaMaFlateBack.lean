/- FlateBack. -/
import Derived.Test.YtcancpnepfnhmaaMa40
import Derived.Test.YtcancpnepfnhmaaMa37
import Derived.Test.YtcancpnepfnhmaaMa31
import Derived.Test.YtcancpnepfnhmaaMa10
namespace Go.Proofs.Ytcancpnepfnhmaa
set_option linter.all false
open Go.RowKit

/-- Bytes so many times. -/
def timesB (bs : List UInt8) : Nat → List UInt8
  | 0 => []
  | k + 1 => timesB bs k ++ bs
theorem timesB_len (bs : List UInt8) : ∀ k, (timesB bs k).length = k * bs.length
  | 0 => by simp [timesB]
  | k + 1 => by rw [timesB, List.length_append, timesB_len bs k, Nat.succ_mul]
set_option maxRecDepth 100000 in
set_option maxHeartbeats 6400000 in
theorem flateBack_walk (n0 c0 : Nat) (A0 : Option Addr) (bs : List UInt8) (x : Int) (n2 c2 : Nat) (A2 : Option Addr) (ms : List UInt8) (w : World) (ha : RdB w w.heap.size A0 n0 bs) (hc : RdB w w.heap.size A2 n2 ms) :
    Calls Try.prog 4 #[.slice A0 n0 c0, .int .i64 x, .slice A2 n2 c2] w fun e w' => e = .returned (.bool true) ∧ Below w.heap.size w w' := by
  have HR := Lib.hid ha
  have HM := Lib.hid hc
  have hl := ha.len
  have hl2 := hc.len
  clear ha hc
  by_cases hbad : x < 1 ∨ 40 < x ∨ 1000 < n0 ∨ 1000 < n2
  · have key : (x < 1) ∨ (¬ x < 1 ∧ 40 < x) ∨ (¬ x < 1 ∧ ¬ 40 < x ∧ (1000 : Int) < (n0 : Int)) ∨ (¬ x < 1 ∧ ¬ 40 < x ∧ ¬ (1000 : Int) < (n0 : Int) ∧ (1000 : Int) < (n2 : Int)) := by omega
    clear hbad
    rcases key with h1 | ⟨h1, h2⟩ | ⟨h1, h2, h3⟩ | ⟨h1, h2, h3, h4⟩ <;>
      · go_enter Try.func4, Try.ntmps4
        go_wp2_with (go_at_call 13; (with_reducible refine (first7_any _).mono ?_); go_must (rintro e w1 ⟨rfl, hb1⟩; first | (have HB9 := Lib.hid (HB1.out.trans (hb1.mono HB1.out.size))) | (have HB1 := Lib.hid hb1); clear hb1))
        go_ret
        exact ⟨rfl, HB9.out⟩
  · obtain ⟨h1, h2, h3, h4⟩ : ¬ x < 1 ∧ ¬ 40 < x ∧ ¬ (1000 : Int) < (n0 : Int) ∧ ¬ (1000 : Int) < (n2 : Int) := by omega
    obtain ⟨K, rfl⟩ : ∃ K : Nat, x = (K : Int) := ⟨x.toNat, by omega⟩
    have hlen : ∀ k, k ≤ K → (timesB bs k).length ≤ 40000 := fun k hk => by
      rw [timesB_len, hl]
      exact Nat.le_trans (Nat.mul_le_mul (show k ≤ 40 by omega) (show n0 ≤ 1000 by omega)) (by omega)
    have HLN := Lib.hid hlen
    clear hlen hbad
    go_enter Try.func4, Try.ntmps4
    go_upto_region 7 with (go_at_call 13; (with_reducible refine (first7_any _).mono ?_); go_must (rintro e w1 ⟨rfl, hb1⟩; have HB1 := Lib.hid hb1; clear hb1))
    have hs1 := HB1.out.size
    have HO0 := Lib.hid (ownB.nil_ w1 w.heap.size)
    have HR1 := Lib.hid (HR.out.blw HB1.out)
    go_loopw [8, 7] (fun vi vl wr => ∃ k : Nat, k ≤ K ∧ vi = .int .i64 k ∧ Hid (ownB wr w.heap.size vl (timesB bs k)) ∧ Hid (Below w.heap.size w wr)) (fun vi _ _ => K - (intOf vi).toNat)
    case atStart => exact ⟨0, Nat.zero_le _, rfl, (show ownB _ _ _ _ from HO0.out), HB1⟩
    case round =>
      clear HO0 HB1 HR1 hs1
      obtain ⟨k, hk, rfl, HO, HB⟩ := hrel
      obtain ⟨Av, nv, rfl, -, -, -⟩ := HO.out.form
      have hsr := HB.out.size
      by_cases hlt : k < K
      · have hki : (k : Int) < (K : Int) := by omega
        have hln := HLN.out k hk
        have hab : (timesB bs k).length + n0 ≤ 140737488355328 := by omega
        go_wp2_with (at_builtin; (refine wpList_appendB rfl (.tmp 44) (.tmp 45) rfl w.heap.size _ (timesB bs k) rfl HO.out w.heap.size n0 c0 A0 bs rfl (HR.out.blw HB.out) hab hsr ?_; intro v8 w8 ho8 hg8 hb8 hat8; have HO8 := Lib.hid ho8; have HB8 := Lib.hid (HB.out.trans hb8); clear ho8 hg8 hb8 hat8))
        go_roundw
        case rel => exact ⟨k + 1, by omega, by go_num, (show ownB _ _ _ _ from HO8.out), HB8⟩
        case measure => simp [intOf]; omega
      · obtain rfl : k = K := by omega
        have hki : ¬ (k : Int) < (k : Int) := by omega
        have hln := HLN.out k (Nat.le_refl _)
        clear HLN
        generalize timesB bs k = all at *
        obtain ⟨L, hL⟩ : ∃ L, all.length = L := ⟨_, rfl⟩
        have HA := Lib.hid (ownB.rd HO.out)
        have HD := Lib.hid (deflate_all wr.heap.size all.length nv Av all wr (ownB.rd HO.out) (Nat.le_refl _) hln (by obtain ⟨A', c', e, -, h, -⟩ := HO.out.form; injection e with _ e1 e2; subst e2; exact h))
        have HZ1 : Hid (∀ bz, WB bz (deflB all (findP all)) → bz.length ≤ 40005 ∧ bz.length ≤ L + 5 ∧ inflP bz (L : Int) = (all, bz.length, 0) ∧ inflP (bz ++ ms) 40000 = (all, bz.length, 0) ∧ ¬ (inflP bz ((L : Int) - 1)).2.2 = 0) := (show ∀ bz, _ from fun bz h => by
          subst hL
          have h1 := best_len h
          exact ⟨by omega, h1, z_infl hln (Int.le_refl _) (by omega) h, z_more hln h, z_less hln h⟩)
        rw [hL] at HD HA hln
        simp only [hL]
        have hLi : IntKind.i64.wrap ((L : Int) - 1) = (L : Int) - 1 := by
          by_cases h0 : L = 0
          · subst h0; decide
          · have := wrap_i64_lt (L - 1) (by omega)
            rwa [show (((L - 1 : Nat)) : Int) = (L : Int) - 1 by omega] at this
        have HAL := Lib.hid hL
        clear hL HO
        go_wp2_with (first
          | (go_at_call 18; (with_reducible refine HD.out.mono ?_); go_must (rintro e w3 ⟨v3, bz, rfl, ho3, hz3, hb3⟩; obtain ⟨hz5, hz6, hi1, hi2, hi3⟩ := HZ1.out bz hz3; obtain ⟨A3, c3, hv3, -, -, -⟩ := ho3.form; have hr3 := ownB.rd (hv3 ▸ ho3); obtain ⟨Z, hZ⟩ : ∃ Z, bz.length = Z := ⟨_, rfl⟩; rw [hZ] at hv3 hr3 hz5 hz6; subst hv3; have HI1 := Lib.hid (inflate_all w3.heap.size Z c3 A3 bz (L : Int) w3 hr3 (Nat.le_refl _) (by omega)); rw [hi1, hZ] at HI1; have HI2 := Lib.hid hi2; rw [hZ] at HI2; have HI3 := Lib.hid hi3; have HZL := Lib.hid hZ; have HZ3 := Lib.hid hr3; have HB3 := Lib.hid hb3; have hs3 := hb3.size; have HBW3 := Lib.hid (HB.out.trans (hb3.mono hsr)); clear ho3 hz3 hb3 hi1 hi2 hi3 hr3 hZ))
          | (go_at_call 15; (with_reducible refine HI1.out.mono ?_); go_must (rintro e w4 ⟨v4, rfl, ho4, hb4⟩; obtain ⟨A4, c4, hv4, -, -, -⟩ := ho4.form; have hr4 := ownB.rd (hv4 ▸ ho4); rw [HAL.out] at hv4 hr4; subst hv4; have HX4 := Lib.hid hr4; have hs4 := hb4.size; have HZ4 := Lib.hid (HZ3.out.blw hb4); have HA4 := Lib.hid ((HA.out.blw HB3.out).blw (hb4.mono hs3)); have HBW4 := Lib.hid (HBW3.out.trans (hb4.mono HBW3.out.size)); have HCP := Lib.hid (copyB_any w3.heap.size Z c3 A3 bz w4 HZ4.out (by omega)); clear ho4 hb4 hr4))
          | (go_at_call 14; (with_reducible refine HCP.out.mono ?_); go_must (rintro e w5 ⟨v5, rfl, ho5, hb5⟩; obtain ⟨A5, c5, rfl, -, -, -⟩ := ho5.form; have HO5 := Lib.hid ho5; have hs5 := hb5.size; have HZ5 := Lib.hid (HZ4.out.blw (hb5.mono hs4)); have HX5 := Lib.hid (RdB.blw HX4.out hb5); have HA5 := Lib.hid (HA4.out.blw (hb5.mono (Nat.le_trans hs3 hs4))); have HBW5 := Lib.hid (HBW4.out.trans (hb5.mono HBW4.out.size)); have HM5 := Lib.hid (HM.out.blw HBW5.out); have hab5 : bz.length + n2 ≤ 140737488355328 := (by have := HZL.out; omega); clear ho5 hb5))
          | (at_builtin; (refine wpList_appendB rfl (.tmp 64) (.tmp 65) rfl w4.heap.size _ bz rfl HO5.out w.heap.size n2 c2 A2 ms rfl HM5.out hab5 hs5 ?_; intro v6 w6 ho6 hg6 hb6 hat6; obtain ⟨A6, c6, hv6, -, -, -⟩ := ho6.form; have hr6 := ownB.rd (hv6 ▸ ho6); have hl6 : (bz ++ ms).length = Z + n2 := (by rw [List.length_append, HZL.out, hl2]); rw [hl6] at hv6 hr6; subst hv6; have HI26 := Lib.hid (inflate_all w6.heap.size (Z + n2) c6 A6 (bz ++ ms) 40000 w6 hr6 (Nat.le_refl _) (by omega)); rw [HI2.out] at HI26; have hs6 := hb6.size; have HZ6 := Lib.hid (HZ5.out.blw (hb6.mono hs4)); have HX6 := Lib.hid (RdB.blw HX5.out (hb6.mono (Nat.le_refl _))); have HA6 := Lib.hid (HA5.out.blw (hb6.mono (Nat.le_trans hs3 hs4))); have HBW6 := Lib.hid (HBW5.out.trans (hb6.mono HBW4.out.size)); clear ho6 hg6 hb6 hat6 hr6))
          | (go_at_call 15; (with_reducible refine HI26.out.mono ?_); go_must (rintro e w7 ⟨v7, rfl, ho7, hb7⟩; obtain ⟨A7, c7, hv7, -, -, -⟩ := ho7.form; have hr7 := ownB.rd (hv7 ▸ ho7); rw [HAL.out] at hv7 hr7; subst hv7; have HY7 := Lib.hid hr7; have hs7 := hb7.size; have hq6 : w4.heap.size ≤ w6.heap.size := Nat.le_trans hs5 hs6; have HZ7 := Lib.hid (HZ6.out.blw (hb7.mono (Nat.le_trans hs4 hq6))); have HX7 := Lib.hid (RdB.blw HX6.out (hb7.mono hq6)); have HA7 := Lib.hid (HA6.out.blw (hb7.mono (Nat.le_trans (Nat.le_trans hs3 hs4) hq6))); have HBW7 := Lib.hid (HBW6.out.trans (hb7.mono HBW6.out.size)); have HI37 := Lib.hid (inflate_all w3.heap.size Z c3 A3 bz ((L : Int) - 1) w7 HZ7.out (Nat.le_trans hs4 (Nat.le_trans hq6 hs7)) (by omega)); clear ho7 hb7 hr7))
          | (go_at_call 15; (with_reducible refine HI37.out.mono ?_); go_must (rintro e w9 ⟨v9, rfl, ho9, hb9⟩; have hs9 := hb9.size; have hq7 : w6.heap.size ≤ w7.heap.size := hs7; have HX9 := Lib.hid (RdB.blw HX7.out (hb9.mono (Nat.le_trans hq6 hq7))); have HY9 := Lib.hid (RdB.blw HY7.out hb9); have HA9 := Lib.hid (HA7.out.blw (hb9.mono (Nat.le_trans (Nat.le_trans (Nat.le_trans hs3 hs4) hq6) hq7))); have HBW9 := Lib.hid (HBW7.out.trans (hb9.mono HBW7.out.size)); obtain ⟨E9, hE9⟩ : ∃ E, (inflP bz ((L : Int) - 1)).2.2 = E := ⟨_, rfl⟩; have he9 := HI3.out; rw [hE9] at he9; have he9b : (E9 != 0) = true := (by rw [bne_iff_ne]; exact he9); simp only [hE9]; clear ho9 hb9 hE9)))
        have hz9 : (Z : Int) ≤ (L : Int) + 5 := by omega
        go_wp2_with (first
          | (go_at_call 13; (with_reducible refine (first7_any _).mono ?_); go_must (rintro e w10 ⟨rfl, hb10⟩; have hq49 : w4.heap.size ≤ w9.heap.size := (by omega); have HX10 := RdB.blw HX9.out (hb10.mono hq49); have HY10 := RdB.blw HY9.out (hb10.mono hs9); have HA10 := HA9.out.blw (hb10.mono (by omega)); have HB10 := Lib.hid (HBW9.out.trans (hb10.mono HBW9.out.size)); have HBX := Lib.hid (bytes_any w4.heap.size L c4 wr.heap.size L nv A4 Av all all w10 HX10 HA10); rw [beq_self_eq_true] at HBX; have HBY := Lib.hid (bytes_any w7.heap.size L c7 wr.heap.size L nv A7 Av all all w10 HY10 HA10); rw [beq_self_eq_true] at HBY; clear hb10 HX10 HY10 HA10))
          | (go_at_call 17; (with_reducible refine HBX.out.mono ?_); go_must (rintro e w11 ⟨rfl, rfl⟩))
          | (go_at_call 17; (with_reducible refine HBY.out.mono ?_); go_must (rintro e w12 ⟨rfl, rfl⟩)))
        go_ret
        exact ⟨rfl, HB10.out⟩
end Go.Proofs.Ytcancpnepfnhmaa
