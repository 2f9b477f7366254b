/- ZlibBack. -/
import Derived.Test.YtfafijhmjnkjeaaMa41
import Derived.Test.YtfafijhmjnkjeaaMaFlateBack
import Derived.Test.YtfafijhmjnkjeaaMaZlibParts
namespace Go.Proofs.Ytfafijhmjnkjeaa
set_option linter.all false
open Go.RowKit

set_option maxRecDepth 100000 in
set_option maxHeartbeats 12800000 in
theorem zlibBack_walk (n0 c0 : Nat) (A0 : Option Addr) (bs : List UInt8) (x y : Int) (w : World) (ha : RdB w w.heap.size A0 n0 bs) :
    Calls Try.prog 4 #[.slice A0 n0 c0, .int .i64 x, .int .i64 y] w fun e w' => e = .returned (.bool true) ∧ Below w.heap.size w w' := by
  have HR := Lib.hid ha
  have hl := ha.len
  clear ha
  by_cases hbad : x < 1 ∨ 20 < x ∨ 1000 < n0 ∨ y < 0 ∨ 47 < y
  · have key : (x < 1) ∨ (¬ x < 1 ∧ 20 < x) ∨ (¬ x < 1 ∧ ¬ 20 < x ∧ (1000 : Int) < (n0 : Int)) ∨ (¬ x < 1 ∧ ¬ 20 < x ∧ ¬ (1000 : Int) < (n0 : Int) ∧ y < 0) ∨ (¬ x < 1 ∧ ¬ 20 < x ∧ ¬ (1000 : Int) < (n0 : Int) ∧ ¬ y < 0 ∧ 47 < y) := by omega
    clear hbad
    rcases key with h1 | ⟨h1, h2⟩ | ⟨h1, h2, h3⟩ | ⟨h1, h2, h3, h4⟩ | ⟨h1, h2, h3, h4, h5⟩ <;>
      · go_enter Try.func4, Try.ntmps4
        go_wp2_with (go_at_call 12; (with_reducible refine (first8_any _).mono ?_); go_must (rintro e w1 ⟨rfl, hb1⟩; first | (have HB9 := Lib.hid (HB1.out.trans (hb1.mono HB1.out.size))) | (have HB1 := Lib.hid hb1); clear hb1))
        go_ret
        exact ⟨rfl, HB9.out⟩
  · obtain ⟨h1, h2, h3, h4, h5⟩ : ¬ x < 1 ∧ ¬ 20 < x ∧ ¬ (1000 : Int) < (n0 : Int) ∧ ¬ y < 0 ∧ ¬ 47 < y := by omega
    obtain ⟨K, rfl⟩ : ∃ K : Nat, x = (K : Int) := ⟨x.toNat, by omega⟩
    obtain ⟨T, rfl⟩ : ∃ T : Nat, y = (T : Int) := ⟨y.toNat, by omega⟩
    have hlen : ∀ k, k ≤ K → (timesB bs k).length ≤ 20000 := fun k hk => by
      rw [timesB_len, hl]
      exact Nat.le_trans (Nat.mul_le_mul (show k ≤ 20 by omega) (show n0 ≤ 1000 by omega)) (by omega)
    have HLN := Lib.hid hlen
    clear hlen hbad
    go_enter Try.func4, Try.ntmps4
    go_upto_region 7 with (go_at_call 12; (with_reducible refine (first8_any _).mono ?_); go_must (rintro e w1 ⟨rfl, hb1⟩; have HB1 := Lib.hid hb1; clear hb1))
    have hs1 := HB1.out.size
    have HO0 := Lib.hid (ownB.nil_ w1 w.heap.size)
    go_loopw [8, 7] (fun vi vl wr => ∃ k : Nat, k ≤ K ∧ vi = .int .i64 k ∧ Hid (ownB wr w.heap.size vl (timesB bs k)) ∧ Hid (Below w.heap.size w wr)) (fun vi _ _ => K - (intOf vi).toNat)
    case atStart => exact ⟨0, Nat.zero_le _, rfl, (show ownB _ _ _ _ from HO0.out), HB1⟩
    case round =>
      clear HO0 HB1 hs1
      obtain ⟨k, hk, rfl, HO, HB⟩ := hrel
      obtain ⟨Av, nv, rfl, -, -, -⟩ := HO.out.form
      have hsr := HB.out.size
      by_cases hlt : k < K
      · have hki : (k : Int) < (K : Int) := by omega
        have hln := HLN.out k hk
        have hab : (timesB bs k).length + n0 ≤ 140737488355328 := by omega
        go_wp2_with (at_builtin; (refine wpList_appendB rfl (.tmp 49) (.tmp 50) rfl w.heap.size _ (timesB bs k) rfl HO.out w.heap.size n0 c0 A0 bs rfl (HR.out.blw HB.out) hab hsr ?_; intro v8 w8 ho8 hg8 hb8 hat8; have HO8 := Lib.hid ho8; have HB8 := Lib.hid (HB.out.trans hb8); clear ho8 hg8 hb8 hat8))
        go_roundw
        case rel => exact ⟨k + 1, by omega, by go_num, (show ownB _ _ _ _ from HO8.out), HB8⟩
        case measure => simp [intOf]; omega
      · obtain rfl : k = K := by omega
        have hki : ¬ (k : Int) < (k : Int) := by omega
        have hln := HLN.out k (Nat.le_refl _)
        clear HLN
        generalize timesB bs k = all at *
        obtain ⟨L, hL⟩ : ∃ L, all.length = L := ⟨_, rfl⟩
        have HA := Lib.hid (ownB.rd HO.out)
        obtain ⟨S, hS, hS4⟩ := big4 (adler_lt all)
        have HPK := Lib.hid (pack_any wr.heap.size all.length nv Av all S wr (ownB.rd HO.out) (Nat.le_refl _) (by omega) (by obtain ⟨A', c', e, -, h, -⟩ := HO.out.form; injection e with _ e1 e2; subst e2; exact h) hS hS4)
        have hSb := big4b (adler_lt all) hS
        have HZ1 : Hid (∀ bz, WB bz (deflB all (findP all)) → (packL bz S).length ≤ 20011 ∧ 6 ≤ (packL bz S).length ∧ wholP (packL bz S) (L : Int) = (all, 0) ∧ wholP (packL bz S ++ [0]) (L : Int) = ([], 3) ∧ unpkP (packL bz S ++ [0]) (L : Int) = (all, (packL bz S).length, 0) ∧ (∀ at_ j p y, at_ < 6 → j < 8 → (p = if at_ < 2 then at_ else (packL bz S).length - 6 + at_) → (y : UInt8).toNat = ((packL bz S).getD p 0).toNat ^^^ 2 ^ j → ¬ (wholP ((packL bz S).set p y) (L : Int)).2 = 0)) := (show ∀ bz, _ from fun bz h => by
          subst hL
          have g1 := best_len h
          have g2 := packL_len bz S
          rw [hS4] at g2
          exact ⟨by omega, by omega, whol_back (by omega) (Int.le_refl _) (by omega) h hSb, whol_more (by simp) (by omega) (Int.le_refl _) (by omega) h hSb, unpk_back (by omega) h hSb (infl_more (by omega) (Int.le_refl _) (by omega) h), fun at_ j p y k1 k2 k3 k4 => turn_bad (by omega) (Int.le_refl _) (by omega) h hSb k1 k2 k3 k4⟩)
        rw [hL] at HPK HA hln
        simp only [hL]
        have HAL := Lib.hid hL
        clear hL HO hS hSb
        obtain ⟨q, hq⟩ : ∃ q, T / 8 = q := ⟨_, rfl⟩
        obtain ⟨j, hj⟩ : ∃ j, T % 8 = j := ⟨_, rfl⟩
        have tq1 : (T : Int).tdiv 8 = (q : Int) := by rw [← hq]; rfl
        have tq2 : (T : Int) / 8 = (q : Int) := by omega
        have tj1 : (T : Int).tmod 8 = (j : Int) := by rw [← hj]; rfl
        have tj2 : (T : Int) % 8 = (j : Int) := by omega
        have hq6 : q < 6 := by omega
        have hj8 : j < 8 := by omega
        have wq : IntKind.i64.wrap (q : Int) = (q : Int) := wrap_i64_lt q (by omega)
        have wj : IntKind.i64.wrap (j : Int) = (j : Int) := wrap_i64_lt j (by omega)
        clear hq hj
        go_upto_region 14 with (first
          | (go_at_call 13; (with_reducible refine HPK.out.mono ?_); go_must (rintro e w3 ⟨v3, bz, rfl, ho3, hz3, hb3⟩; obtain ⟨hz5, hz6, hi1, hi2, hi3, hi4⟩ := HZ1.out bz hz3; obtain ⟨zs, hzs⟩ : ∃ zs, packL bz S = zs := ⟨_, rfl⟩; rw [hzs] at ho3 hz5 hz6 hi1 hi2 hi3 hi4; clear hzs; obtain ⟨A3, c3, hv3, -, hcz, -⟩ := ho3.form; have hr3 := ownB.rd (hv3 ▸ ho3); obtain ⟨Z, hZ⟩ : ∃ Z, zs.length = Z := ⟨_, rfl⟩; rw [hZ] at hv3 hr3 hz5 hz6 hi3 hi4 hcz; subst hv3; have hz6i : ¬ (Z : Int) < 6 := (by omega); have HI1 := Lib.hid (whole_any w3.heap.size Z c3 A3 zs (L : Int) w3 hr3 (Nat.le_refl _) hcz (by omega)); rw [hi1] at HI1; have HI2 := Lib.hid hi2; have HI3 := Lib.hid hi3; have HI4 := Lib.hid hi4; have HZL := Lib.hid hZ; have HZ3 := Lib.hid hr3; have HB3 := Lib.hid hb3; have hs3 := hb3.size; have HBW3 := Lib.hid (HB.out.trans (hb3.mono hsr)); clear ho3 hz3 hb3 hi1 hi2 hi3 hi4 hr3 hZ))
          | (go_at_call 14; (with_reducible refine HI1.out.mono ?_); go_must (rintro e w4 ⟨v4, rfl, ho4, hb4⟩; obtain ⟨A4, c4, hv4, -, -, -⟩ := ho4.form; have hr4 := ownB.rd (hv4 ▸ ho4); rw [HAL.out] at hv4 hr4; subst hv4; have HX4 := Lib.hid hr4; have hs4 := hb4.size; have HZ4 := Lib.hid (HZ3.out.blw hb4); have HA4 := Lib.hid ((HA.out.blw HB3.out).blw (hb4.mono hs3)); have HBW4 := Lib.hid (HBW3.out.trans (hb4.mono HBW3.out.size)); have HCP := Lib.hid (copyB_any w3.heap.size Z c3 A3 zs w4 HZ4.out (by omega)); clear ho4 hb4 hr4)))
        have hab5 : zs.length + 1 ≤ 140737488355328 := by rw [HZL.out]; omega
        have hZ1 : (zs ++ [0]).length = Z + 1 := by rw [List.length_append, HZL.out]; rfl
        go_upto_region 15 with (first
          | (go_at_call 8; (with_reducible refine HCP.out.mono ?_); go_must (rintro e w5 ⟨v5, rfl, ho5, hb5⟩; have HO5 := Lib.hid ho5; have hs5 := hb5.size; have hs5a : w4.heap.size ≤ (w5.alloc (.cells #[.int .u8 0] 5)).heap.size := (by rw [World.size_alloc]; omega); have HB5 := Lib.hid (hb5.alloc hs5 (.cells #[.int .u8 0] 5)); clear ho5 hb5))
          | (at_builtin; (refine wpList_appendB rfl (.tmp 73) (.tmp 74) rfl w4.heap.size _ zs rfl (ownB.alloc HO5.out _) (w5.heap.size + 1) 1 1 (some ⟨w5.heap.size, 0, none⟩) [0] rfl (rd_one w5 0 0 rfl) hab5 hs5a ?_; intro v6 w6 ho6 hg6 hb6 hat6; obtain ⟨A6, c6, hv6, -, hc6, -⟩ := ho6.form; have hr6 := ownB.rd (hv6 ▸ ho6); rw [hZ1] at hv6 hr6 hc6; subst hv6; have HI6 := Lib.hid (whole_any w6.heap.size (Z + 1) c6 A6 (zs ++ [0]) (L : Int) w6 hr6 (Nat.le_refl _) hc6 (by omega)); rw [HI2.out] at HI6; have hb46 := HB5.out.trans hb6; have hs6 := hb46.size; have HB46 := Lib.hid hb46; clear ho6 hg6 hb6 hat6 hr6 hb46))
          | (go_at_call 14; (with_reducible refine HI6.out.mono ?_); go_must (rintro e w7 ⟨v7, rfl, ho7, hb7⟩; clear ho7; have hs7 := hb7.size; have hb47 := HB46.out.trans (hb7.mono hs6); have HZ7 := Lib.hid (HZ4.out.blw (hb47.mono hs4)); have HA7 := Lib.hid (HA4.out.blw (hb47.mono (Nat.le_trans hs3 hs4))); have HX7 := Lib.hid (RdB.blw HX4.out hb47); have HBW7 := Lib.hid (HBW4.out.trans (hb47.mono HBW4.out.size)); have HCP7 := Lib.hid (copyB_any w3.heap.size Z c3 A3 zs w7 HZ7.out (by omega)); clear hb7 hb47)))
        go_upto_region 16 with (first
          | (go_at_call 8; (with_reducible refine HCP7.out.mono ?_); go_must (rintro e w8 ⟨v8, rfl, ho8, hb8⟩; have HO8 := Lib.hid ho8; have hs8 := hb8.size; have hs8a : w7.heap.size ≤ (w8.alloc (.cells #[.int .u8 0] 5)).heap.size := (by rw [World.size_alloc]; omega); have HB8 := Lib.hid (hb8.alloc hs8 (.cells #[.int .u8 0] 5)); clear ho8 hb8))
          | (at_builtin; (refine wpList_appendB rfl (.tmp 83) (.tmp 84) rfl w7.heap.size _ zs rfl (ownB.alloc HO8.out _) (w8.heap.size + 1) 1 1 (some ⟨w8.heap.size, 0, none⟩) [0] rfl (rd_one w8 0 0 rfl) hab5 hs8a ?_; intro v9 w9 ho9 hg9 hb9 hat9; obtain ⟨A9, c9, hv9, -, hc9, -⟩ := ho9.form; have hr9 := ownB.rd (hv9 ▸ ho9); rw [hZ1] at hv9 hr9 hc9; subst hv9; have HI9 := Lib.hid (unpack_any w9.heap.size (Z + 1) c9 A9 (zs ++ [0]) (L : Int) w9 hr9 (Nat.le_refl _) hc9 (by omega)); rw [HI3.out] at HI9; have hb79 := HB8.out.trans hb9; have hs9 := hb79.size; have HB79 := Lib.hid hb79; clear ho9 hg9 hb9 hat9 hr9 hb79))
          | (go_at_call 15; (with_reducible refine HI9.out.mono ?_); go_must (rintro e w10 ⟨v10, rfl, ho10, hb10⟩; obtain ⟨A10, c10, hv10, -, -, -⟩ := ho10.form; have hr10 := ownB.rd (hv10 ▸ ho10); simp only [] at hv10 hr10; rw [HAL.out] at hv10 hr10; subst hv10; have HY10 := Lib.hid hr10; have hs10 := hb10.size; have hb710 := HB79.out.trans (hb10.mono hs9); have hs47 : wr.heap.size ≤ w7.heap.size := (by omega); have HZ10 := Lib.hid (HZ7.out.blw (hb710.mono (by omega))); have HA10 := Lib.hid (HA7.out.blw (hb710.mono hs47)); have HX10 := Lib.hid (RdB.blw HX7.out (hb710.mono (by omega))); have HBW10 := Lib.hid (HBW7.out.trans (hb710.mono HBW7.out.size)); have HCP10 := Lib.hid (copyB_any w3.heap.size Z c3 A3 zs w10 HZ10.out (by omega)); clear ho10 hb10 hb710 hr10)))
        go_upto_region 18 with (first
          | (go_at_call 8; (with_reducible refine HCP10.out.mono ?_); go_must (rintro e w11 ⟨v11, rfl, ho11, hb11⟩; have HT := Lib.hid ho11; have hs11 := hb11.size; have HX11 := Lib.hid (RdB.blw HX10.out (hb11.mono (by omega))); have HY11 := Lib.hid (RdB.blw HY10.out hb11); have HA11 := Lib.hid (HA10.out.blw (hb11.mono (by omega))); have HBW11 := Lib.hid (HBW10.out.trans (hb11.mono HBW10.out.size)); clear ho11 hb11)))
        obtain ⟨A11, n11, c11, e11⟩ : ∃ A n c, v11 = .slice A n c := by obtain ⟨A, c, e, -, -, -⟩ := HT.out.form; exact ⟨A, zs.length, c, e⟩
        subst e11
        obtain ⟨hn11, g, rfl, hg, hg2⟩ := HT.out.pos (by obtain ⟨A, c, e, -, -, -⟩ := HT.out.form; injection e with _ e1 e2; rw [e1, HZL.out]; omega)
        have hnZ : n11 = Z := by rw [hn11, HZL.out]
        subst hnZ
        obtain ⟨p, hp⟩ : ∃ p, (if q < 2 then q else n11 - 6 + q) = p := ⟨_, rfl⟩
        have hpZ : p < n11 := by rw [← hp]; split <;> omega
        obtain ⟨x, HX, cx⟩ := HT.out.byte hn11 hpZ
        have fx := HT.out.frozen hn11 p
        obtain ⟨M, hM⟩ : ∃ M, 2 ^ j = M := ⟨_, rfl⟩
        have hM8 : M < 256 := by
          rw [← hM]
          rcases (show j = 0 ∨ j = 1 ∨ j = 2 ∨ j = 3 ∨ j = 4 ∨ j = 5 ∨ j = 6 ∨ j = 7 by omega) with rfl | rfl | rfl | rfl | rfl | rfl | rfl | rfl <;> decide
        have hMI : (2 : Int) ^ j = (M : Int) := by rw [← hM]; push_cast; rfl
        obtain ⟨y, hy⟩ : ∃ y : UInt8, y = UInt8.ofNat (x.toNat ^^^ M) := ⟨_, rfl⟩
        have hx8 := x.toNat_lt
        have hyn : y.toNat = x.toNat ^^^ M := by
          rw [hy, UInt8.toNat_ofNat', Nat.mod_eq_of_lt (Nat.xor_lt_two_pow (n := 8) (by omega) (by omega))]
        have hyv : bits .xor .u8 (x.toNat : Int) (M : Int) = (y.toNat : Int) := by rw [u8_xor_nat _ _ (by omega) (by omega), hyn]
        have wM : IntKind.u8.wrap (M : Int) = (M : Int) := by simp [IntKind.wrap, IntKind.bits, IntKind.signed]; omega
        have hbad := HI4.out q j p y hq6 hj8 hp.symm (by rw [hyn, hM, getD_at HX.out])
        have HST := Lib.hid (HT.out.store hn11 p y)
        have HWB := Lib.hid (HBW11.out.setCell (p := ⟨g, p, none⟩) (by show w.heap.size ≤ g; have := HBW10.out.size; omega) (.int .u8 (y.toNat : Int)))
        have hset : (zs.set p y).length = n11 := by rw [List.length_set, hn11]
        have hsb : Below w10.heap.size w11 (w11.setCell ⟨g, p, none⟩ (.int .u8 (y.toNat : Int))) := (Below.refl w10.heap.size w11).setCell (p := ⟨g, p, none⟩) hg _
        have hs4a : w4.heap.size ≤ w10.heap.size := by omega
        have hsr4 : wr.heap.size ≤ w10.heap.size := by omega
        have HXS := Lib.hid (RdB.blw HX11.out (hsb.mono hs4a))
        have HYS := Lib.hid (RdB.blw HY11.out hsb)
        have HAS := Lib.hid (HA11.out.blw (hsb.mono hsr4))
        clear HX HX11 HY11 HA11 HX10 HY10 HA10 HX7 HA7 HX4 HA4 hsb hy hM hyn HT HBW11
        obtain ⟨ws, hws⟩ : ∃ ws, w11.setCell ⟨g, p, none⟩ (.int .u8 (y.toNat : Int)) = ws := ⟨_, rfl⟩
        rw [hws] at HST HWB HXS HYS HAS
        obtain ⟨zt, hzt⟩ : ∃ zt, zs.set p y = zt := ⟨_, rfl⟩
        rw [hzt] at HST hbad hset
        have hrs := ownB.rd HST.out
        have hc11 : n11 ≤ c11 := by obtain ⟨A, c, e, -, h, -⟩ := HST.out.form; injection e with _ _ e3; omega
        have HI12 := Lib.hid (whole_any ws.heap.size n11 c11 (some ⟨g, 0, none⟩) zt (L : Int) ws hrs (Nat.le_refl _) hc11 (by omega))
        obtain ⟨E, hE⟩ : ∃ E, (wholP zt (L : Int)).2 = E := ⟨_, rfl⟩
        rw [hE] at HI12 hbad
        have he9b : (E != 0) = true := by rw [bne_iff_ne]; exact hbad
        have hsz : w10.heap.size ≤ ws.heap.size := by rw [← hws]; show _ ≤ (w11.setCell _ _).heap.size; simp; exact hs11
        clear hn11
        clear HST hrs hset HCP HCP7 HCP10 HI1 HI2 HI3 HI4 HZ1 HPK
        by_cases hq2 : q < 2
        · have hq2i : ¬ (q : Int) ≥ 2 := by omega
          rw [if_pos hq2] at hp
          subst hp
          go_upto_region 21 with (fail)
          go_wp2_with (first
            | (go_at_call 14; (with_reducible refine HI12.out.mono ?_); go_must (rintro e w12 ⟨v12, rfl, ho12, hb12⟩; have hs12 := hb12.size; have HX12 := Lib.hid (RdB.blw HXS.out (hb12.mono (Nat.le_trans hs4a hsz))); have HY12 := Lib.hid (RdB.blw HYS.out (hb12.mono hsz)); have HA12 := Lib.hid (HAS.out.blw (hb12.mono (Nat.le_trans hsr4 hsz))); have HBW12 := Lib.hid (HWB.out.trans (hb12.mono HWB.out.size)); clear ho12 hb12))
            | (go_at_call 12; (with_reducible refine (first8_any _).mono ?_); go_must (rintro e w13 ⟨rfl, hb13⟩; have hq1 : w4.heap.size ≤ w12.heap.size := (by omega); have HX13 := RdB.blw HX12.out (hb13.mono hq1); have HY13 := RdB.blw HY12.out (hb13.mono (by omega)); have HA13 := HA12.out.blw (hb13.mono (by omega)); have HB13 := Lib.hid (HBW12.out.trans (hb13.mono HBW12.out.size)); have HBX := Lib.hid (bytes_any w4.heap.size L c4 wr.heap.size L nv A4 Av all all w13 HX13 HA13); rw [beq_self_eq_true] at HBX; have HBY := Lib.hid (bytes_any w10.heap.size L c10 wr.heap.size L nv A10 Av all all w13 HY13 HA13); rw [beq_self_eq_true] at HBY; clear hb13 HX13 HY13 HA13))
            | (go_at_call 11; (with_reducible refine HBX.out.mono ?_); go_must (rintro e w14 ⟨rfl, rfl⟩))
            | (go_at_call 11; (with_reducible refine HBY.out.mono ?_); go_must (rintro e w15 ⟨rfl, rfl⟩)))
          go_ret
          exact ⟨rfl, HB13.out⟩
        · have hq2i : (q : Int) ≥ 2 := by omega
          rw [if_neg hq2] at hp
          have hpI : (n11 : Int) - 6 + (q : Int) = (p : Int) := by omega
          go_upto_region 21 with (fail)
          go_wp2_with (first
            | (go_at_call 14; (with_reducible refine HI12.out.mono ?_); go_must (rintro e w12 ⟨v12, rfl, ho12, hb12⟩; have hs12 := hb12.size; have HX12 := Lib.hid (RdB.blw HXS.out (hb12.mono (Nat.le_trans hs4a hsz))); have HY12 := Lib.hid (RdB.blw HYS.out (hb12.mono hsz)); have HA12 := Lib.hid (HAS.out.blw (hb12.mono (Nat.le_trans hsr4 hsz))); have HBW12 := Lib.hid (HWB.out.trans (hb12.mono HWB.out.size)); clear ho12 hb12))
            | (go_at_call 12; (with_reducible refine (first8_any _).mono ?_); go_must (rintro e w13 ⟨rfl, hb13⟩; have hq1 : w4.heap.size ≤ w12.heap.size := (by omega); have HX13 := RdB.blw HX12.out (hb13.mono hq1); have HY13 := RdB.blw HY12.out (hb13.mono (by omega)); have HA13 := HA12.out.blw (hb13.mono (by omega)); have HB13 := Lib.hid (HBW12.out.trans (hb13.mono HBW12.out.size)); have HBX := Lib.hid (bytes_any w4.heap.size L c4 wr.heap.size L nv A4 Av all all w13 HX13 HA13); rw [beq_self_eq_true] at HBX; have HBY := Lib.hid (bytes_any w10.heap.size L c10 wr.heap.size L nv A10 Av all all w13 HY13 HA13); rw [beq_self_eq_true] at HBY; clear hb13 HX13 HY13 HA13))
            | (go_at_call 11; (with_reducible refine HBX.out.mono ?_); go_must (rintro e w14 ⟨rfl, rfl⟩))
            | (go_at_call 11; (with_reducible refine HBY.out.mono ?_); go_must (rintro e w15 ⟨rfl, rfl⟩)))
          go_ret
          exact ⟨rfl, HB13.out⟩
end Go.Proofs.Ytfafijhmjnkjeaa
