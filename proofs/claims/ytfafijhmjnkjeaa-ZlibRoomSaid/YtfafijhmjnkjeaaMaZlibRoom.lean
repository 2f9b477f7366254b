/- ZlibRoom. -/
import Derived.Test.YtfafijhmjnkjeaaMa41
import Derived.Test.YtfafijhmjnkjeaaMaZlibParts
namespace Go.Proofs.Ytfafijhmjnkjeaa
set_option linter.all false
open Go.RowKit

theorem z_less_more {bz b more : List UInt8} (hb : b.length ≤ 40000) (hw : WB bz (deflB b (findP b))) : ¬ (inflP (bz ++ more) ((b.length : Int) - 1)).2.2 = 0 := by
  intro h
  obtain ⟨h1, h2, h3⟩ := inflP_zero h
  have h4 := infS_ext (more := []) (most' := (b.length : Int)) (by omega) h3
  rw [List.append_nil] at h4
  have h6 := z_back (most := (b.length : Int)) hb (Int.le_refl _) hw
  have h7 := infS_ext (more := more) (most' := (b.length : Int)) (Int.le_refl _) (by rw [h6])
  have h5 := infS_le (bs := bz ++ more) h1
  rw [← h4, h7, h6] at h5
  have h8 : (b.length : Int) ≤ (b.length : Int) - 1 := h5
  omega
theorem unpk_less {b bz S : List UInt8} (hb : b.length ≤ 40000) (hw : WB bz (deflB b (findP b))) (hS : S = beB (adler b) 4) : ¬ (unpkP (packL bz S) ((b.length : Int) - 1)).2.2 = 0 := by
  have hl := packL_len bz S
  have hh := packL_hd bz S []
  have hd := packL_drop bz S []
  rw [List.append_nil] at hh hd
  rw [List.append_nil] at hd
  have h1 := z_less_more (more := S) hb hw
  unfold unpkP
  rw [if_neg (by omega), hh, if_neg (by decide), hd, if_neg h1]
  exact h1
set_option maxRecDepth 100000 in
set_option maxHeartbeats 12800000 in
theorem zlibRoom_walk (n0 c0 : Nat) (A0 : Option Addr) (bs : List UInt8) (n1 c1 : Nat) (A1 : Option Addr) (ms : List UInt8) (w : World) (ha : RdB w w.heap.size A0 n0 bs) (hc0 : n0 ≤ c0) (hm : RdB w w.heap.size A1 n1 ms) :
    Calls Try.prog 5 #[.slice A0 n0 c0, .slice A1 n1 c1] w fun e w' => e = .returned (.bool true) ∧ Below w.heap.size w w' := by
  have HR := Lib.hid ha
  have HM := Lib.hid hm
  have hl := ha.len
  have hlm := hm.len
  clear ha hm
  by_cases hbad : 4000 < n0 ∨ 400 < n1
  · have key : (4000 : Int) < (n0 : Int) ∨ (¬ (4000 : Int) < (n0 : Int) ∧ (400 : Int) < (n1 : Int)) := by omega
    clear hbad
    rcases key with h1 | ⟨h1, h2⟩ <;>
      · go_enter Try.func5, Try.ntmps5
        go_wp2_with (go_at_call 12; (with_reducible refine (first8_any _).mono ?_); go_must (rintro e w1 ⟨rfl, hb1⟩; first | (have HB9 := Lib.hid (HB1.out.trans (hb1.mono HB1.out.size))) | (have HB1 := Lib.hid hb1); clear hb1))
        go_ret
        exact ⟨rfl, HB9.out⟩
  · have h1 : ¬ (4000 : Int) < (n0 : Int) := by omega
    have h2 : ¬ (400 : Int) < (n1 : Int) := by omega
    clear hbad
    obtain ⟨S, hS, hS4⟩ := big4 (adler_lt bs)
    have HPK := Lib.hid (fun w' (h : RdB w' w.heap.size A0 n0 bs) (hb : w.heap.size ≤ w'.heap.size) => pack_any w.heap.size n0 c0 A0 bs S w' h hb (by omega) hc0 hS hS4)
    have hSb := big4b (adler_lt bs) hS
    have HZ1 : Hid (∀ bz, WB bz (deflB bs (findP bs)) → (packL bz S).length ≤ 4011 ∧ unpkP (packL bz S ++ ms) (n0 : Int) = (bs, (packL bz S).length, 0) ∧ ¬ (unpkP (packL bz S) ((n0 : Int) - 1)).2.2 = 0 ∧ (wholP (packL bz S ++ ms) 40000).2 = (if n1 = 0 then 0 else 3)) := (show ∀ bz, _ from fun bz h => by
      rw [← hl]
      have g1 := best_len h
      have g2 := packL_len bz S
      rw [hS4] at g2
      refine ⟨by omega, unpk_back (by omega) h hSb (infl_more (by omega) (Int.le_refl _) (by omega) h), unpk_less (by omega) h hSb, ?_⟩
      by_cases hn : n1 = 0
      · have : ms = [] := List.length_eq_zero_iff.1 (by omega)
        rw [if_pos hn, this, List.append_nil, whol_back (by omega) (by omega) (Int.le_refl _) h hSb]
      · rw [if_neg hn, whol_more (by intro e; rw [e] at hlm; exact hn hlm.symm) (by omega) (by omega) (Int.le_refl _) h hSb])
    have hE3 : ∃ E : Int, (if n1 = 0 then (0 : Int) else 3) = E ∧ ((E == 0) == ((n1 : Int) == 0)) = true := ⟨_, rfl, by
      by_cases hn : n1 = 0
      · rw [if_pos hn, hn]; rfl
      · rw [if_neg hn]
        have : ((n1 : Int) == 0) = false := beq_eq_false_iff_ne.2 (by omega)
        rw [this]; rfl⟩
    obtain ⟨E, hE, hE2⟩ := hE3
    rw [hE] at HZ1
    clear hS hSb hE
    go_enter Try.func5, Try.ntmps5
    go_upto_region 6 with (first
      | (go_at_call 12; (with_reducible refine (first8_any _).mono ?_); go_must (rintro e w1 ⟨rfl, hb1⟩; have HB1 := Lib.hid hb1; have hs1 := hb1.size; have HR1 := Lib.hid (HR.out.blw hb1); have HM1 := Lib.hid (HM.out.blw hb1); have HPK1 := Lib.hid (HPK.out w1 HR1.out hs1); clear hb1))
      | (go_at_call 13; (with_reducible refine HPK1.out.mono ?_); go_must (rintro e w3 ⟨v3, bz, rfl, ho3, hz3, hb3⟩; obtain ⟨hz5, hi1, hi2, hi3⟩ := HZ1.out bz hz3; obtain ⟨zs, hzs⟩ : ∃ zs, packL bz S = zs := ⟨_, rfl⟩; rw [hzs] at ho3 hz5 hi1 hi2 hi3; clear hzs; obtain ⟨A3, c3, hv3, -, hcz, -⟩ := ho3.form; have hr3 := ownB.rd (hv3 ▸ ho3); obtain ⟨Z, hZ⟩ : ∃ Z, zs.length = Z := ⟨_, rfl⟩; rw [hZ] at hv3 hr3 hz5 hcz hi1; subst hv3; have HI1 := Lib.hid hi1; have HI2 := Lib.hid hi2; have HI3 := Lib.hid hi3; have HZL := Lib.hid hZ; have HZ3 := Lib.hid hr3; have hs3 := hb3.size; have HR3 := Lib.hid (HR1.out.blw (hb3.mono hs1)); have HM3 := Lib.hid (HM1.out.blw (hb3.mono hs1)); have HB3 := Lib.hid (HB1.out.trans (hb3.mono hs1)); have HCP := Lib.hid (copyB_any w3.heap.size Z c3 A3 zs w3 HZ3.out (by omega)); clear ho3 hz3 hb3 hi1 hi2 hi3 hr3 hZ)))
    have hab : zs.length + n1 ≤ 140737488355328 := by rw [HZL.out]; omega
    have hZ1 : (zs ++ ms).length = Z + n1 := by rw [List.length_append, HZL.out, hlm]
    have hws : w.heap.size ≤ w3.heap.size := by omega
    clear HPK HPK1 HZ1 HR1 HM1
    go_upto_region 7 with (first
      | (go_at_call 8; (with_reducible refine HCP.out.mono ?_); go_must (rintro e w4 ⟨v4, rfl, ho4, hb4⟩; have HO4 := Lib.hid ho4; have hs4 := hb4.size; have HB4 := Lib.hid hb4; have HM4 := Lib.hid (HM3.out.blw (hb4.mono hws)); clear ho4 hb4))
      | (at_builtin; (refine wpList_appendB rfl (.tmp 33) (.tmp 34) rfl w3.heap.size _ zs rfl HO4.out w.heap.size n1 c1 A1 ms rfl HM4.out hab hs4 ?_; intro v6 w6 ho6 hg6 hb6 hat6; obtain ⟨A6, c6, hv6, -, hc6, -⟩ := ho6.form; have hr6 := ownB.rd (hv6 ▸ ho6); rw [hZ1] at hv6 hr6 hc6; subst hv6; have HI6 := Lib.hid (unpack_any w6.heap.size (Z + n1) c6 A6 (zs ++ ms) (n0 : Int) w6 hr6 (Nat.le_refl _) hc6 (by omega)); rw [HI1.out] at HI6; have hb36 := HB4.out.trans hb6; have hs6 := hb36.size; have HB36 := Lib.hid hb36; clear ho6 hg6 hb6 hat6 hr6 hb36))
      | (go_at_call 15; (with_reducible refine HI6.out.mono ?_); go_must (rintro e w7 ⟨v7, rfl, ho7, hb7⟩; obtain ⟨A7, c7, hv7, -, -, -⟩ := ho7.form; have hr7 := ownB.rd (hv7 ▸ ho7); simp only [] at hv7 hr7; rw [hl] at hv7 hr7; subst hv7; have HX7 := Lib.hid hr7; have hs7 := hb7.size; have hb37 := HB36.out.trans (hb7.mono hs6); have HZ7 := Lib.hid (RdB.blw HZ3.out hb37); have HR7 := Lib.hid (HR3.out.blw (hb37.mono hws)); have HM7 := Lib.hid (HM3.out.blw (hb37.mono hws)); have HB7 := Lib.hid (HB3.out.trans (hb37.mono hws)); have hs37 := hb37.size; have HU7 := Lib.hid (unpack_any w3.heap.size Z c3 A3 zs ((n0 : Int) - 1) w7 HZ7.out hs37 hcz (by omega)); clear ho7 hb7 hb37 hr7)))
    obtain ⟨E2, hE9⟩ : ∃ E, (unpkP zs ((n0 : Int) - 1)).2.2 = E := ⟨_, rfl⟩
    have he9 := HI2.out
    rw [hE9] at he9
    have he9b : (E2 != 0) = true := by rw [bne_iff_ne]; exact he9
    have he9c : (E2 == 0) = false := beq_eq_false_iff_ne.2 he9
    rw [hE9] at HU7
    clear HI2 HI1 hE9 HCP
    go_upto_region 8 with (first
      | (go_at_call 15; (with_reducible refine HU7.out.mono ?_); go_must (rintro e w8 ⟨v8, rfl, ho8, hb8⟩; have hs8 := hb8.size; have HZ8 := Lib.hid (HZ7.out.blw (hb8.mono hs37)); have HR8 := Lib.hid (HR7.out.blw (hb8.mono (by omega))); have HM8 := Lib.hid (HM7.out.blw (hb8.mono (by omega))); have HX8 := Lib.hid (RdB.blw HX7.out hb8); have HB8 := Lib.hid (HB7.out.trans (hb8.mono HB7.out.size)); have HCP8 := Lib.hid (copyB_any w3.heap.size Z c3 A3 zs w8 HZ8.out (by omega)); clear ho8 hb8)))
    have hws8 : w.heap.size ≤ w8.heap.size := by omega
    have HWH := Lib.hid (fun w6 A6 c6 (hr6 : RdB w6 w6.heap.size A6 (Z + n1) (zs ++ ms)) (hc6 : Z + n1 ≤ c6) => whole_any w6.heap.size (Z + n1) c6 A6 (zs ++ ms) 40000 w6 hr6 (Nat.le_refl _) hc6 (by omega))
    rw [HI3.out] at HWH
    clear HU7 HI3
    go_wp2_with (first
      | (go_at_call 8; (with_reducible refine HCP8.out.mono ?_); go_must (rintro e w9 ⟨v9, rfl, ho9, hb9⟩; have HO9 := Lib.hid ho9; have hs9 := hb9.size; have HB9 := Lib.hid hb9; have HM9 := Lib.hid (HM8.out.blw (hb9.mono hws8)); clear ho9 hb9))
      | (at_builtin; (refine wpList_appendB rfl (.tmp 53) (.tmp 54) rfl w8.heap.size _ zs rfl HO9.out w.heap.size n1 c1 A1 ms rfl HM9.out hab hs9 ?_; intro v10 w10 ho10 hg10 hb10 hat10; obtain ⟨A10, c10, hv10, -, hc10, -⟩ := ho10.form; have hr10 := ownB.rd (hv10 ▸ ho10); rw [hZ1] at hv10 hr10 hc10; subst hv10; have HI10 := Lib.hid (HWH.out w10 A10 c10 hr10 hc10); have hb810 := HB9.out.trans hb10; have hs10 := hb810.size; have HB810 := Lib.hid hb810; clear ho10 hg10 hb10 hat10 hr10 hb810))
      | (go_at_call 14; (with_reducible refine HI10.out.mono ?_); go_must (rintro e w11 ⟨v11, rfl, ho11, hb11⟩; clear ho11; have hs11 := hb11.size; have hb811 := HB810.out.trans (hb11.mono hs10); have HX11 := Lib.hid (RdB.blw HX8.out (hb811.mono (by omega))); have HR11 := Lib.hid (HR8.out.blw (hb811.mono hws8)); have HB11 := Lib.hid (HB8.out.trans (hb811.mono hws8)); have hs811 := hb811.size; clear hb11 hb811))
      | (go_at_call 12; (with_reducible refine (first8_any _).mono ?_); go_must (rintro e w13 ⟨rfl, hb13⟩; have HX13 := RdB.blw HX11.out (hb13.mono (by omega)); have HR13 := HR11.out.blw (hb13.mono HB11.out.size); have HB13 := Lib.hid (HB11.out.trans (hb13.mono HB11.out.size)); have HBX := Lib.hid (bytes_any w7.heap.size n0 c7 w.heap.size n0 c0 A7 A0 bs bs w13 HX13 HR13); rw [beq_self_eq_true] at HBX; clear hb13 HX13 HR13))
      | (go_at_call 11; (with_reducible refine HBX.out.mono ?_); go_must (rintro e w14 ⟨rfl, rfl⟩)))
    go_ret
    exact ⟨rfl, HB13.out⟩
end Go.Proofs.Ytfafijhmjnkjeaa
