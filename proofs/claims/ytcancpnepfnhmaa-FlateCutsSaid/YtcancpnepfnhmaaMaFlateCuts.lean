/- FlateCuts. -/
import Derived.Test.YtcancpnepfnhmaaMa40
import Derived.Test.YtcancpnepfnhmaaMa37
import Derived.Test.YtcancpnepfnhmaaMa31
namespace Go.Proofs.Ytcancpnepfnhmaa
set_option linter.all false
open Go.RowKit

set_option maxRecDepth 100000 in
set_option maxHeartbeats 6400000 in
theorem flateCuts_walk (n0 c0 : Nat) (A0 : Option Addr) (bs : List UInt8) (x : Int) (n2 c2 : Nat) (A2 : Option Addr) (ms : List UInt8) (w : World) (ha : RdB w w.heap.size A0 n0 bs) (hcap : n0 ≤ c0) (hc : RdB w w.heap.size A2 n2 ms) :
    Calls Try.prog 5 #[.slice A0 n0 c0, .int .i64 x, .slice A2 n2 c2] w fun e w' => e = .returned (.bool true) ∧ Below w.heap.size w w' := by
  have HR := Lib.hid ha
  have HM := Lib.hid hc
  have hl := ha.len
  have hl2 := hc.len
  clear ha hc
  by_cases hbad : 2000 < n0 ∨ x < 0 ∨ 2000 < n2
  · have key : ((2000 : Int) < (n0 : Int)) ∨ (¬ (2000 : Int) < (n0 : Int) ∧ x < 0) ∨ (¬ (2000 : Int) < (n0 : Int) ∧ ¬ x < 0 ∧ (2000 : Int) < (n2 : Int)) := by omega
    clear hbad
    rcases key with h1 | ⟨h1, h2⟩ | ⟨h1, h2, h3⟩ <;>
      · go_enter Try.func5, Try.ntmps5
        go_wp2_with (go_at_call 13; (with_reducible refine (first7_any _).mono ?_); go_must (rintro e w1 ⟨rfl, hb1⟩; first | (have HB9 := Lib.hid (HB1.out.trans (hb1.mono HB1.out.size))) | (have HB1 := Lib.hid hb1); clear hb1))
        go_ret
        exact ⟨rfl, HB9.out⟩
  · obtain ⟨h1, h2, h3⟩ : ¬ (2000 : Int) < (n0 : Int) ∧ ¬ x < 0 ∧ ¬ (2000 : Int) < (n2 : Int) := by omega
    obtain ⟨K, rfl⟩ : ∃ K : Nat, x = (K : Int) := ⟨x.toNat, by omega⟩
    have HDF := Lib.hid (fun w1 (h : RdB w1 w.heap.size A0 n0 bs) (hB : w.heap.size ≤ w1.heap.size) => deflate_all w.heap.size n0 c0 A0 bs w1 h hB (by omega) hcap)
    have HZ1 : Hid (∀ bz, WB bz (deflB bs (findP bs)) → bz.length ≤ 40005 ∧ 1 ≤ bz.length ∧ ∀ k, k < bz.length → ¬ (inflP (bz.take k) 40000).2.2 = 0) := (show ∀ bz, _ from fun bz h => by
      have h1 := best_len h
      exact ⟨by omega, z_pos h, fun k hk => z_cut (by omega) h hk⟩)
    have HK3 : Hid (¬ (inflP ([7] ++ ms) 40000).2.2 = 0) := (show ¬ _ from kind3 ms 40000)
    have HAN : Hid ((¬ (inflP ms 40000).2.2 = 0 ∧ (inflP ms 40000).1.length = 0) ∨ ((inflP ms 40000).2.2 = 0 ∧ 1 ≤ (inflP ms 40000).2.1 ∧ (inflP ms 40000).2.1 ≤ n2 ∧ (inflP ms 40000).1.length ≤ 40000)) := (show _ ∨ _ from by
      by_cases h : (inflP ms 40000).2.2 = 0
      · obtain ⟨g1, g2, g3⟩ := inflP_rng h
        exact .inr ⟨h, g1, by omega, by omega⟩
      · exact .inl ⟨h, by rw [inflP_none h]; rfl⟩)
    clear hbad
    go_enter Try.func5, Try.ntmps5
    go_upto_region 8 with (first
      | (go_at_call 13; (with_reducible refine (first7_any _).mono ?_); go_must (rintro e w1 ⟨rfl, hb1⟩; have HB1 := Lib.hid hb1; have HDF1 := Lib.hid (HDF.out _ (HR.out.blw hb1) hb1.size); clear hb1))
      | (go_at_call 18; (with_reducible refine HDF1.out.mono ?_); go_must (rintro e w3 ⟨v3, bz, rfl, ho3, hz3, hb3⟩; obtain ⟨hz5, hz6, hi1⟩ := HZ1.out bz hz3; obtain ⟨A3, c3, hv3, -, hc3, hc4⟩ := ho3.form; have hr3 := ownB.rd (hv3 ▸ ho3); obtain ⟨Z, hZ⟩ : ∃ Z, bz.length = Z := ⟨_, rfl⟩; rw [hZ] at hv3 hr3 hz5 hz6 hi1 hc3; subst hv3; have HI1 := Lib.hid hi1; have hZ0 : ((Z : Int) == 0) = false := beq_eq_false_iff_ne.2 (by omega); have HZL := Lib.hid hZ; have HZ3 := Lib.hid hr3; have hs3 := hb3.size; have HB3 := Lib.hid (HB1.out.trans (hb3.mono HB1.out.size)); clear ho3 hz3 hb3 hi1 hr3 hZ)))
    obtain ⟨q, hq⟩ : ∃ q, K % Z = q := ⟨_, rfl⟩
    have hqlt : q < Z := by rw [← hq]; exact Nat.mod_lt _ (by omega)
    have hq1 : (K : Int).tmod (Z : Int) = (q : Int) := by rw [← hq]; rfl
    have hq2 : (K : Int) % (Z : Int) = (q : Int) := by rw [← hq]; rfl
    have hq3 : IntKind.i64.wrap (q : Int) = (q : Int) := wrap_i64_lt q (by omega)
    have hZ1 : ¬ (Z : Int) = 0 := by omega
    have hqc : (q : Int) ≤ (c3 : Int) := by omega
    have hq0 : q ≤ c3 := by omega
    have hE4 := HI1.out q hqlt
    have hr3 : RdB w3 w3.heap.size A3 q (bz.take q) := by
      have h1 := RdB.cut HZ3.out (k := 0) (m := q) (by omega) (A' := A3) (fun _ => by cases A3 <;> rfl)
      rwa [List.drop_zero] at h1
    have HI3 := Lib.hid (inflate_all w3.heap.size q c3 A3 (bz.take q) 40000 w3 hr3 (Nat.le_refl _) (by omega))
    have hsw := HB3.out.size
    clear hq hr3 HI1 HDF HDF1 HZ1 HR
    generalize inflP (bz.take q) 40000 = I1 at *
    obtain ⟨⟨xs2, N2, E2⟩, hI2⟩ : ∃ I, inflP ([7] ++ ms) 40000 = I := ⟨_, rfl⟩
    obtain ⟨⟨xs3, N3, E3⟩, hI3⟩ : ∃ I, inflP ms 40000 = I := ⟨_, rfl⟩
    obtain ⟨xs1, N1, E1⟩ := I1
    have hK2 := HK3.out
    rw [hI2] at hK2
    rw [hI3] at HAN
    replace HAN : Hid ((¬ E3 = 0 ∧ xs3.length = 0) ∨ (E3 = 0 ∧ 1 ≤ N3 ∧ N3 ≤ n2 ∧ xs3.length ≤ 40000)) := HAN
    replace hE4 : ¬ E1 = 0 := hE4
    replace hK2 : ¬ E2 = 0 := hK2
    have d1 : (E1 != 0) = true := by rw [bne_iff_ne]; exact hE4
    have d2 : (E2 != 0) = true := by rw [bne_iff_ne]; exact hK2
    have HI2 := Lib.hid hI2
    have HI33 := Lib.hid hI3
    clear hI2 hI3 HK3
    go_upto_region 11 with (first
      | (go_at_call 15; (with_reducible refine HI3.out.mono ?_); go_must (rintro e w4 ⟨v4, rfl, ho4, hb4⟩; have hs4 := hb4.size; have HB4 := Lib.hid (HB3.out.trans (hb4.mono hsw)); have HM4 := Lib.hid (HM.out.blw HB4.out); have HOL := Lib.hid (own_lit w4 [7] (by decide)); have HM4a := Lib.hid (Rd.alloc HM4.out HB4.out.size (.cells #[Value.int .u8 7] 5)); have hab4 : ([7] : List UInt8).length + n2 ≤ 140737488355328 := (by show 1 + n2 ≤ _; omega); have hba4 : w4.heap.size ≤ (w4.alloc (.cells #[Value.int .u8 7] 5)).heap.size := alloc_le _ _; clear ho4 hb4))
      | (at_builtin; (refine wpList_appendB rfl (.tmp 57) (.tmp 58) rfl w4.heap.size (.slice (some ⟨w4.heap.size, 0, none⟩) 1 1) [7] rfl HOL.out w.heap.size n2 c2 A2 ms rfl HM4a.out hab4 hba4 ?_; intro v6 w6 ho6 hg6 hb6 hat6; obtain ⟨A6, c6, hv6, -, -, -⟩ := ho6.form; have hr6 := ownB.rd (hv6 ▸ ho6); have hl6 : (([7] : List UInt8) ++ ms).length = 1 + n2 := (by rw [List.length_append, hl2]; rfl); rw [hl6] at hv6 hr6; subst hv6; have HI26 := Lib.hid (inflate_all w6.heap.size (1 + n2) c6 A6 ([7] ++ ms) 40000 w6 hr6 (Nat.le_refl _) (by omega)); rw [HI2.out] at HI26; have HB6 := Lib.hid (HB4.out.trans ((Below.refl w4.heap.size w4).alloc (Nat.le_refl _) (.cells #[Value.int .u8 7] 5) |>.trans hb6 |>.mono HB4.out.size)); clear ho6 hg6 hb6 hat6 hr6))
      | (go_at_call 15; (with_reducible refine HI26.out.mono ?_); go_must (rintro e w7 ⟨v7, rfl, ho7, hb7⟩; have HB7 := Lib.hid (HB6.out.trans (hb7.mono HB6.out.size)); have HI37 := Lib.hid (inflate_all w.heap.size n2 c2 A2 ms 40000 w7 (HM.out.blw HB7.out) HB7.out.size (by omega)); rw [HI33.out] at HI37; clear ho7 hb7))
      | (go_at_call 15; (with_reducible refine HI37.out.mono ?_); go_must (rintro e w9 ⟨v9, rfl, ho9, hb9⟩; obtain ⟨A9, c9, rfl, -, -, -⟩ := ho9.form; have HB9 := Lib.hid (HB7.out.trans (hb9.mono HB7.out.size)); clear ho9 hb9)))
    rcases HAN.out with ⟨g1, g2⟩ | ⟨g1, g2, g3, g4⟩
    · have d3 : (E3 != 0) = true := by rw [bne_iff_ne]; exact g1
      have d4 : (E3 == 0) = false := beq_eq_false_iff_ne.2 g1
      have d5 : ((xs3.length : Int) == 0) = true := by rw [g2]; rfl
      generalize xs3.length = M3 at *
      clear g1 g2 HAN
      go_wp2_with (go_at_call 13; (with_reducible refine (first7_any _).mono ?_); go_must (rintro e w10 ⟨rfl, hb10⟩; have HB10 := Lib.hid (HB9.out.trans (hb10.mono HB9.out.size)); clear hb10))
      go_ret
      exact ⟨rfl, HB10.out⟩
    · have d3 : (E3 != 0) = false := by rw [g1]; rfl
      have d4 : (E3 == 0) = true := by rw [g1]; rfl
      generalize xs3.length = M3 at *
      have d5 : (1 : Int) ≤ (N3 : Int) := by omega
      have d6 : (N3 : Int) ≤ (n2 : Int) := by omega
      have d7 : (M3 : Int) ≤ 40000 := by omega
      clear HAN
      go_wp2_with (go_at_call 13; (with_reducible refine (first7_any _).mono ?_); go_must (rintro e w10 ⟨rfl, hb10⟩; have HB10 := Lib.hid (HB9.out.trans (hb10.mono HB9.out.size)); clear hb10))
      go_ret
      exact ⟨rfl, HB10.out⟩
end Go.Proofs.Ytcancpnepfnhmaa
