/- ZlibParts. -/
import Derived.Test.YtcancpnepfnhmaaMaPack
import Derived.Test.YtcancpnepfnhmaaMa10
namespace Go.Proofs.Ytcancpnepfnhmaa
set_option linter.all false
open Go.RowKit

set_option maxRecDepth 100000 in
set_option maxHeartbeats 3200000 in
theorem first8_any (w : World) : Calls Try.prog 24 #[] w fun e w' => e = .returned (.bool true) ∧ Below w.heap.size w w' := by
  have kc := conv_const
  have HP := Lib.hid (pack_any w.heap.size 0 0 none [] [0, 0, 0, 1] w rdB_nil0 (Nat.le_refl _) (by omega) (Nat.le_refl _) (by kernel_rfl) rfl)
  go_enter Try.func24, Try.ntmps24
  go_wp2_with (go_at_call 25; (with_reducible refine HP.out.mono ?_); go_must (rintro e w1 ⟨v1, bz, rfl, ho1, hz1, hb1⟩; have hbz := defl_nil hz1; subst hbz; have ho1 : ownB w1 w.heap.size v1 [120, 156, 3, 0, 0, 0, 0, 1] := ho1; obtain ⟨A1, c1, rfl, hr1, -, -⟩ := ho1.form; have hr1 : RdB w1 w1.heap.size A1 8 [120, 156, 3, 0, 0, 0, 0, 1] := hr1; have k1 := run_strB (n := 8) (c := c1) hr1; have HB1 := Lib.hid hb1; clear ho1 hz1 hb1 hr1))
  go_ret
  exact ⟨rfl, HB1.out⟩
set_option maxRecDepth 100000 in
set_option maxHeartbeats 6400000 in
theorem zlibParts_walk (n c : Nat) (A : Option Addr) (bs : List UInt8) (w : World) (ha : RdB w w.heap.size A n bs) (hcap : n ≤ c) :
    Calls Try.prog 10 #[.slice A n c] w fun e w' => e = .returned (.bool true) ∧ Below w.heap.size w w' := by
  have HR := Lib.hid ha
  have hl := ha.len
  clear ha
  by_cases h1 : 4000 < n
  · have h1i : (4000 : Int) < (n : Int) := by omega
    go_enter Try.func10, Try.ntmps10
    go_wp2_with (go_at_call 24; (with_reducible refine (first8_any _).mono ?_); go_must (rintro e w1 ⟨rfl, hb1⟩; first | (have HB9 := Lib.hid (HB1.out.trans (hb1.mono HB1.out.size))) | (have HB1 := Lib.hid hb1); clear hb1))
    go_ret
    exact ⟨rfl, HB9.out⟩
  · have h1i : ¬ (4000 : Int) < (n : Int) := by omega
    obtain ⟨S, hS, hS4⟩ := big4 (adler_lt bs)
    have hx := adler_lt bs
    have HPK := Lib.hid (fun w1 (h : RdB w1 w.heap.size A n bs) (hB : w.heap.size ≤ w1.heap.size) => pack_any w.heap.size n c A bs S w1 h hB (by omega) hcap hS hS4)
    have HDF := Lib.hid (fun w1 (h : RdB w1 w.heap.size A n bs) (hB : w.heap.size ≤ w1.heap.size) => deflate_all w.heap.size n c A bs w1 h hB (by omega) hcap)
    have HAD := Lib.hid (fun w1 (h : RdB w1 w.heap.size A n bs) => adler_any w.heap.size n c A bs w1 h (by omega))
    have HBG := Lib.hid (fun w => big_any ((adler bs : Nat) : Int) 4 w)
    rw [hS] at HBG
    generalize adler bs = x at *
    clear hS
    go_enter Try.func10, Try.ntmps10
    go_wp2_with (first
      | (go_at_call 24; (with_reducible refine (first8_any _).mono ?_); go_must (rintro e w1 ⟨rfl, hb1⟩; first | (have HR5 := Lib.hid (Rd.below HR4.out hb1); have HZ5 := Lib.hid (RdB.blw HZ4.out (hb1.mono hs4)); have HY5 := Lib.hid (RdB.blw HY4.out (hb1.mono hs34)); have HB5 := Lib.hid (HB4.out.trans (hb1.mono HB4.out.size)); obtain ⟨wx, hwx⟩ : ∃ wx : World, wx = w1 := ⟨_, rfl⟩; subst hwx; have hs5 := hb1.size; have HOL := Lib.hid (own_lit wx [120, 156] (by decide)); have HY6 := Lib.hid (Rd.alloc HY5.out (by omega) (.cells #[Value.int .u8 120, Value.int .u8 156] 5)); have hzx := Nat.le_trans hs4 hs5; have hqb : ([120, 156] : List UInt8).length + by_.length ≤ 140737488355328 := (by show 2 + by_.length ≤ _; omega); have hqa : wx.heap.size ≤ (wx.alloc (.cells #[Value.int .u8 120, Value.int .u8 156] 5)).heap.size := alloc_le _ _; clear hb1) | (have HB1 := Lib.hid hb1; have HPK1 := Lib.hid (HPK.out _ (HR.out.blw hb1) hb1.size); clear hb1)))
      | (go_at_call 25; (with_reducible refine HPK1.out.mono ?_); go_must (rintro e w2 ⟨v2, bz, rfl, ho2, hz2, hb2⟩; have hbz := best_len hz2; obtain ⟨A2, c2, hv2, hr2, -, -⟩ := ho2.form; obtain ⟨L2, hL2⟩ : ∃ L, (packL bz S).length = L := ⟨_, rfl⟩; rw [hL2] at hv2 hr2; subst hv2; clear hL2; have HZ2 := Lib.hid hr2; have HWZ := Lib.hid hz2; have hs12 := HB1.out.size; have hs2 := hb2.size; have HB2 := Lib.hid (HB1.out.trans (hb2.mono hs12)); have HDF2 := Lib.hid (HDF.out _ (HR.out.blw HB2.out) HB2.out.size); clear ho2 hz2 hb2 hr2))
      | (go_at_call 18; (with_reducible refine HDF2.out.mono ?_); go_must (rintro e w3 ⟨v3, by_, rfl, ho3, hz3, hb3⟩; have hbeq := hz3.uniq HWZ.out; subst hbeq; obtain ⟨A3, c3, rfl, -, -, -⟩ := ho3.form; have HY3 := Lib.hid (ownB.rd ho3); have HZ3 := Lib.hid (RdB.blw HZ2.out hb3); have hs3 := hb3.size; have HB3 := Lib.hid (HB2.out.trans (hb3.mono HB2.out.size)); have HAD3 := Lib.hid (HAD.out _ (HR.out.blw HB3.out)); clear ho3 hz3 hb3))
      | (go_at_call 27; (with_reducible refine HAD3.out.mono ?_); go_must (rintro e w4 ⟨rfl, rfl⟩))
      | (go_at_call 26; (with_reducible refine (HBG.out _).mono ?_); go_must (rintro e w4 ⟨v4, rfl, ho4, hb4⟩; obtain ⟨A4, c4, rfl, -, -, -⟩ := ho4.form; have hr4 := ownB.rd ho4; rw [hS4] at hr4; have HR4 := Lib.hid hr4; have HZ4 := Lib.hid (RdB.blw HZ3.out (hb4.mono hs3)); have HY4 := Lib.hid (RdB.blw HY3.out hb4); have hs34 := hb4.size; have HB4 := Lib.hid (HB3.out.trans (hb4.mono HB3.out.size)); have hs4 := Nat.le_trans hs3 hs34; clear ho4 hb4 hr4))
      | (at_builtin; (refine wpList_appendBg (by rfl) (.tmp 49) (.tmp 50) rfl wx.heap.size v6 ([120, 156] ++ by_) rfl HO6.out _ 4 c4 A4 S rfl HR6.out hqc hqd ?_; intro v7 w7 ho7 hg7 hb7 ha7; obtain ⟨A7, c7, hv7, hr7, -, -⟩ := ho7.form; obtain ⟨L7, hL7⟩ : ∃ L, (([120, 156] : List UInt8) ++ by_ ++ S).length = L := ⟨_, rfl⟩; rw [hL7] at hv7 hr7; subst hv7; clear hL7; have hz7 : RdB w7 w2.heap.size A2 L2 (packL by_ S) := RdB.blw HZ7.out (hb7.mono hzx); have HBY := Lib.hid (bytes_any _ _ c2 _ _ c7 A2 A7 (packL by_ S) (packL by_ S) w7 hz7 hr7); rw [beq_self_eq_true] at HBY; have HB7 := Lib.hid (HB6.out.trans (hb7.mono HB5.out.size)); clear ho7 hg7 hb7 ha7 hr7 hz7))
      | (at_builtin; (refine wpList_appendBg (by rfl) (.tmp 47) (.tmp 48) rfl wx.heap.size (.slice (some ⟨wx.heap.size, 0, none⟩) 2 2) [120, 156] rfl HOL.out w3.heap.size by_.length c3 A3 by_ rfl HY6.out hqb hqa ?_; intro v6 w6 ho6 hg6 hb6 ha6; have hz6 := hb6.size; have hqd : wx.heap.size ≤ w6.heap.size := (by omega); have hqc : (([120, 156] : List UInt8) ++ by_).length + 4 ≤ 140737488355328 := (by rw [List.length_append]; show 2 + by_.length + 4 ≤ _; omega); have HR6 := Lib.hid (Rd.below (Rd.alloc HR5.out hs5 (.cells #[Value.int .u8 120, Value.int .u8 156] 5)) (hb6.mono hs5)); have HZ7 := Lib.hid (RdB.blw (Rd.alloc HZ5.out hzx (.cells #[Value.int .u8 120, Value.int .u8 156] 5)) (hb6.mono hzx)); have HB6 := Lib.hid ((HB5.out.alloc HB5.out.size (.cells #[Value.int .u8 120, Value.int .u8 156] 5)).trans (hb6.mono HB5.out.size)); have HO6 := Lib.hid ho6; clear ho6 hg6 hb6 ha6))
      | (go_at_call 17; (with_reducible refine HBY.out.mono ?_); go_must (rintro e w8 ⟨rfl, rfl⟩)))
    go_ret
    exact ⟨rfl, HB7.out⟩
end Go.Proofs.Ytcancpnepfnhmaa
