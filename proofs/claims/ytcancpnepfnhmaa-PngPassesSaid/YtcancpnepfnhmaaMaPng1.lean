/- png: a chunk laid behind others. -/
import Derived.Test.YtcancpnepfnhmaaMaPng0
import Derived.Test.YtcancpnepfnhmaaMaPack
namespace Go.Proofs.Ytcancpnepfnhmaa
set_option linter.all false
open Go.RowKit

theorem crc_lt (bs : List UInt8) : crc bs < 4294967296 := Nat.xor_lt_two_pow (n := 32) (by omega) (crcP_lt bs)
/-- A chunk behind what is there. -/
def layL (out N ks data C : List UInt8) : List UInt8 := out ++ N ++ (ks ++ data) ++ C
set_option maxRecDepth 100000 in
set_option maxHeartbeats 3200000 in
theorem lay_any (base B m c2 g0 n0 cap0 : Nat) (A : Option Addr) (out data ks N C : List UInt8) (S : ByteArray) (w : World) (hS : S.data.toList = ks) (hks : ks.length = 4) (ho : RowM w g0 n0 cap0 out) (hg0 : base ≤ g0) (hr : RdB w B A m data) (hB : B ≤ base)
    (hm : m ≤ 1000000) (hout : n0 ≤ 1000000) (hN : beR (m : Int) 4 = (N, 0)) (hN4 : N.length = 4) (hC : beR ((crc (ks ++ data) : Nat) : Int) 4 = (C, 0)) (hC4 : C.length = 4) :
    Calls Try.prog 117 #[.slice (some ⟨g0, 0, none⟩) n0 cap0, .string S, .slice A m c2] w fun e w' => ∃ g9 c9, e = .returned (.slice (some ⟨g9, 0, none⟩) (n0 + 4 + (4 + m) + 4) c9) ∧ RowM w' g9 (n0 + 4 + (4 + m) + 4) c9 (layL out N ks data C) ∧ base ≤ g9 ∧ Below base w w' := by
  have hS4 : S.size = 4 := by show S.data.size = 4; rw [← Array.length_toList, hS]; exact hks
  have hgw := ho.lt
  have HOUT := Lib.hid ho
  have HR := Lib.hid hr
  have HBN := Lib.hid (fun w => big_any (m : Int) 4 w)
  rw [hN] at HBN
  have HBC := Lib.hid (fun w => big_any ((crc (ks ++ data) : Nat) : Int) 4 w)
  rw [hC] at HBC
  have hx := crc_lt (ks ++ data)
  have HCR := Lib.hid (fun w1 b c' (h : RdB w1 (b + 1) (some ⟨b, 0, none⟩) (4 + m) (ks ++ data)) => crc_any (b + 1) (4 + m) c' (some ⟨b, 0, none⟩) (ks ++ data) w1 h (by omega))
  generalize crc (ks ++ data) = X at *
  clear ho hr hN hC
  go_enter Try.func117, Try.ntmps117
  go_wp2_with (first
    | (go_at_call 26; (with_reducible refine (HBN.out _).mono ?_); go_must (rintro e w1 ⟨v1, rfl, ho1, hb1⟩; obtain ⟨A1, c1, rfl, -, -, -⟩ := ho1.form; rw [hN4] at ho1; have HN1 := Lib.hid ho1; have HB1 := Lib.hid hb1; have hz1 := hb1.size; obtain ⟨cap, w2, hconv, hb2, hz2, hrow2⟩ := conv_row w1 S; rw [hS4] at hconv hrow2; rw [hS] at hrow2; have HB2 := Lib.hid hb2; have HR2 := Lib.hid ((HR.out.blw (hb1.mono (by omega))).blw (hb2.mono (by omega))); have HN2 := Lib.hid (ownB.later HN1.out hb2); have HO2 := Lib.hid ((HOUT.out.later hb1).later hb2); have HW2 := Lib.hid hrow2; clear ho1 hb1 hb2 hrow2))
    | (go_at_call 127; (with_reducible refine HCR3.out.mono ?_); go_must (rintro e w4 ⟨rfl, rfl⟩))
    | (go_at_call 26; (with_reducible refine (HBC.out _).mono ?_); go_must (rintro e w4 ⟨v4, rfl, ho4, hb4⟩; obtain ⟨A4, c4, rfl, -, -, -⟩ := ho4.form; rw [hC4] at ho4; have HC4 := Lib.hid ho4; have hz4 := hb4.size; have HO4 := Lib.hid (HO3.out.later hb4); have HN4 := Lib.hid (ownB.later HN3.out hb4); have HD4 := Lib.hid (HD3.out.later hb4); have HVC : Hid (∀ k, (Value.slice A4 4 c4).ownBlock = some k → w3.heap.size ≤ k ∧ k < w4.heap.size) := (show ∀ k, _ from fun k hk => World.ownsRow.lt HC4.out k hk); have HB4 := Lib.hid (HB3.out.trans (hb4.mono (by omega))); have HNR := Lib.hid (ownB.rd HN4.out); have hq1 : n0 + 4 ≤ 140737488355328 := (by omega); have hq2 : n0 + 4 + (4 + m) ≤ 140737488355328 := (by omega); have hq3 : n0 + 4 + (4 + m) + 4 ≤ 140737488355328 := (by omega); clear ho4 hb4))
    | (at_builtin; (refine wpList_appendM rfl (.tmp 33) (.tmp 34) rfl g6 (n0 + 4 + (4 + m)) c6 (out ++ N ++ (ks ++ data)) rfl HO6.out _ 4 c4 A4 C rfl HCR6.out hq3 ?_; intro g7 c7 w7 hr7 hg7 ha7; have HO7 := Lib.hid hr7; have HB7 := Lib.hid (HB6.out.grown hg7 (by have := HB6.out.size; omega) (fun k hk => by injection hk with hk; omega)); have hg7 : base ≤ g7 := (by have := HB6.out.size; omega); clear hr7 ha7))
    | (at_builtin; (refine wpList_appendM rfl (.tmp 31) (.tmp 32) rfl g5 (n0 + 4) c5 (out ++ N) rfl HO5.out (b + 1) (4 + m) c3 (some ⟨b, 0, none⟩) (ks ++ data) rfl HD5.out.rd hq2 ?_; intro g6 c6 w6 hr6 hg6 ha6; have HO6 := Lib.hid hr6; have HB6 := Lib.hid (HB5.out.grown hg6 (by have := HB5.out.size; omega) (fun k hk => by injection hk with hk; omega)); have hg6b : base ≤ g6 := (by have := HB5.out.size; omega); have HCR6 := Lib.hid (ownB.rd (ownB.beside HC5.out HVC.out hg6 (by omega))); clear hr6 hg6 ha6))
    | (at_builtin; (refine wpList_appendM rfl (.tmp 29) (.tmp 30) rfl g0 n0 cap0 out rfl HO4.out _ 4 c1 A1 N rfl HNR.out hq1 ?_; intro g5 c5 w5 hr5 hg5 ha5; have HO5 := Lib.hid hr5; have HB5 := Lib.hid (HB4.out.grown hg5 (by omega) (fun k hk => by injection hk with hk; omega)); have hz5 := hg5.size; have hg5b : base ≤ g5 := (by omega); have hg5c : g5 < w.heap.size ∨ w4.heap.size ≤ g5 := (by omega); have HC5 := Lib.hid (ownB.beside HC4.out HVC.out hg5 (by omega)); have HD5 := Lib.hid (HD4.out.beside hg5 (by omega)); clear hr5 hg5 ha5))
    | (at_builtin; (refine wpList_appendM rfl (.tmp 19) (.tmp 20) rfl w1.heap.size 4 cap ks rfl HW2.out B m c2 A data rfl HR2.out (by omega) ?_; intro b c3 w3 hr3 hg3 ha3; have hz3 := hg3.size; have hbw := hr3.lt; have hb3 : w.heap.size ≤ b ∧ b < w3.heap.size := (by omega); have HD3 := Lib.hid hr3; have HO3 := Lib.hid (HO2.out.beside hg3 (by omega)); have HVN : Hid (∀ k, (Value.slice A1 4 c1).ownBlock = some k → w.heap.size ≤ k ∧ k < w1.heap.size) := (show ∀ k, _ from fun k hk => World.ownsRow.lt HN1.out k hk); have HN3 := Lib.hid (ownB.beside HN2.out HVN.out hg3 (by omega)); have HB3 : Hid (Below base w w3) := (show Below _ _ _ from Below.grown ((HB1.out.mono (by omega)).trans (HB2.out.mono (by omega))) hg3 (by omega) (fun k hk => by injection hk with hk; omega)); have HCR3 := Lib.hid (HCR.out w3 b c3 hr3.rd); clear hr3 hg3 ha3)))
  go_ret
  exact ⟨g7, c7, rfl, HO7.out, hg7, HB7.out⟩
end Go.Proofs.Ytcancpnepfnhmaa
