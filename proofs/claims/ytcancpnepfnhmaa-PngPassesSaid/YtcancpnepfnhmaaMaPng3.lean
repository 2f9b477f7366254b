/- png: what the chapter's example fixes. -/
import Derived.Test.YtcancpnepfnhmaaMaPng2
import Derived.Test.YtcancpnepfnhmaaMaFilt5
import Derived.Test.YtcancpnepfnhmaaMaPix2
namespace Go.Proofs.Ytcancpnepfnhmaa
set_option linter.all false
open Go.RowKit

set_option maxRecDepth 100000 in
theorem bpp_one (w : World) : Calls Try.prog 115 #[.agg #[.int .i64 1, .int .i64 1, .int .i64 1, .int .i64 8]] w fun e w' => e = .returned (.int .i64 1) ∧ Below w.heap.size w w' := by
  go_enter Try.func115, Try.ntmps115
  go_wp2_with fail
  go_ret
  exact ⟨rfl, (Below.refl w.heap.size w).alloc (Nat.le_refl _) _⟩
theorem best_one : bestR 1 [] [7] = (0, [7], 0) := by decide +kernel
theorem row_one : Sh.row ⟨1, 1, 1, 8⟩ = 1 := by decide
theorem may_one : Sh.mayR ⟨1, 1, 1, 8⟩ 1 = true := by decide
set_option maxRecDepth 100000 in
set_option maxHeartbeats 3200000 in
theorem filtered_one (B c : Nat) (A : Option Addr) (w : World) (h : RdB w B A 1 [7]) (hB : B ≤ w.heap.size) (hcap : 1 ≤ c) :
    Calls Try.prog 93 #[.agg #[.int .i64 1, .int .i64 1, .int .i64 1, .int .i64 8, .slice A 1 c]] w fun e w' => ∃ v, e = .returned (.tuple #[v, .int .i64 0]) ∧ ownB w' w.heap.size v [0, 7] ∧ Below w.heap.size w w' := by
  obtain ⟨b, o, rfl, hb, -⟩ := h.at_ (by omega)
  obtain ⟨w1, hw1⟩ : ∃ w1, w.alloc (.cells #[.int .i64 1, .int .i64 1, .int .i64 1, .int .i64 8, .slice (some ⟨b, o, none⟩) 1 c] 104) = w1 := ⟨_, rfl⟩
  obtain ⟨bk, hbk⟩ : ∃ b, w.heap.size = b := ⟨_, rfl⟩
  have HA1 : Hid (Arr w1 bk [.int .i64 1, .int .i64 1, .int .i64 1, .int .i64 8, .slice (some ⟨b, o, none⟩) 1 c]) := (show Arr _ _ _ by rw [← hw1, ← hbk]; exact Arr.new w [.int .i64 1, .int .i64 1, .int .i64 1, .int .i64 8, .slice (some ⟨b, o, none⟩) 1 c] _)
  have HR1 : Hid (RdB w1 B (some ⟨b, o, none⟩) 1 [7]) := (show RdB _ _ _ _ _ by rw [← hw1]; exact Rd.alloc h hB _)
  have HB1 : Hid (Below bk w w1) := (show Below _ _ _ by rw [← hw1, ← hbk]; exact (Below.refl w.heap.size w).alloc (Nat.le_refl _) _)
  have hz1 : w1.heap.size = bk + 1 := by rw [← hw1, World.size_alloc, hbk]
  have HRW : Hid (Calls Try.prog 95 #[.agg #[.int .i64 1, .int .i64 1, .int .i64 1, .int .i64 8]] w1 fun e w' => e = .returned (.int .i64 1) ∧ Below w1.heap.size w1 w') := (show Calls _ _ _ _ _ by have := row_any ⟨1, 1, 1, 8⟩ w1; rw [row_one] at this; exact this)
  have a0 := HA1.out.cell (k := 0) rfl
  have a1 := HA1.out.cell (k := 1) rfl
  have a2 := HA1.out.cell (k := 2) rfl
  have a3 := HA1.out.cell (k := 3) rfl
  clear h
  rw [hbk] at hB
  go_enter Try.func93, Try.ntmps93
  simp only [hw1, hbk]
  go_wp2_with (go_at_call 95; (with_reducible refine HRW.out.mono ?_); go_must (rintro e w2 ⟨rfl, hb2⟩; have HA2 := Lib.hid (HA1.out.later hb2); have HR2 := Lib.hid (RdB.blw HR1.out (hb2.mono (by omega))); have b0 := HA2.out.cell (k := 0) rfl; have b1 := HA2.out.cell (k := 1) rfl; have b2 := HA2.out.cell (k := 2) rfl; have b3 := HA2.out.cell (k := 3) rfl; have b4 := HA2.out.cell (k := 4) rfl; have hz2 := hb2.size; have HB2 := Lib.hid (HB1.out.trans (hb2.mono (by omega))); clear hb2 a0 a1 a2 a3))
  have HBE : Hid (∀ w3 A' c', RdB w3 B A' 1 [7] → B ≤ w3.heap.size → Calls Try.prog 114 #[.int .i64 1, .slice none 0 0, .slice A' 1 c'] w3 fun e w' => ∃ v, e = .returned (.tuple #[.int .i64 0, v, .int .i64 0]) ∧ ownB w' w3.heap.size v [7] ∧ Below w3.heap.size w3 w') := (show ∀ w3 A' c', _ from fun w3 A' c' h hB => by
    have := best_any 1 0 0 0 B 1 c' none A' [] [7] w3 Rd.none_ h (Nat.zero_le _) hB (by omega)
    rw [best_one] at this
    exact this)
  clear hw1 HRW HA1 HR1 HB1
  have hBw : B ≤ w2.heap.size := by omega
  have hbw : bk + 1 ≤ w2.heap.size := by omega
  go_loopw [18, 5, 6] (fun vk vo vp wr => (vk = .int .i64 0 ∧ vo = .slice none 0 0 ∧ vp = .slice none 0 0 ∧ wr = w2) ∨ (vk = .int .i64 1 ∧ Hid (ownB wr bk vo [0, 7]) ∧ Hid (Below bk w wr))) (fun vk _ _ _ => 1 - (intOf vk).toNat)
  case atStart => exact .inl ⟨rfl, rfl, rfl, rfl⟩
  case round =>
    rcases hrel with ⟨rfl, rfl, rfl, rfl⟩ | ⟨rfl, HO, HB⟩
    · go_wp2_with (first
        | (go_at_call 115; (with_reducible refine (bpp_one _).mono ?_); go_must (rintro e w3 ⟨rfl, hb3⟩; have hz3 := hb3.size; have HR3 := Lib.hid (RdB.blw HR2.out (hb3.mono hBw)); have HBE3 := Lib.hid (HBE.out w3 _ c HR3.out (by omega)); have HB3 := Lib.hid (HB2.out.trans (hb3.mono (by omega))); clear hb3))
        | (go_at_call 114; (with_reducible refine HBE3.out.mono ?_); go_must (rintro e w4 ⟨v4, rfl, ho4, hb4⟩; obtain ⟨A4, c4, hv4, -, -, -⟩ := ho4.form; have hv4 : v4 = .slice A4 1 c4 := hv4; subst hv4; have hz4 := hb4.size; have HO4 := Lib.hid (ownB.alloc ho4 (.cells #[.int .u8 0] 5)); have HB4 := Lib.hid ((HB3.out.trans (hb4.mono (by omega))).alloc (by omega) (.cells #[.int .u8 0] 5)); have hq1 : bk ≤ (w4.alloc (.cells #[.int .u8 0] 5)).heap.size := (by rw [World.size_alloc]; omega); clear ho4 hb4))
        | (at_builtin; (refine wpList_appendB rfl (.tmp 49) (.tmp 50) rfl bk v5 [0] rfl HO5.out _ 1 c4 A4 [7] rfl HR5.out (by decide) hq2 ?_; intro v6 w6 ho6 hg6 hb6 ha6; have HO6 : Hid (ownB w6 bk v6 [0, 7]) := ho6; have HB6 := Lib.hid (HB5.out.trans hb6); clear ho6 hg6 hb6 ha6))
        | (at_builtin; (refine wpList_appendB rfl (.tmp 45) (.tmp 48) rfl bk (.slice none 0 0) [] rfl (ownB.nil_ _ _) (w4.heap.size + 1) 1 1 (some ⟨w4.heap.size, 0, none⟩) [0] rfl (rd_one w4 0 0 rfl) (by decide) hq1 ?_; intro v5 w5 ho5 hg5 hb5 ha5; have HO5 : Hid (ownB w5 bk v5 [0]) := ho5; have hq2 := Nat.le_trans hq1 hb5.size; have HR5 := Lib.hid (ownB.rd (World.ownsRow.kept HO4.out hg5 (by cases e : (Value.slice A4 1 c4).ownBlock with
            | none => exact .inl rfl
            | some k => exact .inr (by intro e2; cases e2)))); have HB5 := Lib.hid (HB4.out.trans hb5); clear ho5 hg5 hb5 ha5)))
      go_roundw
      case rel => exact .inr ⟨rfl, HO6, HB6⟩
      case measure => simp [intOf]
    · go_wp2_with fail
      go_ret2
      exact ⟨_, rfl, HO.out, HB.out⟩
set_option maxRecDepth 100000 in
set_option maxHeartbeats 3200000 in
theorem encode_one (B c : Nat) (A : Option Addr) (w : World) (h : RdB w B A 1 [7]) (hB : B ≤ w.heap.size) (hcap : 1 ≤ c) :
    Calls Try.prog 60 #[.agg #[.int .i64 1, .int .i64 1, .int .i64 1, .int .i64 8, .slice A 1 c]] w fun e w' => ∃ g9 n9 c9 D C1 N C C3, e = .returned (.tuple #[.slice (some ⟨g9, 0, none⟩) n9 c9, .int .i64 0]) ∧ RowM w' g9 n9 c9 (fileL D C1 N C C3) ∧ Below w.heap.size w w' := by
  obtain ⟨w1, hw1⟩ : ∃ w1, w.alloc (.cells #[.int .i64 1, .int .i64 1, .int .i64 1, .int .i64 8, .slice A 1 c] 104) = w1 := ⟨_, rfl⟩
  obtain ⟨bk, hbk⟩ : ∃ b, w.heap.size = b := ⟨_, rfl⟩
  have HA1 : Hid (Arr w1 bk [.int .i64 1, .int .i64 1, .int .i64 1, .int .i64 8, .slice A 1 c]) := (show Arr _ _ _ by rw [← hw1, ← hbk]; exact Arr.new w [.int .i64 1, .int .i64 1, .int .i64 1, .int .i64 8, .slice A 1 c] _)
  have HR1 : Hid (RdB w1 B A 1 [7]) := (show RdB _ _ _ _ _ by rw [← hw1]; exact Rd.alloc h hB _)
  have HB1 : Hid (Below bk w w1) := (show Below _ _ _ by rw [← hw1, ← hbk]; exact (Below.refl w.heap.size w).alloc (Nat.le_refl _) _)
  have hz1 : w1.heap.size = bk + 1 := by rw [← hw1, World.size_alloc, hbk]
  have HMY : Hid (Calls Try.prog 92 #[.agg #[.int .i64 1, .int .i64 1, .int .i64 1, .int .i64 8, .slice A 1 c]] w1 fun e w' => e = .returned (.bool true) ∧ Below w1.heap.size w1 w') := (show Calls _ _ _ _ _ by have := may_any ⟨1, 1, 1, 8⟩ A 1 c w1; rw [may_one] at this; exact this)
  have a0 := HA1.out.cell (k := 0) rfl
  have a1 := HA1.out.cell (k := 1) rfl
  have a2 := HA1.out.cell (k := 2) rfl
  have a3 := HA1.out.cell (k := 3) rfl
  have a4 := HA1.out.cell (k := 4) rfl
  clear h
  rw [hbk] at hB
  go_enter Try.func60, Try.ntmps60
  simp only [hw1, hbk]
  go_wp2_with (first
    | (go_at_call 92; (with_reducible refine HMY.out.mono ?_); go_must (rintro e w2 ⟨rfl, hb2⟩; have HA2 := Lib.hid (HA1.out.later hb2); have hz2 := hb2.size; have HFI := Lib.hid (filtered_one B c A w2 (RdB.blw HR1.out (hb2.mono (by omega))) (by omega) hcap); have b0 := HA2.out.cell (k := 0) rfl; have b1 := HA2.out.cell (k := 1) rfl; have b2 := HA2.out.cell (k := 2) rfl; have b3 := HA2.out.cell (k := 3) rfl; have b4 := HA2.out.cell (k := 4) rfl; have HB2 := Lib.hid (HB1.out.trans (hb2.mono (by omega))); clear hb2 a0 a1 a2 a3 a4))
    | (go_at_call 93; (with_reducible refine HFI.out.mono ?_); go_must (rintro e w3 ⟨v3, rfl, ho3, hb3⟩; obtain ⟨A3, c3, hv3, hr3, hc3, -⟩ := ho3.form; have hv3 : v3 = .slice A3 2 c3 := hv3; subst hv3; have HA3 := Lib.hid (HA2.out.later hb3); have hz3 := hb3.size; have HFL := Lib.hid (file_one w3.heap.size 2 c3 A3 [0, 7] w3 hr3 (Nat.le_refl _) (by omega) hc3); have d0 := HA3.out.cell (k := 0) rfl; have d1 := HA3.out.cell (k := 1) rfl; have d2 := HA3.out.cell (k := 2) rfl; have d3 := HA3.out.cell (k := 3) rfl; have HB3 := Lib.hid (HB2.out.trans (hb3.mono (by omega))); clear ho3 hb3 hr3 b0 b1 b2 b3 b4))
    | (go_at_call 94; (with_reducible refine HFL.out.mono ?_); go_must (rintro e w4 ⟨g9, n9, c9, D, C1, N, C, C3, rfl, hr4, hb4⟩; have HR4 := Lib.hid hr4; have HB4 := Lib.hid (HB3.out.trans (hb4.mono (by omega))); clear hr4 hb4)))
  go_ret2
  exact ⟨g9, n9, c9, D, C1, N, C, C3, rfl, HR4.out, HB4.out⟩
theorem fileL_take (D C1 N C C3 : List UInt8) : (fileL D C1 N C C3).take 16 = [137, 80, 78, 71, 13, 10, 26, 10, 0, 0, 0, 13, 73, 72, 68, 82] := rfl
theorem fileL_len (D C1 N C C3 : List UInt8) : 17 ≤ (fileL D C1 N C C3).length := by
  unfold fileL layL
  simp only [List.length_append, List.length_cons, List.length_nil]
  omega
set_option maxRecDepth 100000 in
set_option maxHeartbeats 3200000 in
theorem first13_any (w : World) : Calls Try.prog 28 #[] w fun e w' => e = .returned (.bool true) ∧ Below w.heap.size w w' := by
  have kc := conv_const
  have HE := Lib.hid (encode_one (w.heap.size + 1) 1 (some ⟨w.heap.size, 0, none⟩) (w.alloc (.cells #[.int .u8 7] 5)) (rd_lit w 5 (0, 0) [7]) (by simp) (Nat.le_refl _))
  go_enter Try.func28, Try.ntmps28
  go_wp2_with (go_at_call 60; (with_reducible refine HE.out.mono ?_); go_must (rintro e w1 ⟨g9, n9, c9, D, C1, N, C, C3, rfl, hr1, hb1⟩; have hl := fileL_len D C1 N C C3; rw [hr1.len] at hl; have hc9 : n9 ≤ c9 := (by obtain ⟨_, _, _, _, _, h, _⟩ := hr1; exact h); have h16 := RdB.pre hr1.rd (m := 16) (by omega); rw [fileL_take] at h16; have k1 := run_strB (n := 16) (c := c9) h16; have hi1 : ((16 : Nat) : Int) < (n9 : Int) := (by omega); have hi2 : (16 : Int) < (n9 : Int) := (by omega); have hi3 : (16 : Int) ≤ (c9 : Int) := (by omega); have hi4 : 16 ≤ c9 := (by omega); have HB1 := Lib.hid (((Below.refl w.heap.size w).alloc (Nat.le_refl _) (.cells #[.int .u8 7] 5)).trans (hb1.mono (by simp))); clear hb1 hr1 hl))
  go_ret
  exact ⟨rfl, HB1.out⟩
end Go.Proofs.Ytcancpnepfnhmaa
