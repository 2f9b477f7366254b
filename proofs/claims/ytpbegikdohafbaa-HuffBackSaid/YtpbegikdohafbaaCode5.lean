/- The document's Codes. -/
import Derived.Test.YtpbegikdohafbaaCode5P
namespace Go.Proofs.Ytpbegikdohafbaa
set_option linter.all false
open Go.RowKit

def pv (ls : List Int) (l : Nat) : Nat := fst ls (l - 1) + cz ls (l - 1)
theorem fst_pv (ls : List Int) {l : Nat} (h : 0 < l) : fst ls l = pv ls l * 2 := by
  cases l with
  | zero => omega
  | succ l => unfold pv; rw [fst]; simp; omega
theorem cnt_end {ls : List Int} {n : Nat} (h : ls.length = n) {l : Nat} (hl : 0 < l) : fst ls l + cnt (ls.take n) l = pv ls (l + 1) := by
  unfold pv
  rw [List.take_of_length_le (by omega), Nat.add_sub_cancel, cz_cnt ls hl]

set_option maxRecDepth 100000 in
set_option maxHeartbeats 3200000 in
theorem codes5_any (B n c : Nat) (A : Option Addr) (ls : List Int) (w : World) (h : RdI w B A n ls) (hB1 : B ≤ w.heap.size) (hn : n ≤ 1099511627776) :
    Calls Try.prog 19 #[.slice A n c] w fun e w' => ∃ A' n' c', e = .returned (.tuple #[.slice A' n' c', .int .i64 (cdE ls)]) ∧ n' = (cdL ls).length ∧ ownD w' w.heap.size (.slice A' n' c') (cdL ls) ∧ Below w.heap.size w w' := by
  have HK := Lib.hid (kraft5_any B n c A ls w h hn)
  have hl := h.len
  rcases krE_cases ls with he | he
  · obtain ⟨g1, g2, g3⟩ := krE_zero he
    rw [he, g3] at HK
    by_cases hbig : 32768 < krN ls
    · have HE : Hid (cdE ls = 4 ∧ cdL ls = []) := (show _ ∧ _ by
        have : cdE ls = 4 := by unfold cdE; rw [if_pos he, if_pos hbig]
        refine ⟨this, ?_⟩
        unfold cdL
        rw [if_neg (by rw [this]; decide)])
      generalize krN ls = K at *
      clear h hl he g1 g2 g3
      go_enter Try.func19, Try.ntmps19
      go_wp2_with (go_at_call 17; (with_reducible refine HK.out.mono ?_); go_must (rintro e w1 ⟨rfl, rfl⟩))
      go_ret2
      exact ⟨none, 0, 0, ret_tup2 rfl (by rw [HE.out.1]; rfl), by rw [HE.out.2]; rfl, by rw [HE.out.2]; exact ownD.nil_ _ _, Below.refl _ _⟩
    · have HE : Hid (cdE ls = 0 ∧ cdL ls = codesL ls) := (show _ ∧ _ by
        have : cdE ls = 0 := by unfold cdE; rw [if_pos he, if_neg hbig]
        refine ⟨this, ?_⟩
        unfold cdL
        rw [if_pos this])
      have H := Lib.hid h
      have HL := Lib.hid hl
      have hn3 : n ≤ 300 := by omega
      have HBAD := Lib.hid g2
      have HKN := Lib.hid (show krN ls ≤ 32768 by omega)
      generalize krN ls = K at HK hbig
      have hbig' : decide ((32768 : Int) < (K : Int)) = false := decide_eq_false (by omega)
      clear h hl he g1 g2 g3
      go_enter Try.func19, Try.ntmps19
      go_wp2_with (first
        | (go_at_call 17; (with_reducible refine HK.out.mono ?_); go_must (rintro e w1 ⟨rfl, rfl⟩))
        | (at_make; refine wpList_makeD rfl _ _ rfl n _ rfl rfl rfl (by omega) ?_; intro w3 hown hb3 hsz3; have HO := Lib.hid hown; have HB3 := Lib.hid hb3; clear hown hb3))
      go_loopw [8, 7] (fun vi vx wr => ∃ l : Nat, 1 ≤ l ∧ l ≤ 16 ∧ vi = .int .i64 l ∧ vx = .int .u32 (pv ls l : Nat) ∧ Hid (ownD wr w.heap.size (.slice (some ⟨w.heap.size, 0, none⟩) n n) (cod5 ls l 0)) ∧ Hid (Below w.heap.size w wr))
        (fun vi _ _ => 17 - (intOf vi).toNat)
      case atStart => exact ⟨1, by omega, by omega, rfl, rfl, (show ownD _ _ _ _ by rw [cod5_start, HL.out]; exact HO.out), HB3⟩
      case round =>
        clear HO HB3
        obtain ⟨l, hl1, hl2, rfl, rfl, HO, HB⟩ := hrel
        by_cases hlt : l ≤ 15
        · have hlI : (l : Int) ≤ 15 := by omega
          have HF := Lib.hid (fst_pv ls (show 0 < l by omega))
          have hfb := fst_small ls HBAD.out HKN.out l hlt
          have hpb : pv ls l ≤ 32768 := by have := HF.out; omega
          have HCE := Lib.hid (cnt_end HL.out (show 0 < l by omega))
          have HCZ := Lib.hid (cz_cnt ls (show 0 < l by omega))
          have HST : Hid (((pv ls l : Nat) : Int) * 2 = ((fst ls l + cnt (ls.take 0) l : Nat) : Int)) := (show _ = _ by rw [HF.out]; simp [cnt])
          have HFB := Lib.hid hfb
          clear hfb
          generalize pv ls l = v at *
          go_wp2
          go_loopw [9, 7] (fun vi vx wr => ∃ k : Nat, k ≤ n ∧ vi = .int .i64 k ∧ vx = .int .u32 ((fst ls l + cnt (ls.take k) l : Nat) : Int) ∧ Hid (ownD wr w.heap.size (.slice (some ⟨w.heap.size, 0, none⟩) n n) (cod5 ls l k)) ∧ Hid (Below w.heap.size w wr))
            (fun vi _ _ => n - (intOf vi).toNat)
          case atStart => exact ⟨0, by omega, rfl, by first | exact congrArg (Value.int .u32) HST.out | (rw [← HST.out]), HO, HB⟩
          case round =>
            clear HO HB HST
            obtain ⟨k, hk, rfl, rfl, HO, HB⟩ := hrel
            by_cases hlt2 : k < n
            · obtain ⟨b, o, x, rfl, hb, HX, e1⟩ := (H.out.blw (HB.out.mono hB1)).one hlt2
              have HCT := Lib.hid (cnt_take_step HX.out l)
              have hct := cnt_take ls k l
              have hfb := HFB.out
              have hcz := HCZ.out
              have hvb : fst ls l + cnt (ls.take k) l ≤ 32768 := by omega
              clear hct hfb hcz
              by_cases hxl : x = (l : Int)
              · subst hxl
                have hkl : k < ls.length := by rw [HL.out]; exact hlt2
                obtain ⟨o0, o1⟩ := HO.out.cell (by rw [cod5_len, HL.out]) (k := k) (by rw [cod5_len]; exact hkl)
                have of := HO.out.frozen (by rw [cod5_len, HL.out])
                have of0 := of (k * 2)
                have of1 := of (k * 2 + 1)
                have HST := Lib.hid (cod5_set HX.out (show 0 < l by omega))
                have HC2 : Hid (fst ls l + cnt (ls.take (k + 1)) l = fst ls l + cnt (ls.take k) l + 1) := (show _ = _ by rw [HCT.out, if_pos rfl]; omega)
                generalize fst ls l + cnt (ls.take k) l = V at *
                generalize (cod5 ls l k)[k]'(by rw [cod5_len]; exact hkl) = oc at *
                clear of HCT
                have HOR := Lib.hid (show ownD ((wr.setCell ⟨w.heap.size, k * 2, none⟩ (.int .u32 (V : Int))).setCell ⟨w.heap.size, k * 2 + 1, none⟩ (.int .i64 (l : Int))) w.heap.size (.slice (some ⟨w.heap.size, 0, none⟩) n n) (cod5 ls l (k + 1)) from by
                  rw [HST.out]
                  exact HO.out.store (by rw [cod5_len, HL.out]) k (V, (l : Int)) (by rw [cod5_len]; exact hkl))
                have HBR := Lib.hid ((HB.out.setCell (p := ⟨w.heap.size, k * 2, none⟩) (Nat.le_refl _) (.int .u32 (V : Int))).setCell (p := ⟨w.heap.size, k * 2 + 1, none⟩) (Nat.le_refl _) (.int .i64 (l : Int)))
                have dxl : ((l : Int) == (l : Int)) = true := by simp
                clear HO HB
                go_wp2
                go_roundw
                case rel => exact ⟨k + 1, by omega, by go_num, by rw [HC2.out]; go_num, HOR, HBR⟩
                case measure => simp [intOf]; omega
              · have HST := Lib.hid (cod5_same HX.out hxl)
                have HC2 : Hid (fst ls l + cnt (ls.take (k + 1)) l = fst ls l + cnt (ls.take k) l) := (show _ = _ by rw [HCT.out, if_neg hxl, Nat.add_zero])
                generalize fst ls l + cnt (ls.take k) l = V at *
                have dxl : (x == (l : Int)) = false := beq_eq_false_iff_ne.2 hxl
                clear HCT
                go_wp2
                go_roundw
                case rel => exact ⟨k + 1, by omega, by go_num, by rw [HC2.out], (show ownD _ _ _ _ by rw [HST.out]; exact HO.out), HB⟩
                case measure => simp [intOf]; omega
            · obtain rfl : k = n := by omega
              have HO2 : Hid (ownD wr w.heap.size (.slice (some ⟨w.heap.size, 0, none⟩) k k) (cod5 ls (l + 1) 0)) := (show ownD _ _ _ _ by
                have := HO.out
                have e := cod5_next ls l
                rw [HL.out] at e
                rwa [e] at this)
              rw [HCE.out]
              clear HO HCE
              go_wp2
              go_roundw
              case rel => exact ⟨l + 1, by omega, by omega, by go_num, rfl, HO2, HB⟩
              case measure => simp [intOf]; omega
        · obtain rfl : l = 16 := by omega
          have HO2 := HO.out
          rw [cod5_end ls HBAD.out] at HO2
          generalize pv ls 16 = v at *
          go_wp2
          go_ret2
          refine ⟨some ⟨w.heap.size, 0, none⟩, n, n, ret_tup2 rfl (by rw [HE.out.1]; rfl), ?_, ?_, HB.out⟩
          · rw [HE.out.2]; simp [codesL]; exact HL.out.symm
          · rw [HE.out.2]
            exact HO2
  · have HE : Hid (cdE ls = 1 ∧ cdL ls = []) := (show _ ∧ _ by
      have : cdE ls = 1 := by unfold cdE; rw [if_neg (by rw [he]; decide)]
      refine ⟨this, ?_⟩
      unfold cdL
      rw [if_neg (by rw [this]; decide)])
    rw [he] at HK
    generalize krV ls = K at HK
    clear h hl he
    go_enter Try.func19, Try.ntmps19
    go_wp2_with (go_at_call 17; (with_reducible refine HK.out.mono ?_); go_must (rintro e w1 ⟨rfl, rfl⟩))
    go_ret2
    exact ⟨none, 0, 0, ret_tup2 rfl (by rw [HE.out.1]; rfl), by rw [HE.out.2]; rfl, by rw [HE.out.2]; exact ownD.nil_ _ _, Below.refl _ _⟩
end Go.Proofs.Ytpbegikdohafbaa
