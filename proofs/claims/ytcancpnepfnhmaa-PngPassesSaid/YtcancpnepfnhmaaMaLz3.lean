/- lz: the match at a place. -/
import Derived.Test.YtcancpnepfnhmaaMaLz1
import Derived.Test.YtcancpnepfnhmaaMaLz2
namespace Go.Proofs.Ytcancpnepfnhmaa
set_option linter.all false
open Go.RowKit

/-- A slice as the address of an array, as a region's operation. -/
theorem step_arr3 {w : World} {ops : Array Oper} {o : Oper} {a : Act} {K : Act → World → Prop} {Q : Exit → Act → World → Prop} {E : Prop} (hgd : o.guard = none) (x : Operand) (ho : o.op = Op.sliceToArrayPointer 142 x)
    (p : Option Addr) (l c : Nat) (hx : a.eval x = .slice p l c) (hl : 3 ≤ l) (hK : K (a.put o.dst (.pointer p)) w) :
    if Region.wanted o (yielded ops a.tmps) = true then Oper.wp Try.prog o a w K Q else E := by
  have hw : Region.wanted o (yielded ops a.tmps) = true := by simp [Region.wanted, hgd]
  rw [if_pos hw]
  have hrun := run_arrayAt (P := Try.prog) w 142 _ 3 p l c Try.underlying142 hl
  unfold Oper.wp
  simp [execOp, ho, hx, hrun, Result.andThen]
  exact hK
theorem matF_stop {b : List UInt8} {at_ f p best dist : Nat} (h : p = 0 ∨ 32768 < at_ - (p - 1)) : matF b at_ f p best dist = (best, dist) := by
  cases f with
  | zero => rfl
  | succ f => exact if_pos h
theorem matF_more {b : List UInt8} {at_ f p best dist : Nat} (h : ¬ (p = 0 ∨ 32768 < at_ - (p - 1))) : matF b at_ (f + 1) p best dist = if best < comP b (p - 1) at_ then matF b at_ f (prevP b (p - 1)) (comP b (p - 1) at_) (at_ - (p - 1)) else matF b at_ f (prevP b (p - 1)) best dist := if_neg h
set_option maxRecDepth 100000 in
set_option maxHeartbeats 3200000 in
theorem match_any (B n c0 c m i : Nat) (A : Option Addr) (bs : List UInt8) (vp : Value) (w : World) (h : Ch w c m i vp bs) (hr : RdB w B A n bs) (hi : i < n) (hn : n ≤ 40000) (hcap : n ≤ c0) :
    Calls Try.prog 56 #[.pointer (some ⟨c, 0, none⟩), .slice A n c0, .int .i64 (i : Int)] w fun e w' => e = .returned (.tuple #[.int .i64 ((matP bs i).1 : Int), .int .i64 ((matP bs i).2 : Int)]) ∧ ∃ q, w' = w.drewN q := by
  have hf := h.own.form
  rw [prevL_len] at hf
  obtain ⟨Ap, cp, rfl, -, -, -⟩ := hf
  have H := Lib.hid h
  have HR := Lib.hid hr
  have e0 := h.arr.cell (k := 0) rfl
  have e1 := h.arr.cell (k := 1) rfl
  have hl := hr.len
  by_cases hi3 : i + 3 ≤ n
  · obtain ⟨b, o, rfl, hb, hcell⟩ := hr.at_ (by omega)
    have k0 := hcell i (by omega)
    have k1 := hcell (i + 1) (by omega)
    have k2 := hcell (i + 2) (by omega)
    rw [← Nat.add_assoc] at k1 k2
    have HT : Hid (tri bs i = (bs[i], bs[i + 1], bs[i + 2])) := (show _ = _ by unfold tri; rw [getD_at (List.getElem?_eq_getElem (by omega)), getD_at (List.getElem?_eq_getElem (by omega)), getD_at (List.getElem?_eq_getElem (by omega))])
    have HLP := Lib.hid (lastP_le bs (tri bs i) i).1
    have HMP : Hid (matP bs i = matF bs i (64 - 0) (lastP bs i (tri bs i)) 0 0) := (show _ = _ by unfold matP; rw [if_neg (by omega)])
    rw [HT.out] at HLP HMP
    generalize bs[i] = x at *
    generalize bs[i + 1] = y at *
    generalize bs[i + 2] = z at *
    have hi3i : ¬ (n : Int) < (i : Int) + 3 := by omega
    have HM := Lib.hid (h.drewN 1).map
    obtain ⟨s, hs⟩ : ∃ s, i + 3 = s := ⟨_, rfl⟩
    have hs2 : (i : Int) + 3 = (s : Int) := by omega
    have hs3 : IntKind.i64.wrap ((i : Int) + 3) = (s : Int) := by rw [hs2]; exact wrap_i64_lt s (by omega)
    have hs10 : IntKind.i64.wrap (s : Int) = (s : Int) := wrap_i64_lt s (by omega)
    have hs4 : s ≤ n := by omega
    have hs5 : s - i = 3 := by omega
    have hs6 : i ≤ s := by omega
    clear h hr hcell
    go_enter Try.func56, Try.ntmps56
    go_upto_region 4 with fail
    generalize hL : lastP bs i (x, y, z) = L at *
    have hrun : (Instr.lookup 97 (.map (some m)) (.agg #[.int .u8 (x.toNat : Int), .int .u8 (y.toNat : Int), .int .u8 (z.toNat : Int)]) false).run Try.prog w.drew = .ok (.int .i64 (L : Int)) w.drew := by rw [← hL]; exact HM.out.look (x, y, z)
    have hat : ∀ (w : World) (a : Option Addr) (l c : Nat), 3 ≤ l → (Instr.arrayAt 142 (.slice a l c)).run Try.prog w = .ok (.pointer a) w := fun w a l c hl => run_arrayAt w 142 _ 3 a l c Try.underlying142 hl
    have hat3 := hat w.drew (some ⟨b, o + i, none⟩) 3 (c0 - i) (Nat.le_refl _)
    have hs7 : 0 ≤ (s : Int) ∧ (s : Int) ≤ (c0 : Int) := by omega
    have hs8 : ¬ c0 = i := by omega
    have hs9 : s ≤ c0 := by omega
    clear hL hat
    go_cut [8, 9, 10] (fun v1 v2 v3 wc => v1 = .int .i64 0 ∧ v2 = .int .i64 0 ∧ v3 = .int .i64 (L : Int) ∧ Hid (∃ q, wc = w.drewN q))
    case first =>
      go_region_law (fail)
      all_goals
        go_wp2_with fail
        go_meet
        case rel => exact ⟨rfl, rfl, rfl, (show ∃ q, _ from ⟨1, rfl⟩)⟩
    case rest =>
      obtain ⟨rfl, rfl, rfl, HW0⟩ := hcut
      have HC0 : Hid (matF bs i (64 - 0) L 0 0 = matP bs i) := (show _ = _ from HMP.out.symm)
      have hL0 := HLP.out
      clear hrun hat3 hs3 hs7 hs8 hs9 hs10 HM HMP k0 k1 k2 HT
      go_wp2_with fail
      go_loopw [29, 10, 8, 9] (fun vj vq vb vd wr => ∃ (j p best dist : Nat), j ≤ 64 ∧ vj = .int .i64 j ∧ vq = .int .i64 p ∧ vb = .int .i64 best ∧ vd = .int .i64 dist ∧ p ≤ i ∧ best ≤ 258 ∧ dist ≤ 40000 ∧ Hid (matF bs i (64 - j) p best dist = matP bs i) ∧ Hid (∃ q, wr = w.drewN q)) (fun vj _ _ _ _ => 64 - (intOf vj).toNat)
      case atStart => exact ⟨0, L, 0, 0, by omega, rfl, rfl, rfl, rfl, hL0, by omega, by omega, HC0, HW0⟩
      case round =>
        clear HC0 HW0 hL0
        obtain ⟨j, p, best, dist, hj, rfl, rfl, rfl, rfl, hp, hbe, hdi, HC, HW⟩ := hrel
        by_cases h1 : j < 64
        · have h1i : (j : Int) < 64 := by omega
          by_cases hp0 : p = 0
          · have d1 : ((p : Int) == 0) = true := by rw [hp0]; rfl
            have HS2 : Hid (matP bs i = (best, dist)) := (show _ = _ by rw [← HC.out, matF_stop (.inl hp0)])
            go_wp2_with fail
            go_ret2
            exact ⟨by rw [HS2.out]; rfl, HW.out⟩
          · have d1 : ((p : Int) == 0) = false := beq_eq_false_iff_ne.2 (by omega)
            obtain ⟨P, hP⟩ : ∃ P, p - 1 = P := ⟨_, rfl⟩
            have hP2 : (p : Int) - 1 = (P : Int) := by omega
            have hPi : P < i := by omega
            obtain ⟨D, hD⟩ : ∃ D, i - P = D := ⟨_, rfl⟩
            have hD2 : (i : Int) - (P : Int) = (D : Int) := by omega
            have hDn : D ≤ 40000 := by omega
            by_cases h3 : 32768 < D
            · have h3i : (32768 : Int) < (D : Int) := by omega
              have HS2 : Hid (matP bs i = (best, dist)) := (show _ = _ by rw [← HC.out, matF_stop (.inr (by omega))])
              go_wp2_with fail
              go_ret2
              exact ⟨by rw [HS2.out]; rfl, HW.out⟩
            · have h3i : ¬ (32768 : Int) < (D : Int) := by omega
              obtain ⟨-, g, rfl, -, -⟩ := H.out.own.pos (by omega)
              have hgc := H.out.own.cell (by rw [prevL_len]) (k := P) (by rw [prevL_len]; exact hPi)
              have hgv : (prevL bs i)[P]'(by rw [prevL_len]; exact hPi) = ((prevP bs P : Nat) : Int) := by
                have := prevL_get bs hPi
                rw [List.getElem?_eq_getElem (by rw [prevL_len]; exact hPi)] at this
                injection this
              rw [hgv] at hgc
              have hN := (prevP_le bs P).1
              have HS : Hid (matF bs i (64 - j) p best dist = if best < comP bs P i then matF bs i (64 - (j + 1)) (prevP bs P) (comP bs P i) D else matF bs i (64 - (j + 1)) (prevP bs P) best dist) := (show _ = _ by rw [show 64 - j = (64 - (j + 1)) + 1 by omega, matF_more (by omega), hP, hD])
              rw [HC.out] at HS
              have HCM := Lib.hid (fun (w' : World) (h : RdB w' B (some ⟨b, o, none⟩) n bs) => common_any B n c0 P i (some ⟨b, o, none⟩) bs w' h (by omega) (by omega) hn)
              have hC := (comP_le bs P i (by omega)).1
              generalize prevP bs P = N at *
              generalize comP bs P i = C at *
              have HRr : Hid (RdB wr B (some ⟨b, o, none⟩) n bs) := (show RdB _ _ _ _ _ by obtain ⟨q, rfl⟩ := HW.out; exact Rd.drewN HR.out q)
              have HFA : Hid (∀ w', (∃ q, w' = wr.drewN q) → w'.cell? ⟨c, 1, none⟩ = some (.slice (some ⟨g, 0, none⟩) i cp) ∧ w'.cell? ⟨g, P, none⟩ = some (.int .i64 (N : Int)) ∧ ∃ q, w' = w.drewN q) := (show ∀ w', _ by
                obtain ⟨q0, rfl⟩ := HW.out
                rintro w' ⟨q, rfl⟩
                exact ⟨e1, hgc, q0 + q, by rw [World.drewN_drewN]⟩)
              clear hgc hgv hD hP
              by_cases hCb : best < C
              · have hCi : (best : Int) < (C : Int) := by omega
                rw [if_pos hCb] at HS
                go_wp2_with ((go_at_call 91; (with_reducible refine (HCM.out _ HRr.out).mono ?_); go_must (rintro e w5 ⟨rfl, hq5⟩; obtain ⟨c15, r15, hw5⟩ := HFA.out w5 hq5; have HW5 := Lib.hid hw5; clear hq5 hw5)))
                go_roundw
                case rel => exact ⟨j + 1, N, C, D, by omega, by go_num, rfl, rfl, rfl, by omega, hC, hDn, HS.out.symm, HW5⟩
                case measure => simp [intOf]; omega
              · have hCi : ¬ (best : Int) < (C : Int) := by omega
                rw [if_neg hCb] at HS
                go_wp2_with ((go_at_call 91; (with_reducible refine (HCM.out _ HRr.out).mono ?_); go_must (rintro e w5 ⟨rfl, hq5⟩; obtain ⟨c15, r15, hw5⟩ := HFA.out w5 hq5; have HW5 := Lib.hid hw5; clear hq5 hw5)))
                go_roundw
                case rel => exact ⟨j + 1, N, best, dist, by omega, by go_num, rfl, rfl, rfl, by omega, hbe, hdi, HS.out.symm, HW5⟩
                case measure => simp [intOf]; omega
        · obtain rfl : j = 64 := by omega
          have h1i : ¬ (64 : Int) < 64 := by omega
          have HS2 : Hid (matP bs i = (best, dist)) := (show _ = _ by rw [← HC.out]; rfl)
          go_wp2_with fail
          go_ret2
          exact ⟨by rw [HS2.out]; rfl, HW.out⟩
  · have hi3i : (n : Int) < (i : Int) + 3 := by omega
    have HMP : Hid (matP bs i = (0, 0)) := (show _ = _ by unfold matP; rw [if_pos (by omega)])
    clear h hr
    go_enter Try.func56, Try.ntmps56
    go_wp2_with fail
    go_ret2
    exact ⟨by rw [HMP.out]; rfl, 0, rfl⟩
end Go.Proofs.Ytcancpnepfnhmaa
