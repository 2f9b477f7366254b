/- HuffBest: no other lengths cost less. -/
import Derived.Test.YtpbegikdohafbaaFirst5
import Derived.Test.YtpbegikdohafbaaHuffO
namespace Go.Proofs.Ytpbegikdohafbaa
set_option linter.all false
open Go.RowKit

theorem wrapH (x : Int) (h0 : -4611686018427387904 ≤ x) (h1 : x ≤ 4611686018427387904) : IntKind.i64.wrap x = x := by
  simp [IntKind.wrap, IntKind.bits, IntKind.signed]; omega
theorem best_mul {x y : Int} (hx : 0 ≤ x ∧ x ≤ 1073741824) (hy : 0 ≤ y ∧ y ≤ 15) : 0 ≤ x * y ∧ x * y ≤ 16106127360 := by
  refine ⟨Int.mul_nonneg hx.1 hy.1, ?_⟩
  have := Int.mul_le_mul hx.2 hy.2 hy.1 (by decide)
  omega
/-- What a sum of the loop is. -/
def DotS (ws ls : List Int) (i : Nat) (a : Int) : Prop := a = dotI ws ls i ∧ 0 ≤ a ∧ a ≤ (i : Int) * 16106127360
theorem DotS.step {ws ls : List Int} {i : Nat} {a x y : Int} (h : DotS ws ls i a) (hx : ws[i]? = some x) (hy : ls[i]? = some y) (bx : 0 ≤ x ∧ x ≤ 1073741824) (by_ : 0 ≤ y ∧ y ≤ 15) : DotS ws ls (i + 1) (a + x * y) := by
  obtain ⟨h1, h2, h3⟩ := h
  have := best_mul bx by_
  refine ⟨by rw [dotI_step hx hy, h1], by omega, ?_⟩
  have e : ((i + 1 : Nat) : Int) = (i : Int) + 1 := rfl
  rw [e, Int.add_mul]
  omega
theorem DotS.le {ws ls : List Int} {i : Nat} {a : Int} (h : DotS ws ls i a) (hi : i ≤ 60) : 0 ≤ a ∧ a ≤ 966367641600 := by
  obtain ⟨h1, h2, h3⟩ := h
  refine ⟨h2, Int.le_trans h3 ?_⟩
  have : (i : Int) ≤ 60 := by omega
  have := Int.mul_le_mul_of_nonneg_right this (show (0 : Int) ≤ 16106127360 by decide)
  omega
/-- The other lengths may be. -/
def OkO (ws os : List Int) (m k : Nat) : Prop := ∀ j, j < k → 0 < wOf ws j → 1 ≤ os.getD j 0 ∧ os.getD j 0 ≤ m
theorem OkO.step {ws os : List Int} {m k : Nat} {x z : Int} (h : OkO ws os m k) (hx : ws[k]? = some x) (hz : os[k]? = some z) (hg : 0 < x → 1 ≤ z ∧ z ≤ m) : OkO ws os m (k + 1) := fun j hj h0 => by
  by_cases e : j = k
  · subst e
    rw [wOf_get hx] at h0
    rw [List.getD_eq_getElem?_getD, hz]
    exact hg h0
  · exact h j (by omega) h0
theorem posn_snoc2 {ws : List Int} {k : Nat} {x : Int} (h : ws[k]? = some x) : posn (ws.take (k + 1)) = posn (ws.take k) + if 0 < x then 1 else 0 := by
  have : ws.take (k + 1) = ws.take k ++ [x] := by
    rw [List.take_add_one, h]
    rfl
  rw [this]
  unfold posn
  rw [List.filter_append, List.length_append]
  by_cases h0 : 0 < x <;> simp [h0]
theorem posn_le2 (ws : List Int) : posn ws ≤ ws.length := List.length_filter_le _ _

set_option maxRecDepth 100000 in
set_option maxHeartbeats 6400000 in
theorem huffBest_walk (n c : Nat) (A : Option Addr) (ws : List Int) (most : Int) (n2 c2 : Nat) (A2 : Option Addr) (os : List Int) (w : World) (h : RdI w w.heap.size A n ws) (hnc : n ≤ c) (hcm : c ≤ maxLen)
    (h2 : RdI w w.heap.size A2 n2 os) (hnc2 : n2 ≤ c2) (hcm2 : c2 ≤ maxLen) :
    Calls Try.prog 7 #[.slice A n c, .int .i64 most, .slice A2 n2 c2] w fun e w' => e = .returned (.bool true) ∧ Below w.heap.size w w' := by
  unfold maxLen at hcm hcm2
  have hB := Below.refl w.heap.size w
  by_cases g1 : 60 < n
  · have d1 : decide ((n : Int) > 60) = true := decide_eq_true (by omega)
    clear h h2
    go_enter Try.func7, Try.ntmps7
    go_wp2_with (go_at_call 11; (with_reducible refine (first5_any _).mono ?_); go_must (rintro e wf ⟨rfl, hb1⟩; replace hB := bstep hB hb1 (Nat.le_refl _); clear hb1))
    go_ret
    exact ⟨rfl, hB⟩
  by_cases g2 : ¬ n2 = n
  · have d1 : decide ((n : Int) > 60) = false := decide_eq_false (by omega)
    have d2 : ((n2 : Int) != (n : Int)) = true := by rw [bne, beq_eq_false_iff_ne.2 (show (n2 : Int) ≠ n by omega)]; rfl
    clear h h2
    go_enter Try.func7, Try.ntmps7
    go_wp2_with (go_at_call 11; (with_reducible refine (first5_any _).mono ?_); go_must (rintro e wf ⟨rfl, hb1⟩; replace hB := bstep hB hb1 (Nat.le_refl _); clear hb1))
    go_ret
    exact ⟨rfl, hB⟩
  obtain rfl : n2 = n := Decidable.not_not.1 g2
  clear g2
  have d1 : decide ((n2 : Int) > 60) = false := decide_eq_false (by omega)
  by_cases g3 : most < 1
  · have d3 : decide (most < (1 : Int)) = true := decide_eq_true g3
    clear h h2
    go_enter Try.func7, Try.ntmps7
    go_wp2_with (go_at_call 11; (with_reducible refine (first5_any _).mono ?_); go_must (rintro e wf ⟨rfl, hb1⟩; replace hB := bstep hB hb1 (Nat.le_refl _); clear hb1))
    go_ret
    exact ⟨rfl, hB⟩
  have d3 : decide (most < (1 : Int)) = false := decide_eq_false g3
  by_cases g4 : 15 < most
  · have d4 : decide (most > (15 : Int)) = true := decide_eq_true g4
    clear h h2
    go_enter Try.func7, Try.ntmps7
    go_wp2_with (go_at_call 11; (with_reducible refine (first5_any _).mono ?_); go_must (rintro e wf ⟨rfl, hb1⟩; replace hB := bstep hB hb1 (Nat.le_refl _); clear hb1))
    go_ret
    exact ⟨rfl, hB⟩
  have d4 : decide (most > (15 : Int)) = false := decide_eq_false g4
  obtain ⟨m, rfl⟩ := Int.eq_ofNat_of_zero_le (show 0 ≤ most by omega)
  have hm1 : 1 ≤ m := by omega
  have hm2 : m ≤ 15 := by omega
  have d3 : decide (((m : Nat) : Int) < 1) = false := decide_eq_false (by omega)
  have d4 : decide (((m : Nat) : Int) > 15) = false := decide_eq_false (by omega)
  have HC := Lib.hid (fun (w' : World) (hb : Below w.heap.size w w') => lengths_any w.heap.size n2 c A ws (m : Int) w' (h.blw hb) hb.size (by omega))
  have HK := Lib.hid (fun (w' : World) (hb : Below w.heap.size w w') => kraft_any w.heap.size n2 c2 A2 os w' (h2.blw hb) (by omega))
  have H := Lib.hid h
  have HL := Lib.hid h.len
  have H2 := Lib.hid h2
  have HL2 := Lib.hid h2.len
  clear h h2 g3 g4
  cases hw : wrongH ws (m : Int) with
  | true =>
    have hE : lenE ws (m : Int) = 1 ∧ lenR ws (m : Int) = [] := by unfold lenE lenR; rw [hw]; exact ⟨rfl, rfl⟩
    have HE := Lib.hid hE
    clear hE hw
    generalize krV os = KV at *
    generalize krE os = KE at *
    go_enter Try.func7, Try.ntmps7
    go_wp2_with (first
      | (go_at_call 11; (with_reducible refine (first5_any _).mono ?_); go_must (rintro e wf ⟨rfl, hb1⟩; replace hB := bstep hB hb1 (Nat.le_refl _); clear hb1))
      | (go_at_call 13; (with_reducible refine (HC.out _ hB).mono ?_); go_must (rintro e w1 ⟨A1, n1, c1, rfl, hn1, ho1, hb1⟩; rw [HE.out.1]; rw [HE.out.2] at hn1; obtain rfl : n1 = 0 := hn1; replace hB := bstep hB hb1 (Nat.le_refl _); clear ho1 hb1))
      | (go_at_call 16; (with_reducible refine (HK.out _ hB).mono ?_); go_must (rintro e w8 ⟨rfl, rfl⟩)))
    go_ret
    exact ⟨rfl, hB⟩
  | false =>
    obtain ⟨q1, q2, q3, q4, q5, q6⟩ := wrongH_false hw
    have hE : lenE ws (m : Int) = 0 ∧ lenR ws (m : Int) = lensOf ws m := by unfold lenE lenR; rw [hw]; exact ⟨rfl, rfl⟩
    have HE := Lib.hid hE
    have HQ := Lib.hid (show (leaves ws).length ≤ 2 ^ m by simpa using q6)
    have HP := Lib.hid q5
    clear hE hw q1 q2 q3 q4 q5 q6
    by_cases hbl : badL os = true
    · have hk : krE os = 1 ∧ krV os = 0 := by unfold krE krV; rw [if_pos (.inr hbl), if_pos (.inr hbl)]; exact ⟨rfl, rfl⟩
      rw [hk.1, hk.2] at HK
      clear hk hbl
      go_enter Try.func7, Try.ntmps7
      go_wp2_with (first
        | (go_at_call 11; (with_reducible refine (first5_any _).mono ?_); go_must (rintro e wf ⟨rfl, hb1⟩; replace hB := bstep hB hb1 (Nat.le_refl _); clear hb1))
        | (go_at_call 13; (with_reducible refine (HC.out _ hB).mono ?_); go_must (rintro e w1 ⟨A1, n1, c1, rfl, hn1, ho1, hb1⟩; rw [HE.out.1]; rw [HE.out.2] at hn1 ho1; obtain rfl : n1 = n2 := hn1.trans ((lensOf_len ws m).trans HL.out); clear hn1; have HR := Lib.hid ho1.rd; replace hB := bstep hB hb1 (Nat.le_refl _); clear ho1 hb1))
        | (go_at_call 16; (with_reducible refine (HK.out _ hB).mono ?_); go_must (rintro e w8 ⟨rfl, rfl⟩)))
      go_ret
      exact ⟨rfl, hB⟩
    have HBL := Lib.hid hbl
    have hk : krE os = 0 ∧ krV os = krN os := by
      have hno : ¬ (300 < os.length ∨ badL os = true) := by
        rintro (h | h)
        · rw [HL2.out] at h; omega
        · exact hbl h
      unfold krE krV
      rw [if_neg hno, if_neg hno]
      exact ⟨rfl, rfl⟩
    rw [hk.1, hk.2] at HK
    clear hk hbl
    have hkl : krN os ≤ 60 * 32768 := by
      have h1 := krN_le os
      have h3 : os.length ≤ 60 := by rw [HL2.out]; omega
      omega
    by_cases hkb : 32768 < krN os
    · have d5 : decide (((krN os : Nat) : Int) > 32768) = true := decide_eq_true (by omega)
      generalize krN os = KN at *
      go_enter Try.func7, Try.ntmps7
      go_wp2_with (first
        | (go_at_call 11; (with_reducible refine (first5_any _).mono ?_); go_must (rintro e wf ⟨rfl, hb1⟩; replace hB := bstep hB hb1 (Nat.le_refl _); clear hb1))
        | (go_at_call 13; (with_reducible refine (HC.out _ hB).mono ?_); go_must (rintro e w1 ⟨A1, n1, c1, rfl, hn1, ho1, hb1⟩; rw [HE.out.1]; rw [HE.out.2] at hn1 ho1; obtain rfl : n1 = n2 := hn1.trans ((lensOf_len ws m).trans HL.out); clear hn1; have HR := Lib.hid ho1.rd; replace hB := bstep hB hb1 (Nat.le_refl _); clear ho1 hb1))
        | (go_at_call 16; (with_reducible refine (HK.out _ hB).mono ?_); go_must (rintro e w8 ⟨rfl, rfl⟩)))
      go_ret
      exact ⟨rfl, hB⟩
    have d5 : decide (((krN os : Nat) : Int) > 32768) = false := decide_eq_false (by omega)
    have HKN := Lib.hid (show krN os ≤ 32768 by omega)
    clear hkb
    obtain ⟨KN, hKN⟩ : ∃ KN, KN = krN os := ⟨_, rfl⟩
    rw [← hKN] at d5 HK hkl
    clear hKN
    go_enter Try.func7, Try.ntmps7
    go_wp2_with (first
      | (go_at_call 11; (with_reducible refine (first5_any _).mono ?_); go_must (rintro e wf ⟨rfl, hb1⟩; replace hB := bstep hB hb1 (Nat.le_refl _); clear hb1))
      | (go_at_call 13; (with_reducible refine (HC.out _ hB).mono ?_); go_must (rintro e w1 ⟨A1, n1, c1, rfl, hn1, ho1, hb1⟩; rw [HE.out.1]; rw [HE.out.2] at hn1 ho1; obtain rfl : n1 = n2 := hn1.trans ((lensOf_len ws m).trans HL.out); clear hn1; have HR := Lib.hid ho1.rd; replace hB := bstep hB hb1 (Nat.le_refl _); clear ho1 hb1))
      | (go_at_call 16; (with_reducible refine (HK.out _ hB).mono ?_); go_must (rintro e w8 ⟨rfl, rfl⟩)))
    clear HC HK d5
    go_loopw [14, 11, 12, 13] (fun vi va vb vn wr => ∃ (i : Nat) (a b : Int), vi = .int .i64 i ∧ i ≤ n1 ∧ va = .int .i64 a ∧ vb = .int .i64 b ∧ vn = .int .i64 (posn (ws.take i) : Nat) ∧ Hid (DotS ws (lensOf ws m) i a) ∧ Hid (DotS ws os i b) ∧ Hid (OkO ws os m i) ∧ Hid (Below w1.heap.size w1 wr)) (fun vi _ _ _ _ => n1 - (intOf vi).toNat)
    case atStart => exact ⟨0, 0, 0, rfl, Nat.zero_le _, rfl, rfl, rfl, ⟨rfl, Int.le_refl _, Int.le_refl _⟩, ⟨rfl, Int.le_refl _, Int.le_refl _⟩, (fun j hj => absurd hj (Nat.not_lt_zero _)), Below.refl _ _⟩
    case round =>
      obtain ⟨i, a, bb, rfl, hi, rfl, rfl, rfl, HDA, HDB, HO, HB⟩ := hrel
      by_cases hlt : i < n1
      · obtain ⟨b, o, x, rfl, hb, HX, e1⟩ := (((H.out.blw hB).more hB.size).blw HB.out).one hlt
        obtain ⟨b2, o2, y, rfl, hb2, HY, e2⟩ := (HR.out.blw HB.out).one hlt
        obtain ⟨b3, o3, z, rfl, hb3, HZ, e3⟩ := (((H2.out.blw hB).more hB.size).blw HB.out).one hlt
        have hx0 := HP.out x (List.mem_of_getElem? HX.out)
        have hil : i < ws.length := by rw [HL.out]; exact hlt
        have hy : y = (lnat ws m i : Int) := by
          have h1 := HY.out
          rw [lensOf_get ws m hil] at h1
          injection h1 with h1
          exact h1.symm
        have hcl := lnat_le hm1 HQ.out hil
        have hy0 : 0 ≤ y ∧ y ≤ 15 := by omega
        have hz0 : 0 ≤ z ∧ z ≤ 15 := by
          refine Decidable.byContradiction fun hz => HBL.out (badL_of HZ.out ?_)
          omega
        have HPO := Lib.hid (posn_snoc2 HX.out)
        have hpo : posn (ws.take i) ≤ 60 := Nat.le_trans (posn_le2 _) (by simp; omega)
        have HDA2 := Lib.hid (HDA.out.step HX.out HY.out hx0 hy0)
        have HDB2 := Lib.hid (HDB.out.step HX.out HZ.out hx0 hz0)
        have ha0 := HDA.out.le (by omega)
        have hb0 := HDB.out.le (by omega)
        have hp1 := best_mul hx0 hy0
        have hp2 := best_mul hx0 hz0
        have HST := Lib.hid (fun (hg : 0 < x → 1 ≤ z ∧ z ≤ (m : Int)) => HO.out.step HX.out HZ.out hg)
        have HB2 := Lib.hid (fun q => bdrewN HB.out q)
        have hBr := hB.trans (HB.out.mono hB.size)
        clear hy hcl HX HY HZ hil HDA HDB HO
        by_cases hxp : 0 < x
        · have t1 : decide ((x : Int) > (0 : Int)) = true := decide_eq_true hxp
          by_cases hg : 1 ≤ z ∧ z ≤ (m : Int)
          · have t2 : ((z : Int) == 0) = false := beq_eq_false_iff_ne.2 (by omega)
            have t3 : decide ((z : Int) > (m : Int)) = false := decide_eq_false (by omega)
            have HO2 := Lib.hid (HST.out (fun _ => hg))
            have HPO2 : Hid (posn (ws.take (i + 1)) = posn (ws.take i) + 1) := (show _ = _ by rw [HPO.out, if_pos hxp])
            clear HST HPO
            generalize hpg : posn (ws.take i) = N at *
            clear hpg
            obtain ⟨P, hP⟩ : ∃ P, P = x * y := ⟨_, rfl⟩
            obtain ⟨Q, hQ⟩ : ∃ Q, Q = x * z := ⟨_, rfl⟩
            rw [← hP] at HDA2 hp1
            rw [← hQ] at HDB2 hp2
            have v1 : IntKind.i64.wrap (a + P) = a + P := wrapH _ (by omega) (by omega)
            have v2 : IntKind.i64.wrap (bb + Q) = bb + Q := wrapH _ (by omega) (by omega)
            have v3 : IntKind.i64.wrap (x * y) = P := (wrapH _ (by rw [← hP]; omega) (by rw [← hP]; omega)).trans hP.symm
            have v4 : IntKind.i64.wrap (x * z) = Q := (wrapH _ (by rw [← hQ]; omega) (by rw [← hQ]; omega)).trans hQ.symm
            clear hP hQ
            go_wp2_with fail
            go_quiet (fail)
            go_wp2_with fail
            go_roundw
            case rel => exact ⟨i + 1, a + P, bb + Q, by go_num, by omega, rfl, rfl, by rw [HPO2.out]; go_num, HDA2.out, HDB2.out, HO2.out, HB2.out _⟩
            case measure => simp [intOf]; omega
          · clear HST HPO HDA2 HDB2 HB2
            have hB := hBr
            clear hBr
            by_cases hz1 : z = 0
            · subst hz1
              go_wp2_with (go_at_call 11; (with_reducible refine (first5_any _).mono ?_); go_must (rintro e wf ⟨rfl, hb1⟩; replace hB := bstep hB hb1 (Nat.le_refl _); clear hb1))
              go_ret
              exact ⟨rfl, hB⟩
            · have t2 : ((z : Int) == 0) = false := beq_eq_false_iff_ne.2 hz1
              have t3 : decide ((z : Int) > (m : Int)) = true := decide_eq_true (by omega)
              go_wp2_with (go_at_call 11; (with_reducible refine (first5_any _).mono ?_); go_must (rintro e wf ⟨rfl, hb1⟩; replace hB := bstep hB hb1 (Nat.le_refl _); clear hb1))
              go_ret
              exact ⟨rfl, hB⟩
        · have t1 : decide ((x : Int) > (0 : Int)) = false := decide_eq_false hxp
          have HO2 := Lib.hid (HST.out (fun h => absurd h hxp))
          have HPO2 : Hid (posn (ws.take (i + 1)) = posn (ws.take i)) := (show _ = _ by rw [HPO.out, if_neg hxp]; rfl)
          clear HST HPO
          generalize hpg : posn (ws.take i) = N at *
          clear hpg
          obtain ⟨P, hP⟩ : ∃ P, P = x * y := ⟨_, rfl⟩
          obtain ⟨Q, hQ⟩ : ∃ Q, Q = x * z := ⟨_, rfl⟩
          rw [← hP] at HDA2 hp1
          rw [← hQ] at HDB2 hp2
          have v1 : IntKind.i64.wrap (a + P) = a + P := wrapH _ (by omega) (by omega)
          have v2 : IntKind.i64.wrap (bb + Q) = bb + Q := wrapH _ (by omega) (by omega)
          have v3 : IntKind.i64.wrap (x * y) = P := (wrapH _ (by rw [← hP]; omega) (by rw [← hP]; omega)).trans hP.symm
          have v4 : IntKind.i64.wrap (x * z) = Q := (wrapH _ (by rw [← hQ]; omega) (by rw [← hQ]; omega)).trans hQ.symm
          clear hP hQ
          go_wp2_with fail
          go_quiet (fail)
          go_wp2_with fail
          go_roundw
          case rel => exact ⟨i + 1, a + P, bb + Q, by go_num, by omega, rfl, rfl, by rw [HPO2.out], HDA2.out, HDB2.out, HO2.out, HB2.out _⟩
          case measure => simp [intOf]; omega
      · obtain rfl : i = n1 := by omega
        have e9 : ws.take i = ws := List.take_of_length_le (by rw [HL.out]; exact Nat.le_refl _)
        rw [e9]
        clear e9
        have hp3 : posn ws ≤ 60 := Nat.le_trans (posn_le2 _) (by rw [HL.out]; omega)
        have hBr := hB.trans (HB.out.mono hB.size)
        have hab : 2 ≤ posn ws → a ≤ bb := fun hN => by
          have h1 := lens_best hm1 hm2 hN (fun x hx => (HP.out x hx).1) (other := os) (fun j h0 => by
            by_cases hj : j < i
            · exact HO.out j hj h0
            · exfalso
              unfold wOf at h0
              rw [List.getD_eq_getElem?_getD, List.getElem?_eq_none (by rw [HL.out]; omega)] at h0
              exact absurd h0 (by decide)) HKN.out (by rw [HL.out, HL2.out])
          rw [HL.out] at h1
          rw [HDA.out.1, HDB.out.1]
          exact h1
        clear HDA HDB HO
        have hB := hBr
        clear hBr HB
        generalize posn ws = N at *
        by_cases hN : N < 2
        · have d1 : decide ((N : Int) < 2) = true := decide_eq_true (by omega)
          clear hab
          go_wp2_with (go_at_call 11; (with_reducible refine (first5_any _).mono ?_); go_must (rintro e wf ⟨rfl, hb1⟩; replace hB := bstep hB hb1 (Nat.le_refl _); clear hb1))
          go_ret
          exact ⟨rfl, hB⟩
        · have d1 : decide ((N : Int) < 2) = false := decide_eq_false (by omega)
          have d2 : decide (a ≤ bb) = true := decide_eq_true (hab (by omega))
          clear hab
          go_wp2_with (go_at_call 11; (with_reducible refine (first5_any _).mono ?_); go_must (rintro e wf ⟨rfl, hb1⟩; replace hB := bstep hB hb1 (Nat.le_refl _); clear hb1))
          go_ret
          exact ⟨rfl, hB⟩
end Go.Proofs.Ytpbegikdohafbaa
