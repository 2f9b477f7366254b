/- The walk of NumBack. -/
import Derived.Test.YtlhhhoolnojegaaNumFirst
import Derived.Test.YtlhhhoolnojegaaNum9
import Derived.Test.YtlhhhoolnojegaaNumPure
namespace Go.Proofs.Ytlhhhoolnojegaa
set_option linter.all false
open Go.RowKit


theorem unhex_hex (l : List UInt8) : unhexL (hexB l) = some l := by
  induction l with
  | nil => rfl
  | cons x l ih =>
    have e : hexB (x :: l) = hexd (x.toNat / 16) :: hexd (x.toNat % 16) :: hexB l := rfl
    have hx := x.toNat_lt
    have d : ∀ i : Fin 16, hexv (hexd i.val) = i.val := by decide
    have d1 := d ⟨x.toNat / 16, by omega⟩
    have d2 := d ⟨x.toNat % 16, by omega⟩
    simp only at d1 d2
    rw [e, unhexL_cons _ _ _ (by omega) (by omega), ih, d1, d2]
    simp only [Option.map_some, Int.toNat_natCast]
    congr 2
    apply UInt8.toNat_inj.1
    rw [UInt8.toNat_ofNat']
    omega

set_option maxHeartbeats 1600000 in
set_option maxRecDepth 100000 in
theorem back_walk (n width : Int) (m c : Nat) (A : Option Addr) (xs : List UInt8) (w : World) (ha : RdB w w.heap.size A m xs) :
    Calls Try.prog 9 #[.int .i64 n, .int .i64 width, .slice A m c] w fun e w' => e = .returned (.bool true) ∧ Below w.heap.size w w' := by
  have hB := Below.refl w.heap.size w
  by_cases h1 : 8000 < m
  · have d1 : decide (8000 < (m : Int)) = true := by simp; omega
    go_enter Try.func9, Try.ntmps9
    go_wp2_with (go_at_call 10; refine (first_any _).mono ?_; rintro e w1 ⟨rfl, hb1⟩; replace hB := bstep hB hb1 (Nat.le_refl _); clear hb1)
    all_goals (go_ret; exact ⟨rfl, hB⟩)

  have d1 : decide ((8000 : Int) < m) = false := by simp; omega
  have hn : m ≤ 8000 := by omega
  clear h1
  have hl := ha.len
  have HZ : Hid ((⟨(hexB xs).toArray⟩ : ByteArray).size ≤ 140737488355328) := by show (hexB xs).toArray.size ≤ _; simp [hexB_len]; omega
  have HU : Hid (unhexL (⟨(hexB xs).toArray⟩ : ByteArray).data.toList = some xs) := unhex_hex xs
  have hnl : xs.length ≤ 8000 := by omega
  have HLm := Lib.hid hl
  clear hl
  by_cases hok : numOk n width
  · have HOK := Lib.hid hok
    obtain ⟨h1, h2, h3, h4⟩ := hok
    obtain ⟨n, rfl⟩ := Int.eq_ofNat_of_zero_le h3
    obtain ⟨WW, rfl⟩ := Int.eq_ofNat_of_zero_le (by omega : 0 ≤ width)
    have hlt : n < 256 ^ WW := by
      rw [Int.toNat_natCast] at h4
      rw [pow_256]
      have e : ((n : Int) / 2 ^ (8 * WW)) = ((n / 2 ^ (8 * WW) : Nat) : Int) := by simp
      rw [e] at h4
      have h5 : n / 2 ^ (8 * WW) = 0 := by generalize n / 2 ^ (8 * WW) = q at h4 ⊢; omega
      have h6 := Nat.lt_mul_div_succ n (Nat.two_pow_pos (8 * WW))
      rw [h5] at h6
      omega
    obtain ⟨X, hX⟩ : ∃ X, X = beB n WW := ⟨_, rfl⟩
    obtain ⟨Y, hY⟩ : ∃ Y, Y = leB n WW := ⟨_, rfl⟩
    have HXY : Hid (X = Y.reverse) := by show _ = _; rw [hX, hY]; rfl
    have hLX : X.length = WW := by rw [hX, beB_len]
    have hLY : Y.length = WW := by rw [hY, leB_len]
    have HE1 : Hid (beR n WW = (X, 0)) := by show _ = _; unfold beR; rw [if_pos HOK.out, hX]; rfl
    have HE2 : Hid (leR n WW = (Y, 0)) := by show _ = _; unfold leR; rw [if_pos HOK.out, hY]; rfl
    have HR1 : Hid (rdR beV (xs ++ X) m WW = ((n : Int), 0)) := by
      show _ = _
      unfold rdR
      have e := HLm.out
      rw [if_neg (by simp; omega), if_neg (by simp; omega), Int.toNat_natCast, Int.toNat_natCast, ← e, List.drop_left, List.take_of_length_le (by omega), hX, beV_beB _ _ hlt]
    have HR2 : Hid (rdR leV (xs ++ Y) m WW = ((n : Int), 0)) := by
      show _ = _
      unfold rdR
      have e := HLm.out
      rw [if_neg (by simp; omega), if_neg (by simp; omega), Int.toNat_natCast, Int.toNat_natCast, ← e, List.drop_left, List.take_of_length_le (by omega), hY, leV_leB _ _ hlt]
    have HR3 : Hid (rdR beV (xs ++ X) ((m : Int) + 1) WW = (0, 2)) := by
      show _ = _
      unfold rdR
      have e := HLm.out
      rw [if_neg (by simp; omega), if_pos (by simp; omega)]
    have HLX := Lib.hid hLX
    have HLY := Lib.hid hLY
    have w1 : 1 ≤ WW := by omega
    have w6 : WW ≤ 6 := by omega
    clear hX hY hLX hLY hlt h1 h2 h3 h4
    go_enter Try.func9, Try.ntmps9
    go_wp2_with (first
      | (go_at_call 10; go_must (refine (first_any _).mono ?_; rintro e w1 ⟨rfl, hb1⟩; replace hB := bstep hB hb1 (Nat.le_refl _); (try replace hu := hu.later hb1); (try replace hx := hx.later hb1); (try replace hy := hy.later hb1); clear hb1))
      | (go_at_call 27; go_must (refine (hex_any _ _ _ _ xs _ (RdB.blw ha hB) hB.size (by omega)).mono ?_; rintro e w1 ⟨rfl, hb1⟩; replace hB := bstep hB hb1 (Nat.le_refl _); (try replace hu := hu.later hb1); (try replace hx := hx.later hb1); (try replace hy := hy.later hb1); clear hb1))
      | (go_at_call 25; go_must ((refine (unhex_any _ _ HZ.out).mono ?_); rintro e w1 ⟨hq, hb1⟩; unfold UnhexIs at hq; rw [HU.out] at hq; obtain ⟨v1, rfl, hu⟩ := hq; replace hu := hu.mono hB.size; obtain ⟨Au, nu, cu, rfl, _, lu, _⟩ := hu.slice; replace hB := bstep hB hb1 (Nat.le_refl _); (try replace hu := hu.later hb1); (try replace hx := hx.later hb1); (try replace hy := hy.later hb1); clear hb1))
      | (go_at_call 24; go_must ((refine (bytes_any _ _ _ _ _ _ _ _ _ _ _ hu.rd (RdB.blw ha hB)).mono ?_); rintro e w1 ⟨rfl, rfl⟩))
      | (go_at_call 16; go_must (refine (big_any n WW _).mono ?_; rintro e w1 ⟨v1, rfl, hx, hb1⟩; rw [HE1.out] at hx ⊢; dsimp only at hx ⊢; replace hx := hx.mono hB.size; obtain ⟨Ax, nx, cx, rfl, _, _, _⟩ := hx.slice; have ex : WW = nx := (by have h5 := hx.rd.len; have h6 := HLX.out; omega); subst ex; replace hB := bstep hB hb1 (Nat.le_refl _); (try replace hu := hu.later hb1); (try replace hx := hx.later hb1); (try replace hy := hy.later hb1); clear hb1))
      | (go_at_call 18; go_must (refine (little_any n WW _).mono ?_; rintro e w1 ⟨v1, rfl, hy, hb1⟩; rw [HE2.out] at hy ⊢; dsimp only at hy ⊢; replace hy := hy.mono hB.size; obtain ⟨Ay, ny, cy, rfl, _, _, _⟩ := hy.slice; have ey : WW = ny := (by have h5 := hy.rd.len; have h6 := HLY.out; omega); subst ey; replace hB := bstep hB hb1 (Nat.le_refl _); (try replace hu := hu.later hb1); (try replace hx := hx.later hb1); (try replace hy := hy.later hb1); clear hb1)))
    go_loopw [13] (fun i wr => ∃ k : Nat, k ≤ WW ∧ i = .int .i64 k ∧ ownB wr w.heap.size (.slice Ax WW cx) X ∧ ownB wr w.heap.size (.slice Ay WW cy) Y ∧ Below w.heap.size w wr)
      (fun i _ => WW - (intOf i).toNat)
    case atStart => exact ⟨0, Nat.zero_le _, rfl, hx, hy, hB⟩
    case round =>
      clear hx hy hB hu
      obtain ⟨k, hk, rfl, hx, hy, hB⟩ := hrel
      by_cases hlt : k < WW
      · obtain ⟨j, hj⟩ : ∃ j, j = WW - 1 - k := ⟨_, rfl⟩
        have HJ := Lib.hid hj
        have hj1 : j < WW := by omega
        have ej1 : IntKind.i64.wrap ((WW : Int) - 1) = (WW : Int) - 1 := by simp [IntKind.wrap, IntKind.bits, IntKind.signed]; omega
        have ej : IntKind.i64.wrap ((WW : Int) - 1 - k) = j := by simp [IntKind.wrap, IntKind.bits, IntKind.signed]; omega
        clear hj
        obtain ⟨b1, o1, x, rfl, _, ex, cx1⟩ := hx.rd.byte hlt
        obtain ⟨b2, o2, y, rfl, _, ey, cy1⟩ := hy.rd.byte hj1
        have exy : x = y := by
          have h1 := ex.out
          rw [HXY.out, List.getElem?_reverse (by have := HLY.out; omega), HLY.out, ← HJ.out, ey.out] at h1
          injection h1 with h1
          exact h1.symm
        subst exy
        clear ex ey
        go_wp2
        go_quiet (fail)
        clear ej ej1
        go_wp2
        go_roundw
        case rel => exact ⟨k + 1, by omega, by go_num, hx.drewN _, hy.drewN _, bdrewN hB _⟩
        case measure => simp [intOf]; omega
      · have : k = WW := by omega
        subst this
        go_wp2_with (first
          | (go_at_call 10; go_must (refine (first_any _).mono ?_; rintro e w1 ⟨rfl, hb1⟩; replace hB := bstep hB hb1 (Nat.le_refl _); (try replace hu := hu.later hb1); (try replace hx := hx.later hb1); (try replace hy := hy.later hb1); clear hb1))
          | (go_at_call 12; go_must (refine (copyB_any _ _ _ _ xs _ (RdB.blw ha hB) (by omega)).mono ?_; rintro e w1 ⟨v1, rfl, hz, hb1⟩; have hapx := own_apart hx hz; have hapy := own_apart hy hz; replace hz := hz.mono hB.size; obtain ⟨Az, nz, cz, rfl, _, lz, _⟩ := hz.slice; replace hB := bstep hB hb1 (Nat.le_refl _); (try replace hu := hu.later hb1); (try replace hx := hx.later hb1); (try replace hy := hy.later hb1); clear hb1))
          | (at_builtin; (refine wpList_appendB rfl (.tmp 91) (.tmp 92) rfl w.heap.size (.slice Az nz cz) _ rfl hz _ _ _ _ X rfl hx.rd (by have h5 := HLX.out; have h6 := HLY.out; omega) hB.size ?_; intro v2 w2 hz2 hg2 hb2 hat2; replace hx := hx.kept hg2 hapx; replace hy := hy.kept hg2 hapy; replace hB := hB.trans hb2; clear hz hg2 hb2 hat2 hapx hapy; obtain ⟨A2, n2, c2, rfl, _, l2, _⟩ := hz2.slice; have m2 : n2 ≤ 9000 := (by have h4 := hz2.rd.len; rw [List.length_append] at h4; have h5 := HLX.out; have h6 := HLY.out; omega)))
          | (at_builtin; (refine wpList_appendB rfl (.tmp 102) (.tmp 103) rfl w.heap.size (.slice Az nz cz) _ rfl hz _ _ _ _ Y rfl hy.rd (by have h5 := HLX.out; have h6 := HLY.out; omega) hB.size ?_; intro v2 w2 hz2 hg2 hb2 hat2; replace hx := hx.kept hg2 hapx; replace hy := hy.kept hg2 hapy; replace hB := hB.trans hb2; clear hz hg2 hb2 hat2 hapx hapy; obtain ⟨A2, n2, c2, rfl, _, l2, _⟩ := hz2.slice; have m2 : n2 ≤ 9000 := (by have h4 := hz2.rd.len; rw [List.length_append] at h4; have h5 := HLX.out; have h6 := HLY.out; omega)))
          | (at_builtin; (refine wpList_appendB rfl (.tmp 113) (.tmp 114) rfl w.heap.size (.slice Az nz cz) _ rfl hz _ _ _ _ X rfl hx.rd (by have h5 := HLX.out; have h6 := HLY.out; omega) hB.size ?_; intro v2 w2 hz2 hg2 hb2 hat2; replace hx := hx.kept hg2 hapx; replace hy := hy.kept hg2 hapy; replace hB := hB.trans hb2; clear hz hg2 hb2 hat2 hapx hapy; obtain ⟨A2, n2, c2, rfl, _, l2, _⟩ := hz2.slice; have m2 : n2 ≤ 9000 := (by have h4 := hz2.rd.len; rw [List.length_append] at h4; have h5 := HLX.out; have h6 := HLY.out; omega)))
          | (go_at_call 20; (with_reducible refine (readBig_any _ _ _ _ (xs ++ X) _ _ _ hz2.rd l2 (by omega)).mono ?_); rintro e w1 ⟨rfl, rfl⟩; rw [HR1.out])
          | (go_at_call 20; (with_reducible refine (readBig_any _ _ _ _ (xs ++ X) _ _ _ hz2.rd l2 (by omega)).mono ?_); rintro e w1 ⟨rfl, rfl⟩; rw [HR3.out])
          | (go_at_call 22; (with_reducible refine (readLittle_any _ _ _ _ (xs ++ Y) _ _ _ hz2.rd l2 (by omega)).mono ?_); rintro e w1 ⟨rfl, rfl⟩; rw [HR2.out]))
        go_ret
        exact ⟨rfl, hB⟩
  · have HE1 : Hid (beR n width = ([], 1)) := by show _ = _; unfold beR; rw [if_neg hok]
    have HE2 : Hid (leR n width = ([], 1)) := by show _ = _; unfold leR; rw [if_neg hok]
    obtain ⟨WW, hW⟩ : ∃ WW : Nat, WW = 0 := ⟨_, rfl⟩
    have HLX : Hid (([] : List UInt8).length = WW) := by show _ = _; rw [hW]; rfl
    have HLY : Hid (([] : List UInt8).length = WW) := HLX
    go_enter Try.func9, Try.ntmps9
    go_wp2_with (first
      | (go_at_call 10; go_must (refine (first_any _).mono ?_; rintro e w1 ⟨rfl, hb1⟩; replace hB := bstep hB hb1 (Nat.le_refl _); (try replace hu := hu.later hb1); (try replace hx := hx.later hb1); (try replace hy := hy.later hb1); clear hb1))
      | (go_at_call 27; go_must (refine (hex_any _ _ _ _ xs _ (RdB.blw ha hB) hB.size (by omega)).mono ?_; rintro e w1 ⟨rfl, hb1⟩; replace hB := bstep hB hb1 (Nat.le_refl _); (try replace hu := hu.later hb1); (try replace hx := hx.later hb1); (try replace hy := hy.later hb1); clear hb1))
      | (go_at_call 25; go_must ((refine (unhex_any _ _ HZ.out).mono ?_); rintro e w1 ⟨hq, hb1⟩; unfold UnhexIs at hq; rw [HU.out] at hq; obtain ⟨v1, rfl, hu⟩ := hq; replace hu := hu.mono hB.size; obtain ⟨Au, nu, cu, rfl, _, lu, _⟩ := hu.slice; replace hB := bstep hB hb1 (Nat.le_refl _); (try replace hu := hu.later hb1); (try replace hx := hx.later hb1); (try replace hy := hy.later hb1); clear hb1))
      | (go_at_call 24; go_must ((refine (bytes_any _ _ _ _ _ _ _ _ _ _ _ hu.rd (RdB.blw ha hB)).mono ?_); rintro e w1 ⟨rfl, rfl⟩))
      | (go_at_call 16; go_must (refine (big_any n width _).mono ?_; rintro e w1 ⟨v1, rfl, hx, hb1⟩; rw [HE1.out] at hx ⊢; dsimp only at hx ⊢; replace hx := hx.mono hB.size; obtain ⟨Ax, nx, cx, rfl, _, _, _⟩ := hx.slice; have ex : WW = nx := (by have h5 := hx.rd.len; have h6 := HLX.out; omega); subst ex; replace hB := bstep hB hb1 (Nat.le_refl _); (try replace hu := hu.later hb1); (try replace hx := hx.later hb1); (try replace hy := hy.later hb1); clear hb1))
      | (go_at_call 18; go_must (refine (little_any n width _).mono ?_; rintro e w1 ⟨v1, rfl, hy, hb1⟩; rw [HE2.out] at hy ⊢; dsimp only at hy ⊢; replace hy := hy.mono hB.size; obtain ⟨Ay, ny, cy, rfl, _, _, _⟩ := hy.slice; have ey : WW = ny := (by have h5 := hy.rd.len; have h6 := HLY.out; omega); subst ey; replace hB := bstep hB hb1 (Nat.le_refl _); (try replace hu := hu.later hb1); (try replace hx := hx.later hb1); (try replace hy := hy.later hb1); clear hb1)))
    go_ret
    exact ⟨rfl, hB⟩
end Go.Proofs.Ytlhhhoolnojegaa
