/- The walk of FiltBack. -/
import Derived.Test.YthlbeifojmeamaaFiltKinds
namespace Go.Proofs.Ythlbeifojmeamaa
set_option linter.all false
open Go.RowKit


theorem undoR_ok {kind bpp : Int} {prev row out : List UInt8} (h : wrongV kind bpp prev.length row.length = 0) (e : undoB kind bpp prev row = out) : undoR kind bpp prev row = (out, 0) := by
  unfold undoR
  rw [if_pos h, e]

set_option maxHeartbeats 800000 in
set_option maxRecDepth 100000 in
theorem back_bad (bpp : Int) (n c n' c' : Nat) (A A' : Option Addr) (w : World)
    (hbad : 5000 < n ∨ 5000 < n' ∨ bpp < 1 ∨ 8 < bpp ∨ (n ≠ 0 ∧ n ≠ n')) :
    Calls Try.prog 7 #[.int .i64 bpp, .slice A n c, .slice A' n' c'] w fun e w' => e = .returned (.bool true) ∧ Below w.heap.size w w' := by
  have hB := Below.refl w.heap.size w
  by_cases hz : n = 0 <;> by_cases hn : n = n'
  · have dz : decide (0 < n) = false := by simp; omega
    have dn : ((n : Int) != n') = false := by simp; omega
    go_enter Try.func7, Try.ntmps7
    go_wp2_with (first
      | (go_at_call 8; go_must (refine (first_any _).mono ?_; rintro e w1 ⟨rfl, hb1⟩; replace hB := bstep hB hb1 (Nat.le_refl _); clear hb1))
      | (go_at_call 18; exfalso; omega))
    all_goals (first | (exfalso; omega) | (go_ret; exact ⟨rfl, hB⟩))
  · have dz : decide (0 < n) = false := by simp; omega
    have dn : ((n : Int) != n') = true := by simp; omega
    go_enter Try.func7, Try.ntmps7
    go_wp2_with (first
      | (go_at_call 8; go_must (refine (first_any _).mono ?_; rintro e w1 ⟨rfl, hb1⟩; replace hB := bstep hB hb1 (Nat.le_refl _); clear hb1))
      | (go_at_call 18; exfalso; omega))
    all_goals (first | (exfalso; omega) | (go_ret; exact ⟨rfl, hB⟩))
  · have dz : decide (0 < n) = true := by simp; omega
    have dn : ((n : Int) != n') = false := by simp; omega
    go_enter Try.func7, Try.ntmps7
    go_wp2_with (first
      | (go_at_call 8; go_must (refine (first_any _).mono ?_; rintro e w1 ⟨rfl, hb1⟩; replace hB := bstep hB hb1 (Nat.le_refl _); clear hb1))
      | (go_at_call 18; exfalso; omega))
    all_goals (first | (exfalso; omega) | (go_ret; exact ⟨rfl, hB⟩))
  · have dz : decide (0 < n) = true := by simp; omega
    have dn : ((n : Int) != n') = true := by simp; omega
    go_enter Try.func7, Try.ntmps7
    go_wp2_with (first
      | (go_at_call 8; go_must (refine (first_any _).mono ?_; rintro e w1 ⟨rfl, hb1⟩; replace hB := bstep hB hb1 (Nat.le_refl _); clear hb1))
      | (go_at_call 18; exfalso; omega))
    all_goals (first | (exfalso; omega) | (go_ret; exact ⟨rfl, hB⟩))

set_option maxHeartbeats 3200000 in
set_option maxRecDepth 100000 in
theorem back_walk (bpp : Int) (n c n' c' : Nat) (A A' : Option Addr) (prev row : List UInt8) (w : World) (hp : RdB w w.heap.size A n prev) (hr : RdB w w.heap.size A' n' row) :
    Calls Try.prog 7 #[.int .i64 bpp, .slice A n c, .slice A' n' c'] w fun e w' => e = .returned (.bool true) ∧ Below w.heap.size w w' := by
  by_cases hok : 5000 < n ∨ 5000 < n' ∨ bpp < 1 ∨ 8 < bpp ∨ (n ≠ 0 ∧ n ≠ n')
  · exact back_bad bpp n c n' c' A A' w hok
  have hB := Below.refl w.heap.size w
  have hpl := hp.len
  have hl := hr.len
  have hn : n ≤ 5000 := by omega
  have hn' : n' ≤ 5000 := by omega
  have hbb : 1 ≤ bpp ∧ bpp ≤ 8 := by omega
  have hz : n = 0 ∨ n = n' := by omega
  have hW : ∀ k : Nat, k ≤ 4 → wrongV k bpp prev.length row.length = 0 := fun k hk => wrong_fine (by omega) hbb (by omega)
  have dz : (decide (0 < n) && ((n : Int) != n')) = false := by
    rcases hz with e | e
    · subst e; rfl
    · subst e; simp
  have dz2 : decide (0 < n) = false ∨ (decide (0 < n) = true ∧ ((n : Int) != n') = false) := by
    by_cases h0 : n = 0
    · subst h0; exact .inl rfl
    · rcases hz with e | e
      · exact absurd e h0
      · subst e; right; simp; omega
  obtain ⟨KK, hKK⟩ : ∃ k, k = bk (dK bpp prev row) 5 := ⟨_, rfl⟩
  obtain ⟨XX, hXX⟩ : ∃ x, x = dK bpp prev row KK := ⟨_, rfl⟩
  have hk4 : KK ≤ 4 := by rw [hKK]; exact bk_lt _ 4
  have hK : bestR bpp prev row = ((KK : Int), XX, 0) := by
    unfold bestR
    rw [if_pos (show wrongV 0 bpp prev.length row.length = 0 from hW 0 (by omega)), ← hKK, hXX, hKK]
    rfl
  have hLX : XX.length = row.length := by rw [hXX]; exact doB_len _ _ _ _
  obtain ⟨WX, hWX⟩ : ∃ q, q = weight XX := ⟨_, rfl⟩
  have hmin : ∀ k, k ≤ 4 → WX ≤ weight (dK bpp prev row k) ∧ (WX = weight (dK bpp prev row k) → KK ≤ k) := by
    rw [hWX, hXX, hKK]
    exact bk_min _ 4
  have HMIN := Lib.hid hmin
  have HW0 := Lib.hid hW
  have HK := Lib.hid hK
  have HLX := Lib.hid hLX
  have HWX := Lib.hid hWX
  have HLN := Lib.hid hl
  have HBB := Lib.hid hbb
  have g1 : decide ((4 : Int) < KK) = false := by simp; omega
  clear hmin hW hK hLX hWX hKK hXX hl hpl hz hok
  rcases dz2 with dz2 | ⟨dz1, dz2⟩ <;> (
  go_enter Try.func7, Try.ntmps7
  go_wp2_with (first
    | (go_at_call 8; go_must (refine (first_any _).mono ?_; rintro e w1 ⟨rfl, hb1⟩; replace hB := bstep hB hb1 (Nat.le_refl _); (try replace hd := hd.later hb1); (try replace hu := hu.later hb1); (try replace hv := hv.later hb1); (try replace hw := hw.later hb1); (try replace hx := hx.later hb1); clear hb1))
    | (go_at_call 18; go_must (go_must (refine (best_any bpp _ _ _ _ _ _ _ _ prev row _ (RdB.blw hp hB) (RdB.blw hr hB) hB.size hB.size (by omega)).mono ?_; rintro e w1 ⟨v1, rfl, hx, hb1⟩; rw [HK.out] at hx ⊢; dsimp only at hx ⊢; replace hx := hx.mono hB.size; obtain ⟨Ax, nx, cx, rfl, _, lx, _⟩ := hx.slice; have ex : n' = nx := (by have h5 := hx.rd.len; have h6 := HLX.out; have h7 := HLN.out; omega); subst ex; replace hB := bstep hB hb1 (Nat.le_refl _); clear hb1))))
  go_loopw [10] (fun i wr => ∃ k : Nat, k ≤ 5 ∧ i = .int .i64 k ∧ ownB wr w.heap.size (.slice Ax n' cx) XX ∧ Below w.heap.size w wr)
    (fun i _ => 5 - (intOf i).toNat)
  case atStart => exact ⟨0, Nat.zero_le _, rfl, hx, hB⟩
  case round =>
    clear hx hB
    obtain ⟨k, hk, rfl, hx, hB⟩ := hrel
    by_cases hlt : k < 5
    · obtain ⟨DD, hDD⟩ : ∃ D, D = doB k bpp prev row := ⟨_, rfl⟩
      obtain ⟨VV, hVV⟩ : ∃ D, D = undoB k bpp prev row := ⟨_, rfl⟩
      have hLD : DD.length = row.length := by rw [hDD, doB_len]
      have hLV : VV.length = row.length := by rw [hVV, undoB_len]
      have HD : Hid (doR k bpp prev row = (DD, 0)) := doR_ok (HW0.out k (by omega)) hDD.symm
      have HV : Hid (undoR k bpp prev row = (VV, 0)) := undoR_ok (HW0.out k (by omega)) hVV.symm
      have HU : Hid (undoR k bpp prev DD = (row, 0)) := undoR_ok (by rw [hLD]; exact HW0.out k (by omega)) (by rw [hDD]; exact undo_do _ _ _ _ HBB.out.1)
      have HW : Hid (doR k bpp prev VV = (row, 0)) := doR_ok (by rw [hLV]; exact HW0.out k (by omega)) (by rw [hVV]; exact do_undo _ _ _ _ HBB.out.1)
      obtain ⟨WD, hWD⟩ : ∃ q, q = weight DD := ⟨_, rfl⟩
      have hm := HMIN.out k (by omega)
      rw [show dK bpp prev row k = DD from hDD.symm, ← hWD] at hm
      have HLD := Lib.hid hLD
      have HLV := Lib.hid hLV
      have HWD := Lib.hid hWD
      obtain ⟨m1, m2⟩ := hm
      have g2 : decide (WD < WX) = false := by simp; omega
      clear hDD hVV hLD hLV hWD
      by_cases heq : WX = WD
      · have g3 : ((WD : Int) == WX) = true := by simp; omega
        have g4 : decide (k < KK) = false := by simp; exact m2 heq
        clear m2
        go_wp2_with (first
          | (go_at_call 11; (with_reducible refine (do_any k bpp _ _ _ _ _ _ _ _ prev row _ (RdB.blw hp hB) (RdB.blw hr hB) hB.size hB.size (by omega)).mono ?_); rintro e w1 ⟨v1, rfl, hd, hb1⟩; rw [HD.out] at hd ⊢; dsimp only at hd ⊢; replace hd := hd.mono hB.size; obtain ⟨Ad, nAd, cAd, rfl, _, lhd, _⟩ := hd.slice; have e_hd : n' = nAd := (by have h5 := hd.rd.len; have h6 := HLD.out; have h7 := HLN.out; omega); subst e_hd; replace hB := bstep hB hb1 (Nat.le_refl _); (try replace hu := hu.later hb1); (try replace hv := hv.later hb1); (try replace hw := hw.later hb1); (try replace hx := hx.later hb1); clear hb1)
          | (go_at_call 16; (with_reducible refine (undo_any k bpp _ _ _ _ _ _ _ _ prev DD _ (RdB.blw hp hB) hd.rd hB.size (Nat.le_refl _) (by omega)).mono ?_); rintro e w1 ⟨v1, rfl, hu, hb1⟩; rw [HU.out] at hu ⊢; dsimp only at hu ⊢; replace hu := hu.mono hB.size; obtain ⟨Au, nAu, cAu, rfl, _, lhu, _⟩ := hu.slice; have e_hu : n' = nAu := (by have h5 := hu.rd.len; have h6 := HLN.out; have h7 := HLN.out; omega); subst e_hu; replace hB := bstep hB hb1 (Nat.le_refl _); (try replace hd := hd.later hb1); (try replace hv := hv.later hb1); (try replace hw := hw.later hb1); (try replace hx := hx.later hb1); clear hb1)
          | (go_at_call 16; (with_reducible refine (undo_any k bpp _ _ _ _ _ _ _ _ prev row _ (RdB.blw hp hB) (RdB.blw hr hB) hB.size hB.size (by omega)).mono ?_); rintro e w1 ⟨v1, rfl, hv, hb1⟩; rw [HV.out] at hv ⊢; dsimp only at hv ⊢; replace hv := hv.mono hB.size; obtain ⟨Av, nAv, cAv, rfl, _, lhv, _⟩ := hv.slice; have e_hv : n' = nAv := (by have h5 := hv.rd.len; have h6 := HLV.out; have h7 := HLN.out; omega); subst e_hv; replace hB := bstep hB hb1 (Nat.le_refl _); (try replace hd := hd.later hb1); (try replace hu := hu.later hb1); (try replace hw := hw.later hb1); (try replace hx := hx.later hb1); clear hb1)
          | (go_at_call 11; (with_reducible refine (do_any k bpp _ _ _ _ _ _ _ _ prev VV _ (RdB.blw hp hB) hv.rd hB.size (Nat.le_refl _) (by omega)).mono ?_); rintro e w1 ⟨v1, rfl, hw, hb1⟩; rw [HW.out] at hw ⊢; dsimp only at hw ⊢; replace hw := hw.mono hB.size; obtain ⟨Aw, nAw, cAw, rfl, _, lhw, _⟩ := hw.slice; have e_hw : n' = nAw := (by have h5 := hw.rd.len; have h6 := HLN.out; have h7 := HLN.out; omega); subst e_hw; replace hB := bstep hB hb1 (Nat.le_refl _); (try replace hd := hd.later hb1); (try replace hu := hu.later hb1); (try replace hv := hv.later hb1); (try replace hx := hx.later hb1); clear hb1)
          | (go_at_call 12; (with_reducible refine (bytes_any _ _ _ _ _ _ _ _ row row _ hu.rd (RdB.blw hr hB)).mono ?_); rintro e w1 ⟨rfl, rfl⟩; rw [beq_self_eq_true])
          | (go_at_call 12; (with_reducible refine (bytes_any _ _ _ _ _ _ _ _ row row _ hw.rd (RdB.blw hr hB)).mono ?_); rintro e w1 ⟨rfl, rfl⟩; rw [beq_self_eq_true])
          | (go_at_call 13; (with_reducible refine (weight_any _ _ _ _ DD _ hd.rd (by omega)).mono ?_); rintro e w1 ⟨rfl, rfl⟩; rw [← HWD.out])
          | (go_at_call 13; (with_reducible refine (weight_any _ _ _ _ XX _ hx.rd (by omega)).mono ?_); rintro e w1 ⟨rfl, rfl⟩; rw [← HWX.out]))
        go_roundw
        case rel => exact ⟨k + 1, by omega, by go_num, hx, hB⟩
        case measure => simp [intOf]; omega
      · have g3 : ((WD : Int) == WX) = false := by simp; omega
        go_wp2_with (first
          | (go_at_call 11; (with_reducible refine (do_any k bpp _ _ _ _ _ _ _ _ prev row _ (RdB.blw hp hB) (RdB.blw hr hB) hB.size hB.size (by omega)).mono ?_); rintro e w1 ⟨v1, rfl, hd, hb1⟩; rw [HD.out] at hd ⊢; dsimp only at hd ⊢; replace hd := hd.mono hB.size; obtain ⟨Ad, nAd, cAd, rfl, _, lhd, _⟩ := hd.slice; have e_hd : n' = nAd := (by have h5 := hd.rd.len; have h6 := HLD.out; have h7 := HLN.out; omega); subst e_hd; replace hB := bstep hB hb1 (Nat.le_refl _); (try replace hu := hu.later hb1); (try replace hv := hv.later hb1); (try replace hw := hw.later hb1); (try replace hx := hx.later hb1); clear hb1)
          | (go_at_call 16; (with_reducible refine (undo_any k bpp _ _ _ _ _ _ _ _ prev DD _ (RdB.blw hp hB) hd.rd hB.size (Nat.le_refl _) (by omega)).mono ?_); rintro e w1 ⟨v1, rfl, hu, hb1⟩; rw [HU.out] at hu ⊢; dsimp only at hu ⊢; replace hu := hu.mono hB.size; obtain ⟨Au, nAu, cAu, rfl, _, lhu, _⟩ := hu.slice; have e_hu : n' = nAu := (by have h5 := hu.rd.len; have h6 := HLN.out; have h7 := HLN.out; omega); subst e_hu; replace hB := bstep hB hb1 (Nat.le_refl _); (try replace hd := hd.later hb1); (try replace hv := hv.later hb1); (try replace hw := hw.later hb1); (try replace hx := hx.later hb1); clear hb1)
          | (go_at_call 16; (with_reducible refine (undo_any k bpp _ _ _ _ _ _ _ _ prev row _ (RdB.blw hp hB) (RdB.blw hr hB) hB.size hB.size (by omega)).mono ?_); rintro e w1 ⟨v1, rfl, hv, hb1⟩; rw [HV.out] at hv ⊢; dsimp only at hv ⊢; replace hv := hv.mono hB.size; obtain ⟨Av, nAv, cAv, rfl, _, lhv, _⟩ := hv.slice; have e_hv : n' = nAv := (by have h5 := hv.rd.len; have h6 := HLV.out; have h7 := HLN.out; omega); subst e_hv; replace hB := bstep hB hb1 (Nat.le_refl _); (try replace hd := hd.later hb1); (try replace hu := hu.later hb1); (try replace hw := hw.later hb1); (try replace hx := hx.later hb1); clear hb1)
          | (go_at_call 11; (with_reducible refine (do_any k bpp _ _ _ _ _ _ _ _ prev VV _ (RdB.blw hp hB) hv.rd hB.size (Nat.le_refl _) (by omega)).mono ?_); rintro e w1 ⟨v1, rfl, hw, hb1⟩; rw [HW.out] at hw ⊢; dsimp only at hw ⊢; replace hw := hw.mono hB.size; obtain ⟨Aw, nAw, cAw, rfl, _, lhw, _⟩ := hw.slice; have e_hw : n' = nAw := (by have h5 := hw.rd.len; have h6 := HLN.out; have h7 := HLN.out; omega); subst e_hw; replace hB := bstep hB hb1 (Nat.le_refl _); (try replace hd := hd.later hb1); (try replace hu := hu.later hb1); (try replace hv := hv.later hb1); (try replace hx := hx.later hb1); clear hb1)
          | (go_at_call 12; (with_reducible refine (bytes_any _ _ _ _ _ _ _ _ row row _ hu.rd (RdB.blw hr hB)).mono ?_); rintro e w1 ⟨rfl, rfl⟩; rw [beq_self_eq_true])
          | (go_at_call 12; (with_reducible refine (bytes_any _ _ _ _ _ _ _ _ row row _ hw.rd (RdB.blw hr hB)).mono ?_); rintro e w1 ⟨rfl, rfl⟩; rw [beq_self_eq_true])
          | (go_at_call 13; (with_reducible refine (weight_any _ _ _ _ DD _ hd.rd (by omega)).mono ?_); rintro e w1 ⟨rfl, rfl⟩; rw [← HWD.out])
          | (go_at_call 13; (with_reducible refine (weight_any _ _ _ _ XX _ hx.rd (by omega)).mono ?_); rintro e w1 ⟨rfl, rfl⟩; rw [← HWX.out]))
        go_roundw
        case rel => exact ⟨k + 1, by omega, by go_num, hx, hB⟩
        case measure => simp [intOf]; omega
    · have : k = 5 := by omega
      subst this
      go_wp2_with (go_at_call 8; go_must (refine (first_any _).mono ?_; rintro e w1 ⟨rfl, hb1⟩; replace hB := bstep hB hb1 (Nat.le_refl _); (try replace hd := hd.later hb1); (try replace hu := hu.later hb1); (try replace hv := hv.later hb1); (try replace hw := hw.later hb1); (try replace hx := hx.later hb1); clear hb1))
      go_ret
      exact ⟨rfl, hB⟩)
end Go.Proofs.Ythlbeifojmeamaa
