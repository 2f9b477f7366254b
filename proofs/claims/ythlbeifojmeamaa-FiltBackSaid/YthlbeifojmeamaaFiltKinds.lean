/- The walk of FiltKinds. -/
import Derived.Test.YthlbeifojmeamaaFiltPure
namespace Go.Proofs.Ythlbeifojmeamaa
set_option linter.all false
open Go.RowKit


theorem rdB_none (w : World) : RdB w 0 none 0 [] := Rd.none_
theorem doR_ok {kind bpp : Int} {prev row out : List UInt8} (h : wrongV kind bpp prev.length row.length = 0) (e : doB kind bpp prev row = out) : doR kind bpp prev row = (out, 0) := by
  unfold doR
  rw [if_pos h, e]
theorem wrong_fine {kind bpp : Int} {n n' : Nat} (hk : 0 ≤ kind ∧ kind ≤ 4) (h : 1 ≤ bpp ∧ bpp ≤ 8) (h' : n = 0 ∨ n = n') : wrongV kind bpp n n' = 0 := by
  unfold wrongV
  rw [if_neg (by omega), if_neg (by omega)]

set_option maxHeartbeats 1600000 in
set_option maxRecDepth 100000 in
theorem kinds_walk (bpp : Int) (n c : Nat) (A : Option Addr) (row : List UInt8) (w : World) (hr : RdB w w.heap.size A n row) :
    Calls Try.prog 4 #[.int .i64 bpp, .slice A n c] w fun e w' => e = .returned (.bool true) ∧ Below w.heap.size w w' := by
  have hB := Below.refl w.heap.size w
  by_cases hok : n ≤ 5000 ∧ 1 ≤ bpp ∧ bpp ≤ 8
  · obtain ⟨hn, hb1, hb2⟩ := hok
    have hl := hr.len
    have hA := doR_ok (wrong_fine (kind := 0) (n := ([] : List UInt8).length) (n' := row.length) (by omega) ⟨hb1, hb2⟩ (.inl rfl)) (do_none bpp [] row)
    have hBz := doR_ok (wrong_fine (kind := 2) (n := row.length) (n' := row.length) (by omega) ⟨hb1, hb2⟩ (.inr rfl)) (do_up_self bpp row)
    have hC := doR_ok (wrong_fine (kind := 2) (n := ([] : List UInt8).length) (n' := row.length) (by omega) ⟨hb1, hb2⟩ (.inl rfl)) (do_up_nil bpp row)
    obtain ⟨DD, hDD⟩ : ∃ D, D = doB 1 bpp [] row := ⟨_, rfl⟩
    have hD := doR_ok (wrong_fine (kind := 1) (n := ([] : List UInt8).length) (n' := row.length) (by omega) ⟨hb1, hb2⟩ (.inl rfl)) hDD.symm
    have hX := doR_ok (wrong_fine (kind := 4) (n := ([] : List UInt8).length) (n' := row.length) (by omega) ⟨hb1, hb2⟩ (.inl rfl)) ((do_paeth_nil bpp row).trans hDD.symm)
    have hpt : ∀ i : Nat, (i : Int) < bpp → DD[i]? = row[i]? := by rw [hDD]; exact do_sub_nil bpp row
    have hLD : DD.length = row.length := by rw [hDD, doB_len]
    have HA := Lib.hid hA
    have HBz := Lib.hid hBz
    have HC := Lib.hid hC
    have HD := Lib.hid hD
    have HX := Lib.hid hX
    have HPT := Lib.hid hpt
    have HLD := Lib.hid hLD
    have HLN := Lib.hid hl
    clear hA hBz hC hD hX hpt hLD hDD hl
    go_enter Try.func4, Try.ntmps4
    go_wp2_with (first
      | (go_at_call 8; go_must (refine (first_any _).mono ?_; rintro e w1 ⟨rfl, hb1⟩; replace hB := bstep hB hb1 (Nat.le_refl _); (try replace ha := ha.later hb1); (try replace hb := hb.later hb1); (try replace hc := hc.later hb1); (try replace hd := hd.later hb1); (try replace hx := hx.later hb1); clear hb1))
      | (go_at_call 11; (with_reducible refine (do_any 0 bpp 0 0 0 _ _ _ none _ [] row _ (rdB_none _) (RdB.blw hr hB) (Nat.zero_le _) hB.size (by omega)).mono ?_); rintro e w1 ⟨v1, rfl, ha, hb1⟩; rw [HA.out] at ha ⊢; dsimp only at ha ⊢; replace ha := ha.mono hB.size; obtain ⟨Aa, nAa, cAa, rfl, _, lha, _⟩ := ha.slice; have e_ha : n = nAa := (by have h5 := ha.rd.len; have h6 := HLN.out; omega); subst e_ha; replace hB := bstep hB hb1 (Nat.le_refl _); (try replace hb := hb.later hb1); (try replace hc := hc.later hb1); (try replace hd := hd.later hb1); (try replace hx := hx.later hb1); clear hb1)
      | (go_at_call 11; (with_reducible refine (do_any 2 bpp _ _ _ _ _ _ _ _ row row _ (RdB.blw hr hB) (RdB.blw hr hB) hB.size hB.size (by omega)).mono ?_); rintro e w1 ⟨v1, rfl, hb, hb1⟩; rw [HBz.out] at hb ⊢; dsimp only at hb ⊢; replace hb := hb.mono hB.size; obtain ⟨Ab, nAb, cAb, rfl, _, lhb, _⟩ := hb.slice; have e_hb : n = nAb := (by have h5 := hb.rd.len; have h6 := HLN.out; simp at h5; omega); subst e_hb; replace hB := bstep hB hb1 (Nat.le_refl _); (try replace ha := ha.later hb1); (try replace hc := hc.later hb1); (try replace hd := hd.later hb1); (try replace hx := hx.later hb1); clear hb1)
      | (go_at_call 11; (with_reducible refine (do_any 2 bpp 0 0 0 _ _ _ none _ [] row _ (rdB_none _) (RdB.blw hr hB) (Nat.zero_le _) hB.size (by omega)).mono ?_); rintro e w1 ⟨v1, rfl, hc, hb1⟩; rw [HC.out] at hc ⊢; dsimp only at hc ⊢; replace hc := hc.mono hB.size; obtain ⟨Ac, nAc, cAc, rfl, _, lhc, _⟩ := hc.slice; have e_hc : n = nAc := (by have h5 := hc.rd.len; have h6 := HLN.out; omega); subst e_hc; replace hB := bstep hB hb1 (Nat.le_refl _); (try replace ha := ha.later hb1); (try replace hb := hb.later hb1); (try replace hd := hd.later hb1); (try replace hx := hx.later hb1); clear hb1)
      | (go_at_call 11; (with_reducible refine (do_any 1 bpp 0 0 0 _ _ _ none _ [] row _ (rdB_none _) (RdB.blw hr hB) (Nat.zero_le _) hB.size (by omega)).mono ?_); rintro e w1 ⟨v1, rfl, hd, hb1⟩; rw [HD.out] at hd ⊢; dsimp only at hd ⊢; replace hd := hd.mono hB.size; obtain ⟨Ad, nAd, cAd, rfl, _, lhd, _⟩ := hd.slice; have e_hd : n = nAd := (by have h5 := hd.rd.len; have h6 := HLN.out; have h7 := HLD.out; omega); subst e_hd; replace hB := bstep hB hb1 (Nat.le_refl _); (try replace ha := ha.later hb1); (try replace hb := hb.later hb1); (try replace hc := hc.later hb1); (try replace hx := hx.later hb1); clear hb1)
      | (go_at_call 11; (with_reducible refine (do_any 4 bpp 0 0 0 _ _ _ none _ [] row _ (rdB_none _) (RdB.blw hr hB) (Nat.zero_le _) hB.size (by omega)).mono ?_); rintro e w1 ⟨v1, rfl, hx, hb1⟩; rw [HX.out] at hx ⊢; dsimp only at hx ⊢; replace hx := hx.mono hB.size; obtain ⟨Ax, nAx, cAx, rfl, _, lhx, _⟩ := hx.slice; have e_hx : n = nAx := (by have h5 := hx.rd.len; have h6 := HLN.out; have h7 := HLD.out; omega); subst e_hx; replace hB := bstep hB hb1 (Nat.le_refl _); (try replace ha := ha.later hb1); (try replace hb := hb.later hb1); (try replace hc := hc.later hb1); (try replace hd := hd.later hb1); clear hb1)
      | (go_at_call 12; (with_reducible refine (bytes_any _ _ _ _ _ _ _ _ row row _ ha.rd (RdB.blw hr hB)).mono ?_); rintro e w1 ⟨rfl, rfl⟩; rw [beq_self_eq_true])
      | (go_at_call 12; (with_reducible refine (bytes_any _ _ _ _ _ _ _ _ row row _ hc.rd (RdB.blw hr hB)).mono ?_); rintro e w1 ⟨rfl, rfl⟩; rw [beq_self_eq_true])
      | (go_at_call 12; (with_reducible refine (bytes_any _ _ _ _ _ _ _ _ DD DD _ hx.rd hd.rd).mono ?_); rintro e w1 ⟨rfl, rfl⟩; rw [beq_self_eq_true]))
    go_loopw [15] (fun i wr => ∃ k : Nat, k ≤ n ∧ i = .int .i64 k ∧ ownB wr w.heap.size (.slice Aa n cAa) row ∧ ownB wr w.heap.size (.slice Ab n cAb) (List.replicate row.length 0) ∧ ownB wr w.heap.size (.slice Ac n cAc) row ∧ ownB wr w.heap.size (.slice Ad n cAd) DD ∧ ownB wr w.heap.size (.slice Ax n cAx) DD ∧ Below w.heap.size w wr)
      (fun i _ => n - (intOf i).toNat)
    case atStart => exact ⟨0, Nat.zero_le _, rfl, ha, hb, hc, hd, hx, hB⟩
    case round =>
      clear ha hb hc hd hx hB
      obtain ⟨k, hk, rfl, ha, hb, hc, hd, hx, hB⟩ := hrel
      by_cases hlt : k < n
      · obtain ⟨b1, o1, x, rfl, _, ex, cx1⟩ := hb.rd.byte hlt
        obtain ⟨b2, o2, y, rfl, _, ey, cy1⟩ := hd.rd.byte hlt
        obtain ⟨b3, o3, z, rfl, _, ez, cz1⟩ := (RdB.blw hr hB).byte hlt
        obtain rfl : x = 0 := by have h1 := ex.out; rw [List.getElem?_replicate] at h1; split at h1 <;> simp_all
        by_cases hkb : (k : Int) < bpp
        · obtain rfl : y = z := by have h1 := ey.out; rw [HPT.out k hkb, ez.out] at h1; injection h1 with h1; exact h1.symm
          have d1 : decide ((k : Int) < bpp) = true := by simpa using hkb
          clear ex ey ez
          go_wp2
          go_quiet (fail)
          go_wp2
          go_roundw
          case rel => exact ⟨k + 1, by omega, by go_num, ha.drewN _, hb.drewN _, hc.drewN _, hd.drewN _, hx.drewN _, bdrewN hB _⟩
          case measure => simp [intOf]; omega
        · have d1 : decide ((k : Int) < bpp) = false := by simpa using hkb
          clear ex ey ez
          go_wp2
          go_quiet (fail)
          go_wp2
          go_roundw
          case rel => exact ⟨k + 1, by omega, by go_num, ha.drewN _, hb.drewN _, hc.drewN _, hd.drewN _, hx.drewN _, bdrewN hB _⟩
          case measure => simp [intOf]; omega
      · have : k = n := by omega
        subst this
        go_wp2_with (first
          | (go_at_call 8; go_must (refine (first_any _).mono ?_; rintro e w1 ⟨rfl, hb1⟩; replace hB := bstep hB hb1 (Nat.le_refl _); (try replace ha := ha.later hb1); (try replace hb := hb.later hb1); (try replace hc := hc.later hb1); (try replace hd := hd.later hb1); (try replace hx := hx.later hb1); clear hb1))
          | (go_at_call 12; (with_reducible refine (bytes_any _ _ _ _ _ _ _ _ row row _ ha.rd (RdB.blw hr hB)).mono ?_); rintro e w1 ⟨rfl, rfl⟩; rw [beq_self_eq_true])
          | (go_at_call 12; (with_reducible refine (bytes_any _ _ _ _ _ _ _ _ row row _ hc.rd (RdB.blw hr hB)).mono ?_); rintro e w1 ⟨rfl, rfl⟩; rw [beq_self_eq_true])
          | (go_at_call 12; (with_reducible refine (bytes_any _ _ _ _ _ _ _ _ DD DD _ hx.rd hd.rd).mono ?_); rintro e w1 ⟨rfl, rfl⟩; rw [beq_self_eq_true]))
        go_ret
        exact ⟨rfl, hB⟩
  · go_enter Try.func4, Try.ntmps4
    go_wp2_with (first
      | (go_at_call 8; go_must (refine (first_any _).mono ?_; rintro e w1 ⟨rfl, hb1⟩; replace hB := bstep hB hb1 (Nat.le_refl _); (try replace ha := ha.later hb1); (try replace hb := hb.later hb1); (try replace hc := hc.later hb1); (try replace hd := hd.later hb1); (try replace hx := hx.later hb1); clear hb1))
      | (go_at_call 11; exfalso; omega))
    all_goals (first | (exfalso; omega) | (go_ret; exact ⟨rfl, hB⟩))

end Go.Proofs.Ythlbeifojmeamaa
