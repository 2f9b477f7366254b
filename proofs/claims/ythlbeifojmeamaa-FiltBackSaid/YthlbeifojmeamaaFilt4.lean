/- filt: the reference's Do, Undo and Weight. -/
import Derived.Test.YthlbeifojmeamaaFilt3
namespace Go.Proofs.Ythlbeifojmeamaa
set_option linter.all false
open Go.RowKit

theorem gB_mod (kind bpp i : Int) (prev row : List UInt8) : gss kind (gAt row (i - bpp)) (gAt prev i) (gAt prev (i - bpp)) % 256 = (gB kind bpp i prev row).toNat := by
  have h := gss_rng kind _ _ _ (gAt_rng row (i - bpp)) (gAt_rng prev i) (gAt_rng prev (i - bpp))
  rw [gB_val]
  omega

set_option maxHeartbeats 3200000 in
theorem do9_ok (kind bpp : Int) (B n c B' n' c' : Nat) (A A' : Option Addr) (prev row : List UInt8) (w : World) (hp : RdB w B A n prev) (hr : RdB w B' A' n' row)
    (hB1 : B ≤ w.heap.size) (hB2 : B' ≤ w.heap.size) (hm : n' ≤ 1000000) (h0 : wrongV kind bpp n n' = 0) (h1 : 1 ≤ bpp ∧ bpp ≤ 8) (h2 : n = 0 ∨ n = n') :
    Calls Try.prog 15 #[.int .i64 kind, .int .i64 bpp, .slice A n c, .slice A' n' c'] w fun e w' =>
      ∃ v, e = .returned (.tuple #[v, .int .i64 0]) ∧ ownB w' w.heap.size v (doB kind bpp prev row) ∧ Below w.heap.size w w' := by
  obtain rfl := hr.len
  have H0 := Lib.hid h0
  clear h0
  have HL := Lib.hid (doB_len kind bpp prev row)
  go_enter Try.func15, Try.ntmps15
  go_wp2_with (first
    | (go_at_call 25; refine (may9_any _ _ _ _ _ _ _ _ _).mono ?_; rintro e w' ⟨rfl, rfl⟩; rw [H0.out])
    | (at_make; refine wpList_makeB rfl _ _ rfl row.length _ rfl rfl rfl (by omega) ?_))
  intro w1 hown hb hsz
  go_wp2
  go_loopw [12] (fun i wr => ∃ k : Nat, k ≤ row.length ∧ i = .int .i64 k ∧ ownB wr w.heap.size (.slice (some ⟨w.heap.size, 0, none⟩) row.length row.length) (fillTo (doB kind bpp prev row) k) ∧ Below w.heap.size w wr)
    (fun i _ => row.length - (intOf i).toNat)
  case atStart => exact ⟨0, Nat.zero_le _, rfl, by rw [fillTo_zero, HL.out]; exact hown, hb⟩
  case round =>
    obtain ⟨k, hk, rfl, hown1, hbb⟩ := hrel
    have HF : Hid (row.length = (fillTo (doB kind bpp prev row) k).length) := by show _ = _; rw [fillTo_len _ _ (by rw [HL.out]; exact hk), HL.out]
    by_cases hlt : k < row.length
    · have hp1 : RdB wr.drew B A n prev := (hp.blw (hbb.mono hB1)).drew
      have hr1 : RdB wr.drew B' A' row.length row := (hr.blw (hbb.mono hB2)).drew
      have c1 := back9_any _ _ c' _ row k bpp _ hr1 ⟨by omega, by omega⟩ ⟨by omega, by omega⟩ (.inr (by omega))
      have c2 := back9_any _ _ c _ prev k 0 _ hp1 ⟨by omega, by omega⟩ ⟨by omega, by omega⟩ (by omega)
      have c3 := back9_any _ _ c _ prev k bpp _ hp1 ⟨by omega, by omega⟩ ⟨by omega, by omega⟩ (by omega)
      rw [Int.sub_zero] at c2
      have c4 := guess9_any kind _ _ _ wr.drew (gAt_rng row (k - bpp)) (gAt_rng prev k) (gAt_rng prev (k - bpp))
      obtain ⟨b, o, x, rfl, hbo, hx, cx⟩ := hr1.byte hlt
      obtain ⟨d0, _, cd⟩ := hown1.byte HF.out hlt
      have fd := hown1.frozen HF.out k
      have Hs : Hid (ownB (wr.setCell ⟨w.heap.size, k, none⟩ (.int .u8 (((x.toNat : Int) - gss kind (gAt row (k - bpp)) (gAt prev k) (gAt prev (k - bpp))) % 256))).drew w.heap.size (.slice (some ⟨w.heap.size, 0, none⟩) row.length row.length) (fillTo (doB kind bpp prev row) (k + 1))) := by
        rw [fillTo_put _ k _ (doB_at kind bpp prev row hx.out), ← gB_val, sub_u8]
        exact (hown1.store HF.out k _).drew
      clear hx
      go_wp2
      refine wp_region_still_tail 22 (by kernel_rfl) (by kernel_rfl) ?_
      simp only [List.take_succ_cons, List.take_zero, List.drop_succ_cons, List.drop_zero]
      change wpStill _ _ wr.drew _ _ _
      iterate 22 (first | still_step | (refine wpStill_step (fun K hK => ?_); go_simp; with_reducible refine ⟨_, c1, hK _ ?_⟩; clear hK K) | (refine wpStill_step (fun K hK => ?_); go_simp; with_reducible refine ⟨_, c2, hK _ ?_⟩; clear hK K) | (refine wpStill_step (fun K hK => ?_); go_simp; with_reducible refine ⟨_, c3, hK _ ?_⟩; clear hK K) | (refine wpStill_step (fun K hK => ?_); go_simp; with_reducible refine ⟨_, c4, hK _ ?_⟩; clear hK K))
      refine wpStill_nil ?_
      go_wp2
      go_roundw
      case rel => exact ⟨k + 1, by omega, by go_num, Hs.out, (hbb.setCell (Nat.le_refl _) _).drew⟩
      case measure => simp [intOf]; omega
    · have : k = row.length := by omega
      subst this
      rw [show fillTo (doB kind bpp prev row) row.length = doB kind bpp prev row by have := fillTo_end (doB kind bpp prev row); rwa [HL.out] at this] at hown1
      go_wp2
      go_ret2
      exact ⟨_, rfl, hown1, hbb⟩


theorem do9_bad (kind bpp : Int) (n c n' c' : Nat) (A A' : Option Addr) (w : World) (E : Int) (h0 : wrongV kind bpp n n' = E) (hE : (E != 0) = true) :
    Calls Try.prog 15 #[.int .i64 kind, .int .i64 bpp, .slice A n c, .slice A' n' c'] w fun e w' => e = .returned (.tuple #[.slice none 0 0, .int .i64 E]) ∧ w = w' := by
  have H0 := Lib.hid h0
  clear h0
  go_enter Try.func15, Try.ntmps15
  go_wp2_with (go_at_call 25; refine (may9_any _ _ _ _ _ _ _ _ _).mono ?_; rintro e w' ⟨rfl, rfl⟩; rw [H0.out])
  go_ret2
  exact ⟨rfl, rfl⟩

set_option maxHeartbeats 3200000 in
theorem undo9_ok (kind bpp : Int) (B n c B' n' c' : Nat) (A A' : Option Addr) (prev row : List UInt8) (w : World) (hp : RdB w B A n prev) (hr : RdB w B' A' n' row)
    (hB1 : B ≤ w.heap.size) (hB2 : B' ≤ w.heap.size) (hm : n' ≤ 1000000) (h0 : wrongV kind bpp n n' = 0) (h1 : 1 ≤ bpp ∧ bpp ≤ 8) (h2 : n = 0 ∨ n = n') :
    Calls Try.prog 17 #[.int .i64 kind, .int .i64 bpp, .slice A n c, .slice A' n' c'] w fun e w' =>
      ∃ v, e = .returned (.tuple #[v, .int .i64 0]) ∧ ownB w' w.heap.size v (undoB kind bpp prev row) ∧ Below w.heap.size w w' := by
  obtain rfl := hr.len
  have H0 := Lib.hid h0
  clear h0
  go_enter Try.func17, Try.ntmps17
  go_wp2_with (first
    | (go_at_call 25; refine (may9_any _ _ _ _ _ _ _ _ _).mono ?_; rintro e w' ⟨rfl, rfl⟩; rw [H0.out])
    | (at_make; refine wpList_makeB rfl _ _ rfl row.length _ rfl rfl rfl (by omega) ?_))
  intro w1 hown hb hsz
  go_wp2
  go_loopw [12] (fun i wr => ∃ k : Nat, k ≤ row.length ∧ i = .int .i64 k ∧ ownB wr w.heap.size (.slice (some ⟨w.heap.size, 0, none⟩) row.length row.length) (undoF kind bpp prev row k) ∧ Below w.heap.size w wr)
    (fun i _ => row.length - (intOf i).toNat)
  case atStart => exact ⟨0, Nat.zero_le _, rfl, hown, hb⟩
  case round =>
    obtain ⟨k, hk, rfl, hown1, hbb⟩ := hrel
    have HF : Hid (row.length = (undoF kind bpp prev row k).length) := (undoF_len kind bpp prev row k hk).symm
    by_cases hlt : k < row.length
    · have hp1 : RdB wr.drew B A n prev := (hp.blw (hbb.mono hB1)).drew
      have hr1 : RdB wr.drew B' A' row.length row := (hr.blw (hbb.mono hB2)).drew
      have c1 := back9_any _ _ row.length _ (undoF kind bpp prev row k) k bpp wr.drew hown1.drew.rd ⟨by omega, by omega⟩ ⟨by omega, by omega⟩ (.inr (by omega))
      have c2 := back9_any _ _ c _ prev k 0 _ hp1 ⟨by omega, by omega⟩ ⟨by omega, by omega⟩ (by omega)
      have c3 := back9_any _ _ c _ prev k bpp _ hp1 ⟨by omega, by omega⟩ ⟨by omega, by omega⟩ (by omega)
      rw [Int.sub_zero] at c2
      have c4 := guess9_any kind _ _ _ wr.drew (gAt_rng (undoF kind bpp prev row k) (k - bpp)) (gAt_rng prev k) (gAt_rng prev (k - bpp))
      obtain ⟨b, o, x, rfl, hbo, hx, cx⟩ := hr1.byte hlt
      obtain ⟨d0, _, cd⟩ := hown1.byte HF.out hlt
      have fd := hown1.frozen HF.out k
      have Hs : Hid (ownB (wr.setCell ⟨w.heap.size, k, none⟩ (.int .u8 (((x.toNat : Int) + gss kind (gAt (undoF kind bpp prev row k) (k - bpp)) (gAt prev k) (gAt prev (k - bpp))) % 256))).drew w.heap.size (.slice (some ⟨w.heap.size, 0, none⟩) row.length row.length) (undoF kind bpp prev row (k + 1))) := by
        rw [undoF_step kind bpp prev row hx.out h1.1, ← gB_val, add_u8]
        exact (hown1.store HF.out k _).drew
      clear hx
      go_wp2
      refine wp_region_still_tail 22 (by kernel_rfl) (by kernel_rfl) ?_
      simp only [List.take_succ_cons, List.take_zero, List.drop_succ_cons, List.drop_zero]
      change wpStill _ _ wr.drew _ _ _
      iterate 22 (first | still_step | (refine wpStill_step (fun K hK => ?_); go_simp; with_reducible refine ⟨_, c1, hK _ ?_⟩; clear hK K) | (refine wpStill_step (fun K hK => ?_); go_simp; with_reducible refine ⟨_, c2, hK _ ?_⟩; clear hK K) | (refine wpStill_step (fun K hK => ?_); go_simp; with_reducible refine ⟨_, c3, hK _ ?_⟩; clear hK K) | (refine wpStill_step (fun K hK => ?_); go_simp; with_reducible refine ⟨_, c4, hK _ ?_⟩; clear hK K))
      refine wpStill_nil ?_
      go_wp2
      go_roundw
      case rel => exact ⟨k + 1, by omega, by go_num, Hs.out, (hbb.setCell (Nat.le_refl _) _).drew⟩
      case measure => simp [intOf]; omega
    · have : k = row.length := by omega
      subst this
      rw [show undoF kind bpp prev row row.length = undoB kind bpp prev row by simp [undoF, undoB]] at hown1
      go_wp2
      go_ret2
      exact ⟨_, rfl, hown1, hbb⟩

theorem undo9_bad (kind bpp : Int) (n c n' c' : Nat) (A A' : Option Addr) (w : World) (E : Int) (h0 : wrongV kind bpp n n' = E) (hE : (E != 0) = true) :
    Calls Try.prog 17 #[.int .i64 kind, .int .i64 bpp, .slice A n c, .slice A' n' c'] w fun e w' => e = .returned (.tuple #[.slice none 0 0, .int .i64 E]) ∧ w = w' := by
  have H0 := Lib.hid h0
  clear h0
  go_enter Try.func17, Try.ntmps17
  go_wp2_with (go_at_call 25; refine (may9_any _ _ _ _ _ _ _ _ _).mono ?_; rintro e w' ⟨rfl, rfl⟩; rw [H0.out])
  go_ret2
  exact ⟨rfl, rfl⟩

theorem wrong_len {kind bpp : Int} {n n' : Nat} (h : wrongV kind bpp n n' = 0) : n = 0 ∨ n = n' := by
  unfold wrongV at h
  split at h
  · omega
  · split at h <;> omega

theorem do9_any (kind bpp : Int) (B n c B' n' c' : Nat) (A A' : Option Addr) (prev row : List UInt8) (w : World) (hp : RdB w B A n prev) (hr : RdB w B' A' n' row)
    (hB1 : B ≤ w.heap.size) (hB2 : B' ≤ w.heap.size) (hm : n' ≤ 1000000) :
    Calls Try.prog 15 #[.int .i64 kind, .int .i64 bpp, .slice A n c, .slice A' n' c'] w fun e w' =>
      ∃ v, e = .returned (.tuple #[v, .int .i64 (doR kind bpp prev row).2]) ∧ ownB w' w.heap.size v (doR kind bpp prev row).1 ∧ Below w.heap.size w w' := by
  unfold doR
  rw [hp.len, hr.len]
  by_cases h : wrongV kind bpp n n' = 0
  · rw [if_pos h]
    exact do9_ok kind bpp B n c B' n' c' A A' prev row w hp hr hB1 hB2 hm h (wrong_bpp h) (wrong_len h)
  · rw [if_neg h]
    refine (do9_bad kind bpp n c n' c' A A' w _ rfl (by rw [bne_iff_ne]; exact h)).mono ?_
    rintro e w' ⟨rfl, rfl⟩
    exact ⟨_, rfl, ownB.nil_ _ _, Below.refl _ _⟩

theorem undo9_any (kind bpp : Int) (B n c B' n' c' : Nat) (A A' : Option Addr) (prev row : List UInt8) (w : World) (hp : RdB w B A n prev) (hr : RdB w B' A' n' row)
    (hB1 : B ≤ w.heap.size) (hB2 : B' ≤ w.heap.size) (hm : n' ≤ 1000000) :
    Calls Try.prog 17 #[.int .i64 kind, .int .i64 bpp, .slice A n c, .slice A' n' c'] w fun e w' =>
      ∃ v, e = .returned (.tuple #[v, .int .i64 (undoR kind bpp prev row).2]) ∧ ownB w' w.heap.size v (undoR kind bpp prev row).1 ∧ Below w.heap.size w w' := by
  unfold undoR
  rw [hp.len, hr.len]
  by_cases h : wrongV kind bpp n n' = 0
  · rw [if_pos h]
    exact undo9_ok kind bpp B n c B' n' c' A A' prev row w hp hr hB1 hB2 hm h (wrong_bpp h) (wrong_len h)
  · rw [if_neg h]
    refine (undo9_bad kind bpp n c n' c' A A' w _ rfl (by rw [bne_iff_ne]; exact h)).mono ?_
    rintro e w' ⟨rfl, rfl⟩
    exact ⟨_, rfl, ownB.nil_ _ _, Below.refl _ _⟩

set_option maxHeartbeats 800000 in
theorem weight9_any (B n c : Nat) (A : Option Addr) (bs : List UInt8) (w : World) (h : RdB w B A n bs) (hm : n ≤ 1000000) (hB : B ≤ w.heap.size) :
    Calls Try.prog 20 #[.slice A n c] w fun e w' => e = .returned (.int .i64 (weight bs)) ∧ Below w.heap.size w w' := by
  obtain rfl := h.len
  go_enter Try.func20, Try.ntmps20
  go_wp2
  go_loopw [3, 4] (fun s i wr => ∃ k : Nat, k ≤ bs.length ∧ i = .int .i64 k ∧ s = .int .i64 (weight (bs.take k)) ∧ Below w.heap.size w wr) (fun _ i _ => bs.length - (intOf i).toNat)
  case atStart => exact ⟨0, Nat.zero_le _, rfl, rfl, Below.refl _ _⟩
  case round =>
    obtain ⟨k, hk, rfl, rfl, hbb⟩ := hrel
    by_cases hlt : k < bs.length
    · obtain ⟨b, o, x, rfl, _, hx, cx⟩ := (h.blw (hbb.mono hB)).byte hlt
      have x8 := x.toNat_lt
      have hw := weight_le (bs.take k)
      have hl : (bs.take k).length ≤ 1000000 := by simp; omega
      have HS := Lib.hid (weight_step bs hx.out)
      clear hx
      go_wp2
      go_region
      go_wp2
      all_goals
        go_roundw
        case rel => exact ⟨k + 1, by omega, by go_num, by rw [HS.out]; unfold wB; congr 1; omega, by first | exact hbb | exact hbb.drew⟩
        case measure => simp [intOf]; omega
    · have : k = bs.length := by omega
      subst this
      go_wp2
      go_ret
      exact ⟨ret_int (by simp), hbb⟩

end Go.Proofs.Ythlbeifojmeamaa
