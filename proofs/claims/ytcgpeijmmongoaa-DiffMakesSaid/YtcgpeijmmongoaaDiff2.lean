/- diff: Make whole; the chapter's example. -/
import Derived.Test.YtcgpeijmmongoaaDiff1
namespace Go.Proofs.Ytcgpeijmmongoaa
set_option linter.all false
open Go.RowKit

set_option maxHeartbeats 1600000 in
theorem make_bad (k : Int) (s t : Sh) (n c n' c' : Nat) (A A' : Option Addr) (w : World) (E : Int) (hE : E = if k = 1 ∨ k = 2 then wrongR s t n n' else 1) (h0 : E ≠ 0) :
    Calls Try.prog 22 #[.int .i64 k, s.r A n c, t.r A' n' c'] w fun e w' =>
      e = .returned (.tuple #[.slice none 0 0, .int .i64 E]) ∧ Below w.heap.size w w' := by
  have hB := Below.refl w.heap.size w
  have H1 := Lib.hid (fun w => wrong_any s t n c n' c' A A' w)
  have hne : (E != 0) = true := by simpa using h0
  by_cases hk : k = 1 ∨ k = 2
  · rw [if_pos hk] at hE
    have HE := Lib.hid hE.symm
    clear hE h0
    obtain ⟨W, H, C, D⟩ := s
    obtain ⟨W', H', C', D'⟩ := t
    dsimp only [Sh.r] at H1
    show Calls _ _ #[.int .i64 k, .agg #[.int .i64 W, .int .i64 H, .int .i64 C, .int .i64 D, .slice A n c], .agg #[.int .i64 W', .int .i64 H', .int .i64 C', .int .i64 D', .slice A' n' c']] w _
    rcases hk with rfl | rfl
    all_goals
      go_enter Try.func22, Try.ntmps22
      go_wp2_with (go_at_call 58; (with_reducible refine (H1.out _).mono ?_); rintro e w1 ⟨rfl, hb1⟩; rw [HE.out]; replace hB := bxd (bxd hb1); clear hb1)
      go_ret2
      exact ⟨rfl, hB⟩
  · rw [if_neg hk] at hE
    subst hE
    clear h0 hne
    have d1 : (k != 1) = true := by rw [bne_iff_ne]; omega
    have d2 : (k != 2) = true := by rw [bne_iff_ne]; omega
    obtain ⟨W, H, C, D⟩ := s
    obtain ⟨W', H', C', D'⟩ := t
    show Calls _ _ #[.int .i64 k, .agg #[.int .i64 W, .int .i64 H, .int .i64 C, .int .i64 D, .slice A n c], .agg #[.int .i64 W', .int .i64 H', .int .i64 C', .int .i64 D', .slice A' n' c']] w _
    go_enter Try.func22, Try.ntmps22
    go_wp2
    go_ret2
    exact ⟨rfl, (hB.alloc (Nat.le_refl _) _).alloc (by simp) _⟩

theorem make_any (k : Int) (s t : Sh) (B n c B' n' c' : Nat) (A A' : Option Addr) (bs rs : List UInt8) (w : World) (hp : RdB w B A n bs) (hr : RdB w B' A' n' rs)
    (hB1 : B ≤ w.heap.size) (hB2 : B' ≤ w.heap.size) :
    Calls Try.prog 22 #[.int .i64 k, s.r A n c, t.r A' n' c'] w fun e w' =>
      ∃ v, e = .returned (.tuple #[v, .int .i64 (makeR k s t bs rs).2]) ∧ ownB w' w.heap.size v (makeR k s t bs rs).1 ∧ Below w.heap.size w w' := by
  have hl := hp.len
  have hl' := hr.len
  by_cases hk : k = 1 ∨ k = 2
  · by_cases h0 : wrongR s t n n' = 0
    · have e : makeR k s t bs rs = (deltaB k bs rs, 0) := by unfold makeR; rw [if_pos hk, hl, hl', if_pos h0]
      rw [e]
      exact make_ok k s t B n c B' n' c' A A' bs rs w hp hr hB1 hB2 hk h0
    · have e : makeR k s t bs rs = ([], wrongR s t n n') := by unfold makeR; rw [if_pos hk, hl, hl', if_neg h0]
      rw [e]
      refine (make_bad k s t n c n' c' A A' w _ (by rw [if_pos hk]) h0).mono ?_
      rintro e w' ⟨rfl, hb⟩
      exact ⟨_, rfl, ownB.nil_ _ _, hb⟩
  · have e : makeR k s t bs rs = ([], 1) := by unfold makeR; rw [if_neg hk]
    rw [e]
    refine (make_bad k s t n c n' c' A A' w 1 (by rw [if_neg hk]) (by decide)).mono ?_
    rintro e w' ⟨rfl, hb⟩
    exact ⟨_, rfl, ownB.nil_ _ _, hb⟩

theorem first11_val : makeR 2 ⟨1, 1, 1, 8⟩ ⟨1, 1, 1, 8⟩ [5] [3] = ([254], 0) := by decide +kernel

set_option maxHeartbeats 800000 in
theorem first11_any (w : World) : Calls Try.prog 19 #[] w fun e w' => e = .returned (.bool true) ∧ Below w.heap.size w w' := by
  have hB := Below.refl w.heap.size w
  have kc := conv_const
  have h := (fun w : World => make_any 2 ⟨1, 1, 1, 8⟩ ⟨1, 1, 1, 8⟩ (w.heap.size + 1) 1 1 ((w.alloc (.cells #[.int .u8 5] 5)).heap.size + 1) 1 1 (some ⟨w.heap.size, 0, none⟩) (some ⟨(w.alloc (.cells #[.int .u8 5] 5)).heap.size, 0, none⟩) [5] [3] ((w.alloc (.cells #[.int .u8 5] 5)).alloc (.cells #[.int .u8 3] 5)) (RdB.alloc (rd_one w 5 5 rfl) (by simp) _) (rd_one (w.alloc (.cells #[.int .u8 5] 5)) 3 3 rfl) (by simp) (by simp)) (w.alloc (.cells #[.int .i64 1, .int .i64 1, .int .i64 1, .int .i64 8] 23))
  simp only [World.size_alloc, Sh.r] at h
  have HV := Lib.hid h
  clear h
  go_enter Try.func19, Try.ntmps19
  go_wp2_with (go_at_call 22; (with_reducible refine HV.out.mono ?_); go_must (rintro e w1 ⟨v1, rfl, h1, hb1⟩; rw [first11_val] at h1 ⊢; dsimp only at h1 ⊢; obtain ⟨A1, c1, rfl, hr1, _, _⟩ := h1.form; have k1 := run_strB (n := 1) (c := c1) hr1; replace hb1 := ((((Below.refl w.heap.size w).alloc (Nat.le_refl _) _).alloc (by simp only [World.size_alloc]; omega) _).alloc (by simp only [World.size_alloc]; omega) _).trans (hb1.mono (by omega)); clear h1 hr1))
  go_ret
  exact ⟨rfl, hb1⟩

end Go.Proofs.Ytcgpeijmmongoaa
