/- pix: pictures compared, copied; bytes compared, copied. -/
import Derived.Test.YtcgpeijmmongoaaPix2
import Derived.Lib.LazyBuf
namespace Go.Proofs.Ytcgpeijmmongoaa
set_option linter.all false
open Go.RowKit

set_option maxHeartbeats 1600000 in
theorem shape_any (s t : Sh) (w : World) : Calls Try.prog 21 #[s.v, t.v] w fun e w' => e = .returned (.bool (decide (s = t))) ∧ Below w.heap.size w w' := by
  have hB := Below.refl w.heap.size w
  obtain ⟨W, H, C, D⟩ := s
  obtain ⟨W', H', C', D'⟩ := t
  show Calls _ _ #[.agg #[.int .i64 W, .int .i64 H, .int .i64 C, .int .i64 D], .agg #[.int .i64 W', .int .i64 H', .int .i64 C', .int .i64 D']] w _
  go_enter Try.func21, Try.ntmps21
  go_wp2
  all_goals
    go_ret
    refine ⟨ret_bool ?_, (hB.alloc (Nat.le_refl _) _).alloc (by simp) _⟩
    rw [Bool.eq_iff_iff]
    simp [Sh.mk.injEq, *]
    try omega

theorem equalB_any (B n c B' n' c' : Nat) (A A' : Option Addr) (xs ys : List UInt8) (w : World) (h : RdB w B A n xs) (h' : RdB w B' A' n' ys) :
    Calls Try.prog 66 #[.slice A n c, .slice A' n' c'] w fun e w' => e = .returned (.bool (xs == ys)) ∧ w = w' := by
  have k1 := run_strB h (c := c)
  have k2 := run_strB h' (c := c')
  go_enter Try.func66, Try.ntmps66
  go_wp2
  go_ret
  exact ⟨rfl, rfl⟩

theorem cloneB_any (B n c : Nat) (A : Option Addr) (bs : List UInt8) (w : World) (h : RdB w B A n bs) (hm : n ≤ 140737488355328) :
    Calls Try.prog 65 #[.slice A n c] w fun e w' => ∃ v, e = .returned v ∧ ownB w' w.heap.size v bs ∧ Below w.heap.size w w' := by
  have kn := fun w => Go.run_eql_slice_nil (P := Try.prog) w 31 _ A n c Try.underlying31
  cases A with
  | none =>
    have h0 : bs = [] := by
      cases bs with
      | nil => rfl
      | cons x l => have h2 := h.len; obtain ⟨b, o, e, _⟩ := h.at_ (by rw [← h2]; simp); cases e
    subst h0
    have hn : n = 0 := by have := h.len; simpa using this.symm
    subst hn
    go_enter Try.func65, Try.ntmps65
    go_wp2
    go_ret
    exact ⟨_, rfl, ownB.nil_ _ _, Below.refl _ _⟩
  | some a =>
    go_enter Try.func65, Try.ntmps65
    go_wp2_with (at_builtin; go_loud (refine wpList_appendB rfl (.tmp 5) (.tmp 6) rfl w.heap.size _ [] rfl (own_lit w [] (by simp)) w.heap.size n c (some a) bs rfl (Rd.alloc (Rd.here h) (Nat.le_refl _) _) (by simp; omega) (by simp) ?_); intro v1 w1 hown hg hb hat)
    go_ret
    exact ⟨_, rfl, hown, ((Below.refl w.heap.size w).alloc (Nat.le_refl _) _).trans (hb)⟩

set_option maxHeartbeats 1600000 in
theorem sameR_any (s t : Sh) (B n c B' n' c' : Nat) (A A' : Option Addr) (xs ys : List UInt8) (w : World) (h : RdB w B A n xs) (h' : RdB w B' A' n' ys) (hB1 : B ≤ w.heap.size) (hB2 : B' ≤ w.heap.size) :
    Calls Try.prog 30 #[s.r A n c, t.r A' n' c'] w fun e w' => e = .returned (.bool (decide (s = t) && (xs == ys))) ∧ Below w.heap.size w w' := by
  have hB := Below.refl w.heap.size w
  have HS := Lib.hid (fun w => shape_any s t w)
  obtain ⟨W, H, C, D⟩ := s
  obtain ⟨W', H', C', D'⟩ := t
  show Calls _ _ #[.agg #[.int .i64 W, .int .i64 H, .int .i64 C, .int .i64 D, .slice A n c], .agg #[.int .i64 W', .int .i64 H', .int .i64 C', .int .i64 D', .slice A' n' c']] w _
  generalize hd : decide ((⟨W, H, C, D⟩ : Sh) = ⟨W', H', C', D'⟩) = d
  have HD := Lib.hid hd
  clear hd
  go_enter Try.func30, Try.ntmps30
  go_wp2_with (first
    | (go_at_call 21; go_must (refine (HS.out _).mono ?_; rintro e w1 ⟨rfl, hb1⟩; rw [HD.out]; have f4 := (cells5 (by simp) (bxd hb1)).2.2.2.2; have g4 := (cells5 (by simp) hb1).2.2.2.2; rw [World.size_alloc] at g4; replace hB := bxd (bxd hb1); clear hb1))
    | (go_at_call 42; go_must (refine (bytes_any _ _ _ _ _ _ _ _ xs ys _ (h.blw (hB.mono hB1)) (h'.blw (hB.mono hB2))).mono ?_; rintro e w2 ⟨rfl, rfl⟩)))
  all_goals
    go_ret
    refine ⟨ret_bool ?_, hB⟩
    simp [*]

end Go.Proofs.Ytcgpeijmmongoaa
