/- diff: in how many pixels two pictures differ. -/
import Derived.Test.YtcgpeijmmongoaaDiff4
import Derived.Test.YtcgpeijmmongoaaDiff3
import Derived.BigQuiet
import Derived.Deep.QuietTactic
namespace Go.Proofs.Ytcgpeijmmongoaa
set_option linter.all false
open Go.RowKit

/-- In how many of the first k pieces of p bytes two lists differ. -/
def diffs (p : Nat) (bs rs : List UInt8) : Nat → Nat
  | 0 => 0
  | k + 1 => diffs p bs rs k + if (rs.drop (k * p)).take p == (bs.drop (k * p)).take p then 0 else 1
def Sh.bpp (s : Sh) : Nat := (s.c * s.d / 8).toNat
def changedR (s t : Sh) (bs rs : List UInt8) : Int × Int := if wrongR s t bs.length rs.length = 0 then (((diffs t.bpp bs rs (t.w * t.h).toNat : Nat) : Int), 0) else (0, wrongR s t bs.length rs.length)
theorem diffs_le (p : Nat) (bs rs : List UInt8) : ∀ k, diffs p bs rs k ≤ k
  | 0 => Nat.le_refl _
  | k + 1 => by have := diffs_le p bs rs k; unfold diffs; split <;> omega

theorem Sh.pix_n {s : Sh} {n : Nat} (h : s.mayR n = true) : n = (s.w * s.h).toNat * s.bpp ∧ 1 ≤ s.bpp ∧ s.bpp ≤ 8 ∧ (s.bpp : Int) = s.c * s.d / 8 ∧ 0 ≤ s.c * s.d ∧ s.c * s.d ≤ 64 := by
  have hn := Sh.mayR_nums h
  obtain ⟨hz, -⟩ := Sh.mayR_size h
  obtain ⟨⟨a1, a2⟩, ⟨a3, a4⟩, ⟨a5, a6⟩, hd⟩ := (Sh.nums_iff s).1 hn
  have hs := Sh.size_ok hn
  have hr : s.row = s.w * s.c * s.d / 8 := if_pos hn
  obtain ⟨q, hq⟩ : ∃ q : Int, s.d = 8 * q ∧ (q = 1 ∨ q = 2) := by
    rcases hd with e | e
    · exact ⟨1, e, .inl rfl⟩
    · exact ⟨2, e, .inr rfl⟩
  obtain ⟨hq, hq2⟩ := hq
  have e1 : s.w * s.c * s.d / 8 = s.w * s.c * q := by
    rw [hq, show s.w * s.c * (8 * q) = (s.w * s.c * q) * 8 by ac_rfl]
    exact Int.mul_ediv_cancel _ (by decide)
  have e2 : s.c * s.d / 8 = s.c * q := by
    rw [hq, show s.c * (8 * q) = (s.c * q) * 8 by ac_rfl]
    exact Int.mul_ediv_cancel _ (by decide)
  have b1 : 1 ≤ s.c * q ∧ s.c * q ≤ 8 := by rcases hq2 with rfl | rfl <;> omega
  have b2 : 0 ≤ s.c * s.d ∧ s.c * s.d ≤ 64 := by rcases hd with e | e <;> rw [e] <;> omega
  have hb : (s.bpp : Int) = s.c * s.d / 8 := by unfold Sh.bpp; rw [e2]; omega
  have hwh : 0 ≤ s.w * s.h := Int.mul_nonneg (by omega) (by omega)
  refine ⟨?_, by omega, by omega, hb, b2.1, b2.2⟩
  have : (n : Int) = (((s.w * s.h).toNat * s.bpp : Nat) : Int) := by
    rw [hz, hs, hr, e1, Int.natCast_mul, hb, e2, Int.toNat_of_nonneg hwh]
    ac_rfl
  exact_mod_cast this

set_option maxHeartbeats 3200000 in
theorem changed_ok (s t : Sh) (B n c B' n' c' : Nat) (A A' : Option Addr) (bs rs : List UInt8) (w : World) (hp : RdB w B A n bs) (hr : RdB w B' A' n' rs)
    (hB1 : B ≤ w.heap.size) (hB2 : B' ≤ w.heap.size) (hc1 : n ≤ c) (hc2 : n' ≤ c') (hm1 : c ≤ maxLen) (hm2 : c' ≤ maxLen) (h0 : wrongR s t n n' = 0) :
    Calls Try.prog 40 #[s.r A n c, t.r A' n' c'] w fun e w' =>
      e = .returned (.tuple #[.int .i64 ((diffs t.bpp bs rs (t.w * t.h).toNat : Nat) : Int), .int .i64 0]) ∧ Below w.heap.size w w' := by
  have hB := Below.refl w.heap.size w
  unfold maxLen at hm1 hm2
  have H1 := Lib.hid (fun w => wrong_any s t n c n' c' A A' w)
  have HZ := Lib.hid h0
  obtain ⟨-, hmt, hst, hnn, h16⟩ := wrongR_zero h0
  obtain ⟨p1, p2, p3, p4, p5, p6⟩ := Sh.pix_n hmt
  obtain ⟨P, hP⟩ : ∃ P, P = (t.w * t.h).toNat := ⟨_, rfl⟩
  obtain ⟨p, hpp⟩ : ∃ p, p = t.bpp := ⟨_, rfl⟩
  rw [← hP, ← hpp] at p1
  rw [← hpp] at p2 p3 p4
  rw [← hP, ← hpp]
  have HP := Lib.hid p4.symm
  have HN := Lib.hid p1
  obtain rfl := hnn
  clear hst h0 hP hpp p4 hmt
  have hP : P ≤ n := by rw [HN.out]; exact Nat.le_mul_of_pos_right _ (by omega)
  clear p1
  obtain ⟨W, H, C, D⟩ := s
  obtain ⟨W', H', C', D'⟩ := t
  dsimp only [Sh.r] at H1 HP p5 p6
  show Calls _ _ #[.agg #[.int .i64 W, .int .i64 H, .int .i64 C, .int .i64 D, .slice A n c], .agg #[.int .i64 W', .int .i64 H', .int .i64 C', .int .i64 D', .slice A' n c']] w _
  go_enter Try.func40, Try.ntmps40
  go_wp2_with (go_at_call 58; (with_reducible refine (H1.out _).mono ?_); rintro e w1 ⟨rfl, hb1⟩; rw [HZ.out]; have dd := box5 hb1; rw [World.size_alloc] at dd; replace hb1 := bxd hb1; have cc := box5 hb1; replace hB := bxd hb1; clear hb1)
  rw [HP.out]
  clear p5 p6
  go_loopw [8, 9] (fun x i wr => ∃ k q : Nat, (k ≤ P ∧ q ≤ n) ∧ Hid (q = k * p) ∧ i = .int .i64 q ∧ x = .int .i64 ((diffs p bs rs k : Nat) : Int) ∧ (∀ i, wr.cell? ⟨w.heap.size, i, none⟩ = r5 (.int .i64 W) (.int .i64 H) (.int .i64 C) (.int .i64 D) (.slice A n c) i) ∧ (∀ i, wr.cell? ⟨w.heap.size + 1, i, none⟩ = r5 (.int .i64 W') (.int .i64 H') (.int .i64 C') (.int .i64 D') (.slice A' n c') i) ∧ Below w.heap.size w wr)
    (fun _ i _ => n - (intOf i).toNat)
  case atStart => exact ⟨0, 0, by omega, (Nat.zero_mul p).symm, rfl, rfl, cc, dd, hB⟩
  case round =>
    clear cc dd hB
    obtain ⟨k, q, ⟨hk, hq⟩, hkq, rfl, rfl, cc, dd, hB⟩ := hrel
    by_cases hlt : q < n
    · have hk1 : k < P := by
        rcases Nat.lt_or_ge k P with h | h
        · exact h
        · exfalso
          have : P * p ≤ k * p := Nat.mul_le_mul_right _ h
          have := HN.out
          have := hkq.out
          omega
      have hq1 : q + p ≤ n := by
        have : (k + 1) * p ≤ P * p := Nat.mul_le_mul_right _ hk1
        rw [Nat.succ_mul] at this
        have := HN.out
        have := hkq.out
        omega
      have hkq1 : Hid (q + p = (k + 1) * p) := by show _ = _; rw [Nat.succ_mul, hkq.out]
      have hd := diffs_le p bs rs k
      have hds : Hid (diffs p bs rs (k + 1) = diffs p bs rs k + if (rs.drop q).take p == (bs.drop q).take p then 0 else 1) := by show _ = _; rw [hkq.out]; rfl
      have hlt2 : (q : Int) < n := by omega
      generalize diffs p bs rs k = dk at hd hds ⊢
      have v1 := wrapI ((q : Int) + p) (by omega) (by omega)
      have v2 : (0 : Int) ≤ (q : Int) + p := by omega
      have v3 : ((q : Int) + p).toNat = q + p := by omega
      have hE := Lib.hid (fun m => Calls.quiet_of_same (n := m) (w := wr) (flipW (equalB_any w.heap.size p (c' - q) w.heap.size p (c - q) _ _ ((rs.drop q).take p) ((bs.drop q).take p) (wr.drewN m) (RdB.drewN (((hr.blw (hB.mono hB2)).mid' hq1).more hB2) m) (RdB.drewN (((hp.blw (hB.mono hB1)).mid' hq1).more hB1) m))))
      generalize ((rs.drop q).take p == (bs.drop q).take p) = bq at hE hds
      cases bq
      all_goals
        go_wp2
        go_quiet ((go_at_call 66; exact hE.out _))
        go_wp2
        go_roundw
        case rel => exact ⟨k + 1, q + p, ⟨hk1, hq1⟩, hkq1, by go_num, by rw [hds.out]; rfl, cc, dd, bdrewN hB _⟩
        case measure => simp [intOf]; omega
    · have e : k = P := by
        have := HN.out
        have h2 := hkq.out
        have h3 : k * p = P * p := by omega
        exact Nat.eq_of_mul_eq_mul_right (by omega) h3
      subst e
      have hge : decide ((q : Int) < n) = false := by simp; omega
      go_wp2
      go_ret2
      exact ⟨rfl, hB⟩

set_option maxHeartbeats 1600000 in
theorem changed_bad (s t : Sh) (n c n' c' : Nat) (A A' : Option Addr) (w : World) (E : Int) (hE : wrongR s t n n' = E) (h0 : E ≠ 0) :
    Calls Try.prog 40 #[s.r A n c, t.r A' n' c'] w fun e w' => e = .returned (.tuple #[.int .i64 0, .int .i64 E]) ∧ Below w.heap.size w w' := by
  have hB := Below.refl w.heap.size w
  have H1 := Lib.hid (fun w => wrong_any s t n c n' c' A A' w)
  have hne : (E != 0) = true := by simpa using h0
  have HE := Lib.hid hE
  clear hE h0
  obtain ⟨W, H, C, D⟩ := s
  obtain ⟨W', H', C', D'⟩ := t
  dsimp only [Sh.r] at H1
  show Calls _ _ #[.agg #[.int .i64 W, .int .i64 H, .int .i64 C, .int .i64 D, .slice A n c], .agg #[.int .i64 W', .int .i64 H', .int .i64 C', .int .i64 D', .slice A' n' c']] w _
  go_enter Try.func40, Try.ntmps40
  go_wp2_with (go_at_call 58; (with_reducible refine (H1.out _).mono ?_); rintro e w1 ⟨rfl, hb1⟩; rw [HE.out]; replace hB := bxd (bxd hb1); clear hb1)
  go_ret2
  exact ⟨rfl, hB⟩

theorem changed_any (s t : Sh) (B n c B' n' c' : Nat) (A A' : Option Addr) (bs rs : List UInt8) (w : World) (hp : RdB w B A n bs) (hr : RdB w B' A' n' rs)
    (hB1 : B ≤ w.heap.size) (hB2 : B' ≤ w.heap.size) (hc1 : n ≤ c) (hc2 : n' ≤ c') (hm1 : c ≤ maxLen) (hm2 : c' ≤ maxLen) :
    Calls Try.prog 40 #[s.r A n c, t.r A' n' c'] w fun e w' =>
      e = .returned (.tuple #[.int .i64 (changedR s t bs rs).1, .int .i64 (changedR s t bs rs).2]) ∧ Below w.heap.size w w' := by
  have hl := hp.len
  have hl' := hr.len
  by_cases h0 : wrongR s t n n' = 0
  · have e : changedR s t bs rs = (((diffs t.bpp bs rs (t.w * t.h).toNat : Nat) : Int), 0) := by unfold changedR; rw [hl, hl', if_pos h0]
    rw [e]
    exact changed_ok s t B n c B' n' c' A A' bs rs w hp hr hB1 hB2 hc1 hc2 hm1 hm2 h0
  · have e : changedR s t bs rs = (0, wrongR s t n n') := by unfold changedR; rw [hl, hl', if_neg h0]
    rw [e]
    exact changed_bad s t n c n' c' A A' w _ rfl h0

set_option maxHeartbeats 3200000 in
theorem changed9_ok (s t : Sh) (B n c B' n' c' : Nat) (A A' : Option Addr) (bs rs : List UInt8) (w : World) (hp : RdB w B A n bs) (hr : RdB w B' A' n' rs)
    (hB1 : B ≤ w.heap.size) (hB2 : B' ≤ w.heap.size) (hc1 : n ≤ c) (hc2 : n' ≤ c') (hm1 : c ≤ maxLen) (hm2 : c' ≤ maxLen) (h0 : wrongR s t n n' = 0) :
    Calls Try.prog 41 #[s.r A n c, t.r A' n' c'] w fun e w' =>
      e = .returned (.tuple #[.int .i64 ((diffs t.bpp bs rs (t.w * t.h).toNat : Nat) : Int), .int .i64 0]) ∧ Below w.heap.size w w' := by
  have hB := Below.refl w.heap.size w
  unfold maxLen at hm1 hm2
  have H1 := Lib.hid (fun w => pair9_any s t n c n' c' A A' w)
  have HZ := Lib.hid h0
  obtain ⟨-, hmt, hst, hnn, h16⟩ := wrongR_zero h0
  obtain ⟨p1, p2, p3, p4, p5, p6⟩ := Sh.pix_n hmt
  obtain ⟨P, hP⟩ : ∃ P, P = (t.w * t.h).toNat := ⟨_, rfl⟩
  obtain ⟨p, hpp⟩ : ∃ p, p = t.bpp := ⟨_, rfl⟩
  rw [← hP, ← hpp] at p1
  rw [← hpp] at p2 p3 p4
  rw [← hP, ← hpp]
  have HP := Lib.hid p4.symm
  have HN := Lib.hid p1
  obtain rfl := hnn
  clear hst h0 hP hpp p4 hmt
  have hP : P ≤ n := by rw [HN.out]; exact Nat.le_mul_of_pos_right _ (by omega)
  clear p1
  obtain ⟨W, H, C, D⟩ := s
  obtain ⟨W', H', C', D'⟩ := t
  dsimp only [Sh.r] at H1 HP p5 p6
  show Calls _ _ #[.agg #[.int .i64 W, .int .i64 H, .int .i64 C, .int .i64 D, .slice A n c], .agg #[.int .i64 W', .int .i64 H', .int .i64 C', .int .i64 D', .slice A' n c']] w _
  go_enter Try.func41, Try.ntmps41
  go_wp2_with (go_at_call 64; (with_reducible refine (H1.out _).mono ?_); rintro e w1 ⟨rfl, hb1⟩; rw [HZ.out]; have dd := box5 hb1; rw [World.size_alloc] at dd; replace hb1 := bxd hb1; have cc := box5 hb1; replace hB := bxd hb1; clear hb1)
  rw [HP.out]
  clear p5 p6
  go_loopw [8, 9] (fun x i wr => ∃ k q : Nat, (k ≤ P ∧ q ≤ n) ∧ Hid (q = k * p) ∧ i = .int .i64 q ∧ x = .int .i64 ((diffs p bs rs k : Nat) : Int) ∧ (∀ i, wr.cell? ⟨w.heap.size, i, none⟩ = r5 (.int .i64 W) (.int .i64 H) (.int .i64 C) (.int .i64 D) (.slice A n c) i) ∧ (∀ i, wr.cell? ⟨w.heap.size + 1, i, none⟩ = r5 (.int .i64 W') (.int .i64 H') (.int .i64 C') (.int .i64 D') (.slice A' n c') i) ∧ Below w.heap.size w wr)
    (fun _ i _ => n - (intOf i).toNat)
  case atStart => exact ⟨0, 0, by omega, (Nat.zero_mul p).symm, rfl, rfl, cc, dd, hB⟩
  case round =>
    clear cc dd hB
    obtain ⟨k, q, ⟨hk, hq⟩, hkq, rfl, rfl, cc, dd, hB⟩ := hrel
    by_cases hlt : q < n
    · have hk1 : k < P := by
        rcases Nat.lt_or_ge k P with h | h
        · exact h
        · exfalso
          have : P * p ≤ k * p := Nat.mul_le_mul_right _ h
          have := HN.out
          have := hkq.out
          omega
      have hq1 : q + p ≤ n := by
        have : (k + 1) * p ≤ P * p := Nat.mul_le_mul_right _ hk1
        rw [Nat.succ_mul] at this
        have := HN.out
        have := hkq.out
        omega
      have hkq1 : Hid (q + p = (k + 1) * p) := by show _ = _; rw [Nat.succ_mul, hkq.out]
      have hd := diffs_le p bs rs k
      have hds : Hid (diffs p bs rs (k + 1) = diffs p bs rs k + if (rs.drop q).take p == (bs.drop q).take p then 0 else 1) := by show _ = _; rw [hkq.out]; rfl
      have hlt2 : (q : Int) < n := by omega
      generalize diffs p bs rs k = dk at hd hds ⊢
      have v1 := wrapI ((q : Int) + p) (by omega) (by omega)
      have v2 : (0 : Int) ≤ (q : Int) + p := by omega
      have v3 : ((q : Int) + p).toNat = q + p := by omega
      have hE := Lib.hid (fun m => Calls.quiet_of_same (n := m) (w := wr) (flipW (bytes_any w.heap.size p (c' - q) w.heap.size p (c - q) _ _ ((rs.drop q).take p) ((bs.drop q).take p) (wr.drewN m) (RdB.drewN (((hr.blw (hB.mono hB2)).mid' hq1).more hB2) m) (RdB.drewN (((hp.blw (hB.mono hB1)).mid' hq1).more hB1) m))))
      generalize ((rs.drop q).take p == (bs.drop q).take p) = bq at hE hds
      cases bq
      all_goals
        go_wp2
        go_quiet ((go_at_call 42; exact hE.out _))
        go_wp2
        go_roundw
        case rel => exact ⟨k + 1, q + p, ⟨hk1, hq1⟩, hkq1, by go_num, by rw [hds.out]; rfl, cc, dd, bdrewN hB _⟩
        case measure => simp [intOf]; omega
    · have e : k = P := by
        have := HN.out
        have h2 := hkq.out
        have h3 : k * p = P * p := by omega
        exact Nat.eq_of_mul_eq_mul_right (by omega) h3
      subst e
      have hge : decide ((q : Int) < n) = false := by simp; omega
      go_wp2
      go_ret2
      exact ⟨rfl, hB⟩

set_option maxHeartbeats 1600000 in
theorem changed9_bad (s t : Sh) (n c n' c' : Nat) (A A' : Option Addr) (w : World) (E : Int) (hE : wrongR s t n n' = E) (h0 : E ≠ 0) :
    Calls Try.prog 41 #[s.r A n c, t.r A' n' c'] w fun e w' => e = .returned (.tuple #[.int .i64 0, .int .i64 E]) ∧ Below w.heap.size w w' := by
  have hB := Below.refl w.heap.size w
  have H1 := Lib.hid (fun w => pair9_any s t n c n' c' A A' w)
  have hne : (E != 0) = true := by simpa using h0
  have HE := Lib.hid hE
  clear hE h0
  obtain ⟨W, H, C, D⟩ := s
  obtain ⟨W', H', C', D'⟩ := t
  dsimp only [Sh.r] at H1
  show Calls _ _ #[.agg #[.int .i64 W, .int .i64 H, .int .i64 C, .int .i64 D, .slice A n c], .agg #[.int .i64 W', .int .i64 H', .int .i64 C', .int .i64 D', .slice A' n' c']] w _
  go_enter Try.func41, Try.ntmps41
  go_wp2_with (go_at_call 64; (with_reducible refine (H1.out _).mono ?_); rintro e w1 ⟨rfl, hb1⟩; rw [HE.out]; replace hB := bxd (bxd hb1); clear hb1)
  go_ret2
  exact ⟨rfl, hB⟩

theorem changed9_any (s t : Sh) (B n c B' n' c' : Nat) (A A' : Option Addr) (bs rs : List UInt8) (w : World) (hp : RdB w B A n bs) (hr : RdB w B' A' n' rs)
    (hB1 : B ≤ w.heap.size) (hB2 : B' ≤ w.heap.size) (hc1 : n ≤ c) (hc2 : n' ≤ c') (hm1 : c ≤ maxLen) (hm2 : c' ≤ maxLen) :
    Calls Try.prog 41 #[s.r A n c, t.r A' n' c'] w fun e w' =>
      e = .returned (.tuple #[.int .i64 (changedR s t bs rs).1, .int .i64 (changedR s t bs rs).2]) ∧ Below w.heap.size w w' := by
  have hl := hp.len
  have hl' := hr.len
  by_cases h0 : wrongR s t n n' = 0
  · have e : changedR s t bs rs = (((diffs t.bpp bs rs (t.w * t.h).toNat : Nat) : Int), 0) := by unfold changedR; rw [hl, hl', if_pos h0]
    rw [e]
    exact changed9_ok s t B n c B' n' c' A A' bs rs w hp hr hB1 hB2 hc1 hc2 hm1 hm2 h0
  · have e : changedR s t bs rs = (0, wrongR s t n n') := by unfold changedR; rw [hl, hl', if_neg h0]
    rw [e]
    exact changed9_bad s t n c n' c' A A' w _ rfl h0

end Go.Proofs.Ytcgpeijmmongoaa
