/- join: which trees may be, here and in the reference. -/
import Derived.Test.YtmffmijjdpjaiaaKeys
import Derived.Test.YtmffmijjdpjaiaaBox2
namespace Go.Proofs.Ytmffmijjdpjaiaa
set_option linter.all false
open Go.RowKit

set_option maxHeartbeats 800000 in
theorem grid9_any (s : Sh) (w : World) : Calls Try.prog 28 #[s.v] w fun e w' => e = .returned (.tuple #[.int .i64 s.gw, .int .i64 s.gh]) ∧ Below w.heap.size w w' := by
  have hB := Below.refl w.heap.size w
  have HV := Lib.hid (fun w => mayS9_any s w)
  cases hm : s.may with
  | false =>
    have HM := Lib.hid hm
    have HG := Lib.hid (show s.gw = 0 ∧ s.gh = 0 by unfold Sh.gw Sh.gh; rw [hm]; exact ⟨rfl, rfl⟩)
    rw [HG.out.1, HG.out.2]
    clear hm HG
    obtain ⟨W, H, C, D⟩ := s
    show Calls _ _ #[.agg #[.int .i64 W, .int .i64 H, .int .i64 C, .int .i64 D]] w _
    go_enter Try.func28, Try.ntmps28
    go_wp2_with (go_at_call 32; go_must (refine (HV.out _).mono ?_; rintro e w1 ⟨rfl, hb1⟩; rw [HM.out]; replace hB := bxd hb1; clear hb1))
    go_ret2
    exact ⟨rfl, hB⟩
  | true =>
    have HM := Lib.hid hm
    obtain ⟨⟨a1, a2⟩, ⟨a3, a4⟩, -, -⟩ := (Sh.nums_iff s).1 (Sh.may_nums hm)
    have HG := Lib.hid (show s.gw = (s.w + 7) / 8 ∧ s.gh = (s.h + 7) / 8 by unfold Sh.gw Sh.gh; rw [hm]; exact ⟨rfl, rfl⟩)
    rw [HG.out.1, HG.out.2]
    have v1 := wrapI (s.w + 8) (by omega) (by omega)
    have v2 := wrapI (s.w + 8 - 1) (by omega) (by omega)
    have v3 := wrapI (s.h + 8) (by omega) (by omega)
    have v4 := wrapI (s.h + 8 - 1) (by omega) (by omega)
    have e1 : (s.w + 8 - 1).tdiv 8 = (s.w + 7) / 8 := by rw [Int.tdiv_eq_ediv_of_nonneg (by omega)]; congr 1; omega
    have e2 : (s.h + 8 - 1).tdiv 8 = (s.h + 7) / 8 := by rw [Int.tdiv_eq_ediv_of_nonneg (by omega)]; congr 1; omega
    have v5 := wrapI ((s.w + 7) / 8) (by omega) (by omega)
    have v6 := wrapI ((s.h + 7) / 8) (by omega) (by omega)
    clear hm HG a1 a2 a3 a4
    obtain ⟨W, H, C, D⟩ := s
    dsimp only at v1 v2 v3 v4 v5 v6 e1 e2 ⊢
    show Calls _ _ #[.agg #[.int .i64 W, .int .i64 H, .int .i64 C, .int .i64 D]] w _
    go_enter Try.func28, Try.ntmps28
    go_wp2_with (go_at_call 32; go_must (refine (HV.out _).mono ?_; rintro e w1 ⟨rfl, hb1⟩; rw [HM.out]; obtain ⟨c0, c1, c2, c3⟩ := cells4 (by simp) hb1; replace hB := bxd hb1; clear hb1))
    go_quiet (fail)
    go_wp2
    go_ret2
    exact ⟨rfl, bdrewN hB _⟩

theorem Sh.gw_rng {s : Sh} (h : s.may = true) : 1 ≤ s.gw ∧ s.gw ≤ 32 ∧ 1 ≤ s.gh ∧ s.gh ≤ 32 ∧ s.gw = (s.w + 7) / 8 ∧ s.gh = (s.h + 7) / 8 := by
  obtain ⟨⟨a1, a2⟩, ⟨a3, a4⟩, -, -⟩ := (Sh.nums_iff s).1 (Sh.may_nums h)
  have e1 : s.gw = (s.w + 7) / 8 := by unfold Sh.gw; rw [h]; rfl
  have e2 : s.gh = (s.h + 7) / 8 := by unfold Sh.gh; rw [h]; rfl
  omega

/-- A picture by its tiles' keys: may it be? -/
def mayT (s : Sh) (l : List ByteArray) : Bool := decide (0 < s.gw) && (decide ((l.length : Int) = s.gw * s.gh) && allOk l)
theorem mayT_len {s : Sh} {l : List ByteArray} (h : mayT s l = true) : l.length ≤ 1024 ∧ 1 ≤ l.length ∧ (l.length : Int) = s.gw * s.gh ∧ allOk l = true := by
  unfold mayT at h
  simp only [Bool.and_eq_true, decide_eq_true_eq] at h
  obtain ⟨h1, h2, h3⟩ := h
  have hm : s.may = true := by
    cases e : s.may with
    | true => rfl
    | false => unfold Sh.gw at h1; rw [e] at h1; simp at h1
  obtain ⟨r1, r2, r3, r4, -, -⟩ := Sh.gw_rng hm
  have : s.gw * s.gh ≤ 32 * 32 := Int.mul_le_mul r2 r4 (by omega) (by omega)
  have : 1 * 1 ≤ s.gw * s.gh := Int.mul_le_mul r1 r3 (by omega) (by omega)
  exact ⟨by omega, by omega, h2, h3⟩

set_option maxHeartbeats 1600000 in
theorem treeMay_any (s : Sh) (B n c : Nat) (A : Option Addr) (l : List ByteArray) (w : World) (hr : RdT w B A n l) (hB1 : B ≤ w.heap.size) (hc : n ≤ c) (hm : c ≤ maxLen) (hs : shortT l) :
    Calls Try.prog 34 #[s.r A n c] w fun e w' => e = .returned (.bool (mayT s l)) ∧ Below w.heap.size w w' := by
  have hB := Below.refl w.heap.size w
  have HG := Lib.hid (fun w => grid_any s w)
  have HV := Lib.hid (fun (w' : World) (hb : Below w.heap.size w w') => objValid_any B n c A l w' (hr.blw (hb.mono hB1)) (Nat.le_trans hB1 hb.size) hc hm hs)
  have HL := Lib.hid hr.len
  unfold maxLen at hm
  cases hmy : s.may with
  | false =>
    have HG0 : Hid (s.gw = 0) := (show _ = _ by unfold Sh.gw; rw [hmy]; rfl)
    have HG1 : Hid (s.gh = 0) := (show _ = _ by unfold Sh.gh; rw [hmy]; rfl)
    have HM : Hid (mayT s l = false) := (show _ = _ by unfold mayT; rw [HG0.out]; rfl)
    clear hmy hr hs
    dsimp only [Sh.v, Sh.r] at *
    go_enter Try.func34, Try.ntmps34
    go_wp2_with (go_at_call 40; (with_reducible refine (HG.out _).mono ?_); go_must (rintro e w1 ⟨rfl, hb1⟩; rw [HG0.out, HG1.out]; have c1 := box5 hb1; replace hB := bxd hb1; clear hb1))
    go_ret
    exact ⟨ret_bool HM.out.symm, hB⟩
  | true =>
    obtain ⟨r1, r2, r3, r4, -, -⟩ := Sh.gw_rng hmy
    have b1 : s.gw * s.gh ≤ 32 * 32 := Int.mul_le_mul r2 r4 (by omega) (by omega)
    have b0 : 1 * 1 ≤ s.gw * s.gh := Int.mul_le_mul r1 r3 (by omega) (by omega)
    have HM : Hid (mayT s l = (decide ((n : Int) = s.gw * s.gh) && allOk l)) := (show _ = _ by unfold mayT; rw [HL.out, decide_eq_true (show 0 < s.gw by omega), Bool.true_and])
    clear hmy hr hs
    dsimp only [Sh.v, Sh.r] at *
    generalize hgw : s.gw = gw at HG HM r1 r2 b1 b0
    generalize hgh : s.gh = gh at HG HM r3 r4 b1 b0
    clear hgw hgh
    have b2 : gw * gh ≤ 1024 := by omega
    have b3 : 0 ≤ gw * gh := by omega
    clear b1 b0
    by_cases hn : (n : Int) = gw * gh
    · have HM2 : Hid ((decide ((n : Int) = gw * gh) && allOk l) = allOk l) := (show _ = _ by rw [decide_eq_true hn, Bool.true_and])
      have hn1 : ((n : Int) == gw * gh) = true := by simpa using hn
      clear hn
      go_enter Try.func34, Try.ntmps34
      go_wp2_with (first
        | (go_at_call 40; (with_reducible refine (HG.out _).mono ?_); go_must (rintro e w1 ⟨rfl, hb1⟩; have c1 := box5 hb1; replace hB := bxd hb1; clear hb1))
        | (go_at_call 41; (with_reducible refine (HV.out _ hB).mono ?_); go_must (rintro e w2 ⟨rfl, hb2⟩; replace hB := bstep hB hb2 (Nat.le_refl _); clear hb2)))
      all_goals
        go_ret
        exact ⟨ret_bool ((HM.out.trans HM2.out).symm), hB⟩
    · have HM2 : Hid ((decide ((n : Int) = gw * gh) && allOk l) = false) := (show _ = _ by rw [decide_eq_false hn, Bool.false_and])
      have hn1 : ((n : Int) == gw * gh) = false := by simpa using hn
      clear hn
      go_enter Try.func34, Try.ntmps34
      go_wp2_with (first
        | (go_at_call 40; (with_reducible refine (HG.out _).mono ?_); go_must (rintro e w1 ⟨rfl, hb1⟩; have c1 := box5 hb1; replace hB := bxd hb1; clear hb1))
        | (go_at_call 41; (with_reducible refine (HV.out _ hB).mono ?_); go_must (rintro e w2 ⟨rfl, hb2⟩; replace hB := bstep hB hb2 (Nat.le_refl _); clear hb2)))
      all_goals
        go_ret
        exact ⟨ret_bool ((HM.out.trans HM2.out).symm), hB⟩

set_option maxHeartbeats 1600000 in
theorem treeMay17_any (s : Sh) (B n c : Nat) (A : Option Addr) (l : List ByteArray) (w : World) (hr : RdT w B A n l) (hB1 : B ≤ w.heap.size) (hc : n ≤ c) (hm : c ≤ maxLen) (hs : shortT l) :
    Calls Try.prog 16 #[s.r A n c] w fun e w' => e = .returned (.bool (mayT s l)) ∧ Below w.heap.size w w' := by
  have hB := Below.refl w.heap.size w
  have HG := Lib.hid (fun w => grid9_any s w)
  have HV := Lib.hid (fun (w' : World) (hb : Below w.heap.size w w') => valid17_any B n c A l w' (hr.blw (hb.mono hB1)) (Nat.le_trans hB1 hb.size) hc hm hs)
  have HL := Lib.hid hr.len
  unfold maxLen at hm
  cases hmy : s.may with
  | false =>
    have HG0 : Hid (s.gw = 0) := (show _ = _ by unfold Sh.gw; rw [hmy]; rfl)
    have HG1 : Hid (s.gh = 0) := (show _ = _ by unfold Sh.gh; rw [hmy]; rfl)
    have HM : Hid (mayT s l = false) := (show _ = _ by unfold mayT; rw [HG0.out]; rfl)
    clear hmy hr hs
    dsimp only [Sh.v, Sh.r] at *
    go_enter Try.func16, Try.ntmps16
    go_wp2_with (go_at_call 28; (with_reducible refine (HG.out _).mono ?_); go_must (rintro e w1 ⟨rfl, hb1⟩; rw [HG0.out, HG1.out]; have c1 := box5 hb1; replace hB := bxd hb1; clear hb1))
    go_ret
    exact ⟨ret_bool HM.out.symm, hB⟩
  | true =>
    obtain ⟨r1, r2, r3, r4, -, -⟩ := Sh.gw_rng hmy
    have b1 : s.gw * s.gh ≤ 32 * 32 := Int.mul_le_mul r2 r4 (by omega) (by omega)
    have b0 : 1 * 1 ≤ s.gw * s.gh := Int.mul_le_mul r1 r3 (by omega) (by omega)
    have HM : Hid (mayT s l = (decide ((n : Int) = s.gw * s.gh) && allOk l)) := (show _ = _ by unfold mayT; rw [HL.out, decide_eq_true (show 0 < s.gw by omega), Bool.true_and])
    clear hmy hr hs
    dsimp only [Sh.v, Sh.r] at *
    generalize hgw : s.gw = gw at HG HM r1 r2 b1 b0
    generalize hgh : s.gh = gh at HG HM r3 r4 b1 b0
    clear hgw hgh
    have b2 : gw * gh ≤ 1024 := by omega
    have b3 : 0 ≤ gw * gh := by omega
    clear b1 b0
    by_cases hn : (n : Int) = gw * gh
    · have HM2 : Hid ((decide ((n : Int) = gw * gh) && allOk l) = allOk l) := (show _ = _ by rw [decide_eq_true hn, Bool.true_and])
      have hn1 : ((n : Int) == gw * gh) = true := by simpa using hn
      clear hn
      go_enter Try.func16, Try.ntmps16
      go_wp2_with (first
        | (go_at_call 28; (with_reducible refine (HG.out _).mono ?_); go_must (rintro e w1 ⟨rfl, hb1⟩; have c1 := box5 hb1; replace hB := bxd hb1; clear hb1))
        | (go_at_call 29; (with_reducible refine (HV.out _ hB).mono ?_); go_must (rintro e w2 ⟨rfl, hb2⟩; replace hB := bstep hB hb2 (Nat.le_refl _); clear hb2)))
      all_goals
        go_ret
        exact ⟨ret_bool ((HM.out.trans HM2.out).symm), hB⟩
    · have HM2 : Hid ((decide ((n : Int) = gw * gh) && allOk l) = false) := (show _ = _ by rw [decide_eq_false hn, Bool.false_and])
      have hn1 : ((n : Int) == gw * gh) = false := by simpa using hn
      clear hn
      go_enter Try.func16, Try.ntmps16
      go_wp2_with (first
        | (go_at_call 28; (with_reducible refine (HG.out _).mono ?_); go_must (rintro e w1 ⟨rfl, hb1⟩; have c1 := box5 hb1; replace hB := bxd hb1; clear hb1))
        | (go_at_call 29; (with_reducible refine (HV.out _ hB).mono ?_); go_must (rintro e w2 ⟨rfl, hb2⟩; replace hB := bstep hB hb2 (Nat.le_refl _); clear hb2)))
      all_goals
        go_ret
        exact ⟨ret_bool ((HM.out.trans HM2.out).symm), hB⟩

end Go.Proofs.Ytmffmijjdpjaiaa
