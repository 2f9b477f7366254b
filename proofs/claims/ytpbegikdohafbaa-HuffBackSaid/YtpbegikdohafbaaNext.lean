/- Decoders: a code read. -/
import Derived.Test.YtpbegikdohafbaaNew
namespace Go.Proofs.Ytpbegikdohafbaa
set_option linter.all false
open Go.RowKit

theorem get1_any {B g n c P : Nat} {A : Option Addr} {bs : List UInt8} {w : World} (h : Arr w g (rdr A n c P)) (hr : RdB w B A n bs) (hg : B ≤ g) (hn : n ≤ 1099511627776) (hfit : P + 1 ≤ 8 * n) :
    Calls Try.prog 37 #[.pointer (some ⟨g, 0, none⟩), .int .i64 1] w fun e w' => e = .returned (.tuple #[.int .u32 (bitAt bs P : Nat), .int .i64 0]) ∧ Arr w' g (rdr A n c (P + 1)) ∧ w.grownBy w' (some g) := by
  have := get_any B g n c P 1 A bs w h hr hg hn (by omega) (by omega) hfit
  rw [getV_one] at this
  exact this
theorem get1_short {g n c P : Nat} {A : Option Addr} {w : World} (h : Arr w g (rdr A n c P)) (hn : n ≤ 1099511627776) (hP : P ≤ 8 * n) (hfit : 8 * n < P + 1) :
    Calls Try.prog 37 #[.pointer (some ⟨g, 0, none⟩), .int .i64 1] w fun e w' => e = .returned (.tuple #[.int .u32 0, .int .i64 2]) ∧ w.grownBy w' none :=
  get_short g n c P 1 A w h hn hP (by omega) hfit
theorem getR1_any {B g n c P : Nat} {A : Option Addr} {bs : List UInt8} {w : World} (h : Arr w g (rdr A n c P)) (hr : RdB w B A n bs) (hg : B ≤ g) (hn : n ≤ 1099511627776) (hfit : P + 1 ≤ 8 * n) :
    Calls Try.prog 38 #[.pointer (some ⟨g, 0, none⟩), .int .i64 1] w fun e w' => e = .returned (.tuple #[.int .u32 (bitAt bs P : Nat), .int .i64 0]) ∧ Arr w' g (rdr A n c (P + 1)) ∧ w.grownBy w' (some g) := by
  have := getR_any B g n c P 1 A bs w h hr hg hn (by omega) (by omega) hfit
  rw [getV_one] at this
  exact this
theorem getR1_short {g n c P : Nat} {A : Option Addr} {w : World} (h : Arr w g (rdr A n c P)) (hn : n ≤ 1099511627776) (hP : P ≤ 8 * n) (hfit : 8 * n < P + 1) :
    Calls Try.prog 38 #[.pointer (some ⟨g, 0, none⟩), .int .i64 1] w fun e w' => e = .returned (.tuple #[.int .u32 0, .int .i64 2]) ∧ w.grownBy w' none :=
  getR_short g n c P 1 A w h hn hP (by omega) hfit
def NextPost (ls : List Int) (bs : List UInt8) (A : Option Addr) (n c P gr : Nat) (w : World) (e : Ending) (w' : World) : Prop :=
  e = .returned (.tuple #[.int .i64 (nx ls bs 15 1 0 P).1, .int .i64 (nx ls bs 15 1 0 P).2.1]) ∧ Arr w' gr (rdr A n c (nx ls bs 15 1 0 P).2.2) ∧ w.grownBy w' (some gr)
theorem nextPost {ls : List Int} {bs : List UInt8} {A : Option Addr} {n c P gr : Nat} {w w' : World} {e : Ending} {R : Int × Int × Nat} (h : R = nx ls bs 15 1 0 P)
    (h1 : e = .returned (.tuple #[.int .i64 R.1, .int .i64 R.2.1])) (h2 : Arr w' gr (rdr A n c R.2.2)) (h3 : w.grownBy w' (some gr)) : NextPost ls bs A n c P gr w e w' := by
  subst h
  exact ⟨h1, h2, h3⟩
theorem pow_step {v t V b : Nat} (h : v < 2 ^ (t - 1)) (h1 : 1 ≤ t) (h2 : t ≤ 15) (hb : b < 2) (hV : v * 2 + b = V) : V < 2 ^ t ∧ V ≤ 32768 ∧ v < 65536 := by
  have e : 2 ^ t = 2 ^ (t - 1) * 2 := by rw [← Nat.pow_succ]; congr 1; omega
  have e2 : 2 ^ (t - 1) ≤ 2 ^ 14 := Nat.pow_le_pow_right (by decide) (by omega)
  omega

set_option maxRecDepth 100000 in
set_option maxHeartbeats 3200000 in
theorem next_any (B n c gd gr P : Nat) (A : Option Addr) (ls : List Int) (bs : List UInt8) (w : World) (hd : DecR w B gd ls) (hr : Arr w gr (rdr A n c P)) (hb : RdB w B A n bs) (hg : B ≤ gr) (hP : P ≤ 8 * n) (hn : n ≤ 1099511627776)
    (hbad : badL ls = false) (hkr : krN ls ≤ 32768) (hl3 : ls.length ≤ 300) :
    Calls Try.prog 23 #[.pointer (some ⟨gd, 0, none⟩), .pointer (some ⟨gr, 0, none⟩)] w fun e w' => NextPost ls bs A n c P gr w e w' := by
  obtain ⟨Ad, cd, hd1, hd2, hd3⟩ := hd
  have HBAD := Lib.hid hbad
  have HKR := Lib.hid hkr
  have HL3 := Lib.hid hl3
  have HD := Lib.hid hd1
  have HDR := Lib.hid hd2
  have HR := Lib.hid hr
  have HRB := Lib.hid hb
  have hgs := hr.lt
  have HBL := Lib.hid hb.len
  clear hbad hkr hd1 hd2 hr hb hl3
  go_enter Try.func23, Try.ntmps23
  go_wp2_with fail
  go_loopw [7, 6] (fun vt vv wr => ∃ t v Q : Nat, 1 ≤ t ∧ t ≤ 16 ∧ vt = .int .i64 t ∧ vv = .int .u32 v ∧ Hid (v < 2 ^ (t - 1)) ∧ Hid (Q ≤ 8 * n) ∧ Hid (Arr wr gr (rdr A n c Q)) ∧ Hid (w.grownBy wr (some gr)) ∧ Hid (nx ls bs (16 - t) t v Q = nx ls bs 15 1 0 P))
    (fun vt _ _ => 17 - (intOf vt).toNat)
  case atStart => exact ⟨1, 0, P, by omega, by omega, rfl, rfl, (show 0 < 2 ^ (1 - 1) by decide), hP, HR, gb_refl _ _, (show _ = _ from rfl)⟩
  case round =>
    clear HR
    obtain ⟨t, v, Q, ht1, ht2, rfl, rfl, HV, HQ, HA, HG, HN⟩ := hrel
    have hQ := HQ.out
    by_cases hlt : t ≤ 15
    · have htI : (t : Int) ≤ 15 := by omega
      have htI2 : (t : Int) < 16 := by omega
      have HN1 : Hid (nx ls bs (15 - t + 1) t v Q = nx ls bs 15 1 0 P) := (show _ = _ by
        have := HN.out
        rwa [show 16 - t = 15 - t + 1 by omega] at this)
      by_cases hfit : 8 * n < Q + 1
      · have HC := Lib.hid (get1_short HA.out hn hQ hfit)
        have HE : Hid ((0, 2, Q) = nx ls bs 15 1 0 P) := (show _ = _ by rw [← HN1.out, nx_short (by rw [HBL.out]; omega)])
        go_wp2_with (go_at_call 37; (with_reducible refine HC.out.mono ?_); go_must (rintro e w5 ⟨rfl, hb5⟩))
        go_ret2
        exact nextPost HE.out rfl (HA.out.gbN hb5) (gb_trans HG.out (gb_none hb5 gr))
      · have HC := Lib.hid (get1_any HA.out (HRB.out.blw (below_gb HG.out (by omega) hg)) hg hn (by omega))
        have hbt := bitAt_lt bs Q
        obtain ⟨V, hV⟩ : ∃ V, v * 2 + bitAt bs Q = V := ⟨_, rfl⟩
        obtain ⟨p1, p2, p3⟩ := pow_step HV.out ht1 hlt hbt hV
        have HP1 := Lib.hid p1
        have hor := or_code v (bitAt bs Q) p3 hbt
        rw [hV] at hor
        have HVV := Lib.hid hV
        have hns : ¬ 8 * bs.length ≤ Q := by rw [HBL.out]; omega
        have HNS := Lib.hid hns
        have hfs := fst_small ls HBAD.out HKR.out t hlt
        have HBB := Lib.hid (fun (h : Hit ls t V V) => h)
        clear p1 hV hns
        generalize hbq : bitAt bs Q = bq at *
        have ed := decL_0 ls 16 (.slice Ad (allP ls 15).length cd) (t := t) (by omega)
        have ec := decL_1 ls 16 (.slice Ad (allP ls 15).length cd) (t := t) (by omega)
        have ef := (decL_2' ls 16 (.slice Ad (allP ls 15).length cd) (t := t) (by omega)).trans (frL_get ls (l := 16) ht1 (by omega) (by omega))
        have ep := decL_3 ls 16 (.slice Ad (allP ls 15).length cd)
        have HED := Lib.hid (fun (wx : World) (k : w.grownBy wx (some gr)) => HD.out.blw (below_gb k (by omega) hg) hd3)
        by_cases h1 : V < fst ls t
        · have HH : Hid (hitN ls t (v * 2 + bq) = none) := (show _ = _ by rw [HVV.out]; exact hit_none (fun p h => by have := hit_bound ht1 h; omega))
          have HN2 : Hid (nx ls bs (16 - (t + 1)) (t + 1) V (Q + 1) = nx ls bs 15 1 0 P) := (show _ = _ by
            rw [← HN1.out, nx_on HNS.out (by rw [hbq]; exact HH.out), hbq, HVV.out, show 16 - (t + 1) = 15 - t by omega])
          generalize fst ls t = F at *
          generalize cz ls t = Z at *
          have dge : decide ((V : Int) - (F : Int) ≥ 0) = false := decide_eq_false (by omega)
          clear HN HN1 HH hbq HV
          go_wp2_with (go_at_call 37; (with_reducible refine HC.out.mono ?_); go_must (rintro e w5 ⟨rfl, hA5, hG5⟩; have HA5 := Lib.hid hA5; have HG5 := Lib.hid (gb_trans HG.out hG5); have c0 := (HED.out w5 HG5.out).cell ed; have c1 := (HED.out w5 HG5.out).cell ec; clear hA5 hG5))
          go_roundw
          case rel => exact ⟨t + 1, V, Q + 1, by omega, by omega, by go_num, rfl, HP1, (show Q + 1 ≤ 8 * n by omega), HA5, HG5, HN2⟩
          case measure => simp [intOf]; omega
        · obtain ⟨j, hj⟩ : ∃ j, V = fst ls t + j := ⟨V - fst ls t, by omega⟩
          have hvf : (V : Int) - (fst ls t : Int) = (j : Int) := by omega
          by_cases h2 : j < cz ls t
          · obtain ⟨p, hhit, hpl, hpp⟩ := hit_at ht1 (show fst ls t ≤ V by omega) (show V < fst ls t + cz ls t by omega)
            have hpx := allP_get ht1 hpl 15 hlt
            rw [show V - fst ls t = j by omega] at hpx
            have hpm := (List.getElem?_eq_some_iff.1 hpx).1
            have HPX := Lib.hid hpx
            have HN2 : Hid (((p : Int), 0, Q + 1) = nx ls bs 15 1 0 P) := (show _ = _ by
              rw [← HN1.out, nx_hit HNS.out (by rw [hbq, HVV.out]; exact hit_some hhit)])
            have hal := allP_le ls 15
            have hal2 : (allP ls 15).length ≤ 4500 := by have := HL3.out; omega
            generalize fst ls t = F at *
            generalize cz ls t = Z at *
            generalize (allP ls (t - 1)).length = fr at *
            have dge : decide ((j : Int) ≥ 0) = true := decide_eq_true (by omega)
            have djz : decide ((j : Int) < (Z : Int)) = true := decide_eq_true (by omega)
            clear HN HN1 hbq HV hhit hpl hpx hal hj h1
            go_wp2_with (go_at_call 37; (with_reducible refine HC.out.mono ?_); go_must (rintro e w5 ⟨rfl, hA5, hG5⟩; have HA5 := Lib.hid hA5; have HG5 := Lib.hid (gb_trans HG.out hG5); have c0 := (HED.out w5 HG5.out).cell ed; have c1 := (HED.out w5 HG5.out).cell ec; have c2 := (HED.out w5 HG5.out).cell ef; have c3 := (HED.out w5 HG5.out).cell ep; obtain ⟨b7, o7, x7, rfl, hb7, HX7, e7⟩ := (HDR.out.blw (below_gb HG5.out (by omega) hg)).one hpm; obtain rfl : x7 = (p : Int) := Option.some.inj (HX7.out.symm.trans HPX.out); clear hA5 hG5))
            go_quiet (fail)
            go_wp2_with fail
            go_ret2
            exact nextPost HN2.out rfl (HA5.out.drewN _) (gb_drewN HG5.out _)
          · have HH : Hid (hitN ls t (v * 2 + bq) = none) := (show _ = _ by rw [HVV.out]; exact hit_none (fun p h => by have := hit_bound ht1 h; omega))
            have HN2 : Hid (nx ls bs (16 - (t + 1)) (t + 1) V (Q + 1) = nx ls bs 15 1 0 P) := (show _ = _ by
              rw [← HN1.out, nx_on HNS.out (by rw [hbq]; exact HH.out), hbq, HVV.out, show 16 - (t + 1) = 15 - t by omega])
            generalize fst ls t = F at *
            generalize cz ls t = Z at *
            have dge : decide ((j : Int) ≥ 0) = true := decide_eq_true (by omega)
            have djz : decide ((j : Int) < (Z : Int)) = false := decide_eq_false (by omega)
            clear HN HN1 HH hbq HV hj h1
            go_wp2_with (go_at_call 37; (with_reducible refine HC.out.mono ?_); go_must (rintro e w5 ⟨rfl, hA5, hG5⟩; have HA5 := Lib.hid hA5; have HG5 := Lib.hid (gb_trans HG.out hG5); have c0 := (HED.out w5 HG5.out).cell ed; have c1 := (HED.out w5 HG5.out).cell ec; clear hA5 hG5))
            go_roundw
            case rel => exact ⟨t + 1, V, Q + 1, by omega, by omega, by go_num, rfl, HP1, (show Q + 1 ≤ 8 * n by omega), HA5, HG5, HN2⟩
            case measure => simp [intOf]; omega
    · obtain rfl : t = 16 := by omega
      have HE : Hid ((0, 4, Q) = nx ls bs 15 1 0 P) := (show _ = _ by rw [← HN.out]; rfl)
      go_wp2_with fail
      go_ret2
      exact nextPost HE.out rfl HA.out HG.out
end Go.Proofs.Ytpbegikdohafbaa
