/- tile: Cut of the reference. -/
import Derived.Test.YtcgpeijmmongoaaTile9
import Derived.Test.YtcgpeijmmongoaaTile6
import Derived.Test.YtcgpeijmmongoaaRas2
import Derived.Deep.RegionHeld3
import Derived.Deep.RegionLaw
namespace Go.Proofs.Ytcgpeijmmongoaa
set_option linter.all false
open Go.RowKit

theorem Sh.left_eq {s : Sh} {j : Nat} (hm : s.may = true) (hj : (j : Int) < s.gw * s.gh) : s.left j = s.cx j * s.c * s.d / 8 := by
  rw [Sh.left_nat hm hj, Sh.cx_nat hm j]
  obtain ⟨c, d, e, eb, -⟩ := Sh.nat (Sh.may_nums hm)
  have ec : s.c = (c : Int) := by rw [e]
  have ed : s.d = 8 * (d : Int) := by rw [e]
  rw [ec, ed, rowN, eb]
theorem ownB.grownAny {w w' : World} {base base' n c : Nat} {A : Option Addr} {v : Value} {bs : List UInt8} {l : List Ra} (h : ownB w base (.slice A n c) bs) (hv : ownR w base' v l) (hg : w.grownBy w' v.ownBlock) : ownB w' base (.slice A n c) bs := by
  refine World.ownsRow.kept h hg ?_
  rcases e : A with _ | ⟨g, o, sp⟩
  · exact .inl rfl
  · right
    intro e2
    rcases h.2 with ⟨hv2, _⟩ | ⟨g1, c1, cur, hv1, _⟩
    · rw [e] at hv2; cases hv2
    · rw [e] at hv1 h
      injection hv1 with q
      injection q with q
      injection q with q1 q2 q3
      subst q1 q2 q3
      exact own_ne h hv e2.symm
theorem cut9_no (s : Sh) (n c : Nat) (A : Option Addr) (w : World) (hmr : s.mayR n = false) :
    Calls Try.prog 27 #[s.r A n c] w fun e w' => e = .returned (.tuple #[.slice none 0 0, .int .i64 4]) ∧ Below w.heap.size w w' := by
  have hB := Below.refl w.heap.size w
  have HM := Lib.hid (fun w => may9_any s A n c w)
  have HMV := Lib.hid hmr
  clear hmr
  dsimp only [Sh.r, Sh.v] at *
  go_enter Try.func27, Try.ntmps27
  go_wp2_with (first
    | (go_at_call 53; (with_reducible refine (HM.out _).mono ?_); go_must (rintro e w1 ⟨rfl, hb1⟩; rw [HMV.out]; replace hB := bxd hb1; clear hb1)))
  go_ret2
  exact ⟨rfl, hB⟩

set_option maxRecDepth 100000 in
set_option maxHeartbeats 12800000 in
theorem cut9_ok (s : Sh) (B n c : Nat) (A : Option Addr) (bs : List UInt8) (w : World) (hr : RdB w B A n bs) (hB1 : B ≤ w.heap.size) (hc : n ≤ c) (hmx : c ≤ maxLen) (hmr : s.mayR n = true) :
    Calls Try.prog 27 #[s.r A n c] w fun e w' => ∃ v l, e = .returned (.tuple #[v, .int .i64 0]) ∧ ownR w' w.heap.size v l ∧ l.length = (s.gw * s.gh).toNat ∧ Tiles w' w.heap.size s bs l ∧ Below w.heap.size w w' := by
  have hB := Below.refl w.heap.size w
  have HM := Lib.hid (fun w => may9_any s A n c w)
  have HMV := Lib.hid hmr
  have hm : s.may = true := by unfold Sh.mayR at hmr; simp at hmr; exact hmr.1
  have hsz : (n : Int) = s.size := by unfold Sh.mayR at hmr; simp at hmr; exact hmr.2
  have hnum := Sh.may_nums hm
  have hlen := hr.len
  have hl : bs.length = s.H * (s.W * s.B) := by rw [Sh.size_nat hnum] at hsz; omega
  have hn : n ≤ 16384 := by unfold Sh.may at hm; simp at hm; omega
  obtain ⟨r1, r2, r3, r4, -, -⟩ := Sh.gw_rng hm
  have HG := Lib.hid (fun w => grid9_any s w)
  have hmul : s.gw * s.gh ≤ 32 * 32 := Int.mul_le_mul r2 r4 (by omega) (by omega)
  have hmul0 : 0 ≤ s.gw * s.gh := Int.mul_nonneg (by omega) (by omega)
  obtain ⟨N, hN⟩ := Int.eq_ofNat_of_zero_le hmul0
  have HN := Lib.hid hN
  have HP := Lib.hid (fun (k : Nat) (hk : k < N) (w : World) => tile9_ok s k w hm (by omega) (by rw [hN]; omega))
  have HW := Lib.hid (Sh.B_pos hnum)
  have HL := Lib.hid hl
  have HNL := Lib.hid hlen
  have HT := Lib.hid (fun (k : Nat) (hk : k < N) => (⟨Sh.part_row hm (j := k) (by rw [hN]; omega), Sh.part_h hm k, Sh.part_may hm (j := k) (by rw [hN]; omega), fun q => Sh.at_nat hm (j := k) (by rw [hN]; omega) q, Sh.rows_facts hm (Int.natCast_nonneg k) (by rw [hN]; omega)⟩ : (s.part (k : Int)).row = _ ∧ _ ∧ _ ∧ (∀ q : Nat, _) ∧ _))
  have HLF := Lib.hid (fun (k : Nat) (hk : k < N) => Sh.left_nat hm (j := k) (by rw [hN]; omega))
  have HH := Lib.hid hr
  have HS := Lib.hid hm
  have HR := Lib.hid (fun w => row9_any s w)
  have HPR := Lib.hid (fun p w => row9_any p w)
  have HCB := Lib.hid (fun j => cutB_len (bs := bs) hm hl j)
  have hN2 : N ≤ 1024 := by omega
  obtain ⟨⟨n1, n2⟩, ⟨n3, n4⟩, ⟨n5, n6⟩, n7⟩ := (Sh.nums_iff s).1 hnum
  rw [hN]
  show Calls _ _ _ _ (fun e w' => ∃ v l, e = .returned (.tuple #[v, .int .i64 0]) ∧ ownR w' w.heap.size v l ∧ l.length = N ∧ Tiles w' w.heap.size s bs l ∧ Below w.heap.size w w')
  obtain ⟨gw, hgw⟩ : ∃ x, x = s.gw := ⟨_, rfl⟩
  obtain ⟨gh, hgh⟩ : ∃ x, x = s.gh := ⟨_, rfl⟩
  rw [← hgw, ← hgh] at HG
  rw [← hgw] at r1 r2
  have HGW := Lib.hid hgw
  have HGG : Hid (gw * gh = N) := (show _ = _ by rw [hgw, hgh]; exact hN)
  have b1 : gw * gh ≤ 1024 := by rw [HGG.out]; omega
  have b2 : 0 ≤ gw * gh := by rw [HGG.out]; omega
  have hgz : ¬ gw = 0 := by omega
  clear hgw hgh hmr hm hsz hnum hlen hl hr r3 r4 hmul hmul0 hN n1 n3
  dsimp only [Sh.r, Sh.v] at *
  go_enter Try.func27, Try.ntmps27
  go_wp2_with (first
    | (go_at_call 53; (with_reducible refine (HM.out _).mono ?_); go_must (rintro e w1 ⟨rfl, hb1⟩; rw [HMV.out]; have cR := box5 hb1; replace hB := bxd hb1; clear hb1))
    | (go_at_call 25; (with_reducible refine (HG.out _).mono ?_); go_must (rintro e w2 ⟨rfl, hb1⟩; replace cR := kept cR rfl hb1; replace hB := bstep hB hb1 (Nat.le_refl _); clear hb1)))
  go_loopw [6, 7] (fun v i wr => ∃ (k : Nat) (l : List Ra), k ≤ N ∧ i = .int .i64 k ∧ l.length = k ∧ ownR wr (w.heap.size + 1) v l ∧ Tiles wr w.heap.size s bs l ∧ (∀ i, wr.cell? ⟨w.heap.size, i, none⟩ = r5 (.int .i64 s.w) (.int .i64 s.h) (.int .i64 s.c) (.int .i64 s.d) (.slice A n c) i) ∧ Below w.heap.size w wr)
    (fun _ i _ => N - (intOf i).toNat)
  case atStart => exact ⟨0, [], Nat.zero_le _, rfl, rfl, ownR.nil_ _ _, Tiles.nil_ _ _ _ _, cR, hB⟩
  case round =>
    clear cR hB
    obtain ⟨k, l, hk, rfl, hlk, hO, hT, cR, hB⟩ := hrel
    obtain ⟨wo, rfl⟩ : ∃ wo : World, wo = wr := ⟨_, rfl⟩
    have hw0 : w.heap.size < wo.heap.size := ltOf cR rfl
    have HO := Lib.hid hO
    have HTT := Lib.hid hT
    have HK := Lib.hid hlk
    clear hO hT hlk
    have HGG2 : Hid ((gw * gh) = N) := HGG
    by_cases hlt : k < N
    · have hltZ : (k : Int) < gw * gh := by rw [HGG.out]; omega
      obtain ⟨T2, ⟨T3, T4⟩, T5, T6, ⟨⟨y0, y1⟩, ⟨y2, y3⟩, ⟨y4, y5⟩, ⟨y6, y7⟩, ⟨y8, y9⟩, -⟩⟩ := HT.out k hlt
      have hLF := Sh.left_eq HS.out (j := k) (by rw [HN.out]; omega)
      have HT6 := Lib.hid T6
      have HQ := Lib.hid (HPR.out (s.part (k : Int)))
      rw [T2] at HQ y8 y9
      have HCk := Lib.hid (HCB.out k)
      obtain ⟨ph, hph⟩ := Int.eq_ofNat_of_zero_le (show 0 ≤ (s.part (k : Int)).h by omega)
      have HPH : Hid (TG.tH s.W s.H k = ph) := (show _ = _ by rw [← T4, hph]; rfl)
      have HPHI := Lib.hid hph
      have HPk := Lib.hid (HP.out k hlt)
      have hcx : s.cx (k : Int) = (k : Int) % gw * 8 := by unfold Sh.cx; rw [HGW.out]
      have hcy : s.cy (k : Int) = (k : Int) / gw * 8 := by unfold Sh.cy; rw [HGW.out]
      rw [hcx] at y0 y1
      rw [hcy] at y2 y3
      have ph8 : ph ≤ 8 := by omega
      have hBr := Below.refl wo.heap.size wo
      have HB0 := Lib.hid hB
      have HPP : Hid (∀ q : Nat, ((k : Int) / gw * 8 + q) * s.row + (k : Int) % gw * 8 * s.c * s.d / 8 = ((TG.tP s.W s.B k q : Nat) : Int)) := (show _ from fun q => by rw [← hcy, ← hcx, ← hLF]; exact HT6.out q)
      have nn8 : TG.tN s.W s.B k ≤ 2048 := by omega
      clear T2 T3 T4 T5 T6 hph hcx hcy hLF
      have hwp : ∀ w' : World, w.heap.size < wo.heap.size := fun _ => hw0
      clear hwp
      generalize hpp : s.part (k : Int) = p at HPk HQ HPHI
      have HPE := Lib.hid hpp
      clear hpp
      (try dsimp only [Sh.v] at HQ)
      rw [HPHI.out] at HPk HQ
      go_upto_region 10 with (first
        | (go_at_call 28; (with_reducible refine (HPk.out _).mono ?_); go_must (rintro e w1 ⟨rfl, hb1⟩; replace cR := kept cR rfl hb1; replace hB := bstep hB hb1 (Nat.le_refl _); replace hBr := bstep hBr hb1 (Nat.le_refl _); clear hb1)))
      have cP := kA4 (new4 w1 (.int .i64 p.w) (.int .i64 ph) (.int .i64 p.c) (.int .i64 p.d) 23 (0, 0)) (.cells #[.int .i64 p.w, .int .i64 ph, .int .i64 p.c, .int .i64 p.d, .slice none 0 0] 33 (0, 0))
      have cT := new5' w1 (.cells #[.int .i64 p.w, .int .i64 ph, .int .i64 p.c, .int .i64 p.d] 23 (0, 0)) (.int .i64 p.w) (.int .i64 ph) (.int .i64 p.c) (.int .i64 p.d) (.slice none 0 0) 33 (0, 0)
      have fT : ∀ i, ((w1.alloc (.cells #[.int .i64 p.w, .int .i64 ph, .int .i64 p.c, .int .i64 p.d] 23 (0, 0))).alloc (.cells #[.int .i64 p.w, .int .i64 ph, .int .i64 p.c, .int .i64 p.d, .slice none 0 0] 33 (0, 0))).frozen? ⟨w1.heap.size + 1, i, none⟩ = false := fun i => by
        have := boxF (w := w1.alloc (.cells #[.int .i64 p.w, .int .i64 ph, .int .i64 p.c, .int .i64 p.d] 23 (0, 0))) (cs := #[.int .i64 p.w, .int .i64 ph, .int .i64 p.c, .int .i64 p.d, .slice none 0 0]) (t := 33) (Below.refl _ _) i
        rwa [World.size_alloc] at this
      replace cR := kA5 (kA5 cR (.cells #[.int .i64 p.w, .int .i64 ph, .int .i64 p.c, .int .i64 p.d] 23 (0, 0))) (.cells #[.int .i64 p.w, .int .i64 ph, .int .i64 p.c, .int .i64 p.d, .slice none 0 0] 33 (0, 0))
      have hwr1 := hBr.size
      have hB2 := ((hBr.alloc hBr.size (.cells #[.int .i64 p.w, .int .i64 ph, .int .i64 p.c, .int .i64 p.d] 23 (0, 0))).alloc (by simp only [World.size_alloc]; omega) (.cells #[.int .i64 p.w, .int .i64 ph, .int .i64 p.c, .int .i64 p.d, .slice none 0 0] 33 (0, 0)))
      have HO0 := Lib.hid (show ownB ((w1.alloc (.cells #[.int .i64 p.w, .int .i64 ph, .int .i64 p.c, .int .i64 p.d] 23 (0, 0))).alloc (.cells #[.int .i64 p.w, .int .i64 ph, .int .i64 p.c, .int .i64 p.d, .slice none 0 0] 33 (0, 0))) (w1.heap.size + 2) (.slice none 0 0) (TG.cutTo s.W s.B bs k 0) from ownB.nil_ _ _)
      clear hB hBr
      obtain ⟨gp, hgp⟩ : ∃ g, g = w1.heap.size := ⟨_, rfl⟩
      rw [← hgp] at cP cT fT hwr1 HO0 ⊢
      generalize ((w1.alloc (.cells #[.int .i64 p.w, .int .i64 ph, .int .i64 p.c, .int .i64 p.d] 23 (0, 0))).alloc (.cells #[.int .i64 p.w, .int .i64 ph, .int .i64 p.c, .int .i64 p.d, .slice none 0 0] 33 (0, 0))) = w2 at *
      clear hgp
      go_wp2_with fail
      go_loopw [11] (fun y wr => ∃ (q : Nat) (Ap : Option Addr) (np cp : Nat), q ≤ ph ∧ y = .int .i64 q ∧ (∀ i, wr.cell? ⟨gp + 1, i, none⟩ = r5 (.int .i64 p.w) (.int .i64 ph) (.int .i64 p.c) (.int .i64 p.d) (.slice Ap np cp) i) ∧ Hid (ownB wr (gp + 2) (.slice Ap np cp) (TG.cutTo s.W s.B bs k q)) ∧ (∀ i, wr.cell? ⟨gp, i, none⟩ = s4 (.int .i64 p.w) (.int .i64 ph) (.int .i64 p.c) (.int .i64 p.d) i) ∧ (∀ i, wr.cell? ⟨w.heap.size, i, none⟩ = r5 (.int .i64 s.w) (.int .i64 s.h) (.int .i64 s.c) (.int .i64 s.d) (.slice A n c) i) ∧ (∀ i, wr.frozen? ⟨gp + 1, i, none⟩ = false) ∧ Below wo.heap.size wo wr)
        (fun y _ => ph - (intOf y).toNat)
      case atStart => exact ⟨0, none, 0, 0, Nat.zero_le _, rfl, cT, HO0, cP, cR, fT, hB2⟩
      case round =>
        clear cT HO0 cP cR fT hB2
        obtain ⟨q, Ap, np, cp, hq, rfl, cT, HOW, cP, cR, fT, hBi⟩ := hrel
        have hwi : gp + 1 < wr.heap.size := ltOf cT rfl
        by_cases hlq : q < ph
        · have d0 : 0 ≤ (k : Int) / gw := by omega
          have d1 : 0 ≤ (k : Int) % gw := by omega
          have u1 : (k : Int).tdiv gw = (k : Int) / gw := Int.tdiv_eq_ediv_of_nonneg (by omega)
          have u2 : (k : Int).tmod gw = (k : Int) % gw := Int.tmod_eq_emod_of_nonneg (by omega)
          have m0 : 0 ≤ ((k : Int) / gw * 8 + q) * s.row := Int.mul_nonneg (by omega) y6
          have m1 : ((k : Int) / gw * 8 + q) * s.row ≤ 264 * 2048 := Int.mul_le_mul (by omega) y7 y6 (by omega)
          have m2 : 0 ≤ (k : Int) % gw * 8 * s.c := Int.mul_nonneg (by omega) (by omega)
          have m3 : (k : Int) % gw * 8 * s.c ≤ 256 * 4 := Int.mul_le_mul (by omega) n6 (by omega) (by omega)
          have hd16 : 0 ≤ s.d ∧ s.d ≤ 16 := by omega
          have m4 : 0 ≤ (k : Int) % gw * 8 * s.c * s.d := Int.mul_nonneg m2 hd16.1
          have m5 : (k : Int) % gw * 8 * s.c * s.d ≤ 1024 * 16 := Int.mul_le_mul m3 hd16.2 hd16.1 (by omega)
          have u3 : ((k : Int) % gw * 8 * s.c * s.d).tdiv 8 = (k : Int) % gw * 8 * s.c * s.d / 8 := Int.tdiv_eq_ediv_of_nonneg m4
          have v1 : IntKind.i64.wrap ((k : Int) / gw) = (k : Int) / gw := wrapI _ (by omega) (by omega)
          have v2 : IntKind.i64.wrap ((k : Int) / gw * 8) = (k : Int) / gw * 8 := wrapI _ (by omega) (by omega)
          have v3 : IntKind.i64.wrap ((k : Int) / gw * 8 + q) = (k : Int) / gw * 8 + q := wrapI _ (by omega) (by omega)
          have v4 : IntKind.i64.wrap (((k : Int) / gw * 8 + q) * s.row) = ((k : Int) / gw * 8 + q) * s.row := wrapI _ (by omega) (by omega)
          have v5 : IntKind.i64.wrap ((k : Int) % gw) = (k : Int) % gw := wrapI _ (by omega) (by omega)
          have v6 : IntKind.i64.wrap ((k : Int) % gw * 8) = (k : Int) % gw * 8 := wrapI _ (by omega) (by omega)
          have v7 : IntKind.i64.wrap ((k : Int) % gw * 8 * s.c) = (k : Int) % gw * 8 * s.c := wrapI _ (by omega) (by omega)
          have v8 : IntKind.i64.wrap ((k : Int) % gw * 8 * s.c * s.d) = (k : Int) % gw * 8 * s.c * s.d := wrapI _ (by omega) (by omega)
          have v9 : IntKind.i64.wrap ((k : Int) % gw * 8 * s.c * s.d / 8) = (k : Int) % gw * 8 * s.c * s.d / 8 := wrapI _ (by omega) (by omega)
          have v10 : IntKind.i64.wrap (((k : Int) / gw * 8 + q) * s.row + (k : Int) % gw * 8 * s.c * s.d / 8) = ((k : Int) / gw * 8 + q) * s.row + (k : Int) % gw * 8 * s.c * s.d / 8 := wrapI _ (by omega) (by omega)
          have HPQ := Lib.hid (HPP.out q)
          have hq8 : q < TG.tH s.W s.H k := by rw [HPH.out]; exact hlq
          have HFIT := Lib.hid (TG.tP_fit (B := s.B) HW.out.1 hq8)
          have HN1 : Hid (1 ≤ TG.tN s.W s.B k) := (show _ ≤ _ by
            have := TG.tX_lt HW.out.1 k
            unfold TG.tN
            exact Nat.mul_pos (by omega) HW.out.2)
          go_upto_region 13 with (fail)
          go_cut [12] (fun v wc => v = .int .i64 ((TG.tP s.W s.B k q : Nat) : Int) ∧ Below wr.heap.size wr wc)
          case first =>
            go_region_held3 (fun w' => ∀ i, w'.cell? ⟨w.heap.size, i, none⟩ = r5 (.int .i64 s.w) (.int .i64 s.h) (.int .i64 s.c) (.int .i64 s.d) (.slice A n c) i)
              (first | (with_reducible exact cR) | (repeat (first | with_reducible exact cR | (with_reducible refine kD5 ?_) | (with_reducible refine kX5 hb3 ?_) | (with_reducible refine kDX5 hb3 ?_))))
              (first | (go_at_call 54; (with_reducible refine (HR.out _).mono ?_); go_must (rintro e w3 ⟨rfl, hb3⟩)))
            all_goals
              go_wp2_with fail
              go_meet
              case rel => exact ⟨by rw [HPQ.out], by first | with_reducible exact hb3 | with_reducible exact bstep (Below.drew (Below.refl _ _)) hb3 (Nat.le_refl _)⟩
          case rest =>
            obtain ⟨rfl, hbr⟩ := hcut
            replace cT := kept cT rfl hbr
            replace cP := kept cP rfl hbr
            replace cR := kept cR rfl hbr
            replace fT := keptF hwi fT hbr
            replace HOW := Lib.hid (HOW.out.later hbr)
            replace hBi := bstep hBi hbr (Nat.le_refl _)
            have hwc : gp + 1 < wc.heap.size := ltOf cT rfl
            clear u1 u2 u3 v1 v2 v3 v4 v5 v6 v7 v8 v9 v10 m0 m1 m2 m3 m4 m5 hd16 d0 d1 hbr hwi HPQ
            have hfit := HFIT.out
            have hN1 := HN1.out
            have hln : s.H * (s.W * s.B) = n := by rw [← HL.out, HNL.out]
            obtain ⟨b, o, hA, -, -⟩ := HH.out.at_ (by omega)
            subst hA
            have HSL : Hid (RdB w B (some ⟨b, o + TG.tP s.W s.B k q, none⟩) (TG.tN s.W s.B k) (TG.cutRow s.W s.B bs k q)) := RdB.cut HH.out (k := TG.tP s.W s.B k q) (m := TG.tN s.W s.B k) (by omega) (fun _ => by rw [Option.map_some, add_none])
            have HSQ : Hid (TG.cutTo s.W s.B bs k (q + 1) = TG.cutTo s.W s.B bs k q ++ TG.cutRow s.W s.B bs k q) := (show _ = _ from rfl)
            have HCL := Lib.hid (TG.cutTo_len HW.out.1 HL.out (i := k) q (Nat.le_of_lt hq8))
            have hcl3 : q * TG.tN s.W s.B k ≤ 8 * 2048 := Nat.mul_le_mul (by omega) nn8
            have hfit2 : TG.tP s.W s.B k q + TG.tN s.W s.B k ≤ n := by omega
            clear hln hq8 hfit
            generalize TG.tP s.W s.B k q = tp at *
            generalize TG.tN s.W s.B k = tn at *
            have w1' : IntKind.i64.wrap ((tp : Int) + (tn : Int)) = (tp : Int) + tn := wrapI _ (by omega) (by omega)
            have w2' : ((tp : Int) + tn).toNat - tp = tn := by omega
            have w3' : tp < c := by omega
            have w4' : ¬ c = tp := by omega
            have w5' : (tp : Int) ≤ (tp : Int) + tn := by omega
            have w6' : (tp : Int) + tn ≤ c := by omega
            have hbw : B ≤ wo.heap.size := by omega
            have hwn : ¬ gp + 1 = w.heap.size := by omega
            go_upto_region 14 with (fail)
            go_region_law (first
              | ((refine step_appendB rfl (.tmp 69) (.tmp 77) rfl (gp + 2) _ _ rfl HOW.out B _ _ _ _ rfl (HSL.out.blw ((HB0.out.mono hB1).trans (hBi.mono hbw))) (by rw [HCL.out]; omega) (by first | exact hwc | (simp; omega)) ?_; intro v6 w6 h6 hg6 hb6 hat6; replace cT := keptBl cT hb6 (Nat.lt_succ_self _); replace cP := keptBl cP hb6 (show gp < gp + 2 by omega); replace cR := keptBl cR hb6 (show w.heap.size < gp + 2 by omega); replace fT := fun i => (hb6.frozen (p := ⟨gp + 1, i, none⟩) (Nat.lt_succ_self _)).trans (fT i); replace hBi := hBi.trans (hb6.mono (show wo.heap.size ≤ gp + 2 by omega)); clear hg6 hb6 hat6; obtain ⟨A6, n6, c6, rfl, -, -, -⟩ := h6.slice; have H6 := Lib.hid h6; clear h6))
              | (go_simp; go_at_call 54; (with_reducible refine (HQ.out _).mono ?_); go_must (rintro e w5 ⟨rfl, hb5⟩; (first | (with_reducible replace cT := kDX5 hb5 cT) | (with_reducible replace cT := kX5 hb5 cT)); (first | (with_reducible replace cR := kDX5 hb5 cR) | (with_reducible replace cR := kX5 hb5 cR)); (first | (with_reducible replace cP := kDX4 hb5 cP) | (with_reducible replace cP := kX4 hb5 cP)); (first | (with_reducible replace fT := keptFD hwc fT hb5) | (with_reducible replace fT := keptF hwc fT hb5)); (first | (with_reducible replace HOW := Lib.hid (laterD HOW.out hb5)) | (with_reducible replace HOW := Lib.hid (HOW.out.later hb5))); (first | (with_reducible replace hBi := bstep hBi.drew hb5 (Nat.le_refl _)) | (with_reducible replace hBi := bstep hBi hb5 (Nat.le_refl _))); replace hwc := ltOf cT rfl; clear hb5)))
            all_goals
              go_wp2_with fail
              go_roundw
              case rel =>
                have h7 := H6.out.far (ownB_ne H6.out (g := gp + 1) (by omega)) 4 (.slice A6 n6 c6)
                rw [← HSQ.out] at h7
                refine ⟨q + 1, A6, n6, c6, by omega, by go_num, ?_, ?_, ?_, ?_, ?_, ?_⟩
                · exact setR cT rfl _ (r5_set4 _ _ _ _ _ _)
                · exact Lib.hid h7
                · exact keptS cP (p := ⟨gp + 1, 4, none⟩) (show gp ≠ gp + 1 by omega) _
                · exact keptS cR (p := ⟨gp + 1, 4, none⟩) (show w.heap.size ≠ gp + 1 by omega) _
                · exact keptFS fT _ _
                · exact hBi.setCell (p := ⟨gp + 1, 4, none⟩) (show wo.heap.size ≤ gp + 1 by omega) _
              case measure => simp [intOf]; omega
        · obtain rfl : q = ph := by omega
          have hB := bstep HB0.out hBi (Nat.le_refl _)
          have HPG := HPE.out
          have hpq : p.h = (q : Int) := HPHI.out
          have HX : Hid (TG.cutTo s.W s.B bs k q = s.cutB bs k) := (show _ = _ by unfold Sh.cutB TG.cut; rw [HPH.out])
          obtain ⟨A9, c9, e9, -, h91, h92⟩ := HOW.out.form
          have HNP : Hid (np = (s.cutB bs k).length) := (show _ = _ by injection e9 with _ e _; rw [e, HX.out])
          have HOW2 := Lib.hid (HX.out ▸ HOW.out)
          clear e9 h91 h92 HPG HOW
          have HPZ : Hid (s.part (k : Int) = ⟨p.w, q, p.c, p.d⟩) := (show _ = _ by rw [HPE.out, ← hpq])
          clear hpq
          go_wp2_with (at_builtin; go_loud (refine wpList_appendR rfl (.tmp 80) (.tmp 82) rfl (w.heap.size + 1) _ l rfl ((HO.out.later hBi).later ((Below.refl _ _).alloc (Nat.le_refl _) _)) _ _ ⟨s.part k, Ap, np, cp, s.cutB bs k⟩ rfl (by rw [HPZ.out]; exact new5 _ _ _ _ _ _ _ _) (by rw [HK.out]; omega) (by simp only [World.size_alloc]; have := hBi.size; omega) ?_))
          intro v8 w8 h8 hg8 hb8 _
          have hB8 := (hB.alloc hB.size _).trans (hb8.mono (Nat.le_succ _))
          have cR8 := keptBl (kA5 cR _) hb8 (Nat.lt_succ_self _)
          have HT8 := Lib.hid (((HTT.out.later hBi).later ((Below.refl _ _).alloc (Nat.le_refl _) _)).grown ((HO.out.later hBi).later ((Below.refl _ _).alloc (Nat.le_refl _) _)) hg8)
          have ho8 := ownB.grownAny (HOW2.out.alloc _) ((HO.out.later hBi).later ((Below.refl _ _).alloc (Nat.le_refl _) _)) hg8
          clear cR cT cP fT hBi hB hg8 hb8
          have H8 := Lib.hid h8
          clear h8
          go_wp2
          go_roundw
          case rel => exact ⟨k + 1, l ++ [_], by omega, by go_num, by rw [List.length_append, HK.out]; rfl, H8.out, Tiles.snoc HT8.out (by rw [HK.out]) (by rw [HK.out]) HNP.out (ho8.mono (by omega)), cR8, hB8⟩
          case measure => simp [intOf]; omega
    · have hge : gw * gh ≤ (k : Int) := by rw [HGG.out]; omega
      obtain rfl : k = N := by omega
      go_wp2
      go_ret2
      exact ⟨_, _, rfl, HO.out.mono (Nat.le_succ _), HK.out, HTT.out, hB⟩

end Go.Proofs.Ytcgpeijmmongoaa
