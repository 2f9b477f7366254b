/- DiskSubset: what follows the second loop. -/
import Derived.Test.YtommepmeohaijaaSub1
namespace Go.Proofs.Ytommepmeohaijaa
set_option linter.all false
open Go.RowKit Go.Maps

set_option maxRecDepth 100000 in
set_option maxHeartbeats 12800000 in
theorem sub2_ : diskSubset_A.1 := by
  intro N A c l A2 c2 l2 A3 m3 c3 ms w h1 z0 h5 HR3 HLM3 z1 wf w1 d h0 z2 lo HLO z3 u66 u67 u68 u69 u70 u71 u72 u73 u74 u75 u76 u77 u78 u79 u80 u81 u82 u83 u84 z4 z5 h3 hlm hti s z6 w3 h2 sA HLA HAd HAp HAj HAm w4 hW z7 z8 dW HR3w wr u89 u90 u91 u92 u93 u94 u95 u96 u97 u98 u99 u100 u101 u102 u103 u104 u105 u106 u107 i h HD HU HW0 HR1 HR2w HB h4 HR2 hlm2 z9 z10 hi hlt
  have hli : l2.take i = l2 := List.take_of_length_le (by rw [hlm2]; exact Nat.le_refl _)
  have HLI := Lib.hid hli
  rw [hli] at HD
  have HLB := Lib.hid (HLA.out.writes_ l2)
  have HJB := Lib.hid (HAj.out.writes l2)
  have HMB : Hid ((wS sA l2).mask = []) := (show _ = _ from (wS_dur sA l2).2.trans HAm.out)
  have HPB : Hid ((wS sA l2).pend.length ≤ 100) := (show _ ≤ _ by
    have h := pend_len sA l2
    rw [HAp.out] at h
    simp only [List.length_nil] at h
    omega)
  have HCR : Hid (∀ k, ((getS (upS (wS sA l2) ms).now k == getS sA.now k) || okW (getS (upS (wS sA l2) ms).now k) k l2) = true) := (show ∀ k, _ from fun k => crash_row (s := sA) l2 ms HAp.out HAd.out k)
  have HDB : Hid ((wS sA l2).dur = sA.now) := (show _ = _ from (wS_dur sA l2).1.trans HAd.out)
  generalize wS sA l2 = sB at *
  have HD0 := Lib.hid HD.out.setU
  have HWX : Hid (dW < wr.heap.size) := (show _ < _ from HW0.out.arr.lt)
  have HBW := Lib.hid HB.out.size
  have HCPY := Lib.hid (fun (w' : World) (hb : Below wr.heap.size wr w') => copyD_any lo d _ sB w' (HD0.out.later hb) HMB.out (by have := HPB.out; omega))
  have hX := Below.refl wr.heap.size wr
  have tk1 : True := trivial
  have tk2 : True := trivial
  have tk3 : True := trivial
  have tk4 : True := trivial
  clear hli HAd HAp HAj HAm HD HU HMB HR1 HR2w hi hlt hti hlm
  go_upto_region 19 with (first
    | (have _t := tk1; go_at_call 17; (with_reducible refine (HCPY.out _ hX).mono ?_); go_must (rintro e w11 ⟨hn, rfl, hk, hu, hb1⟩; have K11 := Lib.hid hk; have U11 := Lib.hid hu; have T11 := Lib.hid (fun g hg => (hk.Tlt g hg).2); replace hX := bstep hX hb1 (Nat.le_refl _); have Z11 := Lib.hid hb1.size; clear hk hu hb1 tk1))
    | (have _t := tk2; go_at_call 17; (with_reducible refine (HCPY.out _ hX).mono ?_); go_must (rintro e w12 ⟨hs, rfl, hk, hu, hb1⟩; have K12 := Lib.hid hk; have U12 := Lib.hid hu; have T12 := Lib.hid (fun g hg => (hk.Tlt g hg).2); replace K11 := Lib.hid (K11.out.later hb1); replace hX := bstep hX hb1 (Nat.le_refl _); have Z12 := Lib.hid hb1.size; clear hk hu hb1 tk2))
    | (have _t := tk3; go_at_call 17; (with_reducible refine (HCPY.out _ hX).mono ?_); go_must (rintro e w13 ⟨ha, rfl, hk, hu, hb1⟩; have K13 := Lib.hid hk; have U13 := Lib.hid hu; have T13 := Lib.hid (fun g hg => (hk.Tlt g hg).2); replace K11 := Lib.hid (K11.out.later hb1); replace K12 := Lib.hid (K12.out.later hb1); replace hX := bstep hX hb1 (Nat.le_refl _); have Z13 := Lib.hid hb1.size; clear hk hu hb1 tk3))
    | (have _t := tk4; go_at_call 17; (with_reducible refine (HCPY.out _ hX).mono ?_); go_must (rintro e w14 ⟨hz, rfl, hk, hu, hb1⟩; have K14 := Lib.hid hk; have U14 := Lib.hid hu; have T14 := Lib.hid (fun g hg => (hk.Tlt g hg).2); replace K11 := Lib.hid (K11.out.later hb1); replace K12 := Lib.hid (K12.out.later hb1); replace K13 := Lib.hid (K13.out.later hb1); replace hX := bstep hX hb1 (Nat.le_refl _); have Z14 := Lib.hid hb1.size; clear hk hu hb1 tk4)))
  clear HCPY
  obtain ⟨X, hXX⟩ : ∃ X, X = wr.heap.size := ⟨_, rfl⟩
  obtain ⟨ds, hds⟩ : ∃ ds, ds = w11.heap.size := ⟨_, rfl⟩
  obtain ⟨da, hda⟩ : ∃ da, da = w12.heap.size := ⟨_, rfl⟩
  obtain ⟨dz, hdz⟩ : ∃ dz, dz = w13.heap.size := ⟨_, rfl⟩
  have HF : Five w14 X dW X ds da dz hW hn hs ha hz sA sB sB sB sB := by
    have z1 := HWX.out
    have z2 := Z11.out
    have z3 := Z12.out
    have z4 := Z13.out
    have z5 := Z14.out
    have q1 := (HW0.out.later hX)
    have q2 := K11.out
    have q3 := K12.out
    have q4 := K13.out
    have q5 := K14.out
    rw [← hXX] at q2
    rw [← hds] at q3
    rw [← hda] at q4
    rw [← hdz] at q5
    have e1 : ∀ g, hW.T dW g → g < X := fun g hg => by rw [hXX]; exact (HW0.out.Tlt g hg).2
    have e2 : ∀ g, hn.T X g → X ≤ g ∧ g < ds := fun g hg => ⟨(q2.Tlt g hg).1, by rw [hds]; exact T11.out g (by rw [← hXX]; exact hg)⟩
    have e3 : ∀ g, hs.T ds g → ds ≤ g ∧ g < da := fun g hg => ⟨(q3.Tlt g hg).1, by rw [hda]; exact T12.out g (by rw [← hds]; exact hg)⟩
    have e4 : ∀ g, ha.T da g → da ≤ g ∧ g < dz := fun g hg => ⟨(q4.Tlt g hg).1, by rw [hdz]; exact T13.out g (by rw [← hda]; exact hg)⟩
    have e5 : ∀ g, hz.T dz g → dz ≤ g := fun g hg => (q5.Tlt g hg).1
    have o1 : X ≤ ds := by omega
    have o2 : ds ≤ da := by omega
    have o3 : da ≤ dz := by omega
    have o4 : X ≤ w14.heap.size := by omega
    have cU : ∀ (q : Hn) (dd v : Nat), (∀ g, q.U g ↔ Hn.S { h with U := fun g => wr.heap.size ≤ g } d g ∨ v ≤ g) → ∀ g, X ≤ g → q.U g := fun q dd v hq g hg => (hq g).2 (.inl (.inr (by rw [← hXX]; exact hg)))
    exact ⟨q1, q2, q3, q4, q5, fun g hg => HR3w.out g (by omega), cU hn 0 _ U11.out, cU hs 0 _ U12.out, cU ha 0 _ U13.out, cU hz 0 _ U14.out,
      fun g hg => by have := e3 g hg; omega, fun g hg => by have := e4 g hg; omega, fun g hg => by have := e5 g hg; omega,
      (fun g hg h => by have := e1 g hg; have := e3 g h; omega), (fun g hg h => by have := e2 g hg; have := e3 g h; omega), (fun g hg h => by have := e4 g hg; have := e3 g h; omega), (fun g hg h => by have := e5 g hg; have := e3 g h; omega), (fun g hg h => by have := e1 g hg; have := e4 g h; omega), (fun g hg h => by have := e2 g hg; have := e4 g h; omega), (fun g hg h => by have := e3 g hg; have := e4 g h; omega), (fun g hg h => by have := e5 g hg; have := e4 g h; omega), (fun g hg h => by have := e1 g hg; have := e5 g h; omega), (fun g hg h => by have := e2 g hg; have := e5 g h; omega), (fun g hg h => by have := e3 g hg; have := e5 g h; omega), (fun g hg h => by have := e4 g hg; have := e5 g h; omega), o4⟩
  rw [← hXX, ← hds, ← hda, ← hdz]
  replace HF := Lib.hid HF
  have HXS : Hid (w.heap.size ≤ X) := (show _ ≤ _ by rw [hXX]; exact HBW.out)
  have HB8 := Lib.hid (bstep HB.out hX (Nat.le_refl _))
  clear hXX hds hda hdz hX K11 K12 K13 K14 U11 U12 U13 U14 T11 T12 T13 T14 Z11 Z12 Z13 Z14 HW0 HD0 HB HWX HBW HR3w
  go_wp2_with (at_make; refine wpList_makeB rfl _ _ rfl 20 _ rfl rfl rfl (by omega) ?_; intro w15 hown hb15 hsz15)
  obtain ⟨gf, hgf⟩ : ∃ gf, gf = w14.heap.size := ⟨_, rfl⟩
  rw [← hgf] at hown
  rw [← hgf]
  have HGF := Lib.hid hgf
  clear hgf
  go_loopw [19] (fun vi wr => ∃ k : Nat, k ≤ 20 ∧ vi = .int .i64 k ∧ Hid (ownB wr gf (.slice (some ⟨gf, 0, none⟩) 20 20) (List.replicate k 255 ++ List.replicate (20 - k) 0)) ∧ Hid (Below gf w14 wr)) (fun vi _ => 20 - (intOf vi).toNat)
  case atStart => exact ⟨0, Nat.zero_le _, rfl, hown, (by rw [HGF.out]; exact hb15)⟩
  case round =>
    clear hown hb15 hsz15
    obtain ⟨k, hk, rfl, HO, HBF⟩ := hrel
    by_cases hlt : k < 20
    · have hfr := HO.out.frozen (by simp; omega) k
      obtain ⟨v0, hc0⟩ := HO.out.cell' (by simp; omega) (k := k) (by simp; omega)
      have HO2 := Lib.hid (HO.out.store (by simp; omega) k 255)
      have HB2 := Lib.hid (HBF.out.setCell (p := ⟨gf, k, none⟩) (Nat.le_refl _) (.int .u8 255))
      have HST : Hid ((List.replicate k (255 : UInt8) ++ List.replicate (20 - k) 0).set k 255 = List.replicate (k + 1) 255 ++ List.replicate (20 - (k + 1)) 0) := (show _ = _ by
        rw [List.set_append_right _ _ (by simp)]
        rw [show 20 - k = (20 - (k + 1)) + 1 by omega, List.replicate_succ, List.length_replicate, Nat.sub_self, List.set_cons_zero, List.replicate_succ' , List.append_assoc]
        rfl)
      clear HO HBF
      go_wp2_with fail
      go_roundw
      case rel => exact ⟨k + 1, by omega, by go_num, (by rw [← HST.out]; exact HO2.out), HB2.out⟩
      case measure => simp [intOf]; omega
    · obtain rfl : k = 20 := by omega
      have HBL : Hid (Below w14.heap.size w14 wr) := (show Below _ _ _ by rw [← HGF.out]; exact HBF.out)
      have HFU : Hid (RowAt wr (fun g => hs.T ds g ∨ ha.T da g) (some ⟨gf, 0, none⟩) 20 fullM) := (show RowAt _ _ _ _ _ from RowAt.own2 HO.out (fun g hg e => by
        rw [HGF.out] at hg
        rcases e with e | e
        · have := (HF.out.k3.Tlt g e).2; omega
        · have := (HF.out.k4.Tlt g e).2; omega))
      replace HF := Lib.hid (HF.out.later HBL.out)
      have HB := Lib.hid (bstep HB8.out HBL.out (Nat.le_refl _))
      clear HO HBF HBL HGF HB8
      have HRM : Hid (RowAt wr (hs.T ds) A3 m3 ms) := (show RowAt _ _ _ _ _ from RowAt.arg (HR3.out.blw HB.out) (fun g hg => by have := HF.out.B3 g hg; have := HXS.out; omega) HB.out.size)
      have HC := Lib.hid (crashD_any ds ds hs sB m3 c3 A3 ms wr HF.out.k3 HF.out.k3.size_ HRM.out (by omega) (by have := HPB.out; omega))
      go_upto_region 25 with (go_at_call 18; (with_reducible refine HC.out.mono ?_); go_must (rintro e w16 ⟨⟨v, rfl⟩, hs2, hk, F, T, U⟩; replace HFU := Lib.hid ((HFU.out.fr (F.mono (fun g => .inl)) (fun g hg => .inl (.inr hg))) : RowAt _ (ha.T da) _ _ _); replace HB := Lib.hid (HB.out.trans ((F.bel HF.out.k3).mono (by have := HXS.out; have := HF.out.B3 ds (.inl rfl); omega))); replace HF := Lib.hid (HF.out.op3 F T hk U); clear hk F T U))
      clear HC
      clear HRM
      have HC := Lib.hid (crashD_any da da ha sB 20 20 _ fullM w16 HF.out.k4 HF.out.k4.size_ HFU.out (by omega) (by have := HPB.out; omega))
      go_upto_region 26 with (go_at_call 18; (with_reducible refine HC.out.mono ?_); go_must (rintro e w17 ⟨⟨v, rfl⟩, ha2, hk, F, T, U⟩; replace HB := Lib.hid (HB.out.trans ((F.bel HF.out.k4).mono (by have := HXS.out; have := HF.out.B4 da (.inl rfl); omega))); replace HF := Lib.hid (HF.out.op4 F T hk U); clear hk F T U))
      clear HC
      clear HFU
      have HC := Lib.hid (crashD_any dz dz hz sB 0 0 none [] w17 HF.out.k5 HF.out.k5.size_ (RowAt.nil _ _) (by omega) (by have := HPB.out; omega))
      go_upto_region 27 with (go_at_call 18; (with_reducible refine HC.out.mono ?_); go_must (rintro e w18 ⟨⟨v, rfl⟩, hz2, hk, F, T, U⟩; replace HB := Lib.hid (HB.out.trans ((F.bel HF.out.k5).mono (by have := HXS.out; have := HF.out.B5 dz (.inl rfl); omega))); replace HF := Lib.hid (HF.out.op5 F T hk U); clear hk F T U))
      clear HC
      have HC := Lib.hid (rebootD_any ds ds hs2 (crashS sB ms) w18 HF.out.k3)
      go_upto_region 28 with (go_at_call 19; (with_reducible refine HC.out.mono ?_); go_must (rintro e w19 ⟨⟨v, rfl⟩, hk, F⟩; replace hk := (show DkOk _ _ _ _ (upS sB ms) by rw [← up_eq ms HLB.out.down]; exact hk); replace HB := Lib.hid (HB.out.trans ((F.bel HF.out.k3).mono (by have := HXS.out; have := HF.out.B3 ds (.inl rfl); omega))); replace HF := Lib.hid (HF.out.op3 F (TT.refl _ _) hk rfl); clear hk F))
      clear HC
      have HC := Lib.hid (rebootD_any da da ha2 (crashS sB fullM) w19 HF.out.k4)
      go_upto_region 29 with (go_at_call 19; (with_reducible refine HC.out.mono ?_); go_must (rintro e w20 ⟨⟨v, rfl⟩, hk, F⟩; replace hk := (show DkOk _ _ _ _ (upS sB fullM) by rw [← up_eq fullM HLB.out.down]; exact hk); replace HB := Lib.hid (HB.out.trans ((F.bel HF.out.k4).mono (by have := HXS.out; have := HF.out.B4 da (.inl rfl); omega))); replace HF := Lib.hid (HF.out.op4 F (TT.refl _ _) hk rfl); clear hk F))
      clear HC
      have HC := Lib.hid (rebootD_any dz dz hz2 (crashS sB []) w20 HF.out.k5)
      go_upto_region 30 with (go_at_call 19; (with_reducible refine HC.out.mono ?_); go_must (rintro e w21 ⟨⟨v, rfl⟩, hk, F⟩; replace hk := (show DkOk _ _ _ _ (upS sB []) by rw [← up_eq [] HLB.out.down]; exact hk); replace HB := Lib.hid (HB.out.trans ((F.bel HF.out.k5).mono (by have := HXS.out; have := HF.out.B5 dz (.inl rfl); omega))); replace HF := Lib.hid (HF.out.op5 F (TT.refl _ _) hk rfl); clear hk F))
      clear HC
      go_wp2_with fail
      go_loopw [20] (fun vk wo => ∃ k : Nat, vk = .int .i64 k ∧ k ≤ N ∧ Hid (Five wo X dW X ds da dz hW hn hs2 ha2 hz2 sA sB (upS sB ms) (upS sB fullM) (upS sB [])) ∧ Hid (Below w.heap.size w wo)) (fun vk _ => N - (intOf vk).toNat)
      case atStart => exact ⟨0, rfl, Nat.zero_le _, HF, HB⟩
      case round =>
        clear HF HB
        obtain ⟨k, rfl, hkN, HF, HB⟩ := hrel
        obtain ⟨wo, rfl⟩ : ∃ wo : World, wo = wr := ⟨_, rfl⟩
        by_cases hlt : k < N
        · have HE1 : Hid (wrongD sA (k : Int) = 0) := (show _ = _ by rw [wrongD_up HLA.out.down, HLA.out.n, if_neg (by omega)])
          have HE2 : Hid (wrongD sB (k : Int) = 0) := (show _ = _ by rw [wrongD_up HLB.out.down, HLB.out.n, if_neg (by omega)])
          have HE3 : Hid (∀ m : Bs, wrongD (upS sB m) (k : Int) = 0) := (show ∀ m : Bs, _ from fun m => by
            have h1 : (upS sB m).n = N := HLB.out.n
            rw [wrongD_up (show (upS sB m).down = false from rfl), h1, if_neg (by omega)])
          have HCK := Lib.hid (HCR.out k)
          have HRD := Lib.hid (readD_ok dW dW hW sA k wo HF.out.k1 HE1.out)
          go_upto_region 34 with (go_at_call 15; (with_reducible refine HRD.out.mono ?_); go_must (rintro e w22 ⟨Ap, cp, rfl, ho, hb1⟩; have RP := Lib.hid ho.rd; replace HF := Lib.hid (HF.out.later hb1); replace HB := Lib.hid (bstep HB.out hb1 (Nat.le_refl _)); clear ho hb1))
          clear HRD
          have HRD := Lib.hid (readD_ok X X hn sB k w22 HF.out.k2 HE2.out)
          go_upto_region 35 with (go_at_call 15; (with_reducible refine HRD.out.mono ?_); go_must (rintro e w23 ⟨Aq, cq, rfl, ho, hb1⟩; have RQ := Lib.hid ho.rd; replace RP := Lib.hid (RP.out.later hb1); replace HF := Lib.hid (HF.out.later hb1); replace HB := Lib.hid (bstep HB.out hb1 (Nat.le_refl _)); clear ho hb1))
          clear HRD
          have HRD := Lib.hid (readD_ok ds ds hs2 (upS sB ms) k w23 HF.out.k3 (HE3.out _))
          go_upto_region 36 with (go_at_call 15; (with_reducible refine HRD.out.mono ?_); go_must (rintro e w24 ⟨Ar, cr, rfl, ho, hb1⟩; have RR := Lib.hid ho.rd; replace RP := Lib.hid (RP.out.later hb1); replace RQ := Lib.hid (RQ.out.later hb1); replace HF := Lib.hid (HF.out.later hb1); replace HB := Lib.hid (bstep HB.out hb1 (Nat.le_refl _)); clear ho hb1))
          clear HRD
          have HRD := Lib.hid (readD_ok da da ha2 (upS sB fullM) k w24 HF.out.k4 (HE3.out _))
          rw [up_full HJB.out HPB.out] at HRD
          go_upto_region 37 with (go_at_call 15; (with_reducible refine HRD.out.mono ?_); go_must (rintro e w25 ⟨As, cs, rfl, ho, hb1⟩; have RS := Lib.hid ho.rd; replace RP := Lib.hid (RP.out.later hb1); replace RQ := Lib.hid (RQ.out.later hb1); replace RR := Lib.hid (RR.out.later hb1); replace HF := Lib.hid (HF.out.later hb1); replace HB := Lib.hid (bstep HB.out hb1 (Nat.le_refl _)); clear ho hb1))
          clear HRD
          have HRD := Lib.hid (readD_ok dz dz hz2 (upS sB []) k w25 HF.out.k5 (HE3.out _))
          rw [up_none, HDB.out] at HRD
          go_upto_region 38 with (go_at_call 15; (with_reducible refine HRD.out.mono ?_); go_must (rintro e w26 ⟨At, ct, rfl, ho, hb1⟩; have RT := Lib.hid ho.rd; replace RP := Lib.hid (RP.out.later hb1); replace RQ := Lib.hid (RQ.out.later hb1); replace RR := Lib.hid (RR.out.later hb1); replace RS := Lib.hid (RS.out.later hb1); replace HF := Lib.hid (HF.out.later hb1); replace HB := Lib.hid (bstep HB.out hb1 (Nat.le_refl _)); clear ho hb1))
          clear HRD
          clear HE1 HE2 HE3
          generalize getS sA.now k = p at *
          generalize getS sB.now k = q at *
          generalize getS (upS sB ms).now k = r at *
          have HBS := Lib.hid (bytes_any _ 256 cs _ 256 cq As Aq q q w26 RS.out RQ.out)
          have HBT := Lib.hid (bytes_any _ 256 ct _ 256 cp At Ap p p w26 RT.out RP.out)
          have HBR := Lib.hid (bytes_any _ 256 cr _ 256 cp Ar Ap r p w26 RR.out RP.out)
          rw [beq_self_eq_true] at HBS HBT
          generalize (r == p) = b0 at *
          clear RS RQ RT RP
          go_wp2_with (first
            | (go_at_call 16; (with_reducible refine HBS.out.mono ?_); go_must (rintro e wb ⟨rfl, rfl⟩))
            | (go_at_call 16; (with_reducible refine HBT.out.mono ?_); go_must (rintro e wb ⟨rfl, rfl⟩))
            | (go_at_call 16; (with_reducible refine HBR.out.mono ?_); go_must (rintro e wb ⟨rfl, rfl⟩)))
          clear HBS HBT HBR
          go_loopw [32, 31] (fun vi vo wr => ∃ j : Nat, vi = .int .i64 j ∧ j ≤ i ∧ vo = .bool (b0 || okW r k (l2.take j)) ∧ Hid (Below w26.heap.size w26 wr)) (fun vi _ _ => i - (intOf vi).toNat)
          case atStart => exact ⟨0, rfl, Nat.zero_le _, (by rw [List.take_zero]; show _ = Value.bool (b0 || false); rw [Bool.or_false]), Below.refl _ _⟩
          case round =>
            obtain ⟨j, rfl, hj, rfl, HBI⟩ := hrel
            obtain ⟨wi, rfl⟩ : ∃ wi : World, wi = wr := ⟨_, rfl⟩
            by_cases hji : j < i
            · obtain ⟨b, o, x, rfl, hbX, HX, e1, e2⟩ := ((HR2.out.blw HB.out).blw (HBI.out.mono HB.out.size)).one hji
              have hbX2 : b < wi.heap.size := by have := HB.out.size; have := HBI.out.size; omega
              have HOK := Lib.hid (okW_snoc r k HX.out)
              have HFI := Lib.hid (fun w' => filled_any x.2 w')
              have HRI := Lib.hid (RR.out.later HBI.out)
              generalize hok : (b0 || okW r k (l2.take j)) = ok at *
              have HOL := Lib.hid hok
              clear hok HX
              cases ok with
              | true =>
                go_wp2_with fail
                go_roundw
                case rel => exact ⟨j + 1, by go_num, by omega, (by rw [HOK.out, ← Bool.or_assoc, HOL.out]; rfl), HBI.out⟩
                case measure => simp [intOf]; omega
              | false =>
                by_cases hx : x.1 = (k : Int)
                · have v1 : (x.1 == (k : Int)) = true := by rw [hx]; exact beq_self_eq_true _
                  have HV := Lib.hid v1
                  rw [hx] at e1
                  clear hx
                  go_wp2_with (first
                    | (go_at_call 11; (with_reducible refine (HFI.out _).mono ?_); go_must (rintro e w27 ⟨g5, rfl, ho, hb1⟩; have HBJ := Lib.hid (bstep HBI.out hb1 (Nat.le_refl _)); have HRJ := Lib.hid (HRI.out.later hb1); have HBY := Lib.hid (bytes_any _ 256 cr _ 256 256 Ar (some ⟨g5, 0, none⟩) r (fillB x.2) w27 HRJ.out ho.rd); have e25 := (hb1.cell (p := ⟨b, _, none⟩) hbX2).trans e2; clear ho hb1))
                    | (go_at_call 16; (with_reducible refine HBY.out.mono ?_); go_must (rintro e wb ⟨rfl, rfl⟩)))
                  go_roundw
                  case rel => exact ⟨j + 1, by go_num, by omega, (by rw [HOK.out, ← Bool.or_assoc, HOL.out, HV.out]; simp), HBJ.out⟩
                  case measure => simp [intOf]; omega
                · have v1 : (x.1 == (k : Int)) = false := beq_eq_false_iff_ne.2 hx
                  have HV := Lib.hid v1
                  go_wp2_with fail
                  go_roundw
                  case rel => exact ⟨j + 1, by go_num, by omega, (by rw [HOK.out, ← Bool.or_assoc, HOL.out, HV.out]; rfl), HBI.out⟩
                  case measure => simp [intOf]; omega
            · obtain rfl : j = i := by omega
              rw [HLI.out, HCK.out]
              go_wp2_with fail
              go_roundw
              case rel => exact ⟨k + 1, by go_num, by omega, HF.out.later HBI.out, bstep HB.out HBI.out (Nat.le_refl _)⟩
              case measure => simp [intOf]; omega
        · obtain rfl : k = N := by omega
          have HPD := Lib.hid (fun (w' : World) (hb : Below wo.heap.size wo w') => pendingD_any ds ds hs2 (upS sB ms) w' (HF.out.k3.later hb))
          have hY := Below.refl wo.heap.size wo
          go_wp2_with (first
            | (go_at_call 8; (with_reducible refine (first14_any _).mono ?_); go_must (rintro e wf2 ⟨rfl, hb1⟩; replace hY := bstep hY hb1 (Nat.le_refl _); replace HB := Lib.hid (bstep HB.out hb1 (Nat.le_refl _)); clear hb1))
            | (go_at_call 12; (with_reducible refine (HPD.out _ hY).mono ?_); go_must (rintro e wp ⟨rfl, rfl⟩)))
          go_ret
          exact ⟨rfl, HB.out⟩
end Go.Proofs.Ytommepmeohaijaa
