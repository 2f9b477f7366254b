/- JoinSides in parts: region 13. -/
import Derived.Test.YtmffmijjdpjaiaaJSA
import Derived.Deep.RegionHeld3
namespace Go.Proofs.Ytmffmijjdpjaiaa
set_option linter.all false
open Go.RowKit

set_option maxRecDepth 100000 in
set_option maxHeartbeats 12800000 in
theorem jsf_ : joinSides_A.1 := by
  intro w oc ots ow oh od oe F0 n ac ats ca F1 n0 C3 bc bts F2 EK2' co C4 cb ob oo HF0 hob ab ao HF1 HM3 hab bb bo HF2 HM4 HM1 HM2 hbb HO HA HBB n9 HS1 HS2 HCL HCM M0 M1 M2 mo' ma' mb' Q0 wf we1 we2 we w3 g1 k1 g2 hn1 yac0 yac0n yac1 yac1n yac2 yac2n w4 g3 k3 g4 hn2 ybc0 ybc0n ybc1 ybc1n ybc2 ybc2n ybc7 ybc7n w5 w6 g5 k5 g6 hn3 ydc0 ydc0n ydc1 ydc1n ydc2 ydc2n ydc7 ydc7n ydc10 ydc10n w7 g7 k7 g8 hn4 yec0 yec0n yec1 yec1n yec2 yec2n yec7 yec7n yec10 yec10n yec13 yec13n Ka aa K0 a0 W D0 D1 D2 D7 D10 D13 D16 DB EHU EHM EHU2 EHM2 EHX EHXM EHY EHYM l0 l1 l2 l7 l10 l13 l16 J0 J K' hJ
  have hX := Below.refl W.heap.size W
  go_region_held3 (fun w' => (∀ i, w'.cell? ⟨w.heap.size, i, none⟩ = r5 (.int .i64 ow) (.int .i64 oh) (.int .i64 od) (.int .i64 oe) (.slice (some ⟨ob, oo, none⟩) n oc) i) ∧ (∀ i, w'.cell? ⟨w.heap.size + 1, i, none⟩ = r5 (.int .i64 ow) (.int .i64 oh) (.int .i64 od) (.int .i64 oe) (.slice (some ⟨ab, ao, none⟩) n ac) i) ∧ (∀ i, w'.cell? ⟨w.heap.size + 1 + 1, i, none⟩ = r5 (.int .i64 ow) (.int .i64 oh) (.int .i64 od) (.int .i64 oe) (.slice (some ⟨bb, bo, none⟩) n bc) i) ∧ (∀ i, w'.cell? ⟨w3.heap.size, i, none⟩ = r5 (.int .i64 ow) (.int .i64 oh) (.int .i64 od) (.int .i64 oe) (.slice (some ⟨g1, 0, none⟩) n k1) i) ∧ (∀ i, w'.cell? ⟨w4.heap.size, i, none⟩ = r5 (.int .i64 ow) (.int .i64 oh) (.int .i64 od) (.int .i64 oe) (.slice (some ⟨g3, 0, none⟩) n k3) i) ∧ (∀ i, w'.cell? ⟨w6.heap.size, i, none⟩ = r5 (.int .i64 ow) (.int .i64 oh) (.int .i64 od) (.int .i64 oe) (.slice (some ⟨g5, 0, none⟩) n k5) i) ∧ (∀ i, w'.cell? ⟨w7.heap.size, i, none⟩ = r5 (.int .i64 ow) (.int .i64 oh) (.int .i64 od) (.int .i64 oe) (.slice (some ⟨g7, 0, none⟩) n k7) i))
    (first | (with_reducible exact ⟨D0, D1, D2, D7, D10, D13, D16⟩) | (with_reducible exact ⟨kD5 D0, kD5 D1, kD5 D2, kD5 D7, kD5 D10, kD5 D13, kD5 D16⟩) | (with_reducible exact ⟨kBl5 hX l0 D0, kBl5 hX l1 D1, kBl5 hX l2 D2, kBl5 hX l7 D7, kBl5 hX l10 D10, kBl5 hX l13 D13, kBl5 hX l16 D16⟩))
    (first
      | (go_at_call 11; (with_reducible refine (HCL.out _ _ _ (ownL.drew EHXM.out)).mono ?_); go_must (rintro e wx ⟨rfl, rfl⟩))
      | (go_at_call 11; (with_reducible refine (HCM.out _ _ _ (ownL.drew EHYM.out)).mono ?_); go_must (rintro e wx ⟨rfl, rfl⟩))
      | (go_at_call 12; (with_reducible refine (tree_at _ _ _ _ _ _ _ _).mono ?_); go_must (rintro e wx ⟨rfl, hb1⟩; (first | replace hX := bstep hX hb1 (Nat.le_refl _) | replace hX := bstep (Below.drew hX) hb1 (Nat.le_refl _)); clear hb1))
      | (go_at_call 13; (with_reducible refine (HS1.out _ (bstep DB hX (Nat.le_refl _)) _ _ (EHX.out.later hX)).mono ?_); go_must (rintro e wx ⟨rfl, hb1⟩; (first | replace hX := bstep hX hb1 (Nat.le_refl _) | replace hX := bstep (Below.drew hX) hb1 (Nat.le_refl _)); clear hb1))
      | (go_at_call 13; (with_reducible refine (HS2.out _ (bstep DB hX (Nat.le_refl _)) _ _ (EHY.out.later hX)).mono ?_); go_must (rintro e wx ⟨rfl, hb1⟩; (first | replace hX := bstep hX hb1 (Nat.le_refl _) | replace hX := bstep (Below.drew hX) hb1 (Nat.le_refl _)); clear hb1)))
  all_goals
    go_wp2_with fail
    go_meet
    case rel => exact ⟨rfl, hX⟩

end Go.Proofs.Ytmffmijjdpjaiaa
