/- aqulaw14: first. -/
import Derived.Test.YtommepmeohaijaaDisk11
namespace Go.Proofs.Ytommepmeohaijaa
set_option linter.all false
open Go.RowKit Go.Maps

theorem RowAt.own {w : World} {base g n c : Nat} {bs : Bs} {T : Nat → Prop} (h : ownB w base (.slice (some ⟨g, 0, none⟩) n c) bs) (hn : n = bs.length) (hT : ∀ z, base ≤ z → ¬ T z) : RowAt w T (some ⟨g, 0, none⟩) n bs := by
  have hlt := World.ownsRow.lt h g rfl
  refine ⟨hn.symm, fun _ => ⟨g, 0, rfl, hT g hlt.1, hlt.2⟩, h.rd⟩
theorem RowAt.later {w w' : World} {T : Nat → Prop} {A : Option Addr} {n : Nat} {bs : Bs} (h : RowAt w T A n bs) (k : Below w.heap.size w w') : RowAt w' T A n bs := h.fr (Fr.of _ k) (TT.refl _ _)
theorem DkOk.size_ {w : World} {lo d : Nat} {h : Hn} {s : Dk} (k : DkOk w lo d h s) : lo ≤ w.heap.size := Nat.le_trans k.lo1 (Nat.le_of_lt k.arr.lt)
theorem Fr.bel {w w' : World} {lo d : Nat} {h : Hn} {s : Dk} (F : Fr (h.T d) w w') (k : DkOk w lo d h s) : Below lo w w' := F.below (fun g hg => (k.Tlt g hg).1) k.size_
/-- The block of one byte that a literal lays. -/
theorem RowAt.lit (w : World) (b : UInt8) (t : TypeId) (fr : Nat × Nat) (T : Nat → Prop) (hT : ∀ z, T z → z < w.heap.size) : RowAt (w.alloc (.cells #[.int .u8 (b.toNat : Int)] t fr)) T (some ⟨w.heap.size, 0, none⟩) 1 [b] := by
  refine ⟨rfl, fun _ => ⟨_, _, rfl, fun e => by have := hT _ e; omega, by simp⟩, ?_⟩
  have := rd_lit w t fr [b]
  exact Rd.more this (by simp)

def fs1 (x : Bs) : Dk := { newD 4 with writes := 1, pend := [(0, x)], now := updR (fun _ => none) 0 x }
def fs2 (x : Bs) : Dk := { fs1 x with dur := updR (fun _ => none) 0 x, pend := [] }
def fs3 (x y : Bs) : Dk := { fs2 x with writes := 2, pend := [(0, y)], now := updR (updR (fun _ => none) 0 x) 0 y }
def fs4 (x y z : Bs) : Dk := { fs3 x y with writes := 3, pend := [(0, y), (1, z)], now := updR (updR (updR (fun _ => none) 0 x) 0 y) 1 z }
def fs5 (x y z : Bs) : Dk := { fs4 x y z with now := updR (updR (fun _ => none) 0 x) 1 z, dur := updR (updR (fun _ => none) 0 x) 1 z, pend := [], down := true }
def fs6 (x y z : Bs) : Dk := { fs5 x y z with down := false }
theorem fs1_eq (x : Bs) : writeS (newD 4) 0 x = fs1 x := rfl
theorem fs2_eq (x : Bs) : flushS (fs1 x) = fs2 x := rfl
theorem fs3_eq (x y : Bs) : writeS (fs2 x) 0 y = fs3 x y := rfl
theorem fs4_eq (x y z : Bs) : writeS (fs3 x y) 1 z = fs4 x y z := rfl
theorem fs5_eq (x y z : Bs) : crashS (fs4 x y z) [2] = fs5 x y z := by
  have h0 : bitB [2] 0 = false := by decide
  have h1 : bitB [2] 1 = true := by decide
  have e : layM [2] (fs4 x y z).dur (fs4 x y z).pend 2 = updR (updR (fun _ => none) 0 x) 1 z := by
    rw [layM_step (m := [2]) (p := (fs4 x y z).pend) (k := 1) (kk := 1) (bs := z) rfl, h1, if_pos rfl, layM_step (m := [2]) (p := (fs4 x y z).pend) (k := 0) (kk := 0) (bs := y) rfl, h0, if_neg (by decide)]
    rfl
  show ({ fs4 x y z with now := layM [2] (fs4 x y z).dur (fs4 x y z).pend 2, dur := layM [2] (fs4 x y z).dur (fs4 x y z).pend 2, pend := [], down := true } : Dk) = _
  rw [e]
  rfl
theorem fs6_r0 (x y z : Bs) : readV (fs6 x y z) 0 = x := rfl
theorem fs6_r1 (x y z : Bs) : readV (fs6 x y z) 1 = z := rfl

set_option maxRecDepth 100000 in
set_option maxHeartbeats 6400000 in
theorem first14_any (w : World) : Calls Try.prog 8 #[] w fun e w' => e = .returned (.bool true) ∧ Below w.heap.size w w' := by
  have HN := Lib.hid (show Calls Try.prog 9 #[.int .i64 4] w _ from newD_any 4 w (by decide) (by decide))
  have HF1 := Lib.hid (fun w' => (show Calls Try.prog 11 #[.int .u8 1] w' _ from filled_any 1 w'))
  have HF2 := Lib.hid (fun w' => (show Calls Try.prog 11 #[.int .u8 2] w' _ from filled_any 2 w'))
  have HF3 := Lib.hid (fun w' => (show Calls Try.prog 11 #[.int .u8 3] w' _ from filled_any 3 w'))
  have hlx : (fillB 1).length = 256 := List.length_replicate
  have hly : (fillB 2).length = 256 := List.length_replicate
  have hlz : (fillB 3).length = 256 := List.length_replicate
  generalize fillB 1 = x at *
  generalize fillB 2 = y at *
  generalize fillB 3 = z at *
  go_enter Try.func8, Try.ntmps8
  go_upto_region 4 with (go_at_call 9; (with_reducible refine HN.out.mono ?_); go_must (rintro e w1 ⟨d, h0, rfl, hd, hu, hb⟩; have HU := Lib.hid hu; have HD := Lib.hid hd; have HB := Lib.hid hb; clear hd hb hu))
  clear HN
  go_upto_region 5 with (first
    | (go_at_call 11; (with_reducible refine (HF1.out _).mono ?_); go_must (rintro e w2 ⟨gx, rfl, ho, hb⟩; have HX := Lib.hid (RowAt.own ho hlx.symm HD.out.fresh); replace HD := Lib.hid (HD.out.later hb); replace HB := Lib.hid (bstep HB.out hb (Nat.le_refl _)); clear ho hb))
    | (go_at_call 11; (with_reducible refine (HF2.out _).mono ?_); go_must (rintro e w3 ⟨gy, rfl, ho, hb⟩; have HY := Lib.hid (RowAt.own ho hly.symm HD.out.fresh); replace HX := Lib.hid (HX.out.later hb); replace HD := Lib.hid (HD.out.later hb); replace HB := Lib.hid (bstep HB.out hb (Nat.le_refl _)); clear ho hb))
    | (go_at_call 11; (with_reducible refine (HF3.out _).mono ?_); go_must (rintro e w4 ⟨gz, rfl, ho, hb⟩; have HZ := Lib.hid (RowAt.own ho hlz.symm HD.out.fresh); replace HX := Lib.hid (HX.out.later hb); replace HY := Lib.hid (HY.out.later hb); replace HD := Lib.hid (HD.out.later hb); replace HB := Lib.hid (bstep HB.out hb (Nat.le_refl _)); clear ho hb)))
  clear HF1 HF2 HF3
  have HW := Lib.hid (writeD_any w.heap.size d h0 (newD 4) 0 256 _ x w4 HD.out HB.out.size HX.out rfl (by decide) (by decide) HU.out)
  rw [fs1_eq] at HW
  go_upto_region 6 with (go_at_call 10; (with_reducible refine HW.out.mono ?_); go_must (rintro e w5 ⟨rfl, h1, hd, F, T, U⟩; replace HU := Lib.hid (show ∀ g, ¬ h1.U g by rw [U]; exact HU.out); replace HB := Lib.hid (HB.out.trans (F.bel HD.out)); replace HX := Lib.hid (HX.out.fr F T); replace HY := Lib.hid (HY.out.fr F T); replace HZ := Lib.hid (HZ.out.fr F T); replace HD := Lib.hid hd; clear hd F T U))
  clear HW
  have HL := Lib.hid (flushD_any w.heap.size d h1 (fs1 x) w5 HD.out (show 1 ≤ 1000000 by decide))
  rw [fs2_eq] at HL
  go_upto_region 7 with (go_at_call 14; (with_reducible refine HL.out.mono ?_); go_must (rintro e w6 ⟨rfl, h2, hd, F, T, U⟩; replace HU := Lib.hid (show ∀ g, ¬ h2.U g by rw [U]; exact HU.out); replace HB := Lib.hid (HB.out.trans (F.bel HD.out)); replace HX := Lib.hid (HX.out.fr F T); replace HY := Lib.hid (HY.out.fr F T); replace HZ := Lib.hid (HZ.out.fr F T); replace HD := Lib.hid hd; clear hd F T U))
  clear HL
  have HW := Lib.hid (writeD_any w.heap.size d h2 (fs2 x) 0 256 _ y w6 HD.out HB.out.size HY.out rfl (show 1 ≤ 1000000000 by decide) (show 0 ≤ 1000000 by decide) HU.out)
  rw [fs3_eq] at HW
  go_upto_region 8 with (go_at_call 10; (with_reducible refine HW.out.mono ?_); go_must (rintro e w7 ⟨rfl, h3, hd, F, T, U⟩; replace HU := Lib.hid (show ∀ g, ¬ h3.U g by rw [U]; exact HU.out); replace HB := Lib.hid (HB.out.trans (F.bel HD.out)); replace HX := Lib.hid (HX.out.fr F T); replace HY := Lib.hid (HY.out.fr F T); replace HZ := Lib.hid (HZ.out.fr F T); replace HD := Lib.hid hd; clear hd F T U))
  clear HW
  have HW := Lib.hid (writeD_any w.heap.size d h3 (fs3 x y) 1 256 _ z w7 HD.out HB.out.size HZ.out rfl (show 2 ≤ 1000000000 by decide) (show 1 ≤ 1000000 by decide) HU.out)
  rw [fs4_eq] at HW
  go_upto_region 9 with (go_at_call 10; (with_reducible refine HW.out.mono ?_); go_must (rintro e w8 ⟨rfl, h4, hd, F, T, U⟩; replace HU := Lib.hid (show ∀ g, ¬ h4.U g by rw [U]; exact HU.out); replace HB := Lib.hid (HB.out.trans (F.bel HD.out)); replace HX := Lib.hid (HX.out.fr F T); replace HY := Lib.hid (HY.out.fr F T); replace HZ := Lib.hid (HZ.out.fr F T); replace HD := Lib.hid hd; clear hd F T U))
  clear HW
  have HA := Lib.hid ((Below.refl w8.heap.size w8).alloc (Nat.le_refl _) (.cells #[.int .u8 2] 5))
  have HMK : Hid (RowAt (w8.alloc (.cells #[.int .u8 2] 5)) (h4.T d) (some ⟨w8.heap.size, 0, none⟩) 1 [2]) := (show RowAt _ _ _ _ _ from RowAt.lit w8 2 5 (0, 0) (h4.T d) (fun q hq => (HD.out.Tlt q hq).2))
  have HC := Lib.hid (crashD_any w.heap.size d h4 (fs4 x y z) 1 1 _ [2] _ (HD.out.later HA.out) (Nat.le_trans HB.out.size HA.out.size) HMK.out (by decide) (show 2 ≤ 1000000 by decide))
  rw [fs5_eq] at HC
  replace HX := Lib.hid (HX.out.later HA.out)
  replace HZ := Lib.hid (HZ.out.later HA.out)
  replace HB := Lib.hid (bstep HB.out HA.out (Nat.le_refl _))
  have HDA := Lib.hid (HD.out.later HA.out)
  clear HY HMK HA HD
  go_upto_region 10 with (go_at_call 18; (with_reducible refine HC.out.mono ?_); go_must (rintro e w9 ⟨⟨v9, rfl⟩, h5, hd, F, T, U⟩; replace HB := Lib.hid (HB.out.trans (F.bel HDA.out)); replace HX := Lib.hid (HX.out.fr F T); replace HZ := Lib.hid (HZ.out.fr F T); have HD := Lib.hid hd; clear hd F T U))
  clear HC HDA
  have HR := Lib.hid (rebootD_any w.heap.size d h5 (fs5 x y z) w9 HD.out)
  go_upto_region 11 with (go_at_call 19; (with_reducible refine HR.out.mono ?_); go_must (rintro e w10 ⟨⟨v10, rfl⟩, hd, F⟩; replace HB := Lib.hid (HB.out.trans (F.bel HD.out)); replace HX := Lib.hid (HX.out.fr F (TT.refl _ _)); replace HZ := Lib.hid (HZ.out.fr F (TT.refl _ _)); replace HD := Lib.hid (show DkOk _ _ _ _ (fs6 x y z) from hd); clear hd F))
  clear HR
  have HR0 := Lib.hid (readD_any w.heap.size d h5 (fs6 x y z) 0 w10 HD.out)
  rw [fs6_r0, show wrongD (fs6 x y z) 0 = 0 from rfl] at HR0
  go_upto_region 12 with (go_at_call 15; (with_reducible refine HR0.out.mono ?_); go_must (rintro e w11 ⟨A1, n1, c1, rfl, hn1, hc1, hm1, ho, hb⟩; have HP := Lib.hid ho.rd; replace HX := Lib.hid (HX.out.later hb); replace HZ := Lib.hid (HZ.out.later hb); replace HD := Lib.hid (HD.out.later hb); replace HB := Lib.hid (bstep HB.out hb (Nat.le_refl _)); clear hn1 hc1 hm1 ho hb))
  clear HR0
  have HR1 := Lib.hid (readD_any w.heap.size d h5 (fs6 x y z) 1 w11 HD.out)
  rw [fs6_r1, show wrongD (fs6 x y z) 1 = 0 from rfl] at HR1
  go_upto_region 13 with (go_at_call 15; (with_reducible refine HR1.out.mono ?_); go_must (rintro e w12 ⟨A2, n2, c2, rfl, hn2, hc2, hm2, ho, hb⟩; have HQ := Lib.hid ho.rd; replace HP := Lib.hid (HP.out.later hb); replace HX := Lib.hid (HX.out.later hb); replace HZ := Lib.hid (HZ.out.later hb); replace HB := Lib.hid (bstep HB.out hb (Nat.le_refl _)); clear hn2 hc2 hm2 ho hb))
  clear HR1
  have HBX := Lib.hid (bytes_any _ n1 c1 _ 256 256 _ _ x x w12 HP.out HX.out.2.2)
  have HBZ := Lib.hid (bytes_any _ n2 c2 _ 256 256 _ _ z z w12 HQ.out HZ.out.2.2)
  rw [beq_self_eq_true] at HBX HBZ
  go_wp2_with (first
    | (go_at_call 16; (with_reducible refine HBX.out.mono ?_); go_must (rintro e w13 ⟨rfl, rfl⟩))
    | (go_at_call 16; (with_reducible refine HBZ.out.mono ?_); go_must (rintro e w14 ⟨rfl, rfl⟩)))
  go_ret
  exact ⟨rfl, HB.out⟩
end Go.Proofs.Ytommepmeohaijaa
