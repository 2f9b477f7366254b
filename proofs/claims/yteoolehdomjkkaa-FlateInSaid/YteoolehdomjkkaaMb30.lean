/- Merged: Rd6, Rd11, Rd12, Iq8. -/
import Derived.Deep.RegionHeld3
import Derived.Test.YteoolehdomjkkaaMb23
import Derived.Test.YteoolehdomjkkaaMb21
import Derived.Test.YteoolehdomjkkaaMb29
import Derived.Test.YteoolehdomjkkaaMb25
import Derived.Test.YteoolehdomjkkaaMb02
import Derived.Test.YteoolehdomjkkaaMb27
/- flate: the reader of blocks, whatever comes: tokens. -/
namespace Go.Proofs.Yteoolehdomjkkaa
set_option linter.all false
open Go.RowKit

section
variable (r g n c : Nat) (A : Option Addr) (bs : List UInt8) (most : Int) (vo : Value) (s : RS) (w : World)
set_option maxRecDepth 100000 in
set_option maxHeartbeats 3200000 in
theorem rtokens_any (gl : Nat) (ll : List Int) (dv : Value) (dl : Option (List Int)) (f : Nat) (h : FS w r g A n c bs most vo s) (hl : DK w r g vo gl ll) (hlo : OkL ll) (hd : DV w r g vo dv dl) (hm : most ≤ 1000000) (ho : (s.out.length : Int) ≤ most) (hf : 8 * n + 1 ≤ s.p + f) :
    Calls Try.prog 59 #[.pointer (some ⟨r, 0, none⟩), .pointer (some ⟨gl, 0, none⟩), dv] w fun e w' => e = .returned (.tuple #[]) ∧ ∃ vo', FS w' r g A n c bs most vo' (toksF bs most ll dl f s) ∧ RFr w w' r g vo vo' := by
  have H := Lib.hid h
  have HDL := Lib.hid hl
  have HOK := Lib.hid hlo
  have HDV := Lib.hid hd
  have HBL := Lib.hid (FR.rb h).len
  have HO := Lib.hid ho
  have HFU := Lib.hid hf
  have HR0 := Lib.hid (RFr.refl w r g vo)
  obtain ⟨R, hR⟩ : ∃ R, toksF bs most ll dl f s = R := ⟨_, rfl⟩
  rw [hR]
  have HL0 := Lib.hid hR
  clear h hl hlo hd ho hf hR
  go_enter Try.func59, Try.ntmps59
  go_wp2_with fail
  go_loopw [6] (fun v6 wr => ∃ (cur : RS) (vq : Value) (f : Nat), Hid (FS wr r g A n c bs most vq cur) ∧ Hid (RFr w wr r g vo vq) ∧ Hid (8 * n + 1 ≤ cur.p + f) ∧ Hid (toksF bs most ll dl f cur = R) ∧ Hid ((cur.out.length : Int) ≤ most)) (fun _ wr => 8 * n + 1 - posOf wr g)
  case atStart => exact ⟨s, vo, f, H, HR0, HFU, HL0, HO⟩
  case round =>
    clear H HR0 HFU HL0 HO
    obtain ⟨cur, vq, f, HF, HR, HFU, HL, HO⟩ := hrel
    have e3 := (FR.arr HF.out).cell (k := 3) rfl
    have hfit : cur.p ≤ 8 * n := FR.fit HF.out
    have hpos := posOf_eq (FR.rd HF.out)
    by_cases he : cur.e = 0
    · have d1 : (cur.e == 0) = true := by rw [he]; rfl
      obtain ⟨f, rfl⟩ : ∃ f', f = f' + 1 := ⟨f - 1, by have := HFU.out; omega⟩
      have HN := Lib.hid (rnext_any r g n c A bs most vq cur wr gl ll HF.out (HDL.out.fr HR.out) HOK.out.1 HOK.out.2.1 HOK.out.2.2)
      have HST : Hid (toksF bs most ll dl (f + 1) cur = if (nextP bs ll cur).2.e = 0 then (if (nextP bs ll cur).1 = 256 then (nextP bs ll cur).2 else if (nextP bs ll cur).1 < 256 then toksF bs most ll dl f (givesP most (nextP bs ll cur).2 (UInt8.ofNat (nextP bs ll cur).1.toNat)) else toksF bs most ll dl f (copyP bs most (nextP bs ll cur).2 (nextP bs ll cur).1.toNat dl)) else (nextP bs ll cur).2) := (show _ = _ from if_pos he)
      rw [HL.out] at HST
      obtain ⟨q, hq1, hq2, hq3⟩ := nextP_val bs ll cur
      have hq300 : q ≤ 300 := by have := HOK.out.2.2; omega
      have HPP := Lib.hid (fun h2 => nextP_p (bs := bs) (ls := ll) he h2)
      have hout := nextP_out bs ll cur
      rw [hq1] at HN HST
      have hqt : ((q : Int)).toNat = q := rfl
      rw [hqt] at HST
      clear hq1 hq2 hq3 hqt
      generalize (nextP bs ll cur).2 = t1 at *
      by_cases ht : t1.e = 0
      · have d2 : (t1.e == 0) = true := by rw [ht]; rfl
        have d2b : (t1.e != 0) = false := by rw [ht]; rfl
        rw [if_pos ht] at HST
        have hpp := HPP.out ht
        clear HPP
        by_cases h256 : q = 256
        · subst h256
          rw [if_pos (by rfl)] at HST
          go_wp2_with (go_at_call 90; (with_reducible refine HN.out.mono ?_); go_must (rintro e w5 ⟨rfl, hf5, hr5⟩; have e53 := (FR.arr hf5).cell (k := 3) rfl; have HF5 := Lib.hid hf5; have HR5 := Lib.hid (HR.out.trans hr5); clear hf5 hr5))
          (try simp only [Exit.inBlock, Exit.then])
          first | (refine bodyPost_ret (results_none rfl _ _ _) rfl ?_) | (refine bodyPost_end (results_none rfl _ _ _) rfl ?_)
          exact ⟨rfl, vq, by rw [HST.out]; exact HF5.out, HR5.out⟩
        · have hn256 : ¬ (q : Int) = 256 := by omega
          have hb256 : ((q : Int) == 256) = false := beq_eq_false_iff_ne.2 hn256
          rw [if_neg hn256] at HST
          by_cases hlt : q < 256
          · have hlti : (q : Int) < 256 := by omega
            rw [if_pos hlti] at HST
            obtain ⟨x, hx⟩ : ∃ x : UInt8, q = x.toNat := ⟨UInt8.ofNat q, by rw [UInt8.toNat_ofNat']; exact (Nat.mod_eq_of_lt (by omega)).symm⟩
            subst hx
            have hxo : UInt8.ofNat x.toNat = x := by simp
            rw [hxo] at HST
            have x8 := x.toNat_lt
            have HGV := Lib.hid (fun w5 (h : FS w5 r g A n c bs most vq t1) => rgives_any r g n c A bs most vq t1 w5 x h hm)
            have HFU2 : Hid (8 * n + 1 ≤ (givesP most t1 x).p + f) := (show _ ≤ _ by rw [givesP_p]; have := HFU.out; omega)
            have hp6 : (givesP most t1 x).p = t1.p := givesP_p _ _ _
            have HO6 : Hid (((givesP most t1 x).out.length : Int) ≤ most) := (show _ ≤ _ from givesP_le (by rw [hout]; exact HO.out))
            generalize givesP most t1 x = t2 at *
            clear hxo hout
            go_wp2_with (first
              | (go_at_call 90; (with_reducible refine HN.out.mono ?_); go_must (rintro e w5 ⟨rfl, hf5, hr5⟩; have e53 := (FR.arr hf5).cell (k := 3) rfl; have HGV5 := Lib.hid (HGV.out w5 hf5); have HR5 := Lib.hid (HR.out.trans hr5); clear hf5 hr5))
              | (go_at_call 58; (with_reducible refine HGV5.out.mono ?_); go_must (rintro e w6 ⟨rfl, v6, hf6, hr6⟩; have HF6 := Lib.hid hf6; have HR6 := Lib.hid (HR5.out.trans hr6); clear hf6 hr6)))
            have hpos6 := posOf_eq (FR.rd HF6.out)
            go_roundw
            case rel => exact ⟨t2, v6, f, HF6, HR6, HFU2, HST.out.symm, HO6⟩
            case measure => rw [hpos6, hpos]; omega
          · have hlti : ¬ (q : Int) < 256 := by omega
            rw [if_neg hlti] at HST
            have hf1 : t1.p ≤ 8 * bs.length ∨ True := .inr trivial
            have HCY := Lib.hid (fun w5 (h : FS w5 r g A n c bs most vq t1) (hd : DV w5 r g vq dv dl) => rcopy_any r g n c A bs most vq t1 w5 q dv dl h hd hm (by omega) (by omega) (by rw [hout]; exact HO.out))
            have HPC := Lib.hid (fun (h : t1.p ≤ 8 * bs.length) => copyP_p (most := most) (q := q) (dl := dl) h)
            have HO6 : Hid (((copyP bs most t1 q dl).out.length : Int) ≤ most) := (show _ ≤ _ from copyP_le (by rw [hout]; exact HO.out))
            generalize copyP bs most t1 q dl = t2 at *
            clear hout
            go_wp2_with (first
              | (go_at_call 90; (with_reducible refine HN.out.mono ?_); go_must (rintro e w5 ⟨rfl, hf5, hr5⟩; have e53 := (FR.arr hf5).cell (k := 3) rfl; have hfit5 : t1.p ≤ 8 * n := FR.fit hf5; have HR5 := Lib.hid (HR.out.trans hr5); have HCY5 := Lib.hid (HCY.out w5 hf5 (HDV.out.fr HR5.out)); clear hf5 hr5))
              | (go_at_call 91; (with_reducible refine HCY5.out.mono ?_); go_must (rintro e w6 ⟨rfl, v6, hf6, hr6⟩; have HF6 := Lib.hid hf6; have HR6 := Lib.hid (HR5.out.trans hr6); clear hf6 hr6)))
            have hpos6 := posOf_eq (FR.rd HF6.out)
            have hp6 := HPC.out (by rw [HBL.out]; exact hfit5)
            have HFU2 : Hid (8 * n + 1 ≤ t2.p + f) := (show _ ≤ _ by have := HFU.out; omega)
            go_roundw
            case rel => exact ⟨t2, v6, f, HF6, HR6, HFU2, HST.out.symm, HO6⟩
            case measure => rw [hpos6, hpos]; omega
      · have d2 : (t1.e == 0) = false := beq_eq_false_iff_ne.2 ht
        have d2b : (t1.e != 0) = true := by rw [bne_iff_ne]; exact ht
        rw [if_neg ht] at HST
        go_wp2_with (go_at_call 90; (with_reducible refine HN.out.mono ?_); go_must (rintro e w5 ⟨rfl, hf5, hr5⟩; have e53 := (FR.arr hf5).cell (k := 3) rfl; have HF5 := Lib.hid hf5; have HR5 := Lib.hid (HR.out.trans hr5); clear hf5 hr5))
        (try simp only [Exit.inBlock, Exit.then])
        first | (refine bodyPost_ret (results_none rfl _ _ _) rfl ?_) | (refine bodyPost_end (results_none rfl _ _ _) rfl ?_)
        exact ⟨rfl, vq, by rw [HST.out]; exact HF5.out, HR5.out⟩
    · have d1 : (cur.e == 0) = false := beq_eq_false_iff_ne.2 he
      have HE : Hid (cur = R) := (show _ = _ by rw [← HL.out, toksF_err he])
      go_wp2_with fail
      (try simp only [Exit.inBlock, Exit.then])
      first | (refine bodyPost_ret (results_none rfl _ _ _) rfl ?_) | (refine bodyPost_end (results_none rfl _ _ _) rfl ?_)
      exact ⟨rfl, vq, by rw [← HE.out]; exact HF.out, HR.out⟩
end
end Go.Proofs.Yteoolehdomjkkaa

/- flate: the reader of blocks, whatever comes: a block of its own codes. -/
namespace Go.Proofs.Yteoolehdomjkkaa
set_option linter.all false
open Go.RowKit

theorem ordR_lt : ∀ i (h : i < ordL.length), ordL[i] < 19 := by decide
section
variable (r g n c : Nat) (A : Option Addr) (bs : List UInt8) (most : Int) (vo : Value) (s : RS) (w : World)
set_option maxRecDepth 100000 in
set_option maxHeartbeats 6400000 in
theorem rown_any (f : Nat) (h : FS w r g A n c bs most vo s) (hm : most ≤ 1000000) (ho : (s.out.length : Int) ≤ most) (hf : 8 * n + 1 ≤ f) :
    Calls Try.prog 29 #[.pointer (some ⟨r, 0, none⟩)] w fun e w' => e = .returned (.tuple #[]) ∧ ∃ vo', FS w' r g A n c bs most vo' (rownP bs most f s) ∧ RFr w w' r g vo vo' := by
  have hrw := (FR.arr h).lt
  have hgr := FR.gr h
  have HVO : Hid (∀ k, vo.ownBlock = some k → k < w.heap.size) := (show ∀ k, _ from fun k hk => (World.ownsRow.lt (FR.own h) k hk).2)
  have HR0 := Lib.hid (RFr.refl w r g vo)
  have HG1 := Lib.hid (rget_any r g n c A bs most vo s w 5 5 rfl h (by omega))
  have HO6 : Hid (((ownLs bs s).2.out.length : Int) ≤ most) := (show _ ≤ _ by rw [ownLs_out]; exact ho)
  have HFULL := Lib.hid (ownLs_full bs s)
  -- letters for what is read
  have HRR : Hid (rownP bs most f s = ownT bs most (ownLs bs s).1 (hdN bs s) f (ownLs bs s).2) := (show _ = _ from rfl)
  have HLS : Hid (ownLs bs s = listD bs (decD (hdL bs s).1 (hdL bs s).2) (hdN bs s + hdM bs s) (decP (hdL bs s).1 false (hdL bs s).2)) := (show _ = _ from rfl)
  have HDL : Hid (hdL bs s = lenRd bs (ordL.take (4 + (getP bs (hdB bs s) 4).1)) (List.replicate 19 0) (getP bs (hdB bs s) 4).2) := (show _ = _ from rfl)
  have HSB : Hid (hdB bs s = if 30 < hdM bs s then (getP bs (hdA bs s) 5).2.fail 4 else (getP bs (hdA bs s) 5).2) := (show _ = _ from rfl)
  have HSA : Hid (hdA bs s = if 286 < hdN bs s then (getP bs s 5).2.fail 4 else (getP bs s 5).2) := (show _ = _ from rfl)
  have HG2 := Lib.hid (fun w5 (h : FS w5 r g A n c bs most vo (hdA bs s)) => rget_any r g n c A bs most vo (hdA bs s) w5 5 5 rfl h (by omega))
  have HG3 := Lib.hid (fun w5 (h : FS w5 r g A n c bs most vo (hdB bs s)) => rget_any r g n c A bs most vo (hdB bs s) w5 4 4 rfl h (by omega))
  have hv1 : (getP bs s 5).1 < 32 := getP_lt bs s (m := 5) (by omega)
  have hv2 : (getP bs (hdA bs s) 5).1 < 32 := getP_lt bs (hdA bs s) (m := 5) (by omega)
  have hv3 : (getP bs (hdB bs s) 4).1 < 16 := getP_lt bs (hdB bs s) (m := 4) (by omega)
  have hNi : (257 : Int) + ((getP bs s 5).1 : Int) = (hdN bs s : Int) := by unfold hdN; omega
  have hMi : (1 : Int) + ((getP bs (hdA bs s) 5).1 : Int) = (hdM bs s : Int) := by unfold hdM; omega
  have hN1 : 257 ≤ hdN bs s ∧ hdN bs s ≤ 288 := by unfold hdN; omega
  have hM1 : 1 ≤ hdM bs s ∧ hdM bs s ≤ 32 := by unfold hdM; omega
  generalize rownP bs most f s = R at *
  generalize ownLs bs s = LS at *
  generalize hdL bs s = DL at *
  generalize (getP bs (hdB bs s) 4).1 = v3 at *
  generalize (getP bs (hdB bs s) 4).2 = t3 at *
  generalize hdB bs s = sB at *
  generalize hdM bs s = M at *
  generalize (getP bs (hdA bs s) 5).1 = v2 at *
  generalize (getP bs (hdA bs s) 5).2 = t2 at *
  generalize hdA bs s = sA at *
  generalize hdN bs s = N at *
  generalize (getP bs s 5).1 = v1 at *
  generalize (getP bs s 5).2 = t1 at *
  obtain ⟨Q, hQ⟩ : ∃ Q, 4 + v3 = Q := ⟨_, rfl⟩
  rw [hQ] at HDL
  have hQi : (4 : Int) + (v3 : Int) = (Q : Int) := by omega
  have hQ1 : 4 ≤ Q ∧ Q ≤ 19 := by omega
  clear hQ h ho
  go_enter Try.func29, Try.ntmps29
  go_upto_if 14 with (go_at_call 26; (with_reducible refine HG1.out.mono ?_); go_must (rintro e w1 ⟨rfl, hf1, hr1⟩; have HF1 := Lib.hid hf1; have HR1 := Lib.hid hr1; clear hf1 hr1))
  go_cut [2] from 10 (fun v wc => v = .int .i64 (N : Int) ∧ Hid (FS wc r g A n c bs most vo sA) ∧ Hid (RFr w wc r g vo vo))
  case first =>
    by_cases h286 : 286 < N
    · have h286i : (286 : Int) < (N : Int) := by omega
      rw [if_pos h286] at HSA
      have HFL := Lib.hid (rfail_any r g n c A bs most vo t1 w1 4 HF1.out)
      rw [← HSA.out] at HFL
      go_wp2_with (go_at_call 30; (with_reducible refine HFL.out.mono ?_); go_must (rintro e w2 ⟨rfl, hf2, hr2⟩; have HF2 := Lib.hid hf2; have HR2 := Lib.hid (HR1.out.trans hr2); clear hf2 hr2))
      go_meet
      case rel => exact ⟨rfl, HF2, HR2⟩
    · have h286i : ¬ (286 : Int) < (N : Int) := by omega
      rw [if_neg h286] at HSA
      go_wp2_with fail
      go_meet
      case rel => exact ⟨rfl, (show FS _ _ _ _ _ _ _ _ _ _ by rw [HSA.out]; exact HF1.out), HR1⟩
  case rest =>
    obtain ⟨rfl, HF1, HR1⟩ := hcut
    rename_i w1
    have HG2 := Lib.hid (HG2.out _ HF1.out)
    go_upto_if 21 with (go_at_call 26; (with_reducible refine HG2.out.mono ?_); go_must (rintro e w2 ⟨rfl, hf2, hr2⟩; have HF2 := Lib.hid hf2; have HR2 := Lib.hid (HR1.out.trans hr2); clear hf2 hr2))
    go_cut [3] from 10 (fun v wc => v = .int .i64 (M : Int) ∧ Hid (FS wc r g A n c bs most vo sB) ∧ Hid (RFr w wc r g vo vo))
    case first =>
      by_cases h30 : 30 < M
      · have h30i : (30 : Int) < (M : Int) := by omega
        rw [if_pos h30] at HSB
        have HFL := Lib.hid (rfail_any r g n c A bs most vo t2 w2 4 HF2.out)
        rw [← HSB.out] at HFL
        go_wp2_with (go_at_call 30; (with_reducible refine HFL.out.mono ?_); go_must (rintro e w3 ⟨rfl, hf3, hr3⟩; have HF3 := Lib.hid hf3; have HR3 := Lib.hid (HR2.out.trans hr3); clear hf3 hr3))
        go_meet
        case rel => exact ⟨rfl, HF3, HR3⟩
      · have h30i : ¬ (30 : Int) < (M : Int) := by omega
        rw [if_neg h30] at HSB
        go_wp2_with fail
        go_meet
        case rel => exact ⟨rfl, (show FS _ _ _ _ _ _ _ _ _ _ by rw [HSB.out]; exact HF2.out), HR2⟩
    case rest =>
      obtain ⟨rfl, HF2, HR2⟩ := hcut
      clear HSA HSB HG2 HF1 HR1 HG1
      have hrs := HR2.out.size
      go_wp2_with (first
        | (at_make; refine wpList_makeI rfl _ _ rfl 19 _ rfl rfl rfl (by omega) ?_; intro w3 hown hb3 hsz3; have HL3 := Lib.hid (ownI.mono hown hrs); have HF3 : Hid (FS w3 r g A n c bs most vo sB) := (show FS _ _ _ _ _ _ _ _ _ _ from FR.later HF2.out hb3); have HR3 := Lib.hid (HR2.out.trans (RFr.ofB hb3 r g vo)); have hs3 := hb3.size; clear hown hb3)
        | (go_at_call 61; (with_reducible refine (order_any w3).mono ?_); go_must (rintro e w4 ⟨rfl, ho4, hb4⟩; have HO4 := Lib.hid (ownI.mono ho4 (Nat.le_trans hrs hs3)); have HL4 := Lib.hid (HL3.out.later hb4); have HF4 : Hid (FS w4 r g A n c bs most vo sB) := (show FS _ _ _ _ _ _ _ _ _ _ from FR.later HF3.out hb4); have HR4 := Lib.hid (HR3.out.trans (RFr.ofB hb4 r g vo)); have HG4 := Lib.hid (HG3.out w4 HF4.out); clear ho4 hb4))
        | (go_at_call 26; (with_reducible refine HG4.out.mono ?_); go_must (rintro e w5 ⟨rfl, hf5, hr5⟩; have HF5 := Lib.hid hf5; have HR5 := Lib.hid (HR4.out.trans hr5); have HL5 : Hid (ownI w5 w.heap.size (.slice (some ⟨wc.heap.size, 0, none⟩) 19 19) (List.replicate 19 0)) := (show ownI _ _ _ _ from ownI.rfr HL4.out hr5 hrw (by omega) (fun k hk hk2 => by have h1 := HVO.out k hk; have h2 := (World.ownsRow.lt HL4.out k hk2).1; omega)); have HO5 : Hid (ownI w5 w.heap.size (.slice (some ⟨w3.heap.size, 0, none⟩) 19 19) (ordL.map fun (x : Nat) => (x : Int))) := (show ownI _ _ _ _ from ownI.rfr HO4.out hr5 hrw (by omega) (fun k hk hk2 => by have h1 := HVO.out k hk; have h2 := (World.ownsRow.lt HO4.out k hk2).1; omega)); clear hf5 hr5)))
      have hne12 : wc.heap.size ≠ w3.heap.size := by omega
      clear HG3 HF3 HR3 HL3 HF4 HR4 HL4 HO4 HG4 HF2 HR2
      generalize wc.heap.size = G1 at *
      generalize w3.heap.size = G2 at *
      clear hs3 hsz3 hrs
      have HL0 : Hid (lenRd bs ((ordL.take Q).drop 0) (List.replicate 19 0) t3 = DL) := (show _ = _ from HDL.out.symm)
      go_loopw [31] (fun vi wr => ∃ (i : Nat) (L : List Int) (cur : RS), i ≤ Q ∧ vi = .int .i64 i ∧ Hid (L.length = 19) ∧ Hid (FS wr r g A n c bs most vo cur) ∧ Hid (RFr w wr r g vo vo) ∧ Hid (ownI wr w.heap.size (.slice (some ⟨G1, 0, none⟩) 19 19) L) ∧ Hid (ownI wr w.heap.size (.slice (some ⟨G2, 0, none⟩) 19 19) (ordL.map fun (x : Nat) => (x : Int))) ∧ Hid (lenRd bs ((ordL.take Q).drop i) L cur = DL)) (fun vi _ => Q - (intOf vi).toNat)
      case atStart => exact ⟨0, _, t3, Nat.zero_le _, rfl, (show (List.replicate 19 (0 : Int)).length = 19 from rfl), HF5, HR5, HL5, HO5, HL0⟩
      case round =>
        clear HF5 HR5 HL5 HO5 HL0
        obtain ⟨i, L, cur, hi, rfl, HLL, HF, HR, HL, HO, HS⟩ := hrel
        have hrs := HR.out.size
        by_cases hlt : i < Q
        · have hlti : (i : Int) < (Q : Int) := by omega
          have hi19 : i < ordL.length := by show i < 19; omega
          have hkk := ordR_lt i hi19
          have HST := Lib.hid HS.out
          rw [List.drop_eq_getElem_cons (show i < (ordL.take Q).length by rw [List.length_take]; show i < min Q 19; omega), List.getElem_take, lenRd] at HST
          have e1 : wr.cell? ⟨G2, i, none⟩ = some (.int .i64 (ordL[i] : Int)) := by
            have := ownI.cell HO.out rfl (k := i) (by rw [List.length_map]; exact hi19)
            rw [List.getElem_map] at this
            exact this
          generalize ordL[i] = kk at *
          have hkki : (kk : Int) < 19 := by omega
          have HG := Lib.hid (rget_any r g n c A bs most vo cur wr 3 3 rfl HF.out (by omega))
          have hv := getP_lt bs cur (m := 3) (by omega)
          generalize (getP bs cur 3).1 = v at *
          generalize (getP bs cur 3).2 = nx1 at *
          go_wp2_with (go_at_call 26; (with_reducible refine HG.out.mono ?_); go_must (rintro e w6 ⟨rfl, hf6, hr6⟩; have HF6 := Lib.hid hf6; have HR6 := Lib.hid (HR.out.trans hr6); have HL6 : Hid (ownI w6 w.heap.size (.slice (some ⟨G1, 0, none⟩) 19 19) L) := (show ownI _ _ _ _ from ownI.rfr HL.out hr6 hrw (by omega) (fun k hk hk2 => by have h1 := HVO.out k hk; have h2 := (World.ownsRow.lt HL.out k hk2).1; omega)); have HO6' : Hid (ownI w6 w.heap.size (.slice (some ⟨G2, 0, none⟩) 19 19) (ordL.map fun (x : Nat) => (x : Int))) := (show ownI _ _ _ _ from ownI.rfr HO.out hr6 hrw (by omega) (fun k hk hk2 => by have h1 := HVO.out k hk; have h2 := (World.ownsRow.lt HO.out k hk2).1; omega)); have c6 := ownI.cell HL6.out HLL.out.symm (k := kk) (by rw [HLL.out]; exact hkk); have f6 := ownI.frozen HL6.out HLL.out.symm kk; have HGB := Lib.hid (World.ownsRow.stored (show w6.ownsRow w.heap.size _ _ (.slice (some ⟨G1, 0, none⟩) 19 19) 19 (cI L) from by have := HL6.out; unfold ownI at this; rwa [HLL.out] at this) kk (Value.int .i64 (v : Int))).2; have HLO : Hid (∀ k, (Value.slice (some ⟨G1, 0, none⟩) 19 19).ownBlock = some k → w.heap.size ≤ k) := (show ∀ k, _ from fun k hk => (World.ownsRow.lt HL6.out k hk).1); clear hf6 hr6))
          go_roundw
          case rel => exact ⟨i + 1, L.set kk (v : Int), nx1, by omega, by go_num, (show _ = _ by rw [List.length_set]; exact HLL.out), (show FS _ _ _ _ _ _ _ _ _ _ from FR.side HF6.out hrw HVO.out HLO.out HGB.out), RFr.side (l := L) HR6.out HLO.out HGB.out, ownI.store HL6.out HLL.out.symm kk _, ownI.far HO6'.out (fun e => hne12 (by injection e with e; exact e.symm)) kk _, HST⟩
          case measure => simp [intOf]; omega
        · obtain rfl : i = Q := by omega
          have hlti : ¬ (i : Int) < (i : Int) := by omega
          have HS2 : Hid ((L, cur) = DL) := (show _ = _ by
            rw [← HS.out, List.drop_eq_nil_of_le (by rw [List.length_take]; omega)]
            rfl)
          have HDC := Lib.hid (rdecoder_any r g n c A bs most vo cur wr wr.heap.size 19 19 (some ⟨G1, 0, none⟩) L false HF.out (by have := HL.out.rd; exact this) (Nat.le_refl _) (by omega))
          obtain ⟨NM, hNM⟩ : ∃ NM, N + M = NM := ⟨_, rfl⟩
          have hNMi : (N : Int) + (M : Int) = (NM : Int) := by omega
          have hNM2 : NM - N = M := by omega
          have HLC := Lib.hid (fun w6 dv (h : FS w6 r g A n c bs most vo (decP L false cur)) (hd : DV w6 r g vo dv (decD L cur)) => rlistD_any r g n c A bs most vo (decP L false cur) w6 dv (decD L cur) NM h hd decD_none (by omega))
          have HLS2 := Lib.hid HLS.out
          rw [← HS2.out, hNM] at HLS2
          rw [← HLS2.out] at HLC
          rw [hNM] at HFULL
          clear HLS2 HLS HS2 HS HDL HF1 HR1 HF2 HR2 HG2 HO HLL hne12
          obtain ⟨all, s6⟩ := LS
          replace HFULL : Hid (s6.e = 0 → all.length = NM) := HFULL
          replace HRR : Hid (R = ownT bs most all N f s6) := HRR
          replace HLC : Hid (∀ w6 dv, FS w6 r g A n c bs most vo (decP L false cur) → DV w6 r g vo dv (decD L cur) → Calls Try.prog 62 #[.pointer (some ⟨r, 0, none⟩), dv, .int .i64 (NM : Int)] w6 fun e w' => ∃ lv, e = .returned lv ∧ FS w' r g A n c bs most vo s6 ∧ ownI w' w6.heap.size lv all ∧ RFr w6 w' r g vo vo) := HLC
          replace HO6 : Hid ((s6.out.length : Int) ≤ most) := HO6
          by_cases he6 : s6.e = 0
          · have d6 : (s6.e == 0) = true := by rw [he6]; rfl
            have d6b : (s6.e != 0) = false := by rw [he6]; rfl
            have hlen := HFULL.out he6
            have h256 : 256 < all.length := by omega
            have h256i : (256 : Int) < (NM : Int) := by omega
            have hgd : all.getD 256 0 = all[256] := by rw [List.getD_eq_getElem?_getD, List.getElem?_eq_getElem h256]; rfl
            have HCL : Hid (∀ w' GA cl, ownI w' w.heap.size (.slice (some ⟨GA, 0, none⟩) all.length cl) all → w'.cell? ⟨GA, 256, none⟩ = some (.int .i64 all[256])) := (show ∀ w' GA cl, _ from fun w' GA cl h => ownI.cell h rfl h256)
            have HO1 : Hid (own1 all s6 = if all[256] = 0 then s6.fail 4 else s6) := (show _ = _ by unfold own1; rw [hgd])
            generalize all[256] = x at *
            clear hgd
            go_upto_if 57 with (first
              | (go_at_call 60; (with_reducible refine HDC.out.mono ?_); go_must (rintro e w6 ⟨dv, rfl, hf6, hr6, hd6⟩; have hs6 := (HR.out.trans hr6).size; have HR6 := Lib.hid (HR.out.trans hr6); have HLC6 := Lib.hid (HLC.out w6 dv hf6 hd6); clear hf6 hd6 hr6))
              | (go_at_call 62; (with_reducible refine HLC6.out.mono ?_); go_must (rintro e w7 ⟨lv, rfl, hf7, hl7, hr7⟩; obtain ⟨Al, cl, rfl, -, hcl, hcm⟩ := hl7.form; obtain ⟨-, GA, rfl, -, -⟩ := ownI.pos hl7 (by omega); have HL7 := Lib.hid (ownI.mono hl7 hs6); have c256 := HCL.out w7 GA cl HL7.out; have e73 := (FR.arr hf7).cell (k := 3) rfl; have HF7 := Lib.hid hf7; have HR7 := Lib.hid (HR6.out.trans hr7); clear hf7 hl7 hr7)))
            have HL7b : Hid (ownI w7 w.heap.size (.slice (some ⟨GA, 0, none⟩) NM cl) all) := (show ownI w7 w.heap.size (.slice (some ⟨GA, 0, none⟩) NM cl) all from by have := HL7.out; rwa [hlen] at this)
            have hcl2 : NM ≤ cl := by omega
            clear HL7 HCL HLC6 HDC HLC c256 e73 HF HR HL
            go_cut [] from 10 (fun wc => Hid (FS wc r g A n c bs most vo (own1 all s6)) ∧ Hid (RFr w wc r g vo vo) ∧ Hid (ownI wc w.heap.size (.slice (some ⟨GA, 0, none⟩) NM cl) all))
            case first =>
              by_cases hx : x = 0
              · have hx0 : (x == 0) = true := by rw [hx]; rfl
                rw [if_pos hx] at HO1
                have HFL := Lib.hid (rfail_any r g n c A bs most vo s6 w7 4 HF7.out)
                rw [← HO1.out] at HFL
                clear hx
                go_wp2_with (go_at_call 30; (with_reducible refine HFL.out.mono ?_); go_must (rintro e w8 ⟨rfl, hf8, hr8⟩; have HF8 := Lib.hid hf8; have HR8 := Lib.hid (HR7.out.trans hr8); have HL8 : Hid (ownI w8 w.heap.size (.slice (some ⟨GA, 0, none⟩) NM cl) all) := (show ownI _ _ _ _ from ownI.rfr HL7b.out hr8 hrw (by omega) (fun k hk hk2 => by have h1 := HVO.out k hk; have h2 := (World.ownsRow.lt HL7b.out k hk2).1; omega)); clear hf8 hr8))
                go_meet
                case rel => exact ⟨HF8, HR8, HL8⟩
              · have hx0 : (x == 0) = false := beq_eq_false_iff_ne.2 hx
                rw [if_neg hx] at HO1
                go_wp2_with fail
                go_meet
                case rel => exact ⟨(show FS _ _ _ _ _ _ _ _ _ _ by rw [HO1.out]; exact HF7.out), HR7, HL7b⟩
            case rest =>
              obtain ⟨HF7c, HR7c, HL7c⟩ := hcut
              obtain ⟨s7, hs7⟩ : ∃ x, own1 all s6 = x := ⟨_, rfl⟩
              have HO2 : Hid (own2 all N s6 = decP (all.take N) false s7) := (show _ = _ by unfold own2; rw [hs7])
              have HO3 : Hid (own3 all N s6 = if noneP (all.drop N) = true then own2 all N s6 else decP (all.drop N) true (own2 all N s6)) := (show _ = _ from rfl)
              have HOD : Hid (ownDD all N s6 = if noneP (all.drop N) = true then none else decD (all.drop N) (own2 all N s6)) := (show _ = _ from rfl)
              have HZ : Hid ((own3 all N s6).e = 0 → own3 all N s6 = s6 ∧ decD (all.take N) s7 = some (all.take N)) := (show _ → _ by rw [← hs7]; exact own3_zero)
              rw [hs7] at HF7c
              have hrs7 := HR7c.out.size
              have HDC2 := Lib.hid (rdecoder_any r g n c A bs most vo s7 wc wc.heap.size N cl (some ⟨GA, 0, none⟩) (all.take N) false HF7c.out (by have h1 := (ownI.rd HL7c.out).cut (k := 0) (m := N) (by omega) (A' := some ⟨GA, 0, none⟩) (fun _ => rfl); rwa [List.drop_zero] at h1) (Nat.le_refl _) (by omega))
              rw [← HO2.out] at HDC2
              have HRN : Hid (∀ w8, ownI w8 w.heap.size (.slice (some ⟨GA, 0, none⟩) NM cl) all → RdI w8 w8.heap.size (some ⟨GA, N, none⟩) M (all.drop N)) := (show ∀ w8, _ from fun w8 h => by
                have h1 := (ownI.rd h).cut (k := N) (m := M) (by omega) (A' := some ⟨GA, N, none⟩) (fun _ => by simp [Addr.add, (show ¬ N = 0 by omega)])
                rwa [List.take_of_length_le (by rw [List.length_drop]; omega)] at h1)
              have HRR2 : Hid (R = if (own3 all N s6).e = 0 then toksF bs most (all.take N) (ownDD all N s6) f (own3 all N s6) else own3 all N s6) := (show _ = _ by rw [HRR.out]; exact if_pos he6)
              clear hs7 HRR HO1 HF7 HR7 HL7b
              obtain ⟨z, hz⟩ : ∃ z, noneP (all.drop N) = z := ⟨_, rfl⟩
              have HNP := Lib.hid hz
              rw [hz] at HO3 HOD
              clear hz
              generalize own2 all N s6 = s8 at *
              generalize own3 all N s6 = s9 at *
              generalize ownDD all N s6 = D9 at *
              generalize decD (all.take N) s7 = D8 at *
              go_upto_if 69 with (first
                | (go_at_call 60; (with_reducible refine HDC2.out.mono ?_); go_must (rintro e w8 ⟨d8, rfl, hf8, hr8, hd8⟩; have HF8 := Lib.hid hf8; have HR8 := Lib.hid (HR7c.out.trans hr8); have HL8 : Hid (ownI w8 w.heap.size (.slice (some ⟨GA, 0, none⟩) NM cl) all) := (show ownI _ _ _ _ from ownI.rfr HL7c.out hr8 hrw (by omega) (fun k hk hk2 => by have h1 := HVO.out k hk; have h2 := (World.ownsRow.lt HL7c.out k hk2).1; omega)); have HD8 := Lib.hid hd8; have HNN := Lib.hid (none_any w8.heap.size M (cl - N) (some ⟨GA, N, none⟩) (all.drop N) w8 (HRN.out w8 HL8.out) (by omega)); rw [HNP.out] at HNN; clear hf8 hr8 hd8))
                | (go_at_call 63; (with_reducible refine HNN.out.mono ?_); go_must (rintro e w9 ⟨rfl, rfl⟩)))
              go_cut [9] from 10 (fun v wc => Hid (FS wc r g A n c bs most vo s9) ∧ Hid (RFr w wc r g vo vo) ∧ Hid (DV wc r g vo v D9) ∧ Hid (DV wc r g vo d8 D8))
              case first =>
                cases z with
                | true =>
                  replace HO3 : Hid (s9 = s8) := HO3
                  replace HOD : Hid (D9 = none) := HOD
                  go_wp2_with fail
                  go_meet
                  case rel => exact ⟨(show FS _ _ _ _ _ _ _ _ _ _ by rw [HO3.out]; exact HF8.out), HR8, (show DV _ _ _ _ _ _ from .inl ⟨rfl, HOD.out⟩), HD8⟩
                | false =>
                  replace HO3 : Hid (s9 = decP (all.drop N) true s8) := HO3
                  replace HOD : Hid (D9 = decD (all.drop N) s8) := HOD
                  have HDC3 := Lib.hid (rdecoder_any r g n c A bs most vo s8 w8 w8.heap.size M (cl - N) (some ⟨GA, N, none⟩) (all.drop N) true HF8.out (HRN.out w8 HL8.out) (Nat.le_refl _) (by omega))
                  rw [← HO3.out, ← HOD.out] at HDC3
                  go_wp2_with (go_at_call 60; (with_reducible refine HDC3.out.mono ?_); go_must (rintro e w10 ⟨d10, rfl, hf10, hr10, hd10⟩; have HF10 := Lib.hid hf10; have HR10 := Lib.hid (HR8.out.trans hr10); have HD10 := Lib.hid hd10; have HD810 := Lib.hid (HD8.out.fr hr10); clear hf10 hr10 hd10))
                  go_meet
                  case rel => exact ⟨HF10, HR10, HD10, HD810⟩
              case rest =>
                obtain ⟨HFx, HRx, HDx, HD8x⟩ := hcut
                have e93 := (FR.arr HFx.out).cell (k := 3) rfl
                by_cases he9 : s9.e = 0
                · have d9 : (s9.e == 0) = true := by rw [he9]; rfl
                  have HRE : Hid (R = toksF bs most (all.take N) D9 f s9) := (show _ = _ by rw [HRR2.out, if_pos he9])
                  obtain ⟨hz1, hz2⟩ := HZ.out he9
                  have HDX := HD8x.out
                  rw [hz2] at HDX
                  have hoo : (s9.out.length : Int) ≤ most := by rw [hz1]; exact HO6.out
                  clear hz1 hz2
                  rcases HDX with ⟨-, h0⟩ | ⟨gd, ds, rfl, h0, h1, h2⟩
                  · cases h0
                  · injection h0 with h0
                    subst h0
                    have HTK := Lib.hid (rtokens_any r g n c A bs most vo s9 wc gd (all.take N) u9 D9 f HFx.out h1 h2 HDx.out hm hoo (by omega))
                    rw [← HRE.out] at HTK
                    clear h1 h2 hoo HRR2 HRE HO2
                    go_wp2_with (go_at_call 59; (with_reducible refine HTK.out.mono ?_); go_must (rintro e w11 ⟨rfl, vo', hf11, hr11⟩; have HF11 := Lib.hid hf11; have HR11 := Lib.hid (HRx.out.trans hr11); clear hf11 hr11))
                    (try simp only [Exit.inBlock, Exit.then]); first | (refine bodyPost_ret (results_none rfl _ _ _) rfl ?_) | (refine bodyPost_end (results_none rfl _ _ _) rfl ?_)
                    exact ⟨rfl, vo', HF11.out, HR11.out⟩
                · have d9 : (s9.e == 0) = false := beq_eq_false_iff_ne.2 he9
                  have HRE : Hid (R = s9) := (show _ = _ by rw [HRR2.out, if_neg he9])
                  clear HRR2
                  go_wp2_with fail
                  (try simp only [Exit.inBlock, Exit.then]); first | (refine bodyPost_ret (results_none rfl _ _ _) rfl ?_) | (refine bodyPost_end (results_none rfl _ _ _) rfl ?_)
                  exact ⟨rfl, vo, by rw [HRE.out]; exact HFx.out, HRx.out⟩
          · have d6 : (s6.e == 0) = false := beq_eq_false_iff_ne.2 he6
            have d6b : (s6.e != 0) = true := by rw [bne_iff_ne]; exact he6
            have HRE : Hid (R = s6) := (show _ = _ by rw [HRR.out]; exact if_neg he6)
            go_wp2_with (first
              | (go_at_call 60; (with_reducible refine HDC.out.mono ?_); go_must (rintro e w6 ⟨dv, rfl, hf6, hr6, hd6⟩; have hs6 := (HR.out.trans hr6).size; have HR6 := Lib.hid (HR.out.trans hr6); have HLC6 := Lib.hid (HLC.out w6 dv hf6 hd6); clear hf6 hd6 hr6))
              | (go_at_call 62; (with_reducible refine HLC6.out.mono ?_); go_must (rintro e w7 ⟨lv, rfl, hf7, hl7, hr7⟩; have e73 := (FR.arr hf7).cell (k := 3) rfl; have HF7 := Lib.hid hf7; have HR7 := Lib.hid (HR6.out.trans hr7); clear hf7 hl7 hr7)))
            (try simp only [Exit.inBlock, Exit.then]); first | (refine bodyPost_ret (results_none rfl _ _ _) rfl ?_) | (refine bodyPost_end (results_none rfl _ _ _) rfl ?_)
            exact ⟨rfl, vo, by rw [HRE.out]; exact HF7.out, HR7.out⟩
end
end Go.Proofs.Yteoolehdomjkkaa

/- flate: the reader of blocks, whatever comes: a block of the fixed codes. -/
namespace Go.Proofs.Yteoolehdomjkkaa
set_option linter.all false
open Go.RowKit

theorem RdI.rfr {w w' : World} {r g B b o n : Nat} {vo vo' : Value} {l : List Int} (h : RdI w B (some ⟨b, o, none⟩) n l) (hf : RFr w w' r g vo vo') (hb : b < w.heap.size) (hr : b ≠ r) (hg : b ≠ g) (hv : vo.ownBlock ≠ some b) : RdI w' B (some ⟨b, o, none⟩) n l := by
  refine ⟨h.1, fun hn => ?_⟩
  obtain ⟨b', o', e, hlt, hc⟩ := h.2 hn
  injection e with e
  injection e with e1 e2 e3
  subst e1 e2
  exact ⟨_, _, rfl, hlt, fun j u hu => (World.cell?_of_block (hf.block b hb hr hg hv)).trans (hc j u hu)⟩
section
variable (r g n c : Nat) (A : Option Addr) (bs : List UInt8) (most : Int) (vo : Value) (s : RS) (w : World)
set_option maxRecDepth 100000 in
set_option maxHeartbeats 3200000 in
theorem rfixed_any (f : Nat) (h : FS w r g A n c bs most vo s) (he : s.e = 0) (hm : most ≤ 1000000) (ho : (s.out.length : Int) ≤ most) (hf : 8 * n + 1 ≤ f) :
    Calls Try.prog 28 #[.pointer (some ⟨r, 0, none⟩)] w fun e w' => e = .returned (.tuple #[]) ∧ ∃ vo', FS w' r g A n c bs most vo' (rfixP bs most f s) ∧ RFr w w' r g vo vo' := by
  have hrw := (FR.arr h).lt
  have hgr := FR.gr h
  have HVO : Hid (∀ k, vo.ownBlock = some k → k < w.heap.size) := (show ∀ k, _ from fun k hk => (World.ownsRow.lt (FR.own h) k hk).2)
  have H := Lib.hid h
  have hDL : decD fixL s = some fixL := if_pos ⟨he, by decide +kernel⟩
  have hDD : decD fixD s = some fixD := if_pos ⟨he, by decide +kernel⟩
  have HDC : Hid (∀ w1 cl b, FS w1 r g A n c bs most vo s → RdI w1 w1.heap.size (some ⟨b, 0, none⟩) 288 fixL → Calls Try.prog 60 #[.pointer (some ⟨r, 0, none⟩), .slice (some ⟨b, 0, none⟩) 288 cl, .bool false] w1 fun e w' => ∃ dv, e = .returned dv ∧ FS w' r g A n c bs most vo s ∧ RFr w1 w' r g vo vo ∧ DV w' r g vo dv (some fixL)) := (show ∀ w1 cl b, _ from fun w1 cl b h hr => by
    have := rdecoder_any r g n c A bs most vo s w1 w1.heap.size 288 cl (some ⟨b, 0, none⟩) fixL false h hr (Nat.le_refl _) (by omega)
    rwa [fixL_dec, hDL] at this)
  have HDD : Hid (∀ w1 B cl b, B ≤ w1.heap.size → FS w1 r g A n c bs most vo s → RdI w1 B (some ⟨b, 0, none⟩) 32 fixD → Calls Try.prog 60 #[.pointer (some ⟨r, 0, none⟩), .slice (some ⟨b, 0, none⟩) 32 cl, .bool false] w1 fun e w' => ∃ dv, e = .returned dv ∧ FS w' r g A n c bs most vo s ∧ RFr w1 w' r g vo vo ∧ DV w' r g vo dv (some fixD)) := (show ∀ w1 B cl b, _ from fun w1 B cl b hB h hr => by
    have := rdecoder_any r g n c A bs most vo s w1 B 32 cl (some ⟨b, 0, none⟩) fixD false h hr hB (by omega)
    rwa [fixD_dec, hDD] at this)
  have HTK : Hid (∀ w1 gl dv, FS w1 r g A n c bs most vo s → DK w1 r g vo gl fixL → OkL fixL → DV w1 r g vo dv (some fixD) → Calls Try.prog 59 #[.pointer (some ⟨r, 0, none⟩), .pointer (some ⟨gl, 0, none⟩), dv] w1 fun e w' => e = .returned (.tuple #[]) ∧ ∃ vo', FS w' r g A n c bs most vo' (rfixP bs most f s) ∧ RFr w1 w' r g vo vo') := (show ∀ w1 gl dv, _ from fun w1 gl dv h1 h2 h3 h4 => rtokens_any r g n c A bs most vo s w1 gl fixL dv (some fixD) f h1 h2 h3 h4 hm ho (by omega))
  clear h hDL hDD
  generalize rfixP bs most f s = R at *
  go_enter Try.func28, Try.ntmps28
  go_wp2_with (first
    | (go_at_call 48; (with_reducible refine (fixed_any w).mono ?_); go_must (rintro e w1 ⟨gl, cl, gd, cd, rfl, hgl, hgd, hrl, hrd, hb1⟩; have HF1 : Hid (FS w1 r g A n c bs most vo s) := (show FS _ _ _ _ _ _ _ _ _ _ from FR.later H.out hb1); have HR1 := Lib.hid (RFr.ofB hb1 r g vo); have HDC1 := Lib.hid (HDC.out w1 cl gl HF1.out hrl); have HRD := Lib.hid hrd; have hs1 := hb1.size; have hgd1 : gd < w1.heap.size := (by obtain ⟨b, o, e, hb, -⟩ := hrd.at_ (by omega); injection e with e; injection e with e; omega); clear hrl hrd hb1))
    | (go_at_call 60; (with_reducible refine HDC1.out.mono ?_); go_must (rintro e w2 ⟨d2, rfl, hf2, hr2, hd2⟩; have HR2 := Lib.hid (HR1.out.trans hr2); have HD2 := Lib.hid hd2; have HDD2 := Lib.hid (HDD.out w2 w1.heap.size cd gd hr2.size hf2 (RdI.rfr HRD.out hr2 hgd1 (by omega) (by omega) (fun e => by have := HVO.out gd e; omega))); clear hf2 hr2 hd2))
    | (go_at_call 60; (with_reducible refine HDD2.out.mono ?_); go_must (rintro e w3 ⟨d3, rfl, hf3, hr3, hd3⟩; rcases HD2.out with ⟨-, h0⟩ | ⟨gq, ds, rfl, h0, h1, h2⟩; (· cases h0); injection h0 with h0; subst h0; have HR3 := Lib.hid (HR2.out.trans hr3); have HTK3 := Lib.hid (HTK.out w3 gq d3 hf3 (h1.fr hr3) h2 hd3); clear hf3 hr3 hd3 h1 h2))
    | (go_at_call 59; (with_reducible refine HTK3.out.mono ?_); go_must (rintro e w4 ⟨rfl, vo', hf4, hr4⟩; have HF4 := Lib.hid hf4; have HR4 := Lib.hid (HR3.out.trans hr4); clear hf4 hr4)))
  (try simp only [Exit.inBlock, Exit.then]); first | (refine bodyPost_ret (results_none rfl _ _ _) rfl ?_) | (refine bodyPost_end (results_none rfl _ _ _) rfl ?_)
  exact ⟨rfl, vo', HF4.out, HR4.out⟩
/-- A block of whatever kind. -/
theorem rkind1_any (f : Nat) (h : FS w r g A n c bs most vo s) (he : s.e = 0) (hm : most ≤ 1000000) (ho : (s.out.length : Int) ≤ most) (hf : 8 * n + 1 ≤ f) :
    Calls Try.prog 28 #[.pointer (some ⟨r, 0, none⟩)] w fun e w' => e = .returned (.tuple #[]) ∧ ∃ vo', FS w' r g A n c bs most vo' (rfixP bs most f s) ∧ RFr w w' r g vo vo' := rfixed_any r g n c A bs most vo s w f h he hm ho hf
end
end Go.Proofs.Yteoolehdomjkkaa

/- flate: the document's reader of blocks: the two lists of a block of its own codes. -/
namespace Go.Proofs.Yteoolehdomjkkaa
set_option linter.all false
open Go.RowKit

section
variable {bs : List UInt8} {ls l : List Int} {all f n : Nat} {s : RS} {x : Int}
theorem listF_err (h : ¬ s.e = 0) : ¬ (listF bs ls all f l s).2.e = 0 := by
  rw [listF_stop (fun a => h a.2)]
  exact h
theorem repP_err (h : ¬ s.e = 0) : ¬ (repP l x n all s).2.e = 0 := by
  have : rep0 l n all s = s := if_neg (fun a => h a.1)
  unfold repP
  rw [this, if_neg h]
  exact h
theorem repP_over (he : s.e = 0) (h : all < l.length + n) : ¬ (repP l x n all s).2.e = 0 := by
  have : rep0 l n all s = s.fail 4 := if_pos ⟨he, by omega⟩
  have h2 : ¬ (s.fail 4).e = 0 := fail_e (by decide)
  unfold repP
  rw [this, if_neg h2]
  exact h2
theorem repP_ok (he : s.e = 0) (h : l.length + n ≤ all) : repP l x n all s = (l ++ List.replicate n x, s) := by
  have : rep0 l n all s = s := if_neg (fun a => by have := a.2; omega)
  unfold repP
  rw [this, if_pos he]
theorem lst_err (hl : l.length < all) (he : s.e = 0) (h1 : ¬ (nextP bs ls s).2.e = 0) : ¬ (listF bs ls all (f + 1) l s).2.e = 0 := by
  rw [listF, if_pos ⟨hl, he⟩, if_neg h1]
  exact h1
theorem lst_lit (hl : l.length < all) (he : s.e = 0) (h1 : (nextP bs ls s).2.e = 0) (h2 : (nextP bs ls s).1 < 16) : listF bs ls all (f + 1) l s = listF bs ls all f (l ++ [(nextP bs ls s).1]) (nextP bs ls s).2 := by
  rw [listF, if_pos ⟨hl, he⟩, if_pos h1, if_pos h2]
theorem lst_16n (hl : l.length < all) (he : s.e = 0) (h1 : (nextP bs ls s).2.e = 0) (h2 : (nextP bs ls s).1 = 16) (h3 : l.length = 0) : ¬ (listF bs ls all (f + 1) l s).2.e = 0 := by
  rw [listF, if_pos ⟨hl, he⟩, if_pos h1, if_neg (by omega), if_pos h2, if_pos h3]
  exact fail_e (by decide)
theorem lst_16 (hl : l.length < all) (he : s.e = 0) (h1 : (nextP bs ls s).2.e = 0) (h2 : (nextP bs ls s).1 = 16) (h3 : ¬ l.length = 0) : listF bs ls all (f + 1) l s = listF bs ls all f (repP l (l.getD (l.length - 1) 0) (3 + (getP bs (nextP bs ls s).2 2).1) all (getP bs (nextP bs ls s).2 2).2).1 (repP l (l.getD (l.length - 1) 0) (3 + (getP bs (nextP bs ls s).2 2).1) all (getP bs (nextP bs ls s).2 2).2).2 := by
  rw [listF, if_pos ⟨hl, he⟩, if_pos h1, if_neg (by omega), if_pos h2, if_neg h3]
theorem lst_17 (hl : l.length < all) (he : s.e = 0) (h1 : (nextP bs ls s).2.e = 0) (h2 : (nextP bs ls s).1 = 17) : listF bs ls all (f + 1) l s = listF bs ls all f (repP l 0 (3 + (getP bs (nextP bs ls s).2 3).1) all (getP bs (nextP bs ls s).2 3).2).1 (repP l 0 (3 + (getP bs (nextP bs ls s).2 3).1) all (getP bs (nextP bs ls s).2 3).2).2 := by
  rw [listF, if_pos ⟨hl, he⟩, if_pos h1, if_neg (by omega), if_neg (by omega), if_pos h2]
theorem lst_18 (hl : l.length < all) (he : s.e = 0) (h1 : (nextP bs ls s).2.e = 0) (h2 : 17 < (nextP bs ls s).1) : listF bs ls all (f + 1) l s = listF bs ls all f (repP l 0 (11 + (getP bs (nextP bs ls s).2 7).1) all (getP bs (nextP bs ls s).2 7).2).1 (repP l 0 (11 + (getP bs (nextP bs ls s).2 7).1) all (getP bs (nextP bs ls s).2 7).2).2 := by
  rw [listF, if_pos ⟨hl, he⟩, if_pos h1, if_neg (by omega), if_neg (by omega), if_neg (by omega)]
end
/-- The numbers ahead of lists. -/
theorem hd_go {bs : List UInt8} {P x y z : Nat} {out : List UInt8} (hf : P + 14 ≤ 8 * bs.length) (hx : getV bs P 5 = x) (hy : getV bs (P + 5) 5 = y) (hz : getV bs (P + 10) 4 = z) (hx2 : x ≤ 29) (hy2 : y ≤ 29) :
    hdN bs ⟨P, out, 0⟩ = 257 + x ∧ hdM bs ⟨P, out, 0⟩ = 1 + y ∧ hdL bs ⟨P, out, 0⟩ = lenRd bs (ordL.take (4 + z)) (List.replicate 19 0) ⟨P + 14, out, 0⟩ := by
  have e1 : getP bs (⟨P, out, 0⟩ : RS) 5 = (x, ⟨P + 5, out, 0⟩) := by rw [getP_ok rfl (by show P + 5 ≤ _; omega), ← hx]
  have hN : hdN bs ⟨P, out, 0⟩ = 257 + x := by unfold hdN; rw [e1]
  have hA : hdA bs ⟨P, out, 0⟩ = ⟨P + 5, out, 0⟩ := by unfold hdA; rw [hN, if_neg (by omega), e1]
  have e2 : getP bs (⟨P + 5, out, 0⟩ : RS) 5 = (y, ⟨P + 10, out, 0⟩) := by rw [getP_ok rfl (by show P + 5 + 5 ≤ _; omega), ← hy]
  have hM : hdM bs ⟨P, out, 0⟩ = 1 + y := by unfold hdM; rw [hA, e2]
  have hB : hdB bs ⟨P, out, 0⟩ = ⟨P + 10, out, 0⟩ := by unfold hdB; rw [hM, if_neg (by omega), hA, e2]
  have e3 : getP bs (⟨P + 10, out, 0⟩ : RS) 4 = (z, ⟨P + 14, out, 0⟩) := by rw [getP_ok rfl (by show P + 10 + 4 ≤ _; omega), ← hz]
  refine ⟨hN, hM, ?_⟩
  unfold hdL hdQ
  rw [hB, e3]
theorem hd_bad {bs : List UInt8} {P : Nat} {out : List UInt8} (h : ¬ (P + 14 ≤ 8 * bs.length ∧ getV bs P 5 ≤ 29 ∧ getV bs (P + 5) 5 ≤ 29)) : ¬ (ownLs bs ⟨P, out, 0⟩).2.e = 0 := by
  intro hh
  have h2 := lenRd_e0 bs _ _ _ (decP_e0 (listD_e0 hh))
  obtain ⟨h3, h3p⟩ := getP_e0 h2
  have hfit : (getP bs (hdB bs ⟨P, out, 0⟩) 4).2.p ≤ 8 * bs.length ∨ ¬ (hdB bs ⟨P, out, 0⟩).p + 4 ≤ 8 * bs.length := by
    by_cases e : (hdB bs ⟨P, out, 0⟩).p + 4 ≤ 8 * bs.length
    · exact .inl (by rw [h3p]; exact e)
    · exact .inr e
  have hM : ¬ 30 < hdM bs ⟨P, out, 0⟩ := fun e => by
    unfold hdB at h3
    rw [if_pos e] at h3
    exact fail_e (by decide) h3
  have hB : hdB bs ⟨P, out, 0⟩ = (getP bs (hdA bs ⟨P, out, 0⟩) 5).2 := by unfold hdB; rw [if_neg hM]
  rw [hB] at h3 h3p hfit
  obtain ⟨h4, h4p⟩ := getP_e0 h3
  have hN : ¬ 286 < hdN bs ⟨P, out, 0⟩ := fun e => by
    unfold hdA at h4
    rw [if_pos e] at h4
    exact fail_e (by decide) h4
  have hA : hdA bs ⟨P, out, 0⟩ = (getP bs ⟨P, out, 0⟩ 5).2 := by unfold hdA; rw [if_neg hN]
  rw [hA] at h4 h4p h3 h3p hfit
  obtain ⟨-, h5p⟩ := getP_e0 h4
  have q1 : P + 5 ≤ 8 * bs.length := Classical.byContradiction fun e => getP_bad (s := ⟨P, out, 0⟩) e h4
  have e1 : getP bs (⟨P, out, 0⟩ : RS) 5 = (getV bs P 5, ⟨P + 5, out, 0⟩) := getP_ok rfl q1
  rw [e1] at h3 h3p hfit hA
  have q2 : P + 5 + 5 ≤ 8 * bs.length := Classical.byContradiction fun e => getP_bad (s := ⟨P + 5, out, 0⟩) e h3
  have e2 : getP bs (⟨P + 5, out, 0⟩ : RS) 5 = (getV bs (P + 5) 5, ⟨P + 10, out, 0⟩) := by rw [getP_ok rfl q2]
  rw [hB, hA, e2] at h2
  have q3 : P + 10 + 4 ≤ 8 * bs.length := Classical.byContradiction fun e => getP_bad (s := ⟨P + 10, out, 0⟩) e h2
  refine h ⟨by omega, ?_, ?_⟩
  · unfold hdN at hN; rw [e1] at hN; omega
  · unfold hdM at hM; rw [hA, e2] at hM; omega
theorem ownLs_dec {bs : List UInt8} {P N M P2 : Nat} {out : List UInt8} {L : List Int} (hN : hdN bs ⟨P, out, 0⟩ = N) (hM : hdM bs ⟨P, out, 0⟩ = M) (hL : hdL bs ⟨P, out, 0⟩ = (L, ⟨P2, out, 0⟩)) :
    (krV L = 32768 → ownLs bs ⟨P, out, 0⟩ = listF bs L (N + M) (N + M + 1) [] ⟨P2, out, 0⟩) ∧ (¬ krV L = 32768 → ¬ (ownLs bs ⟨P, out, 0⟩).2.e = 0) := by
  unfold ownLs
  rw [hL, hN, hM]
  constructor
  · intro h
    have h1 := (decP_full (ls := L) (s := ⟨P2, out, 0⟩) rfl).2 h
    obtain ⟨-, h3, h4⟩ := decP_zero h1
    show (listD bs (decD L ⟨P2, out, 0⟩) (N + M) (decP L false ⟨P2, out, 0⟩)) = _
    rw [h3, h4]
    rfl
  · intro h h2
    exact h ((decP_full (ls := L) (s := ⟨P2, out, 0⟩) rfl).1 (listD_e0 h2))
theorem FI.side {w w' : World} {r g : Nat} {A : Option Addr} {n c P : Nat} {bs : List UInt8} {vo lv : Value} {out : List UInt8} {most : Int} {lo : Nat} (h : FI w r g A n c P bs vo out most) (hr : r < lo) (hv : ∀ k, vo.ownBlock = some k → k < lo) (hl : ∀ k, lv.ownBlock = some k → lo ≤ k) (hg : w.grownBy w' lv.ownBlock) : FI w' r g A n c P bs vo out most := by
  have hgr := h.gr
  have key : ∀ k, k < w.heap.size → k < lo → w'.heap[k]? = w.heap[k]? := fun k hk hlo => hg.block k hk (fun e => by have := hl k e.symm; omega)
  refine ⟨?_, ?_, h.rb.blw ((Below.refl g w).grown hg (Nat.le_of_lt h.rd.lt) (fun k hk => by have := hl k hk; omega)), World.ownsRow.kept h.own hg ?_, hgr, h.fit, h.big⟩
  · have hlt := h.arr.lt
    obtain ⟨t, ht⟩ := h.arr
    exact ⟨t, (key r hlt hr).trans ht⟩
  · have hlt := h.rd.lt
    obtain ⟨t, ht⟩ := h.rd
    exact ⟨t, (key g hlt (by omega)).trans ht⟩
  · cases e : vo.ownBlock with
    | none => exact .inl rfl
    | some k => exact .inr (fun e2 => by have h1 := hv k e; have h2 := hl k e2.symm; omega)
section
variable (r g n c P : Nat) (A : Option Addr) (bs : List UInt8) (vo : Value) (out : List UInt8) (most : Int) (w : World)
/-- What is read of lists. -/
def LsPost (R : List Int × RS) (N M : Nat) (e : Ending) (w' : World) : Prop := ∃ vx vy ok P', e = .returned (.tuple #[vx, vy, .bool ok]) ∧ FI w' r g A n c P' bs vo out most ∧ RFr w w' r g vo vo ∧
  ((ok = false ∧ vx = .slice none 0 0 ∧ vy = .slice none 0 0 ∧ ¬ R.2.e = 0) ∨
   (ok = true ∧ R.2 = ⟨P', out, 0⟩ ∧ R.1.length = N + M ∧ 257 ≤ N ∧ N ≤ 286 ∧ 1 ≤ M ∧ M ≤ 30 ∧ ∃ gq cx cy, vx = .slice (some ⟨gq, 0, none⟩) N cx ∧ vy = .slice (some ⟨gq, N, none⟩) M cy ∧ RdI w' w'.heap.size (some ⟨gq, 0, none⟩) N (R.1.take N) ∧ RdI w' w'.heap.size (some ⟨gq, N, none⟩) M (R.1.drop N)))
theorem iget_gen (m : Nat) (M : Int) (hM : M = (m : Int)) (h : FI w r g A n c P bs vo out most) (hm : m ≤ 24) :
    Calls Try.prog 32 #[.pointer (some ⟨r, 0, none⟩), .int .i64 M] w fun e w' => ∃ v ok P', e = .returned (.tuple #[.int .i64 v, .bool ok]) ∧ FI w' r g A n c P' bs vo out most ∧ RFr w w' r g vo vo := by
  by_cases hf : P + m ≤ 8 * n
  · exact (iget_ok r g n c P m A bs vo out most M w hM h hm hf).mono fun e w' h => ⟨_, _, _, h⟩
  · exact (iget_bad r g n c P m A bs vo out most M w hM h hm hf).mono fun e w' h => ⟨_, _, _, h⟩
set_option maxRecDepth 100000 in
set_option maxHeartbeats 6400000 in
theorem ilists_any (h : FI w r g A n c P bs vo out most) :
    Calls Try.prog 36 #[.pointer (some ⟨r, 0, none⟩)] w (LsPost r g n c A bs vo out most w (ownLs bs ⟨P, out, 0⟩) (hdN bs ⟨P, out, 0⟩) (hdM bs ⟨P, out, 0⟩)) := by
  have hrw := h.arr.lt
  have hgr := h.gr
  have hbig := h.big
  have HBL := Lib.hid h.rb.len
  have HVO : Hid (∀ k, vo.ownBlock = some k → k < w.heap.size) := (show ∀ k, _ from fun k hk => (World.ownsRow.lt h.own k hk).2)
  have H := Lib.hid h
  clear h
  by_cases hall : P + 14 ≤ 8 * n ∧ getV bs P 5 ≤ 29 ∧ getV bs (P + 5) 5 ≤ 29
  · obtain ⟨hf, hx2, hy2⟩ := hall
    have HG1 := Lib.hid (iget_ok r g n c P 5 A bs vo out most 5 w rfl H.out (by omega) (by omega))
    have HG2 := Lib.hid (fun w1 (h : FI w1 r g A n c (P + 5) bs vo out most) => iget_ok r g n c (P + 5) 5 A bs vo out most 5 w1 rfl h (by omega) (by omega))
    have HG3 := Lib.hid (fun w1 (h : FI w1 r g A n c (P + 10) bs vo out most) => iget_ok r g n c (P + 10) 4 A bs vo out most 4 w1 rfl h (by omega) (by omega))
    obtain ⟨hN, hM, hL⟩ := hd_go (bs := bs) (P := P) (out := out) (by rw [HBL.out]; exact hf) rfl rfl rfl hx2 hy2
    have hz2 := getV_lt bs (P + 10) 4
    have HDEC := Lib.hid (fun L P2 h => ownLs_dec (bs := bs) (P := P) (P2 := P2) (out := out) (L := L) hN hM h)
    rw [hN, hM]
    generalize getV bs (P + 10) 4 = z at *
    generalize getV bs (P + 5) 5 = y at *
    generalize getV bs P 5 = x at *
    obtain ⟨Q, hQ⟩ : ∃ Q, 4 + z = Q := ⟨_, rfl⟩
    rw [hQ] at hL
    have hzi : (z : Int) + 4 = (Q : Int) := by omega
    have hQ19 : Q ≤ 19 := by have h2 : z < 16 := hz2; omega
    have hx29 : ¬ (29 : Int) < (x : Int) := by omega
    have hy29 : ¬ (29 : Int) < (y : Int) := by omega
    obtain ⟨N, hNN⟩ : ∃ N, 257 + x = N := ⟨_, rfl⟩
    obtain ⟨M, hMM⟩ : ∃ M, 1 + y = M := ⟨_, rfl⟩
    obtain ⟨NM, hNM⟩ : ∃ NM, N + M = NM := ⟨_, rfl⟩
    rw [hNN, hMM] at HDEC ⊢
    have hxi : (x : Int) + 257 = (N : Int) := by omega
    have hxw : IntKind.i64.wrap (N : Int) = (N : Int) := wrap_i64_lt N (by omega)
    have hny : (N : Int) + (y : Int) + 1 = (NM : Int) := by omega
    have hnyw : IntKind.i64.wrap ((N : Int) + (y : Int)) = (N : Int) + (y : Int) := by rw [show (N : Int) + (y : Int) = ((N + y : Nat) : Int) by omega]; exact wrap_i64_lt _ (by omega)
    have hNMw : IntKind.i64.wrap (NM : Int) = (NM : Int) := wrap_i64_lt NM (by omega)
    have hQw : IntKind.i64.wrap (Q : Int) = (Q : Int) := wrap_i64_lt Q (by omega)
    have hN257 : 257 ≤ N ∧ N ≤ 286 ∧ 1 ≤ M ∧ M ≤ 30 := by omega
    have HDL := Lib.hid hL
    have HRB := Lib.hid (fun (h : (ownLs bs ⟨P, out, 0⟩).2.e = 0) => decP_e0 (listD_e0 h))
    have HNM := Lib.hid hNM
    generalize hdL bs ⟨P, out, 0⟩ = DL at *
    generalize hdN bs ⟨P, out, 0⟩ = dn at *
    generalize hdM bs ⟨P, out, 0⟩ = dm at *
    generalize ownLs bs ⟨P, out, 0⟩ = R at *
    clear hQ hL hz2 hN hM hMM hNN hNM
    go_enter Try.func36, Try.ntmps36
    go_wp2_with (first
      | (go_at_call 32; (with_reducible refine HG1.out.mono ?_); go_must (rintro e w1 ⟨rfl, hf1, hr1⟩; have HR1 := Lib.hid hr1; have HG21 := Lib.hid (HG2.out w1 hf1); clear hf1 hr1 HG1))
      | (go_at_call 32; (with_reducible refine HG21.out.mono ?_); go_must (rintro e w2 ⟨rfl, hf2, hr2⟩; have HR2 := Lib.hid (HR1.out.trans hr2); have HG32 := Lib.hid (HG3.out w2 hf2); clear hf2 hr2 HG21))
      | (go_at_call 32; (with_reducible refine HG32.out.mono ?_); go_must (rintro e wc ⟨rfl, hf3, hr3⟩; have HR3 := Lib.hid (HR2.out.trans hr3); have HF3 := Lib.hid hf3; have hrs := HR3.out.size; clear hf3 hr3 HG32))
      | (at_make; refine wpList_makeI rfl _ _ rfl 19 _ rfl rfl rfl (by omega) ?_; intro w3 hown hb3 hsz3; have HL3 := Lib.hid (ownI.mono hown hrs); have HF4 := Lib.hid (HF3.out.later hb3); have HR4 := Lib.hid (HR3.out.trans (RFr.ofB hb3 r g vo)); have hs3 := hb3.size; clear hown hb3)
      | (go_at_call 70; (with_reducible refine (order5_any w3).mono ?_); go_must (rintro e w5 ⟨rfl, ho5, hb5⟩; have HO5 := Lib.hid (ownI.mono ho5 (Nat.le_trans hrs hs3)); have HL5 := Lib.hid (HL3.out.later hb5); have HF5 := Lib.hid (HF4.out.later hb5); have HR5 := Lib.hid (HR4.out.trans (RFr.ofB hb5 r g vo)); clear ho5 hb5)))
    have hne12 : wc.heap.size ≠ w3.heap.size := by omega
    clear HF3 HR3 HL3 HF4 HR4 HR2 HR1 HG2 HG3 hx29 hy29
    generalize wc.heap.size = G1 at *
    generalize w3.heap.size = G2 at *
    clear hs3 hsz3 hrs
    have HL0 : Hid (lenRd bs ((ordL.take Q).drop 0) (List.replicate 19 0) ⟨P + 14, out, 0⟩ = DL) := (show _ = _ from HDL.out.symm)
    go_loopw [13] (fun vi wr => ∃ (i : Nat) (L : List Int) (P2 : Nat), i ≤ Q ∧ vi = .int .i64 i ∧ Hid (L.length = 19) ∧ Hid (FI wr r g A n c P2 bs vo out most) ∧ Hid (RFr w wr r g vo vo) ∧ Hid (ownI wr w.heap.size (.slice (some ⟨G1, 0, none⟩) 19 19) L) ∧ Hid (ownI wr w.heap.size (.slice (some ⟨G2, 0, none⟩) 19 19) (ordL.map fun (x : Nat) => (x : Int))) ∧ Hid (lenRd bs ((ordL.take Q).drop i) L ⟨P2, out, 0⟩ = DL)) (fun vi _ => Q - (intOf vi).toNat)
    case atStart => exact ⟨0, _, P + 14, Nat.zero_le _, rfl, (show (List.replicate 19 (0 : Int)).length = 19 from rfl), HF5, HR5, HL5, HO5, HL0⟩
    case round =>
      clear HF5 HR5 HL5 HO5 HL0
      obtain ⟨i, L, P2, hi, rfl, HLL, HF, HR, HL, HO, HS⟩ := hrel
      have hrs := HR.out.size
      by_cases hlt : i < Q
      · have hlti : (i : Int) < (Q : Int) := by omega
        have hi19 : i < ordL.length := by show i < 19; omega
        have hkk := ordR_lt i hi19
        have HST := Lib.hid HS.out
        rw [List.drop_eq_getElem_cons (show i < (ordL.take Q).length by rw [List.length_take]; show i < min Q 19; omega), List.getElem_take, lenRd] at HST
        have e1 : wr.cell? ⟨G2, i, none⟩ = some (.int .i64 (ordL[i] : Int)) := by
          have := ownI.cell HO.out rfl (k := i) (by rw [List.length_map]; exact hi19)
          rw [List.getElem_map] at this
          exact this
        generalize ordL[i] = kk at *
        have hkki : (kk : Int) < 19 := by omega
        by_cases hf3 : P2 + 3 ≤ 8 * n
        · have HG := Lib.hid (iget_ok r g n c P2 3 A bs vo out most 3 wr rfl HF.out (by omega) hf3)
          rw [getP_ok (s := ⟨P2, out, 0⟩) rfl (by rw [HBL.out]; exact hf3)] at HST
          generalize getV bs P2 3 = v at *
          go_wp2_with (go_at_call 32; (with_reducible refine HG.out.mono ?_); go_must (rintro e w6 ⟨rfl, hf6, hr6⟩; have HF6 := Lib.hid hf6; have HR6 := Lib.hid (HR.out.trans hr6); have HL6 : Hid (ownI w6 w.heap.size (.slice (some ⟨G1, 0, none⟩) 19 19) L) := (show ownI _ _ _ _ from ownI.rfr HL.out hr6 hrw (by omega) (fun k hk hk2 => by have h1 := HVO.out k hk; have h2 := (World.ownsRow.lt HL.out k hk2).1; omega)); have HO6 : Hid (ownI w6 w.heap.size (.slice (some ⟨G2, 0, none⟩) 19 19) (ordL.map fun (x : Nat) => (x : Int))) := (show ownI _ _ _ _ from ownI.rfr HO.out hr6 hrw (by omega) (fun k hk hk2 => by have h1 := HVO.out k hk; have h2 := (World.ownsRow.lt HO.out k hk2).1; omega)); have c6 := ownI.cell HL6.out HLL.out.symm (k := kk) (by rw [HLL.out]; exact hkk); have f6 := ownI.frozen HL6.out HLL.out.symm kk; have d6 := (by have h9 := ownI.cell HO6.out rfl (k := i) (by rw [List.length_map]; exact hi19); exact h9); have HGB := Lib.hid (World.ownsRow.stored (show w6.ownsRow w.heap.size _ _ (.slice (some ⟨G1, 0, none⟩) 19 19) 19 (cI L) from by have := HL6.out; unfold ownI at this; rwa [HLL.out] at this) kk (Value.int .i64 (v : Int))).2; have HLO : Hid (∀ k, (Value.slice (some ⟨G1, 0, none⟩) 19 19).ownBlock = some k → w.heap.size ≤ k) := (show ∀ k, _ from fun k hk => (World.ownsRow.lt HL6.out k hk).1); have e16 : w6.cell? ⟨G2, i, none⟩ = some (.int .i64 (kk : Int)) := (World.cell?_of_block (hr6.block G2 (World.ownsRow.lt HO.out G2 rfl).2 (by have h2 := (World.ownsRow.lt HO.out G2 rfl).1; omega) (by have h2 := (World.ownsRow.lt HO.out G2 rfl).1; omega) (fun e => by have h1 := HVO.out G2 e; have h2 := (World.ownsRow.lt HO.out G2 rfl).1; omega))).trans e1; clear hf6 hr6 d6))
          go_roundw
          case rel => exact ⟨i + 1, L.set kk (v : Int), P2 + 3, by omega, by go_num, (show _ = _ by rw [List.length_set]; exact HLL.out), FI.side HF6.out hrw HVO.out HLO.out HGB.out, RFr.side (l := L) HR6.out HLO.out HGB.out, ownI.store HL6.out HLL.out.symm kk _, ownI.far HO6.out (fun e => hne12 (by injection e with e; exact e.symm)) kk _, HST⟩
          case measure => simp [intOf]; omega
        · have HG := Lib.hid (iget_bad r g n c P2 3 A bs vo out most 3 wr rfl HF.out (by omega) hf3)
          have HE : Hid (¬ R.2.e = 0) := (show ¬ _ by
            have h1 : ¬ DL.2.e = 0 := fun h => by
              rw [← HST.out] at h
              exact getP_bad (s := ⟨P2, out, 0⟩) (m := 3) (by rw [HBL.out]; exact hf3) (lenRd_e0 bs _ _ _ h)
            exact fun hh => h1 (HRB.out hh))
          go_wp2_with (go_at_call 32; (with_reducible refine HG.out.mono ?_); go_must (rintro e w6 ⟨rfl, hf6, hr6⟩; have HF6 := Lib.hid hf6; have HR6 := Lib.hid (HR.out.trans hr6); clear hf6 hr6))
          go_ret3
          unfold LsPost
          exact ⟨_, _, false, _, rfl, HF6.out, HR6.out, .inl ⟨rfl, rfl, rfl, HE.out⟩⟩
      · obtain rfl : i = Q := by omega
        have hlti : ¬ (i : Int) < (i : Int) := by omega
        have HS2 : Hid ((L, ⟨P2, out, 0⟩) = DL) := (show _ = _ by
          rw [← HS.out, List.drop_eq_nil_of_le (by rw [List.length_take]; omega)]
          rfl)
        obtain ⟨HD1, HD2⟩ := HDEC.out L P2 HS2.out.symm
        have HD1 := Lib.hid HD1
        have HD2 := Lib.hid HD2
        have HNW := new5G_any wr.heap.size 19 19 (some ⟨G1, 0, none⟩) L wr HL.out.rd (Nat.le_refl _) (by omega)
        unfold New5G at HNW
        replace HNW := Lib.hid HNW
        have HKR := Lib.hid (fun w1 (h : Below wr.heap.size wr w1) => kraft5_any wr.heap.size 19 19 (some ⟨G1, 0, none⟩) L w1 (RdI.blw HL.out.rd h) (by omega))
        have HKF := Lib.hid (fun h => krV_full (ls := L) h)
        have HLL := HLL
        generalize krE L = KE at *
        clear HDEC HS HS2 HDL HO hne12 hlt
        by_cases hK : krV L = 32768
        · obtain ⟨hnw, hb1, hb2, hb3⟩ := HKF.out hK
          have HOK := Lib.hid (nwE_ok hnw)
          have HRR := Lib.hid (HD1.out hK)
          rw [hnw] at HNW
          rw [hK] at HKR
          clear hb1 hb2 hb3 hnw hK HD1 HD2 HKF
          go_wp2_with (first
            | (go_at_call 66; (with_reducible refine HNW.out.mono ?_); go_must (rintro e w5 ⟨v5, rfl, hv5, -, hb5⟩; obtain ⟨gd, rfl, hdg⟩ := hv5 rfl; have hs5 := hb5.size; have HF5 := Lib.hid (HF.out.later hb5); have HR5 := Lib.hid (HR.out.trans (RFr.ofB hb5 r g vo)); have HD5 := Lib.hid (DK5.new (r := r) (g := g) (vo := vo) hdg (by omega) (by omega) (fun k hk => by have := HVO.out k hk; omega)); have HKR5 := Lib.hid (HKR.out w5 hb5); clear hv5 hb5 hdg))
            | (go_at_call 37; (with_reducible refine HKR5.out.mono ?_); go_must (rintro e w6 ⟨rfl, rfl⟩)))
          clear HF HR HL HKR HKR5 HNW
          have hr5s := HR5.out.size
          have HV5 : Hid (∀ k, vo.ownBlock = some k → k < w5.heap.size) := (show ∀ k, _ from fun k hk => by have := HVO.out k hk; omega)
          have HRF0 := Lib.hid (RFr.refl w5 r g vo)
          have HOW0 := Lib.hid (ownI.nil_ w5 w5.heap.size)
          rw [HNM.out] at HRR
          have HL0 := Lib.hid HRR.out.symm
          have HFU0 : Hid (NM + 1 ≤ ([] : List Int).length + (NM + 1)) := (show _ ≤ _ by simp)
          have hrw5 : r < w5.heap.size := by omega
          go_loopw [20] (fun v20 wr => ∃ (l : List Int) (P3 f : Nat), l.length ≤ NM ∧ Hid (FI wr r g A n c P3 bs vo out most) ∧ Hid (RFr w5 wr r g vo vo) ∧ Hid (ownI wr w5.heap.size v20 l) ∧ Hid (listF bs L NM f l ⟨P3, out, 0⟩ = R) ∧ Hid (NM + 1 ≤ l.length + f)) (fun v20 _ => NM - lenV v20)
          case atStart => exact ⟨[], P2, NM + 1, Nat.zero_le _, HF5, HRF0, HOW0, HL0, HFU0⟩
          case round =>
            clear HF5 HRF0 HOW0 HL0 HFU0 HRR
            obtain ⟨l, P3, f, hl, HF, HR, HL, HS, HFU⟩ := hrel
            obtain ⟨Al, cl, rfl, hcl0, hcl1, hcl2⟩ := HL.out.form
            obtain ⟨K, hK⟩ : ∃ K, l.length = K := ⟨_, rfl⟩
            have HKL := Lib.hid hK
            by_cases hlt : K < NM
            · have hlti : (K : Int) < (NM : Int) := by omega
              have hlt2 : l.length < NM := by omega
              obtain ⟨f, rfl⟩ : ∃ f', f = f' + 1 := ⟨f - 1, by have := HFU.out; omega⟩
              have HN := Lib.hid (inext_any r g gd n c P3 A bs vo out most L wr HF.out (HD5.out.fr HR.out) HOK.out)
              have HNP := Lib.hid (nextP0s bs L P3 out)
              obtain ⟨q, hq1, hq2, hq3⟩ := nx_val L bs 15 1 0 P3
              have hq19 : q ≤ 18 := by have := HLL.out; omega
              rw [hq1] at HN HNP
              clear hq1 hq2 hq3
              generalize (nx L bs 15 1 0 P3).2.2 = P4 at *
              generalize (nx L bs 15 1 0 P3).2.1 = e1 at *
              have hcl9 : l.length = K := hK
              rw [hK] at HL
              simp only [hK]
              have c0 := HF.out.arr.cell (k := 0) rfl
              clear hcl0 hcl1 hcl2 hcl9
              by_cases ht : e1 = 0
              · subst ht
                by_cases hq16 : q < 16
                · have hqi : (q : Int) < 16 := by omega
                  have d16 : ((q : Int) == 16) = false := beq_eq_false_iff_ne.2 (by omega)
                  have d17 : ((q : Int) == 17) = false := beq_eq_false_iff_ne.2 (by omega)
                  have d18 : ((q : Int) == 18) = false := beq_eq_false_iff_ne.2 (by omega)
                  have HST : Hid (listF bs L NM f (l ++ List.replicate 1 (q : Int)) ⟨P4, out, 0⟩ = R) := (show _ = _ by
                    rw [← HS.out, lst_lit hlt2 rfl (by rw [HNP.out]) (by rw [HNP.out]; exact hqi), HNP.out]; rfl)
                  have hovi : ¬ (NM : Int) < (K : Int) + 1 := by omega
                  clear hlt2 hK
                  go_upto_region 43 with (first
                    | (go_at_call 67; (with_reducible refine HN.out.mono ?_); go_must (rintro e w6 ⟨rfl, hf6, hr6⟩;  have HF6 := Lib.hid hf6; have HR6 := Lib.hid (HR.out.trans hr6); have HL6 : Hid (ownI w6 w5.heap.size (.slice Al K cl) l) := (show ownI _ _ _ _ from ownI.rfr HL.out hr6 hrw5 (by omega) (fun k hk hk2 => by have h1 := HV5.out k hk; have h2 := (World.ownsRow.lt HL.out k hk2).1; omega)); clear hf6 hr6)))
                  have HSN : Hid (listF bs L NM f (l ++ List.replicate 1 (q : Int)) ⟨P4, out, 0⟩ = R) := (show _ = _ by
                    exact HST.out)
                  have HL70 : Hid (ownI w6 w5.heap.size (.slice Al K cl) (l ++ List.replicate 0 (q : Int))) := (show ownI _ _ _ _ by have := HL6.out; rwa [show l ++ List.replicate 0 (q : Int) = l by simp])
                  have HF70 := Lib.hid HF6.out
                  have HR70 := Lib.hid HR6.out
                  clear HN HS HNP HST
                  go_wp2_with fail
                  obtain ⟨wo, rfl⟩ : ∃ wo : World, wo = wr := ⟨_, rfl⟩
                  go_loopw [26, 20] (fun vi vl wr => ∃ i : Nat, i ≤ 1 ∧ vi = .int .i64 i ∧ Hid (FI wr r g A n c (P4) bs vo out most) ∧ Hid (RFr w5 wr r g vo vo) ∧ Hid (ownI wr w5.heap.size vl (l ++ List.replicate i (q : Int)))) (fun vi _ _ => 1 - (intOf vi).toNat)
                  case atStart => exact ⟨0, Nat.zero_le _, rfl, HF70, HR70, HL70⟩
                  case round =>
                    clear HF70 HR70 HL70
                    obtain ⟨i, hi, rfl, HF, HR, HL⟩ := hrel
                    obtain ⟨Aq, cq, rfl, -, -, -⟩ := HL.out.form
                    have hlen : (l ++ List.replicate i (q : Int)).length = K + i := by rw [List.length_append, List.length_replicate, HKL.out]
                    by_cases hlt : i < 1
                    · have hlti : (i : Int) < (1 : Int) := by omega
                      have HSNC := Lib.hid (rep_snoc l (q : Int) i)
                      have HLO : Hid (∀ k, (Value.slice Aq (l ++ List.replicate i (q : Int)).length cq).ownBlock = some k → w5.heap.size ≤ k) := (show ∀ k, _ from fun k hk => (World.ownsRow.lt HL.out k hk).1)
                      generalize l ++ List.replicate i (q : Int) = ll at *
                      have HLA := Lib.hid (ownI.alloc HL.out (.cells #[Value.int .i64 (q : Int)] 3))
                      have HFA := Lib.hid (HF.out.later ((Below.refl wr.heap.size wr).alloc (Nat.le_refl _) (.cells #[Value.int .i64 (q : Int)] 3)))
                      have HRA := Lib.hid (HR.out.allocd (.cells #[Value.int .i64 (q : Int)] 3))
                      have hq1 : ll.length + 1 ≤ 1099511627776 := by omega
                      have hq2 : w5.heap.size ≤ (wr.alloc (.cells #[Value.int .i64 (q : Int)] 3)).heap.size := HRA.out.size
                      clear hlen
                      go_wp2_with (at_builtin; go_must (refine wpList_appendI rfl (.tmp 174) (.tmp 176) rfl w5.heap.size _ ll rfl HLA.out (wr.heap.size + 1) 1 1 (some ⟨wr.heap.size, 0, none⟩) [(q : Int)] rfl (rd_oneI wr (q : Int)) hq1 hq2 ?_; intro v7 w7 ho7 hg7 hb7 ha7; rw [HSNC.out] at ho7; have HL7 := Lib.hid ho7; have HF7 := Lib.hid (FI.side HFA.out hrw5 HV5.out HLO.out hg7); have HR7 := Lib.hid (RFr.side (l := ll) HRA.out HLO.out hg7); clear ho7 hg7 hb7 ha7))
                      go_roundw
                      case rel => exact ⟨i + 1, by omega, by go_num, HF7, HR7, HL7⟩
                      case measure => simp [intOf]; omega
                    · obtain rfl : i = 1 := by omega
                      have hlti : ¬ ((1 : Nat) : Int) < ((1 : Nat) : Int) := by omega
                      have HFU9 : Hid (NM + 1 ≤ (l ++ List.replicate 1 (q : Int)).length + f) := (show _ ≤ _ by rw [hlen]; have h9 := HFU.out; rw [HKL.out] at h9; omega)
                      have hle9 : (l ++ List.replicate 1 (q : Int)).length ≤ NM := by rw [hlen]; omega
                      have HM9 : Hid (NM - (l ++ List.replicate 1 (q : Int)).length < NM - K) := (show _ < _ by rw [hlen]; omega)
                      clear hlen
                      go_wp2_with fail
                      go_roundw
                      case rel => exact ⟨_, P4, f, hle9, HF, HR, HL, HSN, HFU9⟩
                      case measure => exact HM9.out
                · rcases (show q = 16 ∨ q = 17 ∨ q = 18 by omega) with hq | hq | hq
                  · subst hq
                    have d16 : (((16 : Nat) : Int) == 16) = true := rfl
                    by_cases hl0 : K = 0
                    · have HE : Hid (¬ R.2.e = 0) := (show ¬ _ by
                        rw [← HS.out]
                        exact lst_16n hlt2 rfl (by rw [HNP.out]) (by rw [HNP.out]; rfl) (by rw [HKL.out]; exact hl0))
                      have hl0b : ((K : Int) == 0) = true := by rw [hl0]; rfl
                      have hl0i : (K : Int) = 0 := by omega
                      clear hlt2 hK
                      go_wp2_with (first
                        | (go_at_call 67; (with_reducible refine HN.out.mono ?_); go_must (rintro e w6 ⟨rfl, hf6, hr6⟩;  have HF6 := Lib.hid hf6; have HR6 := Lib.hid (HR.out.trans hr6); have HL6 : Hid (ownI w6 w5.heap.size (.slice Al K cl) l) := (show ownI _ _ _ _ from ownI.rfr HL.out hr6 hrw5 (by omega) (fun k hk hk2 => by have h1 := HV5.out k hk; have h2 := (World.ownsRow.lt HL.out k hk2).1; omega)); clear hf6 hr6)))
                      have HR9 := Lib.hid (HR5.out.trans HR6.out)
                      go_ret3
                      unfold LsPost
                      exact ⟨_, _, false, _, rfl, HF6.out, HR9.out, .inl ⟨rfl, rfl, rfl, HE.out⟩⟩
                    · have hl0b : ((K : Int) == 0) = false := beq_eq_false_iff_ne.2 (by omega)
                      have hlD : K - 1 < l.length := by omega
                      have hgd : l.getD (l.length - 1) 0 = l[K - 1] := by rw [HKL.out, List.getD_eq_getElem?_getD, List.getElem?_eq_getElem hlD]; rfl
                      obtain ⟨-, gq, hgq, -, -⟩ := ownI.pos HL.out (show 0 < K by omega)
                      subst hgq
                      have HCL : Hid (∀ w', ownI w' w5.heap.size (.slice (some ⟨gq, 0, none⟩) K cl) l → w'.cell? ⟨gq, K - 1, none⟩ = some (.int .i64 l[K - 1])) := (show ∀ w', _ from fun w' h => ownI.cell h HKL.out.symm hlD)
                      have HST0 := Lib.hid (lst_16 (bs := bs) (ls := L) (all := NM) (f := f) (l := l) (s := ⟨P3, out, 0⟩) hlt2 rfl (by rw [HNP.out]) (by rw [HNP.out]; rfl) (by omega))
                      rw [HS.out, hgd, HNP.out] at HST0
                      generalize l[K - 1] = x at *
                      clear hgd
                      obtain ⟨D, hD⟩ : ∃ D, K - 1 = D := ⟨_, rfl⟩
                      rw [hD] at HCL
                      have hDi : (K : Int) - 1 = (D : Int) := by omega
                      have hDw : IntKind.i64.wrap (D : Int) = (D : Int) := wrap_i64_lt D (by omega)
                      have hDw2 : IntKind.i64.wrap ((K : Int) - 1) = (D : Int) := by rw [hDi]; exact hDw
                      have hDl : D < K := by omega
                      clear hlt2 hK
                      by_cases hfg : P4 + 2 ≤ 8 * n
                      · have HG := Lib.hid (fun w6 (h : FI w6 r g A n c P4 bs vo out most) => iget_ok r g n c P4 2 A bs vo out most 2 w6 rfl h (by omega) hfg)
                        have HGP : Hid (getP bs (⟨P4, out, 0⟩ : RS) 2 = (getV bs P4 2, ⟨P4 + 2, out, 0⟩)) := (show _ = _ from getP_ok rfl (by rw [HBL.out]; exact hfg))
                        have hv := getV_lt bs P4 2
                        have HST1 := Lib.hid HST0.out
                        rw [show (getP bs (((16 : Nat) : Int), (⟨P4, out, 0⟩ : RS)).2 2) = getP bs (⟨P4, out, 0⟩ : RS) 2 from rfl, HGP.out] at HST1
                        generalize getV bs P4 2 = v at *
                        have hvb : v < 200 := Nat.lt_of_lt_of_le hv (by decide)
                        obtain ⟨T, hT⟩ : ∃ T, 3 + v = T := ⟨_, rfl⟩
                        have hTi : (v : Int) + 3 = (T : Int) := by omega
                        have hT3 : 3 ≤ T := by omega
                        have hTw : IntKind.i64.wrap (T : Int) = (T : Int) := wrap_i64_lt T (by omega)
                        have hKTw : IntKind.i64.wrap ((K : Int) + (T : Int)) = (K : Int) + (T : Int) := by rw [show (K : Int) + (T : Int) = ((K + T : Nat) : Int) by omega]; exact wrap_i64_lt _ (by omega)
                        replace HST1 : Hid (R = listF bs L NM f (repP l x T NM ⟨P4 + 2, out, 0⟩).1 (repP l x T NM ⟨P4 + 2, out, 0⟩).2) := (show _ = _ by rw [← hT]; exact HST1.out)
                        clear hv hT HST0 HGP
                        go_upto_region 41 with (first
                          | (go_at_call 67; (with_reducible refine HN.out.mono ?_); go_must (rintro e w6 ⟨rfl, hf6, hr6⟩; have hc6 := HCL.out w6 (ownI.rfr HL.out hr6 hrw5 (by omega) (fun k hk hk2 => by have h1 := HV5.out k hk; have h2 := (World.ownsRow.lt HL.out k hk2).1; omega)); have HG6 := Lib.hid (HG.out w6 hf6); have hr6x := Lib.hid hr6; have HF6 := Lib.hid hf6; have HR6 := Lib.hid (HR.out.trans hr6); have HL6 : Hid (ownI w6 w5.heap.size (.slice (some ⟨gq, 0, none⟩) K cl) l) := (show ownI _ _ _ _ from ownI.rfr HL.out hr6 hrw5 (by omega) (fun k hk hk2 => by have h1 := HV5.out k hk; have h2 := (World.ownsRow.lt HL.out k hk2).1; omega)); clear hf6 hr6))
                          | (go_at_call 32; (with_reducible refine HG6.out.mono ?_); go_must (rintro e w7 ⟨rfl, hf7, hr7⟩; have HF7 := Lib.hid hf7; have HR7 := Lib.hid (HR6.out.trans hr7); have HL7 : Hid (ownI w7 w5.heap.size (.slice (some ⟨gq, 0, none⟩) K cl) l) := (show ownI _ _ _ _ from ownI.rfr HL6.out hr7 hrw5 (by omega) (fun k hk hk2 => by have h1 := HV5.out k hk; have h2 := (World.ownsRow.lt HL6.out k hk2).1; omega)); clear hf7 hr7 HG6)))
                        by_cases hov : NM < K + T
                        · have hovi : (NM : Int) < (K : Int) + (T : Int) := by omega
                          have HE : Hid (¬ R.2.e = 0) := (show ¬ _ by
                            rw [HST1.out]
                            exact listF_err (repP_over rfl (by rw [HKL.out]; exact hov)))
                          have HR9 := Lib.hid (HR5.out.trans HR7.out)
                          go_wp2_with fail
                          go_ret3
                          unfold LsPost
                          exact ⟨_, _, false, _, rfl, HF7.out, HR9.out, .inl ⟨rfl, rfl, rfl, HE.out⟩⟩
                        · have hovi : ¬ (NM : Int) < (K : Int) + (T : Int) := by omega
                          have HSN : Hid (listF bs L NM f (l ++ List.replicate T x) ⟨P4 + 2, out, 0⟩ = R) := (show _ = _ by
                            rw [HST1.out, repP_ok rfl (by rw [HKL.out]; omega)])
                          have HL70 : Hid (ownI w7 w5.heap.size (.slice (some ⟨gq, 0, none⟩) K cl) (l ++ List.replicate 0 x)) := (show ownI _ _ _ _ by have := HL7.out; rwa [show l ++ List.replicate 0 x = l by simp])
                          have HF70 := Lib.hid HF7.out
                          have HR70 := Lib.hid HR7.out
                          clear HN HS HNP
                          go_wp2_with fail
                          obtain ⟨wo, rfl⟩ : ∃ wo : World, wo = wr := ⟨_, rfl⟩
                          go_loopw [26, 20] (fun vi vl wr => ∃ i : Nat, i ≤ T ∧ vi = .int .i64 i ∧ Hid (FI wr r g A n c (P4 + 2) bs vo out most) ∧ Hid (RFr w5 wr r g vo vo) ∧ Hid (ownI wr w5.heap.size vl (l ++ List.replicate i x))) (fun vi _ _ => T - (intOf vi).toNat)
                          case atStart => exact ⟨0, Nat.zero_le _, rfl, HF70, HR70, HL70⟩
                          case round =>
                            clear HF70 HR70 HL70
                            obtain ⟨i, hi, rfl, HF, HR, HL⟩ := hrel
                            obtain ⟨Aq, cq, rfl, -, -, -⟩ := HL.out.form
                            have hlen : (l ++ List.replicate i x).length = K + i := by rw [List.length_append, List.length_replicate, HKL.out]
                            by_cases hlt : i < T
                            · have hlti : (i : Int) < (T : Int) := by omega
                              have HSNC := Lib.hid (rep_snoc l x i)
                              have HLO : Hid (∀ k, (Value.slice Aq (l ++ List.replicate i x).length cq).ownBlock = some k → w5.heap.size ≤ k) := (show ∀ k, _ from fun k hk => (World.ownsRow.lt HL.out k hk).1)
                              generalize l ++ List.replicate i x = ll at *
                              have HLA := Lib.hid (ownI.alloc HL.out (.cells #[Value.int .i64 x] 3))
                              have HFA := Lib.hid (HF.out.later ((Below.refl wr.heap.size wr).alloc (Nat.le_refl _) (.cells #[Value.int .i64 x] 3)))
                              have HRA := Lib.hid (HR.out.allocd (.cells #[Value.int .i64 x] 3))
                              have hq1 : ll.length + 1 ≤ 1099511627776 := by omega
                              have hq2 : w5.heap.size ≤ (wr.alloc (.cells #[Value.int .i64 x] 3)).heap.size := HRA.out.size
                              clear hlen
                              go_wp2_with (at_builtin; go_must (refine wpList_appendI rfl (.tmp 174) (.tmp 176) rfl w5.heap.size _ ll rfl HLA.out (wr.heap.size + 1) 1 1 (some ⟨wr.heap.size, 0, none⟩) [x] rfl (rd_oneI wr x) hq1 hq2 ?_; intro v7 w7 ho7 hg7 hb7 ha7; rw [HSNC.out] at ho7; have HL7 := Lib.hid ho7; have HF7 := Lib.hid (FI.side HFA.out hrw5 HV5.out HLO.out hg7); have HR7 := Lib.hid (RFr.side (l := ll) HRA.out HLO.out hg7); clear ho7 hg7 hb7 ha7))
                              go_roundw
                              case rel => exact ⟨i + 1, by omega, by go_num, HF7, HR7, HL7⟩
                              case measure => simp [intOf]; omega
                            · obtain rfl : i = T := by omega
                              have hlti : ¬ (i : Int) < (i : Int) := by omega
                              have HFU9 : Hid (NM + 1 ≤ (l ++ List.replicate i x).length + f) := (show _ ≤ _ by rw [hlen]; have h9 := HFU.out; rw [HKL.out] at h9; omega)
                              have hle9 : (l ++ List.replicate i x).length ≤ NM := by rw [hlen]; omega
                              have HM9 : Hid (NM - (l ++ List.replicate i x).length < NM - K) := (show _ < _ by rw [hlen]; omega)
                              clear hlen
                              go_wp2_with fail
                              go_roundw
                              case rel => exact ⟨_, P4 + 2, f, hle9, HF, HR, HL, HSN, HFU9⟩
                              case measure => exact HM9.out
                      · have HG := Lib.hid (fun w6 (h : FI w6 r g A n c P4 bs vo out most) => iget_bad r g n c P4 2 A bs vo out most 2 w6 rfl h (by omega) hfg)
                        have HE : Hid (¬ R.2.e = 0) := (show ¬ _ by
                          rw [HST0.out]
                          exact listF_err (repP_err (getP_bad (s := ⟨P4, out, 0⟩) (by rw [HBL.out]; exact hfg))))
                        clear HST0
                        go_wp2_with (first
                          | (go_at_call 67; (with_reducible refine HN.out.mono ?_); go_must (rintro e w6 ⟨rfl, hf6, hr6⟩; have hc6 := HCL.out w6 (ownI.rfr HL.out hr6 hrw5 (by omega) (fun k hk hk2 => by have h1 := HV5.out k hk; have h2 := (World.ownsRow.lt HL.out k hk2).1; omega)); have HG6 := Lib.hid (HG.out w6 hf6); have hr6x := Lib.hid hr6; have HF6 := Lib.hid hf6; have HR6 := Lib.hid (HR.out.trans hr6); have HL6 : Hid (ownI w6 w5.heap.size (.slice (some ⟨gq, 0, none⟩) K cl) l) := (show ownI _ _ _ _ from ownI.rfr HL.out hr6 hrw5 (by omega) (fun k hk hk2 => by have h1 := HV5.out k hk; have h2 := (World.ownsRow.lt HL.out k hk2).1; omega)); clear hf6 hr6))
                          | (go_at_call 32; (with_reducible refine HG6.out.mono ?_); go_must (rintro e w7 ⟨rfl, hf7, hr7⟩; have HF7 := Lib.hid hf7; have HR7 := Lib.hid (HR6.out.trans hr7); have HL7 : Hid (ownI w7 w5.heap.size (.slice (some ⟨gq, 0, none⟩) K cl) l) := (show ownI _ _ _ _ from ownI.rfr HL6.out hr7 hrw5 (by omega) (fun k hk hk2 => by have h1 := HV5.out k hk; have h2 := (World.ownsRow.lt HL6.out k hk2).1; omega)); clear hf7 hr7 HG6)))
                        have HR9 := Lib.hid (HR5.out.trans HR7.out)
                        go_ret3
                        unfold LsPost
                        exact ⟨_, _, false, _, rfl, HF7.out, HR9.out, .inl ⟨rfl, rfl, rfl, HE.out⟩⟩
                  · subst hq
                    have d16 : (((17 : Nat) : Int) == 16) = false := rfl
                    have d17 : (((17 : Nat) : Int) == 17) = true := rfl
                    have HST0 := Lib.hid (lst_17 (bs := bs) (ls := L) (all := NM) (f := f) (l := l) (s := ⟨P3, out, 0⟩) hlt2 rfl (by rw [HNP.out]) (by rw [HNP.out]; rfl))
                    rw [HS.out, HNP.out] at HST0
                    clear hlt2 hK
                    by_cases hfg : P4 + 3 ≤ 8 * n
                    · have HG := Lib.hid (fun w6 (h : FI w6 r g A n c P4 bs vo out most) => iget_ok r g n c P4 3 A bs vo out most 3 w6 rfl h (by omega) hfg)
                      have HGP : Hid (getP bs (⟨P4, out, 0⟩ : RS) 3 = (getV bs P4 3, ⟨P4 + 3, out, 0⟩)) := (show _ = _ from getP_ok rfl (by rw [HBL.out]; exact hfg))
                      have hv := getV_lt bs P4 3
                      have HST1 := Lib.hid HST0.out
                      rw [show (getP bs (((17 : Nat) : Int), (⟨P4, out, 0⟩ : RS)).2 3) = getP bs (⟨P4, out, 0⟩ : RS) 3 from rfl, HGP.out] at HST1
                      generalize getV bs P4 3 = v at *
                      have hvb : v < 200 := Nat.lt_of_lt_of_le hv (by decide)
                      obtain ⟨T, hT⟩ : ∃ T, 3 + v = T := ⟨_, rfl⟩
                      have hTi : (v : Int) + 3 = (T : Int) := by omega
                      have hT3 : 3 ≤ T := by omega
                      have hTw : IntKind.i64.wrap (T : Int) = (T : Int) := wrap_i64_lt T (by omega)
                      have hKTw : IntKind.i64.wrap ((K : Int) + (T : Int)) = (K : Int) + (T : Int) := by rw [show (K : Int) + (T : Int) = ((K + T : Nat) : Int) by omega]; exact wrap_i64_lt _ (by omega)
                      replace HST1 : Hid (R = listF bs L NM f (repP l 0 T NM ⟨P4 + 3, out, 0⟩).1 (repP l 0 T NM ⟨P4 + 3, out, 0⟩).2) := (show _ = _ by rw [← hT]; exact HST1.out)
                      clear hv hT HST0 HGP
                      go_upto_region 41 with (first
                        | (go_at_call 67; (with_reducible refine HN.out.mono ?_); go_must (rintro e w6 ⟨rfl, hf6, hr6⟩;  have HG6 := Lib.hid (HG.out w6 hf6); have hr6x := Lib.hid hr6; have HF6 := Lib.hid hf6; have HR6 := Lib.hid (HR.out.trans hr6); have HL6 : Hid (ownI w6 w5.heap.size (.slice Al K cl) l) := (show ownI _ _ _ _ from ownI.rfr HL.out hr6 hrw5 (by omega) (fun k hk hk2 => by have h1 := HV5.out k hk; have h2 := (World.ownsRow.lt HL.out k hk2).1; omega)); clear hf6 hr6))
                        | (go_at_call 32; (with_reducible refine HG6.out.mono ?_); go_must (rintro e w7 ⟨rfl, hf7, hr7⟩; have HF7 := Lib.hid hf7; have HR7 := Lib.hid (HR6.out.trans hr7); have HL7 : Hid (ownI w7 w5.heap.size (.slice Al K cl) l) := (show ownI _ _ _ _ from ownI.rfr HL6.out hr7 hrw5 (by omega) (fun k hk hk2 => by have h1 := HV5.out k hk; have h2 := (World.ownsRow.lt HL6.out k hk2).1; omega)); clear hf7 hr7 HG6)))
                      by_cases hov : NM < K + T
                      · have hovi : (NM : Int) < (K : Int) + (T : Int) := by omega
                        have HE : Hid (¬ R.2.e = 0) := (show ¬ _ by
                          rw [HST1.out]
                          exact listF_err (repP_over rfl (by rw [HKL.out]; exact hov)))
                        have HR9 := Lib.hid (HR5.out.trans HR7.out)
                        go_wp2_with fail
                        go_ret3
                        unfold LsPost
                        exact ⟨_, _, false, _, rfl, HF7.out, HR9.out, .inl ⟨rfl, rfl, rfl, HE.out⟩⟩
                      · have hovi : ¬ (NM : Int) < (K : Int) + (T : Int) := by omega
                        have HSN : Hid (listF bs L NM f (l ++ List.replicate T 0) ⟨P4 + 3, out, 0⟩ = R) := (show _ = _ by
                          rw [HST1.out, repP_ok rfl (by rw [HKL.out]; omega)])
                        have HL70 : Hid (ownI w7 w5.heap.size (.slice Al K cl) (l ++ List.replicate 0 0)) := (show ownI _ _ _ _ by have := HL7.out; rwa [show l ++ List.replicate 0 0 = l by simp])
                        have HF70 := Lib.hid HF7.out
                        have HR70 := Lib.hid HR7.out
                        clear HN HS HNP
                        go_wp2_with fail
                        obtain ⟨wo, rfl⟩ : ∃ wo : World, wo = wr := ⟨_, rfl⟩
                        go_loopw [26, 20] (fun vi vl wr => ∃ i : Nat, i ≤ T ∧ vi = .int .i64 i ∧ Hid (FI wr r g A n c (P4 + 3) bs vo out most) ∧ Hid (RFr w5 wr r g vo vo) ∧ Hid (ownI wr w5.heap.size vl (l ++ List.replicate i 0))) (fun vi _ _ => T - (intOf vi).toNat)
                        case atStart => exact ⟨0, Nat.zero_le _, rfl, HF70, HR70, HL70⟩
                        case round =>
                          clear HF70 HR70 HL70
                          obtain ⟨i, hi, rfl, HF, HR, HL⟩ := hrel
                          obtain ⟨Aq, cq, rfl, -, -, -⟩ := HL.out.form
                          have hlen : (l ++ List.replicate i 0).length = K + i := by rw [List.length_append, List.length_replicate, HKL.out]
                          by_cases hlt : i < T
                          · have hlti : (i : Int) < (T : Int) := by omega
                            have HSNC := Lib.hid (rep_snoc l 0 i)
                            have HLO : Hid (∀ k, (Value.slice Aq (l ++ List.replicate i 0).length cq).ownBlock = some k → w5.heap.size ≤ k) := (show ∀ k, _ from fun k hk => (World.ownsRow.lt HL.out k hk).1)
                            generalize l ++ List.replicate i 0 = ll at *
                            have HLA := Lib.hid (ownI.alloc HL.out (.cells #[Value.int .i64 0] 3))
                            have HFA := Lib.hid (HF.out.later ((Below.refl wr.heap.size wr).alloc (Nat.le_refl _) (.cells #[Value.int .i64 0] 3)))
                            have HRA := Lib.hid (HR.out.allocd (.cells #[Value.int .i64 0] 3))
                            have hq1 : ll.length + 1 ≤ 1099511627776 := by omega
                            have hq2 : w5.heap.size ≤ (wr.alloc (.cells #[Value.int .i64 0] 3)).heap.size := HRA.out.size
                            clear hlen
                            go_wp2_with (at_builtin; go_must (refine wpList_appendI rfl (.tmp 174) (.tmp 176) rfl w5.heap.size _ ll rfl HLA.out (wr.heap.size + 1) 1 1 (some ⟨wr.heap.size, 0, none⟩) [0] rfl (rd_oneI wr 0) hq1 hq2 ?_; intro v7 w7 ho7 hg7 hb7 ha7; rw [HSNC.out] at ho7; have HL7 := Lib.hid ho7; have HF7 := Lib.hid (FI.side HFA.out hrw5 HV5.out HLO.out hg7); have HR7 := Lib.hid (RFr.side (l := ll) HRA.out HLO.out hg7); clear ho7 hg7 hb7 ha7))
                            go_roundw
                            case rel => exact ⟨i + 1, by omega, by go_num, HF7, HR7, HL7⟩
                            case measure => simp [intOf]; omega
                          · obtain rfl : i = T := by omega
                            have hlti : ¬ (i : Int) < (i : Int) := by omega
                            have HFU9 : Hid (NM + 1 ≤ (l ++ List.replicate i 0).length + f) := (show _ ≤ _ by rw [hlen]; have h9 := HFU.out; rw [HKL.out] at h9; omega)
                            have hle9 : (l ++ List.replicate i 0).length ≤ NM := by rw [hlen]; omega
                            have HM9 : Hid (NM - (l ++ List.replicate i 0).length < NM - K) := (show _ < _ by rw [hlen]; omega)
                            clear hlen
                            go_wp2_with fail
                            go_roundw
                            case rel => exact ⟨_, P4 + 3, f, hle9, HF, HR, HL, HSN, HFU9⟩
                            case measure => exact HM9.out
                    · have HG := Lib.hid (fun w6 (h : FI w6 r g A n c P4 bs vo out most) => iget_bad r g n c P4 3 A bs vo out most 3 w6 rfl h (by omega) hfg)
                      have HE : Hid (¬ R.2.e = 0) := (show ¬ _ by
                        rw [HST0.out]
                        exact listF_err (repP_err (getP_bad (s := ⟨P4, out, 0⟩) (by rw [HBL.out]; exact hfg))))
                      clear HST0
                      go_wp2_with (first
                        | (go_at_call 67; (with_reducible refine HN.out.mono ?_); go_must (rintro e w6 ⟨rfl, hf6, hr6⟩;  have HG6 := Lib.hid (HG.out w6 hf6); have hr6x := Lib.hid hr6; have HF6 := Lib.hid hf6; have HR6 := Lib.hid (HR.out.trans hr6); have HL6 : Hid (ownI w6 w5.heap.size (.slice Al K cl) l) := (show ownI _ _ _ _ from ownI.rfr HL.out hr6 hrw5 (by omega) (fun k hk hk2 => by have h1 := HV5.out k hk; have h2 := (World.ownsRow.lt HL.out k hk2).1; omega)); clear hf6 hr6))
                        | (go_at_call 32; (with_reducible refine HG6.out.mono ?_); go_must (rintro e w7 ⟨rfl, hf7, hr7⟩; have HF7 := Lib.hid hf7; have HR7 := Lib.hid (HR6.out.trans hr7); have HL7 : Hid (ownI w7 w5.heap.size (.slice Al K cl) l) := (show ownI _ _ _ _ from ownI.rfr HL6.out hr7 hrw5 (by omega) (fun k hk hk2 => by have h1 := HV5.out k hk; have h2 := (World.ownsRow.lt HL6.out k hk2).1; omega)); clear hf7 hr7 HG6)))
                      have HR9 := Lib.hid (HR5.out.trans HR7.out)
                      go_ret3
                      unfold LsPost
                      exact ⟨_, _, false, _, rfl, HF7.out, HR9.out, .inl ⟨rfl, rfl, rfl, HE.out⟩⟩
                  · subst hq
                    have d16 : (((18 : Nat) : Int) == 16) = false := rfl
                    have d17 : (((18 : Nat) : Int) == 17) = false := rfl
                    have d18 : (((18 : Nat) : Int) == 18) = true := rfl
                    have HST0 := Lib.hid (lst_18 (bs := bs) (ls := L) (all := NM) (f := f) (l := l) (s := ⟨P3, out, 0⟩) hlt2 rfl (by rw [HNP.out]) (by rw [HNP.out]; show (17 : Int) < ((18 : Nat) : Int); decide))
                    rw [HS.out, HNP.out] at HST0
                    clear hlt2 hK
                    by_cases hfg : P4 + 7 ≤ 8 * n
                    · have HG := Lib.hid (fun w6 (h : FI w6 r g A n c P4 bs vo out most) => iget_ok r g n c P4 7 A bs vo out most 7 w6 rfl h (by omega) hfg)
                      have HGP : Hid (getP bs (⟨P4, out, 0⟩ : RS) 7 = (getV bs P4 7, ⟨P4 + 7, out, 0⟩)) := (show _ = _ from getP_ok rfl (by rw [HBL.out]; exact hfg))
                      have hv := getV_lt bs P4 7
                      have HST1 := Lib.hid HST0.out
                      rw [show (getP bs (((18 : Nat) : Int), (⟨P4, out, 0⟩ : RS)).2 7) = getP bs (⟨P4, out, 0⟩ : RS) 7 from rfl, HGP.out] at HST1
                      generalize getV bs P4 7 = v at *
                      have hvb : v < 200 := Nat.lt_of_lt_of_le hv (by decide)
                      obtain ⟨T, hT⟩ : ∃ T, 11 + v = T := ⟨_, rfl⟩
                      have hTi : (v : Int) + 11 = (T : Int) := by omega
                      have hT3 : 3 ≤ T := by omega
                      have hTw : IntKind.i64.wrap (T : Int) = (T : Int) := wrap_i64_lt T (by omega)
                      have hKTw : IntKind.i64.wrap ((K : Int) + (T : Int)) = (K : Int) + (T : Int) := by rw [show (K : Int) + (T : Int) = ((K + T : Nat) : Int) by omega]; exact wrap_i64_lt _ (by omega)
                      replace HST1 : Hid (R = listF bs L NM f (repP l 0 T NM ⟨P4 + 7, out, 0⟩).1 (repP l 0 T NM ⟨P4 + 7, out, 0⟩).2) := (show _ = _ by rw [← hT]; exact HST1.out)
                      clear hv hT HST0 HGP
                      go_upto_region 41 with (first
                        | (go_at_call 67; (with_reducible refine HN.out.mono ?_); go_must (rintro e w6 ⟨rfl, hf6, hr6⟩;  have HG6 := Lib.hid (HG.out w6 hf6); have hr6x := Lib.hid hr6; have HF6 := Lib.hid hf6; have HR6 := Lib.hid (HR.out.trans hr6); have HL6 : Hid (ownI w6 w5.heap.size (.slice Al K cl) l) := (show ownI _ _ _ _ from ownI.rfr HL.out hr6 hrw5 (by omega) (fun k hk hk2 => by have h1 := HV5.out k hk; have h2 := (World.ownsRow.lt HL.out k hk2).1; omega)); clear hf6 hr6))
                        | (go_at_call 32; (with_reducible refine HG6.out.mono ?_); go_must (rintro e w7 ⟨rfl, hf7, hr7⟩; have HF7 := Lib.hid hf7; have HR7 := Lib.hid (HR6.out.trans hr7); have HL7 : Hid (ownI w7 w5.heap.size (.slice Al K cl) l) := (show ownI _ _ _ _ from ownI.rfr HL6.out hr7 hrw5 (by omega) (fun k hk hk2 => by have h1 := HV5.out k hk; have h2 := (World.ownsRow.lt HL6.out k hk2).1; omega)); clear hf7 hr7 HG6)))
                      by_cases hov : NM < K + T
                      · have hovi : (NM : Int) < (K : Int) + (T : Int) := by omega
                        have HE : Hid (¬ R.2.e = 0) := (show ¬ _ by
                          rw [HST1.out]
                          exact listF_err (repP_over rfl (by rw [HKL.out]; exact hov)))
                        have HR9 := Lib.hid (HR5.out.trans HR7.out)
                        go_wp2_with fail
                        go_ret3
                        unfold LsPost
                        exact ⟨_, _, false, _, rfl, HF7.out, HR9.out, .inl ⟨rfl, rfl, rfl, HE.out⟩⟩
                      · have hovi : ¬ (NM : Int) < (K : Int) + (T : Int) := by omega
                        have HSN : Hid (listF bs L NM f (l ++ List.replicate T 0) ⟨P4 + 7, out, 0⟩ = R) := (show _ = _ by
                          rw [HST1.out, repP_ok rfl (by rw [HKL.out]; omega)])
                        have HL70 : Hid (ownI w7 w5.heap.size (.slice Al K cl) (l ++ List.replicate 0 0)) := (show ownI _ _ _ _ by have := HL7.out; rwa [show l ++ List.replicate 0 0 = l by simp])
                        have HF70 := Lib.hid HF7.out
                        have HR70 := Lib.hid HR7.out
                        clear HN HS HNP
                        go_wp2_with fail
                        obtain ⟨wo, rfl⟩ : ∃ wo : World, wo = wr := ⟨_, rfl⟩
                        go_loopw [26, 20] (fun vi vl wr => ∃ i : Nat, i ≤ T ∧ vi = .int .i64 i ∧ Hid (FI wr r g A n c (P4 + 7) bs vo out most) ∧ Hid (RFr w5 wr r g vo vo) ∧ Hid (ownI wr w5.heap.size vl (l ++ List.replicate i 0))) (fun vi _ _ => T - (intOf vi).toNat)
                        case atStart => exact ⟨0, Nat.zero_le _, rfl, HF70, HR70, HL70⟩
                        case round =>
                          clear HF70 HR70 HL70
                          obtain ⟨i, hi, rfl, HF, HR, HL⟩ := hrel
                          obtain ⟨Aq, cq, rfl, -, -, -⟩ := HL.out.form
                          have hlen : (l ++ List.replicate i 0).length = K + i := by rw [List.length_append, List.length_replicate, HKL.out]
                          by_cases hlt : i < T
                          · have hlti : (i : Int) < (T : Int) := by omega
                            have HSNC := Lib.hid (rep_snoc l 0 i)
                            have HLO : Hid (∀ k, (Value.slice Aq (l ++ List.replicate i 0).length cq).ownBlock = some k → w5.heap.size ≤ k) := (show ∀ k, _ from fun k hk => (World.ownsRow.lt HL.out k hk).1)
                            generalize l ++ List.replicate i 0 = ll at *
                            have HLA := Lib.hid (ownI.alloc HL.out (.cells #[Value.int .i64 0] 3))
                            have HFA := Lib.hid (HF.out.later ((Below.refl wr.heap.size wr).alloc (Nat.le_refl _) (.cells #[Value.int .i64 0] 3)))
                            have HRA := Lib.hid (HR.out.allocd (.cells #[Value.int .i64 0] 3))
                            have hq1 : ll.length + 1 ≤ 1099511627776 := by omega
                            have hq2 : w5.heap.size ≤ (wr.alloc (.cells #[Value.int .i64 0] 3)).heap.size := HRA.out.size
                            clear hlen
                            go_wp2_with (at_builtin; go_must (refine wpList_appendI rfl (.tmp 174) (.tmp 176) rfl w5.heap.size _ ll rfl HLA.out (wr.heap.size + 1) 1 1 (some ⟨wr.heap.size, 0, none⟩) [0] rfl (rd_oneI wr 0) hq1 hq2 ?_; intro v7 w7 ho7 hg7 hb7 ha7; rw [HSNC.out] at ho7; have HL7 := Lib.hid ho7; have HF7 := Lib.hid (FI.side HFA.out hrw5 HV5.out HLO.out hg7); have HR7 := Lib.hid (RFr.side (l := ll) HRA.out HLO.out hg7); clear ho7 hg7 hb7 ha7))
                            go_roundw
                            case rel => exact ⟨i + 1, by omega, by go_num, HF7, HR7, HL7⟩
                            case measure => simp [intOf]; omega
                          · obtain rfl : i = T := by omega
                            have hlti : ¬ (i : Int) < (i : Int) := by omega
                            have HFU9 : Hid (NM + 1 ≤ (l ++ List.replicate i 0).length + f) := (show _ ≤ _ by rw [hlen]; have h9 := HFU.out; rw [HKL.out] at h9; omega)
                            have hle9 : (l ++ List.replicate i 0).length ≤ NM := by rw [hlen]; omega
                            have HM9 : Hid (NM - (l ++ List.replicate i 0).length < NM - K) := (show _ < _ by rw [hlen]; omega)
                            clear hlen
                            go_wp2_with fail
                            go_roundw
                            case rel => exact ⟨_, P4 + 7, f, hle9, HF, HR, HL, HSN, HFU9⟩
                            case measure => exact HM9.out
                    · have HG := Lib.hid (fun w6 (h : FI w6 r g A n c P4 bs vo out most) => iget_bad r g n c P4 7 A bs vo out most 7 w6 rfl h (by omega) hfg)
                      have HE : Hid (¬ R.2.e = 0) := (show ¬ _ by
                        rw [HST0.out]
                        exact listF_err (repP_err (getP_bad (s := ⟨P4, out, 0⟩) (by rw [HBL.out]; exact hfg))))
                      clear HST0
                      go_wp2_with (first
                        | (go_at_call 67; (with_reducible refine HN.out.mono ?_); go_must (rintro e w6 ⟨rfl, hf6, hr6⟩;  have HG6 := Lib.hid (HG.out w6 hf6); have hr6x := Lib.hid hr6; have HF6 := Lib.hid hf6; have HR6 := Lib.hid (HR.out.trans hr6); have HL6 : Hid (ownI w6 w5.heap.size (.slice Al K cl) l) := (show ownI _ _ _ _ from ownI.rfr HL.out hr6 hrw5 (by omega) (fun k hk hk2 => by have h1 := HV5.out k hk; have h2 := (World.ownsRow.lt HL.out k hk2).1; omega)); clear hf6 hr6))
                        | (go_at_call 32; (with_reducible refine HG6.out.mono ?_); go_must (rintro e w7 ⟨rfl, hf7, hr7⟩; have HF7 := Lib.hid hf7; have HR7 := Lib.hid (HR6.out.trans hr7); have HL7 : Hid (ownI w7 w5.heap.size (.slice Al K cl) l) := (show ownI _ _ _ _ from ownI.rfr HL6.out hr7 hrw5 (by omega) (fun k hk hk2 => by have h1 := HV5.out k hk; have h2 := (World.ownsRow.lt HL6.out k hk2).1; omega)); clear hf7 hr7 HG6)))
                      have HR9 := Lib.hid (HR5.out.trans HR7.out)
                      go_ret3
                      unfold LsPost
                      exact ⟨_, _, false, _, rfl, HF7.out, HR9.out, .inl ⟨rfl, rfl, rfl, HE.out⟩⟩
              · have HE : Hid (¬ R.2.e = 0) := (show ¬ _ by
                  rw [← HS.out]
                  exact lst_err hlt2 rfl (by rw [HNP.out]; exact ht))
                have d2b : (e1 != 0) = true := by rw [bne_iff_ne]; exact ht
                clear hK hlt2
                go_wp2_with (go_at_call 67; (with_reducible refine HN.out.mono ?_); go_must (rintro e w6 ⟨rfl, hf6, hr6⟩; have HF6 := Lib.hid hf6; have HR6 := Lib.hid (HR5.out.trans (HR.out.trans hr6)); clear hf6 hr6))
                go_ret3
                unfold LsPost
                exact ⟨_, _, false, _, rfl, HF6.out, HR6.out, .inl ⟨rfl, rfl, rfl, HE.out⟩⟩
            · obtain rfl : K = NM := by omega
              have hlti : ¬ (K : Int) < (K : Int) := by omega
              have HE : Hid (R = (l, ⟨P3, out, 0⟩)) := (show _ = _ by rw [← HS.out, listF_stop (fun h => by have := h.1; omega)])
              obtain ⟨-, gq, rfl, -, -⟩ := ownI.pos HL.out (show 0 < l.length by omega)
              rw [hK] at HL
              simp only [hK]
              have hcm : K ≤ cl := by rw [← hK]; exact hcl1
              clear hK hcl0 hcl1 hcl2
              have hcn : ¬ cl = N := by omega
              have hnk : N ≤ K := by omega
              have hnki : (N : Int) ≤ (K : Int) := by omega
              have hnci : (N : Int) ≤ (cl : Int) := by omega
              have hkci : (K : Int) ≤ (cl : Int) := by omega
              have hncl : N < cl := by omega
              have HR9 := Lib.hid (HR5.out.trans HR.out)
              go_wp2_with fail
              go_quiet (fail)
              go_wp2_with fail
              go_ret3
              unfold LsPost
              have hKM : K - N = M := by have := HNM.out; omega
              have hRl : l.length = K := HKL.out
              refine ⟨_, _, true, P3, rfl, HF.out.drewN _, HR9.out.drewN _, .inr ⟨rfl, by rw [HE.out], by rw [HE.out]; show l.length = N + M; rw [HKL.out]; exact HNM.out.symm, by omega, by omega, by omega, by omega, gq, cl, cl - N, rfl, ?_, ?_, ?_⟩⟩
              · show Value.slice _ (K - N) _ = _
                rw [hKM]
              · rw [HE.out]
                have h1 := (ownI.rd (HL.out.drewN nq)).cut (k := 0) (m := N) (by omega) (A' := some ⟨gq, 0, none⟩) (fun _ => rfl)
                rw [List.drop_zero] at h1
                exact h1
              · rw [HE.out]
                have h1 := (ownI.rd (HL.out.drewN nq)).cut (k := N) (m := M) (by omega) (A' := some ⟨gq, N, none⟩) (fun _ => by simp [Addr.add, (show ¬ N = 0 by omega)])
                rw [List.take_of_length_le (by rw [List.length_drop]; omega)] at h1
                exact h1
        · have HE := Lib.hid (HD2.out hK)
          have dK : (krV L != 32768) = true := by rw [bne_iff_ne]; exact hK
          generalize krV L = KK at *
          by_cases hnw : nwE L = 0
          · rw [hnw] at HNW
            go_wp2_with (first
              | (go_at_call 66; (with_reducible refine HNW.out.mono ?_); go_must (rintro e w5 ⟨v5, rfl, -, -, hb5⟩; have HF5 := Lib.hid (HF.out.later hb5); have HR5 := Lib.hid (HR.out.trans (RFr.ofB hb5 r g vo)); have HKR5 := Lib.hid (HKR.out w5 hb5); clear hb5))
              | (go_at_call 37; (with_reducible refine HKR5.out.mono ?_); go_must (rintro e w6 ⟨rfl, rfl⟩)))
            go_ret3
            unfold LsPost
            exact ⟨_, _, false, _, rfl, HF5.out, HR5.out, .inl ⟨rfl, rfl, rfl, HE.out⟩⟩
          · have dN : (nwE L != 0) = true := by rw [bne_iff_ne]; exact hnw
            generalize nwE L = NE at *
            go_wp2_with (first
              | (go_at_call 66; (with_reducible refine HNW.out.mono ?_); go_must (rintro e w5 ⟨v5, rfl, -, -, hb5⟩; have HF5 := Lib.hid (HF.out.later hb5); have HR5 := Lib.hid (HR.out.trans (RFr.ofB hb5 r g vo)); have HKR5 := Lib.hid (HKR.out w5 hb5); clear hb5))
              | (go_at_call 37; (with_reducible refine HKR5.out.mono ?_); go_must (rintro e w6 ⟨rfl, rfl⟩)))
            go_ret3
            unfold LsPost
            exact ⟨_, _, false, _, rfl, HF5.out, HR5.out, .inl ⟨rfl, rfl, rfl, HE.out⟩⟩
  · have HE : Hid (¬ (ownLs bs ⟨P, out, 0⟩).2.e = 0) := (show ¬ _ from hd_bad (by rw [HBL.out]; exact hall))
    generalize ownLs bs ⟨P, out, 0⟩ = R at *
    generalize hdN bs ⟨P, out, 0⟩ = dn at *
    generalize hdM bs ⟨P, out, 0⟩ = dm at *
    have HG3 := Lib.hid (fun P3 w1 (h : FI w1 r g A n c P3 bs vo out most) => iget_gen r g n c P3 A bs vo out most w1 4 4 rfl h (by omega))
    by_cases hf1 : P + 5 ≤ 8 * n
    · have HG1 := Lib.hid (iget_ok r g n c P 5 A bs vo out most 5 w rfl H.out (by omega) hf1)
      by_cases hf2 : P + 10 ≤ 8 * n
      · have HG2 := Lib.hid (fun w1 (h : FI w1 r g A n c (P + 5) bs vo out most) => iget_ok r g n c (P + 5) 5 A bs vo out most 5 w1 rfl h (by omega) (by omega))
        by_cases hf3 : P + 14 ≤ 8 * n
        · have HG4 := Lib.hid (fun w1 (h : FI w1 r g A n c (P + 10) bs vo out most) => iget_ok r g n c (P + 10) 4 A bs vo out most 4 w1 rfl h (by omega) (by omega))
          generalize getV bs (P + 10) 4 = z at *
          generalize getV bs (P + 5) 5 = y at *
          generalize getV bs P 5 = x at *
          by_cases hx : x ≤ 29
          · have hxi : ¬ (29 : Int) < (x : Int) := by omega
            have hyi : (29 : Int) < (y : Int) := by
              have : ¬ y ≤ 29 := fun h => hall ⟨hf3, hx, h⟩
              omega
            go_enter Try.func36, Try.ntmps36
            go_wp2_with (first
              | (go_at_call 32; (with_reducible refine HG1.out.mono ?_); go_must (rintro e w1 ⟨rfl, hf1, hr1⟩; have HR1 := Lib.hid hr1; have HG21 := Lib.hid (HG2.out w1 hf1); clear hf1 hr1 HG1))
              | (go_at_call 32; (with_reducible refine HG21.out.mono ?_); go_must (rintro e w2 ⟨rfl, hf2, hr2⟩; have HR2 := Lib.hid (HR1.out.trans hr2); have HG42 := Lib.hid (HG4.out w2 hf2); clear hf2 hr2 HG21))
              | (go_at_call 32; (with_reducible refine HG42.out.mono ?_); go_must (rintro e wc ⟨rfl, hf3, hr3⟩; have HR3 := Lib.hid (HR2.out.trans hr3); have HF3 := Lib.hid hf3; clear hf3 hr3 HG42)))
            go_ret3
            unfold LsPost
            exact ⟨_, _, false, _, rfl, HF3.out, HR3.out, .inl ⟨rfl, rfl, rfl, HE.out⟩⟩
          · have hxi : (29 : Int) < (x : Int) := by omega
            go_enter Try.func36, Try.ntmps36
            go_wp2_with (first
              | (go_at_call 32; (with_reducible refine HG1.out.mono ?_); go_must (rintro e w1 ⟨rfl, hf1, hr1⟩; have HR1 := Lib.hid hr1; have HG21 := Lib.hid (HG2.out w1 hf1); clear hf1 hr1 HG1))
              | (go_at_call 32; (with_reducible refine HG21.out.mono ?_); go_must (rintro e w2 ⟨rfl, hf2, hr2⟩; have HR2 := Lib.hid (HR1.out.trans hr2); have HG42 := Lib.hid (HG4.out w2 hf2); clear hf2 hr2 HG21))
              | (go_at_call 32; (with_reducible refine HG42.out.mono ?_); go_must (rintro e wc ⟨rfl, hf3, hr3⟩; have HR3 := Lib.hid (HR2.out.trans hr3); have HF3 := Lib.hid hf3; clear hf3 hr3 HG42)))
            go_ret3
            unfold LsPost
            exact ⟨_, _, false, _, rfl, HF3.out, HR3.out, .inl ⟨rfl, rfl, rfl, HE.out⟩⟩
        · have HG4 := Lib.hid (fun w1 (h : FI w1 r g A n c (P + 10) bs vo out most) => iget_bad r g n c (P + 10) 4 A bs vo out most 4 w1 rfl h (by omega) (by omega))
          go_enter Try.func36, Try.ntmps36
          go_wp2_with (first
            | (go_at_call 32; (with_reducible refine HG1.out.mono ?_); go_must (rintro e w1 ⟨rfl, hf1, hr1⟩; have HR1 := Lib.hid hr1; have HG21 := Lib.hid (HG2.out w1 hf1); clear hf1 hr1 HG1))
            | (go_at_call 32; (with_reducible refine HG21.out.mono ?_); go_must (rintro e w2 ⟨rfl, hf2, hr2⟩; have HR2 := Lib.hid (HR1.out.trans hr2); have HG42 := Lib.hid (HG4.out w2 hf2); clear hf2 hr2 HG21))
            | (go_at_call 32; (with_reducible refine HG42.out.mono ?_); go_must (rintro e wc ⟨rfl, hf3, hr3⟩; have HR3 := Lib.hid (HR2.out.trans hr3); have HF3 := Lib.hid hf3; clear hf3 hr3 HG42)))
          go_ret3
          unfold LsPost
          exact ⟨_, _, false, _, rfl, HF3.out, HR3.out, .inl ⟨rfl, rfl, rfl, HE.out⟩⟩
      · have HG2 := Lib.hid (fun w1 (h : FI w1 r g A n c (P + 5) bs vo out most) => iget_bad r g n c (P + 5) 5 A bs vo out most 5 w1 rfl h (by omega) (by omega))
        have HG4 := Lib.hid (HG3.out (P + 5))
        go_enter Try.func36, Try.ntmps36
        go_wp2_with (first
          | (go_at_call 32; (with_reducible refine HG1.out.mono ?_); go_must (rintro e w1 ⟨rfl, hf1, hr1⟩; have HR1 := Lib.hid hr1; have HG21 := Lib.hid (HG2.out w1 hf1); clear hf1 hr1 HG1))
          | (go_at_call 32; (with_reducible refine HG21.out.mono ?_); go_must (rintro e w2 ⟨rfl, hf2, hr2⟩; have HR2 := Lib.hid (HR1.out.trans hr2); have HG42 := Lib.hid (HG4.out w2 hf2); clear hf2 hr2 HG21))
          | (go_at_call 32; (with_reducible refine HG42.out.mono ?_); go_must (rintro e wc ⟨v3, ok3, P3, rfl, hf3, hr3⟩; have HR3 := Lib.hid (HR2.out.trans hr3); have HF3 := Lib.hid hf3; clear hf3 hr3 HG42)))
        go_ret3
        unfold LsPost
        exact ⟨_, _, false, _, rfl, HF3.out, HR3.out, .inl ⟨rfl, rfl, rfl, HE.out⟩⟩
    · have HG1 := Lib.hid (iget_bad r g n c P 5 A bs vo out most 5 w rfl H.out (by omega) hf1)
      have HG2 := Lib.hid (fun w1 (h : FI w1 r g A n c P bs vo out most) => iget_bad r g n c P 5 A bs vo out most 5 w1 rfl h (by omega) hf1)
      have HG4 := Lib.hid (HG3.out P)
      go_enter Try.func36, Try.ntmps36
      go_wp2_with (first
        | (go_at_call 32; (with_reducible refine HG1.out.mono ?_); go_must (rintro e w1 ⟨rfl, hf1, hr1⟩; have HR1 := Lib.hid hr1; have HG21 := Lib.hid (HG2.out w1 hf1); clear hf1 hr1 HG1))
        | (go_at_call 32; (with_reducible refine HG21.out.mono ?_); go_must (rintro e w2 ⟨rfl, hf2, hr2⟩; have HR2 := Lib.hid (HR1.out.trans hr2); have HG42 := Lib.hid (HG4.out w2 hf2); clear hf2 hr2 HG21))
        | (go_at_call 32; (with_reducible refine HG42.out.mono ?_); go_must (rintro e wc ⟨v3, ok3, P3, rfl, hf3, hr3⟩; have HR3 := Lib.hid (HR2.out.trans hr3); have HF3 := Lib.hid hf3; clear hf3 hr3 HG42)))
      go_ret3
      unfold LsPost
      exact ⟨_, _, false, _, rfl, HF3.out, HR3.out, .inl ⟨rfl, rfl, rfl, HE.out⟩⟩
end
end Go.Proofs.Yteoolehdomjkkaa
