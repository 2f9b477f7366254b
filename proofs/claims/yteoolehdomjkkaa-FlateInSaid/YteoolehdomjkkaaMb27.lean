/- Merged: Iq6, Iq7, SymR, Sym5. -/
import Derived.BigQuiet
import Derived.Test.YteoolehdomjkkaaMb26
import Derived.Test.YteoolehdomjkkaaMb21
import Derived.Test.YteoolehdomjkkaaMb08
import Derived.Test.YteoolehdomjkkaaMb02
/- flate: the document's reader of blocks: a block by two lists of lengths. -/
namespace Go.Proofs.Yteoolehdomjkkaa
set_option linter.all false
open Go.RowKit

/-- The document's decoder, or none, as a pointer. -/
def DV5 (w : World) (r g : Nat) (vo : Value) (dv : Value) (dl : Option (List Int)) : Prop := (dv = .pointer none ∧ dl = none) ∨ ∃ gd ds, dv = .pointer (some ⟨gd, 0, none⟩) ∧ dl = some ds ∧ DK5 w r g vo gd ds ∧ OkL ds
theorem DV5.fr {w w' : World} {r g : Nat} {vo vo' dv : Value} {dl : Option (List Int)} (h : DV5 w r g vo dv dl) (hf : RFr w w' r g vo vo') : DV5 w' r g vo' dv dl := by
  rcases h with h | ⟨gd, ds, h1, h2, h3, h4⟩
  · exact .inl h
  · exact .inr ⟨gd, ds, h1, h2, h3.fr hf, h4⟩
theorem distOf_pos {p : Nat} (h : p < 30) : 1 ≤ (distOf p).1 := by
  rcases le29 (show p ≤ 29 by omega) with rfl | rfl | rfl | rfl | rfl | rfl | rfl | rfl | rfl | rfl | rfl | rfl | rfl | rfl | rfl | rfl | rfl | rfl | rfl | rfl | rfl | rfl | rfl | rfl | rfl | rfl | rfl | rfl | rfl | rfl <;> decide
theorem nextP0 (bs : List UInt8) (ls : List Int) (P : Nat) (out : List UInt8) : nextP bs ls ⟨P, out, 0⟩ = ((nx ls bs 15 1 0 P).1, ⟨(nx ls bs 15 1 0 P).2.2, out, (nx ls bs 15 1 0 P).2.1⟩) := by
  unfold nextP
  rw [if_pos rfl]
section
variable (r g n c P : Nat) (A : Option Addr) (bs : List UInt8) (vo : Value) (out : List UInt8) (most : Int) (w : World)
set_option maxRecDepth 100000 in
set_option maxHeartbeats 6400000 in
theorem icodes_any (B nx' ny cx cy : Nat) (Ax Ay : Option Addr) (ll dd : List Int) (f : Nat) (h : FI w r g A n c P bs vo out most) (hx : RdI w B Ax nx' ll) (hy : RdI w B Ay ny dd) (hB : B ≤ w.heap.size) (hnx : nx' ≤ 1000) (hny : ny ≤ 1000) (hll : nwE ll = 0) (hm : most ≤ 1000000) (ho : (out.length : Int) ≤ most) (hf : 8 * n + 1 ≤ P + f) :
    Calls Try.prog 35 #[.pointer (some ⟨r, 0, none⟩), .slice Ax nx' cx, .slice Ay ny cy] w (IqPost r g n c A bs vo most w (toksF bs most ll (if nwE dd = 0 then some dd else none) f ⟨P, out, 0⟩)) := by
  obtain ⟨dl, hdl⟩ : ∃ dl, (if nwE dd = 0 then some dd else none) = dl := ⟨_, rfl⟩
  rw [hdl]
  have HOKD := Lib.hid (fun h => nwE_ok (ls := dd) h)
  obtain ⟨E2, hE2⟩ : ∃ E2, nwE dd = E2 := ⟨_, rfl⟩
  rw [hE2] at hdl HOKD
  have HDLE := Lib.hid hdl
  have hrw := h.arr.lt
  have hgr := h.gr
  have HBL := Lib.hid h.rb.len
  have HVO : Hid (∀ k, vo.ownBlock = some k → k < w.heap.size) := (show ∀ k, _ from fun k hk => (World.ownsRow.lt h.own k hk).2)
  have HOK := Lib.hid (nwE_ok hll)
  have HN1 := new5G_any B nx' cx Ax ll w hx hB (by omega)
  unfold New5G at HN1
  rw [hll] at HN1
  replace HN1 := Lib.hid HN1
  have HN2 := fun w1 (h : RdI w1 B Ay ny dd) (hb : B ≤ w1.heap.size) => new5G_any B ny cy Ay dd w1 h hb (by omega)
  unfold New5G at HN2
  rw [hE2] at HN2
  replace HN2 := Lib.hid HN2
  have HDV : Hid (∀ (w1 w2 : World) (v2 : Value), (E2 = 0 → ∃ gd, v2 = .pointer (some ⟨gd, 0, none⟩) ∧ DecG5 w2 w1.heap.size gd dd) → (E2 ≠ 0 → v2 = .pointer none) → r < w1.heap.size → g < w1.heap.size → w.heap.size ≤ w1.heap.size → DV5 w2 r g vo v2 dl) := (show ∀ (w1 w2 : World) (v2 : Value), _ from fun w1 w2 v2 hv2 hn2 h1 h2 h3 => by
    rw [← HDLE.out]
    by_cases hE : E2 = 0
    · obtain ⟨gd, rfl, hdg⟩ := hv2 hE
      rw [if_pos hE]
      exact .inr ⟨gd, dd, rfl, rfl, DK5.new (r := r) (g := g) (vo := vo) hdg h1 h2 (fun k hk => by have := HVO.out k hk; omega), HOKD.out hE⟩
    · rw [if_neg hE]
      exact .inl ⟨hn2 hE, rfl⟩)
  have HY := Lib.hid hy
  have H := Lib.hid h
  have HO := Lib.hid ho
  have HFU := Lib.hid hf
  obtain ⟨R, hR⟩ : ∃ R, toksF bs most ll dl f ⟨P, out, 0⟩ = R := ⟨_, rfl⟩
  rw [hR]
  have HL0 := Lib.hid hR
  clear h hx hy hll hdl ho hf hR hE2
  go_enter Try.func35, Try.ntmps35
  go_wp2_with (first
    | (go_at_call 66; (with_reducible refine HN1.out.mono ?_); go_must (rintro e w1 ⟨v1, rfl, hv1, -, hb1⟩; obtain ⟨gl, rfl, hdg⟩ := hv1 rfl; have hs1 := hb1.size; have HF1 := Lib.hid (H.out.later hb1); have HR1 := Lib.hid (RFr.ofB hb1 r g vo); have HK1 := Lib.hid (DK5.new (r := r) (g := g) (vo := vo) hdg hrw (by omega) HVO.out); have HN21 := Lib.hid (HN2.out w1 (RdI.blw HY.out (hb1.mono hB)) (by omega)); clear hv1 hb1 hdg))
    | (go_at_call 66; (with_reducible refine HN21.out.mono ?_); go_must (rintro e w2 ⟨v2, rfl, hv2, hn2, hb2⟩; have HR2 := Lib.hid (HR1.out.trans (RFr.ofB hb2 r g vo)); have HF2 := Lib.hid (HF1.out.later hb2); have HK2 := Lib.hid (HK1.out.fr (RFr.ofB hb2 r g vo)); have HD2 := Lib.hid (HDV.out w1 w2 v2 hv2 hn2 (by omega) (by omega) hs1); clear hv2 hn2 hb2 HK1 HF1 HR1)))
  have HRR := Lib.hid (RFr.refl w2 r g vo)
  go_loopw [11] (fun v11 wr => ∃ (P' : Nat) (vq : Value) (out' : List UInt8) (f : Nat), Hid (FI wr r g A n c P' bs vq out' most) ∧ Hid (RFr w2 wr r g vo vq) ∧ Hid (8 * n + 1 ≤ P' + f) ∧ Hid (toksF bs most ll dl f ⟨P', out', 0⟩ = R) ∧ Hid ((out'.length : Int) ≤ most)) (fun _ wr => 8 * n + 1 - posOf wr g)
  case atStart => exact ⟨P, vo, out, f, HF2, HRR, HFU, HL0, HO⟩
  case round =>
    clear HF2 HRR HFU HL0 HO H HN1 HN2 HN21
    obtain ⟨P', vq, out', f, HF, HR, HFU, HL, HO⟩ := hrel
    have hfit : P' ≤ 8 * n := HF.out.fit
    have hpos := posOf_eq HF.out.rd
    have c0 := HF.out.arr.cell (k := 0) rfl
    obtain ⟨f, rfl⟩ : ∃ f', f = f' + 1 := ⟨f - 1, by have := HFU.out; omega⟩
    have HN := Lib.hid (inext_any r g gl n c P' A bs vq out' most ll wr HF.out (HK2.out.fr HR.out) HOK.out)
    have HNP := Lib.hid (nextP0 bs ll P' out')
    obtain ⟨q, hq1, hq2, hq3⟩ := nx_val ll bs 15 1 0 P'
    have hq300 : q ≤ 300 := by have := HOK.out.2.2; omega
    have HPP := Lib.hid (fun h2 => nx_step ll bs 15 1 0 P' h2)
    rw [hq1] at HN HNP
    clear hq1 hq2 hq3
    generalize (nx ll bs 15 1 0 P').2.2 = P1 at *
    generalize (nx ll bs 15 1 0 P').2.1 = e1 at *
    obtain ⟨L, hL⟩ : ∃ L, out'.length = L := ⟨_, rfl⟩
    have HLL := Lib.hid hL
    rw [hL] at HO
    have hLm : (L : Int) ≤ most := HO.out
    clear hL
    by_cases ht : e1 = 0
    · subst ht
      have HP1 : P' < P1 := HPP.out rfl
      clear HPP
      by_cases h285 : 285 < q
      · have h285i : (285 : Int) < (q : Int) := by omega
        have HE : Hid (¬ R.e = 0) := (show ¬ _ by
          rw [← HL.out, toks_copy rfl (by rw [HNP.out]) (by rw [HNP.out]; show (256 : Int) < (q : Int); omega)]
          exact toks_err (copyP_high (by rw [HNP.out]; show 286 ≤ q; omega)))
        go_wp2_with (go_at_call 67; (with_reducible refine HN.out.mono ?_); go_must (rintro e w5 ⟨rfl, hf5, hr5⟩;  have HF5 := Lib.hid hf5; have HR5 := Lib.hid (HR.out.trans hr5); clear hf5 hr5))
        go_ret
        unfold IqPost
        exact ⟨false, _, _, _, rfl, HF5.out, HR2.out.trans (HR5.out), .inr ⟨rfl, HE.out⟩⟩
      · have h285i : ¬ (285 : Int) < (q : Int) := by omega
        by_cases h256 : q = 256
        · subst h256
          have HE : Hid (R = ⟨P1, out', 0⟩) := (show _ = _ by
            rw [← HL.out, toks_end rfl (by rw [HNP.out]) (by rw [HNP.out]; rfl), HNP.out])
          go_wp2_with (go_at_call 67; (with_reducible refine HN.out.mono ?_); go_must (rintro e w5 ⟨rfl, hf5, hr5⟩;  have HF5 := Lib.hid hf5; have HR5 := Lib.hid (HR.out.trans hr5); clear hf5 hr5))
          go_ret
          unfold IqPost
          exact ⟨true, _, _, _, rfl, HF5.out, HR2.out.trans (HR5.out), .inl ⟨rfl, HE.out⟩⟩
        · have hb256 : ((q : Int) == 256) = false := beq_eq_false_iff_ne.2 (by omega)
          by_cases hlt : q < 256
          · have hlti : (q : Int) < 256 := by omega
            have HST : Hid (toksF bs most ll dl f (givesP most ⟨P1, out', 0⟩ (UInt8.ofNat q)) = R) := (show _ = _ by
              rw [← HL.out, toks_byte rfl (by rw [HNP.out]) (by rw [HNP.out]; exact hlti), HNP.out]; rfl)
            by_cases hov : most ≤ (L : Int)
            · have HE : Hid (¬ R.e = 0) := (show ¬ _ by rw [← HST.out]; exact toks_err (givesP_bad (by show most ≤ ((out'.length : Nat) : Int); rw [HLL.out]; exact hov)))
              have hovd : decide ((L : Int) ≥ most) = true := decide_eq_true hov
              obtain ⟨Aq, cq, hvq, -, -, -⟩ := HF.out.own.form
              subst hvq
              rw [HLL.out] at HN HF HR
              go_upto_region 11 with (first
                | (go_at_call 67; (with_reducible refine HN.out.mono ?_); go_must (rintro e w5 ⟨rfl, hf5, hr5⟩; have hr5l : r < w5.heap.size := hf5.arr.lt; have c51 := hf5.arr.cell (k := 1) rfl; have c52 := hf5.arr.cell (k := 2) rfl; have HF5 := Lib.hid hf5; have HR5 := Lib.hid (HR.out.trans hr5); clear hf5 hr5)))
              go_quiet (fail)
              go_wp2_with fail
              go_ret
              unfold IqPost
              exact ⟨false, _, _, _, rfl, HF5.out.drewN _, HR2.out.trans (HR5.out.drewN _), .inr ⟨rfl, HE.out⟩⟩
            · obtain ⟨x, hx⟩ : ∃ x : UInt8, q = x.toNat := ⟨UInt8.ofNat q, by rw [UInt8.toNat_ofNat']; exact (Nat.mod_eq_of_lt (by omega)).symm⟩
              subst hx
              have hxo : UInt8.ofNat x.toNat = x := by simp
              rw [hxo, givesP_ok (by show ((out'.length : Nat) : Int) < most; rw [HLL.out]; omega)] at HST
              have hx8 := x.toNat_lt
              have hx9 : (x.toNat : Int) % 256 = (x.toNat : Int) := Int.emod_eq_of_lt (by omega) (by omega)
              have HO6 : Hid ((((out' ++ [x]).length : Nat) : Int) ≤ most) := (show _ ≤ _ by rw [List.length_append, HLL.out]; show ((L + 1 : Nat) : Int) ≤ most; omega)
              have HFU6 : Hid (8 * n + 1 ≤ P1 + f) := (show _ ≤ _ by have := HFU.out; omega)
              have hlen2 : out'.length + 1 ≤ 140737488355328 := by rw [HLL.out]; omega
              clear hxo
              have hovd : decide ((L : Int) ≥ most) = false := decide_eq_false (by omega)
              obtain ⟨Aq, cq, hvq, -, -, -⟩ := HF.out.own.form
              subst hvq
              rw [HLL.out] at HN HF HR
              go_upto_region 11 with (first
                | (go_at_call 67; (with_reducible refine HN.out.mono ?_); go_must (rintro e w5 ⟨rfl, hf5, hr5⟩; have hr5l : r < w5.heap.size := hf5.arr.lt; have c51 := hf5.arr.cell (k := 1) rfl; have c52 := hf5.arr.cell (k := 2) rfl; have HF5 := Lib.hid hf5; have HR5 := Lib.hid (HR.out.trans hr5); clear hf5 hr5)))
              go_quiet (fail)
              have HFQ := Lib.hid (HF5.out.drewN nq)
              have HRQ := Lib.hid (HR5.out.drewN nq)
              have hrqm : r + 1 ≤ (w5.drewN nq).heap.size + 1 := by show r + 1 ≤ w5.heap.size + 1; omega
              generalize w5.drewN nq = wq at HFQ HRQ hrqm ⊢
              have c1q := HFQ.out.arr.cell (k := 1) rfl
              go_wp2_with (at_builtin; go_must (refine wpList_appendB rfl (.tmp 72) (.tmp 75) rfl (r + 1) (.slice Aq L cq) out' rfl (ownB.alloc HFQ.out.own _) (wq.heap.size + 1) 1 1 (some ⟨wq.heap.size, 0, none⟩) [x] rfl (rd_one wq (x.toNat : Int) x rfl) hlen2 (by rw [World.size_alloc]; exact hrqm) ?_; intro v6 w6 hown hgb hbl6 hat; obtain ⟨A6, c6, rfl, -, -, -⟩ := hown.form; obtain ⟨hf6, hr6, c61, f61⟩ := HFQ.out.gave hown hgb hbl6 hat; obtain ⟨l6, hl6⟩ : ∃ l, (out' ++ [x]).length = l := ⟨_, rfl⟩; rw [hl6] at hf6 hr6 ⊢; clear hl6; have HF6 := Lib.hid hf6; have HR6 := Lib.hid (HRQ.out.trans hr6); have hpos6 := posOf_eq hf6.rd; clear hf6 hr6 hown hgb hbl6 hat))
              go_roundw
              case rel => exact ⟨P1, _, out' ++ [x], f, HF6, HR6, HFU6, HST, HO6⟩
              case measure => rw [hpos6, hpos]; omega
          · have hlti : ¬ (q : Int) < 256 := by omega
            obtain ⟨k, hk⟩ : ∃ k, q - 257 = k := ⟨_, rfl⟩
            have hk28 : k ≤ 28 := by omega
            have HQK := Lib.hid hk
            have hqk : (q : Int) = 257 + (k : Int) := by omega
            have HST : Hid (toksF bs most ll dl f (copyP bs most ⟨P1, out', 0⟩ q dl) = R) := (show _ = _ by
              rw [← HL.out, toks_copy rfl (by rw [HNP.out]) (by rw [HNP.out]; show (256 : Int) < (q : Int); omega), HNP.out]; rfl)
            have HLO := Lib.hid (fun w => lengthOf5_any k (q : Int) hqk hk28 w)
            have hlb := lenOf_le hk28
            have HCG : Hid (¬ P1 + (lenOf k).2 ≤ 8 * n → ¬ R.e = 0) := (show _ → _ from fun hf => by
              rw [← HST.out]
              refine toks_err (copyP_get ?_)
              rw [HQK.out]
              exact getP_bad (by rw [HBL.out]; exact hf))
            have HC0 : Hid (P1 + (lenOf k).2 ≤ 8 * n → dl = none → ¬ R.e = 0) := (show _ → _ → _ from fun hf hd => by
              rw [← HST.out, hd]
              exact toks_err copyP_none)
            have HC1 : Hid (∀ ds, P1 + (lenOf k).2 ≤ 8 * n → dl = some ds → copyP bs most ⟨P1, out', 0⟩ q dl = cpB bs most ⟨P1 + (lenOf k).2, out', 0⟩ ((lenOf k).1 + getV bs P1 (lenOf k).2) (some ds)) := (show ∀ ds, _ from fun ds hf hd => by
              have e1 : getP bs (⟨P1, out', 0⟩ : RS) (lenOf k).2 = (getV bs P1 (lenOf k).2, ⟨P1 + (lenOf k).2, out', 0⟩) := getP_ok rfl (by rw [HBL.out]; exact hf)
              rw [hd, copyP_go (by omega) (by rw [HQK.out, e1]), HQK.out, e1])
            have HGB : Hid (∀ w1, FI w1 r g A n c P1 bs vq out' most → ¬ P1 + (lenOf k).2 ≤ 8 * n → Calls Try.prog 32 #[.pointer (some ⟨r, 0, none⟩), .int .i64 ((lenOf k).2 : Int)] w1 fun e w' => e = .returned (.tuple #[.int .i64 0, .bool false]) ∧ FI w' r g A n c P1 bs vq out' most ∧ RFr w1 w' r g vq vq) := (show ∀ w1, _ from fun w1 h hh => iget_bad r g n c P1 (lenOf k).2 A bs vq out' most _ w1 rfl h (by omega) hh)
            have HGG : Hid (∀ w1, FI w1 r g A n c P1 bs vq out' most → P1 + (lenOf k).2 ≤ 8 * n → Calls Try.prog 32 #[.pointer (some ⟨r, 0, none⟩), .int .i64 ((lenOf k).2 : Int)] w1 fun e w' => e = .returned (.tuple #[.int .i64 ((getV bs P1 (lenOf k).2 : Nat) : Int), .bool true]) ∧ FI w' r g A n c (P1 + (lenOf k).2) bs vq out' most ∧ RFr w1 w' r g vq vq) := (show ∀ w1, _ from fun w1 h hh => iget_ok r g n c P1 (lenOf k).2 A bs vq out' most _ w1 rfl h (by omega) hh)
            have hv1 := getV_lt bs P1 (lenOf k).2
            have hv2 : getV bs P1 (lenOf k).2 < 32 := Nat.lt_of_lt_of_le hv1 (Nat.pow_le_pow_right (n := 2) (by decide) hlb.2)
            clear hv1
            generalize getV bs P1 (lenOf k).2 = m1 at *
            generalize (lenOf k).2 = kb at *
            generalize (lenOf k).1 = n1 at *
            generalize copyP bs most ⟨P1, out', 0⟩ q dl = CP at *
            clear hk hqk
            by_cases hf1 : P1 + kb ≤ 8 * n
            · have HG5 := Lib.hid (fun w1 h => HGG.out w1 h hf1)
              have HD := Lib.hid (HD2.out.fr HR.out)
              rcases HD.out with ⟨hvn, hdn⟩ | ⟨gd, ds, hvn, hdn, -, hokd⟩
              · have HE := Lib.hid (HC0.out hf1 hdn)
                subst hvn
                clear hdn HC0 HC1 HGB HGG HD
                go_wp2_with (first
                  | (go_at_call 67; (with_reducible refine HN.out.mono ?_); go_must (rintro e w5 ⟨rfl, hf5, hr5⟩; have HG55 := Lib.hid (HG5.out w5 hf5); have hr5x := Lib.hid hr5; have HF5 := Lib.hid hf5; have HR5 := Lib.hid (HR.out.trans hr5); clear hf5 hr5))
                  | (go_at_call 68; (with_reducible refine (HLO.out _).mono ?_); go_must (rintro e w9 ⟨rfl, rfl⟩))
                  | (go_at_call 32; (with_reducible refine HG55.out.mono ?_); go_must (rintro e w6 ⟨rfl, hf6, hr6⟩;  have HF6 := Lib.hid hf6; have HR6 := Lib.hid (HR5.out.trans hr6); clear hf6 hr6 HG55)))
                go_ret
                unfold IqPost
                exact ⟨false, _, _, _, rfl, HF6.out, HR2.out.trans (HR6.out), .inr ⟨rfl, HE.out⟩⟩
              · have HCP := Lib.hid (HC1.out ds hf1 hdn)
                have HOKD2 := Lib.hid hokd
                subst hvn
                obtain ⟨P2, hP2⟩ : ∃ P2, P1 + kb = P2 := ⟨_, rfl⟩
                rw [hP2] at HG5 HCP
                have hP12 : P1 ≤ P2 := by omega
                have hf2 : P2 ≤ 8 * n := by omega
                -- the distance
                have HDKD : Hid (∀ w6, RFr wr w6 r g vq vq → DK5 w6 r g vq gd ds) := (show ∀ w6, _ from fun w6 hr => by
                  rcases HD.out.fr hr with ⟨h1, h2⟩ | ⟨gd', ds', h1, h2, h3, -⟩
                  · cases h1
                  · injection h1 with h1
                    injection h1 with h1
                    injection h1 with h1
                    rw [hdn] at h2
                    injection h2 with h2
                    subst h1 h2
                    exact h3)
                have HN2 := Lib.hid (fun w6 (h : FI w6 r g A n c P2 bs vq out' most) (hd : DK5 w6 r g vq gd ds) => inext_any r g gd n c P2 A bs vq out' most ds w6 h hd HOKD2.out)
                have HNP2 := Lib.hid (nextP0 bs ds P2 out')
                obtain ⟨p, hp1, hp2, hp3⟩ := nx_val ds bs 15 1 0 P2
                have hp300 : p ≤ 300 := by have := HOKD2.out.2.2; omega
                have HPP2 := Lib.hid ((nx_le ds bs 15 1 0 P2 (by rw [HBL.out]; exact hf2)).2)
                rw [hp1] at HN2 HNP2
                clear hp1 hp2 hp3 HC0 HC1 HGB HGG hP2 HD
                generalize (nx ds bs 15 1 0 P2).2.2 = P3 at *
                generalize (nx ds bs 15 1 0 P2).2.1 = e2 at *
                have hP23 : P2 ≤ P3 := HPP2.out
                by_cases hbad : e2 = 0 ∧ p < 30
                · obtain ⟨rfl, hp30⟩ := hbad
                  have hp29 : ¬ (29 : Int) < (p : Int) := by omega
                  have HDO := Lib.hid (fun w => distOf5_any p (p : Int) rfl hp30 w)
                  have hdb := distOf_le (show p ≤ 29 by omega)
                  have HDG : Hid (¬ P3 + (distOf p).2 ≤ 8 * n → ¬ R.e = 0) := (show _ → _ from fun hf => by
                    rw [← HST.out, HCP.out, cpB_go (by rw [HNP2.out]; show (p : Int) < 30; omega), HNP2.out]
                    exact toks_err (copies_err (getP_bad (by rw [HBL.out]; exact hf))))
                  have HDC : Hid (P3 + (distOf p).2 ≤ 8 * n → CP = copiesP most ⟨P3 + (distOf p).2, out', 0⟩ (n1 + m1) ((distOf p).1 + getV bs P3 (distOf p).2)) := (show _ → _ from fun hf => by
                    have e1 : getP bs (⟨P3, out', 0⟩ : RS) (distOf p).2 = (getV bs P3 (distOf p).2, ⟨P3 + (distOf p).2, out', 0⟩) := getP_ok rfl (by rw [HBL.out]; exact hf)
                    rw [HCP.out, cpB_go (by rw [HNP2.out]; show (p : Int) < 30; omega), HNP2.out]
                    show copiesP most (getP bs ⟨P3, out', 0⟩ (distOf p).2).2 _ _ = _
                    rw [e1]
                    show copiesP most _ _ ((distOf p).1 + (getP bs ⟨P3, out', 0⟩ (distOf p).2).1) = _
                    rw [e1])
                  have HHB : Hid (∀ w1, FI w1 r g A n c P3 bs vq out' most → ¬ P3 + (distOf p).2 ≤ 8 * n → Calls Try.prog 32 #[.pointer (some ⟨r, 0, none⟩), .int .i64 ((distOf p).2 : Int)] w1 fun e w' => e = .returned (.tuple #[.int .i64 0, .bool false]) ∧ FI w' r g A n c P3 bs vq out' most ∧ RFr w1 w' r g vq vq) := (show ∀ w1, _ from fun w1 h hh => iget_bad r g n c P3 (distOf p).2 A bs vq out' most _ w1 rfl h (by omega) hh)
                  have HHG : Hid (∀ w1, FI w1 r g A n c P3 bs vq out' most → P3 + (distOf p).2 ≤ 8 * n → Calls Try.prog 32 #[.pointer (some ⟨r, 0, none⟩), .int .i64 ((distOf p).2 : Int)] w1 fun e w' => e = .returned (.tuple #[.int .i64 ((getV bs P3 (distOf p).2 : Nat) : Int), .bool true]) ∧ FI w' r g A n c (P3 + (distOf p).2) bs vq out' most ∧ RFr w1 w' r g vq vq) := (show ∀ w1, _ from fun w1 h hh => iget_ok r g n c P3 (distOf p).2 A bs vq out' most _ w1 rfl h (by omega) hh)
                  have hd1 : 1 ≤ (distOf p).1 := distOf_pos hp30
                  have hv3 := getV_lt bs P3 (distOf p).2
                  have hv4 : getV bs P3 (distOf p).2 < 8192 := Nat.lt_of_lt_of_le hv3 (Nat.pow_le_pow_right (n := 2) (by decide) hdb.2)
                  clear hv3
                  generalize getV bs P3 (distOf p).2 = m2 at *
                  generalize (distOf p).2 = kd at *
                  generalize (distOf p).1 = n2 at *
                  by_cases hf3 : P3 + kd ≤ 8 * n
                  · have HG7 := Lib.hid (fun w1 h => HHG.out w1 h hf3)
                    have HCC := Lib.hid (HDC.out hf3)
                    obtain ⟨Aq, cq, hvq, -, -, -⟩ := HF.out.own.form
                    subst hvq
                    rw [HLL.out] at HN HF HR HG5 HN2 HDKD HG7
                    obtain ⟨P4, hP4⟩ : ∃ P4, P3 + kd = P4 := ⟨_, rfl⟩
                    rw [hP4] at HG7 HCC
                    have hP34 : P3 ≤ P4 := by omega
                    have hf4 : P4 ≤ 8 * n := by omega
                    obtain ⟨D, hD⟩ : ∃ D, n2 + m2 = D := ⟨_, rfl⟩
                    obtain ⟨M, hM⟩ : ∃ M, n1 + m1 = M := ⟨_, rfl⟩
                    rw [hD, hM] at HCC
                    have hDi : (n2 : Int) + (m2 : Int) = (D : Int) := by omega
                    have hMi : (n1 : Int) + (m1 : Int) = (M : Int) := by omega
                    have hDw : IntKind.i64.wrap (D : Int) = (D : Int) := wrap_i64_lt D (by omega)
                    have hMw : IntKind.i64.wrap (M : Int) = (M : Int) := wrap_i64_lt M (by omega)
                    have hDw2 : IntKind.i64.wrap ((n2 : Int) + (m2 : Int)) = (D : Int) := by rw [hDi]; exact hDw
                    have hMw2 : IntKind.i64.wrap ((n1 : Int) + (m1 : Int)) = (M : Int) := by rw [hMi]; exact hMw
                    have hD1 : 1 ≤ D := by omega
                    have hDb : D ≤ 100000 := by omega
                    have hMb : M ≤ 1000 := by omega
                    have hsb : IntKind.i64.wrap (most - (L : Int)) = most - (L : Int) := by obtain ⟨d, hd⟩ : ∃ d : Nat, most - (L : Int) = (d : Int) := ⟨(most - (L : Int)).toNat, by omega⟩; rw [hd]; exact wrap_i64_lt d (by omega)
                    clear hD hM hP4 HHB HHG HDG HDC hd1 hdb hlb
                    go_upto_region 23 with (first
                      | (go_at_call 67; (with_reducible refine HN.out.mono ?_); go_must (rintro e w5 ⟨rfl, hf5, hr5⟩; have HG55 := Lib.hid (HG5.out w5 hf5); have hr5x := Lib.hid hr5; have HF5 := Lib.hid hf5; have HR5 := Lib.hid (HR.out.trans hr5); clear hf5 hr5))
                      | (go_at_call 68; (with_reducible refine (HLO.out _).mono ?_); go_must (rintro e w9 ⟨rfl, rfl⟩))
                      | (go_at_call 32; (with_reducible refine HG55.out.mono ?_); go_must (rintro e w6 ⟨rfl, hf6, hr6⟩; have c60 := hf6.arr.cell (k := 0) rfl; have HN26 := Lib.hid (HN2.out w6 hf6 (HDKD.out w6 (hr5x.out.trans hr6))); have HF6 := Lib.hid hf6; have HR6 := Lib.hid (HR5.out.trans hr6); clear hf6 hr6 HG55))
                      | (go_at_call 67; (with_reducible refine HN26.out.mono ?_); go_must (rintro e w7 ⟨rfl, hf7, hr7⟩; have HG77 := Lib.hid (HG7.out w7 hf7); have HF7 := Lib.hid hf7; have HR7 := Lib.hid (HR6.out.trans hr7); clear hf7 hr7 HN26))
                      | (go_at_call 69; (with_reducible refine (HDO.out _).mono ?_); go_must (rintro e w9 ⟨rfl, rfl⟩))
                      | (go_at_call 32; (with_reducible refine HG77.out.mono ?_); go_must (rintro e w8 ⟨rfl, hf8, hr8⟩; have HF8 := Lib.hid hf8; have HR8 := Lib.hid (HR7.out.trans hr8); have c81 := hf8.arr.cell (k := 1) rfl; have c82 := hf8.arr.cell (k := 2) rfl; clear hf8 hr8 HG77)))
                    by_cases hDL : L < D
                    · have hDLi : (L : Int) < (D : Int) := by omega
                      have HE : Hid (¬ R.e = 0) := (show ¬ _ by
                        rw [← HST.out, HCC.out]
                        exact toks_err (copies_bad (by show ((out'.length : Nat) : Int) ≤ most; rw [HLL.out]; exact hLm) (fun h => by have h1 : D ≤ out'.length := h.1; rw [HLL.out] at h1; omega)))
                      go_quiet (fail)
                      go_wp2_with fail
                      go_ret
                      unfold IqPost
                      exact ⟨false, _, _, _, rfl, HF8.out.drewN _, HR2.out.trans (HR8.out.drewN _), .inr ⟨rfl, HE.out⟩⟩
                    · have hDLi : ¬ (L : Int) < (D : Int) := by omega
                      by_cases hML : most - (L : Int) < (M : Int)
                      · have HE : Hid (¬ R.e = 0) := (show ¬ _ by
                          rw [← HST.out, HCC.out]
                          exact toks_err (copies_bad (by show ((out'.length : Nat) : Int) ≤ most; rw [HLL.out]; exact hLm) (fun h => by have h1 : ((out'.length : Nat) : Int) + (M : Int) ≤ most := h.2; rw [HLL.out] at h1; omega)))
                        go_quiet (fail)
                        go_wp2_with fail
                        go_ret
                        unfold IqPost
                        exact ⟨false, _, _, _, rfl, HF8.out.drewN _, HR2.out.trans (HR8.out.drewN _), .inr ⟨rfl, HE.out⟩⟩
                      · have HE : Hid (toksF bs most ll dl f ⟨P4, cpyN D M out', 0⟩ = R) := (show _ = _ by
                          rw [← HST.out, HCC.out, copies_ok rfl (by show D ≤ out'.length; rw [HLL.out]; omega) (by show ((out'.length : Nat) : Int) + (M : Int) ≤ most; rw [HLL.out]; omega)])
                        go_quiet (fail)
                        have HF80 := Lib.hid (HF8.out.drewN nq)
                        have HR80 := Lib.hid (HR8.out.drewN nq)
                        clear c81 c82 HF8 HR8 HCC HST HN HNP HNP2 HN2 HCP HF6 HF7
                        go_wp2_with fail
                        obtain ⟨wo, rfl⟩ : ∃ wo : World, wo = wr := ⟨_, rfl⟩
                        go_loopw [23] (fun vc wr => ∃ (i : Nat) (vz : Value), i ≤ M ∧ vc = .int .i64 i ∧ Hid (FI wr r g A n c P4 bs vz (cpyN D i out') most) ∧ Hid (RFr w2 wr r g vo vz)) (fun vc _ => M - (intOf vc).toNat)
                        case atStart => exact ⟨0, _, Nat.zero_le _, rfl, HF80, HR80⟩
                        case round =>
                          clear HF80 HR80
                          obtain ⟨i, vz, hi, rfl, HF, HR⟩ := hrel
                          obtain ⟨C, hC⟩ : ∃ C, (cpyN D i out').length = C := ⟨_, rfl⟩
                          have hCL : C = L + i := by rw [← hC, cpyN_len, HLL.out]
                          by_cases hlt : i < M
                          · have hlti : (i : Int) < (M : Int) := by omega
                            have HSN := Lib.hid (cpyN_snoc D i out')
                            obtain ⟨K, hK⟩ : ∃ K, C - D = K := ⟨_, rfl⟩
                            have hKC : K < (cpyN D i out').length := by rw [hC]; omega
                            have HGD : Hid ((cpyN D i out').getD ((cpyN D i out').length - D) 0 = (cpyN D i out')[K]) := (show _ = _ by
                              rw [hC, hK, List.getD_eq_getElem?_getD, List.getElem?_eq_getElem hKC]; rfl)
                            obtain ⟨Az, cz, rfl, -, -, -⟩ := HF.out.own.form
                            obtain ⟨-, gz, rfl, -, hgz⟩ := ownB.pos HF.out.own (show 0 < (cpyN D i out').length by omega)
                            have ed := ownB.cell HF.out.own rfl hKC
                            rw [HGD.out] at HSN
                            generalize (cpyN D i out')[K] = x at *
                            generalize cpyN D i out' = cur at *
                            rw [hC] at HF HR
                            have hx8 := x.toNat_lt
                            have c1 := HF.out.arr.cell (k := 1) rfl
                            have hrw := HF.out.arr.lt
                            have HFD := Lib.hid (HF.out.drewN 1)
                            have HRD := Lib.hid (HR.out.drewN 1)
                            have HCC := Lib.hid hC
                            have k1 : IntKind.i64.wrap ((C : Int) - (n2 : Int)) = (C : Int) - (n2 : Int) := by rw [show (C : Int) - (n2 : Int) = ((C - n2 : Nat) : Int) by omega]; exact wrap_i64_lt _ (by omega)
                            have k2 : (C : Int) - (n2 : Int) - (m2 : Int) = (K : Int) := by omega
                            have k3 : IntKind.i64.wrap (K : Int) = (K : Int) := wrap_i64_lt K (by omega)
                            have k4 : (K : Int) < (C : Int) := by omega
                            have k5 : K < C := by omega
                            have hlen2 : cur.length + 1 ≤ 140737488355328 := by rw [HCC.out]; omega
                            have hrzm : r + 1 ≤ wr.heap.size + 1 := by omega
                            clear hC hK hCL
                            go_upto_region 28 with (fail)
                            go_region_law (first
                              | (refine step_appendB rfl (.tmp 162) (.tmp 178) rfl (r + 1) (.slice (some ⟨gz, 0, none⟩) C cz) cur rfl (ownB.alloc HFD.out.own _) (wr.heap.size + 1) 1 1 (some ⟨wr.heap.size, 0, none⟩) [x] rfl (rd_one (wr.drewN 1) (x.toNat : Int) x rfl) hlen2 (show r + 1 ≤ (wr.alloc (.cells #[Value.int .u8 (x.toNat : Int)] 5)).heap.size from by rw [World.size_alloc]; exact hrzm) ?_; intro v6 w6 hown hgb hbl6 hat; replace hgb : ((wr.drewN 1).alloc (.cells #[Value.int .u8 (x.toNat : Int)] 5)).grownBy w6 _ := hgb; replace hbl6 : Below (r + 1) ((wr.drewN 1).alloc (.cells #[Value.int .u8 (x.toNat : Int)] 5)) w6 := hbl6; obtain ⟨A6, c6, rfl, -, -, -⟩ := hown.form; obtain ⟨hf6, hr6, c61, f61⟩ := HFD.out.gave hown hgb hbl6 hat; rw [← HSN.out] at hf6 hr6; obtain ⟨l6, hl6⟩ : ∃ l, (cur ++ [x]).length = l := ⟨_, rfl⟩; rw [HSN.out, hl6] at hf6; rw [HSN.out, hl6] at hr6; rw [← HSN.out] at hf6; rw [hl6]; clear hl6; have HF6 := Lib.hid hf6; have HR6 := Lib.hid (HRD.out.trans hr6); clear hf6 hr6 hown hgb hbl6 hat))
                            all_goals
                              go_simp
                              go_wp2_with fail
                              go_roundw
                              case rel => exact ⟨i + 1, _, by omega, by go_num, HF6, HR6⟩
                              case measure => simp [intOf]; omega
                          · obtain rfl : i = M := by omega
                            have hlti : ¬ (i : Int) < (i : Int) := by omega
                            have HO9 : Hid ((((cpyN D i out').length : Nat) : Int) ≤ most) := (show _ ≤ _ by rw [hC, hCL]; omega)
                            have HFU9 : Hid (8 * n + 1 ≤ P4 + f) := (show _ ≤ _ by have := HFU.out; omega)
                            have hpos9 := posOf_eq HF.out.rd
                            clear hC hCL
                            go_wp2_with fail
                            go_roundw
                            case rel => exact ⟨P4, _, _, f, HF, HR, HFU9, HE, HO9⟩
                            case measure => rw [hpos9, hpos]; omega
                  · have HE := Lib.hid (HDG.out hf3)
                    have HG7 := Lib.hid (fun w1 h => HHB.out w1 h hf3)
                    clear HHG HHB HDG HDC
                    go_wp2_with (first
                      | (go_at_call 67; (with_reducible refine HN.out.mono ?_); go_must (rintro e w5 ⟨rfl, hf5, hr5⟩; have HG55 := Lib.hid (HG5.out w5 hf5); have hr5x := Lib.hid hr5; have HF5 := Lib.hid hf5; have HR5 := Lib.hid (HR.out.trans hr5); clear hf5 hr5))
                      | (go_at_call 68; (with_reducible refine (HLO.out _).mono ?_); go_must (rintro e w9 ⟨rfl, rfl⟩))
                      | (go_at_call 32; (with_reducible refine HG55.out.mono ?_); go_must (rintro e w6 ⟨rfl, hf6, hr6⟩; have c60 := hf6.arr.cell (k := 0) rfl; have HN26 := Lib.hid (HN2.out w6 hf6 (HDKD.out w6 (hr5x.out.trans hr6))); have HF6 := Lib.hid hf6; have HR6 := Lib.hid (HR5.out.trans hr6); clear hf6 hr6 HG55))
                      | (go_at_call 67; (with_reducible refine HN26.out.mono ?_); go_must (rintro e w7 ⟨rfl, hf7, hr7⟩; have HG77 := Lib.hid (HG7.out w7 hf7); have HF7 := Lib.hid hf7; have HR7 := Lib.hid (HR6.out.trans hr7); clear hf7 hr7 HN26))
                      | (go_at_call 69; (with_reducible refine (HDO.out _).mono ?_); go_must (rintro e w9 ⟨rfl, rfl⟩))
                      | (go_at_call 32; (with_reducible refine HG77.out.mono ?_); go_must (rintro e w8 ⟨rfl, hf8, hr8⟩; have HF8 := Lib.hid hf8; have HR8 := Lib.hid (HR7.out.trans hr8); have c81 := hf8.arr.cell (k := 1) rfl; have c82 := hf8.arr.cell (k := 2) rfl; clear hf8 hr8 HG77)))
                    go_quiet (fail)
                    go_wp2_with fail
                    go_ret
                    unfold IqPost
                    exact ⟨false, _, _, _, rfl, HF8.out.drewN _, HR2.out.trans (HR8.out.drewN _), .inr ⟨rfl, HE.out⟩⟩
                · have HE : Hid (¬ R.e = 0) := (show ¬ _ by
                    rw [← HST.out, HCP.out]
                    refine toks_err (cpB_bad (fun h => hbad ?_))
                    rw [HNP2.out] at h
                    exact ⟨h.1, by have h2 : (p : Int) < 30 := h.2; omega⟩)
                  by_cases he2 : e2 = 0
                  · have d2 : (e2 != 0) = false := by rw [he2]; rfl
                    have hp29 : (29 : Int) < (p : Int) := by
                      have : ¬ p < 30 := fun h => hbad ⟨he2, h⟩
                      omega
                    go_wp2_with (first
                      | (go_at_call 67; (with_reducible refine HN.out.mono ?_); go_must (rintro e w5 ⟨rfl, hf5, hr5⟩; have HG55 := Lib.hid (HG5.out w5 hf5); have hr5x := Lib.hid hr5; have HF5 := Lib.hid hf5; have HR5 := Lib.hid (HR.out.trans hr5); clear hf5 hr5))
                      | (go_at_call 68; (with_reducible refine (HLO.out _).mono ?_); go_must (rintro e w9 ⟨rfl, rfl⟩))
                      | (go_at_call 32; (with_reducible refine HG55.out.mono ?_); go_must (rintro e w6 ⟨rfl, hf6, hr6⟩; have c60 := hf6.arr.cell (k := 0) rfl; have HN26 := Lib.hid (HN2.out w6 hf6 (HDKD.out w6 (hr5x.out.trans hr6))); have HF6 := Lib.hid hf6; have HR6 := Lib.hid (HR5.out.trans hr6); clear hf6 hr6 HG55))
                      | (go_at_call 67; (with_reducible refine HN26.out.mono ?_); go_must (rintro e w7 ⟨rfl, hf7, hr7⟩;  have HF7 := Lib.hid hf7; have HR7 := Lib.hid (HR6.out.trans hr7); clear hf7 hr7 HN26)))
                    go_ret
                    unfold IqPost
                    exact ⟨false, _, _, _, rfl, HF7.out, HR2.out.trans (HR7.out), .inr ⟨rfl, HE.out⟩⟩
                  · have d2 : (e2 != 0) = true := by rw [bne_iff_ne]; exact he2
                    go_wp2_with (first
                      | (go_at_call 67; (with_reducible refine HN.out.mono ?_); go_must (rintro e w5 ⟨rfl, hf5, hr5⟩; have HG55 := Lib.hid (HG5.out w5 hf5); have hr5x := Lib.hid hr5; have HF5 := Lib.hid hf5; have HR5 := Lib.hid (HR.out.trans hr5); clear hf5 hr5))
                      | (go_at_call 68; (with_reducible refine (HLO.out _).mono ?_); go_must (rintro e w9 ⟨rfl, rfl⟩))
                      | (go_at_call 32; (with_reducible refine HG55.out.mono ?_); go_must (rintro e w6 ⟨rfl, hf6, hr6⟩; have c60 := hf6.arr.cell (k := 0) rfl; have HN26 := Lib.hid (HN2.out w6 hf6 (HDKD.out w6 (hr5x.out.trans hr6))); have HF6 := Lib.hid hf6; have HR6 := Lib.hid (HR5.out.trans hr6); clear hf6 hr6 HG55))
                      | (go_at_call 67; (with_reducible refine HN26.out.mono ?_); go_must (rintro e w7 ⟨rfl, hf7, hr7⟩;  have HF7 := Lib.hid hf7; have HR7 := Lib.hid (HR6.out.trans hr7); clear hf7 hr7 HN26)))
                    go_ret
                    unfold IqPost
                    exact ⟨false, _, _, _, rfl, HF7.out, HR2.out.trans (HR7.out), .inr ⟨rfl, HE.out⟩⟩
            · have HE := Lib.hid (HCG.out hf1)
              have HG5 := Lib.hid (fun w1 h => HGB.out w1 h hf1)
              clear HC0 HC1 HGB HGG HCG
              go_wp2_with (first
                | (go_at_call 67; (with_reducible refine HN.out.mono ?_); go_must (rintro e w5 ⟨rfl, hf5, hr5⟩; have HG55 := Lib.hid (HG5.out w5 hf5); have hr5x := Lib.hid hr5; have HF5 := Lib.hid hf5; have HR5 := Lib.hid (HR.out.trans hr5); clear hf5 hr5))
                | (go_at_call 68; (with_reducible refine (HLO.out _).mono ?_); go_must (rintro e w9 ⟨rfl, rfl⟩))
                | (go_at_call 32; (with_reducible refine HG55.out.mono ?_); go_must (rintro e w6 ⟨rfl, hf6, hr6⟩;  have HF6 := Lib.hid hf6; have HR6 := Lib.hid (HR5.out.trans hr6); clear hf6 hr6 HG55)))
              go_ret
              unfold IqPost
              exact ⟨false, _, _, _, rfl, HF6.out, HR2.out.trans (HR6.out), .inr ⟨rfl, HE.out⟩⟩
    · have HE : Hid (¬ R.e = 0) := (show ¬ _ by
        rw [← HL.out]
        exact toks_bad rfl (by rw [HNP.out]; exact ht))
      have d2b : (e1 != 0) = true := by rw [bne_iff_ne]; exact ht
      go_wp2_with (go_at_call 67; (with_reducible refine HN.out.mono ?_); go_must (rintro e w5 ⟨rfl, hf5, hr5⟩;  have HF5 := Lib.hid hf5; have HR5 := Lib.hid (HR.out.trans hr5); clear hf5 hr5))
      go_ret
      unfold IqPost
      exact ⟨false, _, _, _, rfl, HF5.out, HR2.out.trans (HR5.out), .inr ⟨rfl, HE.out⟩⟩
end
end Go.Proofs.Yteoolehdomjkkaa

/- flate: the document's reader of blocks: may a list of distances be? -/
namespace Go.Proofs.Yteoolehdomjkkaa
set_option linter.all false
open Go.RowKit

theorem nextP0s (bs : List UInt8) (ls : List Int) (P : Nat) (out : List UInt8) : nextP bs ls ⟨P, out, 0⟩ = ((nx ls bs 15 1 0 P).1, ⟨(nx ls bs 15 1 0 P).2.2, out, (nx ls bs 15 1 0 P).2.1⟩) := by
  unfold nextP
  rw [if_pos rfl]
theorem cOne_le (ls : List Int) : cOne ls ≤ cPos ls := by
  unfold cOne cPos
  refine List.countP_mono_left fun x _ h => ?_
  have : x = 1 := by simpa using h
  rw [this]; rfl
def MdPost (ls : List Int) (w : World) (e : Ending) (w' : World) : Prop := ∃ ok, e = .returned (.bool ok) ∧ (ok = true ↔ mayL ls) ∧ w = w'
set_option maxRecDepth 100000 in
set_option maxHeartbeats 3200000 in
theorem mayDist_any (B n c : Nat) (A : Option Addr) (ls : List Int) (w : World) (h : RdI w B A n ls) (hn : n ≤ 1000) :
    Calls Try.prog 38 #[.slice A n c] w fun e w' => MdPost ls w e w' := by
  have HRD := Lib.hid h
  have HL := Lib.hid h.len
  have HKR := Lib.hid (kraft5_any B n c A ls w h (by omega))
  have HML : Hid (mayL ls ↔ (krV ls = 32768 ∨ cPos ls = 0 ∨ (cPos ls = 1 ∧ cOne ls = 1))) := (show _ ↔ _ from Iff.rfl)
  have H10 := Lib.hid (cOne_le ls)
  generalize krE ls = KE at *
  generalize krV ls = K at *
  clear h
  go_enter Try.func38, Try.ntmps38
  go_wp2_with (go_at_call 37; (with_reducible refine HKR.out.mono ?_); go_must (rintro e w1 ⟨rfl, rfl⟩))
  go_loopw [7, 5, 6] (fun vk vp vq wr => ∃ (k : Nat) (one : Bool), k ≤ n ∧ vk = .int .i64 k ∧ vp = .int .i64 (cPos (ls.take k) : Int) ∧ vq = .bool one ∧ Hid (one = decide (cOne (ls.take k) = cPos (ls.take k))) ∧ wr = w) (fun vk _ _ _ => n - (intOf vk).toNat)
  case atStart => exact ⟨0, true, Nat.zero_le _, rfl, rfl, rfl, (show _ = _ from rfl), rfl⟩
  case round =>
    obtain ⟨k, one, hk, rfl, rfl, rfl, HON, rfl⟩ := hrel
    by_cases hlt : k < n
    · have hlti : (k : Int) < (n : Int) := by omega
      obtain ⟨b, o, x, rfl, hb, HX, e1⟩ := HRD.out.one hlt
      have HP1 : Hid (cPos (ls.take (k + 1)) = cPos (ls.take k) + if 0 < x then 1 else 0) := (show _ = _ by rw [take_snoc1 HX.out, cPos_snoc])
      have HO1 : Hid (cOne (ls.take (k + 1)) = cOne (ls.take k) + if x = 1 then 1 else 0) := (show _ = _ by rw [take_snoc1 HX.out, cOne_snoc])
      have hpl : cPos (ls.take k) ≤ 1000 := Nat.le_trans List.countP_le_length (by rw [List.length_take]; omega)
      have hol : cOne (ls.take k) ≤ cPos (ls.take k) := cOne_le _
      generalize cPos (ls.take k) = cp at *
      generalize cOne (ls.take k) = co at *
      by_cases hx0 : 0 < x
      · rw [if_pos hx0] at HP1
        by_cases hx1 : x = 1
        · rw [if_pos hx1] at HO1
          have t1 : (x == 1) = true := by rw [hx1]; rfl
          have HN2 : Hid (one = decide (cOne (ls.take (k + 1)) = cPos (ls.take (k + 1)))) := (show _ = _ by
            rw [HP1.out, HO1.out, HON.out]
            by_cases e : co = cp
            · rw [decide_eq_true e, decide_eq_true (by omega)]
            · rw [decide_eq_false e, decide_eq_false (by omega)])
          clear hol HON
          cases one with
          | false =>
            go_wp2_with fail
            go_roundw
            case rel => exact ⟨k + 1, false, by omega, by go_num, by (rw [HP1.out]) <;> (first | done | rfl | go_num), rfl, HN2, trivial⟩
            case measure => simp [intOf]; omega
          | true =>
            go_wp2_with fail
            go_roundw
            case rel => exact ⟨k + 1, true, by omega, by go_num, by (rw [HP1.out]) <;> (first | done | rfl | go_num), rfl, HN2, trivial⟩
            case measure => simp [intOf]; omega
        · rw [if_neg hx1] at HO1
          have t1 : (x == 1) = false := beq_eq_false_iff_ne.2 hx1
          have HN2 : Hid (false = decide (cOne (ls.take (k + 1)) = cPos (ls.take (k + 1)))) := (show _ = _ by
            rw [HP1.out, HO1.out, decide_eq_false (by omega)])
          clear hol HON
          cases one with
          | false =>
            go_wp2_with fail
            go_roundw
            case rel => exact ⟨k + 1, false, by omega, by go_num, by (rw [HP1.out]) <;> (first | done | rfl | go_num), rfl, HN2, trivial⟩
            case measure => simp [intOf]; omega
          | true =>
            go_wp2_with fail
            go_roundw
            case rel => exact ⟨k + 1, false, by omega, by go_num, by (rw [HP1.out]) <;> (first | done | rfl | go_num), rfl, HN2, trivial⟩
            case measure => simp [intOf]; omega
      · rw [if_neg hx0] at HP1
        have hx1 : ¬ x = 1 := by omega
        rw [if_neg hx1] at HO1
        have HN2 : Hid (one = decide (cOne (ls.take (k + 1)) = cPos (ls.take (k + 1)))) := (show _ = _ by
          rw [HP1.out, HO1.out, HON.out, Nat.add_zero, Nat.add_zero])
        clear hol HON
        go_wp2_with fail
        go_roundw
        case rel => exact ⟨k + 1, one, by omega, by go_num, by (rw [HP1.out]) <;> (first | done | rfl | go_num), rfl, HN2, trivial⟩
        case measure => simp [intOf]; omega
    · obtain rfl : k = n := by omega
      have hlti : ¬ (k : Int) < (k : Int) := by omega
      have hta : ls.take k = ls := List.take_of_length_le (by rw [HL.out]; exact Nat.le_refl _)
      rw [hta] at HON ⊢
      clear hta
      generalize cPos ls = P at *
      generalize cOne ls = O at *
      have hO := H10.out
      by_cases hK : K = 32768
      · have t1 : (K == 32768) = true := by rw [hK]; rfl
        go_wp2_with fail
        go_ret
        unfold MdPost
        exact ⟨true, rfl, by rw [HML.out]; exact ⟨fun _ => .inl hK, fun _ => rfl⟩, rfl⟩
      · have t1 : (K == 32768) = false := beq_eq_false_iff_ne.2 hK
        by_cases hP0 : P = 0
        · have t2 : ((P : Int) == 0) = true := by rw [hP0]; rfl
          clear hO
          go_wp2_with fail
          go_ret
          unfold MdPost
          exact ⟨true, rfl, by rw [HML.out]; exact ⟨fun _ => .inr (.inl hP0), fun _ => rfl⟩, rfl⟩
        · have t2 : ((P : Int) == 0) = false := beq_eq_false_iff_ne.2 (by omega)
          by_cases hP1 : P = 1
          · have t3 : ((P : Int) == 1) = true := by rw [hP1]; rfl
            have HE : Hid (one = true ↔ O = 1) := (show _ ↔ _ by rw [HON.out, decide_eq_true_iff]; omega)
            clear hO HON
            cases one with
            | false =>
              go_wp2_with fail
              go_ret
              unfold MdPost
              exact ⟨false, rfl, by rw [HML.out]; exact ⟨fun h => Bool.noConfusion h, fun h => by rcases h with h | h | h; (· exact absurd h hK); (· exact absurd h hP0); (· exact HE.out.2 h.2)⟩, rfl⟩
            | true =>
              go_wp2_with fail
              go_ret
              unfold MdPost
              exact ⟨true, rfl, by rw [HML.out]; exact ⟨fun h => .inr (.inr ⟨hP1, HE.out.1 (by first | rfl | trivial)⟩), fun _ => rfl⟩, rfl⟩
          · have t3 : ((P : Int) == 1) = false := beq_eq_false_iff_ne.2 (by omega)
            clear hO
            go_wp2_with fail
            go_ret
            unfold MdPost
            exact ⟨false, rfl, by rw [HML.out]; exact ⟨fun h => Bool.noConfusion h, fun h => by rcases h with h | h | h; (· exact absurd h hK); (· exact absurd h hP0); (· exact absurd h.1 hP1)⟩, rfl⟩
end Go.Proofs.Yteoolehdomjkkaa

/- flate: the document's symbols, plainly. -/
namespace Go.Proofs.Yteoolehdomjkkaa
set_option linter.all false

theorem scan_at {f : Nat → Nat × Nat} {x k s n : Nat} (hm : ∀ i j, i < j → j ≤ n → (f i).1 < (f j).1) (h1 : k ≤ n ∧ (f k).1 ≤ x ∧ ∀ j, k < j → j ≤ n → x < (f j).1) (hs : s ≤ n) (h2 : (f s).1 ≤ x) (h3 : s < n → x < (f (s + 1)).1) : k = s := by
  refine scan_uniq hm h1 ⟨hs, h2, fun j hj hn => ?_⟩
  have h4 := h3 (by omega)
  by_cases e : j = s + 1
  · rw [e]; exact h4
  · have := hm (s + 1) j (by omega) hn
    omega
theorem lenS_low {y : Nat} (h : 3 ≤ y) (h2 : y < 11) : lenS y = y - 3 ∧ lenOf (y - 3) = (y, 0) := by
  have e1 : lenOf (y - 3) = (y, 0) := by
    unfold lenOf grp
    rw [if_neg (by omega), if_pos (by omega), show 3 + (y - 3) = y by omega]
  refine ⟨scan_at len_mono (lenS_spec h) (by omega) (by rw [e1]; exact Nat.le_refl _) (fun _ => ?_), e1⟩
  by_cases e : y = 10
  · subst e; decide
  · unfold lenOf grp
    rw [if_neg (by omega), if_pos (by omega)]
    show y < 3 + (y - 3 + 1)
    omega
theorem lenS_top : lenS 258 = 28 ∧ lenOf 28 = (258, 0) := by decide
theorem lenOf_at0 : ∀ k, k < 6 → ∀ q, q < 8 → k = 0 ∨ q < 4 ∨ ((lenOf (4 * k + q)).1 = 3 + q * 2 ^ k ∧ (lenOf (4 * k + q)).2 = k ∧ (lenOf (4 * k + q + 1)).1 + (if 4 * k + q = 27 then 1 else 0) = 3 + (q + 1) * 2 ^ k) := by decide
theorem lenOf_at (k : Nat) (hk : k < 6) (q : Nat) (hq : q < 8) (h1 : 1 ≤ k) (h4 : 4 ≤ q) : lenOf (4 * k + q) = (3 + q * 2 ^ k, k) ∧ (lenOf (4 * k + q + 1)).1 + (if 4 * k + q = 27 then 1 else 0) = 3 + (q + 1) * 2 ^ k := by
  rcases lenOf_at0 k hk q hq with h | h | ⟨a, b, c⟩
  · omega
  · omega
  · exact ⟨Prod.ext a b, c⟩
theorem lenS_form {n k : Nat} (h1 : 8 ≤ n) (h2 : n < 255) (hk : 1 ≤ k) (hk1 : n / 2 ^ (k + 2) ≤ 1) (hk2 : k = 1 ∨ 1 < n / 2 ^ (k + 1)) : k < 6 ∧ 4 ≤ n / 2 ^ k ∧ n / 2 ^ k < 8 ∧ lenS (n + 3) = 4 * k + n / 2 ^ k ∧ lenOf (4 * k + n / 2 ^ k) = (3 + n / 2 ^ k * 2 ^ k, k) := by
  have hk6 : k < 6 := by
    refine Nat.lt_of_not_le fun h => ?_
    rcases hk2 with e | e
    · omega
    · have h3 : 2 ^ 7 ≤ 2 ^ (k + 1) := Nat.pow_le_pow_right (by decide) (by omega)
      have h4 : n / 2 ^ (k + 1) ≤ n / 2 ^ 7 := Nat.div_le_div_left h3 (by decide)
      have h5 : n / 2 ^ 7 ≤ 1 := by show n / 128 ≤ 1; omega
      omega
  have hp : 0 < 2 ^ k := Nat.two_pow_pos k
  have e2 : n / 2 ^ (k + 2) = n / 2 ^ k / 4 := by rw [Nat.pow_add, ← Nat.div_div_eq_div_mul]
  have e1 : n / 2 ^ (k + 1) = n / 2 ^ k / 2 := by rw [Nat.pow_add, ← Nat.div_div_eq_div_mul]
  rw [e2] at hk1
  rw [e1] at hk2
  have q1 : 4 ≤ n / 2 ^ k := by
    rcases hk2 with e | e
    · subst e; show 4 ≤ n / 2; omega
    · omega
  have q2 : n / 2 ^ k < 8 := by omega
  have hd := Nat.div_add_mod n (2 ^ k)
  have hm := Nat.mod_lt n hp
  obtain ⟨f1, f2⟩ := lenOf_at k hk6 (n / 2 ^ k) q2 hk q1
  generalize n / 2 ^ k = q at *
  refine ⟨hk6, q1, q2, scan_at len_mono (lenS_spec (by omega)) (by omega) ?_ (fun h => ?_), f1⟩
  · rw [f1]
    show 3 + q * 2 ^ k ≤ n + 3
    rw [Nat.mul_comm] at hd
    omega
  · by_cases e27 : 4 * k + q = 27
    · have e28 : (lenOf (4 * k + q + 1)).1 = 258 := by rw [e27]; rfl
      rw [e28]
      omega
    · rw [if_neg e27, Nat.add_mul, Nat.one_mul] at f2
      rw [Nat.mul_comm] at hd
      generalize (lenOf (4 * k + q + 1)).1 = z at *
      generalize n % 2 ^ k = r at *
      generalize q * 2 ^ k = u at *
      generalize 2 ^ k = t at *
      omega
theorem distS_low {y : Nat} (h : 1 ≤ y) (h2 : y < 5) : distS y = y - 1 ∧ distOf (y - 1) = (y, 0) := by
  rcases (show y = 1 ∨ y = 2 ∨ y = 3 ∨ y = 4 by omega) with rfl | rfl | rfl | rfl <;> decide
theorem distOf_at0 : ∀ k, k < 14 → ∀ q, q < 4 → k = 0 ∨ q < 2 ∨ ((distOf (2 * k + q)).1 = 1 + q * 2 ^ k ∧ (distOf (2 * k + q)).2 = k ∧ (distOf (2 * k + q + 1)).1 = 1 + (q + 1) * 2 ^ k) := by decide
theorem distOf_at (k : Nat) (hk : k < 14) (q : Nat) (hq : q < 4) (h1 : 1 ≤ k) (h4 : 2 ≤ q) : distOf (2 * k + q) = (1 + q * 2 ^ k, k) ∧ (distOf (2 * k + q + 1)).1 = 1 + (q + 1) * 2 ^ k := by
  rcases distOf_at0 k hk q hq with h | h | ⟨a, b, c⟩
  · omega
  · omega
  · exact ⟨Prod.ext a b, c⟩
theorem distS_form {n k : Nat} (h1 : 4 ≤ n) (h2 : n < 32768) (hk : 1 ≤ k) (hk1 : n / 2 ^ (k + 1) ≤ 1) (hk2 : k = 1 ∨ 1 < n / 2 ^ k) : k < 14 ∧ 2 ≤ n / 2 ^ k ∧ n / 2 ^ k < 4 ∧ distS (n + 1) = 2 * k + n / 2 ^ k ∧ distOf (2 * k + n / 2 ^ k) = (1 + n / 2 ^ k * 2 ^ k, k) := by
  have hk6 : k < 14 := by
    refine Nat.lt_of_not_le fun h => ?_
    rcases hk2 with e | e
    · omega
    · have h3 : 2 ^ 14 ≤ 2 ^ k := Nat.pow_le_pow_right (by decide) (by omega)
      have h4 : n / 2 ^ k ≤ n / 2 ^ 14 := Nat.div_le_div_left h3 (by decide)
      have h5 : n / 2 ^ 14 ≤ 1 := by show n / 16384 ≤ 1; omega
      omega
  have hp : 0 < 2 ^ k := Nat.two_pow_pos k
  have e1 : n / 2 ^ (k + 1) = n / 2 ^ k / 2 := by rw [Nat.pow_add, ← Nat.div_div_eq_div_mul]
  rw [e1] at hk1
  have q1 : 2 ≤ n / 2 ^ k := by
    rcases hk2 with e | e
    · subst e; show 2 ≤ n / 2; omega
    · omega
  have q2 : n / 2 ^ k < 4 := by omega
  have hd := Nat.div_add_mod n (2 ^ k)
  have hm := Nat.mod_lt n hp
  obtain ⟨f1, f2⟩ := distOf_at k hk6 (n / 2 ^ k) q2 hk q1
  generalize n / 2 ^ k = q at *
  refine ⟨hk6, q1, q2, scan_at dist_mono (distS_spec (by omega)) (by omega) ?_ (fun h => ?_), f1⟩
  · rw [f1]
    show 1 + q * 2 ^ k ≤ n + 1
    rw [Nat.mul_comm] at hd
    omega
  · rw [Nat.add_mul] at f2
    rw [Nat.mul_comm] at hd
    generalize q * 2 ^ k = u at *
    generalize 2 ^ k = t at *
    generalize (distOf (2 * k + q + 1)).1 = z at *
    generalize n % t = r at *
    omega
/-- What a symbol says, as the document reckons it. -/
theorem symV_low {y : Nat} (h : 3 ≤ y) (h2 : y < 11) : symV (y : Int) = (((254 + y : Nat) : Int), 0, 0) := by
  obtain ⟨e1, e2⟩ := lenS_low h h2
  unfold symV
  rw [if_neg (by omega), show ((y : Int)).toNat = y from rfl, e1, e2]
  show ((257 : Int) + ((y - 3 : Nat) : Int), ((0 : Nat) : Int), (y : Int) - (y : Int)) = _
  rw [Int.sub_self, show (257 : Int) + ((y - 3 : Nat) : Int) = ((254 + y : Nat) : Int) by omega]
  rfl
theorem symV_top : symV 258 = (285, 0, 0) := by decide
theorem symV_form {n k : Nat} (h1 : 8 ≤ n) (h2 : n < 255) (hk : 1 ≤ k) (hk1 : n / 2 ^ (k + 2) ≤ 1) (hk2 : k = 1 ∨ 1 < n / 2 ^ (k + 1)) : symV ((n + 3 : Nat) : Int) = (((257 + 4 * k + n / 2 ^ k : Nat) : Int), (k : Int), ((n % 2 ^ k : Nat) : Int)) := by
  obtain ⟨g1, g2, g3, g4, g5⟩ := lenS_form h1 h2 hk hk1 hk2
  have hd := Nat.div_add_mod n (2 ^ k)
  rw [Nat.mul_comm] at hd
  unfold symV
  rw [if_neg (by omega), show (((n + 3 : Nat) : Int)).toNat = n + 3 from rfl, g4, g5]
  show ((257 : Int) + ((4 * k + n / 2 ^ k : Nat) : Int), ((k : Nat) : Int), ((n + 3 : Nat) : Int) - ((3 + n / 2 ^ k * 2 ^ k : Nat) : Int)) = _
  rw [show (257 : Int) + ((4 * k + n / 2 ^ k : Nat) : Int) = ((257 + 4 * k + n / 2 ^ k : Nat) : Int) by omega]
  generalize n / 2 ^ k * 2 ^ k = u at *
  rw [show ((n + 3 : Nat) : Int) - ((3 + u : Nat) : Int) = ((n % 2 ^ k : Nat) : Int) by omega]
theorem dstV_low {y : Nat} (h : 1 ≤ y) (h2 : y < 5) : dstV (y : Int) = (((y - 1 : Nat) : Int), 0, 0) := by
  obtain ⟨e1, e2⟩ := distS_low h h2
  unfold dstV
  rw [if_neg (by omega), show ((y : Int)).toNat = y from rfl, e1, e2]
  show (((y - 1 : Nat) : Int), ((0 : Nat) : Int), (y : Int) - (y : Int)) = _
  rw [Int.sub_self]
  rfl
theorem dstV_form {n k : Nat} (h1 : 4 ≤ n) (h2 : n < 32768) (hk : 1 ≤ k) (hk1 : n / 2 ^ (k + 1) ≤ 1) (hk2 : k = 1 ∨ 1 < n / 2 ^ k) : dstV ((n + 1 : Nat) : Int) = (((2 * k + n / 2 ^ k : Nat) : Int), (k : Int), ((n % 2 ^ k : Nat) : Int)) := by
  obtain ⟨g1, g2, g3, g4, g5⟩ := distS_form h1 h2 hk hk1 hk2
  have hd := Nat.div_add_mod n (2 ^ k)
  rw [Nat.mul_comm] at hd
  unfold dstV
  rw [if_neg (by omega), show (((n + 1 : Nat) : Int)).toNat = n + 1 from rfl, g4, g5]
  show (((2 * k + n / 2 ^ k : Nat) : Int), ((k : Nat) : Int), ((n + 1 : Nat) : Int) - ((1 + n / 2 ^ k * 2 ^ k : Nat) : Int)) = _
  generalize n / 2 ^ k * 2 ^ k = u at *
  rw [show ((n + 1 : Nat) : Int) - ((1 + u : Nat) : Int) = ((n % 2 ^ k : Nat) : Int) by omega]
end Go.Proofs.Yteoolehdomjkkaa

/- flate: the document's symbols. -/
namespace Go.Proofs.Yteoolehdomjkkaa
set_option linter.all false
open Go.RowKit

theorem mask_mod (n k : Nat) (h : n < 65536) (hk : k < 16) : bits .and .i64 (n : Int) (((2 ^ k : Nat) : Int) - 1) = ((n % 2 ^ k : Nat) : Int) := by
  have h1 : 0 < 2 ^ k := Nat.two_pow_pos k
  have h2 : 2 ^ k ≤ 2 ^ 15 := Nat.pow_le_pow_right (by decide) (by omega)
  rw [show (((2 ^ k : Nat) : Int) - 1) = ((2 ^ k - 1 : Nat) : Int) by omega, i64_and_nat _ _ (by omega) (by omega), Nat.and_two_pow_sub_one_eq_mod]
end Go.Proofs.Yteoolehdomjkkaa
