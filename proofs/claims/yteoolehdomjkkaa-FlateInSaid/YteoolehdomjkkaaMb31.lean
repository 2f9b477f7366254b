/- Merged: Rd13, Iq9. -/
import Derived.Test.YteoolehdomjkkaaMb30
import Derived.Test.YteoolehdomjkkaaMb23
import Derived.Test.YteoolehdomjkkaaMb27
/- flate: Inflate, whatever comes. -/
namespace Go.Proofs.Yteoolehdomjkkaa
set_option linter.all false
open Go.RowKit

def imeas (n g r : Nat) (vi : Value) (w : World) : Nat := if intOf vi = 0 ∧ errOf w r = 0 then 8 * n + 1 - posOf w g else 0
set_option maxRecDepth 100000 in
set_option maxHeartbeats 6400000 in
theorem inflate_all (B n c : Nat) (A : Option Addr) (bs : List UInt8) (most : Int) (w : World) (h : RdB w B A n bs) (hB : B ≤ w.heap.size) (hn : n ≤ 1000000) :
    Calls Try.prog 9 #[.slice A n c, .int .i64 most] w fun e w' => ∃ v, e = .returned (.tuple #[v, .int .i64 ((inflP bs most).2.1 : Int), .int .i64 (inflP bs most).2.2]) ∧ ownB w' w.heap.size v (inflP bs most).1 ∧ Below w.heap.size w w' := by
  by_cases hmost : most < 0 ∨ 40000 < most
  · have HP : Hid (inflP bs most = ([], 0, 1)) := (show _ = _ from if_pos hmost)
    rw [HP.out]
    clear h
    go_enter Try.func9, Try.ntmps9
    rcases hmost with h1 | h1
    · have t1 : decide (most < 0) = true := decide_eq_true h1
      go_wp2_with fail
      go_ret3
      exact ⟨_, rfl, ownB.nil_ _ _, Below.refl _ _⟩
    · have t1 : decide (most < 0) = false := decide_eq_false (by omega)
      have t2 : decide (most > 40000) = true := decide_eq_true h1
      have t3 : ¬ most < 0 := by omega
      go_wp2_with fail
      go_ret3
      exact ⟨_, rfl, ownB.nil_ _ _, Below.refl _ _⟩
  · have hn1 : ¬ most < 0 := fun h => hmost (.inl h)
    have hn2 : ¬ 40000 < most := fun h => hmost (.inr h)
    have h0 : 0 ≤ most := by omega
    have hm : most ≤ 40000 := by omega
    have hlb : bs.length = n := h.len
    have HP : Hid (inflP bs most = if (infS bs most).e = 0 then ((infS bs most).out, ((infS bs most).p + 7) / 8, 0) else ([], 0, (infS bs most).e)) := (show _ = _ from if_neg hmost)
    rw [HP.out]
    obtain ⟨S, hS⟩ : ∃ S, infS bs most = S := ⟨_, rfl⟩
    rw [hS]
    obtain ⟨T, hT⟩ : ∃ T, (if S.e = 0 then (S.out, (S.p + 7) / 8, 0) else (([] : List UInt8), 0, S.e)) = T := ⟨_, rfl⟩
    rw [hT]
    have HT := Lib.hid hT
    have HC : Hid (infF bs most (8 * n + 1) (8 * n + 1) ⟨0, [], 0⟩ = S) := (show _ = _ by rw [← hS, ← hlb]; rfl)
    have HN := Lib.hid (newReader_any B n c A bs w h (by omega))
    have t1 : decide (most < 0) = false := decide_eq_false (by omega)
    have t2 : decide (most > 40000) = false := decide_eq_false (by omega)
    have t3 : ¬ most < 0 := by omega
    have t4 : ¬ 40000 < most := by omega
    clear h hS hn1 hn2 HP hmost hT
    go_enter Try.func9, Try.ntmps9
    go_wp2_with (go_at_call 25; (with_reducible refine HN.out.mono ?_); go_must (rintro e w1 ⟨g, A1, c1, rfl, hg, hgw, ha1, hr1, hb1⟩; have HFR : Hid (FS (w1.alloc (.cells #[.pointer (some ⟨g, 0, none⟩), .slice none 0 0, .int .i64 most, .int .i64 0] 55)) w1.heap.size g A1 n c1 bs most (.slice none 0 0) ⟨0, [], 0⟩) := (show FR _ _ _ _ _ _ _ _ _ _ _ _ from ⟨Arr.new w1 [.pointer (some ⟨g, 0, none⟩), .slice none 0 0, .int .i64 most, .int .i64 0] 55, ha1.alloc _, Rd.alloc hr1 (Nat.le_of_lt hgw) _, ownB.nil_ _ _, hgw, Nat.zero_le _, hn⟩); have HB1 := Lib.hid (hb1.alloc hb1.size (.cells #[.pointer (some ⟨g, 0, none⟩), .slice none 0 0, .int .i64 most, .int .i64 0] 55)); have hz1 := hb1.size; clear ha1 hr1 hb1))
    obtain ⟨r, hr⟩ : ∃ r, w1.heap.size = r := ⟨_, rfl⟩
    rw [hr] at HFR
    simp only [hr]
    have hgr : g < r := by omega
    have hwr : w.heap.size ≤ r := by omega
    have hr := Lib.hid hr
    clear hz1 hgw
    go_wp2_with fail
    have HB2 := Lib.hid (HB1.out)
    obtain ⟨w2, hw2⟩ : ∃ w2, w1.alloc (.cells #[.pointer (some ⟨g, 0, none⟩), .slice none 0 0, .int .i64 most, .int .i64 0] 55) = w2 := ⟨_, rfl⟩
    simp only [hw2]
    rw [hw2] at HB2 HFR
    clear hw2 HB1
    go_loopw [8] (fun vi wr => ∃ (last f : Nat) (vo : Value) (cur : RS), vi = .int .i64 last ∧ last ≤ 1 ∧ Hid (FS wr r g A1 n c1 bs most vo cur) ∧ Hid (Below w.heap.size w wr) ∧ Hid (if last = 0 then infF bs most (8 * n + 1) f cur = S else cur = S) ∧ Hid ((cur.out.length : Int) ≤ most) ∧ Hid (cur.e = 0 → 8 * n + 1 ≤ cur.p + f)) (fun vi wr => imeas n g r vi wr)
    case atStart => exact ⟨0, 8 * n + 1, .slice none 0 0, ⟨0, [], 0⟩, rfl, Nat.zero_le _, HFR, HB2, (show _ = _ from HC.out), (show (((0 : Nat) : Int)) ≤ most from h0), (show _ → _ from fun _ => Nat.le_add_left _ _)⟩
    case round =>
      clear HFR HB2 HC
      obtain ⟨last, f, vo, cur, rfl, hl, HFR, HB, HC, HO, HFU⟩ := hrel
      have c3 := (FR.arr HFR.out).cell (k := 3) rfl
      have herr := errOf_eq c3
      have hpm := posOf_eq (FR.rd HFR.out)
      by_cases hgo : last = 0 ∧ cur.e = 0
      · obtain ⟨rfl, he⟩ := hgo
        have d1 : (cur.e == 0) = true := by rw [he]; rfl
        obtain ⟨f, rfl⟩ : ∃ f', f = f' + 1 := ⟨f - 1, by have := HFU.out he; have := FR.fit HFR.out; omega⟩
        have HST : Hid ((if blk0 bs cur = 0 then infF bs most (8 * n + 1) f (blkP bs most (8 * n + 1) cur) else blkP bs most (8 * n + 1) cur) = S) := (show _ = _ by
          have h1 : infF bs most (8 * n + 1) (f + 1) cur = S := by have := HC.out; rwa [if_pos rfl] at this
          rw [← h1]
          exact (if_pos he).symm)
        have hfu := HFU.out he
        have hblk := blkP_p (bs := bs) (most := most) (f := 8 * n + 1) (s := cur)
        have hble : ((blkP bs most (8 * n + 1) cur).out.length : Int) ≤ most := kindP_le (by rw [blk2_out]; exact HO.out)
        have HBP : Hid (blkP bs most (8 * n + 1) cur = kindP bs most (8 * n + 1) (blk1 bs cur) (blk2 bs cur)) := (show _ = _ from rfl)
        have HKE : Hid (¬ blk1 bs cur = 0 → (blk2 bs cur).e = 0) := (show _ → _ from fun h => getP_v0 h)
        have hko : ((blk2 bs cur).out.length : Int) ≤ most := by rw [blk2_out]; exact HO.out
        have hv0 : blk0 bs cur < 2 := getP_lt bs cur (m := 1) (by omega)
        have hv1 : blk1 bs cur < 4 := getP_lt bs (getP bs cur 1).2 (m := 2) (by omega)
        have HG1 : Hid (Calls Try.prog 26 #[.pointer (some ⟨r, 0, none⟩), .int .i64 1] wr fun e w' => e = .returned (.int .i64 (blk0 bs cur : Int)) ∧ FS w' r g A1 n c1 bs most vo (getP bs cur 1).2 ∧ RFr wr w' r g vo vo) := (show Calls _ _ _ _ _ from rget_any r g n c1 A1 bs most vo cur wr 1 1 rfl HFR.out (by omega))
        have HG2 : Hid (∀ w3, FS w3 r g A1 n c1 bs most vo (getP bs cur 1).2 → Calls Try.prog 26 #[.pointer (some ⟨r, 0, none⟩), .int .i64 2] w3 fun e w' => e = .returned (.int .i64 (blk1 bs cur : Int)) ∧ FS w' r g A1 n c1 bs most vo (blk2 bs cur) ∧ RFr w3 w' r g vo vo) := (show ∀ w3, _ from fun w3 h => rget_any r g n c1 A1 bs most vo _ w3 2 2 rfl h (by omega))
        have hm0 : imeas n g r (.int .i64 ((0 : Nat) : Int)) wr = 8 * n + 1 - cur.p := by unfold imeas; rw [herr, hpm]; exact if_pos ⟨rfl, he⟩
        have HFN : Hid (cur.p ≤ 8 * n) := (show _ from FR.fit HFR.out)
        generalize blk2 bs cur = t2 at *
        generalize (getP bs cur 1).2 = t1 at *
        generalize blk1 bs cur = k at *
        generalize blk0 bs cur = last at *
        generalize blkP bs most (8 * n + 1) cur = nxt at *
        have hd9 : w.heap.size ≤ g := hg
        have HFIN : Hid (∀ w5 v5, FS w5 r g A1 n c1 bs most v5 nxt → imeas n g r (.int .i64 (last : Int)) w5 < 8 * n + 1 - cur.p) := (show ∀ w5 v5, _ from fun w5 v5 h5 => by
          have h1 := posOf_eq (FR.rd h5)
          have h2 := errOf_eq ((FR.arr h5).cell (k := 3) rfl)
          have h3 := HFN.out
          unfold imeas
          rw [h2, h1]
          split
          · rename_i hh
            have := hblk hh.2
            omega
          · omega)
        have HNX : Hid (if last = 0 then infF bs most (8 * n + 1) f nxt = S else nxt = S) := (show _ by
          have := HST.out
          by_cases h : last = 0
          · rw [if_pos h] at this ⊢; exact this
          · rw [if_neg h] at this ⊢; exact this)
        have HFU2 : Hid (nxt.e = 0 → 8 * n + 1 ≤ nxt.p + f) := (show _ → _ from fun h => by have := hblk h; omega)
        clear HST HC HFU hblk herr hpm
        rcases (show k = 0 ∨ k = 1 ∨ k = 2 ∨ k = 3 by omega) with rfl | rfl | rfl | rfl
        · have HK := Lib.hid (fun w4 (h : FS w4 r g A1 n c1 bs most vo t2) => rplain_any r g n c1 A1 bs most vo t2 w4 h (by omega))
          rw [show plainP bs most t2 = nxt from HBP.out.symm] at HK
          clear HBP HKE
          go_wp2_with (first
            | (go_at_call 26; (with_reducible refine HG1.out.mono ?_); go_must (rintro e w3 ⟨rfl, hf3, hr3⟩; have HB3 := Lib.hid (HB.out.trans (FR.fr HFR.out hr3 hd9)); have HG23 := Lib.hid (HG2.out _ hf3); have HF3 := Lib.hid hf3; clear hf3 hr3))
            | (go_at_call 26; (with_reducible refine HG23.out.mono ?_); go_must (rintro e w4 ⟨rfl, hf4, hr4⟩; have HB4 := Lib.hid (HB3.out.trans (FR.fr HF3.out hr4 hd9)); have HK4 := Lib.hid (HK.out _ hf4); have HF4 := Lib.hid hf4; clear hf4 hr4 HG23))
            | (go_at_call 27; (with_reducible refine HK4.out.mono ?_); go_must (rintro e w5 ⟨rfl, v5, hf5, hr5⟩; have HB5 := Lib.hid (HB4.out.trans (FR.fr HF4.out hr5 hd9)); have HF5 := Lib.hid hf5; clear hf5 hr5)))
          go_roundw
          case rel => exact ⟨last, f, v5, nxt, rfl, by omega, HF5, HB5, HNX, hble, HFU2⟩
          case measure => rw [hm0]; exact HFIN.out _ v5 HF5.out
        · have HK := Lib.hid (fun w4 (h : FS w4 r g A1 n c1 bs most vo t2) => rfixed_any r g n c1 A1 bs most vo t2 w4 (8 * n + 1) h (HKE.out (by omega)) (by omega) hko (Nat.le_refl _))
          rw [show rfixP bs most (8 * n + 1) t2 = nxt from HBP.out.symm] at HK
          clear HBP HKE
          go_wp2_with (first
            | (go_at_call 26; (with_reducible refine HG1.out.mono ?_); go_must (rintro e w3 ⟨rfl, hf3, hr3⟩; have HB3 := Lib.hid (HB.out.trans (FR.fr HFR.out hr3 hd9)); have HG23 := Lib.hid (HG2.out _ hf3); have HF3 := Lib.hid hf3; clear hf3 hr3))
            | (go_at_call 26; (with_reducible refine HG23.out.mono ?_); go_must (rintro e w4 ⟨rfl, hf4, hr4⟩; have HB4 := Lib.hid (HB3.out.trans (FR.fr HF3.out hr4 hd9)); have HK4 := Lib.hid (HK.out _ hf4); have HF4 := Lib.hid hf4; clear hf4 hr4 HG23))
            | (go_at_call 28; (with_reducible refine HK4.out.mono ?_); go_must (rintro e w5 ⟨rfl, v5, hf5, hr5⟩; have HB5 := Lib.hid (HB4.out.trans (FR.fr HF4.out hr5 hd9)); have HF5 := Lib.hid hf5; clear hf5 hr5)))
          go_roundw
          case rel => exact ⟨last, f, v5, nxt, rfl, by omega, HF5, HB5, HNX, hble, HFU2⟩
          case measure => rw [hm0]; exact HFIN.out _ v5 HF5.out
        · have HK := Lib.hid (fun w4 (h : FS w4 r g A1 n c1 bs most vo t2) => rown_any r g n c1 A1 bs most vo t2 w4 (8 * n + 1) h (by omega) hko (Nat.le_refl _))
          rw [show rownP bs most (8 * n + 1) t2 = nxt from HBP.out.symm] at HK
          clear HBP HKE
          go_wp2_with (first
            | (go_at_call 26; (with_reducible refine HG1.out.mono ?_); go_must (rintro e w3 ⟨rfl, hf3, hr3⟩; have HB3 := Lib.hid (HB.out.trans (FR.fr HFR.out hr3 hd9)); have HG23 := Lib.hid (HG2.out _ hf3); have HF3 := Lib.hid hf3; clear hf3 hr3))
            | (go_at_call 26; (with_reducible refine HG23.out.mono ?_); go_must (rintro e w4 ⟨rfl, hf4, hr4⟩; have HB4 := Lib.hid (HB3.out.trans (FR.fr HF3.out hr4 hd9)); have HK4 := Lib.hid (HK.out _ hf4); have HF4 := Lib.hid hf4; clear hf4 hr4 HG23))
            | (go_at_call 29; (with_reducible refine HK4.out.mono ?_); go_must (rintro e w5 ⟨rfl, v5, hf5, hr5⟩; have HB5 := Lib.hid (HB4.out.trans (FR.fr HF4.out hr5 hd9)); have HF5 := Lib.hid hf5; clear hf5 hr5)))
          go_roundw
          case rel => exact ⟨last, f, v5, nxt, rfl, by omega, HF5, HB5, HNX, hble, HFU2⟩
          case measure => rw [hm0]; exact HFIN.out _ v5 HF5.out
        · have HK := Lib.hid (fun w4 (h : FS w4 r g A1 n c1 bs most vo t2) => rfail_any r g n c1 A1 bs most vo t2 w4 4 h)
          rw [show t2.fail 4 = nxt from HBP.out.symm] at HK
          clear HBP HKE
          go_wp2_with (first
            | (go_at_call 26; (with_reducible refine HG1.out.mono ?_); go_must (rintro e w3 ⟨rfl, hf3, hr3⟩; have HB3 := Lib.hid (HB.out.trans (FR.fr HFR.out hr3 hd9)); have HG23 := Lib.hid (HG2.out _ hf3); have HF3 := Lib.hid hf3; clear hf3 hr3))
            | (go_at_call 26; (with_reducible refine HG23.out.mono ?_); go_must (rintro e w4 ⟨rfl, hf4, hr4⟩; have HB4 := Lib.hid (HB3.out.trans (FR.fr HF3.out hr4 hd9)); have HK4 := Lib.hid (HK.out _ hf4); have HF4 := Lib.hid hf4; clear hf4 hr4 HG23))
            | (go_at_call 30; (with_reducible refine HK4.out.mono ?_); go_must (rintro e w5 ⟨rfl, hf5, hr5⟩; have HB5 := Lib.hid (HB4.out.trans (FR.fr HF4.out hr5 hd9)); have HF5 := Lib.hid hf5; clear hf5 hr5)))
          go_roundw
          case rel => exact ⟨last, f, vo, nxt, rfl, by omega, HF5, HB5, HNX, hble, HFU2⟩
          case measure => rw [hm0]; exact HFIN.out _ vo HF5.out
      · have HSC : Hid (cur = S) := (show _ = _ by
          have h1 := HC.out
          by_cases hl0 : last = 0
          · rw [if_pos hl0] at h1
            rwa [infF_err (fun h => hgo ⟨hl0, h⟩)] at h1
          · rwa [if_neg hl0] at h1)
        rw [← HSC.out] at HT
        clear HSC HC
        by_cases he : cur.e = 0
        · obtain rfl : last = 1 := by
            have : ¬ last = 0 := fun h => hgo ⟨h, he⟩
            omega
          rw [if_pos he] at HT
          have d1 : (cur.e != 0) = false := by rw [he]; rfl
          obtain ⟨Av, cv, rfl, -, -, -⟩ := (FR.own HFR.out).form
          have c0 := (FR.arr HFR.out).cell (k := 0) rfl
          have c1' := (FR.arr HFR.out).cell (k := 1) rfl
          have cg := (FR.rd HFR.out).cell (k := 1) rfl
          have hPf : cur.p ≤ 8 * n := FR.fit HFR.out
          have e1 : IntKind.i64.wrap ((cur.p : Int) + 7) = (cur.p : Int) + 7 := (by have := wrap_i64_lt (cur.p + 7) (by omega); simpa using this)
          have e2 : ((cur.p : Int) + 7).tdiv 8 = (((cur.p + 7) / 8 : Nat) : Int) := by rw [show (cur.p : Int) + 7 = ((cur.p + 7 : Nat) : Int) by omega]; rfl
          have e3 : ((cur.p : Int) + 7) / 8 = (((cur.p + 7) / 8 : Nat) : Int) := by omega
          obtain ⟨Q, hQ⟩ : ∃ Q, (cur.p + 7) / 8 = Q := ⟨_, rfl⟩
          rw [hQ] at e2 e3
          have e4 : IntKind.i64.wrap (Q : Int) = (Q : Int) := wrap_i64_lt Q (by omega)
          go_wp2_with fail
          go_quiet ((go_at_call 31; exact Calls.quiet_of_same ((at_any g cur.p _ (by exact cg)).mono fun _ _ h => ⟨h.1, h.2.symm⟩)))
          go_wp2_with fail
          go_ret3
          rw [← HT.out]
          exact ⟨_, by rw [hQ]; rfl, (FR.own (FR.drewN HFR.out _)).mono (by omega), bdrewN HB.out _⟩
        · rw [if_neg he] at HT
          have d1 : (cur.e != 0) = true := by rw [bne_iff_ne]; exact he
          have d2 : (cur.e == 0) = false := beq_eq_false_iff_ne.2 he
          rcases (show last = 0 ∨ last = 1 by omega) with rfl | rfl
          · go_wp2_with fail
            go_quiet (fail)
            go_wp2_with fail
            go_ret3
            rw [← HT.out]
            exact ⟨_, rfl, ownB.nil_ _ _, bdrewN HB.out _⟩
          · go_wp2_with fail
            go_quiet (fail)
            go_wp2_with fail
            go_ret3
            rw [← HT.out]
            exact ⟨_, rfl, ownB.nil_ _ _, bdrewN HB.out _⟩
end Go.Proofs.Yteoolehdomjkkaa

/- flate: the document's Inflate, whatever comes. -/
namespace Go.Proofs.Yteoolehdomjkkaa
set_option linter.all false
open Go.RowKit

theorem infP_ok {bs : List UInt8} {most : Int} (h1 : 0 ≤ most) (h2 : most ≤ 40000) (h : (infS bs most).e = 0) : inflP bs most = ((infS bs most).out, ((infS bs most).p + 7) / 8, 0) := by
  unfold inflP
  rw [if_neg (by omega), if_pos h]
theorem infP_zero {bs : List UInt8} {most : Int} (h : (inflP bs most).2.2 = 0) : (infS bs most).e = 0 := by
  unfold inflP at h
  split at h
  · exact absurd (show (1 : Int) = 0 from h) (by decide)
  · split at h
    · assumption
    · rename_i h2
      exact absurd h h2
theorem infP_none {bs : List UInt8} {most : Int} (h : ¬ (inflP bs most).2.2 = 0) : (inflP bs most).1 = [] := by
  unfold inflP at h ⊢
  split
  · rfl
  · rename_i h1
    rw [if_neg h1] at h
    split
    · rename_i h2
      rw [if_pos h2] at h
      exact absurd rfl h
    · rfl
theorem infF_last {bs : List UInt8} {most : Int} {F f : Nat} {s : RS} (he : s.e = 0) (h : ¬ blk0 bs s = 0) : infF bs most F (f + 1) s = blkP bs most F s := by
  rw [infF, if_pos he, if_neg h]
theorem infF_more {bs : List UInt8} {most : Int} {F f : Nat} {s : RS} (he : s.e = 0) (h : blk0 bs s = 0) : infF bs most F (f + 1) s = infF bs most F f (blkP bs most F s) := by
  rw [infF, if_pos he, if_pos h]
theorem infF_bad {bs : List UInt8} {most : Int} {F f : Nat} {s : RS} (he : s.e = 0) (h : ¬ (blkP bs most F s).e = 0) : ¬ (infF bs most F (f + 1) s).e = 0 := by
  by_cases h0 : blk0 bs s = 0
  · rw [infF_more he h0, infF_err h]; exact h
  · rw [infF_last he h0]; exact h
theorem blk_fit {bs : List UInt8} {P : Nat} {out : List UInt8} (h : P + 3 ≤ 8 * bs.length) : blk0 bs ⟨P, out, 0⟩ = getV bs P 1 ∧ blk1 bs ⟨P, out, 0⟩ = getV bs (P + 1) 2 ∧ blk2 bs ⟨P, out, 0⟩ = ⟨P + 3, out, 0⟩ := by
  have e1 : getP bs (⟨P, out, 0⟩ : RS) 1 = (getV bs P 1, ⟨P + 1, out, 0⟩) := getP_ok rfl (by show P + 1 ≤ _; omega)
  have e2 : getP bs (⟨P + 1, out, 0⟩ : RS) 2 = (getV bs (P + 1) 2, ⟨P + 3, out, 0⟩) := by rw [getP_ok rfl (by show P + 1 + 2 ≤ _; omega)]
  unfold blk0 blk1 blk2
  rw [e1]
  exact ⟨rfl, by rw [e2], by rw [e2]⟩
theorem blk_short {bs : List UInt8} {most : Int} {F P : Nat} {out : List UInt8} (h : ¬ P + 3 ≤ 8 * bs.length) : ¬ (blkP bs most F ⟨P, out, 0⟩).e = 0 := by
  refine kindP_err ?_
  unfold blk2
  intro h2
  obtain ⟨h3, -⟩ := getP_e0 h2
  have q1 : P + 1 ≤ 8 * bs.length := Classical.byContradiction fun e => getP_bad (s := ⟨P, out, 0⟩) e h3
  have e1 : getP bs (⟨P, out, 0⟩ : RS) 1 = (getV bs P 1, ⟨P + 1, out, 0⟩) := getP_ok rfl q1
  rw [e1] at h2
  exact getP_bad (s := ⟨P + 1, out, 0⟩) (m := 2) (by show ¬ P + 1 + 2 ≤ _; omega) h2
theorem blkP_go {bs : List UInt8} {most : Int} {F P : Nat} {out : List UInt8} (h : P + 3 ≤ 8 * bs.length) : blkP bs most F ⟨P, out, 0⟩ = kindP bs most F (getV bs (P + 1) 2) ⟨P + 3, out, 0⟩ := by
  obtain ⟨-, h2, h3⟩ := blk_fit (out := out) h
  unfold blkP
  rw [h2, h3]
theorem fixL_nw : nwE fixL = 0 ∧ nwE fixD = 0 := by decide +kernel
/-- What the document's Inflate gives. -/
def If5 (bs : List UInt8) (most : Int) (w : World) (e : Ending) (w' : World) : Prop := ∃ v, e = .returned (.tuple #[v, .int .i64 ((inflP bs most).2.1 : Int), .bool (decide ((inflP bs most).2.2 = 0))]) ∧ ownB w' w.heap.size v (inflP bs most).1 ∧ Below w.heap.size w w'
theorem If5.bad {bs : List UInt8} {most : Int} {w w' : World} {e : Ending} {v a b : Value} (h : ¬ (inflP bs most).2.2 = 0) (he : e = .returned (.tuple #[v, a, b])) (hv : v = .slice none 0 0) (ha : a = .int .i64 0) (hb : b = .bool false) (hw : Below w.heap.size w w') : If5 bs most w e w' := by
  subst hv ha hb
  have h1 := infP_none h
  have h2 : (inflP bs most).2.1 = 0 := by
    unfold inflP at h ⊢
    split
    · rfl
    · rename_i h1
      rw [if_neg h1] at h
      split
      · rename_i h2
        rw [if_pos h2] at h
        exact absurd rfl h
      · rfl
  refine ⟨.slice none 0 0, ?_, ?_, hw⟩
  · rw [he, h2, decide_eq_false h]
    rfl
  · rw [h1]; exact ownB.nil_ _ _
set_option maxRecDepth 100000 in
set_option maxHeartbeats 6400000 in
theorem inflate5_all (B n c : Nat) (A : Option Addr) (bs : List UInt8) (most : Int) (w : World) (h : RdB w B A n bs) (hB : B ≤ w.heap.size) (hn : n ≤ 1000000) :
    Calls Try.prog 10 #[.slice A n c, .int .i64 most] w (If5 bs most w) := by
  by_cases hmost : most < 0 ∨ 40000 < most
  · have HP : Hid (¬ (inflP bs most).2.2 = 0) := (show ¬ _ from by
      have : inflP bs most = ([], 0, 1) := if_pos hmost
      rw [this]
      exact show ¬ (1 : Int) = 0 by decide)
    clear h
    go_enter Try.func10, Try.ntmps10
    rcases hmost with h1 | h1
    · have t1 : decide (most < 0) = true := decide_eq_true h1
      go_wp2_with fail
      go_ret3
      exact If5.bad HP.out rfl rfl rfl rfl (Below.refl _ _)
    · have t1 : decide (most < 0) = false := decide_eq_false (by omega)
      have t2 : decide (most > 40000) = true := decide_eq_true h1
      have t3 : ¬ most < 0 := by omega
      go_wp2_with fail
      go_ret3
      exact If5.bad HP.out rfl rfl rfl rfl (Below.refl _ _)
  · have h0 : 0 ≤ most := by omega
    have hm : most ≤ 40000 := by omega
    have hlb : bs.length = n := h.len
    have HBL := Lib.hid hlb
    have HPO : Hid ((infS bs most).e = 0 → inflP bs most = ((infS bs most).out, ((infS bs most).p + 7) / 8, 0)) := (show _ → _ from fun h => infP_ok h0 hm h)
    have HPB : Hid (¬ (infS bs most).e = 0 → ¬ (inflP bs most).2.2 = 0) := (show _ → _ from fun h h2 => h (infP_zero h2))
    have HC : Hid (infF bs most (8 * n + 1) (8 * n + 1) ⟨0, [], 0⟩ = infS bs most) := (show _ = _ by rw [← hlb]; rfl)
    generalize infS bs most = S at *
    have HCP := Lib.hid (copyB_any B n c A bs w h (by omega))
    have t1 : decide (most < 0) = false := decide_eq_false (by omega)
    have t2 : decide (most > 40000) = false := decide_eq_false (by omega)
    have t3 : ¬ most < 0 := by omega
    have t4 : ¬ 40000 < most := by omega
    clear h hmost hlb
    go_enter Try.func10, Try.ntmps10
    go_upto_region 4 with (go_at_call 8; (with_reducible refine HCP.out.mono ?_); go_must (rintro e w1 ⟨v1, rfl, ho1, hb1⟩; have hz1 := hb1.size; obtain ⟨A1, c1, rfl, hr1, -, -⟩ := ho1.form; have HR1 := Lib.hid hr1; have HB1 := Lib.hid hb1; clear ho1 hr1 hb1))
    have HFI := (show FI ((w1.alloc (.cells #[.slice A1 bs.length c1, .int .i64 0] 62)).alloc (.cells #[.pointer (some ⟨w1.heap.size, 0, none⟩), .slice none 0 0, .int .i64 most] 64)) (w1.heap.size + 1) w1.heap.size A1 bs.length c1 0 bs (.slice none 0 0) [] most from
      ⟨by have h9 := Arr.new (w1.alloc (.cells #[.slice A1 bs.length c1, .int .i64 0] 62)) [.pointer (some ⟨w1.heap.size, 0, none⟩), .slice none 0 0, .int .i64 most] 64; rw [World.size_alloc] at h9; exact h9, (Arr.new w1 [.slice A1 bs.length c1, .int .i64 ((0 : Nat) : Int)] 62).alloc _, Rd.alloc (Rd.alloc HR1.out (Nat.le_refl _) _) (by rw [World.size_alloc]; omega) _, ownB.nil_ _ _, Nat.lt_succ_self _, Nat.zero_le _, by rw [HBL.out]; exact hn⟩)
    have HB2 := Lib.hid ((HB1.out.alloc hz1 (.cells #[.slice A1 bs.length c1, .int .i64 0] 62)).alloc (by rw [World.size_alloc]; omega) (.cells #[.pointer (some ⟨w1.heap.size, 0, none⟩), .slice none 0 0, .int .i64 most] 64))
    replace HFI := Lib.hid HFI
    rw [HBL.out] at HFI HB2
    simp only [HBL.out]
    have hwg : w.heap.size ≤ w1.heap.size := hz1
    generalize hgg : w1.heap.size = g at *
    obtain ⟨r, hr⟩ : ∃ r, g + 1 = r := ⟨_, rfl⟩
    simp only [hr] at HFI ⊢
    have hgr : g < r := by omega
    have HRG := Lib.hid hr
    clear hr hgg
    generalize (w1.alloc (.cells #[.slice A1 n c1, .int .i64 0] 62)).alloc (.cells #[.pointer (some ⟨g, 0, none⟩), .slice none 0 0, .int .i64 most] 64) = w2 at *
    go_loopw [8] (fun v8 wr => ∃ (P' f : Nat) (vq : Value) (out' : List UInt8), Hid (FI wr r g A1 n c1 P' bs vq out' most) ∧ Hid (Below w.heap.size w wr) ∧ Hid (infF bs most (8 * n + 1) f ⟨P', out', 0⟩ = S) ∧ Hid ((out'.length : Int) ≤ most) ∧ Hid (8 * n + 1 ≤ P' + f)) (fun _ wr => 8 * n + 1 - posOf wr g)
    case atStart => exact ⟨0, 8 * n + 1, _, [], HFI, HB2, HC, (show (((0 : Nat) : Int)) ≤ most from h0), (show _ ≤ _ from Nat.le_add_left _ _)⟩
    case round =>
      clear HFI HB2 HC
      obtain ⟨P', f, vq, out', HF, HB, HC, HO, HFU⟩ := hrel
      have hfit : P' ≤ 8 * n := HF.out.fit
      have hpos := posOf_eq HF.out.rd
      obtain ⟨f, rfl⟩ : ∃ f', f = f' + 1 := ⟨f - 1, by have := HFU.out; omega⟩
      have HFR : Hid (∀ w5 v5, RFr wr w5 r g vq v5 → Below w.heap.size w w5) := (show ∀ w5 v5, _ from fun w5 v5 hr => HB.out.trans (hr.below HB.out.size (by omega) hwg (fun k hk => by have := (World.ownsRow.lt HF.out.own k hk).1; omega)))
      by_cases hf3 : P' + 3 ≤ 8 * n
      · have HG1 := Lib.hid (iget_ok r g n c1 P' 1 A1 bs vq out' most 1 wr rfl HF.out (by omega) (by omega))
        have HG2 := Lib.hid (fun w1 (h : FI w1 r g A1 n c1 (P' + 1) bs vq out' most) => iget_ok r g n c1 (P' + 1) 2 A1 bs vq out' most 2 w1 rfl h (by omega) (by omega))
        have hv0 := getV_lt bs P' 1
        have hv1 := getV_lt bs (P' + 1) 2
        have HKP := Lib.hid (blkP_go (bs := bs) (most := most) (F := 8 * n + 1) (P := P') (out := out') (by rw [HBL.out]; exact hf3))
        have hb0 := (blk_fit (bs := bs) (P := P') (out := out') (by rw [HBL.out]; exact hf3)).1
        have HNB : Hid (¬ (blkP bs most (8 * n + 1) ⟨P', out', 0⟩).e = 0 → ¬ S.e = 0) := (show _ → _ from fun h => by rw [← HC.out]; exact infF_bad rfl h)
        have HNL : Hid (getV bs P' 1 = 1 → blkP bs most (8 * n + 1) ⟨P', out', 0⟩ = S) := (show _ → _ from fun h => by rw [← HC.out, infF_last rfl (by rw [hb0]; omega)])
        have HNM : Hid (getV bs P' 1 = 0 → infF bs most (8 * n + 1) f (blkP bs most (8 * n + 1) ⟨P', out', 0⟩) = S) := (show _ → _ from fun h => by rw [← HC.out, infF_more rfl (by rw [hb0]; exact h)])
        have HBP : Hid ((blkP bs most (8 * n + 1) ⟨P', out', 0⟩).e = 0 → P' + 3 ≤ (blkP bs most (8 * n + 1) ⟨P', out', 0⟩).p) := (show _ → _ from fun h => blkP_p h)
        have HBE : Hid ((((blkP bs most (8 * n + 1) ⟨P', out', 0⟩).out.length : Nat) : Int) ≤ most) := (show _ ≤ _ from kindP_le (by rw [blk2_out]; exact HO.out))
        generalize blkP bs most (8 * n + 1) ⟨P', out', 0⟩ = R at *
        generalize getV bs P' 1 = last at *
        generalize getV bs (P' + 1) 2 = kd at *
        have hl2 : last < 2 := hv0
        have hk4 : kd < 4 := hv1
        clear hb0 hv0 hv1 HC
        rcases (show kd = 0 ∨ kd = 1 ∨ kd = 2 ∨ kd = 3 by omega) with rfl | rfl | rfl | rfl
        · have HR : Hid (R = plainP bs most ⟨P' + 3, out', 0⟩) := (show _ = _ from HKP.out)
          have HK := Lib.hid (fun w4 (h : FI w4 r g A1 n c1 (P' + 3) bs vq out' most) => istored_any r g n c1 (P' + 3) A1 bs vq out' most w4 h HO.out (by omega))
          rw [← HR.out] at HK
          clear HKP HR
          go_upto_region 17 with (first
            | (go_at_call 32; (with_reducible refine HG1.out.mono ?_); go_must (rintro e w3 ⟨rfl, hf3', hr3⟩; have HR3 := Lib.hid hr3; have HG23 := Lib.hid (HG2.out w3 hf3'); clear hf3' hr3 HG1))
            | (go_at_call 32; (with_reducible refine HG23.out.mono ?_); go_must (rintro e w4 ⟨rfl, hf4, hr4⟩; have HR4 := Lib.hid (HR3.out.trans hr4); have HF4 := Lib.hid hf4; have HK4 := Lib.hid (HK.out w4 hf4); clear hf4 hr4 HG23))
            | (go_at_call 33; (with_reducible refine HK4.out.mono ?_); go_must (rintro e w5 hp; unfold IqPost at hp; obtain ⟨ok, P5, v5, out5, rfl, hf5, hr5, hor⟩ := hp; have HF5 := Lib.hid hf5; have HB5 := Lib.hid (HFR.out w5 v5 (HR4.out.trans hr5)); have HOR := Lib.hid hor; clear hf5 hr5 hor)))
          rcases HOR.out with ⟨rfl, hRE⟩ | ⟨rfl, hRE⟩
          · have HRE := Lib.hid hRE
            have hp5 : P' + 3 ≤ P5 := by have := HBP.out (by rw [hRE]); rw [hRE] at this; exact this
            have HO5 : Hid ((out5.length : Int) ≤ most) := (show _ ≤ _ by have := HBE.out; rw [hRE] at this; exact this)
            clear hRE HOR
            rcases (show last = 0 ∨ last = 1 by omega) with rfl | rfl
            · have HC5 := Lib.hid (HNM.out rfl)
              rw [HRE.out] at HC5
              have hpos5 := posOf_eq HF5.out.rd
              have HFU5 : Hid (8 * n + 1 ≤ P5 + f) := (show _ ≤ _ by have := HFU.out; omega)
              go_wp2_with fail
              go_roundw
              case rel => exact ⟨P5, f, v5, out5, HF5, HB5, HC5, HO5, HFU5⟩
              case measure => rw [hpos5, hpos]; omega
            · have HC5 := Lib.hid (HNL.out rfl)
              rw [HRE.out] at HC5
              have HP5 := Lib.hid (HPO.out (by rw [← HC5.out]))
              rw [← HC5.out] at HP5
              obtain ⟨Av, cv, rfl, -, -, -⟩ := HF5.out.own.form
              have c0 := HF5.out.arr.cell (k := 0) rfl
              have c1' := HF5.out.arr.cell (k := 1) rfl
              have cg := HF5.out.rd.cell (k := 1) rfl
              have hPf : P5 ≤ 8 * n := HF5.out.fit
              have e1 : IntKind.i64.wrap ((P5 : Int) + 7) = (P5 : Int) + 7 := (by have := wrap_i64_lt (P5 + 7) (by omega); simpa using this)
              have e2 : ((P5 : Int) + 7).tdiv 8 = (((P5 + 7) / 8 : Nat) : Int) := by rw [show (P5 : Int) + 7 = ((P5 + 7 : Nat) : Int) by omega]; rfl
              have e3 : ((P5 : Int) + 7) / 8 = (((P5 + 7) / 8 : Nat) : Int) := by omega
              obtain ⟨Q, hQ⟩ : ∃ Q, (P5 + 7) / 8 = Q := ⟨_, rfl⟩
              rw [hQ] at e2 e3
              have e4 : IntKind.i64.wrap (Q : Int) = (Q : Int) := wrap_i64_lt Q (by omega)
              have HQ := Lib.hid hQ
              clear hQ
              go_wp2_with fail
              go_quiet (fail)
              go_wp2_with fail
              go_ret3
              refine ⟨.slice Av out5.length cv, ?_, ?_, bdrewN HB5.out _⟩
              · rw [HP5.out]
                show _ = Ending.returned (.tuple #[_, .int .i64 (((P5 + 7) / 8 : Nat) : Int), .bool (decide ((0 : Int) = 0))])
                rw [HQ.out]
                rfl
              · rw [HP5.out]
                exact (HF5.out.drewN _).own.mono (by omega)
          · have HE := Lib.hid hRE
            clear hRE HOR
            go_wp2_with fail
            go_ret3
            exact If5.bad (HPB.out (HNB.out HE.out)) rfl rfl rfl rfl (HB5.out)
        · have HR : Hid (R = toksF bs most fixL (some fixD) (8 * n + 1) ⟨P' + 3, out', 0⟩) := (show _ = _ from HKP.out)
          have HK := Lib.hid (fun w4 ga gb (h : FI w4 r g A1 n c1 (P' + 3) bs vq out' most) (hx : RdI w4 w4.heap.size (some ⟨ga, 0, none⟩) 288 fixL) (hy : RdI w4 w4.heap.size (some ⟨gb, 0, none⟩) 32 fixD) => icodes_any r g n c1 (P' + 3) A1 bs vq out' most w4 w4.heap.size 288 32 288 32 (some ⟨ga, 0, none⟩) (some ⟨gb, 0, none⟩) fixL fixD (8 * n + 1) h hx hy (Nat.le_refl _) (by omega) (by omega) fixL_nw.1 (by omega) HO.out (by omega))
          rw [if_pos fixL_nw.2, ← HR.out] at HK
          clear HKP HR
          go_upto_region 17 with (first
            | (go_at_call 32; (with_reducible refine HG1.out.mono ?_); go_must (rintro e w3 ⟨rfl, hf3', hr3⟩; have HR3 := Lib.hid hr3; have HG23 := Lib.hid (HG2.out w3 hf3'); clear hf3' hr3 HG1))
            | (go_at_call 32; (with_reducible refine HG23.out.mono ?_); go_must (rintro e w4 ⟨rfl, hf4, hr4⟩; have HR4 := Lib.hid (HR3.out.trans hr4); have HF4 := Lib.hid hf4;  clear hf4 hr4 HG23))
            | (go_at_call 34; (with_reducible refine (fixed5L_any w4).mono ?_); go_must (rintro e w6 ⟨ga, gb, rfl, hxa, hxb, hb6⟩; have HR6 := Lib.hid (HR4.out.trans (RFr.ofB hb6 r g vq)); have HK6 := Lib.hid (HK.out w6 ga gb (HF4.out.later hb6) hxa hxb); clear hxa hxb hb6))
            | (go_at_call 35; (with_reducible refine HK6.out.mono ?_); go_must (rintro e w5 hp; unfold IqPost at hp; obtain ⟨ok, P5, v5, out5, rfl, hf5, hr5, hor⟩ := hp; have HF5 := Lib.hid hf5; have HB5 := Lib.hid (HFR.out w5 v5 (HR6.out.trans hr5)); have HOR := Lib.hid hor; clear hf5 hr5 hor)))
          rcases HOR.out with ⟨rfl, hRE⟩ | ⟨rfl, hRE⟩
          · have HRE := Lib.hid hRE
            have hp5 : P' + 3 ≤ P5 := by have := HBP.out (by rw [hRE]); rw [hRE] at this; exact this
            have HO5 : Hid ((out5.length : Int) ≤ most) := (show _ ≤ _ by have := HBE.out; rw [hRE] at this; exact this)
            clear hRE HOR
            rcases (show last = 0 ∨ last = 1 by omega) with rfl | rfl
            · have HC5 := Lib.hid (HNM.out rfl)
              rw [HRE.out] at HC5
              have hpos5 := posOf_eq HF5.out.rd
              have HFU5 : Hid (8 * n + 1 ≤ P5 + f) := (show _ ≤ _ by have := HFU.out; omega)
              go_wp2_with fail
              go_roundw
              case rel => exact ⟨P5, f, v5, out5, HF5, HB5, HC5, HO5, HFU5⟩
              case measure => rw [hpos5, hpos]; omega
            · have HC5 := Lib.hid (HNL.out rfl)
              rw [HRE.out] at HC5
              have HP5 := Lib.hid (HPO.out (by rw [← HC5.out]))
              rw [← HC5.out] at HP5
              obtain ⟨Av, cv, rfl, -, -, -⟩ := HF5.out.own.form
              have c0 := HF5.out.arr.cell (k := 0) rfl
              have c1' := HF5.out.arr.cell (k := 1) rfl
              have cg := HF5.out.rd.cell (k := 1) rfl
              have hPf : P5 ≤ 8 * n := HF5.out.fit
              have e1 : IntKind.i64.wrap ((P5 : Int) + 7) = (P5 : Int) + 7 := (by have := wrap_i64_lt (P5 + 7) (by omega); simpa using this)
              have e2 : ((P5 : Int) + 7).tdiv 8 = (((P5 + 7) / 8 : Nat) : Int) := by rw [show (P5 : Int) + 7 = ((P5 + 7 : Nat) : Int) by omega]; rfl
              have e3 : ((P5 : Int) + 7) / 8 = (((P5 + 7) / 8 : Nat) : Int) := by omega
              obtain ⟨Q, hQ⟩ : ∃ Q, (P5 + 7) / 8 = Q := ⟨_, rfl⟩
              rw [hQ] at e2 e3
              have e4 : IntKind.i64.wrap (Q : Int) = (Q : Int) := wrap_i64_lt Q (by omega)
              have HQ := Lib.hid hQ
              clear hQ
              go_wp2_with fail
              go_quiet (fail)
              go_wp2_with fail
              go_ret3
              refine ⟨.slice Av out5.length cv, ?_, ?_, bdrewN HB5.out _⟩
              · rw [HP5.out]
                show _ = Ending.returned (.tuple #[_, .int .i64 (((P5 + 7) / 8 : Nat) : Int), .bool (decide ((0 : Int) = 0))])
                rw [HQ.out]
                rfl
              · rw [HP5.out]
                exact (HF5.out.drewN _).own.mono (by omega)
          · have HE := Lib.hid hRE
            clear hRE HOR
            go_wp2_with fail
            go_ret3
            exact If5.bad (HPB.out (HNB.out HE.out)) rfl rfl rfl rfl (HB5.out)
        · have HR : Hid (R = rownP bs most (8 * n + 1) ⟨P' + 3, out', 0⟩) := (show _ = _ from HKP.out)
          have HRT : Hid (R = ownT bs most (ownLs bs ⟨P' + 3, out', 0⟩).1 (hdN bs ⟨P' + 3, out', 0⟩) (8 * n + 1) (ownLs bs ⟨P' + 3, out', 0⟩).2) := (show _ = _ from HR.out)
          have HLO : Hid (badL (ownLs bs ⟨P' + 3, out', 0⟩).1 = false) := (show _ = _ from ownLs_good _ _)
          have HL := Lib.hid (fun w4 (h : FI w4 r g A1 n c1 (P' + 3) bs vq out' most) => ilists_any r g n c1 (P' + 3) A1 bs vq out' most w4 h)
          generalize hdN bs ⟨P' + 3, out', 0⟩ = N at *
          generalize hdM bs ⟨P' + 3, out', 0⟩ = M at *
          generalize ownLs bs ⟨P' + 3, out', 0⟩ = LS at *
          clear HKP HR
          go_upto_region 8 with (first
            | (go_at_call 32; (with_reducible refine HG1.out.mono ?_); go_must (rintro e w3 ⟨rfl, hf3', hr3⟩; have HR3 := Lib.hid hr3; have HG23 := Lib.hid (HG2.out w3 hf3'); clear hf3' hr3 HG1))
            | (go_at_call 32; (with_reducible refine HG23.out.mono ?_); go_must (rintro e w4 ⟨rfl, hf4, hr4⟩; have HR4 := Lib.hid (HR3.out.trans hr4); have HF4 := Lib.hid hf4; have HL4 := Lib.hid (HL.out w4 hf4); clear hf4 hr4 HG23))
            | (go_at_call 36; (with_reducible refine HL4.out.mono ?_); go_must (rintro e w6 hp; unfold LsPost at hp; obtain ⟨vx, vy, ok6, P6, rfl, hf6, hr6, hor6⟩ := hp; have HF6 := Lib.hid hf6; have HR6 := Lib.hid (HR4.out.trans hr6); have HOR6 := Lib.hid hor6; clear hf6 hr6 hor6)))
          clear HF4 HR4 HR3 HL HL4 HG2
          rcases HOR6.out with ⟨rfl, rfl, rfl, hRE⟩ | ⟨rfl, hR2, hRl, hN1, hN2, hM1, hM2, gq, cx, cy, rfl, rfl, hrx, hry⟩
          · have HE : Hid (¬ R.e = 0) := (show ¬ _ by
              rw [HRT.out]
              unfold ownT
              rw [if_neg hRE]
              exact hRE)
            have HB6 := Lib.hid (HFR.out w6 _ HR6.out)
            have HKR6 := Lib.hid (kraft5_any w6.heap.size 0 0 none [] w6 RdI.nil_ (by omega))
            generalize krV ([] : List Int) = KV at *
            generalize krE ([] : List Int) = KE at *
            clear hRE HOR6
            go_upto_region 17 with (first
              | (go_at_call 37; (with_reducible refine HKR6.out.mono ?_); go_must (rintro e w9 ⟨rfl, rfl⟩)))
            go_wp2_with fail
            go_ret3
            exact If5.bad (HPB.out (HNB.out HE.out)) rfl rfl rfl rfl (HB6.out)
          · obtain ⟨all, s6⟩ := LS
            replace hR2 : s6 = ⟨P6, out', 0⟩ := hR2
            subst hR2
            replace hRl : all.length = N + M := hRl
            replace hrx : RdI w6 w6.heap.size (some ⟨gq, 0, none⟩) N (all.take N) := hrx
            replace hry : RdI w6 w6.heap.size (some ⟨gq, N, none⟩) M (all.drop N) := hry
            replace HRT : Hid (R = ownT bs most all N (8 * n + 1) ⟨P6, out', 0⟩) := HRT
            have HB6 := Lib.hid (HFR.out w6 _ HR6.out)
            have HGO : Hid (ownGood all N → R = toksF bs most (all.take N) (if nwE (all.drop N) = 0 then some (all.drop N) else none) (8 * n + 1) ⟨P6, out', 0⟩) := (show _ → _ from fun h => by rw [HRT.out]; exact ownT_go rfl HLO.out (by omega) (by omega) h)
            have HNG : Hid (¬ ownGood all N → ¬ R.e = 0) := (show _ → _ from fun h => by rw [HRT.out]; exact ownT_bad rfl HLO.out (by omega) (by omega) h)
            have HOG : Hid (ownGood all N ↔ (0 < all.getD 256 0 ∧ krV (all.take N) = 32768 ∧ mayL (all.drop N))) := (show _ ↔ _ from Iff.rfl)
            have h256 : 256 < all.length := by omega
            have hgd : all.getD 256 0 = all[256] := by rw [List.getD_eq_getElem?_getD, List.getElem?_eq_getElem h256]; rfl
            have c256 : w6.cell? ⟨gq, 256, none⟩ = some (.int .i64 all[256]) := by
              obtain ⟨b, o, x, he, hb, HX, e1⟩ := RdI.one hrx (k := 256) (by omega)
              injection he with he
              injection he with hb2 ho2
              subst hb2 ho2
              have hx : (all.take N)[256]? = some x := HX.out
              rw [List.getElem?_take] at hx
              rw [if_pos (by omega), List.getElem?_eq_getElem h256] at hx
              injection hx with hx
              rw [hx]
              simpa using e1
            rw [hgd] at HOG
            generalize all[256] = x256 at *
            have HKR6 := Lib.hid (kraft5_any w6.heap.size N cx (some ⟨gq, 0, none⟩) (all.take N) w6 hrx (by omega))
            have HMD6 := Lib.hid (mayDist_any w6.heap.size M cy (some ⟨gq, N, none⟩) (all.drop N) w6 hry (by omega))
            have HKF := Lib.hid (fun h => krV_full (ls := all.take N) h)
            have HKC := Lib.hid (fun (hnw : nwE (all.take N) = 0) => icodes_any r g n c1 P6 A1 bs vq out' most w6 w6.heap.size N M cx cy (some ⟨gq, 0, none⟩) (some ⟨gq, N, none⟩) (all.take N) (all.drop N) (8 * n + 1) HF6.out hrx hry (Nat.le_refl _) (by omega) (by omega) hnw (by omega) HO.out (by omega))
            generalize krE (all.take N) = KE at *
            generalize krV (all.take N) = KV at *
            have hN256 : (256 : Int) < (N : Int) := by omega
            have hN256n : 256 < N := by omega
            clear hrx hry hRl hgd h256 HOR6 HRT HLO
            by_cases hx0 : 0 < x256
            · by_cases hk : KV = 32768
              · have dK : (KV == 32768) = true := by rw [hk]; rfl
                obtain ⟨hnw, -, -, -⟩ := HKF.out hk
                have HKC6 := Lib.hid (HKC.out hnw)
                by_cases hml : mayL (all.drop N)
                · have HR := Lib.hid (HGO.out (HOG.out.2 ⟨hx0, hk, hml⟩))
                  rw [← HR.out] at HKC6
                  have HML := Lib.hid hml
                  clear HKF HKC HGO HNG HOG hml hnw HR
                  subst hk
                  go_upto_region 17 with (first
                    | (go_at_call 37; (with_reducible refine HKR6.out.mono ?_); go_must (rintro e w9 ⟨rfl, rfl⟩))
                    | (go_at_call 38; (with_reducible refine HMD6.out.mono ?_); go_must (rintro e w9 hp; unfold MdPost at hp; obtain ⟨ok9, rfl, hok9, rfl⟩ := hp; obtain rfl : ok9 = true := hok9.2 HML.out; clear hok9))
                    | (go_at_call 35; (with_reducible refine HKC6.out.mono ?_); go_must (rintro e w5 hp; unfold IqPost at hp; obtain ⟨ok, P5, v5, out5, rfl, hf5, hr5, hor⟩ := hp; have HF5 := Lib.hid hf5; have HB5 := Lib.hid (HFR.out w5 v5 (HR6.out.trans hr5)); have HOR := Lib.hid hor; clear hf5 hr5 hor)))
                  rcases HOR.out with ⟨rfl, hRE⟩ | ⟨rfl, hRE⟩
                  · have HRE := Lib.hid hRE
                    have hp5 : P' + 3 ≤ P5 := by have := HBP.out (by rw [hRE]); rw [hRE] at this; exact this
                    have HO5 : Hid ((out5.length : Int) ≤ most) := (show _ ≤ _ by have := HBE.out; rw [hRE] at this; exact this)
                    clear hRE HOR
                    rcases (show last = 0 ∨ last = 1 by omega) with rfl | rfl
                    · have HC5 := Lib.hid (HNM.out rfl)
                      rw [HRE.out] at HC5
                      have hpos5 := posOf_eq HF5.out.rd
                      have HFU5 : Hid (8 * n + 1 ≤ P5 + f) := (show _ ≤ _ by have := HFU.out; omega)
                      go_wp2_with fail
                      go_roundw
                      case rel => exact ⟨P5, f, v5, out5, HF5, HB5, HC5, HO5, HFU5⟩
                      case measure => rw [hpos5, hpos]; omega
                    · have HC5 := Lib.hid (HNL.out rfl)
                      rw [HRE.out] at HC5
                      have HP5 := Lib.hid (HPO.out (by rw [← HC5.out]))
                      rw [← HC5.out] at HP5
                      obtain ⟨Av, cv, rfl, -, -, -⟩ := HF5.out.own.form
                      have c0 := HF5.out.arr.cell (k := 0) rfl
                      have c1' := HF5.out.arr.cell (k := 1) rfl
                      have cg := HF5.out.rd.cell (k := 1) rfl
                      have hPf : P5 ≤ 8 * n := HF5.out.fit
                      have e1 : IntKind.i64.wrap ((P5 : Int) + 7) = (P5 : Int) + 7 := (by have := wrap_i64_lt (P5 + 7) (by omega); simpa using this)
                      have e2 : ((P5 : Int) + 7).tdiv 8 = (((P5 + 7) / 8 : Nat) : Int) := by rw [show (P5 : Int) + 7 = ((P5 + 7 : Nat) : Int) by omega]; rfl
                      have e3 : ((P5 : Int) + 7) / 8 = (((P5 + 7) / 8 : Nat) : Int) := by omega
                      obtain ⟨Q, hQ⟩ : ∃ Q, (P5 + 7) / 8 = Q := ⟨_, rfl⟩
                      rw [hQ] at e2 e3
                      have e4 : IntKind.i64.wrap (Q : Int) = (Q : Int) := wrap_i64_lt Q (by omega)
                      have HQ := Lib.hid hQ
                      clear hQ
                      go_wp2_with fail
                      go_quiet (fail)
                      go_wp2_with fail
                      go_ret3
                      refine ⟨.slice Av out5.length cv, ?_, ?_, bdrewN HB5.out _⟩
                      · rw [HP5.out]
                        show _ = Ending.returned (.tuple #[_, .int .i64 (((P5 + 7) / 8 : Nat) : Int), .bool (decide ((0 : Int) = 0))])
                        rw [HQ.out]
                        rfl
                      · rw [HP5.out]
                        exact (HF5.out.drewN _).own.mono (by omega)
                  · have HE := Lib.hid hRE
                    clear hRE HOR
                    go_wp2_with fail
                    go_ret3
                    exact If5.bad (HPB.out (HNB.out HE.out)) rfl rfl rfl rfl (HB5.out)
                · have HE := Lib.hid (HNG.out (fun h => hml (HOG.out.1 h).2.2))
                  have HML := Lib.hid hml
                  clear HKF HKC HGO HNG HOG hml hnw HKC6
                  subst hk
                  go_upto_region 17 with (first
                    | (go_at_call 37; (with_reducible refine HKR6.out.mono ?_); go_must (rintro e w9 ⟨rfl, rfl⟩))
                    | (go_at_call 38; (with_reducible refine HMD6.out.mono ?_); go_must (rintro e w9 hp; unfold MdPost at hp; obtain ⟨ok9, rfl, hok9, rfl⟩ := hp; obtain rfl : ok9 = false := (by cases ok9 with | false => rfl | true => exact absurd (hok9.1 rfl) HML.out); clear hok9)))
                  go_wp2_with fail
                  go_ret3
                  exact If5.bad (HPB.out (HNB.out HE.out)) rfl rfl rfl rfl (HB6.out)
              · have dK : (KV == 32768) = false := beq_eq_false_iff_ne.2 hk
                have HE := Lib.hid (HNG.out (fun h => hk (HOG.out.1 h).2.1))
                clear HKF HKC HGO HNG HOG
                go_upto_region 17 with (first
                  | (go_at_call 37; (with_reducible refine HKR6.out.mono ?_); go_must (rintro e w9 ⟨rfl, rfl⟩)))
                go_wp2_with fail
                go_ret3
                exact If5.bad (HPB.out (HNB.out HE.out)) rfl rfl rfl rfl (HB6.out)
            · have HE := Lib.hid (HNG.out (fun h => hx0 (HOG.out.1 h).1))
              clear HKF HKC HGO HNG HOG
              go_upto_region 17 with (first
                | (go_at_call 37; (with_reducible refine HKR6.out.mono ?_); go_must (rintro e w9 ⟨rfl, rfl⟩)))
              go_wp2_with fail
              go_ret3
              exact If5.bad (HPB.out (HNB.out HE.out)) rfl rfl rfl rfl (HB6.out)
        · have HE : Hid (¬ R.e = 0) := (show ¬ _ by
            rw [HKP.out]
            exact show ¬ (RS.fail ⟨P' + 3, out', 0⟩ 4).e = 0 from fail_e (by decide))
          clear HKP
          go_wp2_with (first
            | (go_at_call 32; (with_reducible refine HG1.out.mono ?_); go_must (rintro e w3 ⟨rfl, hf3', hr3⟩; have HR3 := Lib.hid hr3; have HG23 := Lib.hid (HG2.out w3 hf3'); clear hf3' hr3 HG1))
            | (go_at_call 32; (with_reducible refine HG23.out.mono ?_); go_must (rintro e w4 ⟨rfl, hf4, hr4⟩; have HR4 := Lib.hid (HR3.out.trans hr4); have HF4 := Lib.hid hf4;  clear hf4 hr4 HG23)))
          go_ret3
          exact If5.bad (HPB.out (HNB.out HE.out)) rfl rfl rfl rfl (HFR.out _ _ HR4.out)
      · have HE : Hid (¬ S.e = 0) := (show ¬ _ by rw [← HC.out]; exact infF_bad rfl (blk_short (by rw [HBL.out]; exact hf3)))
        by_cases hf1 : P' + 1 ≤ 8 * n
        · have HG1 := Lib.hid (iget_ok r g n c1 P' 1 A1 bs vq out' most 1 wr rfl HF.out (by omega) hf1)
          have HG2 := Lib.hid (fun w1 (h : FI w1 r g A1 n c1 (P' + 1) bs vq out' most) => iget_bad r g n c1 (P' + 1) 2 A1 bs vq out' most 2 w1 rfl h (by omega) (by omega))
          generalize getV bs P' 1 = last at *
          go_wp2_with (first
            | (go_at_call 32; (with_reducible refine HG1.out.mono ?_); go_must (rintro e w3 ⟨rfl, hf3', hr3⟩; have HR3 := Lib.hid hr3; have HG23 := Lib.hid (HG2.out w3 hf3'); clear hf3' hr3 HG1))
            | (go_at_call 32; (with_reducible refine HG23.out.mono ?_); go_must (rintro e w4 ⟨rfl, hf4, hr4⟩; have HR4 := Lib.hid (HR3.out.trans hr4); have HF4 := Lib.hid hf4;  clear hf4 hr4 HG23)))
          go_ret3
          exact If5.bad (HPB.out HE.out) rfl rfl rfl rfl (HFR.out _ _ HR4.out)
        · have HG1 := Lib.hid (iget_bad r g n c1 P' 1 A1 bs vq out' most 1 wr rfl HF.out (by omega) hf1)
          have HG2 := Lib.hid (fun w1 (h : FI w1 r g A1 n c1 P' bs vq out' most) => iget_bad r g n c1 P' 2 A1 bs vq out' most 2 w1 rfl h (by omega) (by omega))
          go_wp2_with (first
            | (go_at_call 32; (with_reducible refine HG1.out.mono ?_); go_must (rintro e w3 ⟨rfl, hf3', hr3⟩; have HR3 := Lib.hid hr3; have HG23 := Lib.hid (HG2.out w3 hf3'); clear hf3' hr3 HG1))
            | (go_at_call 32; (with_reducible refine HG23.out.mono ?_); go_must (rintro e w4 ⟨rfl, hf4, hr4⟩; have HR4 := Lib.hid (HR3.out.trans hr4); have HF4 := Lib.hid hf4;  clear hf4 hr4 HG23)))
          go_ret3
          exact If5.bad (HPB.out HE.out) rfl rfl rfl rfl (HFR.out _ _ HR4.out)
end Go.Proofs.Yteoolehdomjkkaa
