/- pix: bytes as a picture. -/
import Derived.Test.YtcgpeijmmongoaaBox
import Derived.Test.YtcgpeijmmongoaaPix6
import Derived.Deep.RegionHeld3
namespace Go.Proofs.Ytcgpeijmmongoaa
set_option linter.all false
open Go.RowKit

def sh7 (a b c d e f : UInt8) : Sh := ⟨((a.toNat * 256 + b.toNat : Nat) : Int), ((c.toNat * 256 + d.toNat : Nat) : Int), (e.toNat : Int), (f.toNat : Int)⟩
def decE : List UInt8 → Int
  | a :: b :: c :: d :: e :: f :: g :: t => if a = 82 ∧ (sh7 b c d e f g).may = true then (if (t.length : Int) < (sh7 b c d e f g).size then 2 else if (sh7 b c d e f g).size < t.length then 3 else 0) else 4
  | _ => 2
def decS (l : List UInt8) : Sh × List UInt8 := if decE l = 0 then
    (match l with
    | _ :: b :: c :: d :: e :: f :: g :: t => (sh7 b c d e f g, t)
    | _ => (⟨0, 0, 0, 0⟩, [])) else (⟨0, 0, 0, 0⟩, [])

theorem decE_short {l : List UInt8} (h : l.length < 7) : decE l = 2 := by
  match l with
  | [] => rfl
  | [_] => rfl
  | [_, _] => rfl
  | [_, _, _] => rfl
  | [_, _, _, _] => rfl
  | [_, _, _, _, _] => rfl
  | [_, _, _, _, _, _] => rfl
  | _ :: _ :: _ :: _ :: _ :: _ :: _ :: t => simp at h; omega
theorem long7 {l : List UInt8} (h : 7 ≤ l.length) : ∃ a b c d e f g t, l = a :: b :: c :: d :: e :: f :: g :: t := by
  match l with
  | a :: b :: c :: d :: e :: f :: g :: t => exact ⟨a, b, c, d, e, f, g, t, rfl⟩
  | [] => simp at h
  | [_] => simp at h
  | [_, _] => simp at h
  | [_, _, _] => simp at h
  | [_, _, _, _] => simp at h
  | [_, _, _, _, _] => simp at h
  | [_, _, _, _, _, _] => simp at h

theorem rd12 (a b c d e f g : UInt8) (t : List UInt8) : rdR beV (a :: b :: c :: d :: e :: f :: g :: t) 1 2 = (((b.toNat * 256 + c.toNat : Nat) : Int), 0) ∧ rdR beV (a :: b :: c :: d :: e :: f :: g :: t) 3 2 = (((d.toNat * 256 + e.toNat : Nat) : Int), 0) := by
  constructor <;>
  · unfold rdR
    rw [if_neg (by simp; omega), if_neg (by simp; omega)]
    simp [beV]

set_option maxRecDepth 100000 in
set_option maxHeartbeats 3200000 in
theorem decode_any (B n c : Nat) (A : Option Addr) (bs : List UInt8) (w : World) (h : RdB w B A n bs) (hBw : B ≤ w.heap.size) (hc : n ≤ c) (hm : c ≤ maxLen) (hn : n ≤ 140737488355328) :
    Calls Try.prog 46 #[.slice A n c] w fun e w' => ∃ A1 n1 c1, e = .returned (.tuple #[(decS bs).1.r A1 n1 c1, .int .i64 (decE bs)]) ∧ ownB w' w.heap.size (.slice A1 n1 c1) (decS bs).2 ∧ Below w.heap.size w w' := by
  have hB := Below.refl w.heap.size w
  unfold maxLen at hm
  obtain rfl := h.len
  by_cases h7 : bs.length < 7
  · have HE := Lib.hid (decE_short h7)
    have HS := Lib.hid (show decS bs = (⟨0, 0, 0, 0⟩, []) by unfold decS; rw [decE_short h7]; rfl)
    rw [HE.out, HS.out]
    dsimp only [Sh.r]
    go_enter Try.func46, Try.ntmps46
    go_wp2
    refine bodyPost_ret (v := .tuple #[.agg #[.int .i64 0, .int .i64 0, .int .i64 0, .int .i64 0, .slice none 0 0], .int .i64 2]) ?_ rfl ?_
    · unfold results
      go_simp
    · exact ⟨_, _, _, rfl, ownB.nil_ _ _, hB.alloc (Nat.le_refl _) _⟩
  · obtain ⟨a0, a1, a2, a3, a4, a5, a6, t, rfl⟩ := long7 (Nat.le_of_not_lt h7)
    obtain ⟨b, o, rfl, hb, hcell⟩ := h.at_ (by simp)
    have x0 := hcell 0 (by simp)
    have x5 := hcell 5 (by simp)
    have x6 := hcell 6 (by simp)
    simp only [List.getElem_cons_zero, List.getElem_cons_succ] at x0 x5 x6
    rw [Nat.add_zero] at x0
    clear hcell
    have HR := Lib.hid (fun (k : Int) (w' : World) (hb : Below w.heap.size w w') => readBig_any w.heap.size _ c (some ⟨b, o, none⟩) _ k 2 w' ((h.blw (hb.mono hBw)).more hBw) hc hn)
    have HV := Lib.hid (rd12 a0 a1 a2 a3 a4 a5 a6 t)
    generalize hl : (a0 :: a1 :: a2 :: a3 :: a4 :: a5 :: a6 :: t).length = n at *
    have hl2 : n = t.length + 7 := by rw [← hl]; simp
    have z5 : a5.toNat < 256 := a5.toNat_lt
    have z6 : a6.toNat < 256 := a6.toNat_lt
    have hsb : ((a1.toNat * 256 + a2.toNat : Nat) : Int) ≤ 65535 ∧ ((a3.toNat * 256 + a4.toNat : Nat) : Int) ≤ 65535 := by
      have := a1.toNat_lt
      have := a2.toNat_lt
      have := a3.toNat_lt
      have := a4.toNat_lt
      omega
    have hE : decE (a0 :: a1 :: a2 :: a3 :: a4 :: a5 :: a6 :: t) = if a0 = 82 ∧ (sh7 a1 a2 a3 a4 a5 a6).may = true then (if (t.length : Int) < (sh7 a1 a2 a3 a4 a5 a6).size then 2 else if (sh7 a1 a2 a3 a4 a5 a6).size < t.length then 3 else 0) else 4 := rfl
    have hS : decS (a0 :: a1 :: a2 :: a3 :: a4 :: a5 :: a6 :: t) = if decE (a0 :: a1 :: a2 :: a3 :: a4 :: a5 :: a6 :: t) = 0 then (sh7 a1 a2 a3 a4 a5 a6, t) else (⟨0, 0, 0, 0⟩, []) := rfl
    have hsz : (sh7 a1 a2 a3 a4 a5 a6).may = true → 1 ≤ (sh7 a1 a2 a3 a4 a5 a6).size := fun h => by
      have hn : (sh7 a1 a2 a3 a4 a5 a6).nums = true := by unfold Sh.may at h; simp at h; exact h.1
      have := Sh.bounds _ hn
      rw [Sh.size_ok hn]
      omega
    have hp := RdB.mid' h (k := 7) (m := t.length) (by omega)
    rw [show (List.drop 7 (a0 :: a1 :: a2 :: a3 :: a4 :: a5 :: a6 :: t)) = t from rfl, List.take_length] at hp
    replace hp : RdB w B (some ⟨b, o + 7, none⟩) t.length t := by simpa [add_none] using hp
    generalize ht : t.length = m at hE hp hl2
    have HC := Lib.hid (fun (w' : World) (hb : Below w.heap.size w w') => cloneB_any w.heap.size m (c - 7) (some ⟨b, o + 7, none⟩) t w' ((hp.blw (hb.mono hBw)).more hBw) (by omega))
    subst hl2
    have HE := Lib.hid hE
    have HS := Lib.hid hS
    have HZ := Lib.hid hsz
    clear hE hS hsz hl ht h h7
    unfold sh7 at HE HS HZ
    generalize a0 :: a1 :: a2 :: a3 :: a4 :: a5 :: a6 :: t = bs at *
    generalize ((a1.toNat * 256 + a2.toNat : Nat) : Int) = W at HV HE HS HZ hsb
    generalize ((a3.toNat * 256 + a4.toNat : Nat) : Int) = H at HV HE HS HZ hsb
    have HM1 := Lib.hid (fun w => mayS_any ⟨W, H, (a5.toNat : Int), (a6.toNat : Int)⟩ w)
    have HZ1 := Lib.hid (fun w => size_any ⟨W, H, (a5.toNat : Int), (a6.toNat : Int)⟩ w)
    generalize Sh.may ⟨W, H, (a5.toNat : Int), (a6.toNat : Int)⟩ = mm at HM1 HE HZ
    generalize Sh.size ⟨W, H, (a5.toNat : Int), (a6.toNat : Int)⟩ = zz at HZ1 HE HZ
    dsimp only [Sh.v] at HM1 HZ1
    go_enter Try.func46, Try.ntmps46
    go_upto_region 5 with (first
      | (go_at_call 63; (with_reducible refine (HR.out 1 _ (hB.alloc hB.size _)).mono ?_); rintro e w1 ⟨rfl, rfl⟩; rw [HV.out.1])
      | (go_at_call 63; (with_reducible refine (HR.out 3 _ (hB.alloc hB.size _)).mono ?_); rintro e w1 ⟨rfl, rfl⟩; rw [HV.out.2]))
    go_cut [8] (fun p wc => ∃ gb, p = .pointer (some ⟨gb, 0, none⟩) ∧ w.heap.size < gb ∧ (∀ i, wc.cell? ⟨gb, i, none⟩ = s4 (.int .i64 W) (.int .i64 H) (.int .i64 (a5.toNat : Int)) (.int .i64 (a6.toNat : Int)) i) ∧ (∀ i, wc.cell? ⟨w.heap.size, i, none⟩ = r5 (.int .i64 0) (.int .i64 0) (.int .i64 0) (.int .i64 0) (.slice none 0 0) i) ∧ (∀ i, wc.frozen? ⟨w.heap.size, i, none⟩ = false) ∧ Below w.heap.size w wc)
    case first =>
      have hbo : ¬ b = w.heap.size := by omega
      have hbo1 : ¬ b = w.heap.size + 1 := by omega
      have hbo2 : b < w.heap.size := by omega
      go_region
      all_goals
        go_wp2_with fail
        go_meet
        case rel =>
          exact ⟨w.heap.size + 1, rfl, by omega, new4' w _ _ _ _ _ _ _, keptA (new5 w _ _ _ _ _ _ _) rfl _, keptFA (by simp) (boxF (Below.refl _ _)) _, ((hB.alloc (Nat.le_refl _) _).alloc (by simp) _).drew⟩
    case rest =>
      clear hB
      obtain ⟨gb, rfl, hg, ss, rr, ff, hB⟩ := hcut
      replace x0 := bsame (hB.mono hBw) hb x0
      by_cases c7 : c = 7
      · obtain rfl : m = 0 := by omega
        subst c7
        by_cases h82 : a0 = 82
        · subst h82
          have h82' : (((82 : UInt8).toNat : Int) != 82) = false := by rfl
          rcases mm with _ | _
          · have hev : decE bs = 4 := by rw [HE.out]; simp
            have HSV := Lib.hid (show decS bs = (⟨0, 0, 0, 0⟩, []) by rw [HS.out, hev]; rfl)
            have HEV := Lib.hid hev
            clear hev
            go_wp2_with (first
                          | (go_at_call 17; (with_reducible refine (HM1.out _).mono ?_); rintro e w1 ⟨rfl, hb1⟩; replace ff := keptF (ltOf rr rfl) ff hb1; replace rr := kept rr rfl hb1; replace ss := kept ss rfl hb1; replace hB := bstep hB hb1 (Nat.le_refl _); clear hb1)
                          | (go_at_call 36; (with_reducible refine (HZ1.out _).mono ?_); rintro e w1 ⟨rfl, hb1⟩; replace ff := keptF (ltOf rr rfl) ff hb1; replace rr := kept rr rfl hb1; replace ss := kept ss rfl hb1; replace hB := bstep hB hb1 (Nat.le_refl _); clear hb1))
            refine bodyPost_ret (v := .tuple #[.agg #[.int .i64 0, .int .i64 0, .int .i64 0, .int .i64 0, .slice none 0 0], .int .i64 4]) ?_ rfl ?_
            · unfold results
              go_simp
            · exact ⟨none, 0, 0, by rw [HEV.out, HSV.out]; rfl, by rw [HSV.out]; exact ownB.nil_ _ _, Below.set5 hB (Nat.le_refl _) _ _ _ _ _⟩
          · have hz1 := HZ.out rfl
            have d1 : decide ((0 : Int) < zz) = true := by simpa using (show (0 : Int) < zz by omega)
            have d2 : (0 : Int) < zz := by omega
            have hev : decE bs = 2 := by rw [HE.out]; simp; omega
            have HSV := Lib.hid (show decS bs = (⟨0, 0, 0, 0⟩, []) by rw [HS.out, hev]; rfl)
            have HEV := Lib.hid hev
            clear hev
            go_wp2_with (first
                          | (go_at_call 17; (with_reducible refine (HM1.out _).mono ?_); rintro e w1 ⟨rfl, hb1⟩; replace ff := keptF (ltOf rr rfl) ff hb1; replace rr := kept rr rfl hb1; replace ss := kept ss rfl hb1; replace hB := bstep hB hb1 (Nat.le_refl _); clear hb1)
                          | (go_at_call 36; (with_reducible refine (HZ1.out _).mono ?_); rintro e w1 ⟨rfl, hb1⟩; replace ff := keptF (ltOf rr rfl) ff hb1; replace rr := kept rr rfl hb1; replace ss := kept ss rfl hb1; replace hB := bstep hB hb1 (Nat.le_refl _); clear hb1))
            refine bodyPost_ret (v := .tuple #[.agg #[.int .i64 0, .int .i64 0, .int .i64 0, .int .i64 0, .slice none 0 0], .int .i64 2]) ?_ rfl ?_
            · unfold results
              go_simp
            · exact ⟨none, 0, 0, by rw [HEV.out, HSV.out]; rfl, by rw [HSV.out]; exact ownB.nil_ _ _, Below.set5 hB (Nat.le_refl _) _ _ _ _ _⟩
        · have h82' : ((a0.toNat : Int) != 82) = true := by
            rw [bne_iff_ne]
            intro e
            exact h82 (UInt8.toNat_inj.1 (by show a0.toNat = 82; omega))
          have hev : decE bs = 4 := by rw [HE.out]; simp [h82]
          have HSV := Lib.hid (show decS bs = (⟨0, 0, 0, 0⟩, []) by rw [HS.out, hev]; rfl)
          have HEV := Lib.hid hev
          clear hev
          go_wp2_with (first
                      | (go_at_call 17; (with_reducible refine (HM1.out _).mono ?_); rintro e w1 ⟨rfl, hb1⟩; replace ff := keptF (ltOf rr rfl) ff hb1; replace rr := kept rr rfl hb1; replace ss := kept ss rfl hb1; replace hB := bstep hB hb1 (Nat.le_refl _); clear hb1)
                      | (go_at_call 36; (with_reducible refine (HZ1.out _).mono ?_); rintro e w1 ⟨rfl, hb1⟩; replace ff := keptF (ltOf rr rfl) ff hb1; replace rr := kept rr rfl hb1; replace ss := kept ss rfl hb1; replace hB := bstep hB hb1 (Nat.le_refl _); clear hb1))
          refine bodyPost_ret (v := .tuple #[.agg #[.int .i64 0, .int .i64 0, .int .i64 0, .int .i64 0, .slice none 0 0], .int .i64 4]) ?_ rfl ?_
          · unfold results
            go_simp
          · exact ⟨none, 0, 0, by rw [HEV.out, HSV.out]; rfl, by rw [HSV.out]; exact ownB.nil_ _ _, Below.set5 hB (Nat.le_refl _) _ _ _ _ _⟩
      · have c7' : ¬ (7 : Int) = c := by omega
        by_cases h82 : a0 = 82
        · subst h82
          have h82' : (((82 : UInt8).toNat : Int) != 82) = false := by rfl
          rcases mm with _ | _
          · have hev : decE bs = 4 := by rw [HE.out]; simp
            have HSV := Lib.hid (show decS bs = (⟨0, 0, 0, 0⟩, []) by rw [HS.out, hev]; rfl)
            have HEV := Lib.hid hev
            clear hev
            go_wp2_with (first
                          | (go_at_call 17; (with_reducible refine (HM1.out _).mono ?_); rintro e w1 ⟨rfl, hb1⟩; replace ff := keptF (ltOf rr rfl) ff hb1; replace rr := kept rr rfl hb1; replace ss := kept ss rfl hb1; replace hB := bstep hB hb1 (Nat.le_refl _); clear hb1)
                          | (go_at_call 36; (with_reducible refine (HZ1.out _).mono ?_); rintro e w1 ⟨rfl, hb1⟩; replace ff := keptF (ltOf rr rfl) ff hb1; replace rr := kept rr rfl hb1; replace ss := kept ss rfl hb1; replace hB := bstep hB hb1 (Nat.le_refl _); clear hb1))
            refine bodyPost_ret (v := .tuple #[.agg #[.int .i64 0, .int .i64 0, .int .i64 0, .int .i64 0, .slice none 0 0], .int .i64 4]) ?_ rfl ?_
            · unfold results
              go_simp
            · exact ⟨none, 0, 0, by rw [HEV.out, HSV.out]; rfl, by rw [HSV.out]; exact ownB.nil_ _ _, Below.set5 hB (Nat.le_refl _) _ _ _ _ _⟩
          · have hz1 := HZ.out rfl
            rcases (by omega : (m : Int) < zz ∨ zz < m ∨ zz = m) with q | q | q
            · have hev : decE bs = 2 := by rw [HE.out]; simp [q]
              have HSV := Lib.hid (show decS bs = (⟨0, 0, 0, 0⟩, []) by rw [HS.out, hev]; rfl)
              have HEV := Lib.hid hev
              clear hev
              have d1 : decide ((m : Int) < zz) = true := by simpa using q
              go_wp2_with (first
                              | (go_at_call 17; (with_reducible refine (HM1.out _).mono ?_); rintro e w1 ⟨rfl, hb1⟩; replace ff := keptF (ltOf rr rfl) ff hb1; replace rr := kept rr rfl hb1; replace ss := kept ss rfl hb1; replace hB := bstep hB hb1 (Nat.le_refl _); clear hb1)
                              | (go_at_call 36; (with_reducible refine (HZ1.out _).mono ?_); rintro e w1 ⟨rfl, hb1⟩; replace ff := keptF (ltOf rr rfl) ff hb1; replace rr := kept rr rfl hb1; replace ss := kept ss rfl hb1; replace hB := bstep hB hb1 (Nat.le_refl _); clear hb1))
              refine bodyPost_ret (v := .tuple #[.agg #[.int .i64 0, .int .i64 0, .int .i64 0, .int .i64 0, .slice none 0 0], .int .i64 2]) ?_ rfl ?_
              · unfold results
                go_simp
              · exact ⟨none, 0, 0, by rw [HEV.out, HSV.out]; rfl, by rw [HSV.out]; exact ownB.nil_ _ _, Below.set5 hB (Nat.le_refl _) _ _ _ _ _⟩
            · have hev : decE bs = 3 := by rw [HE.out]; simp [q]; omega
              have HSV := Lib.hid (show decS bs = (⟨0, 0, 0, 0⟩, []) by rw [HS.out, hev]; rfl)
              have HEV := Lib.hid hev
              clear hev
              have d1 : decide ((m : Int) < zz) = false := by simp; omega
              have d2 : decide (zz < (m : Int)) = true := by simpa using q
              go_wp2_with (first
                              | (go_at_call 17; (with_reducible refine (HM1.out _).mono ?_); rintro e w1 ⟨rfl, hb1⟩; replace ff := keptF (ltOf rr rfl) ff hb1; replace rr := kept rr rfl hb1; replace ss := kept ss rfl hb1; replace hB := bstep hB hb1 (Nat.le_refl _); clear hb1)
                              | (go_at_call 36; (with_reducible refine (HZ1.out _).mono ?_); rintro e w1 ⟨rfl, hb1⟩; replace ff := keptF (ltOf rr rfl) ff hb1; replace rr := kept rr rfl hb1; replace ss := kept ss rfl hb1; replace hB := bstep hB hb1 (Nat.le_refl _); clear hb1))
              refine bodyPost_ret (v := .tuple #[.agg #[.int .i64 0, .int .i64 0, .int .i64 0, .int .i64 0, .slice none 0 0], .int .i64 3]) ?_ rfl ?_
              · unfold results
                go_simp
              · exact ⟨none, 0, 0, by rw [HEV.out, HSV.out]; rfl, by rw [HSV.out]; exact ownB.nil_ _ _, Below.set5 hB (Nat.le_refl _) _ _ _ _ _⟩
            · have hev : decE bs = 0 := by rw [HE.out]; simp [q]
              have HSV := Lib.hid (show decS bs = (⟨W, H, (a5.toNat : Int), (a6.toNat : Int)⟩, t) by rw [HS.out, hev]; rfl)
              have HEV := Lib.hid hev
              clear hev
              subst q
              have d1 : decide ((m : Int) < m) = false := by simp
              go_upto_region 13 with (first
                | (go_at_call 17; (with_reducible refine (HM1.out _).mono ?_); rintro e w1 ⟨rfl, hb1⟩; replace ff := keptF (ltOf rr rfl) ff hb1; replace rr := kept rr rfl hb1; replace ss := kept ss rfl hb1; replace hB := bstep hB hb1 (Nat.le_refl _); clear hb1)
                | (go_at_call 36; (with_reducible refine (HZ1.out _).mono ?_); rintro e w1 ⟨rfl, hb1⟩; replace ff := keptF (ltOf rr rfl) ff hb1; replace rr := kept rr rfl hb1; replace ss := kept ss rfl hb1; replace hB := bstep hB hb1 (Nat.le_refl _); clear hb1))
              go_region_with (go_at_call 65; (with_reducible refine (HC.out _ hB.drew).mono ?_); rintro e w2 ⟨v2, rfl, hv2, hb1⟩; obtain ⟨A2, n2, c2, rfl, _, _, _⟩ := hv2.slice; replace hv2 := hv2.mono (base' := w.heap.size + 1) (by have := ltOf rr rfl; exact this); replace ff := keptFD (ltOf rr rfl) ff hb1; replace rr := keptD rr rfl hb1; replace ss := keptD ss rfl hb1; replace hB := bstep hB.drew hb1 (Nat.le_refl _); clear hb1)
              all_goals
                go_wp2
                refine bodyPost_ret (v := .tuple #[.agg #[.int .i64 W, .int .i64 H, .int .i64 (a5.toNat : Int), .int .i64 (a6.toNat : Int), .slice A2 n2 c2], .int .i64 0]) ?_ rfl ?_
                · unfold results
                  go_simp
                · exact ⟨A2, n2, c2, by rw [HEV.out, HSV.out]; rfl, by rw [HSV.out]; exact (hv2.far5 (ownB_ne hv2 (Nat.lt_succ_self _)) _ _ _ _ _).mono (Nat.le_succ _), Below.set5 hB (Nat.le_refl _) _ _ _ _ _⟩
        · have h82' : ((a0.toNat : Int) != 82) = true := by
            rw [bne_iff_ne]
            intro e
            exact h82 (UInt8.toNat_inj.1 (by show a0.toNat = 82; omega))
          have hev : decE bs = 4 := by rw [HE.out]; simp [h82]
          have HSV := Lib.hid (show decS bs = (⟨0, 0, 0, 0⟩, []) by rw [HS.out, hev]; rfl)
          have HEV := Lib.hid hev
          clear hev
          go_wp2_with (first
                      | (go_at_call 17; (with_reducible refine (HM1.out _).mono ?_); rintro e w1 ⟨rfl, hb1⟩; replace ff := keptF (ltOf rr rfl) ff hb1; replace rr := kept rr rfl hb1; replace ss := kept ss rfl hb1; replace hB := bstep hB hb1 (Nat.le_refl _); clear hb1)
                      | (go_at_call 36; (with_reducible refine (HZ1.out _).mono ?_); rintro e w1 ⟨rfl, hb1⟩; replace ff := keptF (ltOf rr rfl) ff hb1; replace rr := kept rr rfl hb1; replace ss := kept ss rfl hb1; replace hB := bstep hB hb1 (Nat.le_refl _); clear hb1))
          refine bodyPost_ret (v := .tuple #[.agg #[.int .i64 0, .int .i64 0, .int .i64 0, .int .i64 0, .slice none 0 0], .int .i64 4]) ?_ rfl ?_
          · unfold results
            go_simp
          · exact ⟨none, 0, 0, by rw [HEV.out, HSV.out]; rfl, by rw [HSV.out]; exact ownB.nil_ _ _, Below.set5 hB (Nat.le_refl _) _ _ _ _ _⟩

end Go.Proofs.Ytcgpeijmmongoaa
