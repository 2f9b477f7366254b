/- Merged: Next5, HuffReads, HuffBackP. -/
import Derived.Lib.LazyBuf
import Derived.Test.YtfafijhmjnkjeaaMa16
import Derived.Test.YtfafijhmjnkjeaaMa15
/- The document's decoders. -/
namespace Go.Proofs.Ytfafijhmjnkjeaa
set_option linter.all false
open Go.RowKit

theorem plc_empty {ls : List Int} {t : Nat} (h1 : 1 ≤ t) (h : ∀ (k : Nat) (x : Int), ls[k]? = some x → ¬ 0 < x) (k : Nat) : plc ls t k = [] := by
  cases e : plc ls t k with
  | nil => rfl
  | cons a r =>
    obtain ⟨p, -, -, hp, -⟩ := plc_of (ls := ls) (t := t) (i := 0) (x := a) k (by rw [e]; rfl)
    exact absurd (show (0 : Int) < (t : Int) by omega) (h p _ hp)
theorem allP_empty {ls : List Int} (h : ∀ (k : Nat) (x : Int), ls[k]? = some x → ¬ 0 < x) (l : Nat) : allP ls l = [] := by
  induction l with
  | zero => rfl
  | succ l ih => rw [allP, ih, plc_empty (by omega) h]; rfl
theorem codesL_at {ls : List Int} {i : Nat} {y : Nat × Int} (h : (codesL ls)[i]? = some y) : y = codeAt ls i := by
  unfold codesL at h
  rw [List.getElem?_map] at h
  cases hr : (List.range ls.length)[i]? with
  | none => rw [hr] at h; cases h
  | some j =>
    obtain ⟨hj, e⟩ := List.getElem?_eq_some_iff.1 hr
    rw [List.getElem_range] at e
    rw [hr] at h
    injection h with h
    rw [← h, e]
theorem codesL_len (ls : List Int) : (codesL ls).length = ls.length := by simp [codesL]
/-- The document's decoder, below B. -/
def Dec5 (w : World) (B g : Nat) (ls : List Int) : Prop := ∃ A c, Arr w g [.slice A ls.length c] ∧ RdD w B A ls.length (codesL ls) ∧ g < B
theorem Dec5.blw {w w' : World} {B g : Nat} {ls : List Int} (h : Dec5 w B g ls) (hb : Below B w w') : Dec5 w' B g ls := by
  obtain ⟨A, c, h1, h2, h3⟩ := h
  exact ⟨A, c, h1.blw hb h3, h2.blw hb, h3⟩
theorem Dec5.more {w : World} {B B' g : Nat} {ls : List Int} (h : Dec5 w B g ls) (hB : B ≤ B') : Dec5 w B' g ls := by
  obtain ⟨A, c, h1, h2, h3⟩ := h
  exact ⟨A, c, h1, h2.more hB, by omega⟩
def New5Post (w : World) (ls : List Int) (e : Ending) (w' : World) : Prop :=
  ∃ v, e = .returned (.tuple #[v, .int .i64 (nwE ls)]) ∧ (nwE ls = 0 → ∃ g, v = .pointer (some ⟨g, 0, none⟩) ∧ Dec5 w' w'.heap.size g ls) ∧ (nwE ls ≠ 0 → v = .pointer none) ∧ Below w.heap.size w w'

set_option maxRecDepth 100000 in
set_option maxHeartbeats 3200000 in
theorem new5_any (B n c : Nat) (A : Option Addr) (ls : List Int) (w : World) (h : RdI w B A n ls) (hB1 : B ≤ w.heap.size) (hn : n ≤ 1099511627776) :
    Calls Try.prog 66 #[.slice A n c] w fun e w' => New5Post w ls e w' := by
  have HC := Lib.hid (codes5_any B n c A ls w h hB1 hn)
  by_cases hE : cdE ls = 0
  · obtain ⟨g1, g2, g3⟩ := cdE_zero hE
    have hL : cdL ls = codesL ls := by unfold cdL; rw [if_pos hE]
    have HL := Lib.hid h.len
    have hn3 : n ≤ 300 := by have := h.len; omega
    have HBAD := Lib.hid g1
    have HNW : Hid (nwE ls = if (allP ls 15).length = 0 then 4 else 0) := (show _ = _ by unfold nwE; rw [if_pos hE])
    rw [hE, hL, codesL_len, h.len] at HC
    clear h hE g1 g2 g3 hL
    go_enter Try.func66, Try.ntmps66
    go_wp2_with (go_at_call 96; (with_reducible refine HC.out.mono ?_); go_must (rintro e w1 ⟨A1, n1, c1, rfl, rfl, ho1, hb1⟩; have HB1 := Lib.hid hb1; have hz1 := hb1.size; have HR1 := Lib.hid (RdD.here ho1.rd); clear hb1 ho1))
    go_loopw [6] (fun vi wr => ∃ k : Nat, k ≤ n1 ∧ vi = .int .i64 k ∧ Hid (∀ (i : Nat) (x : Int), i < k → ls[i]? = some x → ¬ 0 < x) ∧ Hid (wr = w1)) (fun vi _ => n1 - (intOf vi).toNat)
    case atStart => exact ⟨0, Nat.zero_le _, rfl, (show ∀ (i : Nat) (x : Int), i < 0 → _ from fun i x hi => absurd hi (by omega)), (show _ = _ from rfl)⟩
    case round =>
      obtain ⟨k, hk, rfl, HS, HW⟩ := hrel
      obtain rfl : wr = w1 := HW.out
      by_cases hlt : k < n1
      · obtain ⟨b, o, y, rfl, hb, HY, e1, e2⟩ := HR1.out.one hlt
        have hy := codesL_at HY.out
        obtain ⟨x, hx⟩ : ∃ x, ls[k]? = some x := ⟨_, List.getElem?_eq_getElem (by rw [HL.out]; exact hlt)⟩
        by_cases h0 : 0 < x
        · obtain ⟨x0, x1⟩ := good_at HBAD.out hx
          obtain ⟨t, rfl⟩ := Int.eq_ofNat_of_zero_le x0
          rw [codeAt_pos hx (by omega)] at hy
          subst hy
          have HE : Hid (nwE ls = 0) := (show _ = _ by rw [HNW.out, if_neg (allP_some HBAD.out hx h0)])
          have HAN := Lib.hid (Arr.new wr [Value.slice (some ⟨b, o, none⟩) n1 c1] 152)
          have HRN := Lib.hid (RdD.alloc HR1.out (Nat.le_refl _) (.cells #[Value.slice (some ⟨b, o, none⟩) n1 c1] 152))
          have HBN := Lib.hid (HB1.out.alloc hz1 (.cells #[Value.slice (some ⟨b, o, none⟩) n1 c1] 152))
          have d0 : decide ((t : Int) > 0) = true := decide_eq_true h0
          have HD : Hid (Dec5 (wr.alloc (.cells #[Value.slice (some ⟨b, o, none⟩) n1 c1] 152)) (wr.alloc (.cells #[Value.slice (some ⟨b, o, none⟩) n1 c1] 152)).heap.size wr.heap.size ls) := (show Dec5 _ _ _ _ by
            refine ⟨some ⟨b, o, none⟩, c1, ?_, ?_, by simp⟩
            · rw [HL.out]; exact HAN.out
            · rw [HL.out]; exact HRN.out.more (by simp))
          clear HY HS HAN HRN hx e1
          go_wp2_with fail
          go_ret2
          exact ⟨_, ret_tup2 rfl (by rw [HE.out]; rfl), fun _ => ⟨_, rfl, HD.out⟩, fun h => absurd HE.out h, HBN.out⟩
        · rw [codeAt_zero hx h0] at hy
          subst hy
          have HS2 : Hid (∀ (i : Nat) (x : Int), i < k + 1 → ls[i]? = some x → ¬ 0 < x) := (show ∀ (i : Nat) (x : Int), i < k + 1 → _ from fun i x' hi hx' => by
            by_cases e : i = k
            · subst e
              rw [hx] at hx'
              injection hx' with e
              rw [← e]
              exact h0
            · exact HS.out i x' (by omega) hx')
          clear HY HS hx e1
          go_wp2_with fail
          go_roundw
          case rel => exact ⟨k + 1, by omega, by go_num, HS2, (by first | exact Lib.hid trivial | exact Lib.hid rfl)⟩
          case measure => simp [intOf]; omega
      · obtain rfl : k = n1 := by omega
        have HE : Hid (nwE ls = 4) := (show _ = _ by
          have h0 : ∀ (i : Nat) (x : Int), ls[i]? = some x → ¬ 0 < x := fun i x hx => HS.out i x (by have := (List.getElem?_eq_some_iff.1 hx).1; have := HL.out; omega) hx
          rw [HNW.out, if_pos (by rw [allP_empty h0]; rfl)])
        go_wp2_with fail
        go_ret2
        exact ⟨_, ret_tup2 rfl (by rw [HE.out]; rfl), fun h => absurd (HE.out.symm.trans h) (by decide), fun _ => rfl, HB1.out⟩
  · have HE : Hid (nwE ls = cdE ls ∧ cdE ls ≠ 0) := (show _ ∧ _ by unfold nwE; rw [if_neg hE]; exact ⟨rfl, hE⟩)
    have de : (cdE ls != 0) = true := by simp [bne]; exact hE
    clear h hE
    generalize cdE ls = E at *
    go_enter Try.func66, Try.ntmps66
    go_wp2_with (go_at_call 96; (with_reducible refine HC.out.mono ?_); go_must (rintro e w1 ⟨A1, n1, c1, rfl, -, -, hb1⟩))
    go_ret2
    exact ⟨_, ret_tup2 rfl (by rw [HE.out.1]; rfl), fun h => absurd (HE.out.1.symm.trans h) HE.out.2, fun _ => rfl, hb1⟩

set_option maxRecDepth 100000 in
set_option maxHeartbeats 3200000 in
theorem next5_any (B n c gd gr P : Nat) (A : Option Addr) (ls : List Int) (bs : List UInt8) (w : World) (hd : Dec5 w B gd ls) (hr : Arr w gr (rdr A n c P)) (hb : RdB w B A n bs) (hg : B ≤ gr) (hP : P ≤ 8 * n) (hn : n ≤ 1099511627776)
    (hbad : badL ls = false) (hkr : krN ls ≤ 32768) (hl3 : ls.length ≤ 300) :
    Calls Try.prog 67 #[.pointer (some ⟨gd, 0, none⟩), .pointer (some ⟨gr, 0, none⟩)] w fun e w' => NextPost ls bs A n c P gr w e w' := by
  obtain ⟨Ad, cd, hd1, hd2, hd3⟩ := hd
  have HBAD := Lib.hid hbad
  have HKR := Lib.hid hkr
  obtain ⟨m, hm⟩ : ∃ m, ls.length = m := ⟨_, rfl⟩
  rw [hm] at hd1 hd2 hl3
  have HLM := Lib.hid hm
  have HD := Lib.hid hd1
  have HDR := Lib.hid hd2
  have HR := Lib.hid hr
  have HRB := Lib.hid hb
  have hgs := hr.lt
  have HBL := Lib.hid hb.len
  clear hbad hkr hd1 hd2 hr hb hm
  go_enter Try.func67, Try.ntmps67
  go_wp2_with fail
  go_loopw [7, 6] (fun vt vv wr => ∃ t v Q : Nat, 1 ≤ t ∧ t ≤ 16 ∧ vt = .int .i64 t ∧ vv = .int .u32 v ∧ Hid (v < 2 ^ (t - 1)) ∧ Hid (Q ≤ 8 * n) ∧ Hid (Arr wr gr (rdr A n c Q)) ∧ Hid (w.grownBy wr (some gr)) ∧ Hid (nx ls bs (16 - t) t v Q = nx ls bs 15 1 0 P))
    (fun vt _ _ => 17 - (intOf vt).toNat)
  case atStart => exact ⟨1, 0, P, by omega, by omega, rfl, rfl, (show 0 < 2 ^ (1 - 1) by decide), hP, HR, gb_refl _ _, (show _ = _ from rfl)⟩
  case round =>
    clear HR
    obtain ⟨t, v, Q, ht1, ht2, rfl, rfl, HV, HQ, HA, HG, HN⟩ := hrel
    have hQ := HQ.out
    by_cases hlt : t ≤ 15
    · have htI : (t : Int) ≤ 15 := by omega
      have HN1 : Hid (nx ls bs (15 - t + 1) t v Q = nx ls bs 15 1 0 P) := (show _ = _ by
        have := HN.out
        rwa [show 16 - t = 15 - t + 1 by omega] at this)
      by_cases hfit : 8 * n < Q + 1
      · have HC := Lib.hid (getR1_short HA.out hn hQ hfit)
        have HE : Hid ((0, 2, Q) = nx ls bs 15 1 0 P) := (show _ = _ by rw [← HN1.out, nx_short (by rw [HBL.out]; omega)])
        go_wp2_with (go_at_call 64; (with_reducible refine HC.out.mono ?_); go_must (rintro e w5 ⟨rfl, hb5⟩))
        go_ret2
        exact nextPost HE.out rfl (HA.out.gbN hb5) (gb_trans HG.out (gb_none hb5 gr))
      · have HC := Lib.hid (getR1_any HA.out (HRB.out.blw (below_gb HG.out (by omega) hg)) hg hn (by omega))
        have hbt := bitAt_lt bs Q
        obtain ⟨V, hV⟩ : ∃ V, v * 2 + bitAt bs Q = V := ⟨_, rfl⟩
        obtain ⟨p1, p2, p3⟩ := pow_step HV.out ht1 hlt hbt hV
        have HP1 := Lib.hid p1
        have hor := or_code v (bitAt bs Q) p3 hbt
        rw [hV] at hor
        have HVV := Lib.hid hV
        have hns : ¬ 8 * bs.length ≤ Q := by rw [HBL.out]; omega
        have HNS := Lib.hid hns
        clear p1 hV hns
        generalize hbq : bitAt bs Q = bq at *
        have HBQ := Lib.hid hbq
        clear hbq HN HV
        go_wp2_with (go_at_call 64; (with_reducible refine HC.out.mono ?_); go_must (rintro e w5 ⟨rfl, hA5, hG5⟩; have HA5 := Lib.hid hA5; have HG5 := Lib.hid (gb_trans HG.out hG5); clear hA5 hG5))
        have HD5 := Lib.hid (HD.out.blw (below_gb HG5.out (by omega) hg) hd3)
        have HDR5 := Lib.hid (HDR.out.blw (below_gb HG5.out (by omega) hg))
        clear HA HG HC
        obtain ⟨wo, rfl⟩ : ∃ wo : World, wo = wr := ⟨_, rfl⟩
        go_loopw [10] (fun vk wr => ∃ k : Nat, k ≤ m ∧ vk = .int .i64 k ∧ Hid (∀ p, p < k → ¬ Hit ls t V p) ∧ Hid (wr = w5)) (fun vk _ => m - (intOf vk).toNat)
        case atStart => exact ⟨0, Nat.zero_le _, rfl, (show ∀ p, p < 0 → _ from fun p hp => absurd hp (by omega)), (show _ = _ from rfl)⟩
        case round =>
          obtain ⟨k, hk, rfl, HS, HW⟩ := hrel
          obtain rfl : wr = w5 := HW.out
          have c0 := HD5.out.cell (k := 0) rfl
          by_cases hlt2 : k < m
          · obtain ⟨b, o, y, rfl, hb, HY, e1, e2⟩ := HDR5.out.one hlt2
            have hy := codesL_at HY.out
            obtain ⟨x, hx⟩ : ∃ x, ls[k]? = some x := ⟨_, List.getElem?_eq_getElem (by rw [HLM.out]; exact hlt2)⟩
            obtain ⟨x0, x1⟩ := good_at HBAD.out hx
            obtain ⟨u, rfl⟩ := Int.eq_ofNat_of_zero_le x0
            have hnext : ¬ Hit ls t V k → ∀ p, p < k + 1 → ¬ Hit ls t V p := fun h p hp => by
              by_cases e : p = k
              · rw [e]; exact h
              · exact HS.out p (by omega)
            by_cases hut : u = t
            · subst hut
              rw [codeAt_pos hx (by omega)] at hy
              have HX := Lib.hid hx
              have hvb : fst ls u + cnt (ls.take k) u ≤ 32768 := by
                have := fst_small ls HBAD.out HKR.out u hlt
                have := cnt_take ls k u
                have := cz_cnt ls ht1
                omega
              have dut : ((u : Int) == (u : Int)) = true := by simp
              by_cases hv : fst ls u + cnt (ls.take k) u = V
              · have HE : Hid (((k : Int), 0, Q + 1) = nx ls bs 15 1 0 P) := (show _ = _ by
                  rw [← HN1.out, nx_hit HNS.out (by rw [HBQ.out, HVV.out]; exact hit_some ⟨hx, hv⟩)])
                rw [hv] at hy
                subst hy
                have dvv : ((V : Int) == (V : Int)) = true := by simp
                clear hnext HS hx HX HY hv
                go_wp2_with fail
                go_ret2
                exact nextPost HE.out rfl HA5.out HG5.out
              · have HS2 := Lib.hid (hnext (fun h => hv h.2))
                generalize fst ls u + cnt (ls.take k) u = V2 at *
                subst hy
                have dvv : ((V2 : Int) == (V : Int)) = false := beq_eq_false_iff_ne.2 (by omega)
                clear hnext HS hx HX HY hv
                go_wp2_with fail
                go_roundw
                case rel => exact ⟨k + 1, by omega, by go_num, HS2, (by first | exact Lib.hid trivial | exact Lib.hid rfl)⟩
                case measure => simp [intOf]; omega
            · have HS2 := Lib.hid (hnext (fun h => hut (by have := h.1; rw [hx] at this; injection this with e; omega)))
              have hy2 : y.2 = (u : Int) := by
                by_cases h0 : 0 < u
                · rw [hy, codeAt_pos hx h0]
                · obtain rfl : u = 0 := by omega
                  rw [hy, codeAt_zero hx (by omega)]; rfl
              rw [hy2] at e2
              have dut : ((u : Int) == (t : Int)) = false := beq_eq_false_iff_ne.2 (by omega)
              clear hnext HS hx HY hy hy2
              go_wp2_with fail
              go_roundw
              case rel => exact ⟨k + 1, by omega, by go_num, HS2, (by first | exact Lib.hid trivial | exact Lib.hid rfl)⟩
              case measure => simp [intOf]; omega
          · obtain rfl : k = m := by omega
            have HN2 : Hid (nx ls bs (16 - (t + 1)) (t + 1) V (Q + 1) = nx ls bs 15 1 0 P) := (show _ = _ by
              have hh : hitN ls t (v * 2 + bitAt bs Q) = none := by
                rw [HBQ.out, HVV.out]
                exact hit_none (fun p h => HS.out p (by have := (List.getElem?_eq_some_iff.1 h.1).1; have := HLM.out; omega) h)
              rw [← HN1.out, nx_on HNS.out hh, HBQ.out, HVV.out, show 16 - (t + 1) = 15 - t by omega])
            go_wp2_with fail
            go_roundw
            case rel => exact ⟨t + 1, V, Q + 1, by omega, by omega, by go_num, rfl, HP1, (show Q + 1 ≤ 8 * n by omega), HA5, HG5, HN2⟩
            case measure => simp [intOf]; omega
    · obtain rfl : t = 16 := by omega
      have HE : Hid ((0, 4, Q) = nx ls bs 15 1 0 P) := (show _ = _ by rw [← HN.out]; rfl)
      go_wp2_with fail
      go_ret2
      exact nextPost HE.out rfl HA.out HG.out
end Go.Proofs.Ytfafijhmjnkjeaa

/- HuffReads: any lengths, any bytes: what is read, up to the first error. -/
namespace Go.Proofs.Ytfafijhmjnkjeaa
set_option linter.all false
open Go.RowKit

theorem cloneB2_any (B n c : Nat) (A : Option Addr) (bs : List UInt8) (w : World) (h : RdB w B A n bs) (hm : n ≤ 1099511627776) :
    Calls Try.prog 46 #[.slice A n c] w fun e w' => ∃ v, e = .returned v ∧ ownB w' w.heap.size v bs ∧ Below w.heap.size w w' := by
  have kn := fun w => Go.run_eql_slice_nil (P := Try.prog) w 22 _ A n c Try.underlying22
  cases A with
  | none =>
    have h0 : bs = [] := by
      cases bs with
      | nil => rfl
      | cons x l => have h2 := h.len; obtain ⟨b, o, e, _⟩ := h.at_ (by rw [← h2]; simp); cases e
    subst h0
    have hn : n = 0 := by have := h.len; simpa using this.symm
    subst hn
    go_enter Try.func46, Try.ntmps46
    go_wp2
    go_ret
    exact ⟨_, rfl, ownB.nil_ _ _, Below.refl _ _⟩
  | some a =>
    go_enter Try.func46, Try.ntmps46
    go_wp2_with (at_builtin; go_loud (refine wpList_appendB rfl (.tmp 5) (.tmp 6) rfl w.heap.size _ [] rfl (own_lit w [] (by simp)) w.heap.size n c (some a) bs rfl (Rd.alloc (Rd.here h) (Nat.le_refl _) _) (by simp; omega) (by simp) ?_); intro v1 w1 hown hg hb hat)
    go_ret
    exact ⟨_, rfl, hown, ((Below.refl w.heap.size w).alloc (Nat.le_refl _) _).trans (hb)⟩
theorem newReader_any (B n c : Nat) (A : Option Addr) (bs : List UInt8) (w : World) (h : RdB w B A n bs) (hm : n ≤ 1099511627776) :
    Calls Try.prog 25 #[.slice A n c] w fun e w' => ∃ g A' c', e = .returned (.pointer (some ⟨g, 0, none⟩)) ∧ w.heap.size ≤ g ∧ g < w'.heap.size ∧ Arr w' g (rdr A' n c' 0) ∧ RdB w' g A' n bs ∧ Below w.heap.size w w' := by
  have HC := Lib.hid (cloneB2_any B n c A bs w h hm)
  have hl := h.len
  clear h
  go_enter Try.func25, Try.ntmps25
  go_wp2_with (go_at_call 46; (with_reducible refine HC.out.mono ?_); go_must (rintro e w1 ⟨v, rfl, ho, hb⟩; obtain ⟨A1, c1, rfl, hr, -, -⟩ := ho.form; rw [hl] at hr ⊢; have HR := Lib.hid hr; have HB := Lib.hid hb; clear ho hr hb))
  go_ret
  exact ⟨_, A1, c1, rfl, HB.out.size, by simp, Arr.new w1 (rdr A1 n c1 0) _, Rd.alloc HR.out (Nat.le_refl _) _, HB.out.alloc HB.out.size _⟩
theorem RdB.more' {w : World} {B B' n : Nat} {A : Option Addr} {l : List UInt8} (h : RdB w B A n l) (hB : B ≤ B') : RdB w B' A n l := Rd.more h hB
theorem at_any (g P : Nat) (w : World) (h : w.cell? ⟨g, 1, none⟩ = some (.int .i64 (P : Int))) :
    Calls Try.prog 31 #[.pointer (some ⟨g, 0, none⟩)] w fun e w' => e = .returned (.int .i64 (P : Int)) ∧ w = w' := by
  go_enter Try.func31, Try.ntmps31
  go_wp2_with fail
  go_ret
  exact ⟨rfl, rfl⟩

end Go.Proofs.Ytfafijhmjnkjeaa

/- HuffBack: places written and read, plainly. -/
namespace Go.Proofs.Ytfafijhmjnkjeaa
set_option linter.all false
open Go.RowKit

/-- The bits of places' codes. -/
def codesB (ls : List Int) (D : List Nat) : List Nat := D.flatMap (codeB ls)
def intsN (D : List Nat) : List Int := D.map fun (x : Nat) => (x : Int)
theorem intsN_len (D : List Nat) : (intsN D).length = D.length := by simp [intsN]
/-- Places that have a code. -/
def HasC (ls : List Int) (D : List Nat) : Prop := ∀ p ∈ D, ∃ t : Nat, ls[p]? = some (t : Int) ∧ 0 < t
theorem codesB_snoc (ls : List Int) (D : List Nat) (p : Nat) : codesB ls (D ++ [p]) = codesB ls D ++ codeB ls p := by simp [codesB]
theorem codeB_at {ls : List Int} {p t : Nat} (hp : ls[p]? = some (t : Int)) (h0 : 0 < t) : codeB ls p = msb (fst ls t + cnt (ls.take p) t) t t := by
  unfold codeB
  rw [codeAt_pos hp h0]
  rfl
theorem codesB_le {ls : List Int} (hbad : badL ls = false) : ∀ D : List Nat, HasC ls D → (codesB ls D).length ≤ 15 * D.length := by
  intro D
  induction D with
  | nil => intro _; simp [codesB]
  | cons p r ih =>
    intro h
    obtain ⟨t, hp, h0⟩ := h p (by simp)
    have := good_at hbad hp
    have h2 := ih (fun q hq => h q (by simp [hq]))
    unfold codesB at h2 ⊢
    rw [List.flatMap_cons, List.length_append, codeB_at hp h0, msb_len, List.length_cons]
    omega
theorem HasC.snoc {ls : List Int} {D : List Nat} (h : HasC ls D) {p t : Nat} (hp : ls[p]? = some (t : Int)) (h0 : 0 < t) : HasC ls (D ++ [p]) := by
  intro q hq
  rw [List.mem_append, List.mem_singleton] at hq
  rcases hq with hq | rfl
  · exact h q hq
  · exact ⟨t, hp, h0⟩
theorem codesB_take {ls : List Int} {D : List Nat} {i : Nat} (hi : i < D.length) : codesB ls D = codesB ls (D.take i) ++ (codeB ls D[i] ++ codesB ls (D.drop (i + 1))) := by
  have e : D = D.take i ++ D[i] :: D.drop (i + 1) := by rw [← List.drop_eq_getElem_cons hi, List.take_append_drop]
  refine (congrArg (codesB ls) e).trans ?_
  unfold codesB
  rw [List.flatMap_append, List.flatMap_cons]
theorem codesB_next {ls : List Int} {D : List Nat} {i : Nat} (hi : i < D.length) : (codesB ls (D.take (i + 1))).length = (codesB ls (D.take i)).length + (codeB ls D[i]).length := by
  rw [List.take_succ_eq_append_getElem hi, codesB_snoc, List.length_append]
/-- What Next reads at the i-th place that was written. -/
theorem nx_back {ls : List Int} (hbad : badL ls = false) (hk : krN ls ≤ 32768) {bs : List UInt8} {D : List Nat} (hD : HasC ls D) (hW : WB bs (codesB ls D)) {i : Nat} (hi : i < D.length) :
    nx ls bs 15 1 0 (codesB ls (D.take i)).length = ((D[i] : Int), 0, (codesB ls (D.take (i + 1))).length) := by
  obtain ⟨t, hp, h0⟩ := hD D[i] (List.getElem_mem hi)
  rw [codesB_take hi] at hW
  rw [codesB_next hi]
  exact nx_place hbad hk hp h0 hW
theorem codesB_bound {ls : List Int} {bs : List UInt8} {D : List Nat} (hW : WB bs (codesB ls D)) (i : Nat) : (codesB ls (D.take i)).length ≤ 8 * bs.length := by
  have h1 := hW.1
  have h2 : (codesB ls (D.take i)).length ≤ (codesB ls D).length := by
    have e : codesB ls D = codesB ls (D.take i) ++ codesB ls (D.drop i) := by unfold codesB; rw [← List.flatMap_append, List.take_append_drop]
    rw [e, List.length_append]
    omega
  omega
theorem wbytes_any (g : Nat) (pv : Value) (bs : List UInt8) (L : List Nat) (w : World) (h : Wr w g pv bs L) (hb : L.length ≤ 1000000) :
    Calls Try.prog 55 #[.pointer (some ⟨g, 0, none⟩)] w fun e w' => ∃ v, e = .returned v ∧ ownB w' w.heap.size v bs ∧ Below w.heap.size w w' := by
  obtain ⟨h1, h2, h3⟩ := h
  obtain ⟨A, c, rfl, hr, -, -⟩ := h2.form
  have c0 := h1.cell (k := 0) rfl
  have HC := Lib.hid (cloneB2_any w.heap.size bs.length c A bs w hr (by have := h3.1; omega))
  clear h1 h2 h3 hr
  go_enter Try.func55, Try.ntmps55
  go_wp2_with (go_at_call 46; (with_reducible refine HC.out.mono ?_); go_must (rintro e w1 ⟨v, rfl, ho, hb⟩))
  go_ret
  exact ⟨_, rfl, ho, hb⟩
theorem Wr.drew {w : World} {g : Nat} {pv : Value} {bs : List UInt8} {L : List Nat} (h : Wr w g pv bs L) : Wr w.drew g pv bs L := ⟨h.1.drew, h.2.1.drew, h.2.2⟩
theorem Wr.drewN {w : World} {g : Nat} {pv : Value} {bs : List UInt8} {L : List Nat} (h : Wr w g pv bs L) (q : Nat) : Wr (w.drewN q) g pv bs L := ⟨h.1.drewN q, h.2.1.drewN q, h.2.2⟩
theorem WrFr.undrew {w w' : World} {g : Nat} {pv pv' : Value} (h : WrFr w.drew w' g pv pv') : WrFr w w' g pv pv' := ⟨h.os, h.tape, h.output, h.size, h.block, h.own⟩
/-- Two rows in unlike blocks. -/
def Dis (a b : Value) : Prop := ∀ k, a.ownBlock = some k → b.ownBlock ≠ some k
theorem ownI.same {w w' : World} {base : Nat} {v : Value} {l : List Int} (h : ownI w base v l) (hb : ∀ k, v.ownBlock = some k → w'.heap[k]? = w.heap[k]?) : ownI w' base v l := by
  refine ⟨h.1, ?_⟩
  rcases h.2 with hn | ⟨g, cap, cur, rfl, hbg, hg, rest⟩
  · exact .inl hn
  · exact .inr ⟨g, cap, cur, rfl, hbg, (hb g rfl).trans hg, rest⟩
theorem ownI.wr {w w' : World} {g : Nat} {pv pv' v : Value} {l : List Int} (h : ownI w (g + 1) v l) (hf : WrFr w w' g pv pv') (hd : Dis pv v) : ownI w' (g + 1) v l :=
  h.same fun k hk => hf.block k (World.ownsRow.lt h k hk).2 (by have := (World.ownsRow.lt h k hk).1; omega) (fun e => hd k e hk)
theorem Dis.wr {w w' : World} {g : Nat} {pv pv' v : Value} {l : List Int} (h : ownI w (g + 1) v l) (hf : WrFr w w' g pv pv') (hd : Dis pv v) : Dis pv' v := by
  intro k hk hv
  rcases hf.own with e | ⟨j, hj, e⟩
  · exact hd k (e.symm.trans hk) hv
  · rw [e] at hk
    injection hk with hk
    have := (World.ownsRow.lt h k hv).2
    omega
/-- The writer while another row grows. -/
theorem Wr.gro {w w' : World} {g : Nat} {pv v : Value} {bs : List UInt8} {L : List Nat} {l : List Int} (o : Obj) (h : Wr w g pv bs L) (hv : ownI w (g + 1) v l) (hd : Dis pv v) (hg : (w.alloc o).grownBy w' v.ownBlock) : Wr w' g pv bs L := by
  obtain ⟨h1, h2, h3⟩ := h
  refine ⟨?_, ?_, h3⟩
  · have hl := (h1.alloc o).lt
    obtain ⟨t, h1⟩ := h1.alloc o
    exact ⟨t, (hg.block g hl (fun e => by have := (World.ownsRow.lt hv g e.symm).1; omega)).trans h1⟩
  · refine ownB.kept (h2.alloc o) hg ?_
    cases e : pv.ownBlock with
    | none => exact .inl rfl
    | some k => exact .inr (fun e2 => hd k e e2.symm)
theorem Dis.gro {w : World} {g : Nat} {pv v v' : Value} {bs : List UInt8} {L : List Nat} (o : Obj) (h : Wr w g pv bs L) (hd : Dis pv v) (hat : v'.ownBlock = v.ownBlock ∨ v'.ownBlock = some (w.alloc o).heap.size) : Dis pv v' := by
  intro k hk hv
  rcases hat with e | e
  · exact hd k hk (e.symm.trans hv)
  · rw [e] at hv
    injection hv with hv
    have := (World.ownsRow.lt h.2.1 k hk).2
    simp at hv
    omega
end Go.Proofs.Ytfafijhmjnkjeaa
