/- HuffReads: any lengths, any bytes: what is read, up to the first error. -/
import Derived.Test.YtpbegikdohafbaaFirst5
import Derived.Test.YtpbegikdohafbaaNext5
import Derived.Lib.LazyBuf
namespace Go.Proofs.Ytpbegikdohafbaa
set_option linter.all false
open Go.RowKit

theorem cloneB2_any (B n c : Nat) (A : Option Addr) (bs : List UInt8) (w : World) (h : RdB w B A n bs) (hm : n ≤ 1099511627776) :
    Calls Try.prog 36 #[.slice A n c] w fun e w' => ∃ v, e = .returned v ∧ ownB w' w.heap.size v bs ∧ Below w.heap.size w w' := by
  have kn := fun w => Go.run_eql_slice_nil (P := Try.prog) w 46 _ A n c Try.underlying46
  cases A with
  | none =>
    have h0 : bs = [] := by
      cases bs with
      | nil => rfl
      | cons x l => have h2 := h.len; obtain ⟨b, o, e, _⟩ := h.at_ (by rw [← h2]; simp); cases e
    subst h0
    have hn : n = 0 := by have := h.len; simpa using this.symm
    subst hn
    go_enter Try.func36, Try.ntmps36
    go_wp2
    go_ret
    exact ⟨_, rfl, ownB.nil_ _ _, Below.refl _ _⟩
  | some a =>
    go_enter Try.func36, Try.ntmps36
    go_wp2_with (at_builtin; go_loud (refine wpList_appendB rfl (.tmp 5) (.tmp 6) rfl w.heap.size _ [] rfl (own_lit w [] (by simp)) w.heap.size n c (some a) bs rfl (Rd.alloc (Rd.here h) (Nat.le_refl _) _) (by simp; omega) (by simp) ?_); intro v1 w1 hown hg hb hat)
    go_ret
    exact ⟨_, rfl, hown, ((Below.refl w.heap.size w).alloc (Nat.le_refl _) _).trans (hb)⟩
theorem newReader_any (B n c : Nat) (A : Option Addr) (bs : List UInt8) (w : World) (h : RdB w B A n bs) (hm : n ≤ 1099511627776) :
    Calls Try.prog 22 #[.slice A n c] w fun e w' => ∃ g A' c', e = .returned (.pointer (some ⟨g, 0, none⟩)) ∧ w.heap.size ≤ g ∧ g < w'.heap.size ∧ Arr w' g (rdr A' n c' 0) ∧ RdB w' g A' n bs ∧ Below w.heap.size w w' := by
  have HC := Lib.hid (cloneB2_any B n c A bs w h hm)
  have hl := h.len
  clear h
  go_enter Try.func22, Try.ntmps22
  go_wp2_with (go_at_call 36; (with_reducible refine HC.out.mono ?_); go_must (rintro e w1 ⟨v, rfl, ho, hb⟩; obtain ⟨A1, c1, rfl, hr, -, -⟩ := ho.form; rw [hl] at hr ⊢; have HR := Lib.hid hr; have HB := Lib.hid hb; clear ho hr hb))
  go_ret
  exact ⟨_, A1, c1, rfl, HB.out.size, by simp, Arr.new w1 (rdr A1 n c1 0) _, Rd.alloc HR.out (Nat.le_refl _) _, HB.out.alloc HB.out.size _⟩
theorem RdB.more' {w : World} {B B' n : Nat} {A : Option Addr} {l : List UInt8} (h : RdB w B A n l) (hB : B ≤ B') : RdB w B' A n l := Rd.more h hB
theorem at_any (g P : Nat) (w : World) (h : w.cell? ⟨g, 1, none⟩ = some (.int .i64 (P : Int))) :
    Calls Try.prog 25 #[.pointer (some ⟨g, 0, none⟩)] w fun e w' => e = .returned (.int .i64 (P : Int)) ∧ w = w' := by
  go_enter Try.func25, Try.ntmps25
  go_wp2_with fail
  go_ret
  exact ⟨rfl, rfl⟩

set_option maxRecDepth 100000 in
set_option maxHeartbeats 6400000 in
theorem huffReads_walk (n c : Nat) (A : Option Addr) (ls : List Int) (n2 c2 : Nat) (A2 : Option Addr) (bs : List UInt8) (w : World) (h : RdI w w.heap.size A n ls) (hnc : n ≤ c) (hcm : c ≤ maxLen) (h' : RdB w w.heap.size A2 n2 bs) (hnc2 : n2 ≤ c2) (hcm2 : c2 ≤ maxLen) :
    Calls Try.prog 9 #[.slice A n c, .slice A2 n2 c2] w fun e w' => e = .returned (.bool true) ∧ Below w.heap.size w w' := by
  unfold maxLen at hcm hcm2
  have hB := Below.refl w.heap.size w
  by_cases hbig : 400 < n ∨ 300 < n2
  · clear h h'
    rcases hbig with hbig | hbig
    · go_enter Try.func9, Try.ntmps9
      go_wp2_with (go_at_call 11; (with_reducible refine (first5_any _).mono ?_); go_must (rintro e wf ⟨rfl, hb1⟩; replace hB := bstep hB hb1 (Nat.le_refl _); clear hb1))
      go_ret
      exact ⟨rfl, hB⟩
    · by_cases h400 : 400 < n
      · go_enter Try.func9, Try.ntmps9
        go_wp2_with (go_at_call 11; (with_reducible refine (first5_any _).mono ?_); go_must (rintro e wf ⟨rfl, hb1⟩; replace hB := bstep hB hb1 (Nat.le_refl _); clear hb1))
        go_ret
        exact ⟨rfl, hB⟩
      · go_enter Try.func9, Try.ntmps9
        go_wp2_with (go_at_call 11; (with_reducible refine (first5_any _).mono ?_); go_must (rintro e wf ⟨rfl, hb1⟩; replace hB := bstep hB hb1 (Nat.le_refl _); clear hb1))
        go_ret
        exact ⟨rfl, hB⟩
  · have hn4 : n ≤ 400 := by omega
    have hm3 : n2 ≤ 300 := by omega
    clear hbig
    have HNW := Lib.hid (fun (w' : World) (hb : Below w.heap.size w w') => new_any w.heap.size n c A ls w' (h.blw hb) hb.size (by omega))
    have HNW5 := Lib.hid (fun (w' : World) (hb : Below w.heap.size w w') => new5_any w.heap.size n c A ls w' (h.blw hb) hb.size (by omega))
    have HNR := Lib.hid (fun (w' : World) (hb : Below w.heap.size w w') => newReader_any w.heap.size n2 c2 A2 bs w' (h'.blw hb) (by omega))
    have HR2 := Lib.hid h'
    have HLN := Lib.hid h'.len
    unfold NewPost at HNW
    unfold New5Post at HNW5
    by_cases hE : nwE ls = 0
    · have hcd : cdE ls = 0 := by
        unfold nwE at hE
        split at hE
        · assumption
        · exact hE
      have HZ := Lib.hid (cdE_zero hcd)
      rw [hE] at HNW HNW5
      clear h h' hcd hE
      go_enter Try.func9, Try.ntmps9
      go_wp2_with (first
        | (go_at_call 11; (with_reducible refine (first5_any _).mono ?_); go_must (rintro e wf ⟨rfl, hb1⟩; replace hB := bstep hB hb1 (Nat.le_refl _); clear hb1))
        | (go_at_call 20; (with_reducible refine (HNW.out _ hB).mono ?_); go_must (rintro e w1 ⟨v1, rfl, hd1, -, hb1⟩; obtain ⟨gd, rfl, hd⟩ := hd1 (by first | trivial | rfl); have HD := Lib.hid hd; have z1 := hb1.size; replace hB := bstep hB hb1 (Nat.le_refl _); clear hd1 hd hb1))
        | (go_at_call 21; (with_reducible refine (HNW5.out _ hB).mono ?_); go_must (rintro e w2 ⟨v2, rfl, hd2, -, hb2⟩; obtain ⟨gx, rfl, hx⟩ := hd2 (by first | trivial | rfl); have HX := Lib.hid hx; have z2 := hb2.size; have HDb := Lib.hid ((HD.out.blw hb2).more z2); replace hB := bstep hB hb2 (Nat.le_refl _); clear hd2 hx hb2))
        | (go_at_call 22; (with_reducible refine (HNR.out _ hB).mono ?_); go_must (rintro e w3 ⟨gr, A3, c3, rfl, hgr, hgr2, hA3, hR3, hb3⟩; have HA3 := Lib.hid hA3; have HR3 := Lib.hid hR3; have HD3 := Lib.hid ((HDb.out.blw hb3).more hgr); have HX3 := Lib.hid ((HX.out.blw hb3).more hgr); have zz := hB.size; replace hB := bstep hB hb3 (Nat.le_refl _); clear hA3 hR3 hb3)))
      have HB4 := Lib.hid (hB.alloc hB.size (.cells (rdr A2 n2 c2 0).toArray 57))
      have HRY := Lib.hid (show RdB _ gr A2 n2 bs from RdB.more' (HR2.out.blw HB4.out) (show w.heap.size ≤ gr by omega))
      have HAY := Lib.hid (Arr.new w3 (rdr A2 n2 c2 0) 57)
      have HAR := Lib.hid (HA3.out.alloc (.cells (rdr A2 n2 c2 0).toArray 57))
      have hlow := (Below.refl gr w3).alloc (by omega) (.cells (rdr A2 n2 c2 0).toArray 57)
      have HRR := Lib.hid (HR3.out.blw hlow)
      have HD4 := Lib.hid (HD3.out.blw hlow)
      have HX4 := Lib.hid (HX3.out.blw hlow)
      clear HNW HNW5 HNR HR2 HD HX HDb HA3 HR3 HD3 HX3 hlow hB
      generalize hgy : w3.heap.size = gy at *
      go_loopw [11] (fun vi wr => ∃ i Q : Nat, i ≤ 2500 ∧ vi = .int .i64 i ∧ i ≤ Q ∧ Q ≤ 8 * n2 ∧ Hid (Arr wr gr (rdr A3 n2 c3 Q)) ∧ Hid (Arr wr gy (rdr A2 n2 c2 Q)) ∧ Hid (Below gr (w3.alloc (.cells (rdr A2 n2 c2 0).toArray 57)) wr)) (fun vi _ => 2500 - (intOf vi).toNat)
      case atStart => exact ⟨0, 0, by omega, rfl, by omega, by omega, HAR, HAY, Below.refl _ _⟩
      case round =>
        clear HAR HAY
        obtain ⟨i, Q, hi, rfl, hiQ, hQ, HA, HY, HB⟩ := hrel
        by_cases hlt : i < 2500
        · have hNA := next_any gr n2 c3 gd gr Q A3 ls bs wr (HD4.out.blw HB.out) HA.out (HRR.out.blw HB.out) (Nat.le_refl _) hQ (by omega) HZ.out.1 HZ.out.2.1 HZ.out.2.2
          have HNB := Lib.hid (fun (w' : World) (hb : Below gr wr w') (ha : Arr w' gy (rdr A2 n2 c2 Q)) => next5_any gr n2 c2 gx gy Q A2 ls bs w' ((HX4.out.blw HB.out).blw hb) ha (RdB.blw (RdB.blw HRY.out HB.out) hb) (by omega) hQ (by omega) HZ.out.1 HZ.out.2.1 HZ.out.2.2)
          have HNA := Lib.hid hNA
          clear hNA
          unfold NextPost at HNA HNB
          obtain ⟨m1, m2⟩ := nx_mono ls bs 15 1 0 Q
          have zr := HA.out.lt
          have hne : gy ≠ gr := by omega
          generalize nx ls bs 15 1 0 Q = R at *
          obtain ⟨p, g, Q2⟩ := R
          dsimp only at m1 m2 HNA HNB
          by_cases hg : g = 0
          · subst hg
            obtain ⟨m3, m4⟩ := m2 rfl
            have dp : (p != p) = false := by simp
            have dq : ((Q2 : Int) != (Q2 : Int)) = false := by simp
            clear m2
            go_wp2_with (first
              | (go_at_call 23; (with_reducible refine HNA.out.mono ?_); go_must (rintro e w6 ⟨rfl, hA6, hG6⟩; have HA6 := Lib.hid hA6; have HB6 := Lib.hid (below_gb hG6 (by omega) (Nat.le_refl gr)); have HY6 := Lib.hid (Arr.gro HY.out hG6 hne); clear hA6 hG6))
              | (go_at_call 24; (with_reducible refine (HNB.out _ HB6.out HY6.out).mono ?_); go_must (rintro e w7 ⟨rfl, hA7, hG7⟩; have HY7 := Lib.hid hA7; have hz6 := HA6.out.lt; have HB7 := Lib.hid ((HB.out.trans HB6.out).trans (below_gb hG7 (by omega) (show gr ≤ gy by omega))); have HA7 := Lib.hid (Arr.gro HA6.out hG7 hne.symm); clear hA7 hG7)))
            have c1 := HA7.out.cell (k := 1) rfl
            have c2 := HY7.out.cell (k := 1) rfl
            clear HA HY HB HA6 HY6 HB6 HNA HNB
            go_quiet ((go_at_call 25; exact Calls.quiet_of_same ((at_any gr Q2 _ (by exact c1)).mono fun _ _ h => ⟨h.1, h.2.symm⟩)))
            go_wp2_with fail
            go_roundw
            case rel => exact ⟨i + 1, Q2, by omega, by go_num, by omega, (by have := HLN.out; omega), HA7.out.drewN _, HY7.out.drewN _, bdrewN HB7.out _⟩
            case measure => simp [intOf]; omega
          · have dg : (g == 0) = false := beq_eq_false_iff_ne.2 hg
            have dg2 : (g != 0) = true := by simp [bne, dg]
            have dgg : (g != g) = false := by simp
            have HBW := Lib.hid ((HB4.out.trans (HB.out.mono (show w.heap.size ≤ gr by omega))))
            clear m2
            go_wp2_with (first
              | (go_at_call 23; (with_reducible refine HNA.out.mono ?_); go_must (rintro e w6 ⟨rfl, hA6, hG6⟩; have HB6 := Lib.hid (below_gb hG6 (by omega) (Nat.le_refl gr)); have HY6 := Lib.hid (Arr.gro HY.out hG6 hne); have hz6 := hA6.lt; clear hA6 hG6))
              | (go_at_call 24; (with_reducible refine (HNB.out _ HB6.out HY6.out).mono ?_); go_must (rintro e w7 ⟨rfl, hA7, hG7⟩; have HB7 := Lib.hid (HBW.out.trans ((HB6.out.trans (below_gb hG7 (by omega) (show gr ≤ gy by omega))).mono (show w.heap.size ≤ gr by omega))); clear hA7 hG7)))
            clear HA HY HB HY6 HB6 HNA HNB hg
            go_quiet (fail)
            have HB8 := Lib.hid (bdrewN HB7.out nq)
            go_wp2_with (go_at_call 11; (with_reducible refine (first5_any _).mono ?_); go_must (rintro e wf ⟨rfl, hb1⟩; have hBC := bstep HB8.out hb1 (Nat.le_refl _)))
            go_ret
            exact ⟨rfl, hBC⟩
        · exact absurd hlt (by omega)
    · generalize nwE ls = E at *
      have de : (E != E) = false := by simp
      clear h h' HR2
      go_enter Try.func9, Try.ntmps9
      go_wp2_with (first
        | (go_at_call 11; (with_reducible refine (first5_any _).mono ?_); go_must (rintro e wf ⟨rfl, hb1⟩; replace hB := bstep hB hb1 (Nat.le_refl _); clear hb1))
        | (go_at_call 20; (with_reducible refine (HNW.out _ hB).mono ?_); go_must (rintro e w1 ⟨v1, rfl, -, hd1, hb1⟩; obtain rfl := hd1 hE; replace hB := bstep hB hb1 (Nat.le_refl _); clear hd1 hb1))
        | (go_at_call 21; (with_reducible refine (HNW5.out _ hB).mono ?_); go_must (rintro e w2 ⟨v2, rfl, -, hd2, hb2⟩; obtain rfl := hd2 hE; replace hB := bstep hB hb2 (Nat.le_refl _); clear hd2 hb2)))
      go_ret
      exact ⟨rfl, hB⟩
end Go.Proofs.Ytpbegikdohafbaa
