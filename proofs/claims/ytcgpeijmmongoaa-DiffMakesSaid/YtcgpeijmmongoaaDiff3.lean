/- diff: the reference's pair and Delta. -/
import Derived.Test.YtcgpeijmmongoaaDiff2
import Derived.StillTailTactics
namespace Go.Proofs.Ytcgpeijmmongoaa
set_option linter.all false
open Go.RowKit

set_option maxHeartbeats 1600000 in
theorem pair9_any (s t : Sh) (n c n' c' : Nat) (A A' : Option Addr) (w : World) :
    Calls Try.prog 64 #[s.r A n c, t.r A' n' c'] w fun e w' => e = .returned (.int .i64 (wrongR s t n n')) ∧ Below w.heap.size w w' := by
  have hB := Below.refl w.heap.size w
  have H1 := Lib.hid (fun w => may9_any s A n c w)
  have H2 := Lib.hid (fun w => may9_any t A' n' c' w)
  have H3 := Lib.hid (fun w => shape_any s t w)
  have e : wrongR s t n n' = if s.mayR n && t.mayR n' then (if decide (s = t) then 0 else 13) else 4 := by unfold wrongR; simp
  rw [e]
  clear e
  generalize s.mayR n = p at H1 ⊢
  generalize t.mayR n' = q at H2 ⊢
  generalize decide (s = t) = r at H3 ⊢
  obtain ⟨W, H, C, D⟩ := s
  obtain ⟨W', H', C', D'⟩ := t
  show Calls _ _ #[.agg #[.int .i64 W, .int .i64 H, .int .i64 C, .int .i64 D, .slice A n c], .agg #[.int .i64 W', .int .i64 H', .int .i64 C', .int .i64 D', .slice A' n' c']] w _
  dsimp only [Sh.r, Sh.v] at H1 H2 H3
  cases p <;> cases q <;> cases r <;> (
    go_enter Try.func64, Try.ntmps64
    go_wp2_with (first
      | (go_at_call 53; (with_reducible refine (H1.out _).mono ?_); rintro e w1 ⟨rfl, hb1⟩; have dd := box5 hb1; rw [World.size_alloc] at dd; replace hb1 := bxd hb1; have cc := box5 hb1; replace hB := bxd hb1; clear hb1)
      | (go_at_call 53; (with_reducible refine (H2.out _).mono ?_); rintro e w2 ⟨rfl, hb1⟩; replace cc := kept cc rfl hb1; replace dd := kept dd rfl hb1; replace hB := bstep hB hb1 (Nat.le_refl _); clear hb1)
      | (go_at_call 21; (with_reducible refine (H3.out _).mono ?_); rintro e w2 ⟨rfl, hb1⟩; replace cc := kept cc rfl hb1; replace dd := kept dd rfl hb1; replace hB := bstep hB hb1 (Nat.le_refl _); clear hb1))
    go_ret
    exact ⟨rfl, hB⟩)

set_option maxHeartbeats 3200000 in
theorem delta9_ok (k : Int) (s t : Sh) (B n c B' n' c' : Nat) (A A' : Option Addr) (bs rs : List UInt8) (w : World) (hp : RdB w B A n bs) (hr : RdB w B' A' n' rs)
    (hB1 : B ≤ w.heap.size) (hB2 : B' ≤ w.heap.size) (hk : k = 1 ∨ k = 2) (h0 : wrongR s t n n' = 0) :
    Calls Try.prog 37 #[.int .i64 k, s.r A n c, t.r A' n' c'] w fun e w' =>
      ∃ v, e = .returned (.tuple #[v, .int .i64 0]) ∧ ownB w' w.heap.size v (deltaB k bs rs) ∧ Below w.heap.size w w' := by
  have hB := Below.refl w.heap.size w
  have H1 := Lib.hid (fun w => pair9_any s t n c n' c' A A' w)
  have HZ := Lib.hid h0
  obtain ⟨-, -, hst, hnn, h16⟩ := wrongR_zero h0
  have hl := hr.len
  have hl' := hp.len
  have HL := Lib.hid (deltaB_len (k := k) (bs := bs) (rs := rs) (by omega))
  have HN := Lib.hid hnn
  have HE := Lib.hid hl
  have HE' := Lib.hid hl'
  clear hst h0 hl' hl
  have h16' : n' ≤ 16384 := by omega
  clear hnn
  obtain ⟨W, H, C, D⟩ := s
  obtain ⟨W', H', C', D'⟩ := t
  dsimp only [Sh.r] at H1
  show Calls _ _ #[.int .i64 k, .agg #[.int .i64 W, .int .i64 H, .int .i64 C, .int .i64 D, .slice A n c], .agg #[.int .i64 W', .int .i64 H', .int .i64 C', .int .i64 D', .slice A' n' c']] w _
  rcases hk with rfl | rfl
  · go_enter Try.func37, Try.ntmps37
    go_wp2_with (first
      | (go_at_call 64; (with_reducible refine (H1.out _).mono ?_); rintro e w1 ⟨rfl, hb1⟩; rw [HZ.out]; have dd := box5 hb1; rw [World.size_alloc] at dd; replace hb1 := bxd hb1; have cc := box5 hb1; replace hB := bxd hb1; clear hb1)
      | (at_make; refine wpList_makeB rfl _ _ rfl n' _ rfl rfl rfl (by omega) ?_; intro w2 hown hb1 hsz; have hg : w.heap.size + 1 < w1.heap.size := ltOf dd rfl; replace cc := kept cc rfl hb1; replace dd := kept dd rfl hb1; replace hB := bstep hB hb1 (Nat.le_refl _); clear hb1))
    generalize hgg : w1.heap.size = g at hown hsz hg
    clear hgg
    replace hown := hown.mono (base' := w.heap.size) (by omega)
    go_loopw [10] (fun i wr => ∃ k : Nat, k ≤ n' ∧ i = .int .i64 k ∧ ownB wr w.heap.size (.slice (some ⟨g, 0, none⟩) n' n') (fillTo (deltaB 1 bs rs) k) ∧ (∀ i, wr.cell? ⟨w.heap.size, i, none⟩ = r5 (.int .i64 W) (.int .i64 H) (.int .i64 C) (.int .i64 D) (.slice A n c) i) ∧ (∀ i, wr.cell? ⟨w.heap.size + 1, i, none⟩ = r5 (.int .i64 W') (.int .i64 H') (.int .i64 C') (.int .i64 D') (.slice A' n' c') i) ∧ Below w.heap.size w wr)
      (fun i _ => n' - (intOf i).toNat)
    case atStart => exact ⟨0, Nat.zero_le _, rfl, by rw [fillTo_zero, HL.out, HE.out]; exact hown, cc, dd, hB⟩
    case round =>
      clear cc dd hB hown hsz
      obtain ⟨k, hk, rfl, hown, cc, dd, hB⟩ := hrel
      by_cases hlt : k < n'
      · obtain ⟨b, o, x, rfl, hbo, hx, cx⟩ := (hp.blw (hB.mono hB1)).byte (k := k) (by rw [HN.out]; exact hlt)
        obtain ⟨b', o', y, rfl, hbo', hy, cy⟩ := (hr.blw (hB.mono hB2)).byte hlt
        have HF : Hid (n' = (fillTo (deltaB 1 bs rs) k).length) := by show _ = _; rw [fillTo_len _ _ (by rw [HL.out, HE.out]; exact hk), HL.out, HE.out]
        obtain ⟨d0, _, cd⟩ := hown.byte HF.out hlt
        have fd := hown.frozen HF.out k
        have Hs : Hid (ownB (wr.setCell ⟨g, k, none⟩ (.int .u8 ((dop 1 x y).toNat : Int))) w.heap.size (.slice (some ⟨g, 0, none⟩) n' n') (fillTo (deltaB 1 bs rs) (k + 1))) := by
          show ownB _ _ _ _
          rw [fillTo_put _ k _ (deltaB_at hx.out hy.out)]
          exact hown.store HF.out k _
        have hlt2 : k < n := by rw [HN.out]; exact hlt
        simp only [dop] at Hs
        have HX := Lib.hid (deltaB_at (k := 1) hx.out hy.out)
        clear hx hy
        go_wp2
        go_still_tail 14, (by kernel_rfl)
        go_wp2
        go_roundw
        case rel => exact ⟨k + 1, by omega, by go_num, by simpa only [dop, if_true, UInt8.toNat_xor] using Hs.out.drew, keptS cc (by show w.heap.size ≠ g; omega) _, keptS dd (by show w.heap.size + 1 ≠ g; omega) _, (hB.setCell (by show w.heap.size ≤ g; omega) _).drew⟩
        case measure => simp [intOf]; omega
      · have : k = n' := by omega
        subst this
        rw [show fillTo (deltaB 1 bs rs) k = deltaB 1 bs rs by have := fillTo_end (deltaB 1 bs rs); rwa [HL.out, HE.out] at this] at hown
        go_wp2
        go_ret2
        exact ⟨_, rfl, hown, hB⟩
  · go_enter Try.func37, Try.ntmps37
    go_wp2_with (first
      | (go_at_call 64; (with_reducible refine (H1.out _).mono ?_); rintro e w1 ⟨rfl, hb1⟩; rw [HZ.out]; have dd := box5 hb1; rw [World.size_alloc] at dd; replace hb1 := bxd hb1; have cc := box5 hb1; replace hB := bxd hb1; clear hb1)
      | (at_make; refine wpList_makeB rfl _ _ rfl n' _ rfl rfl rfl (by omega) ?_; intro w2 hown hb1 hsz; have hg : w.heap.size + 1 < w1.heap.size := ltOf dd rfl; replace cc := kept cc rfl hb1; replace dd := kept dd rfl hb1; replace hB := bstep hB hb1 (Nat.le_refl _); clear hb1))
    generalize hgg : w1.heap.size = g at hown hsz hg
    clear hgg
    replace hown := hown.mono (base' := w.heap.size) (by omega)
    go_loopw [10] (fun i wr => ∃ k : Nat, k ≤ n' ∧ i = .int .i64 k ∧ ownB wr w.heap.size (.slice (some ⟨g, 0, none⟩) n' n') (fillTo (deltaB 2 bs rs) k) ∧ (∀ i, wr.cell? ⟨w.heap.size, i, none⟩ = r5 (.int .i64 W) (.int .i64 H) (.int .i64 C) (.int .i64 D) (.slice A n c) i) ∧ (∀ i, wr.cell? ⟨w.heap.size + 1, i, none⟩ = r5 (.int .i64 W') (.int .i64 H') (.int .i64 C') (.int .i64 D') (.slice A' n' c') i) ∧ Below w.heap.size w wr)
      (fun i _ => n' - (intOf i).toNat)
    case atStart => exact ⟨0, Nat.zero_le _, rfl, by rw [fillTo_zero, HL.out, HE.out]; exact hown, cc, dd, hB⟩
    case round =>
      clear cc dd hB hown hsz
      obtain ⟨k, hk, rfl, hown, cc, dd, hB⟩ := hrel
      by_cases hlt : k < n'
      · obtain ⟨b, o, x, rfl, hbo, hx, cx⟩ := (hp.blw (hB.mono hB1)).byte (k := k) (by rw [HN.out]; exact hlt)
        obtain ⟨b', o', y, rfl, hbo', hy, cy⟩ := (hr.blw (hB.mono hB2)).byte hlt
        have HF : Hid (n' = (fillTo (deltaB 2 bs rs) k).length) := by show _ = _; rw [fillTo_len _ _ (by rw [HL.out, HE.out]; exact hk), HL.out, HE.out]
        obtain ⟨d0, _, cd⟩ := hown.byte HF.out hlt
        have fd := hown.frozen HF.out k
        have Hs : Hid (ownB (wr.setCell ⟨g, k, none⟩ (.int .u8 ((dop 2 x y).toNat : Int))) w.heap.size (.slice (some ⟨g, 0, none⟩) n' n') (fillTo (deltaB 2 bs rs) (k + 1))) := by
          show ownB _ _ _ _
          rw [fillTo_put _ k _ (deltaB_at hx.out hy.out)]
          exact hown.store HF.out k _
        have hlt2 : k < n := by rw [HN.out]; exact hlt
        simp only [dop] at Hs
        have HX := Lib.hid (deltaB_at (k := 2) hx.out hy.out)
        clear hx hy
        go_wp2
        go_still_tail 14, (by kernel_rfl)
        go_wp2
        have hv : ((y.toNat ^^^ x.toNat : Nat) : Int) = ((y ^^^ x).toNat : Int) := by rw [UInt8.toNat_xor]
        have hown2 := (hown.store HF.out k (y ^^^ x)).drew
        rw [← hv] at hown2
        have cc2 := keptS cc (p := ⟨g, k, none⟩) (by show w.heap.size ≠ g; omega) (.int .u8 ((y.toNat ^^^ x.toNat : Nat) : Int))
        have dd2 := keptS dd (p := ⟨g, k, none⟩) (by show w.heap.size + 1 ≠ g; omega) (.int .u8 ((y.toNat ^^^ x.toNat : Nat) : Int))
        have hB2 := (hB.setCell (p := ⟨g, k, none⟩) (by show w.heap.size ≤ g; omega) (.int .u8 ((y.toNat ^^^ x.toNat : Nat) : Int))).drew
        generalize hwm : (wr.setCell ⟨g, k, none⟩ (.int .u8 ((y.toNat ^^^ x.toNat : Nat) : Int))).drew = wm at hown2 hB2 ⊢
        replace cc2 : ∀ i, wm.cell? ⟨w.heap.size, i, none⟩ = r5 (.int .i64 W) (.int .i64 H) (.int .i64 C) (.int .i64 D) (.slice (some ⟨b, o, none⟩) n c) i := by rw [← hwm]; exact cc2
        replace dd2 : ∀ i, wm.cell? ⟨w.heap.size + 1, i, none⟩ = r5 (.int .i64 W') (.int .i64 H') (.int .i64 C') (.int .i64 D') (.slice (some ⟨b', o', none⟩) n' c') i := by rw [← hwm]; exact dd2
        replace cx : wm.cell? ⟨b, o + k, none⟩ = some (.int .u8 (x.toNat : Int)) := by rw [← hwm]; exact (World.cell?_setCell_other wr ⟨g, k, none⟩ ⟨b, o + k, none⟩ _ (by intro e; injection e with e; omega)).trans cx
        replace cy : wm.cell? ⟨b', o' + k, none⟩ = some (.int .u8 (y.toNat : Int)) := by rw [← hwm]; exact (World.cell?_setCell_other wr ⟨g, k, none⟩ ⟨b', o' + k, none⟩ _ (by intro e; injection e with e; omega)).trans cy
        have HF2 : Hid (n' = ((fillTo (deltaB 2 bs rs) k).set k (y ^^^ x)).length) := by show _ = _; rw [List.length_set]; exact HF.out
        obtain ⟨d1, _, cd1⟩ := hown2.byte HF2.out hlt
        have fd1 := hown2.frozen HF2.out k
        have Hs2 : Hid (ownB (wm.setCell ⟨g, k, none⟩ (.int .u8 ((dop 2 x y).toNat : Int))) w.heap.size (.slice (some ⟨g, 0, none⟩) n' n') (fillTo (deltaB 2 bs rs) (k + 1))) := by
          show ownB _ _ _ _
          rw [fillTo_put _ k _ HX.out, ← List.set_set (a := (y ^^^ x))]
          exact hown2.store HF2.out k _
        simp only [dop] at Hs2
        clear hwm cc dd hB fd cd hown hv
        go_still_tail 14, (by kernel_rfl)
        go_wp2
        go_roundw
        case rel => exact ⟨k + 1, by omega, by go_num, by simpa using Hs2.out.drew, keptS cc2 (by show w.heap.size ≠ g; omega) _, keptS dd2 (by show w.heap.size + 1 ≠ g; omega) _, (hB2.setCell (by show w.heap.size ≤ g; omega) _).drew⟩
        case measure => simp [intOf]; omega
      · have : k = n' := by omega
        subst this
        rw [show fillTo (deltaB 2 bs rs) k = deltaB 2 bs rs by have := fillTo_end (deltaB 2 bs rs); rwa [HL.out, HE.out] at this] at hown
        go_wp2
        go_ret2
        exact ⟨_, rfl, hown, hB⟩

set_option maxHeartbeats 1600000 in
theorem delta9_bad (k : Int) (s t : Sh) (n c n' c' : Nat) (A A' : Option Addr) (w : World) (E : Int) (hE : E = if k = 1 ∨ k = 2 then wrongR s t n n' else 1) (h0 : E ≠ 0) :
    Calls Try.prog 37 #[.int .i64 k, s.r A n c, t.r A' n' c'] w fun e w' =>
      e = .returned (.tuple #[.slice none 0 0, .int .i64 E]) ∧ Below w.heap.size w w' := by
  have hB := Below.refl w.heap.size w
  have H1 := Lib.hid (fun w => pair9_any s t n c n' c' A A' w)
  have hne : (E != 0) = true := by simpa using h0
  by_cases hk : k = 1 ∨ k = 2
  · rw [if_pos hk] at hE
    have HE := Lib.hid hE.symm
    clear hE h0
    obtain ⟨W, H, C, D⟩ := s
    obtain ⟨W', H', C', D'⟩ := t
    dsimp only [Sh.r] at H1
    show Calls _ _ #[.int .i64 k, .agg #[.int .i64 W, .int .i64 H, .int .i64 C, .int .i64 D, .slice A n c], .agg #[.int .i64 W', .int .i64 H', .int .i64 C', .int .i64 D', .slice A' n' c']] w _
    rcases hk with rfl | rfl
    all_goals
      go_enter Try.func37, Try.ntmps37
      go_wp2_with (go_at_call 64; (with_reducible refine (H1.out _).mono ?_); rintro e w1 ⟨rfl, hb1⟩; rw [HE.out]; replace hB := bxd (bxd hb1); clear hb1)
      go_ret2
      exact ⟨rfl, hB⟩
  · rw [if_neg hk] at hE
    subst hE
    clear h0 hne
    have d1 : (k != 1) = true := by rw [bne_iff_ne]; omega
    have d2 : (k != 2) = true := by rw [bne_iff_ne]; omega
    obtain ⟨W, H, C, D⟩ := s
    obtain ⟨W', H', C', D'⟩ := t
    show Calls _ _ #[.int .i64 k, .agg #[.int .i64 W, .int .i64 H, .int .i64 C, .int .i64 D, .slice A n c], .agg #[.int .i64 W', .int .i64 H', .int .i64 C', .int .i64 D', .slice A' n' c']] w _
    go_enter Try.func37, Try.ntmps37
    go_wp2
    go_ret2
    exact ⟨rfl, (hB.alloc (Nat.le_refl _) _).alloc (by simp) _⟩

theorem delta9_any (k : Int) (s t : Sh) (B n c B' n' c' : Nat) (A A' : Option Addr) (bs rs : List UInt8) (w : World) (hp : RdB w B A n bs) (hr : RdB w B' A' n' rs)
    (hB1 : B ≤ w.heap.size) (hB2 : B' ≤ w.heap.size) :
    Calls Try.prog 37 #[.int .i64 k, s.r A n c, t.r A' n' c'] w fun e w' =>
      ∃ v, e = .returned (.tuple #[v, .int .i64 (makeR k s t bs rs).2]) ∧ ownB w' w.heap.size v (makeR k s t bs rs).1 ∧ Below w.heap.size w w' := by
  have hl := hp.len
  have hl' := hr.len
  by_cases hk : k = 1 ∨ k = 2
  · by_cases h0 : wrongR s t n n' = 0
    · have e : makeR k s t bs rs = (deltaB k bs rs, 0) := by unfold makeR; rw [if_pos hk, hl, hl', if_pos h0]
      rw [e]
      exact delta9_ok k s t B n c B' n' c' A A' bs rs w hp hr hB1 hB2 hk h0
    · have e : makeR k s t bs rs = ([], wrongR s t n n') := by unfold makeR; rw [if_pos hk, hl, hl', if_neg h0]
      rw [e]
      refine (delta9_bad k s t n c n' c' A A' w _ (by rw [if_pos hk]) h0).mono ?_
      rintro e w' ⟨rfl, hb⟩
      exact ⟨_, rfl, ownB.nil_ _ _, hb⟩
  · have e : makeR k s t bs rs = ([], 1) := by unfold makeR; rw [if_neg hk]
    rw [e]
    refine (delta9_bad k s t n c n' c' A A' w 1 (by rw [if_neg hk]) (by decide)).mono ?_
    rintro e w' ⟨rfl, hb⟩
    exact ⟨_, rfl, ownB.nil_ _ _, hb⟩


end Go.Proofs.Ytcgpeijmmongoaa
