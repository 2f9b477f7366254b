/- diff: the reference's Apply. -/
import Derived.Test.YtcgpeijmmongoaaDiff4
import Derived.StillTailTactics
namespace Go.Proofs.Ytcgpeijmmongoaa
set_option linter.all false
open Go.RowKit

set_option maxHeartbeats 3200000 in
theorem apply9_ok (k : Int) (s : Sh) (B n c B' c' : Nat) (A A' : Option Addr) (bs ds : List UInt8) (w : World) (hp : RdB w B A n bs) (hr : RdB w B' A' n ds)
    (hB1 : B ≤ w.heap.size) (hB2 : B' ≤ w.heap.size) (hk : k = 1 ∨ k = 2) (hm : s.mayR n = true) :
    Calls Try.prog 39 #[.int .i64 k, s.r A n c, .slice A' n c'] w fun e w' =>
      ∃ A1 n1 c1, e = .returned (.tuple #[s.r A1 n1 c1, .int .i64 0]) ∧ ownB w' w.heap.size (.slice A1 n1 c1) (applyB k bs ds) ∧ Below w.heap.size w w' := by
  have hB := Below.refl w.heap.size w
  obtain ⟨m1, m2⟩ := mayR_pos hm
  have H1 := Lib.hid (fun w => may9_any s A n c w)
  have HM := Lib.hid hm
  have hl := hr.len
  have hl' := hp.len
  have HL := Lib.hid ((applyB_len (k := k) (bs := bs) (ds := ds) (by omega)).trans hl')
  have HE := Lib.hid hl'
  clear hl hl' hm
  obtain ⟨W, H, C, D⟩ := s
  dsimp only [Sh.r] at H1
  show Calls _ _ #[.int .i64 k, .agg #[.int .i64 W, .int .i64 H, .int .i64 C, .int .i64 D, .slice A n c], .slice A' n c'] w _
  rcases hk with rfl | rfl
  · go_enter Try.func39, Try.ntmps39
    go_upto_region 9 with (go_at_call 53; (with_reducible refine (H1.out _).mono ?_); rintro e w1 ⟨rfl, hb1⟩; rw [HM.out]; have rr := box5 hb1; rw [World.size_alloc] at rr; have ff := boxF hb1; rw [World.size_alloc] at ff; replace hb1 := bxd hb1; have cc := box5 hb1; replace hB := bxd hb1; clear hb1)
    have hsz : w.heap.size + 1 < w1.heap.size := ltOf rr rfl
    have hsz0 : w.heap.size < w1.heap.size := ltOf cc rfl
    have hne0 : ¬ w.heap.size = w1.heap.size := by omega
    have hmk : ∀ w, (Instr.makeSlice 31 (.int .i64 (n : Int)) (.int .i64 (n : Int))).run Try.prog w = .ok (.slice (some ⟨w.heap.size, 0, none⟩) n n) (w.alloc (zeroObj n)) := fun w => run_makeB w n (by omega)
    go_cut [8] (fun p wc => ∃ gb g, p = .pointer (some ⟨gb, 0, none⟩) ∧ (w.heap.size + 1 < gb ∧ w.heap.size + 1 < g ∧ gb ≠ g) ∧ (∀ i, wc.cell? ⟨gb, i, none⟩ = r5 (.int .i64 W) (.int .i64 H) (.int .i64 C) (.int .i64 D) (.slice (some ⟨g, 0, none⟩) n n) i) ∧ ownB wc w.heap.size (.slice (some ⟨g, 0, none⟩) n n) (List.replicate n 0) ∧ (∀ i, wc.cell? ⟨w.heap.size, i, none⟩ = r5 (.int .i64 W) (.int .i64 H) (.int .i64 C) (.int .i64 D) (.slice A n c) i) ∧ (∀ i, wc.cell? ⟨w.heap.size + 1, i, none⟩ = r5 (.int .i64 0) (.int .i64 0) (.int .i64 0) (.int .i64 0) (.slice none 0 0) i) ∧ (∀ i, wc.frozen? ⟨w.heap.size + 1, i, none⟩ = false) ∧ Below w.heap.size w wc)
    case first =>
      go_region
      all_goals
        go_wp2_with fail
        go_meet
        case rel =>
          first
            | exact ⟨w1.heap.size + 1, w1.heap.size, rfl, ⟨by omega, by omega, by omega⟩, (fun i => by have h := new5 (w1.alloc (zeroObj n)) (.int .i64 W) (.int .i64 H) (.int .i64 C) (.int .i64 D) (.slice (some ⟨w1.heap.size, 0, none⟩) n n) 33 (0, 0) i; rw [World.size_alloc] at h; exact h), (((own_zero w1 n (by omega)).mono (base' := w.heap.size) (by omega)).alloc _).drew, keptA (keptA cc rfl _) rfl _, keptA (keptA rr rfl _) rfl _, keptFA (by simp only [World.size_alloc]; omega) (keptFA hsz ff _) _, ((hB.alloc hB.size _).alloc (by simp only [World.size_alloc]; omega) _).drew⟩
            | exact ⟨w1.heap.size, w1.heap.size + 1, rfl, ⟨by omega, by omega, by omega⟩, keptA (new5 w1 _ _ _ _ _ _ _) rfl _, (ownB.mono (base' := w.heap.size) (by simpa only [World.size_alloc] using own_zero (w1.alloc _) n (by omega)) (by omega)).drew, keptA (keptA cc rfl _) rfl _, keptA (keptA rr rfl _) rfl _, keptFA (by simp only [World.size_alloc]; omega) (keptFA hsz ff _) _, ((hB.alloc hB.size _).alloc (by simp only [World.size_alloc]; omega) _).drew⟩
    case rest =>
      clear cc rr ff hB hsz hsz0 hne0 hmk
      obtain ⟨gb, g, rfl, ⟨q1, q2, q3⟩, bb, hown, cc, rr, ff, hB⟩ := hcut
      go_wp2_with fail
      go_loopw [9] (fun i wr => ∃ j : Nat, j ≤ n ∧ i = .int .i64 j ∧ ownB wr w.heap.size (.slice (some ⟨g, 0, none⟩) n n) (fillTo (applyB 1 bs ds) j) ∧ (∀ i, wr.cell? ⟨gb, i, none⟩ = r5 (.int .i64 W) (.int .i64 H) (.int .i64 C) (.int .i64 D) (.slice (some ⟨g, 0, none⟩) n n) i) ∧ (∀ i, wr.cell? ⟨w.heap.size, i, none⟩ = r5 (.int .i64 W) (.int .i64 H) (.int .i64 C) (.int .i64 D) (.slice A n c) i) ∧ (∀ i, wr.cell? ⟨w.heap.size + 1, i, none⟩ = r5 (.int .i64 0) (.int .i64 0) (.int .i64 0) (.int .i64 0) (.slice none 0 0) i) ∧ (∀ i, wr.frozen? ⟨w.heap.size + 1, i, none⟩ = false) ∧ Below w.heap.size w wr)
        (fun i _ => n - (intOf i).toNat)
      case atStart => exact ⟨0, Nat.zero_le _, rfl, by rw [fillTo_zero, HL.out]; exact hown, bb, cc, rr, ff, hB⟩
      case round =>
        clear cc rr ff hB bb hown
        obtain ⟨j, hj, rfl, hown, bb, cc, rr, ff, hB⟩ := hrel
        by_cases hlt : j < n
        · have HF : Hid (n = (fillTo (applyB 1 bs ds) j).length) := by show _ = _; rw [fillTo_len _ _ (by rw [HL.out]; exact hj), HL.out]
          obtain ⟨b', o', y, rfl, hbo', hy, cy⟩ := (hr.blw (hB.mono hB2)).byte hlt
          obtain ⟨b, o, x, rfl, hbo, hx, cx⟩ := (hp.blw (hB.mono hB1)).byte hlt
          obtain ⟨d0, _, cd⟩ := hown.byte HF.out hlt
          have fx := hown.frozen HF.out j
          have HX := Lib.hid (applyB_at (k := 1) hx.out hy.out)
          clear hx hy
          have Hs : Hid (ownB (wr.setCell ⟨g, j, none⟩ (.int .u8 ((y.toNat ^^^ x.toNat : Nat) : Int))) w.heap.size (.slice (some ⟨g, 0, none⟩) n n) (fillTo (applyB 1 bs ds) (j + 1))) := by
            show ownB _ _ _ _
            have e : ((y.toNat ^^^ x.toNat : Nat) : Int) = ((aop 1 x y).toNat : Int) := by rw [← UInt8.toNat_xor, UInt8.xor_comm]; rfl
            rw [fillTo_put _ j _ HX.out, e]
            exact hown.store HF.out j _
          clear HX
          go_wp2
          go_still_tail 14, (by kernel_rfl)
          go_wp2
          go_roundw
          case rel => exact ⟨j + 1, by omega, by go_num, Hs.out.drew, keptS bb (by show gb ≠ g; exact q3) _, keptS cc (by show w.heap.size ≠ g; omega) _, keptS rr (by show w.heap.size + 1 ≠ g; omega) _, keptFS ff _ _, (hB.setCell (by show w.heap.size ≤ g; omega) _).drew⟩
          case measure => simp [intOf]; omega
        · obtain rfl : j = n := by omega
          rw [show fillTo (applyB 1 bs ds) j = applyB 1 bs ds by have := fillTo_end (applyB 1 bs ds); rwa [HL.out] at this] at hown
          go_wp2
          refine bodyPost_ret (v := .tuple #[.agg #[.int .i64 W, .int .i64 H, .int .i64 C, .int .i64 D, .slice (some ⟨g, 0, none⟩) j j], .int .i64 0]) ?_ rfl ?_
          · unfold results
            go_simp
          · exact ⟨_, _, _, rfl, hown.far5 (by intro e; have e2 : g = w.heap.size + 1 := (by injection e); omega) _ _ _ _ _, Below.set5 hB (by omega) _ _ _ _ _⟩
  · go_enter Try.func39, Try.ntmps39
    go_upto_region 9 with (go_at_call 53; (with_reducible refine (H1.out _).mono ?_); rintro e w1 ⟨rfl, hb1⟩; rw [HM.out]; have rr := box5 hb1; rw [World.size_alloc] at rr; have ff := boxF hb1; rw [World.size_alloc] at ff; replace hb1 := bxd hb1; have cc := box5 hb1; replace hB := bxd hb1; clear hb1)
    have hsz : w.heap.size + 1 < w1.heap.size := ltOf rr rfl
    have hsz0 : w.heap.size < w1.heap.size := ltOf cc rfl
    have hne0 : ¬ w.heap.size = w1.heap.size := by omega
    have hmk : ∀ w, (Instr.makeSlice 31 (.int .i64 (n : Int)) (.int .i64 (n : Int))).run Try.prog w = .ok (.slice (some ⟨w.heap.size, 0, none⟩) n n) (w.alloc (zeroObj n)) := fun w => run_makeB w n (by omega)
    go_cut [8] (fun p wc => ∃ gb g, p = .pointer (some ⟨gb, 0, none⟩) ∧ (w.heap.size + 1 < gb ∧ w.heap.size + 1 < g ∧ gb ≠ g) ∧ (∀ i, wc.cell? ⟨gb, i, none⟩ = r5 (.int .i64 W) (.int .i64 H) (.int .i64 C) (.int .i64 D) (.slice (some ⟨g, 0, none⟩) n n) i) ∧ ownB wc w.heap.size (.slice (some ⟨g, 0, none⟩) n n) (List.replicate n 0) ∧ (∀ i, wc.cell? ⟨w.heap.size, i, none⟩ = r5 (.int .i64 W) (.int .i64 H) (.int .i64 C) (.int .i64 D) (.slice A n c) i) ∧ (∀ i, wc.cell? ⟨w.heap.size + 1, i, none⟩ = r5 (.int .i64 0) (.int .i64 0) (.int .i64 0) (.int .i64 0) (.slice none 0 0) i) ∧ (∀ i, wc.frozen? ⟨w.heap.size + 1, i, none⟩ = false) ∧ Below w.heap.size w wc)
    case first =>
      go_region
      all_goals
        go_wp2_with fail
        go_meet
        case rel =>
          first
            | exact ⟨w1.heap.size + 1, w1.heap.size, rfl, ⟨by omega, by omega, by omega⟩, (fun i => by have h := new5 (w1.alloc (zeroObj n)) (.int .i64 W) (.int .i64 H) (.int .i64 C) (.int .i64 D) (.slice (some ⟨w1.heap.size, 0, none⟩) n n) 33 (0, 0) i; rw [World.size_alloc] at h; exact h), (((own_zero w1 n (by omega)).mono (base' := w.heap.size) (by omega)).alloc _).drew, keptA (keptA cc rfl _) rfl _, keptA (keptA rr rfl _) rfl _, keptFA (by simp only [World.size_alloc]; omega) (keptFA hsz ff _) _, ((hB.alloc hB.size _).alloc (by simp only [World.size_alloc]; omega) _).drew⟩
            | exact ⟨w1.heap.size, w1.heap.size + 1, rfl, ⟨by omega, by omega, by omega⟩, keptA (new5 w1 _ _ _ _ _ _ _) rfl _, (ownB.mono (base' := w.heap.size) (by simpa only [World.size_alloc] using own_zero (w1.alloc _) n (by omega)) (by omega)).drew, keptA (keptA cc rfl _) rfl _, keptA (keptA rr rfl _) rfl _, keptFA (by simp only [World.size_alloc]; omega) (keptFA hsz ff _) _, ((hB.alloc hB.size _).alloc (by simp only [World.size_alloc]; omega) _).drew⟩
    case rest =>
      clear cc rr ff hB hsz hsz0 hne0 hmk
      obtain ⟨gb, g, rfl, ⟨q1, q2, q3⟩, bb, hown, cc, rr, ff, hB⟩ := hcut
      go_wp2_with fail
      go_loopw [9] (fun i wr => ∃ j : Nat, j ≤ n ∧ i = .int .i64 j ∧ ownB wr w.heap.size (.slice (some ⟨g, 0, none⟩) n n) (fillTo (applyB 2 bs ds) j) ∧ (∀ i, wr.cell? ⟨gb, i, none⟩ = r5 (.int .i64 W) (.int .i64 H) (.int .i64 C) (.int .i64 D) (.slice (some ⟨g, 0, none⟩) n n) i) ∧ (∀ i, wr.cell? ⟨w.heap.size, i, none⟩ = r5 (.int .i64 W) (.int .i64 H) (.int .i64 C) (.int .i64 D) (.slice A n c) i) ∧ (∀ i, wr.cell? ⟨w.heap.size + 1, i, none⟩ = r5 (.int .i64 0) (.int .i64 0) (.int .i64 0) (.int .i64 0) (.slice none 0 0) i) ∧ (∀ i, wr.frozen? ⟨w.heap.size + 1, i, none⟩ = false) ∧ Below w.heap.size w wr)
        (fun i _ => n - (intOf i).toNat)
      case atStart => exact ⟨0, Nat.zero_le _, rfl, by rw [fillTo_zero, HL.out]; exact hown, bb, cc, rr, ff, hB⟩
      case round =>
        clear cc rr ff hB bb hown
        obtain ⟨j, hj, rfl, hown, bb, cc, rr, ff, hB⟩ := hrel
        by_cases hlt : j < n
        · have HF : Hid (n = (fillTo (applyB 2 bs ds) j).length) := by show _ = _; rw [fillTo_len _ _ (by rw [HL.out]; exact hj), HL.out]
          obtain ⟨b', o', y, rfl, hbo', hy, cy⟩ := (hr.blw (hB.mono hB2)).byte hlt
          obtain ⟨b, o, x, rfl, hbo, hx, cx⟩ := (hp.blw (hB.mono hB1)).byte hlt
          obtain ⟨d0, _, cd⟩ := hown.byte HF.out hlt
          have fx := hown.frozen HF.out j
          have HX := Lib.hid (applyB_at (k := 2) hx.out hy.out)
          clear hx hy
          go_wp2
          go_still_tail 14, (by kernel_rfl)
          go_wp2
          have hv : ((y.toNat ^^^ x.toNat : Nat) : Int) = ((y ^^^ x).toNat : Int) := by rw [UInt8.toNat_xor]
          have hown2 := (hown.store HF.out j (y ^^^ x)).drew
          rw [← hv] at hown2
          have bb2 := keptS bb (p := ⟨g, j, none⟩) (by show gb ≠ g; exact q3) (.int .u8 ((y.toNat ^^^ x.toNat : Nat) : Int))
          have cc2 := keptS cc (p := ⟨g, j, none⟩) (by show w.heap.size ≠ g; omega) (.int .u8 ((y.toNat ^^^ x.toNat : Nat) : Int))
          have rr2 := keptS rr (p := ⟨g, j, none⟩) (by show w.heap.size + 1 ≠ g; omega) (.int .u8 ((y.toNat ^^^ x.toNat : Nat) : Int))
          have ff2 := keptFS ff ⟨g, j, none⟩ (.int .u8 ((y.toNat ^^^ x.toNat : Nat) : Int))
          have hB2' := (hB.setCell (p := ⟨g, j, none⟩) (by show w.heap.size ≤ g; omega) (.int .u8 ((y.toNat ^^^ x.toNat : Nat) : Int))).drew
          generalize hwm : (wr.setCell ⟨g, j, none⟩ (.int .u8 ((y.toNat ^^^ x.toNat : Nat) : Int))).drew = wm at hown2 hB2' ⊢
          replace bb2 : ∀ i, wm.cell? ⟨gb, i, none⟩ = r5 (.int .i64 W) (.int .i64 H) (.int .i64 C) (.int .i64 D) (.slice (some ⟨g, 0, none⟩) n n) i := by rw [← hwm]; exact bb2
          replace cc2 : ∀ i, wm.cell? ⟨w.heap.size, i, none⟩ = r5 (.int .i64 W) (.int .i64 H) (.int .i64 C) (.int .i64 D) (.slice (some ⟨b, o, none⟩) n c) i := by rw [← hwm]; exact cc2
          replace rr2 : ∀ i, wm.cell? ⟨w.heap.size + 1, i, none⟩ = r5 (.int .i64 0) (.int .i64 0) (.int .i64 0) (.int .i64 0) (.slice none 0 0) i := by rw [← hwm]; exact rr2
          replace ff2 : ∀ i, wm.frozen? ⟨w.heap.size + 1, i, none⟩ = false := by rw [← hwm]; exact ff2
          replace cx : wm.cell? ⟨b, o + j, none⟩ = some (.int .u8 (x.toNat : Int)) := by rw [← hwm]; exact (World.cell?_setCell_other wr ⟨g, j, none⟩ ⟨b, o + j, none⟩ _ (by intro e; injection e with e; omega)).trans cx
          replace cy : wm.cell? ⟨b', o' + j, none⟩ = some (.int .u8 (y.toNat : Int)) := by rw [← hwm]; exact (World.cell?_setCell_other wr ⟨g, j, none⟩ ⟨b', o' + j, none⟩ _ (by intro e; injection e with e; omega)).trans cy
          have HF2 : Hid (n = ((fillTo (applyB 2 bs ds) j).set j (y ^^^ x)).length) := by show _ = _; rw [List.length_set]; exact HF.out
          obtain ⟨d1, _, cd1⟩ := hown2.byte HF2.out hlt
          have fd1 := hown2.frozen HF2.out j
          have Hs2 : Hid (ownB (wm.setCell ⟨g, j, none⟩ (.int .u8 ((y + x).toNat : Int))) w.heap.size (.slice (some ⟨g, 0, none⟩) n n) (fillTo (applyB 2 bs ds) (j + 1))) := by
            show ownB _ _ _ _
            have e : ((y + x).toNat : Int) = ((aop 2 x y).toNat : Int) := by rw [UInt8.add_comm]; rfl
            rw [fillTo_put _ j _ HX.out, ← List.set_set (a := (y ^^^ x)), e]
            exact hown2.store HF2.out j _
          clear hwm cc rr ff bb hB fx cd hown hv HX
          go_still_tail 14, (by kernel_rfl)
          go_wp2
          go_roundw
          case rel => exact ⟨j + 1, by omega, by go_num, by simpa using Hs2.out.drew, keptS bb2 (by show gb ≠ g; exact q3) _, keptS cc2 (by show w.heap.size ≠ g; omega) _, keptS rr2 (by show w.heap.size + 1 ≠ g; omega) _, keptFS ff2 _ _, (hB2'.setCell (by show w.heap.size ≤ g; omega) _).drew⟩
          case measure => simp [intOf]; omega
        · obtain rfl : j = n := by omega
          rw [show fillTo (applyB 2 bs ds) j = applyB 2 bs ds by have := fillTo_end (applyB 2 bs ds); rwa [HL.out] at this] at hown
          go_wp2
          refine bodyPost_ret (v := .tuple #[.agg #[.int .i64 W, .int .i64 H, .int .i64 C, .int .i64 D, .slice (some ⟨g, 0, none⟩) j j], .int .i64 0]) ?_ rfl ?_
          · unfold results
            go_simp
          · exact ⟨_, _, _, rfl, hown.far5 (by intro e; have e2 : g = w.heap.size + 1 := (by injection e); omega) _ _ _ _ _, Below.set5 hB (by omega) _ _ _ _ _⟩

set_option maxHeartbeats 1600000 in
theorem apply9_bad (k : Int) (s : Sh) (n c n' c' : Nat) (A A' : Option Addr) (w : World) (E : Int) (hE : applyE k s n n' = E) (h0 : E ≠ 0) :
    Calls Try.prog 39 #[.int .i64 k, s.r A n c, .slice A' n' c'] w fun e w' =>
      e = .returned (.tuple #[Sh.r ⟨0, 0, 0, 0⟩ none 0 0, .int .i64 E]) ∧ Below w.heap.size w w' := by
  have hB := Below.refl w.heap.size w
  have H1 := Lib.hid (fun w => may9_any s A n c w)
  have hE2 := hE
  unfold applyE at hE2
  by_cases hk : k = 1 ∨ k = 2
  · rw [if_pos hk] at hE2
    generalize hp : s.mayR n = p at H1 hE2
    have hlt : p = false ∨ (p = true ∧ n' < n) ∨ (p = true ∧ ¬ n' < n ∧ n < n') := by
      rcases p with _ | _
      · exact .inl rfl
      · right
        rw [if_pos rfl] at hE2
        by_cases q : n' < n
        · exact .inl ⟨rfl, q⟩
        · rw [if_neg q] at hE2
          by_cases q2 : n < n'
          · exact .inr ⟨rfl, q, q2⟩
          · rw [if_neg q2] at hE2; exact absurd hE2.symm h0
    clear hE hp
    obtain ⟨W, H, C, D⟩ := s
    dsimp only [Sh.r] at H1 ⊢
    have e1 : k = 1 ∨ (k = 2) := hk
    rcases hlt with rfl | ⟨rfl, q⟩ | ⟨rfl, q, q2⟩
    · obtain rfl : E = 4 := by simpa using hE2.symm
      clear hE2
      rcases hk with rfl | rfl
      all_goals
        go_enter Try.func39, Try.ntmps39
        go_wp2_with (go_at_call 53; (with_reducible refine (H1.out _).mono ?_); rintro e w1 ⟨rfl, hb1⟩; have rr := box5 hb1; rw [World.size_alloc] at rr; have ff := boxF hb1; rw [World.size_alloc] at ff; replace hB := bxd (bxd hb1); clear hb1)
        refine bodyPost_ret (v := .tuple #[.agg #[.int .i64 0, .int .i64 0, .int .i64 0, .int .i64 0, .slice none 0 0], .int .i64 4]) ?_ rfl ?_
        · unfold results
          go_simp
        · exact ⟨rfl, Below.set5 hB (by omega) _ _ _ _ _⟩
    · obtain rfl : E = 2 := by rw [if_pos rfl, if_pos q] at hE2; exact hE2.symm
      clear hE2
      rcases hk with rfl | rfl
      all_goals
        go_enter Try.func39, Try.ntmps39
        go_wp2_with (go_at_call 53; (with_reducible refine (H1.out _).mono ?_); rintro e w1 ⟨rfl, hb1⟩; have rr := box5 hb1; rw [World.size_alloc] at rr; have ff := boxF hb1; rw [World.size_alloc] at ff; replace hb1 := bxd hb1; have cc := box5 hb1; replace hB := bxd hb1; clear hb1)
        refine bodyPost_ret (v := .tuple #[.agg #[.int .i64 0, .int .i64 0, .int .i64 0, .int .i64 0, .slice none 0 0], .int .i64 2]) ?_ rfl ?_
        · unfold results
          go_simp
        · exact ⟨rfl, Below.set5 hB (by omega) _ _ _ _ _⟩
    · obtain rfl : E = 3 := by rw [if_pos rfl, if_neg q, if_pos q2] at hE2; exact hE2.symm
      clear hE2
      rcases hk with rfl | rfl
      all_goals
        go_enter Try.func39, Try.ntmps39
        go_wp2_with (go_at_call 53; (with_reducible refine (H1.out _).mono ?_); rintro e w1 ⟨rfl, hb1⟩; have rr := box5 hb1; rw [World.size_alloc] at rr; have ff := boxF hb1; rw [World.size_alloc] at ff; replace hb1 := bxd hb1; have cc := box5 hb1; replace hB := bxd hb1; clear hb1)
        refine bodyPost_ret (v := .tuple #[.agg #[.int .i64 0, .int .i64 0, .int .i64 0, .int .i64 0, .slice none 0 0], .int .i64 3]) ?_ rfl ?_
        · unfold results
          go_simp
        · exact ⟨rfl, Below.set5 hB (by omega) _ _ _ _ _⟩
  · rw [if_neg hk] at hE2
    obtain rfl : E = 1 := hE2.symm
    clear hE hE2 h0 H1
    have d1 : (k != 1) = true := by rw [bne_iff_ne]; omega
    have d2 : (k != 2) = true := by rw [bne_iff_ne]; omega
    clear hk
    obtain ⟨W, H, C, D⟩ := s
    dsimp only [Sh.r]
    go_enter Try.func39, Try.ntmps39
    go_wp2
    refine bodyPost_ret (v := .tuple #[.agg #[.int .i64 0, .int .i64 0, .int .i64 0, .int .i64 0, .slice none 0 0], .int .i64 1]) ?_ rfl ?_
    · unfold results
      go_simp
    · exact ⟨rfl, (hB.alloc (Nat.le_refl _) _).alloc (by simp) _⟩

theorem apply9_any (k : Int) (s : Sh) (B n c B' n' c' : Nat) (A A' : Option Addr) (bs ds : List UInt8) (w : World) (hp : RdB w B A n bs) (hr : RdB w B' A' n' ds)
    (hB1 : B ≤ w.heap.size) (hB2 : B' ≤ w.heap.size) :
    Calls Try.prog 39 #[.int .i64 k, s.r A n c, .slice A' n' c'] w fun e w' =>
      ∃ A1 n1 c1, e = .returned (.tuple #[(applyR k s bs ds).1.r A1 n1 c1, .int .i64 (applyE k s n n')]) ∧ ownB w' w.heap.size (.slice A1 n1 c1) (applyR k s bs ds).2 ∧ Below w.heap.size w w' := by
  have hl := hp.len
  have hl' := hr.len
  by_cases h0 : applyE k s n n' = 0
  · have e : applyR k s bs ds = (s, applyB k bs ds) := by unfold applyR; rw [hl, hl', if_pos h0]
    rw [e, h0]
    unfold applyE at h0
    by_cases hk : k = 1 ∨ k = 2
    · rw [if_pos hk] at h0
      cases hm : s.mayR n with
      | false => rw [hm] at h0; cases h0
      | true =>
        rw [hm, if_pos rfl] at h0
        have hn : n' = n := by split at h0 <;> (try split at h0) <;> omega
        subst hn
        exact apply9_ok k s B _ c B' c' A A' bs ds w hp hr hB1 hB2 hk hm
    · rw [if_neg hk] at h0; cases h0
  · have e : applyR k s bs ds = (⟨0, 0, 0, 0⟩, []) := by unfold applyR; rw [hl, hl', if_neg h0]
    rw [e]
    refine (apply9_bad k s n c n' c' A A' w _ rfl h0).mono ?_
    rintro e w' ⟨rfl, hb⟩
    exact ⟨_, _, _, rfl, ownB.nil_ _ _, hb⟩

end Go.Proofs.Ytcgpeijmmongoaa
