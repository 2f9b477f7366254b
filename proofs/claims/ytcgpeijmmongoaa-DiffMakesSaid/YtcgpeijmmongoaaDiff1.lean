/- diff: what is wrong with two pictures. -/
import Derived.Test.YtcgpeijmmongoaaBox
namespace Go.Proofs.Ytcgpeijmmongoaa
set_option linter.all false
open Go.RowKit

def wrongR (s t : Sh) (n m : Nat) : Int := if s.mayR n && t.mayR m then (if s = t then 0 else 13) else 4

set_option maxHeartbeats 1600000 in
theorem wrong_any (s t : Sh) (n c n' c' : Nat) (A A' : Option Addr) (w : World) :
    Calls Try.prog 58 #[s.r A n c, t.r A' n' c'] w fun e w' => e = .returned (.int .i64 (wrongR s t n n')) ∧ Below w.heap.size w w' := by
  have hB := Below.refl w.heap.size w
  have H1 := Lib.hid (fun w => may_any s A n c w)
  have H2 := Lib.hid (fun w => may_any t A' n' c' w)
  unfold wrongR
  generalize s.mayR n = p at H1 ⊢
  generalize t.mayR n' = q at H2 ⊢
  obtain ⟨W, H, C, D⟩ := s
  obtain ⟨W', H', C', D'⟩ := t
  show Calls _ _ #[.agg #[.int .i64 W, .int .i64 H, .int .i64 C, .int .i64 D, .slice A n c], .agg #[.int .i64 W', .int .i64 H', .int .i64 C', .int .i64 D', .slice A' n' c']] w _
  dsimp only [Sh.r] at H1 H2
  cases p <;> cases q <;> (
    go_enter Try.func58, Try.ntmps58
    go_wp2_with (first
      | (go_at_call 20; (with_reducible refine (H1.out _).mono ?_); rintro e w1 ⟨rfl, hb1⟩; have dd := box5 hb1; rw [World.size_alloc] at dd; replace hb1 := bxd hb1; have cc := box5 hb1; replace hB := bxd hb1; clear hb1)
      | (go_at_call 20; (with_reducible refine (H2.out _).mono ?_); rintro e w2 ⟨rfl, hb1⟩; replace cc := kept cc rfl hb1; replace dd := kept dd rfl hb1; replace hB := bstep hB hb1 (Nat.le_refl _); clear hb1))
    all_goals (go_ret; exact ⟨rfl, hB⟩))

theorem wrongR_zero {s t : Sh} {n m : Nat} (h : wrongR s t n m = 0) : s.mayR n = true ∧ t.mayR m = true ∧ s = t ∧ n = m ∧ n ≤ 16384 := by
  unfold wrongR at h
  split at h
  · rename_i h1
    simp at h1
    split at h
    · rename_i h2
      subst h2
      obtain ⟨h1, h2⟩ := h1
      unfold Sh.mayR at h1 h2
      unfold Sh.may at h1
      simp at h1 h2
      refine ⟨by unfold Sh.mayR Sh.may; simp [h1], by unfold Sh.mayR Sh.may; simp [h1, h2], rfl, by omega, by omega⟩
    · cases h
  · cases h

/-- A byte of a delta: x the base's, y the picture's. -/
def dop (k : Int) (x y : UInt8) : UInt8 := if k = 1 then y ^^^ x else y - x
def deltaB (k : Int) (bs rs : List UInt8) : List UInt8 := List.zipWith (dop k) bs rs
def makeR (k : Int) (s t : Sh) (bs rs : List UInt8) : List UInt8 × Int :=
  if k = 1 ∨ k = 2 then (if wrongR s t bs.length rs.length = 0 then (deltaB k bs rs, 0) else ([], wrongR s t bs.length rs.length)) else ([], 1)
theorem deltaB_len {k : Int} {bs rs : List UInt8} (h : bs.length = rs.length) : (deltaB k bs rs).length = rs.length := by simp [deltaB]; omega
theorem deltaB_at {k : Int} {bs rs : List UInt8} {i : Nat} {x y : UInt8} (hx : bs[i]? = some x) (hy : rs[i]? = some y) : (deltaB k bs rs)[i]? = some (dop k x y) := by
  simp [deltaB, List.getElem?_zipWith, hx, hy]

set_option maxHeartbeats 3200000 in
theorem make_ok (k : Int) (s t : Sh) (B n c B' n' c' : Nat) (A A' : Option Addr) (bs rs : List UInt8) (w : World) (hp : RdB w B A n bs) (hr : RdB w B' A' n' rs)
    (hB1 : B ≤ w.heap.size) (hB2 : B' ≤ w.heap.size) (hk : k = 1 ∨ k = 2) (h0 : wrongR s t n n' = 0) :
    Calls Try.prog 22 #[.int .i64 k, s.r A n c, t.r A' n' c'] w fun e w' =>
      ∃ v, e = .returned (.tuple #[v, .int .i64 0]) ∧ ownB w' w.heap.size v (deltaB k bs rs) ∧ Below w.heap.size w w' := by
  have hB := Below.refl w.heap.size w
  have H1 := Lib.hid (fun w => wrong_any s t n c n' c' A A' w)
  have HZ := Lib.hid h0
  obtain ⟨-, -, hst, hnn, h16⟩ := wrongR_zero h0
  have hl := hr.len
  have hl' := hp.len
  have HL := Lib.hid (deltaB_len (k := k) (bs := bs) (rs := rs) (by omega))
  have HN := Lib.hid hnn
  have HE := Lib.hid hl
  have HE' := Lib.hid hl'
  clear hst h0 hl' hl
  have h16' : n' ≤ 16384 := by omega
  clear hnn
  obtain ⟨W, H, C, D⟩ := s
  obtain ⟨W', H', C', D'⟩ := t
  dsimp only [Sh.r] at H1
  show Calls _ _ #[.int .i64 k, .agg #[.int .i64 W, .int .i64 H, .int .i64 C, .int .i64 D, .slice A n c], .agg #[.int .i64 W', .int .i64 H', .int .i64 C', .int .i64 D', .slice A' n' c']] w _
  rcases hk with rfl | rfl
  · go_enter Try.func22, Try.ntmps22
    go_wp2_with (first
      | (go_at_call 58; (with_reducible refine (H1.out _).mono ?_); rintro e w1 ⟨rfl, hb1⟩; rw [HZ.out]; have dd := box5 hb1; rw [World.size_alloc] at dd; replace hb1 := bxd hb1; have cc := box5 hb1; replace hB := bxd hb1; clear hb1)
      | (at_make; refine wpList_makeB rfl _ _ rfl n' _ rfl rfl rfl (by omega) ?_; intro w2 hown hb1 hsz; have hg : w.heap.size + 1 < w1.heap.size := ltOf dd rfl; replace cc := kept cc rfl hb1; replace dd := kept dd rfl hb1; replace hB := bstep hB hb1 (Nat.le_refl _); clear hb1))
    generalize hgg : w1.heap.size = g at hown hsz hg
    clear hgg
    replace hown := hown.mono (base' := w.heap.size) (by omega)
    go_loopw [31] (fun i wr => ∃ k : Nat, k ≤ n' ∧ i = .int .i64 k ∧ ownB wr w.heap.size (.slice (some ⟨g, 0, none⟩) n' n') (fillTo (deltaB 1 bs rs) k) ∧ (∀ i, wr.cell? ⟨w.heap.size, i, none⟩ = r5 (.int .i64 W) (.int .i64 H) (.int .i64 C) (.int .i64 D) (.slice A n c) i) ∧ (∀ i, wr.cell? ⟨w.heap.size + 1, i, none⟩ = r5 (.int .i64 W') (.int .i64 H') (.int .i64 C') (.int .i64 D') (.slice A' n' c') i) ∧ Below w.heap.size w wr)
      (fun i _ => n' - (intOf i).toNat)
    case atStart => exact ⟨0, Nat.zero_le _, rfl, by rw [fillTo_zero, HL.out, HE.out]; exact hown, cc, dd, hB⟩
    case round =>
      clear cc dd hB hown hsz
      obtain ⟨k, hk, rfl, hown, cc, dd, hB⟩ := hrel
      by_cases hlt : k < n'
      · obtain ⟨b, o, x, rfl, hbo, hx, cx⟩ := (hp.blw (hB.mono hB1)).byte (k := k) (by rw [HN.out]; exact hlt)
        obtain ⟨b', o', y, rfl, hbo', hy, cy⟩ := (hr.blw (hB.mono hB2)).byte hlt
        have HF : Hid (n' = (fillTo (deltaB 1 bs rs) k).length) := by show _ = _; rw [fillTo_len _ _ (by rw [HL.out, HE.out]; exact hk), HL.out, HE.out]
        obtain ⟨d0, _, cd⟩ := hown.byte HF.out hlt
        have fd := hown.frozen HF.out k
        have Hs : Hid (ownB (wr.setCell ⟨g, k, none⟩ (.int .u8 ((dop 1 x y).toNat : Int))) w.heap.size (.slice (some ⟨g, 0, none⟩) n' n') (fillTo (deltaB 1 bs rs) (k + 1))) := by
          show ownB _ _ _ _
          rw [fillTo_put _ k _ (deltaB_at hx.out hy.out)]
          exact hown.store HF.out k _
        have hlt2 : k < n := by rw [HN.out]; exact hlt
        simp only [dop] at Hs
        clear hx hy
        go_wp2
        go_roundw
        case rel => exact ⟨k + 1, by omega, by go_num, Hs.out, keptS cc (by show w.heap.size ≠ g; omega) _, keptS dd (by show w.heap.size + 1 ≠ g; omega) _, hB.setCell (by show w.heap.size ≤ g; omega) _⟩
        case measure => simp [intOf]; omega
      · have : k = n' := by omega
        subst this
        rw [show fillTo (deltaB 1 bs rs) k = deltaB 1 bs rs by have := fillTo_end (deltaB 1 bs rs); rwa [HL.out, HE.out] at this] at hown
        go_wp2
        go_ret2
        exact ⟨_, rfl, hown, hB⟩
  · go_enter Try.func22, Try.ntmps22
    go_wp2_with (first
      | (go_at_call 58; (with_reducible refine (H1.out _).mono ?_); rintro e w1 ⟨rfl, hb1⟩; rw [HZ.out]; have dd := box5 hb1; rw [World.size_alloc] at dd; replace hb1 := bxd hb1; have cc := box5 hb1; replace hB := bxd hb1; clear hb1)
      | (at_make; refine wpList_makeB rfl _ _ rfl n' _ rfl rfl rfl (by omega) ?_; intro w2 hown hb1 hsz; have hg : w.heap.size + 1 < w1.heap.size := ltOf dd rfl; replace cc := kept cc rfl hb1; replace dd := kept dd rfl hb1; replace hB := bstep hB hb1 (Nat.le_refl _); clear hb1))
    generalize hgg : w1.heap.size = g at hown hsz hg
    clear hgg
    replace hown := hown.mono (base' := w.heap.size) (by omega)
    go_loopw [31] (fun i wr => ∃ k : Nat, k ≤ n' ∧ i = .int .i64 k ∧ ownB wr w.heap.size (.slice (some ⟨g, 0, none⟩) n' n') (fillTo (deltaB 2 bs rs) k) ∧ (∀ i, wr.cell? ⟨w.heap.size, i, none⟩ = r5 (.int .i64 W) (.int .i64 H) (.int .i64 C) (.int .i64 D) (.slice A n c) i) ∧ (∀ i, wr.cell? ⟨w.heap.size + 1, i, none⟩ = r5 (.int .i64 W') (.int .i64 H') (.int .i64 C') (.int .i64 D') (.slice A' n' c') i) ∧ Below w.heap.size w wr)
      (fun i _ => n' - (intOf i).toNat)
    case atStart => exact ⟨0, Nat.zero_le _, rfl, by rw [fillTo_zero, HL.out, HE.out]; exact hown, cc, dd, hB⟩
    case round =>
      clear cc dd hB hown hsz
      obtain ⟨k, hk, rfl, hown, cc, dd, hB⟩ := hrel
      by_cases hlt : k < n'
      · obtain ⟨b, o, x, rfl, hbo, hx, cx⟩ := (hp.blw (hB.mono hB1)).byte (k := k) (by rw [HN.out]; exact hlt)
        obtain ⟨b', o', y, rfl, hbo', hy, cy⟩ := (hr.blw (hB.mono hB2)).byte hlt
        have HF : Hid (n' = (fillTo (deltaB 2 bs rs) k).length) := by show _ = _; rw [fillTo_len _ _ (by rw [HL.out, HE.out]; exact hk), HL.out, HE.out]
        obtain ⟨d0, _, cd⟩ := hown.byte HF.out hlt
        have fd := hown.frozen HF.out k
        have Hs : Hid (ownB (wr.setCell ⟨g, k, none⟩ (.int .u8 ((dop 2 x y).toNat : Int))) w.heap.size (.slice (some ⟨g, 0, none⟩) n' n') (fillTo (deltaB 2 bs rs) (k + 1))) := by
          show ownB _ _ _ _
          rw [fillTo_put _ k _ (deltaB_at hx.out hy.out)]
          exact hown.store HF.out k _
        have hlt2 : k < n := by rw [HN.out]; exact hlt
        simp only [dop] at Hs
        clear hx hy
        go_wp2
        go_roundw
        case rel => exact ⟨k + 1, by omega, by go_num, Hs.out, keptS cc (by show w.heap.size ≠ g; omega) _, keptS dd (by show w.heap.size + 1 ≠ g; omega) _, hB.setCell (by show w.heap.size ≤ g; omega) _⟩
        case measure => simp [intOf]; omega
      · have : k = n' := by omega
        subst this
        rw [show fillTo (deltaB 2 bs rs) k = deltaB 2 bs rs by have := fillTo_end (deltaB 2 bs rs); rwa [HL.out, HE.out] at this] at hown
        go_wp2
        go_ret2
        exact ⟨_, rfl, hown, hB⟩

end Go.Proofs.Ytcgpeijmmongoaa
