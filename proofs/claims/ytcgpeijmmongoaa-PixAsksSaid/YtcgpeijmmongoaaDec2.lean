/- pix: a picture's bytes, by the reference. -/
import Derived.Test.YtcgpeijmmongoaaDec1
namespace Go.Proofs.Ytcgpeijmmongoaa
set_option linter.all false
open Go.RowKit

theorem beB2 (n : Nat) : beB n 2 = [UInt8.ofNat (n / 256), UInt8.ofNat n] := by
  unfold beB leB
  rw [show List.range 2 = [0, 1] from rfl]
  simp
theorem u8_of (n : Nat) : ((UInt8.ofNat n).toNat : Int) = (n : Int) % 256 := by rw [UInt8.toNat_ofNat']; omega
theorem cb_bytes {W H C D : Int} (hn : (⟨W, H, C, D⟩ : Sh).nums = true) : (cb (⟨W, H, C, D⟩ : Sh).bytes).toArray = #[.int .u8 (W / 256), .int .u8 (W % 256), .int .u8 (H / 256), .int .u8 (H % 256), .int .u8 C, .int .u8 D] ∧ (⟨W, H, C, D⟩ : Sh).bytes.length = 6 := by
  obtain ⟨⟨w1, w2⟩, ⟨h1, h2⟩, ⟨q1, q2⟩, hd⟩ := (Sh.nums_iff _).1 hn
  dsimp only at w1 w2 h1 h2 q1 q2 hd
  unfold Sh.bytes
  dsimp only
  rw [beB2, beB2]
  constructor
  · simp only [cb, List.cons_append, List.nil_append, List.map_cons, List.map_nil, u8_of]
    have e1 : ((W.toNat / 256 : Nat) : Int) % 256 = W / 256 := by omega
    have e2 : ((W.toNat : Nat) : Int) % 256 = W % 256 := by omega
    have e3 : ((H.toNat / 256 : Nat) : Int) % 256 = H / 256 := by omega
    have e4 : ((H.toNat : Nat) : Int) % 256 = H % 256 := by omega
    have e5 : ((C.toNat : Nat) : Int) % 256 = C := by omega
    have e6 : ((D.toNat : Nat) : Int) % 256 = D := by omega
    rw [e1, e2, e3, e4, e5, e6]
  · rfl

set_option maxHeartbeats 1600000 in
theorem shapeBytes9_any (s : Sh) (w : World) (hn : s.nums = true) :
    Calls Try.prog 68 #[s.v] w fun e w' => ∃ v, e = .returned v ∧ ownB w' w.heap.size v s.bytes ∧ Below w.heap.size w w' := by
  have hB := Below.refl w.heap.size w
  obtain ⟨⟨w1, w2⟩, ⟨h1, h2⟩, ⟨q1, q2⟩, hd⟩ := (Sh.nums_iff s).1 hn
  obtain ⟨W, H, C, D⟩ := s
  obtain ⟨e1, e2⟩ := cb_bytes hn
  have h := own_lit (w.alloc (.cells #[.int .i64 W, .int .i64 H, .int .i64 C, .int .i64 D] 23)) (⟨W, H, C, D⟩ : Sh).bytes (by omega)
  rw [e1, e2, World.size_alloc] at h
  have HH := Lib.hid h
  clear h e1 e2
  dsimp only at w1 w2 h1 h2 q1 q2 hd
  show Calls _ _ #[.agg #[.int .i64 W, .int .i64 H, .int .i64 C, .int .i64 D]] w _
  go_enter Try.func68, Try.ntmps68
  go_wp2
  go_ret
  exact ⟨_, rfl, HH.out.mono (Nat.le_succ _), (hB.alloc (Nat.le_refl _) _).alloc (by simp) _⟩

set_option maxHeartbeats 3200000 in
theorem encode9_any (s : Sh) (B : Nat) (A : Option Addr) (n cc : Nat) (bs : List UInt8) (w : World) (h : RdB w B A n bs) (hBw : B ≤ w.heap.size) :
    Calls Try.prog 45 #[s.r A n cc] w fun e w' => ∃ v, e = .returned (.tuple #[v, .int .i64 (s.enc bs).2]) ∧ ownB w' w.heap.size v (s.enc bs).1 ∧ Below w.heap.size w w' := by
  have hB := Below.refl w.heap.size w
  have hl := h.len
  have HV := Lib.hid (fun w => may9_any s A n cc w)
  cases hm : s.mayR n with
  | false =>
    have HM := Lib.hid hm
    have HE := Lib.hid (show s.enc bs = ([], 4) by unfold Sh.enc; rw [hl, hm]; rfl)
    rw [HE.out]
    clear hm hl HE
    obtain ⟨W, H, C, D⟩ := s
    show Calls _ _ #[.agg #[.int .i64 W, .int .i64 H, .int .i64 C, .int .i64 D, .slice A n cc]] w _
    go_enter Try.func45, Try.ntmps45
    go_wp2_with (go_at_call 53; go_must (refine (HV.out _).mono ?_; rintro e w1 ⟨rfl, hb1⟩; rw [HM.out]; replace hB := bxd hb1; clear hb1))
    go_ret2
    exact ⟨_, rfl, ownB.nil_ _ _, hB⟩
  | true =>
    obtain ⟨hn, h16⟩ := mayR_nums' hm
    have HM := Lib.hid hm
    have HE := Lib.hid (show s.enc bs = ([82] ++ s.bytes ++ bs, 0) by unfold Sh.enc; rw [hl, hm]; rfl)
    rw [HE.out]
    have HW := Lib.hid (fun w => shapeBytes9_any s w hn)
    have LB : Hid (s.bytes.length = 6) := by obtain ⟨W, H, C, D⟩ := s; exact (cb_bytes hn).2
    generalize s.bytes = sb at HW LB ⊢
    clear hm hn HE hl
    obtain ⟨W, H, C, D⟩ := s
    dsimp only [Sh.r, Sh.v] at HV HW
    show Calls _ _ #[.agg #[.int .i64 W, .int .i64 H, .int .i64 C, .int .i64 D, .slice A n cc]] w _
    go_enter Try.func45, Try.ntmps45
    go_wp2_with (go_at_call 53; (with_reducible refine (HV.out _).mono ?_); rintro e w1 ⟨rfl, hb1⟩; rw [HM.out]; have ss := box5 hb1; replace hB := bxd hb1; clear hb1)
    have hs1 : w.heap.size + 1 ≤ w1.heap.size := ltOf ss rfl
    go_region_held3 (fun w' => ∀ i, w'.cell? ⟨w.heap.size, i, none⟩ = r5 (.int .i64 W) (.int .i64 H) (.int .i64 C) (.int .i64 D) (.slice A n cc) i)
      (first | exact ss | exact keptA ss rfl _ | go_keep)
      (first
        | (go_at_call 68; (with_reducible refine (HW.out _).mono ?_); rintro e w2 ⟨v2, rfl, hx, hb2⟩; obtain ⟨Ax, nx, cx, rfl, rx, _, _⟩ := hx.slice; clear hx; (first | (have h8 : ownB w2 (w.heap.size + 1) (.slice (some ⟨w1.heap.size, 0, none⟩) 1 1) [82] := (laterD (own_lit w1 [82] (by simp)) hb2).mono hs1; replace ss := keptD (keptA ss rfl _) rfl hb2; replace hB := bstep (hB.alloc hB.size _).drew hb2 (Nat.le_refl _)) | (have h8 := (own_lit w2 [82] (by simp)).mono (Nat.le_trans hs1 (show w1.heap.size ≤ w2.heap.size from hb2.size)); replace ss := keptD ss rfl hb2; replace hB := bstep hB.drew hb2 (Nat.le_refl _))); clear hb2)
        | (first
          | (refine step_appendB rfl (.tmp 7) (.tmp 10) rfl (w.heap.size + 1) _ [82] rfl h8 _ _ _ _ sb rfl rx (by have h5 := rx.len; have h6 := LB.out; simp; omega) (ltOf ss rfl) ?_; intro v4 w4 h9 hg4 hb4 hat4; replace ss := keptBl ss hb4 (Nat.lt_succ_self _); replace hB := hB.trans (hb4.mono (Nat.le_succ _)); clear hg4 hb4 hat4 rx h8)
          | (refine step_appendB rfl (.tmp 7) (.tmp 10) rfl (w.heap.size + 1) _ [82] rfl h8 _ _ _ _ sb rfl (RdB.alloc rx (Nat.le_refl _) _) (by have h5 := rx.len; have h6 := LB.out; simp; omega) (ltOf (keptA ss rfl _) rfl) ?_; intro v4 w4 h9 hg4 hb4 hat4; replace ss := keptBl (keptA ss rfl _) hb4 (Nat.lt_succ_self _); replace hB := (hB.alloc hB.size _).trans (hb4.mono (Nat.le_succ _)); clear hg4 hb4 hat4 rx h8))
        | (refine step_appendB rfl (.tmp 11) (.tmp 13) rfl (w.heap.size + 1) v4 _ rfl h9 _ _ _ _ bs rfl (h.blw (hB.mono hBw)) (by have h6 := LB.out; simp; omega) (ltOf ss rfl) ?_; intro v5 w5 h10 hg5 hb5 hat5; replace ss := keptBl ss hb5 (Nat.lt_succ_self _); replace hB := hB.trans (hb5.mono (Nat.le_succ _)); clear hg5 hb5 hat5 h9))
    all_goals
      go_wp2
      go_ret2
      exact ⟨_, rfl, by have := h10.mono (base' := w.heap.size) (Nat.le_succ _); simpa using this, hB⟩

end Go.Proofs.Ytcgpeijmmongoaa
