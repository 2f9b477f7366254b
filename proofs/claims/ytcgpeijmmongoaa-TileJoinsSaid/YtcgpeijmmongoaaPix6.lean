/- pix: a picture as bytes; the chapter's example. -/
import Derived.Test.YtcgpeijmmongoaaPix3
import Derived.Test.YtcgpeijmmongoaaBigs
namespace Go.Proofs.Ytcgpeijmmongoaa
set_option linter.all false
open Go.RowKit

/-- A picture's bytes. -/
def Sh.bytes (s : Sh) : List UInt8 := beB s.w.toNat 2 ++ beB s.h.toNat 2 ++ [UInt8.ofNat s.c.toNat, UInt8.ofNat s.d.toNat]
def Sh.enc (s : Sh) (bs : List UInt8) : List UInt8 × Int := if s.mayR bs.length then ([82] ++ s.bytes ++ bs, 0) else ([], 4)
theorem mayR_nums' {s : Sh} {n : Nat} (h : s.mayR n = true) : s.nums = true ∧ (n : Int) ≤ 16384 := by
  unfold Sh.mayR Sh.may at h
  simp at h
  exact ⟨h.1.1, by omega⟩
theorem big2 (n : Int) (h0 : 0 ≤ n) (h1 : n ≤ 65535) : beR n 2 = (beB n.toNat 2, 0) := by
  unfold beR
  rw [if_pos]
  · rfl
  · refine ⟨by omega, by omega, h0, ?_⟩
    show n / 65536 ≤ 0
    omega

set_option maxHeartbeats 1600000 in
theorem encode_any (s : Sh) (B : Nat) (A : Option Addr) (n cc : Nat) (bs : List UInt8) (w : World) (h : RdB w B A n bs) (hBw : B ≤ w.heap.size) :
    Calls Try.prog 44 #[s.r A n cc] w fun e w' => ∃ v, e = .returned (.tuple #[v, .int .i64 (s.enc bs).2]) ∧ ownB w' w.heap.size v (s.enc bs).1 ∧ Below w.heap.size w w' := by
  have hB := Below.refl w.heap.size w
  have hl := h.len
  have HV := Lib.hid (fun w => may_any s A n cc w)
  cases hm : s.mayR n with
  | false =>
    have HM := Lib.hid hm
    have HE := Lib.hid (show s.enc bs = ([], 4) by unfold Sh.enc; rw [hl, hm]; rfl)
    rw [HE.out]
    clear hm hl HE
    obtain ⟨W, H, C, D⟩ := s
    show Calls _ _ #[.agg #[.int .i64 W, .int .i64 H, .int .i64 C, .int .i64 D, .slice A n cc]] w _
    go_enter Try.func44, Try.ntmps44
    go_wp2_with (go_at_call 20; go_must (refine (HV.out _).mono ?_; rintro e w1 ⟨rfl, hb1⟩; rw [HM.out]; replace hB := bxd hb1; clear hb1))
    go_ret2
    exact ⟨_, rfl, ownB.nil_ _ _, hB⟩
  | true =>
    obtain ⟨hn, h16⟩ := mayR_nums' hm
    have hq := (Sh.nums_iff s).1 hn
    have HM := Lib.hid hm
    have HE := Lib.hid (show s.enc bs = ([82] ++ s.bytes ++ bs, 0) by unfold Sh.enc; rw [hl, hm]; rfl)
    obtain ⟨⟨w1, w2⟩, ⟨h1, h2⟩, ⟨q1, q2⟩, hd⟩ := hq
    have HW := Lib.hid (big2 s.w (by omega) (by omega))
    have HH := Lib.hid (big2 s.h (by omega) (by omega))
    rw [HE.out]
    have e1 : s.c % 256 = s.c := by omega
    have e2 : s.d % 256 = s.d := by omega
    have HC := Lib.hid (show IntKind.u8.wrap s.c = ((UInt8.ofNat s.c.toNat).toNat : Int) by rw [UInt8.toNat_ofNat']; simp [IntKind.wrap, IntKind.bits, IntKind.signed]; omega)
    have HD := Lib.hid (show IntKind.u8.wrap s.d = ((UInt8.ofNat s.d.toNat).toNat : Int) by rw [UInt8.toNat_ofNat']; simp [IntKind.wrap, IntKind.bits, IntKind.signed]; omega)
    unfold Sh.bytes
    have lw : Hid ((beB s.w.toNat 2).length = 2) := beB_len _ _
    have lh : Hid ((beB s.h.toNat 2).length = 2) := beB_len _ _
    generalize UInt8.ofNat s.c.toNat = uc at HC ⊢
    generalize UInt8.ofNat s.d.toNat = ud at HD ⊢
    generalize beB s.w.toNat 2 = bw at HW lw ⊢
    generalize beB s.h.toNat 2 = bh at HH lh ⊢
    clear hm hn HE w1 w2 h1 h2 q1 q2 hd
    obtain ⟨W, H, C, D⟩ := s
    dsimp only at e1 e2 HC HD HW HH ⊢
    show Calls _ _ #[.agg #[.int .i64 W, .int .i64 H, .int .i64 C, .int .i64 D, .slice A n cc]] w _
    go_enter Try.func44, Try.ntmps44
    go_wp2_with (first
      | (go_at_call 20; go_must (refine (HV.out _).mono ?_; rintro e w1 ⟨rfl, hb1⟩; rw [HM.out]; obtain ⟨c0, c1, c2, c3, c4⟩ := cells5 (by simp) hb1; replace hB := bxd hb1; have hz : w.heap.size < w1.heap.size := (by have := hb1.size; simp at this; omega); clear hb1))
      | (go_at_call 67; (with_reducible refine (big_any W 2 _).mono ?_); rintro e w2 ⟨v2, rfl, hx, hb2⟩; rw [HW.out] at hx ⊢; dsimp only at hx ⊢; obtain ⟨-, d1, d2, d3⟩ := cells4 (by simp) hb2; have hz2 : w1.heap.size < w2.heap.size := (by have := hb2.size; simp at this; omega); replace hb2 := bxd hb2; replace c4 := bsame hb2 hz c4; replace hB := bstep hB hb2 (Nat.le_refl _); clear hb2; replace hx := hx.mono (base' := w.heap.size) (by simp; omega); obtain ⟨Ax, nx, cx, rfl, _, _, _⟩ := hx.slice; have mx : nx ≤ 2 := (by have h5 := hx.rd.len; have h6 := lw.out; omega); clear c0 c1 c2 c3)
      | (go_at_call 67; (with_reducible refine (big_any H 2 _).mono ?_); rintro e w3 ⟨v3, rfl, hy, hb3⟩; rw [HH.out] at hy ⊢; dsimp only at hy ⊢; replace d2 := bsame hb3 hz2 d2; replace d3 := bsame hb3 hz2 d3; replace c4 := bsame hb3 (Nat.lt_trans hz hz2) c4; replace hB := bstep hB hb3 (Nat.le_refl _); replace hx := hx.later hb3; replace hy := hy.mono (base' := w.heap.size) (by omega); replace hz2 := Nat.lt_of_lt_of_le hz2 hb3.size; clear hb3; obtain ⟨Ay, ny, cy, rfl, _, _, _⟩ := hy.slice; have my : ny ≤ 2 := (by have h5 := hy.rd.len; have h6 := lh.out; omega))
      | (at_builtin; (refine wpList_appendB rfl (.tmp 27) (.tmp 28) rfl w3.heap.size _ [82] rfl (own_lit w3 [82] (by simp)) _ _ _ _ bw rfl (Rd.alloc hx.rd (Nat.le_refl _) _) (by simp; omega) (by simp) ?_); intro v4 w4 h9 hg4 hb4 hat4; have hC := ((Below.refl w3.heap.size w3).alloc (Nat.le_refl _) _).trans hb4; clear hg4 hat4; replace hy := hy.later hC; replace d2 := bsame hC hz2 d2; replace d3 := bsame hC hz2 d3; replace c4 := bsame hC (Nat.lt_trans hz hz2) c4; clear hb4)
      | (at_builtin; (refine wpList_appendB rfl (.tmp 29) (.tmp 30) rfl w3.heap.size v4 _ rfl h9 _ _ _ _ bh rfl hy.rd (by have h6 := lw.out; simp; omega) hC.size ?_); intro v5 w5 h8 hg5 hb5 hat5; replace hC := hC.trans hb5; replace d2 := bsame hb5 hz2 d2; replace d3 := bsame hb5 hz2 d3; replace c4 := bsame hb5 (Nat.lt_trans hz hz2) c4; clear hg5 hb5 hat5 hx hy h9))
    go_region_held3 (fun w' => w'.cell? ⟨w1.heap.size, 2, none⟩ = some (.int .i64 C) ∧ w'.cell? ⟨w1.heap.size, 3, none⟩ = some (.int .i64 D) ∧ w'.cell? ⟨w.heap.size, 4, none⟩ = some (.slice A n cc))
      (first | go_keep | exact ⟨d2, d3, c4⟩)
      (first
        | (refine step_appendB rfl (.tmp 32) (.tmp 39) rfl w3.heap.size _ _ rfl (ownB.alloc (ownB.drew h8) _) _ 2 2 _ [uc, ud] rfl (rd_two _ _ _ _ _ HC.out HD.out) (by have h6 := lw.out; have h7 := lh.out; simp; omega) (by have := hC.size; simp; omega) ?_; intro v6 w6 h7 hg6 hb6 hat6; have hC6 := (hC.drew.alloc hC.size _).trans hb6; replace d2 := bsame hb6 hz2 ((World.cell?_alloc_lt _ _ _ (Nat.lt_of_lt_of_le hz2 hC.size)).trans d2); replace d3 := bsame hb6 hz2 ((World.cell?_alloc_lt _ _ _ (Nat.lt_of_lt_of_le hz2 hC.size)).trans d3); replace c4 := bsame hb6 (Nat.lt_trans hz hz2) ((World.cell?_alloc_lt _ _ _ (Nat.lt_of_lt_of_le (Nat.lt_trans hz hz2) hC.size)).trans c4); clear hg6 hb6 hat6)
        | (refine step_appendB rfl (.tmp 40) (.tmp 42) rfl w3.heap.size v6 _ rfl h7 _ _ _ _ bs rfl (h.blw ((bstep hB hC6 (Nat.le_refl _)).mono hBw)) (by have h6 := lw.out; have h7 := lh.out; simp; omega) hC6.size ?_; intro v7 w7 h77 hg7 hb7 hat7; have hC7 := hC6.trans hb7; replace d2 := bsame hb7 hz2 d2; replace d3 := bsame hb7 hz2 d3; replace c4 := bsame hb7 (Nat.lt_trans hz hz2) c4; clear hg7 hb7 hat7))
    go_wp2
    go_ret2
    exact ⟨_, rfl, by have := h77.mono (base' := w.heap.size) (by have := hB.size; omega); simpa using this, bstep hB hC7 (Nat.le_refl _)⟩

end Go.Proofs.Ytcgpeijmmongoaa
