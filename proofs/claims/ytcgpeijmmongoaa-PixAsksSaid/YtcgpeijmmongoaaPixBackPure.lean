/- pix: a picture's bytes are read back. -/
import Derived.Test.YtcgpeijmmongoaaDec2
import Derived.Test.YtcgpeijmmongoaaPix4
namespace Go.Proofs.Ytcgpeijmmongoaa
set_option linter.all false
open Go.RowKit

theorem bytes_sh7 {s : Sh} (h : s.nums = true) : ∃ a b c d e f, s.bytes = [a, b, c, d, e, f] ∧ sh7 a b c d e f = s := by
  obtain ⟨⟨w1, w2⟩, ⟨h1, h2⟩, ⟨q1, q2⟩, hd⟩ := (Sh.nums_iff s).1 h
  obtain ⟨W, H, C, D⟩ := s
  dsimp only at w1 w2 h1 h2 q1 q2 hd
  refine ⟨UInt8.ofNat (W.toNat / 256), UInt8.ofNat W.toNat, UInt8.ofNat (H.toNat / 256), UInt8.ofNat H.toNat, UInt8.ofNat C.toNat, UInt8.ofNat D.toNat, ?_, ?_⟩
  · unfold Sh.bytes
    dsimp only
    rw [beB2, beB2]
    rfl
  · unfold sh7
    simp only [UInt8.toNat_ofNat', Sh.mk.injEq]
    omega
theorem sh7_bytes (a b c d e f : UInt8) : (sh7 a b c d e f).bytes = [a, b, c, d, e, f] := by
  unfold Sh.bytes sh7
  dsimp only
  rw [Int.toNat_natCast, Int.toNat_natCast, Int.toNat_natCast, Int.toNat_natCast, beB2, beB2]
  have ha := a.toNat_lt
  have hb := b.toNat_lt
  have hc := c.toNat_lt
  have hd := d.toNat_lt
  have e1 : UInt8.ofNat ((a.toNat * 256 + b.toNat) / 256) = a := by rw [show (a.toNat * 256 + b.toNat) / 256 = a.toNat by omega]; exact UInt8.ofNat_toNat
  have e2 : UInt8.ofNat (a.toNat * 256 + b.toNat) = b := by apply UInt8.toNat_inj.1; rw [UInt8.toNat_ofNat']; omega
  have e3 : UInt8.ofNat ((c.toNat * 256 + d.toNat) / 256) = c := by rw [show (c.toNat * 256 + d.toNat) / 256 = c.toNat by omega]; exact UInt8.ofNat_toNat
  have e4 : UInt8.ofNat (c.toNat * 256 + d.toNat) = d := by apply UInt8.toNat_inj.1; rw [UInt8.toNat_ofNat']; omega
  rw [e1, e2, e3, e4, UInt8.ofNat_toNat, UInt8.ofNat_toNat]
  rfl

theorem decE_cons (b c d e f g : UInt8) (t : List UInt8) (h : (sh7 b c d e f g).may = true) :
    decE (82 :: b :: c :: d :: e :: f :: g :: t) = (if (t.length : Int) < (sh7 b c d e f g).size then 2 else if (sh7 b c d e f g).size < t.length then 3 else 0) := by
  show (if (82 : UInt8) = 82 ∧ (sh7 b c d e f g).may = true then _ else _) = _
  rw [if_pos ⟨rfl, h⟩]
theorem mayR_parts {s : Sh} {n : Nat} (h : s.mayR n = true) : s.may = true ∧ (n : Int) = s.size := by
  unfold Sh.mayR at h
  simpa using h
theorem mayR_pos2 {s : Sh} {n : Nat} (h : s.mayR n = true) : 1 ≤ n ∧ n ≤ 16384 := by
  have hn := Sh.mayR_nums h
  have hz := Sh.mayR_size h
  have hb := Sh.bounds s hn
  have := Sh.size_ok hn
  omega
theorem enc_dec {s : Sh} {bs : List UInt8} (h : s.mayR bs.length = true) :
    ∃ X, s.enc bs = (X, 0) ∧ X.length = bs.length + 7 ∧ decE X = 0 ∧ decS X = (s, bs) ∧ decE (X ++ [0]) = 3 ∧ decE (X.take (bs.length + 6)) = 2 := by
  obtain ⟨hm, hz⟩ := mayR_parts h
  obtain ⟨hp, -⟩ := mayR_pos2 h
  have hn : s.nums = true := by unfold Sh.may at hm; simp at hm; exact hm.1
  obtain ⟨a, b, c, d, e, f, h1, h2⟩ := bytes_sh7 hn
  have hX : s.enc bs = (82 :: a :: b :: c :: d :: e :: f :: bs, 0) := by unfold Sh.enc; rw [h, h1]; rfl
  rw [← h2] at hm hz
  have e1 : decE (82 :: a :: b :: c :: d :: e :: f :: bs) = 0 := by rw [decE_cons _ _ _ _ _ _ _ hm, if_neg (by omega), if_neg (by omega)]
  refine ⟨_, hX, by simp, e1, ?_, ?_, ?_⟩
  · unfold decS
    rw [e1, if_pos rfl, ← h2]
  · show decE (82 :: a :: b :: c :: d :: e :: f :: (bs ++ [0])) = 3
    rw [decE_cons _ _ _ _ _ _ _ hm, if_neg (by simp; omega), if_pos (by simp; omega)]
  · have e2 : (82 :: a :: b :: c :: d :: e :: f :: bs).take (bs.length + 6) = 82 :: a :: b :: c :: d :: e :: f :: bs.take (bs.length - 1) := by
      obtain ⟨m, hm2⟩ : ∃ m, bs.length = m + 1 := ⟨bs.length - 1, by omega⟩
      rw [hm2, show m + 1 + 6 = m + 7 by omega, Nat.add_sub_cancel]
      rfl
    rw [e2, decE_cons _ _ _ _ _ _ _ hm, if_pos (by simp; omega)]
theorem dec_enc {ds : List UInt8} (h : decE ds = 0) : (decS ds).1.enc (decS ds).2 = (ds, 0) := by
  have h7 : 7 ≤ ds.length := by
    rcases Nat.lt_or_ge ds.length 7 with h' | h'
    · rw [decE_short h'] at h; cases h
    · exact h'
  obtain ⟨a0, a1, a2, a3, a4, a5, a6, t, rfl⟩ := long7 h7
  have hS : decS (a0 :: a1 :: a2 :: a3 :: a4 :: a5 :: a6 :: t) = (sh7 a1 a2 a3 a4 a5 a6, t) := by unfold decS; rw [h, if_pos rfl]
  rw [hS]
  have hE : decE (a0 :: a1 :: a2 :: a3 :: a4 :: a5 :: a6 :: t) = if a0 = 82 ∧ (sh7 a1 a2 a3 a4 a5 a6).may = true then (if (t.length : Int) < (sh7 a1 a2 a3 a4 a5 a6).size then 2 else if (sh7 a1 a2 a3 a4 a5 a6).size < t.length then 3 else 0) else 4 := rfl
  rw [hE] at h
  split at h
  · rename_i h1
    obtain ⟨rfl, hm⟩ := h1
    split at h
    · cases h
    · split at h
      · cases h
      · have hz : ((t.length : Nat) : Int) = (sh7 a1 a2 a3 a4 a5 a6).size := by omega
        unfold Sh.enc
        have : (sh7 a1 a2 a3 a4 a5 a6).mayR t.length = true := by unfold Sh.mayR; simp [hm, hz]
        rw [this, if_pos rfl]
        dsimp only
        rw [sh7_bytes]
        rfl
  · cases h
theorem decS_err {ds : List UInt8} (h : decE ds ≠ 0) : decS ds = (⟨0, 0, 0, 0⟩, []) := by unfold decS; rw [if_neg h]

set_option maxHeartbeats 1600000 in
theorem samP_any (s t : Sh) (B n c B' n' c' : Nat) (A A' : Option Addr) (xs ys : List UInt8) (w : World) (h : RdB w B A n xs) (h' : RdB w B' A' n' ys) (hB1 : B ≤ w.heap.size) (hB2 : B' ≤ w.heap.size) :
    Calls Try.prog 48 #[s.r A n c, t.r A' n' c'] w fun e w' => e = .returned (.bool (decide (s = t) && (xs == ys))) ∧ Below w.heap.size w w' := by
  have hB := Below.refl w.heap.size w
  have hB0 := (hB.alloc (Nat.le_refl _) (.cells #[.int .i64 s.w, .int .i64 s.h, .int .i64 s.c, .int .i64 s.d, .slice A n c] 33)).alloc (by simp) (.cells #[.int .i64 t.w, .int .i64 t.h, .int .i64 t.c, .int .i64 t.d, .slice A' n' c'] 33)
  have HQ := Lib.hid (equalB_any _ _ c _ _ c' _ _ xs ys _ (h.blw (hB0.mono hB1)) (h'.blw (hB0.mono hB2)))
  generalize (xs == ys) = q at HQ ⊢
  obtain ⟨W, H, C, D⟩ := s
  obtain ⟨W', H', C', D'⟩ := t
  dsimp only at HQ hB0
  show Calls _ _ #[.agg #[.int .i64 W, .int .i64 H, .int .i64 C, .int .i64 D, .slice A n c], .agg #[.int .i64 W', .int .i64 H', .int .i64 C', .int .i64 D', .slice A' n' c']] w _
  clear h h'
  by_cases hs : W = W' ∧ H = H' ∧ C = C' ∧ D = D'
  · obtain ⟨rfl, rfl, rfl, rfl⟩ := hs
    go_enter Try.func48, Try.ntmps48
    go_wp2_with (go_at_call 66; (with_reducible refine HQ.out.mono ?_); rintro e w2 ⟨rfl, rfl⟩)
    all_goals
      go_ret
      exact ⟨ret_bool (by simp), hB0⟩
  · have hd : decide ((⟨W, H, C, D⟩ : Sh) = ⟨W', H', C', D'⟩) = false := by simpa [Sh.mk.injEq] using hs
    rw [hd]
    go_enter Try.func48, Try.ntmps48
    go_wp2_with (go_at_call 66; (with_reducible refine HQ.out.mono ?_); rintro e w2 ⟨rfl, rfl⟩)
    all_goals first
      | (exfalso; omega)
      | (go_ret; exact ⟨rfl, (hB.alloc (Nat.le_refl _) _).alloc (by simp) _⟩)
      | (exfalso; exact hs ⟨by assumption, by assumption, by assumption, by assumption⟩)

end Go.Proofs.Ytcgpeijmmongoaa
