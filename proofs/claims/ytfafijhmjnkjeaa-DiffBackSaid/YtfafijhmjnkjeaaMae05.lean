/- XMaPixBackPure XMaDBackP XMaPix5 XMaPixFirst -/
import Derived.Test.YtfafijhmjnkjeaaMae04
import Derived.Test.YtfafijhmjnkjeaaMae03
import Derived.Test.YtfafijhmjnkjeaaMa31
namespace Go.Proofs.Ytfafijhmjnkjeaa
set_option linter.all false
open Go.RowKit

theorem bytes_sh7 {s : Sh} (h : s.nums = true) : ∃ a b c d e f, s.bytes = [a, b, c, d, e, f] ∧ sh7 a b c d e f = s := by
  obtain ⟨⟨w1, w2⟩, ⟨h1, h2⟩, ⟨q1, q2⟩, hd⟩ := (Sh.nums_iff s).1 h
  obtain ⟨W, H, C, D⟩ := s
  dsimp only at w1 w2 h1 h2 q1 q2 hd
  refine ⟨UInt8.ofNat (W.toNat / 256), UInt8.ofNat W.toNat, UInt8.ofNat (H.toNat / 256), UInt8.ofNat H.toNat, UInt8.ofNat C.toNat, UInt8.ofNat D.toNat, ?_, ?_⟩
  · unfold Sh.bytes
    dsimp only
    rw [beB2, beB2]
    rfl
  · unfold sh7
    simp only [UInt8.toNat_ofNat', Sh.mk.injEq]
    omega
theorem sh7_bytes (a b c d e f : UInt8) : (sh7 a b c d e f).bytes = [a, b, c, d, e, f] := by
  unfold Sh.bytes sh7
  dsimp only
  rw [Int.toNat_natCast, Int.toNat_natCast, Int.toNat_natCast, Int.toNat_natCast, beB2, beB2]
  have ha := a.toNat_lt
  have hb := b.toNat_lt
  have hc := c.toNat_lt
  have hd := d.toNat_lt
  have e1 : UInt8.ofNat ((a.toNat * 256 + b.toNat) / 256) = a := by rw [show (a.toNat * 256 + b.toNat) / 256 = a.toNat by omega]; exact UInt8.ofNat_toNat
  have e2 : UInt8.ofNat (a.toNat * 256 + b.toNat) = b := by apply UInt8.toNat_inj.1; rw [UInt8.toNat_ofNat']; omega
  have e3 : UInt8.ofNat ((c.toNat * 256 + d.toNat) / 256) = c := by rw [show (c.toNat * 256 + d.toNat) / 256 = c.toNat by omega]; exact UInt8.ofNat_toNat
  have e4 : UInt8.ofNat (c.toNat * 256 + d.toNat) = d := by apply UInt8.toNat_inj.1; rw [UInt8.toNat_ofNat']; omega
  rw [e1, e2, e3, e4, UInt8.ofNat_toNat, UInt8.ofNat_toNat]
  rfl

theorem decE_cons (b c d e f g : UInt8) (t : List UInt8) (h : (sh7 b c d e f g).may = true) :
    decE (82 :: b :: c :: d :: e :: f :: g :: t) = (if (t.length : Int) < (sh7 b c d e f g).size then 2 else if (sh7 b c d e f g).size < t.length then 3 else 0) := by
  show (if (82 : UInt8) = 82 ∧ (sh7 b c d e f g).may = true then _ else _) = _
  rw [if_pos ⟨rfl, h⟩]
theorem mayR_parts {s : Sh} {n : Nat} (h : s.mayR n = true) : s.may = true ∧ (n : Int) = s.size := by
  unfold Sh.mayR at h
  simpa using h
theorem mayR_pos2 {s : Sh} {n : Nat} (h : s.mayR n = true) : 1 ≤ n ∧ n ≤ 16384 := by
  have hn := Sh.mayR_nums h
  have hz := Sh.mayR_size h
  have hb := Sh.bounds s hn
  have := Sh.size_ok hn
  omega
theorem enc_dec {s : Sh} {bs : List UInt8} (h : s.mayR bs.length = true) :
    ∃ X, s.enc bs = (X, 0) ∧ X.length = bs.length + 7 ∧ decE X = 0 ∧ decS X = (s, bs) ∧ decE (X ++ [0]) = 3 ∧ decE (X.take (bs.length + 6)) = 2 := by
  obtain ⟨hm, hz⟩ := mayR_parts h
  obtain ⟨hp, -⟩ := mayR_pos2 h
  have hn : s.nums = true := by unfold Sh.may at hm; simp at hm; exact hm.1
  obtain ⟨a, b, c, d, e, f, h1, h2⟩ := bytes_sh7 hn
  have hX : s.enc bs = (82 :: a :: b :: c :: d :: e :: f :: bs, 0) := by unfold Sh.enc; rw [h, h1]; rfl
  rw [← h2] at hm hz
  have e1 : decE (82 :: a :: b :: c :: d :: e :: f :: bs) = 0 := by rw [decE_cons _ _ _ _ _ _ _ hm, if_neg (by omega), if_neg (by omega)]
  refine ⟨_, hX, by simp, e1, ?_, ?_, ?_⟩
  · unfold decS
    rw [e1, if_pos rfl, ← h2]
  · show decE (82 :: a :: b :: c :: d :: e :: f :: (bs ++ [0])) = 3
    rw [decE_cons _ _ _ _ _ _ _ hm, if_neg (by simp; omega), if_pos (by simp; omega)]
  · have e2 : (82 :: a :: b :: c :: d :: e :: f :: bs).take (bs.length + 6) = 82 :: a :: b :: c :: d :: e :: f :: bs.take (bs.length - 1) := by
      obtain ⟨m, hm2⟩ : ∃ m, bs.length = m + 1 := ⟨bs.length - 1, by omega⟩
      rw [hm2, show m + 1 + 6 = m + 7 by omega, Nat.add_sub_cancel]
      rfl
    rw [e2, decE_cons _ _ _ _ _ _ _ hm, if_pos (by simp; omega)]
theorem dec_enc {ds : List UInt8} (h : decE ds = 0) : (decS ds).1.enc (decS ds).2 = (ds, 0) := by
  have h7 : 7 ≤ ds.length := by
    rcases Nat.lt_or_ge ds.length 7 with h' | h'
    · rw [decE_short h'] at h; cases h
    · exact h'
  obtain ⟨a0, a1, a2, a3, a4, a5, a6, t, rfl⟩ := long7 h7
  have hS : decS (a0 :: a1 :: a2 :: a3 :: a4 :: a5 :: a6 :: t) = (sh7 a1 a2 a3 a4 a5 a6, t) := by unfold decS; rw [h, if_pos rfl]
  rw [hS]
  have hE : decE (a0 :: a1 :: a2 :: a3 :: a4 :: a5 :: a6 :: t) = if a0 = 82 ∧ (sh7 a1 a2 a3 a4 a5 a6).may = true then (if (t.length : Int) < (sh7 a1 a2 a3 a4 a5 a6).size then 2 else if (sh7 a1 a2 a3 a4 a5 a6).size < t.length then 3 else 0) else 4 := rfl
  rw [hE] at h
  split at h
  · rename_i h1
    obtain ⟨rfl, hm⟩ := h1
    split at h
    · cases h
    · split at h
      · cases h
      · have hz : ((t.length : Nat) : Int) = (sh7 a1 a2 a3 a4 a5 a6).size := by omega
        unfold Sh.enc
        have : (sh7 a1 a2 a3 a4 a5 a6).mayR t.length = true := by unfold Sh.mayR; simp [hm, hz]
        rw [this, if_pos rfl]
        dsimp only
        rw [sh7_bytes]
        rfl
  · cases h
theorem decS_err {ds : List UInt8} (h : decE ds ≠ 0) : decS ds = (⟨0, 0, 0, 0⟩, []) := by unfold decS; rw [if_neg h]

end Go.Proofs.Ytfafijhmjnkjeaa

/- DiffBack: the plain law, and contracts turned to it. -/
namespace Go.Proofs.Ytfafijhmjnkjeaa
set_option linter.all false
open Go.RowKit

theorem aop_dop {k : Int} (hk : k = 1 ∨ k = 2) (x y : UInt8) : aop k x (dop k x y) = y := by
  rcases hk with rfl | rfl
  · show x ^^^ (y ^^^ x) = y
    rw [UInt8.xor_comm y x, ← UInt8.xor_assoc, UInt8.xor_self, UInt8.zero_xor]
  · show x + (y - x) = y
    apply UInt8.toNat_inj.1
    rw [UInt8.toNat_add, UInt8.toNat_sub]
    have := x.toNat_lt
    have := y.toNat_lt
    omega
theorem dop_self {k : Int} (hk : k = 1 ∨ k = 2) (x : UInt8) : dop k x x = 0 := by
  rcases hk with rfl | rfl
  · exact UInt8.xor_self
  · exact UInt8.sub_self x
theorem apply_delta {k : Int} (hk : k = 1 ∨ k = 2) : ∀ {bs rs : List UInt8}, bs.length = rs.length → applyB k bs (deltaB k bs rs) = rs
  | [], [], _ => rfl
  | x :: bs, y :: rs, h => by
    show aop k x (dop k x y) :: applyB k bs (deltaB k bs rs) = y :: rs
    rw [aop_dop hk, apply_delta hk (by simpa using h)]
theorem delta_self {k : Int} (hk : k = 1 ∨ k = 2) : ∀ bs : List UInt8, deltaB k bs bs = List.replicate bs.length 0
  | [] => rfl
  | x :: bs => by
    show dop k x x :: deltaB k bs bs = _
    rw [dop_self hk, delta_self hk bs]
    rfl
theorem diffs_zero {p : Nat} {bs rs : List UInt8} : ∀ k, diffs p bs rs k = 0 → rs.take (k * p) = bs.take (k * p)
  | 0, _ => by simp
  | k + 1, h => by
    unfold diffs at h
    split at h
    · rename_i he
      have e := eq_of_beq he
      rw [Nat.succ_mul, List.take_add, List.take_add, diffs_zero k (by omega), e]
    · omega
theorem diffs_self (p : Nat) (bs : List UInt8) : ∀ k, diffs p bs bs k = 0
  | 0 => rfl
  | k + 1 => by unfold diffs; rw [diffs_self p bs k, if_pos (by simp)]
/-- How many pixels differ: none just where the bytes are the same. -/
theorem changed_back {s : Sh} {n : Nat} {bs rs : List UInt8} (hm : s.mayR n = true) (h1 : bs.length = n) (h2 : rs.length = n) :
    ∃ d : Nat, changedR s s bs rs = ((d : Int), 0) ∧ (((d : Int) == 0) = (bs == rs)) ∧ (d : Int) ≤ s.w * s.h ∧ 0 ≤ s.w * s.h ∧ s.w * s.h ≤ 65536 := by
  have hz : wrongR s s bs.length rs.length = 0 := by unfold wrongR; rw [h1, h2, hm]; simp
  obtain ⟨hn, -⟩ := Sh.pix_n hm
  obtain ⟨⟨a1, a2⟩, ⟨a3, a4⟩, -⟩ := (Sh.nums_iff s).1 (Sh.mayR_nums hm)
  have b1 : 1 * 1 ≤ s.w * s.h := Int.mul_le_mul a1 a3 (by omega) (by omega)
  have b2 : s.w * s.h ≤ 256 * 256 := Int.mul_le_mul a2 a4 (by omega) (by omega)
  have hle := diffs_le s.bpp bs rs (s.w * s.h).toNat
  refine ⟨diffs s.bpp bs rs (s.w * s.h).toNat, by unfold changedR; rw [if_pos hz], ?_, by omega, by omega, by omega⟩
  by_cases e : bs = rs
  · rw [e, diffs_self]
    simp
  · have h0 : ¬ diffs s.bpp bs rs (s.w * s.h).toNat = 0 := fun h => e (by
      have := diffs_zero _ h
      rw [← hn, List.take_of_length_le (by omega), List.take_of_length_le (by omega)] at this
      exact this.symm)
    rw [show (bs == rs) = false from beq_eq_false_iff_ne.2 e]
    exact beq_eq_false_iff_ne.2 (by omega)
theorem wholeK_any (B n c : Nat) (A : Option Addr) (b l : List UInt8) (w : World) (h : RdB w B A n l) (hB : B ≤ w.heap.size) (hc : n ≤ c) (hk : PK b l) (hb : b.length ≤ 40000) :
    Calls Try.prog 14 #[.slice A n c, .int .i64 40000] w fun e w' => ∃ A1 c1, e = .returned (.tuple #[.slice A1 b.length c1, .int .i64 0]) ∧ RdB w' w'.heap.size A1 b.length b ∧ b.length ≤ c1 ∧ Below w.heap.size w w' := by
  have h1 := hk.len
  have h2 := h.len
  refine (whole_any B n c A l 40000 w h hB hc (by omega)).mono ?_
  rintro e w' ⟨v, rfl, ho, hb'⟩
  rw [hk.back hb] at ho ⊢
  obtain ⟨A1, c1, rfl, r1, hc1, _⟩ := ho.form
  exact ⟨A1, c1, rfl, r1, hc1, hb'⟩
theorem applyD_any (k : Int) (hk : k = 1 ∨ k = 2) (s : Sh) (B n c B' c' : Nat) (A A' : Option Addr) (bs rs : List UInt8) (w : World) (hp : RdB w B A n bs) (hr : RdB w B' A' n (deltaB k bs rs))
    (hB1 : B ≤ w.heap.size) (hB2 : B' ≤ w.heap.size) (hm : s.mayR n = true) (hl : rs.length = n) :
    Calls Try.prog 22 #[.int .i64 k, s.r A n c, .slice A' n c'] w fun e w' =>
      ∃ A1 c1, e = .returned (.tuple #[s.r A1 n c1, .int .i64 0]) ∧ RdB w' w'.heap.size A1 n rs ∧ Below w.heap.size w w' := by
  have hz : applyE k s n n = 0 := by unfold applyE; rw [if_pos hk, if_pos hm, if_neg (Nat.lt_irrefl _), if_neg (Nat.lt_irrefl _)]
  have hq : applyR k s bs (deltaB k bs rs) = (s, rs) := by
    unfold applyR
    rw [hp.len, hr.len, if_pos hz, apply_delta hk (by rw [hp.len, hl])]
  refine (apply_any k s B n c B' n c' A A' bs (deltaB k bs rs) w hp hr hB1 hB2).mono ?_
  rintro e w' ⟨A1, n1, c1, rfl, ho, hb⟩
  rw [hq] at ho ⊢
  rw [hz]
  obtain ⟨A2, c2, e2, r2, -, -⟩ := ho.form
  injection e2 with e3 e4 e5
  subst e3 e5
  have e6 : n1 = n := by rw [e4]; exact hl
  subst e6
  rw [e4.symm] at r2
  exact ⟨_, _, rfl, r2, hb⟩
theorem pick_back {bs rs l1 l2 : List UInt8} (h1 : PK (deltaB 1 bs rs) l1) (h2 : PK (deltaB 2 bs rs) l2) : ((pickK l1 l2).1 = 1 ∨ (pickK l1 l2).1 = 2) ∧ PK (deltaB (pickK l1 l2).1 bs rs) (pickK l1 l2).2 := by
  unfold pickK
  split
  · exact ⟨.inr rfl, h2⟩
  · exact ⟨.inl rfl, h1⟩

end Go.Proofs.Ytfafijhmjnkjeaa

/- pix: a channel's number. -/
namespace Go.Proofs.Ytfafijhmjnkjeaa
set_option linter.all false
open Go.RowKit

def Sh.at_ (s : Sh) (bs : List UInt8) (x y c : Int) : Int × Int :=
  if (s.place bs.length x y c).2 = 0 then (beV ((bs.drop (s.place bs.length x y c).1.toNat).take (s.d / 8).toNat), 0) else (0, (s.place bs.length x y c).2)

theorem Sh.place_ok {s : Sh} {n : Nat} {x y c : Int} (h : (s.place n x y c).2 = 0) : s.mayR n = true ∧ s.nums = true ∧ 0 ≤ (s.place n x y c).1 ∧ (s.place n x y c).1 + s.d / 8 ≤ n ∧ (n : Int) ≤ 16384 ∧ (s.d = 8 ∨ s.d = 16) := by
  cases hm : s.mayR n with
  | false => unfold Sh.place at h; rw [hm] at h; simp at h
  | true =>
    cases hi : s.inB x y c with
    | false => unfold Sh.place at h; rw [hm, hi] at h; simp at h
    | true =>
      have hn := Sh.mayR_nums hm
      have hz := Sh.mayR_size hm
      obtain ⟨⟨p1, p2⟩, ⟨p3, p4⟩, ⟨p5, p6⟩, p7⟩ := Sh.place_bounds hn hi
      have e : s.place n x y c = (y * s.row + (x * s.c + c) * s.d / 8, 0) := by unfold Sh.place; rw [hm, hi]; rfl
      rw [e]
      exact ⟨rfl, hn, by show 0 ≤ y * s.row + (x * s.c + c) * s.d / 8; omega, by show y * s.row + (x * s.c + c) * s.d / 8 + s.d / 8 ≤ _; omega, by omega, ((Sh.nums_iff s).1 hn).2.2.2⟩

end Go.Proofs.Ytfafijhmjnkjeaa

/- The chapter's example; pictures that are small. -/
namespace Go.Proofs.Ytfafijhmjnkjeaa
set_option linter.all false
open Go.RowKit

theorem first_enc : Sh.enc ⟨1, 1, 1, 8⟩ [7] = ([82, 0, 1, 0, 1, 1, 8, 7], 0) := by decide +kernel

end Go.Proofs.Ytfafijhmjnkjeaa

