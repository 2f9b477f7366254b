/- Merged: Unp, Unp2, Unp3. -/
import Derived.Test.YtfafijhmjnkjeaaMa40
import Derived.Test.YtfafijhmjnkjeaaMa31
import Derived.Test.YtfafijhmjnkjeaaMa37
/- zlib: a frame read, plainly. -/
namespace Go.Proofs.Ytfafijhmjnkjeaa
set_option linter.all false

/-- May two bytes not begin a frame? -/
def hdBad (n : Nat) : Prop := ¬ n / 256 % 16 = 8 ∨ 7 < n / 4096 ∨ ¬ n % 31 = 0 ∨ ¬ n / 32 % 2 = 0
instance (n : Nat) : Decidable (hdBad n) := by unfold hdBad; infer_instance
def hdV (bs : List UInt8) : Nat := beV (bs.take 2)
def sumV (bs : List UInt8) (u : Nat) : Nat := beV ((bs.drop (2 + u)).take 4)
def unpkP (bs : List UInt8) (most : Int) : List UInt8 × Nat × Int :=
  if bs.length < 2 then ([], 0, 2) else if hdBad (hdV bs) then ([], 0, 4) else
  if (inflP (bs.drop 2) most).2.2 = 0 then
    (if bs.length < 2 + (inflP (bs.drop 2) most).2.1 + 4 then ([], 0, 2) else if sumV bs (inflP (bs.drop 2) most).2.1 = adler (inflP (bs.drop 2) most).1 then ((inflP (bs.drop 2) most).1, 2 + (inflP (bs.drop 2) most).2.1 + 4, 0) else ([], 0, 5))
  else ([], 0, (inflP (bs.drop 2) most).2.2)
def wholP (bs : List UInt8) (most : Int) : List UInt8 × Int :=
  if (unpkP bs most).2.2 = 0 then (if (unpkP bs most).2.1 < bs.length then ([], 3) else ((unpkP bs most).1, 0)) else ([], (unpkP bs most).2.2)
theorem beV_two {bs : List UInt8} (h : 2 ≤ bs.length) : hdV bs < 65536 := by
  have := beV_lt bs 2 h
  exact this
theorem sumV_lt {bs : List UInt8} {u : Nat} (h : 2 + u + 4 ≤ bs.length) : sumV bs u < 4294967296 := by
  have := beV_lt (bs.drop (2 + u)) 4 (by rw [List.length_drop]; omega)
  exact this
theorem beV_app : ∀ (l : List UInt8) (x : UInt8), beV (l ++ [x]) = beV l * 256 + x.toNat := fun l x => by
  unfold beV
  rw [List.foldl_append]
  rfl
/-- The sum's bytes are read back. -/
theorem beV_beB {x : Nat} (h : x < 4294967296) : beV (beB x 4) = x := by
  have e : beB x 4 = [UInt8.ofNat (x / 16777216), UInt8.ofNat (x / 65536), UInt8.ofNat (x / 256), UInt8.ofNat x] := by
    unfold beB leB
    simp [List.range, List.range.loop]
  rw [e]
  have key : ∀ y, (UInt8.ofNat y).toNat = y % 256 := fun y => by simp
  show (((0 * 256 + (UInt8.ofNat (x / 16777216)).toNat) * 256 + (UInt8.ofNat (x / 65536)).toNat) * 256 + (UInt8.ofNat (x / 256)).toNat) * 256 + (UInt8.ofNat x).toNat = x
  rw [key, key, key, key]
  omega
theorem packL_len (bz S : List UInt8) : (packL bz S).length = 2 + bz.length + S.length := by
  unfold packL
  rw [List.length_append, List.length_append]
  rfl
theorem packL_hd (bz S more : List UInt8) : hdV (packL bz S ++ more) = 30876 := rfl
theorem packL_drop (bz S more : List UInt8) : (packL bz S ++ more).drop 2 = bz ++ (S ++ more) := by
  unfold packL
  rw [List.append_assoc, List.append_assoc]
  rfl
theorem packL_sum {bz S more : List UInt8} {x : Nat} (hx : x < 4294967296) (hS : S = beB x 4) : sumV (packL bz S ++ more) bz.length = x := by
  unfold sumV
  have e : (packL bz S ++ more).drop (2 + bz.length) = S ++ more := by
    unfold packL
    rw [List.append_assoc]
    have : ([120, 156] ++ bz : List UInt8).length = 2 + bz.length := by rw [List.length_append]; rfl
    rw [← this, List.drop_left']
    rfl
  rw [e, List.take_left' (by rw [hS, beB_len]), hS, beV_beB hx]
theorem big4b {x : Nat} {S : List UInt8} (h : x < 4294967296) (hS : beR (x : Int) 4 = (S, 0)) : S = beB x 4 := by
  have hk : numOk (x : Int) 4 := ⟨by omega, by omega, by omega, by show (x : Int) / 2 ^ (8 * 4) ≤ 0; omega⟩
  unfold beR at hS
  rw [if_pos hk] at hS
  injection hS with hS _
  exact hS.symm
/-- What is packed comes out; more behind it changes nothing. -/
theorem unpk_back {b bz S more : List UInt8} {most : Int} (hb : b.length ≤ 40000) (hw : WB bz (deflB b (findP b))) (hS : S = beB (adler b) 4) (hi : inflP (bz ++ (S ++ more)) most = (b, bz.length, 0)) : unpkP (packL bz S ++ more) most = (b, (packL bz S).length, 0) := by
  have hl : (packL bz S ++ more).length = 2 + bz.length + 4 + more.length := by rw [List.length_append, packL_len, hS, beB_len]
  unfold unpkP
  rw [if_neg (by omega), packL_hd, if_neg (by decide), packL_drop, hi]
  show (if (0 : Int) = 0 then (if (packL bz S ++ more).length < 2 + bz.length + 4 then _ else if sumV (packL bz S ++ more) bz.length = adler b then _ else _) else _) = _
  rw [if_pos rfl, if_neg (by omega), packL_sum (adler_lt b) hS, if_pos rfl, packL_len, hS, beB_len]
theorem infl_more {bz b more : List UInt8} {most : Int} (hb : b.length ≤ 40000) (hm : (b.length : Int) ≤ most) (hm2 : most ≤ 40000) (hw : WB bz (deflB b (findP b))) : inflP (bz ++ more) most = (b, bz.length, 0) := by
  have h1 := z_back (most := (b.length : Int)) hb (Int.le_refl _) hw
  have h2 := infS_ext (more := more) (most' := most) hm (by rw [h1])
  have h3 : (infS (bz ++ more) most).e = 0 := by rw [h2, h1]
  rw [inflP_ok (by omega) hm2 h3, h2, h1, hw.1]
theorem whol_back {b bz S : List UInt8} {most : Int} (hb : b.length ≤ 40000) (hm : (b.length : Int) ≤ most) (hm2 : most ≤ 40000) (hw : WB bz (deflB b (findP b))) (hS : S = beB (adler b) 4) : wholP (packL bz S) most = (b, 0) := by
  have h1 := unpk_back (more := []) hb hw hS (infl_more (more := S ++ []) hb hm hm2 hw)
  rw [List.append_nil] at h1
  unfold wholP
  rw [h1]
  show (if (0 : Int) = 0 then (if (packL bz S).length < (packL bz S).length then _ else _) else _) = _
  rw [if_pos rfl, if_neg (Nat.lt_irrefl _)]
theorem whol_more {b bz S more : List UInt8} {most : Int} (hne : more ≠ []) (hb : b.length ≤ 40000) (hm : (b.length : Int) ≤ most) (hm2 : most ≤ 40000) (hw : WB bz (deflB b (findP b))) (hS : S = beB (adler b) 4) : wholP (packL bz S ++ more) most = ([], 3) := by
  have h1 := unpk_back (more := more) hb hw hS (infl_more (more := S ++ more) hb hm hm2 hw)
  have h2 : 0 < more.length := List.length_pos_iff.2 hne
  unfold wholP
  rw [h1]
  show (if (0 : Int) = 0 then (if (packL bz S).length < (packL bz S ++ more).length then _ else _) else _) = _
  rw [if_pos rfl, if_pos (by rw [List.length_append]; omega)]
/-- A bit of the first two bytes, or of the sum, turned. -/
theorem hd_turn0 : ∀ j, j < 8 → hdBad ((120 ^^^ 2 ^ j) * 256 + 156) := by decide
theorem hd_turn1 : ∀ j, j < 8 → hdBad (120 * 256 + (156 ^^^ 2 ^ j)) := by decide
theorem xor_ne (x k : Nat) : x ^^^ 2 ^ k ≠ x := by
  intro h
  have h2 := congrArg (fun y => x ^^^ y) h
  simp only [Nat.xor_self, ← Nat.xor_assoc, Nat.zero_xor] at h2
  have := Nat.two_pow_pos k
  omega
theorem beV_four (a b c d : UInt8) : beV [a, b, c, d] = ((a.toNat * 256 + b.toNat) * 256 + c.toNat) * 256 + d.toNat := by
  show (((0 * 256 + a.toNat) * 256 + b.toNat) * 256 + c.toNat) * 256 + d.toNat = _
  rw [Nat.zero_mul, Nat.zero_add]
theorem beV_set {S : List UInt8} (h4 : S.length = 4) {i : Nat} (hi : i < 4) {y : UInt8} (hy : y.toNat ≠ (S.getD i 0).toNat) : beV (S.set i y) ≠ beV S := by
  match S, h4 with
  | [a, b, c, d], _ =>
    have h1 := a.toNat_lt
    have h2 := b.toNat_lt
    have h3 := c.toNat_lt
    have h4 := d.toNat_lt
    have h5 := y.toNat_lt
    rcases (show i = 0 ∨ i = 1 ∨ i = 2 ∨ i = 3 by omega) with rfl | rfl | rfl | rfl
    · have hy' : y.toNat ≠ a.toNat := hy
      show beV [y, b, c, d] ≠ _
      rw [beV_four, beV_four]; omega
    · have hy' : y.toNat ≠ b.toNat := hy
      show beV [a, y, c, d] ≠ _
      rw [beV_four, beV_four]; omega
    · have hy' : y.toNat ≠ c.toNat := hy
      show beV [a, b, y, d] ≠ _
      rw [beV_four, beV_four]; omega
    · have hy' : y.toNat ≠ d.toNat := hy
      show beV [a, b, c, y] ≠ _
      rw [beV_four, beV_four]; omega
theorem whol_bad {bs : List UInt8} {most : Int} (h : ¬ (unpkP bs most).2.2 = 0) : ¬ (wholP bs most).2 = 0 := by
  unfold wholP
  rw [if_neg h]
  exact h
theorem unpk_hd {bs : List UInt8} {most : Int} (h2 : 2 ≤ bs.length) (h : hdBad (hdV bs)) : ¬ (unpkP bs most).2.2 = 0 := by
  unfold unpkP
  rw [if_neg (by omega), if_pos h]
  exact (show ¬ (4 : Int) = 0 by decide)
theorem turn_bad {b bz S : List UInt8} {most : Int} (hb : b.length ≤ 40000) (hm : (b.length : Int) ≤ most) (hm2 : most ≤ 40000) (hw : WB bz (deflB b (findP b))) (hS : S = beB (adler b) 4) {at_ j p : Nat} (hat : at_ < 6) (hj : j < 8)
    (hp : p = if at_ < 2 then at_ else (packL bz S).length - 6 + at_) {y : UInt8} (hy : y.toNat = ((packL bz S).getD p 0).toNat ^^^ 2 ^ j) : ¬ (wholP ((packL bz S).set p y) most).2 = 0 := by
  have hl : (packL bz S).length = 2 + bz.length + 4 := by rw [packL_len, hS, beB_len]
  apply whol_bad
  by_cases h0 : at_ < 2
  · rw [if_pos h0] at hp
    have e : packL bz S = 120 :: 156 :: (bz ++ S) := rfl
    rcases (show at_ = 0 ∨ at_ = 1 by omega) with rfl | rfl
    · subst hp
      refine unpk_hd (by rw [List.length_set]; omega) ?_
      rw [e] at hy ⊢
      have hy2 : y.toNat = 120 ^^^ 2 ^ j := hy
      show hdBad ((0 * 256 + y.toNat) * 256 + 156)
      rw [hy2, Nat.zero_mul, Nat.zero_add]
      exact hd_turn0 j hj
    · subst hp
      refine unpk_hd (by rw [List.length_set]; omega) ?_
      rw [e] at hy ⊢
      have hy2 : y.toNat = 156 ^^^ 2 ^ j := hy
      show hdBad ((0 * 256 + 120) * 256 + y.toNat)
      rw [hy2, Nat.zero_mul, Nat.zero_add]
      exact hd_turn1 j hj
  · rw [if_neg h0] at hp
    obtain ⟨i, hi, rfl⟩ : ∃ i, i < 4 ∧ at_ = i + 2 := ⟨at_ - 2, by omega, by omega⟩
    have hp2 : p = ([120, 156] ++ bz : List UInt8).length + i := by rw [List.length_append]; show p = 2 + bz.length + i; omega
    have e : (packL bz S).set p y = packL bz (S.set i y) := by
      unfold packL
      rw [hp2, List.set_append_right _ _ (Nat.le_add_right _ _), Nat.add_sub_cancel_left]
    have hg : (packL bz S).getD p 0 = S.getD i 0 := by
      unfold packL
      rw [hp2, List.getD_eq_getElem?_getD, List.getElem?_append_right (Nat.le_add_right _ _), Nat.add_sub_cancel_left, ← List.getD_eq_getElem?_getD]
    have hS4 : S.length = 4 := by rw [hS, beB_len]
    have hne : beV (S.set i y) ≠ beV S := beV_set hS4 hi (by rw [hy, hg]; exact xor_ne _ _)
    rw [e]
    generalize hS' : S.set i y = S' at *
    have hS4' : S'.length = 4 := by rw [← hS', List.length_set]; exact hS4
    have hl' : (packL bz S').length = 2 + bz.length + 4 := by rw [packL_len, hS4']
    have h1 := infl_more (more := S' ++ []) hb hm hm2 hw
    unfold unpkP
    have hd0 : hdV (packL bz S') = 30876 := by have := packL_hd bz S' []; rwa [List.append_nil] at this
    have hdr : (packL bz S').drop 2 = bz ++ (S' ++ []) := by have := packL_drop bz S' []; rwa [List.append_nil] at this
    rw [if_neg (by omega), hd0, if_neg (by decide), hdr, h1]
    have hsm : sumV (packL bz S') bz.length ≠ adler b := by
      have e1 : sumV (packL bz S') bz.length = beV S' := by
        unfold sumV packL
        have : ([120, 156] ++ bz : List UInt8).length = 2 + bz.length := by rw [List.length_append]; rfl
        rw [← this, List.drop_left', List.take_of_length_le (by omega)]
        rfl
      rw [e1]
      intro hh
      apply hne
      rw [hh, hS, beV_beB (adler_lt b)]
    show ¬ (if (0 : Int) = 0 then (if (packL bz S').length < 2 + bz.length + 4 then _ else if sumV (packL bz S') bz.length = adler b then _ else _) else _ : List UInt8 × Nat × Int).2.2 = 0
    rw [if_pos rfl, if_neg (by omega), if_neg hsm]
    exact (show ¬ (5 : Int) = 0 by decide)
end Go.Proofs.Ytfafijhmjnkjeaa

/- zlib: Unpack and Whole, whatever comes. -/
namespace Go.Proofs.Ytfafijhmjnkjeaa
set_option linter.all false
open Go.RowKit

theorem and32 (N : Nat) : N &&& 32 = N / 32 % 2 * 32 := by
  refine Nat.eq_of_testBit_eq fun i => ?_
  rw [Nat.testBit_and, show (32 : Nat) = 2 ^ 5 from rfl, Nat.testBit_two_pow]
  by_cases h5 : 5 = i
  · subst h5
    rw [Nat.testBit_eq_decide_div_mod_eq]
    rcases Nat.mod_two_eq_zero_or_one (N / 2 ^ 5) with h | h
    · rw [h]; simp
    · rw [h]; decide
  · rcases Nat.mod_two_eq_zero_or_one (N / 2 ^ 5) with h | h
    · rw [h]; simp [h5]
    · rw [h, Nat.one_mul, Nat.testBit_two_pow]
      simp [h5]
set_option maxRecDepth 100000 in
set_option maxHeartbeats 6400000 in
theorem unpack_any (B n c : Nat) (A : Option Addr) (bs : List UInt8) (most : Int) (w : World) (h : RdB w B A n bs) (hB : B ≤ w.heap.size) (hc : n ≤ c) (hn : n ≤ 1000000) :
    Calls Try.prog 15 #[.slice A n c, .int .i64 most] w fun e w' => ∃ v, e = .returned (.tuple #[v, .int .i64 ((unpkP bs most).2.1 : Int), .int .i64 (unpkP bs most).2.2]) ∧ ownB w' w.heap.size v (unpkP bs most).1 ∧ Below w.heap.size w w' := by
  have hl := h.len
  have HR := Lib.hid h
  have HRB := Lib.hid (readBig_any B n c A bs 0 2 w h hc (by omega))
  by_cases h2 : bs.length < 2
  · have hP : unpkP bs most = ([], 0, 2) := if_pos h2
    rw [hP]
    have hr : rdR beV bs 0 2 = (0, 2) := by unfold rdR; rw [if_neg (by omega), if_pos (by omega)]
    rw [hr] at HRB
    clear h hP hr
    go_enter Try.func15, Try.ntmps15
    go_wp2_with (go_at_call 41; (with_reducible refine HRB.out.mono ?_); go_must (rintro e w1 ⟨rfl, rfl⟩))
    go_ret3
    exact ⟨_, rfl, ownB.nil_ _ _, Below.refl _ _⟩
  · have hr : rdR beV bs 0 2 = ((hdV bs : Int), 0) := by
      unfold rdR
      rw [if_neg (by omega), if_neg (by omega)]
      rfl
    rw [hr] at HRB
    have hv := beV_two (bs := bs) (by omega)
    have hP : unpkP bs most = if hdBad (hdV bs) then ([], 0, 4) else
      if (inflP (bs.drop 2) most).2.2 = 0 then
        (if bs.length < 2 + (inflP (bs.drop 2) most).2.1 + 4 then ([], 0, 2) else if sumV bs (inflP (bs.drop 2) most).2.1 = adler (inflP (bs.drop 2) most).1 then ((inflP (bs.drop 2) most).1, 2 + (inflP (bs.drop 2) most).2.1 + 4, 0) else ([], 0, 5))
      else ([], 0, (inflP (bs.drop 2) most).2.2) := if_neg h2
    rw [hP]
    have hbd : hdBad (hdV bs) ↔ (¬ hdV bs / 256 % 16 = 8 ∨ 7 < hdV bs / 4096 ∨ ¬ hdV bs % 31 = 0 ∨ ¬ hdV bs / 32 % 2 = 0) := Iff.rfl
    clear hP hr
    generalize hdV bs = N at *
    have q1 : (N : Int) / 256 = ((N / 256 : Nat) : Int) := by omega
    have q2 : (N : Int) / 4096 = ((N / 4096 : Nat) : Int) := by omega
    have q3 : (N : Int).tmod 31 = ((N % 31 : Nat) : Int) := rfl
    have q3b : (N : Int) % 31 = ((N % 31 : Nat) : Int) := by omega
    have q4 : bits .and .i64 ((N / 256 : Nat) : Int) 15 = ((N / 256 % 16 : Nat) : Int) := by
      have := i64_and_nat (N / 256) 15 (by omega) (by omega)
      rw [show (15 : Nat) = 2 ^ 4 - 1 from rfl, Nat.and_two_pow_sub_one_eq_mod] at this
      exact this
    have q5 : bits .and .i64 (N : Int) 32 = ((N / 32 % 2 * 32 : Nat) : Int) := by
      have := i64_and_nat N 32 (by omega) (by omega)
      rw [and32 N] at this
      exact this
    obtain ⟨n1, hn1⟩ : ∃ x, N / 256 = x := ⟨_, rfl⟩
    obtain ⟨n2, hn2⟩ : ∃ x, N / 256 % 16 = x := ⟨_, rfl⟩
    obtain ⟨n3, hn3⟩ : ∃ x, N / 4096 = x := ⟨_, rfl⟩
    obtain ⟨n4, hn4⟩ : ∃ x, N % 31 = x := ⟨_, rfl⟩
    obtain ⟨n5, hn5⟩ : ∃ x, N / 32 % 2 * 32 = x := ⟨_, rfl⟩
    have hbd2 : hdBad N ↔ (¬ n2 = 8 ∨ 7 < n3 ∨ ¬ n4 = 0 ∨ ¬ n5 = 0) := by rw [hbd]; omega
    rw [hn1] at q1
    rw [hn2, hn1] at q4
    rw [hn3] at q2
    rw [hn4] at q3 q3b
    rw [hn5] at q5
    have w3 : IntKind.i64.wrap (n4 : Int) = (n4 : Int) := wrap_i64_lt n4 (by omega)
    clear hbd hn1 hn2 hn3 hn4 hn5 h
    by_cases hbad : hdBad N
    · rw [if_pos hbad]
      have hb := hbd2.1 hbad
      clear hbd2 hbad
      have key : (((n2 : Int) != 8) = true) ∨ (((n2 : Int) != 8) = false ∧ (7 : Int) < (n3 : Int)) ∨ (((n2 : Int) != 8) = false ∧ ¬ (7 : Int) < (n3 : Int) ∧ ((n4 : Int) != 0) = true) ∨ (((n2 : Int) != 8) = false ∧ ¬ (7 : Int) < (n3 : Int) ∧ ((n4 : Int) != 0) = false ∧ ((n5 : Int) != 0) = true) := by
        rw [bne_iff_ne, bne_iff_ne, bne_iff_ne, bne_eq_false_iff_eq, bne_eq_false_iff_eq]
        omega
      clear hb
      rcases key with k1 | ⟨k1, k2⟩ | ⟨k1, k2, k3⟩ | ⟨k1, k2, k3, k4⟩ <;>
        · go_enter Try.func15, Try.ntmps15
          go_wp2_with (go_at_call 41; (with_reducible refine HRB.out.mono ?_); go_must (rintro e w1 ⟨rfl, rfl⟩))
          go_ret3
          exact ⟨_, rfl, ownB.nil_ _ _, Below.refl _ _⟩
    · rw [if_neg hbad]
      obtain ⟨k1, k2, k3, k4⟩ : ((n2 : Int) != 8) = false ∧ ¬ (7 : Int) < (n3 : Int) ∧ ((n4 : Int) != 0) = false ∧ ((n5 : Int) != 0) = false := by
        rw [bne_eq_false_iff_eq, bne_eq_false_iff_eq, bne_eq_false_iff_eq]
        have := mt hbd2.2 hbad
        omega
      clear hbd2 hbad
      obtain ⟨b, o, rfl, -, -⟩ := HR.out.at_ (show 0 < n by omega)
      have h2n : (2 : Int) ≤ (n : Int) := by omega
      have hrd2 : RdB w B (some ⟨b, o + 2, none⟩) (n - 2) (bs.drop 2) := by
        have h1 := RdB.cut HR.out (k := 2) (m := n - 2) (by omega) (A' := some ⟨b, o + 2, none⟩) (fun _ => by simp [Addr.add])
        rwa [List.take_of_length_le (by rw [List.length_drop]; omega)] at h1
      have HI := Lib.hid (inflate_all B (n - 2) (c - 2) (some ⟨b, o + 2, none⟩) (bs.drop 2) most w hrd2 hB (by omega))
      have HI0 : Hid (n = 2 → Calls Try.prog 9 #[.slice (some ⟨b, o, none⟩) 0 0, .int .i64 most] w fun e w' => ∃ v, e = .returned (.tuple #[v, .int .i64 ((inflP (bs.drop 2) most).2.1 : Int), .int .i64 (inflP (bs.drop 2) most).2.2]) ∧ ownB w' w.heap.size v (inflP (bs.drop 2) most).1 ∧ Below w.heap.size w w') := (show _ → _ from fun hn2 => by
        have e : bs.drop 2 = [] := List.drop_eq_nil_of_le (by omega)
        rw [e]
        exact inflate_all B 0 0 (some ⟨b, o, none⟩) [] most w rdB_nil0 hB (by omega))
      have HIR : Hid ((inflP (bs.drop 2) most).2.2 = 0 → (inflP (bs.drop 2) most).2.1 + 2 ≤ n ∧ (inflP (bs.drop 2) most).1.length ≤ 40000) := (show _ → _ from fun h => by
        have h1 := inflP_rng h
        have h3 := inflP_zero h
        rw [List.length_drop] at h1
        omega)
      have HRB2 := Lib.hid (fun (k : Int) w1 (h : RdB w1 B (some ⟨b, o, none⟩) n bs) => readBig_any B n c (some ⟨b, o, none⟩) bs k 4 w1 h hc (by omega))
      obtain ⟨⟨xs, u, E⟩, hI⟩ : ∃ I, inflP (bs.drop 2) most = I := ⟨_, rfl⟩
      rw [hI] at HI HI0 HIR ⊢
      replace HIR : Hid (E = 0 → u + 2 ≤ n ∧ xs.length ≤ 40000) := HIR
      have hcn : (2 : Int) ≤ (c : Int) := by omega
      have hc2 : 2 ≤ c := by omega
      clear hI hrd2
      show Calls _ _ _ _ (fun e w' => ∃ v, e = .returned (.tuple #[v, .int .i64 (((if E = 0 then (if bs.length < 2 + u + 4 then ([], 0, 2) else if sumV bs u = adler xs then (xs, 2 + u + 4, 0) else ([], 0, 5)) else ([], 0, E)) : List UInt8 × Nat × Int).2.1 : Int), .int .i64 ((if E = 0 then (if bs.length < 2 + u + 4 then ([], 0, 2) else if sumV bs u = adler xs then (xs, 2 + u + 4, 0) else ([], 0, 5)) else ([], 0, E)) : List UInt8 × Nat × Int).2.2]) ∧ ownB w' w.heap.size v ((if E = 0 then (if bs.length < 2 + u + 4 then ([], 0, 2) else if sumV bs u = adler xs then (xs, 2 + u + 4, 0) else ([], 0, 5)) else ([], 0, E)) : List UInt8 × Nat × Int).1 ∧ Below w.heap.size w w')
      by_cases hE : E = 0
      · rw [if_pos hE]
        have dE : (E != 0) = false := by rw [hE]; rfl
        obtain ⟨hu, hxl⟩ := HIR.out hE
        have hk : (2 : Int) + (u : Int) = ((2 + u : Nat) : Int) := by omega
        obtain ⟨K, hK⟩ : ∃ K, 2 + u = K := ⟨_, rfl⟩
        rw [hK] at hk
        have hr0 : ∀ h : bs.length < K + 4, rdR beV bs (K : Int) 4 = (0, 2) := fun h => by unfold rdR; rw [if_neg (by omega), if_pos (by omega)]
        have hr1 : ∀ h : ¬ bs.length < K + 4, rdR beV bs (K : Int) 4 = ((sumV bs u : Int), 0) := fun h => by
          unfold rdR sumV
          rw [if_neg (by omega), if_neg (by omega), Int.toNat_natCast, hK]
          rfl
        have HRK := Lib.hid (HRB2.out (K : Int))
        rw [hK]
        clear HRB2 HIR
        by_cases h4 : bs.length < K + 4
        · rw [if_pos h4]
          rw [hr0 h4] at HRK
          clear hr0 hr1
          by_cases hcc : c = 2
          · subst hcc
            obtain rfl : n = 2 := by omega
            have HI00 := Lib.hid (HI0.out rfl)
            clear HI0
            go_enter Try.func15, Try.ntmps15
            go_wp2_with (first
              | (go_at_call 41; (with_reducible refine HRB.out.mono ?_); go_must (rintro e w1 ⟨rfl, rfl⟩))
              | (go_at_call 9; (with_reducible refine HI00.out.mono ?_); go_must (rintro e w2 ⟨v2, rfl, ho2, hb2⟩; obtain ⟨A2, c2, rfl, -, -, -⟩ := ho2.form; have HB2 := Lib.hid hb2; have HRK2 := Lib.hid (HRK.out w2 (HR.out.blw (hb2.mono hB))); clear ho2 hb2))
              | (go_at_call 41; (with_reducible refine HRK2.out.mono ?_); go_must (rintro e w3 ⟨rfl, rfl⟩)))
            go_ret3
            exact ⟨_, rfl, ownB.nil_ _ _, HB2.out⟩
          · clear HI0
            go_enter Try.func15, Try.ntmps15
            go_wp2_with (first
              | (go_at_call 41; (with_reducible refine HRB.out.mono ?_); go_must (rintro e w1 ⟨rfl, rfl⟩))
              | (go_at_call 9; (with_reducible refine HI.out.mono ?_); go_must (rintro e w2 ⟨v2, rfl, ho2, hb2⟩; obtain ⟨A2, c2, rfl, -, -, -⟩ := ho2.form; have HB2 := Lib.hid hb2; have HRK2 := Lib.hid (HRK.out w2 (HR.out.blw (hb2.mono hB))); clear ho2 hb2))
              | (go_at_call 41; (with_reducible refine HRK2.out.mono ?_); go_must (rintro e w3 ⟨rfl, rfl⟩)))
            go_ret3
            exact ⟨_, rfl, ownB.nil_ _ _, HB2.out⟩
        · rw [if_neg h4]
          rw [hr1 h4] at HRK
          have hs := sumV_lt (bs := bs) (u := u) (by omega)
          have ha := adler_lt xs
          have hsw : IntKind.u32.wrap (sumV bs u : Int) = (sumV bs u : Int) := by show (sumV bs u : Int) % 4294967296 = _; omega
          have hK4 : (K : Int) + 4 = ((K + 4 : Nat) : Int) := by omega
          obtain ⟨K4, hK4e⟩ : ∃ x, K + 4 = x := ⟨_, rfl⟩
          rw [hK4e] at hK4 ⊢
          clear hr0 hr1
          generalize sumV bs u = s at *
          by_cases hsum : s = adler xs
          · rw [if_pos hsum]
            have dS : ((s : Int) != (adler xs : Int)) = false := by rw [hsum]; exact bne_self_eq_false _
            have HAD := Lib.hid (fun A2 c2 w2 w1 (h : RdB w1 w2 A2 xs.length xs) => adler_any w2 xs.length c2 A2 xs w1 h (by omega))
            generalize adler xs = ad at *
            clear hsum
            go_enter Try.func15, Try.ntmps15
            go_wp2_with (first
              | (go_at_call 41; (with_reducible refine HRB.out.mono ?_); go_must (rintro e w1 ⟨rfl, rfl⟩))
              | (go_at_call 9; (with_reducible refine HI.out.mono ?_); go_must (rintro e w2 ⟨v2, rfl, ho2, hb2⟩; obtain ⟨A2, c2, rfl, -, -, -⟩ := ho2.form; have HO2 := Lib.hid ho2; have HB2 := Lib.hid hb2; have HRK2 := Lib.hid (HRK.out w2 (HR.out.blw (hb2.mono hB))); have HAD2 := Lib.hid (HAD.out A2 c2 w2.heap.size w2 (ownB.rd ho2)); clear ho2 hb2))
              | (go_at_call 41; (with_reducible refine HRK2.out.mono ?_); go_must (rintro e w3 ⟨rfl, rfl⟩))
              | (go_at_call 40; (with_reducible refine HAD2.out.mono ?_); go_must (rintro e w4 ⟨rfl, rfl⟩)))
            go_ret3
            exact ⟨_, rfl, HO2.out, HB2.out⟩
          · rw [if_neg hsum]
            have dS : ((s : Int) != (adler xs : Int)) = true := by rw [bne_iff_ne]; omega
            have HAD := Lib.hid (fun A2 c2 w2 w1 (h : RdB w1 w2 A2 xs.length xs) => adler_any w2 xs.length c2 A2 xs w1 h (by omega))
            generalize adler xs = ad at *
            clear hsum
            go_enter Try.func15, Try.ntmps15
            go_wp2_with (first
              | (go_at_call 41; (with_reducible refine HRB.out.mono ?_); go_must (rintro e w1 ⟨rfl, rfl⟩))
              | (go_at_call 9; (with_reducible refine HI.out.mono ?_); go_must (rintro e w2 ⟨v2, rfl, ho2, hb2⟩; obtain ⟨A2, c2, rfl, -, -, -⟩ := ho2.form; have HB2 := Lib.hid hb2; have HRK2 := Lib.hid (HRK.out w2 (HR.out.blw (hb2.mono hB))); have HAD2 := Lib.hid (HAD.out A2 c2 w2.heap.size w2 (ownB.rd ho2)); clear ho2 hb2))
              | (go_at_call 41; (with_reducible refine HRK2.out.mono ?_); go_must (rintro e w3 ⟨rfl, rfl⟩))
              | (go_at_call 40; (with_reducible refine HAD2.out.mono ?_); go_must (rintro e w4 ⟨rfl, rfl⟩)))
            go_ret3
            exact ⟨_, rfl, ownB.nil_ _ _, HB2.out⟩
      · rw [if_neg hE]
        have dE : (E != 0) = true := by rw [bne_iff_ne]; exact hE
        by_cases hcc : c = 2
        · subst hcc
          obtain rfl : n = 2 := by omega
          have HI00 := Lib.hid (HI0.out rfl)
          clear HI0
          go_enter Try.func15, Try.ntmps15
          go_wp2_with (first
            | (go_at_call 41; (with_reducible refine HRB.out.mono ?_); go_must (rintro e w1 ⟨rfl, rfl⟩))
            | (go_at_call 9; (with_reducible refine HI00.out.mono ?_); go_must (rintro e w2 ⟨v2, rfl, ho2, hb2⟩; obtain ⟨A2, c2, rfl, -, -, -⟩ := ho2.form; have HB2 := Lib.hid hb2; clear ho2 hb2)))
          go_ret3
          exact ⟨_, rfl, ownB.nil_ _ _, HB2.out⟩
        · clear HI0
          go_enter Try.func15, Try.ntmps15
          go_wp2_with (first
            | (go_at_call 41; (with_reducible refine HRB.out.mono ?_); go_must (rintro e w1 ⟨rfl, rfl⟩))
            | (go_at_call 9; (with_reducible refine HI.out.mono ?_); go_must (rintro e w2 ⟨v2, rfl, ho2, hb2⟩; obtain ⟨A2, c2, rfl, -, -, -⟩ := ho2.form; have HB2 := Lib.hid hb2; clear ho2 hb2)))
          go_ret3
          exact ⟨_, rfl, ownB.nil_ _ _, HB2.out⟩
end Go.Proofs.Ytfafijhmjnkjeaa

/- zlib: Whole, whatever comes. -/
namespace Go.Proofs.Ytfafijhmjnkjeaa
set_option linter.all false
open Go.RowKit

theorem unpk_rng {bs : List UInt8} {most : Int} (h : (unpkP bs most).2.2 = 0) : (unpkP bs most).2.1 ≤ bs.length ∧ (unpkP bs most).1.length ≤ 40000 ∧ (((unpkP bs most).1.length : Nat) : Int) ≤ most := by
  unfold unpkP at h ⊢
  split at h
  · exact absurd (show (2 : Int) = 0 from h) (by decide)
  · rename_i h1
    rw [if_neg h1]
    split at h
    · exact absurd (show (4 : Int) = 0 from h) (by decide)
    · rename_i h2
      rw [if_neg h2]
      split at h
      · rename_i h3
        rw [if_pos h3]
        split at h
        · exact absurd (show (2 : Int) = 0 from h) (by decide)
        · rename_i h4
          rw [if_neg h4]
          split at h
          · rename_i h5
            rw [if_pos h5]
            have g1 := inflP_rng h3
            have g2 := inflP_zero h3
            exact ⟨by show 2 + (inflP (bs.drop 2) most).2.1 + 4 ≤ _; omega, by show (inflP (bs.drop 2) most).1.length ≤ _; omega, by show (((inflP (bs.drop 2) most).1.length : Nat) : Int) ≤ _; omega⟩
          · exact absurd (show (5 : Int) = 0 from h) (by decide)
      · rename_i h3
        exact absurd h h3
set_option maxRecDepth 100000 in
set_option maxHeartbeats 3200000 in
theorem whole_any (B n c : Nat) (A : Option Addr) (bs : List UInt8) (most : Int) (w : World) (h : RdB w B A n bs) (hB : B ≤ w.heap.size) (hc : n ≤ c) (hn : n ≤ 1000000) :
    Calls Try.prog 14 #[.slice A n c, .int .i64 most] w fun e w' => ∃ v, e = .returned (.tuple #[v, .int .i64 (wholP bs most).2]) ∧ ownB w' w.heap.size v (wholP bs most).1 ∧ Below w.heap.size w w' := by
  have hl := h.len
  have HU := Lib.hid (unpack_any B n c A bs most w h hB hc hn)
  have hP : wholP bs most = if (unpkP bs most).2.2 = 0 then (if (unpkP bs most).2.1 < bs.length then ([], 3) else ((unpkP bs most).1, 0)) else ([], (unpkP bs most).2.2) := rfl
  have hrg := unpk_rng (bs := bs) (most := most)
  rw [hP]
  clear h hP
  obtain ⟨⟨xs, u, E⟩, hI⟩ : ∃ I, unpkP bs most = I := ⟨_, rfl⟩
  rw [hI] at HU hrg ⊢
  clear hI
  replace hrg : E = 0 → u ≤ bs.length ∧ xs.length ≤ 40000 ∧ ((xs.length : Nat) : Int) ≤ most := hrg
  show Calls _ _ _ _ (fun e w' => ∃ v, e = .returned (.tuple #[v, .int .i64 ((if E = 0 then (if u < bs.length then ([], 3) else (xs, 0)) else ([], E)) : List UInt8 × Int).2]) ∧ ownB w' w.heap.size v ((if E = 0 then (if u < bs.length then ([], 3) else (xs, 0)) else ([], E)) : List UInt8 × Int).1 ∧ Below w.heap.size w w')
  by_cases hE : E = 0
  · rw [if_pos hE]
    have dE : (E != 0) = false := by rw [hE]; rfl
    by_cases hu : u < bs.length
    · rw [if_pos hu]
      have hui : (u : Int) < (n : Int) := by omega
      clear hrg
      go_enter Try.func14, Try.ntmps14
      go_wp2_with (go_at_call 15; (with_reducible refine HU.out.mono ?_); go_must (rintro e w2 ⟨v2, rfl, ho2, hb2⟩; obtain ⟨A2, c2, rfl, -, -, -⟩ := ho2.form; have HB2 := Lib.hid hb2; clear ho2 hb2))
      go_ret2
      exact ⟨_, rfl, ownB.nil_ _ _, HB2.out⟩
    · rw [if_neg hu]
      have hui : ¬ (u : Int) < (n : Int) := by omega
      clear hrg
      go_enter Try.func14, Try.ntmps14
      go_wp2_with (go_at_call 15; (with_reducible refine HU.out.mono ?_); go_must (rintro e w2 ⟨v2, rfl, ho2, hb2⟩; obtain ⟨A2, c2, rfl, -, -, -⟩ := ho2.form; have HO2 := Lib.hid ho2; have HB2 := Lib.hid hb2; clear ho2 hb2))
      go_ret2
      exact ⟨_, rfl, HO2.out, HB2.out⟩
  · rw [if_neg hE]
    have dE : (E != 0) = true := by rw [bne_iff_ne]; exact hE
    go_enter Try.func14, Try.ntmps14
    go_wp2_with (go_at_call 15; (with_reducible refine HU.out.mono ?_); go_must (rintro e w2 ⟨v2, rfl, ho2, hb2⟩; obtain ⟨A2, c2, rfl, -, -, -⟩ := ho2.form; have HB2 := Lib.hid hb2; clear ho2 hb2))
    go_ret2
    exact ⟨_, rfl, ownB.nil_ _ _, HB2.out⟩
end Go.Proofs.Ytfafijhmjnkjeaa
