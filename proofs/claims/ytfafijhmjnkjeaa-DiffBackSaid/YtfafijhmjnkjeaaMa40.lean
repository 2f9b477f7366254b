/- Merged: Zb, StoP, OpenB. -/
import Derived.Deep.Slices
import Derived.Test.YtfafijhmjnkjeaaMa39
import Derived.Test.YtfafijhmjnkjeaaMa27
/- flate: what Inflate says of what Deflate gives, plainly. -/
namespace Go.Proofs.Ytfafijhmjnkjeaa
set_option linter.all false

theorem inflP_ok {bs : List UInt8} {most : Int} (h1 : 0 ≤ most) (h2 : most ≤ 40000) (h : (infS bs most).e = 0) : inflP bs most = ((infS bs most).out, ((infS bs most).p + 7) / 8, 0) := by
  unfold inflP
  rw [if_neg (by omega), if_pos h]
theorem inflP_zero {bs : List UInt8} {most : Int} (h : (inflP bs most).2.2 = 0) : 0 ≤ most ∧ most ≤ 40000 ∧ (infS bs most).e = 0 := by
  unfold inflP at h
  split at h
  · exact absurd (show (1 : Int) = 0 from h) (by decide)
  · split at h
    · rename_i h1 h2
      exact ⟨by omega, by omega, h2⟩
    · rename_i h2
      exact absurd h h2
theorem inflP_none {bs : List UInt8} {most : Int} (h : ¬ (inflP bs most).2.2 = 0) : (inflP bs most).1 = [] := by
  unfold inflP at h ⊢
  split
  · rfl
  · rename_i h1
    rw [if_neg h1] at h
    split
    · rename_i h2
      rw [if_pos h2] at h
      exact absurd rfl h
    · rfl
/-- What is read lies within, and a block at least is read. -/
theorem inflP_rng {bs : List UInt8} {most : Int} (h : (inflP bs most).2.2 = 0) : 1 ≤ (inflP bs most).2.1 ∧ (inflP bs most).2.1 ≤ bs.length ∧ (((inflP bs most).1.length : Nat) : Int) ≤ most := by
  obtain ⟨h1, h2, h3⟩ := inflP_zero h
  rw [inflP_ok h1 h2 h3]
  have hf : (infS bs most).p ≤ 8 * bs.length := infS_fit
  refine ⟨?_, ?_, infS_le h1⟩
  · show 1 ≤ ((infS bs most).p + 7) / 8
    have key : ∀ k f (s : RS), s.e = 0 → (infF bs most f (k + 1) s).e = 0 → s.p + 3 ≤ (infF bs most f (k + 1) s).p := fun k f => by
      induction k with
      | zero =>
        intro s he hh
        rw [infF, if_pos he] at hh ⊢
        split at hh
        · rename_i h0
          rw [if_pos h0]
          exact blkP_p hh
        · rename_i h0
          rw [if_neg h0]
          exact blkP_p hh
      | succ k ih =>
        intro s he hh
        rw [infF, if_pos he] at hh ⊢
        split at hh
        · rename_i h0
          rw [if_pos h0]
          have hb : (blkP bs most f s).e = 0 := Decidable.byContradiction fun hn => by
            rw [infF_err hn] at hh
            exact hn hh
          have := ih _ hb hh
          have := blkP_p hb
          omega
        · rename_i h0
          rw [if_neg h0]
          exact blkP_p hh
    have := key (8 * bs.length) (8 * bs.length + 1) ⟨0, [], 0⟩ rfl h3
    have h5 : 0 + 3 ≤ (infS bs most).p := this
    omega
  · show ((infS bs most).p + 7) / 8 ≤ bs.length
    omega
theorem z_more {bz b more : List UInt8} (hb : b.length ≤ 40000) (hw : WB bz (deflB b (findP b))) : inflP (bz ++ more) 40000 = (b, bz.length, 0) := by
  have h1 := z_back (most := (b.length : Int)) hb (Int.le_refl _) hw
  have h2 := infS_ext (more := more) (most' := 40000) (show (b.length : Int) ≤ 40000 by omega) (by rw [h1])
  have h3 : (infS (bz ++ more) 40000).e = 0 := by rw [h2, h1]
  rw [inflP_ok (by omega) (by omega) h3, h2, h1, hw.1]
theorem z_less {bz b : List UInt8} (hb : b.length ≤ 40000) (hw : WB bz (deflB b (findP b))) : ¬ (inflP bz ((b.length : Int) - 1)).2.2 = 0 := by
  intro h
  obtain ⟨h1, h2, h3⟩ := inflP_zero h
  have h4 := infS_ext (more := []) (most' := (b.length : Int)) (by omega) h3
  rw [List.append_nil, z_back hb (Int.le_refl _) hw] at h4
  have h5 := infS_le (bs := bz) h1
  rw [← h4] at h5
  have h6 : (b.length : Int) ≤ (b.length : Int) - 1 := h5
  omega
theorem z_cut {bz b : List UInt8} {k : Nat} (hb : b.length ≤ 40000) (hw : WB bz (deflB b (findP b))) (hk : k < bz.length) : ¬ (inflP (bz.take k) 40000).2.2 = 0 := by
  intro h
  obtain ⟨h1, h2, h3⟩ := inflP_zero h
  have h4 := infS_ext (more := bz.drop k) (most' := 40000) (Int.le_refl _) h3
  rw [List.take_append_drop, z_back (most := 40000) hb (by omega) hw] at h4
  have h5 : (infS (bz.take k) 40000).p ≤ 8 * (bz.take k).length := infS_fit
  rw [← h4, List.length_take] at h5
  have h6 : (deflB b (findP b)).length ≤ 8 * min k bz.length := h5
  have := hw.1
  omega
theorem z_pos {bz b : List UInt8} (hw : WB bz (deflB b (findP b))) : 1 ≤ bz.length := by
  have h1 : 10 ≤ (deflB b (findP b)).length ∨ 1 ≤ (deflB b (findP b)).length := by
    unfold deflB
    split
    · have := ownBits_min (findP b); omega
    · unfold best1
      split
      · unfold fixB; rw [List.length_append, headL_len]; omega
      · rw [plainL_len]; omega
  have := hw.1
  omega
/-- A kind of 3 is none. -/
theorem kind3 (rest : List UInt8) (most : Int) : ¬ (inflP (7 :: rest) most).2.2 = 0 := by
  intro h
  obtain ⟨h1, h2, h3⟩ := inflP_zero h
  have hl : (7 :: rest : List UInt8).length = rest.length + 1 := rfl
  have b0 : ∀ j, j < 8 → bitAt (7 :: rest) j = 7 / 2 ^ j % 2 := fun j hj => by
    unfold bitAt
    rw [show j / 8 = 0 by omega, show j % 8 = j by omega]
    rfl
  have g1 : getP (7 :: rest) ⟨0, [], 0⟩ 1 = (1, ⟨1, [], 0⟩) := by
    have := getP_bits (bs := 7 :: rest) (v := 1) (m := 1) (s := ⟨0, [], 0⟩) ⟨by rw [lsb_len, hl]; show 0 + 1 ≤ _; omega, fun j hj => by
      rw [lsb_len] at hj
      obtain rfl : j = 0 := by omega
      exact b0 0 (by omega)⟩ (by decide) rfl
    exact this
  have g2 : getP (7 :: rest) ⟨1, [], 0⟩ 2 = (3, ⟨3, [], 0⟩) := by
    have := getP_bits (bs := 7 :: rest) (v := 3) (m := 2) (s := ⟨1, [], 0⟩) ⟨by rw [lsb_len, hl]; show 1 + 2 ≤ _; omega, fun j hj => by
      rw [lsb_len] at hj
      rw [show (RS.mk 1 [] 0).p + j = 1 + j from rfl, b0 (1 + j) (by omega)]
      rcases (show j = 0 ∨ j = 1 by omega) with rfl | rfl
      · decide
      · decide⟩ (by decide) rfl
    exact this
  have hk : blk0 (7 :: rest) ⟨0, [], 0⟩ = 1 ∧ blk1 (7 :: rest) ⟨0, [], 0⟩ = 3 ∧ blk2 (7 :: rest) ⟨0, [], 0⟩ = ⟨3, [], 0⟩ := by
    unfold blk0 blk1 blk2
    rw [g1]
    exact ⟨rfl, by rw [g2], by rw [g2]⟩
  have h4 : infS (7 :: rest) most = ⟨3, [], 4⟩ := by
    unfold infS
    rw [infF, if_pos (show (RS.mk 0 [] 0).e = 0 from rfl), hk.1, if_neg (by decide)]
    unfold blkP
    rw [hk.2.1, hk.2.2]
    rfl
  rw [h4] at h3
  exact absurd (show (4 : Int) = 0 from h3) (by decide)
end Go.Proofs.Ytfafijhmjnkjeaa

/- flate: bytes stored by hand, plainly. -/
namespace Go.Proofs.Ytfafijhmjnkjeaa
set_option linter.all false

theorem Bits.app {bs : List UInt8} {p : Nat} {X Y : List Nat} (h : Bits bs p X) (h2 : Bits bs (p + X.length) Y) : Bits bs p (X ++ Y) := by
  refine ⟨by rw [List.length_append]; have := h2.1; omega, fun j hj => ?_⟩
  rw [List.length_append] at hj
  by_cases hx : j < X.length
  · rw [h.2 j hx, List.getD_eq_getElem?_getD, List.getD_eq_getElem?_getD, List.getElem?_append_left hx]
  · have := h2.2 (j - X.length) (by omega)
    rw [show p + X.length + (j - X.length) = p + j by omega] at this
    rw [this, List.getD_eq_getElem?_getD, List.getD_eq_getElem?_getD, List.getElem?_append_right (by omega)]
theorem bits_bytes : ∀ (X A C : List UInt8), Bits (A ++ (X ++ C)) (8 * A.length) (bytesB X)
  | [], A, C => ⟨by rw [List.length_append]; show 8 * A.length + 0 ≤ _; omega, fun j hj => absurd hj (by show ¬ j < 0; omega)⟩
  | x :: r, A, C => by
    have e : bytesB (x :: r) = lsb x.toNat 8 ++ bytesB r := by unfold bytesB; rw [List.flatMap_cons]
    rw [e]
    refine Bits.app ⟨by rw [lsb_len, List.length_append, List.length_append, List.length_cons]; omega, fun j hj => ?_⟩ ?_
    · rw [lsb_len] at hj
      unfold bitAt
      rw [show (8 * A.length + j) / 8 = A.length by omega, show (8 * A.length + j) % 8 = j by omega, List.getD_eq_getElem?_getD, List.getElem?_append_right (Nat.le_refl _), Nat.sub_self, List.getD_eq_getElem?_getD, lsb_get x.toNat 8 j hj]
      rfl
    · have := bits_bytes r (A ++ [x]) C
      rw [List.length_append, List.append_assoc] at this
      rw [lsb_len, show 8 * A.length + 8 = 8 * (A.length + 1) by omega]
      exact this
theorem lsb_add (v a : Nat) : ∀ b, lsb v (a + b) = lsb v a ++ lsb (v / 2 ^ a) b
  | 0 => by rw [Nat.add_zero]; show _ = _ ++ []; rw [List.append_nil]
  | b + 1 => by
    rw [← Nat.add_assoc, lsb, lsb, lsb_add v a b, List.append_assoc, Nat.div_div_eq_div_mul, Nat.pow_add]
theorem lsb_mod (v n : Nat) : ∀ k, k ≤ n → lsb (v % 2 ^ n) k = lsb v k
  | 0, _ => rfl
  | k + 1, h => by
    rw [lsb, lsb, lsb_mod v n k (by omega)]
    congr 2
    have e : 2 ^ n = 2 ^ k * (2 * 2 ^ (n - (k + 1))) := by
      rw [← Nat.mul_assoc, ← Nat.pow_succ, ← Nat.pow_add]
      congr 1
      omega
    rw [e, Nat.mod_mul_right_div_self, Nat.mod_mul_right_mod]
def lo8 (n : Nat) : UInt8 := UInt8.ofNat n
theorem lo8_nat (n : Nat) : (UInt8.ofNat n).toNat = n % 256 := by simp
theorem two_bytes {n : Nat} (h : n < 65536) : bytesB [UInt8.ofNat n, UInt8.ofNat (n / 256)] = lsb n 16 := by
  show lsb (UInt8.ofNat n).toNat 8 ++ (lsb (UInt8.ofNat (n / 256)).toNat 8 ++ []) = _
  rw [List.append_nil, lo8_nat, lo8_nat, lsb_add n 8 8]
  have h1 := lsb_mod n 8 8 (Nat.le_refl _)
  have h2 := lsb_mod (n / 256) 8 8 (Nat.le_refl _)
  rw [show (2 : Nat) ^ 8 = 256 from rfl] at h1 h2 ⊢
  rw [h1, h2]
theorem bytesB_app (a b : List UInt8) : bytesB (a ++ b) = bytesB a ++ bytesB b := by unfold bytesB; rw [List.flatMap_append]
/-- A block stored by hand. -/
def stoH (n : Nat) : List UInt8 := [0, UInt8.ofNat n, UInt8.ofNat (n / 256), UInt8.ofNat (65535 - n), UInt8.ofNat ((65535 - n) / 256)]
def stoL (l : List UInt8) : List UInt8 := stoH l.length ++ l
def stoAll (ls : List (List UInt8)) : List UInt8 := ls.flatMap stoL
theorem stoL_len (l : List UInt8) : (stoL l).length = 5 + l.length := by unfold stoL; rw [List.length_append]; rfl
theorem stoL_bits {l : List UInt8} (h : l.length < 65536) : bytesB (stoL l) = lsb 0 8 ++ (lsb l.length 16 ++ lsb (65535 - l.length) 16 ++ bytesB l) := by
  have e : stoL l = [0] ++ ([UInt8.ofNat l.length, UInt8.ofNat (l.length / 256)] ++ ([UInt8.ofNat (65535 - l.length), UInt8.ofNat ((65535 - l.length) / 256)] ++ l)) := rfl
  rw [e, bytesB_app, bytesB_app, bytesB_app, two_bytes h, two_bytes (by omega), List.append_assoc]
  rfl
theorem zero3_bits {bs : List UInt8} {s : RS} (h : Bits bs s.p (lsb 0 8)) (he : s.e = 0) : blk0 bs s = 0 ∧ blk1 bs s = 0 ∧ blk2 bs s = ⟨s.p + 3, s.out, 0⟩ := by
  have e : lsb 0 8 = lsb 0 1 ++ (lsb 0 2 ++ lsb 0 5) := by decide
  rw [e] at h
  have h1 := getP_bits h.left (show 0 < 2 ^ 1 by decide) he
  have h2 := getP_bits (s := ⟨s.p + 1, s.out, 0⟩) (by have := h.right.left; rw [lsb_len] at this; exact this) (show 0 < 2 ^ 2 by decide) rfl
  unfold blk0 blk1 blk2
  rw [h1]
  exact ⟨rfl, by rw [h2], by rw [h2]⟩
theorem sto_end {bs : List UInt8} {most : Int} {s : RS} (f : Nat) (h : Bits bs s.p (bytesB [3, 0])) (he : s.e = 0) : blk0 bs s = 1 ∧ blkP bs most (f + 1) s = ⟨s.p + 10, s.out, 0⟩ := by
  have e : bytesB [3, 0] = headL 1 ++ (codeB fixL 256 ++ lsb 0 6) := by decide +kernel
  rw [e] at h
  obtain ⟨h0, h1, h2⟩ := head_bits h.left (by decide) he
  refine ⟨h0, ?_⟩
  have h3 := h.right.left
  rw [headL_len] at h3
  unfold blkP
  rw [h1, h2]
  show toksF bs most fixL (some fixD) (f + 1) ⟨s.p + 3, s.out, 0⟩ = _
  rw [end_back (k := 7) fixL_ok f (by decide +kernel) (by omega) rfl h3]
  show RS.mk (s.p + 3 + (codeB fixL 256).length) s.out 0 = _
  rw [show (codeB fixL 256).length = 7 by decide +kernel]
theorem sto_back {most : Int} (f : Nat) : ∀ (ls : List (List UInt8)) (pre out : List UInt8) (k : Nat), ls.length + 1 ≤ k → (∀ l ∈ ls, l.length ≤ 500) → ((out.length + ls.flatten.length : Nat) : Int) ≤ most →
    infF (pre ++ (stoAll ls ++ [3, 0])) most (f + 1) k ⟨8 * pre.length, out, 0⟩ = ⟨8 * (pre.length + (stoAll ls).length) + 10, out ++ ls.flatten, 0⟩
  | [], pre, out, k, hk, hl, hm => by
    obtain ⟨k, rfl⟩ : ∃ j, k = j + 1 := ⟨k - 1, by simp at hk; omega⟩
    have hb : Bits (pre ++ (stoAll [] ++ [3, 0])) (8 * pre.length) (bytesB [3, 0]) := by
      have := bits_bytes [3, 0] pre []
      rw [List.append_nil] at this
      exact this
    obtain ⟨h0, h1⟩ := sto_end (most := most) (s := ⟨8 * pre.length, out, 0⟩) f hb rfl
    rw [infF, if_pos (show (RS.mk (8 * pre.length) out 0).e = 0 from rfl), h0, if_neg (by decide), h1]
    show RS.mk (8 * pre.length + 10) out 0 = RS.mk (8 * (pre.length + 0) + 10) (out ++ []) 0
    rw [List.append_nil]
    rfl
  | l :: r, pre, out, k, hk, hl, hm => by
    obtain ⟨k, rfl⟩ : ∃ j, k = j + 1 := ⟨k - 1, by simp at hk; omega⟩
    have hll := hl l (List.mem_cons_self ..)
    have es : stoAll (l :: r) = stoL l ++ stoAll r := by unfold stoAll; rw [List.flatMap_cons]
    have efl : (l :: r).flatten = l ++ r.flatten := by rw [List.flatten_cons]
    rw [efl, List.length_append] at hm
    have hb : Bits (pre ++ (stoAll (l :: r) ++ [3, 0])) (8 * pre.length) (bytesB (stoL l)) := by
      have := bits_bytes (stoL l) pre (stoAll r ++ [3, 0])
      rw [es, List.append_assoc]
      exact this
    have e2 : pre ++ (stoAll (l :: r) ++ [3, 0]) = (pre ++ stoL l) ++ (stoAll r ++ [3, 0]) := by rw [es, List.append_assoc, List.append_assoc]
    rw [stoL_bits (by omega)] at hb
    obtain ⟨h0, h1, h2⟩ := zero3_bits (s := ⟨8 * pre.length, out, 0⟩) hb.left rfl
    have hb2 := hb.right
    rw [lsb_len] at hb2
    have h3 : blkP (pre ++ (stoAll (l :: r) ++ [3, 0])) most (f + 1) ⟨8 * pre.length, out, 0⟩ = ⟨8 * (pre ++ stoL l).length, out ++ l, 0⟩ := by
      unfold blkP
      rw [h1, h2]
      show plainP _ most ⟨8 * pre.length + 3, out, 0⟩ = _
      have hq : 8 * ((8 * pre.length + 3 + 7) / 8) = 8 * pre.length + 8 := by omega
      have hpb := plain_back (bs := pre ++ (stoAll (l :: r) ++ [3, 0])) (l := l) (most := most) (s := ⟨8 * pre.length + 3, out, 0⟩) rfl (Nat.le_trans hll (by decide)) (show ((out.length + l.length : Nat) : Int) ≤ most by omega) (show Bits _ (8 * ((8 * pre.length + 3 + 7) / 8)) _ by rw [hq]; exact hb2)
      refine hpb.trans ?_
      show RS.mk (8 * ((8 * pre.length + 3 + 7) / 8) + 32 + 8 * l.length) (out ++ l) 0 = _
      rw [hq, List.length_append, stoL_len]
      congr 1
      omega
    rw [infF, if_pos (show (RS.mk (8 * pre.length) out 0).e = 0 from rfl), h0, if_pos rfl, h3, e2]
    rw [sto_back f r (pre ++ stoL l) (out ++ l) k (by simp at hk; omega) (fun x hx => hl x (List.mem_cons_of_mem _ hx)) (by rw [List.length_append]; omega)]
    rw [es, efl, List.length_append, List.length_append, List.append_assoc]
    congr 1
    omega
theorem stoAll_le : ∀ ls : List (List UInt8), ls.length ≤ (stoAll ls).length
  | [] => Nat.le_refl _
  | l :: r => by
    have := stoAll_le r
    have es : stoAll (l :: r) = stoL l ++ stoAll r := by unfold stoAll; rw [List.flatMap_cons]
    rw [es, List.length_append, stoL_len, List.length_cons]
    omega
theorem sto_infl {ls : List (List UInt8)} (hl : ∀ l ∈ ls, l.length ≤ 500) (hm : ls.flatten.length ≤ 40000) : inflP (stoAll ls ++ [3, 0]) 40000 = (ls.flatten, (stoAll ls ++ [3, 0]).length, 0) := by
  have h1 := stoAll_le ls
  have hz : (stoAll ls ++ [3, 0]).length = (stoAll ls).length + 2 := by rw [List.length_append]; rfl
  have h2 := sto_back (most := 40000) (8 * (stoAll ls ++ [3, 0]).length) ls [] [] (8 * (stoAll ls ++ [3, 0]).length + 1) (by omega) hl (by show ((0 + ls.flatten.length : Nat) : Int) ≤ 40000; omega)
  have h3 : infS (stoAll ls ++ [3, 0]) 40000 = ⟨8 * (0 + (stoAll ls).length) + 10, ls.flatten, 0⟩ := h2
  rw [inflP_ok (by omega) (by omega) (by rw [h3]), h3, hz]
  show (_, (8 * (0 + (stoAll ls).length) + 10 + 7) / 8, (0 : Int)) = _
  congr 2
  omega
end Go.Proofs.Ytfafijhmjnkjeaa

/- Slices of slices of bytes that come in. -/
namespace Go.Proofs.Ytfafijhmjnkjeaa
set_option linter.all false
open Go.ChangeShapes Go.WideShapes Go.ChangeAt Go.RowKit

/-- Rows of bytes, read. -/
def RowsB (w : World) (B : Nat) (A : Option Addr) (n : Nat) (ls : List (List UInt8)) : Prop :=
  ls.length = n ∧ (0 < n → ∃ b o, A = some ⟨b, o, none⟩ ∧ b < B ∧ ∀ j (hj : j < ls.length), ∃ A' c', w.cell? ⟨b, o + j, none⟩ = some (.slice A' ls[j].length c') ∧ RdB w B A' ls[j].length ls[j] ∧ ls[j].length ≤ c')
theorem RowsB.blw {w w' : World} {B n : Nat} {A : Option Addr} {ls : List (List UInt8)} (h : RowsB w B A n ls) (hb : Below B w w') : RowsB w' B A n ls := by
  refine ⟨h.1, fun hn => ?_⟩
  obtain ⟨b, o, e, hlt, hc⟩ := h.2 hn
  refine ⟨b, o, e, hlt, fun j hj => ?_⟩
  obtain ⟨A', c', h1, h2, h3⟩ := hc j hj
  exact ⟨A', c', (hb.cell (p := ⟨b, o + j, none⟩) hlt).trans h1, RdB.blw h2 hb, h3⟩
theorem RowsB.row {w : World} {B n : Nat} {A : Option Addr} {ls : List (List UInt8)} (h : RowsB w B A n ls) {j : Nat} (hj : j < n) :
    ∃ b o A' c' l, A = some ⟨b, o, none⟩ ∧ b < B ∧ ls[j]? = some l ∧ w.cell? ⟨b, o + j, none⟩ = some (.slice A' l.length c') ∧ RdB w B A' l.length l ∧ l.length ≤ c' := by
  obtain ⟨b, o, e, hlt, hc⟩ := h.2 (by omega)
  have hj' : j < ls.length := by rw [h.1]; exact hj
  obtain ⟨A', c', h1, h2, h3⟩ := hc j hj'
  exact ⟨b, o, A', c', ls[j], e, hlt, List.getElem?_eq_getElem hj', h1, h2, h3⟩
theorem Try.one_bytes : Try.prog.cellsOf 22 = 1 := by kernel_rfl
end Go.Proofs.Ytfafijhmjnkjeaa
