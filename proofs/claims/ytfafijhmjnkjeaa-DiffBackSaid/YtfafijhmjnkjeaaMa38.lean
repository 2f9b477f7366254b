/- Merged: Rb1, Rb2, Rb3. -/
import Derived.Test.YtfafijhmjnkjeaaMa37
import Derived.Test.YtfafijhmjnkjeaaMa28
import Derived.Test.YtfafijhmjnkjeaaMa30
/- flate: what is written is read back, plainly: bits, codes, tokens. -/
namespace Go.Proofs.Ytfafijhmjnkjeaa
set_option linter.all false

/-- Bits stand in bytes from place p on. -/
def Bits (bs : List UInt8) (p : Nat) (X : List Nat) : Prop := p + X.length ≤ 8 * bs.length ∧ ∀ j, j < X.length → bitAt bs (p + j) = X.getD j 0
theorem WB.bits {bs : List UInt8} {L : List Nat} (h : WB bs L) : Bits bs 0 L := ⟨by have := h.1; omega, fun j hj => by rw [Nat.zero_add]; exact h.2 j⟩
theorem Bits.left {bs : List UInt8} {p : Nat} {X Y : List Nat} (h : Bits bs p (X ++ Y)) : Bits bs p X := by
  obtain ⟨h1, h2⟩ := h
  rw [List.length_append] at h1 h2
  refine ⟨by omega, fun j hj => ?_⟩
  rw [h2 j (by omega), List.getD_eq_getElem?_getD, List.getD_eq_getElem?_getD, List.getElem?_append_left hj]
theorem Bits.right {bs : List UInt8} {p : Nat} {X Y : List Nat} (h : Bits bs p (X ++ Y)) : Bits bs (p + X.length) Y := by
  obtain ⟨h1, h2⟩ := h
  rw [List.length_append] at h1 h2
  refine ⟨by omega, fun j hj => ?_⟩
  rw [Nat.add_assoc, h2 (X.length + j) (by omega), List.getD_eq_getElem?_getD, List.getD_eq_getElem?_getD, List.getElem?_append_right (by omega), Nat.add_sub_cancel_left]
theorem getV_bits {bs : List UInt8} {p v : Nat} : ∀ m, (∀ j, j < m → bitAt bs (p + j) = v / 2 ^ j % 2) → getV bs p m = v % 2 ^ m
  | 0, _ => by rw [Nat.pow_zero, Nat.mod_one]; rfl
  | m + 1, h => by
    rw [getV, getV_bits m (fun j hj => h j (by omega)), h m (by omega), Nat.pow_succ, Nat.mod_mul, Nat.mul_comm]
theorem getP_bits {bs : List UInt8} {v m : Nat} {s : RS} (h : Bits bs s.p (lsb v m)) (hv : v < 2 ^ m) (he : s.e = 0) : getP bs s m = (v, ⟨s.p + m, s.out, 0⟩) := by
  obtain ⟨h1, h2⟩ := h
  rw [lsb_len] at h1 h2
  unfold getP
  rw [if_pos he, if_pos h1, getV_bits m (fun j hj => by rw [h2 j hj, List.getD_eq_getElem?_getD, lsb_get v m j hj]; rfl), Nat.mod_eq_of_lt hv]
theorem nextP_bits {bs : List UInt8} {ls : List Int} {p t : Nat} {s : RS} (hok : CodesOK ls) (hp : ls[p]? = some (t : Int)) (h0 : 0 < t) (h : Bits bs s.p (codeB ls p)) (he : s.e = 0) : nextP bs ls s = ((p : Int), ⟨s.p + (codeB ls p).length, s.out, 0⟩) := by
  obtain ⟨-, hbad, hk⟩ := hok
  have hg := good_at hbad hp
  have ht : t ≤ 15 := by omega
  have hc := codeAt_pos hp h0
  have hl : (codeB ls p).length = t := by unfold codeB; rw [hc, msb_len]; simp
  have hh : Hit ls t (fst ls t + cnt (ls.take p) t) p := ⟨hp, rfl⟩
  have hlt : fst ls t + cnt (ls.take p) t < 2 ^ t := Nat.lt_of_lt_of_le (hit_bound h0 hh).2 (fst_pow ls hbad hk t ht)
  have hn : nx ls bs 15 1 0 s.p = ((p : Int), 0, s.p + t) := nx_code h0 ht hlt hh (by have := h.1; rw [hl] at this; exact this) (fun j hj => by
    rw [h.2 j (by rw [hl]; exact hj), List.getD_eq_getElem?_getD]
    unfold codeB
    rw [hc, msb_get _ _ _ _ (by simpa using hj)]
    rfl)
  unfold nextP
  rw [if_pos he, hn, hl]
theorem head_bits {bs : List UInt8} {kind : Nat} {s : RS} (h : Bits bs s.p (headL kind)) (hk : kind < 4) (he : s.e = 0) : blk0 bs s = 1 ∧ blk1 bs s = kind ∧ blk2 bs s = ⟨s.p + 3, s.out, 0⟩ := by
  have e : headL kind = lsb 1 1 ++ lsb kind 2 := rfl
  rw [e] at h
  have h1 := getP_bits h.left (by decide) he
  have h2 := getP_bits (s := ⟨s.p + 1, s.out, 0⟩) (by have := h.right; rw [lsb_len] at this; exact this) (show kind < 2 ^ 2 from hk) rfl
  unfold blk0 blk1 blk2
  rw [h1]
  exact ⟨rfl, by rw [h2], by rw [h2]⟩
/-- The bytes of a copy. -/
theorem cpyF_ok {most : Int} {b : List UInt8} {dist : Nat} (hd : 1 ≤ dist) : ∀ (k a : Nat) (s : RS), s.e = 0 → s.out = b.take a → a + k ≤ b.length → dist ≤ a → ((b.length : Nat) : Int) ≤ most → (∀ j, a ≤ j → j < a + k → b.getD j 0 = b.getD (j - dist) 0) → cpyF most dist k s = ⟨s.p, b.take (a + k), 0⟩
  | 0, a, s, he, ho, hk, hda, hm, hc => by
    rw [cpyF, Nat.add_zero, ← ho, ← he]
  | k + 1, a, s, he, ho, hk, hda, hm, hc => by
    have hl : s.out.length = a := by rw [ho, List.length_take]; omega
    have hx : s.out.getD (s.out.length - dist) 0 = b.getD a 0 := by
      rw [hl, ho, hc a (Nat.le_refl _) (by omega), List.getD_eq_getElem?_getD, List.getElem?_take_of_lt (by omega), ← List.getD_eq_getElem?_getD]
    have hg : givesP most s (s.out.getD (s.out.length - dist) 0) = ⟨s.p, b.take (a + 1), 0⟩ := by
      unfold givesP
      rw [if_neg (by rw [hl]; omega), hx, ho, he, List.take_succ_eq_append_getElem (show a < b.length by omega), List.getD_eq_getElem?_getD, List.getElem?_eq_getElem (show a < b.length by omega)]
      rfl
    rw [cpyF, if_pos he, hg, cpyF_ok hd k (a + 1) _ rfl rfl (by omega) (by omega) hm (fun j h1 h2 => hc j (by omega) (by omega)), show a + 1 + k = a + (k + 1) by omega]
/-- A code for each of a token's symbols. -/
def TokC (ll dd : List Int) (t : Tok) : Prop := (∃ k : Nat, ll[symT t]? = some (k : Int) ∧ 0 < k) ∧ ∀ p ∈ dstT t, ∃ k : Nat, dd[p]? = some (k : Int) ∧ 0 < k
theorem tok_back {bs b : List UInt8} {most : Int} {ll dd : List Int} {a : Nat} {s : RS} (hl : CodesOK ll) (hd : CodesOK dd) (f : Nat) (hc : TokC ll dd (tokAt b a)) (ha : a < b.length) (hm : ((b.length : Nat) : Int) ≤ most) (he : s.e = 0) (ho : s.out = b.take a)
    (hcp : (matP b a).1 = 0 ∨ ∀ j, a ≤ j → j < a + (matP b a).1 → b.getD j 0 = b.getD (j - (matP b a).2) 0) (h : Bits bs s.p (tokB ll dd (tokAt b a))) :
    toksF bs most ll (some dd) (f + 1) s = toksF bs most ll (some dd) f ⟨s.p + (tokB ll dd (tokAt b a)).length, b.take (a + stepAt b a), 0⟩ := by
  have hlo : s.out.length = a := by rw [ho, List.length_take]; omega
  rw [toksF, if_pos he]
  rcases matP_ok b a with e | ⟨h1, h2, h3, h4, h5, h6⟩
  · have et : tokAt b a = (0, 0, (b.getD a 0).toNat) := if_pos e
    have es : stepAt b a = 1 := if_pos e
    rw [et] at h hc ⊢
    rw [es]
    obtain ⟨⟨k, hk, hk0⟩, -⟩ := hc
    replace hk : ll[(b.getD a 0).toNat]? = some (k : Int) := hk
    replace h : Bits bs s.p (codeB ll (b.getD a 0).toNat) := h
    have hx := (b.getD a 0).toNat_lt
    have hn := nextP_bits hl hk hk0 h he
    rw [hn]
    show (if (0 : Int) = 0 then _ else _) = _
    rw [if_pos rfl, if_neg (show ¬ (((b.getD a 0).toNat : Nat) : Int) = 256 by omega), if_pos (show (((b.getD a 0).toNat : Nat) : Int) < 256 by omega)]
    congr 1
    unfold givesP
    rw [if_neg (by show ¬ most ≤ (s.out.length : Int); rw [hlo]; omega)]
    show RS.mk _ (s.out ++ [UInt8.ofNat (((b.getD a 0).toNat : Nat) : Int).toNat]) 0 = _
    rw [Int.toNat_natCast, UInt8.ofNat_toNat, ho, List.take_succ_eq_append_getElem ha, List.getD_eq_getElem?_getD, List.getElem?_eq_getElem ha]
    rfl
  · have e0 : ¬ (matP b a).1 = 0 := by omega
    have et : tokAt b a = ((matP b a).1, (matP b a).2, 0) := if_neg e0
    have es : stepAt b a = (matP b a).1 := if_neg e0
    have hcp2 : ∀ j, a ≤ j → j < a + (matP b a).1 → b.getD j 0 = b.getD (j - (matP b a).2) 0 := by rcases hcp with e | h; exact absurd e e0; exact h
    rw [et] at h hc ⊢
    rw [es]
    generalize (matP b a).1 = len at *
    generalize (matP b a).2 = dist at *
    obtain ⟨⟨k, hk, hk0⟩, hcd⟩ := hc
    have hs1 : symT (len, dist, 0) = 257 + lenS len := if_neg e0
    have hs2 : dstT (len, dist, 0) = [distS dist] := if_neg e0
    rw [hs1] at hk
    obtain ⟨kd, hkd, hkd0⟩ := hcd (distS dist) (by rw [hs2]; exact List.mem_singleton_self _)
    have hl8 := lenS_spec h1
    have hd8 := distS_spec h4
    have hb : tokB ll dd (len, dist, 0) = codeB ll (257 + lenS len) ++ lsb (len - (lenOf (lenS len)).1) (lenOf (lenS len)).2 ++ codeB dd (distS dist) ++ lsb (dist - (distOf (distS dist)).1) (distOf (distS dist)).2 := if_neg e0
    rw [hb] at h ⊢
    have hb1 := h.left.left.left
    have hb2 := h.left.left.right
    have hb3 := h.left.right
    have hb4 := h.right
    rw [List.length_append, lsb_len] at hb3
    rw [List.length_append, List.length_append, lsb_len] at hb4
    have hn := nextP_bits hl hk hk0 hb1 he
    rw [hn]
    show (if (0 : Int) = 0 then _ else _) = _
    rw [if_pos rfl, if_neg (show ¬ (((257 + lenS len : Nat)) : Int) = 256 by omega), if_neg (show ¬ (((257 + lenS len : Nat)) : Int) < 256 by omega)]
    congr 1
    show copyP bs most ⟨s.p + (codeB ll (257 + lenS len)).length, s.out, 0⟩ (((257 + lenS len : Nat) : Int)).toNat (some dd) = _
    rw [Int.toNat_natCast]
    unfold copyP
    have hg1 := getP_bits (s := ⟨s.p + (codeB ll (257 + lenS len)).length, s.out, 0⟩) hb2 (lenS_fit h1 h2) rfl
    rw [if_neg (by omega), Nat.add_sub_cancel_left, hg1]
    show (if (0 : Int) = 0 then _ else _) = _
    rw [if_pos rfl, cpB]
    have hn2 := nextP_bits (s := ⟨s.p + (codeB ll (257 + lenS len)).length + (lenOf (lenS len)).2, s.out, 0⟩) hd hkd hkd0 (by rw [← Nat.add_assoc] at hb3; exact hb3) rfl
    rw [hn2]
    show (if (0 : Int) = 0 ∧ (30 : Int) ≤ ((distS dist : Nat) : Int) then _ else _) = _
    rw [if_neg (by omega)]
    show copiesP most (getP bs ⟨s.p + (codeB ll (257 + lenS len)).length + (lenOf (lenS len)).2 + (codeB dd (distS dist)).length, s.out, 0⟩ (distOf (((distS dist : Nat) : Int)).toNat).2).2 _ ((distOf (((distS dist : Nat) : Int)).toNat).1 + (getP bs ⟨s.p + (codeB ll (257 + lenS len)).length + (lenOf (lenS len)).2 + (codeB dd (distS dist)).length, s.out, 0⟩ (distOf (((distS dist : Nat) : Int)).toNat).2).1) = _
    rw [Int.toNat_natCast]
    have hg2 := getP_bits (s := ⟨s.p + (codeB ll (257 + lenS len)).length + (lenOf (lenS len)).2 + (codeB dd (distS dist)).length, s.out, 0⟩) (by rw [← Nat.add_assoc, ← Nat.add_assoc] at hb4; exact hb4) (distS_fit h4 h5) rfl
    rw [hg2]
    show copiesP most ⟨s.p + (codeB ll (257 + lenS len)).length + (lenOf (lenS len)).2 + (codeB dd (distS dist)).length + (distOf (distS dist)).2, s.out, 0⟩ ((lenOf (lenS len)).1 + (len - (lenOf (lenS len)).1)) ((distOf (distS dist)).1 + (dist - (distOf (distS dist)).1)) = _
    rw [show (lenOf (lenS len)).1 + (len - (lenOf (lenS len)).1) = len by omega, show (distOf (distS dist)).1 + (dist - (distOf (distS dist)).1) = dist by omega]
    unfold copiesP
    rw [if_neg (by show ¬ s.out.length < dist; omega), cpyF_ok h4 len a ⟨s.p + (codeB ll (257 + lenS len)).length + (lenOf (lenS len)).2 + (codeB dd (distS dist)).length + (distOf (distS dist)).2, s.out, 0⟩ rfl ho h3 h6 hm hcp2]
    rw [List.length_append, List.length_append, List.length_append, lsb_len, lsb_len]
    congr 1
    show s.p + (codeB ll (257 + lenS len)).length + (lenOf (lenS len)).2 + (codeB dd (distS dist)).length + (distOf (distS dist)).2 = _
    omega
/-- The end. -/
theorem end_back {bs : List UInt8} {most : Int} {ll : List Int} {D : Option (List Int)} {s : RS} {k : Nat} (hl : CodesOK ll) (f : Nat) (hk : ll[256]? = some (k : Int)) (hk0 : 0 < k) (he : s.e = 0) (h : Bits bs s.p (codeB ll 256)) :
    toksF bs most ll D (f + 1) s = ⟨s.p + (codeB ll 256).length, s.out, 0⟩ := by
  rw [toksF, if_pos he, nextP_bits hl hk hk0 h he]
  show (if (0 : Int) = 0 then _ else _) = _
  rw [if_pos rfl, if_pos (show ((256 : Nat) : Int) = 256 from rfl)]
theorem comF_eq (b : List UInt8) (i k : Nat) : ∀ f n j, n ≤ j → j < comF b i k f n → b.getD (i + j) 0 = b.getD (k + j) 0
  | 0, n, j, h1, h2 => by
    rw [comF] at h2
    omega
  | f + 1, n, j, h1, h2 => by
    rw [comF] at h2
    split at h2
    · rename_i hh
      by_cases e : j = n
      · subst e; exact hh.2
      · exact comF_eq b i k f (n + 1) j (by omega) h2
    · omega
theorem matF_copy (b : List UInt8) (a : Nat) : ∀ (f p best dist : Nat), p ≤ a → (∀ j, a ≤ j → j < a + best → b.getD j 0 = b.getD (j - dist) 0) → ∀ j, a ≤ j → j < a + (matF b a f p best dist).1 → b.getD j 0 = b.getD (j - (matF b a f p best dist).2) 0
  | 0, p, best, dist, hp, h => h
  | f + 1, p, best, dist, hp, h => by
    rw [matF]
    split
    · exact h
    · rename_i hh
      have hp0 : ¬ p = 0 := fun e => hh (.inl e)
      have hq : prevP b (p - 1) ≤ a := by have := (prevP_le b (p - 1)).1; omega
      split
      · refine matF_copy b a f _ _ _ hq (fun j h1 h2 => ?_)
        have h3 := comF_eq b (p - 1) a 258 0 (j - a) (Nat.zero_le _) (by show j - a < comP b (p - 1) a; omega)
        rw [show a + (j - a) = j by omega] at h3
        rw [← h3]
        congr 1
        omega
      · exact matF_copy b a f _ _ _ hq h
theorem matP_copy (b : List UInt8) (a : Nat) : (matP b a).1 = 0 ∨ ∀ j, a ≤ j → j < a + (matP b a).1 → b.getD j 0 = b.getD (j - (matP b a).2) 0 := by
  unfold matP
  split
  · exact .inl rfl
  · exact .inr (matF_copy b a 64 _ 0 0 (lastP_le b (tri b a) a).1 (fun j h1 h2 => by omega))
theorem tokB_pos {ll dd : List Int} {t : Tok} (hl : CodesOK ll) (hc : TokC ll dd t) : 1 ≤ (tokB ll dd t).length := by
  obtain ⟨⟨k, hk, hk0⟩, -⟩ := hc
  unfold tokB
  unfold symT at hk
  split
  · rename_i e
    rw [if_pos e] at hk
    rw [codeB_at hk hk0, msb_len]
    exact hk0
  · rename_i e
    rw [if_neg e] at hk
    rw [List.length_append, List.length_append, List.length_append, codeB_at hk hk0, msb_len]
    omega
/-- All tokens and the end. -/
theorem toks_back {bs b : List UInt8} {most : Int} {ll dd : List Int} (hl : CodesOK ll) (hd : CodesOK dd) (hm : ((b.length : Nat) : Int) ≤ most) (h256 : ∃ k : Nat, ll[256]? = some (k : Int) ∧ 0 < k) : ∀ (fb a f : Nat) (s : RS), a ≤ b.length → b.length ≤ a + fb → s.e = 0 → s.out = b.take a → (∀ t ∈ findF b fb a, TokC ll dd t) → Bits bs s.p (toksB ll dd (findF b fb a)) → (toksB ll dd (findF b fb a)).length ≤ f →
    toksF bs most ll (some dd) f s = ⟨s.p + (toksB ll dd (findF b fb a)).length, b, 0⟩
  | fb, a, f, s, ha, hfb, he, ho, hc, h, hf => by
    obtain ⟨k, hk, hk0⟩ := h256
    by_cases hlt : a < b.length
    · obtain ⟨fb, rfl⟩ : ∃ g, fb = g + 1 := ⟨fb - 1, by omega⟩
      have e : findF b (fb + 1) a = tokAt b a :: findF b fb (a + stepAt b a) := if_pos hlt
      have et : toksB ll dd (findF b (fb + 1) a) = tokB ll dd (tokAt b a) ++ toksB ll dd (findF b fb (a + stepAt b a)) := by
        rw [e]
        unfold toksB
        rw [List.flatMap_cons, List.append_assoc]
      rw [e] at hc
      rw [et] at h hf ⊢
      rw [List.length_append] at hf ⊢
      have hst := stepAt_ok hlt
      have hc0 := hc (tokAt b a) (List.mem_cons_self ..)
      have hp := tokB_pos hl hc0
      obtain ⟨f, rfl⟩ : ∃ g, f = g + 1 := ⟨f - 1, by omega⟩
      rw [tok_back hl hd f hc0 hlt hm he ho (matP_copy b a) h.left]
      have := toks_back hl hd hm ⟨k, hk, hk0⟩ fb (a + stepAt b a) f ⟨s.p + (tokB ll dd (tokAt b a)).length, b.take (a + stepAt b a), 0⟩ hst.2.1 (by omega) rfl rfl (fun t ht => hc t (List.mem_cons_of_mem _ ht)) h.right (by omega)
      rw [this]
      congr 1
      show s.p + (tokB ll dd (tokAt b a)).length + _ = _
      omega
    · obtain rfl : a = b.length := by omega
      have e : findF b fb b.length = [] := by
        cases fb with
        | zero => rfl
        | succ fb => exact if_neg hlt
      rw [e] at h hf ⊢
      have et : toksB ll dd [] = codeB ll 256 := rfl
      rw [et] at h hf ⊢
      have hp : 1 ≤ (codeB ll 256).length := by rw [codeB_at hk hk0, msb_len]; exact hk0
      obtain ⟨f, rfl⟩ : ∃ g, f = g + 1 := ⟨f - 1, by omega⟩
      rw [end_back hl f hk hk0 he h, ho, List.take_length]
end Go.Proofs.Ytfafijhmjnkjeaa

/- flate: what is written is read back, plainly: a stored block, a block of the fixed codes. -/
namespace Go.Proofs.Ytfafijhmjnkjeaa
set_option linter.all false

theorem plnF_back {bs : List UInt8} {most : Int} : ∀ (l : List UInt8) (s : RS), s.e = 0 → ((s.out.length + l.length : Nat) : Int) ≤ most → Bits bs s.p (bytesB l) → plnF bs most l.length s = ⟨s.p + 8 * l.length, s.out ++ l, 0⟩
  | [], s, he, hm, h => by
    rw [List.length_nil, plnF, List.append_nil, Nat.mul_zero, Nat.add_zero, ← he]
  | x :: r, s, he, hm, h => by
    have e : bytesB (x :: r) = lsb x.toNat 8 ++ bytesB r := by unfold bytesB; rw [List.flatMap_cons]
    rw [e] at h
    rw [List.length_cons] at hm ⊢
    have hg := getP_bits h.left x.toNat_lt he
    have h2 := h.right
    rw [lsb_len] at h2
    have hgv : givesP most ⟨s.p + 8, s.out, 0⟩ (UInt8.ofNat x.toNat) = ⟨s.p + 8, s.out ++ [x], 0⟩ := by
      unfold givesP
      rw [if_neg (by show ¬ most ≤ (s.out.length : Int); omega), UInt8.ofNat_toNat]
    rw [plnF, if_pos he, hg]
    show (if (0 : Int) = 0 then _ else _) = _
    rw [if_pos rfl]
    show plnF bs most r.length (givesP most ⟨s.p + 8, s.out, 0⟩ (UInt8.ofNat x.toNat)) = _
    rw [hgv, plnF_back r ⟨s.p + 8, s.out ++ [x], 0⟩ rfl (by show (((s.out ++ [x]).length + r.length : Nat) : Int) ≤ most; rw [List.length_append]; show ((s.out.length + 1 + r.length : Nat) : Int) ≤ most; omega) h2]
    show RS.mk (s.p + 8 + 8 * r.length) (s.out ++ [x] ++ r) 0 = _
    rw [List.append_assoc]
    congr 1
    omega
theorem plain_back {bs l : List UInt8} {most : Int} {s : RS} (he : s.e = 0) (hl : l.length ≤ 65535) (hm : ((s.out.length + l.length : Nat) : Int) ≤ most) (h : Bits bs (8 * ((s.p + 7) / 8)) (lsb l.length 16 ++ lsb (65535 - l.length) 16 ++ bytesB l)) :
    plainP bs most s = ⟨8 * ((s.p + 7) / 8) + 32 + 8 * l.length, s.out ++ l, 0⟩ := by
  have h1 := getP_bits (s := pl0 s) h.left.left (show l.length < 2 ^ 16 by omega) he
  have hb2 := h.left.right
  rw [lsb_len] at hb2
  have h2 := getP_bits (s := ⟨8 * ((s.p + 7) / 8) + 16, s.out, 0⟩) hb2 (show 65535 - l.length < 2 ^ 16 by omega) rfl
  have hb3 := h.right
  rw [List.length_append, lsb_len, lsb_len] at hb3
  have e2 : getP bs (getP bs (pl0 s) 16).2 16 = (65535 - l.length, ⟨8 * ((s.p + 7) / 8) + 16 + 16, s.out, 0⟩) := by rw [h1]; exact h2
  have e3 : pl3 bs s = ⟨8 * ((s.p + 7) / 8) + 16 + 16, s.out, 0⟩ := by
    unfold pl3
    rw [if_neg (fun hh => hh.2 (by rw [e2, h1]; show l.length + (65535 - l.length) = 65535; omega))]
    unfold pl2
    rw [e2]
  unfold plainP
  rw [e3, h1]
  exact plnF_back l ⟨8 * ((s.p + 7) / 8) + 16 + 16, s.out, 0⟩ rfl hm hb3
theorem stored_back {bz b : List UInt8} {most : Int} (hb : b.length ≤ 40000) (hm : ((b.length : Nat) : Int) ≤ most) (hw : WB bz (plainL b)) (f : Nat) :
    blk0 bz ⟨0, [], 0⟩ = 1 ∧ blkP bz most f ⟨0, [], 0⟩ = ⟨(plainL b).length, b, 0⟩ := by
  have h := hw.bits
  have hh : Bits bz 0 (headL 0) := by
    have : Bits bz 0 (alignL (headL 0)) := by unfold plainL at h; exact h.left.left.left
    unfold alignL at this
    exact this.left
  obtain ⟨h0, h1, h2⟩ := head_bits (s := ⟨0, [], 0⟩) hh (by decide) rfl
  refine ⟨h0, ?_⟩
  have hr : Bits bz 8 (lsb b.length 16 ++ lsb (65535 - b.length) 16 ++ bytesB b) := by
    unfold plainL at h
    rw [List.append_assoc, List.append_assoc] at h
    have := h.right
    rw [alignL_len, headL_len] at this
    rw [List.append_assoc]
    exact this
  unfold blkP
  rw [h1, h2]
  show plainP bz most ⟨3, [], 0⟩ = _
  rw [plain_back (s := ⟨3, [], 0⟩) rfl (by omega) (by show ((0 + b.length : Nat) : Int) ≤ most; omega) hr, plainL_len]
  show RS.mk (8 + 32 + 8 * b.length) ([] ++ b) 0 = _
  rw [List.nil_append]
theorem fixO_pos (p : Nat) : ∃ k : Nat, fixO p = (k : Int) ∧ 0 < k := by
  unfold fixO
  split
  · exact ⟨8, rfl, by omega⟩
  · split
    · exact ⟨9, rfl, by omega⟩
    · split
      · exact ⟨7, rfl, by omega⟩
      · exact ⟨8, rfl, by omega⟩
theorem fix_tokC {t : Tok} (h : TokOK t) : TokC fixL fixD t := by
  obtain ⟨h1, h2⟩ := fix_in h
  rw [fixL_len] at h1
  refine ⟨?_, fun p hp => ?_⟩
  · obtain ⟨k, hk, hk0⟩ := fixO_pos (symT t)
    exact ⟨k, by rw [fixL_get h1, hk], hk0⟩
  · have := h2 p hp
    rw [fixD_len] at this
    exact ⟨5, by unfold fixD; rw [List.getElem?_replicate, if_pos (by omega)]; rfl, by omega⟩
theorem fixed_back {bz b : List UInt8} {most : Int} (hm : ((b.length : Nat) : Int) ≤ most) (hw : WB bz (fixB (findP b))) {f : Nat} (hf : 8 * bz.length + 1 ≤ f) :
    blk0 bz ⟨0, [], 0⟩ = 1 ∧ blkP bz most f ⟨0, [], 0⟩ = ⟨(fixB (findP b)).length, b, 0⟩ := by
  have h := hw.bits
  unfold fixB at h
  obtain ⟨h0, h1, h2⟩ := head_bits (s := ⟨0, [], 0⟩) h.left (by decide) rfl
  refine ⟨h0, ?_⟩
  unfold blkP
  rw [h1, h2]
  have hr := h.right
  rw [headL_len] at hr
  show toksF bz most fixL (some fixD) f ⟨3, [], 0⟩ = _
  have hl9 := hr.1
  rw [toks_back (b := b) fixL_ok fixD_ok hm ⟨7, by rw [fixL_get (by omega)]; rfl, by omega⟩ b.length 0 f ⟨3, [], 0⟩ (Nat.zero_le _) (by omega) rfl rfl (fun t ht => fix_tokC ((findP_ok b).1 t ht)) hr (by show (toksB fixL fixD (findP b)).length ≤ f; omega)]
  unfold fixB
  rw [List.length_append, headL_len]
  rfl
end Go.Proofs.Ytfafijhmjnkjeaa

/- flate: lists of lengths written are read back, plainly. -/
namespace Go.Proofs.Ytfafijhmjnkjeaa
set_option linter.all false

/-- What signs stand for. -/
def expS (l : List Int) (s : Sgn) : List Int := if s.1 < 16 then l ++ [(s.1 : Int)] else if s.1 = 16 then l ++ List.replicate (3 + s.2.1) (l.getD (l.length - 1) 0) else if s.1 = 17 then l ++ List.replicate (3 + s.2.1) 0 else l ++ List.replicate (11 + s.2.1) 0
def SgnF (s : Sgn) : Prop := (s.1 < 16 ∧ s.2.1 = 0 ∧ s.2.2 = 0) ∨ (s.1 = 16 ∧ s.2.1 < 4 ∧ s.2.2 = 2) ∨ (s.1 = 17 ∧ s.2.1 < 8 ∧ s.2.2 = 3) ∨ (s.1 = 18 ∧ s.2.1 < 128 ∧ s.2.2 = 7)
def Exp : List Int → List Sgn → List Int → Prop
  | pre, [], res => pre = res
  | pre, s :: r, res => SgnF s ∧ (s.1 = 16 → pre ≠ []) ∧ Exp (expS pre s) r res
theorem Exp.app : ∀ {s : List Sgn} {a b c : List Int} {t : List Sgn}, Exp a s b → Exp b t c → Exp a (s ++ t) c
  | [], a, b, c, t, h1, h2 => by
    have : a = b := h1
    subst this
    exact h2
  | x :: s, a, b, c, t, h1, h2 => ⟨h1.1, h1.2.1, Exp.app h1.2.2 h2⟩
theorem expS_len (l : List Int) (s : Sgn) : l.length < (expS l s).length := by
  unfold expS
  split
  · simp
  · split
    · simp
      omega
    · split
      · simp
        omega
      · simp
        omega
theorem Exp.le : ∀ {s : List Sgn} {a b : List Int}, Exp a s b → a.length ≤ b.length
  | [], a, b, h => by
    have : a = b := h
    subst this
    exact Nat.le_refl _
  | x :: s, a, b, h => Nat.le_trans (Nat.le_of_lt (expS_len a x)) (Exp.le h.2.2)
theorem repl_app (l : List Int) (x : Int) (i j : Nat) : l ++ List.replicate i x ++ List.replicate j x = l ++ List.replicate (i + j) x := by
  rw [List.append_assoc, List.replicate_append_replicate]
theorem exp_lits (x : Nat) (hx : x < 16) : ∀ (n : Nat) (pre : List Int), Exp pre (List.replicate n (x, 0, 0)) (pre ++ List.replicate n (x : Int))
  | 0, pre => by
    show pre = pre ++ []
    rw [List.append_nil]
  | n + 1, pre => by
    rw [List.replicate_succ]
    refine ⟨.inl ⟨hx, rfl, rfl⟩, fun e => absurd (show x = 16 from e) (by omega), ?_⟩
    have e : expS pre (x, 0, 0) = pre ++ [(x : Int)] := if_pos hx
    rw [e]
    have := exp_lits x hx n (pre ++ [(x : Int)])
    rwa [List.append_assoc, show [(x : Int)] ++ List.replicate n (x : Int) = List.replicate (n + 1) (x : Int) by rw [List.replicate_succ]; rfl] at this
theorem exp_zTail {n : Nat} (hn : ¬ 11 ≤ n) (pre : List Int) : Exp pre (zTail n) (pre ++ List.replicate n 0) := by
  unfold zTail
  split
  · refine ⟨.inr (.inr (.inl ⟨rfl, by show n - 3 < 8; omega, rfl⟩)), fun e => absurd (show (17 : Nat) = 16 from e) (by decide), ?_⟩
    show pre ++ List.replicate (3 + (n - 3)) 0 = pre ++ List.replicate n 0
    rw [show 3 + (n - 3) = n by omega]
  · exact exp_lits 0 (by omega) n pre
theorem exp_zerosF : ∀ (f n : Nat) (pre : List Int), n ≤ f → Exp pre (zerosF f n) (pre ++ List.replicate n 0)
  | 0, n, pre, h => exp_zTail (by omega) pre
  | f + 1, n, pre, h => by
    by_cases e : 11 ≤ n
    · rw [zerosF_big e]
      refine ⟨.inr (.inr (.inr ⟨rfl, by show min n 138 - 11 < 128; omega, rfl⟩)), fun e => absurd (show (18 : Nat) = 16 from e) (by decide), ?_⟩
      have e1 : expS pre (18, min n 138 - 11, 7) = pre ++ List.replicate (min n 138) 0 := by
        show pre ++ List.replicate (11 + (min n 138 - 11)) 0 = _
        rw [show 11 + (min n 138 - 11) = min n 138 by omega]
      rw [e1]
      have := exp_zerosF f (n - min n 138) (pre ++ List.replicate (min n 138) 0) (by omega)
      rwa [repl_app, show min n 138 + (n - min n 138) = n by omega] at this
    · rw [zerosF_small e]; exact exp_zTail e pre
theorem getD_last (pre : List Int) (x : Int) (i : Nat) : (pre ++ [x] ++ List.replicate i x).getD ((pre ++ [x] ++ List.replicate i x).length - 1) 0 = x := by
  rw [List.getD_eq_getElem?_getD]
  cases i with
  | zero => simp
  | succ i =>
    rw [List.getElem?_append_right (by simp), List.getElem?_replicate, if_pos (by simp; omega)]
    rfl
theorem exp_othersF (x : Nat) (hx : x < 16) : ∀ (f n i : Nat) (pre : List Int), n ≤ f → Exp (pre ++ [(x : Int)] ++ List.replicate i (x : Int)) (othersF x f n) (pre ++ [(x : Int)] ++ List.replicate (i + n) (x : Int))
  | 0, n, i, pre, h => by
    obtain rfl : n = 0 := by omega
    rfl
  | f + 1, n, i, pre, h => by
    by_cases e : 3 ≤ n
    · rw [othersF_big e]
      refine ⟨.inr (.inl ⟨rfl, by show min n 6 - 3 < 4; omega, rfl⟩), fun _ h0 => by simp at h0, ?_⟩
      have e1 : expS (pre ++ [(x : Int)] ++ List.replicate i (x : Int)) (16, min n 6 - 3, 2) = pre ++ [(x : Int)] ++ List.replicate (i + min n 6) (x : Int) := by
        show pre ++ [(x : Int)] ++ List.replicate i (x : Int) ++ List.replicate (3 + (min n 6 - 3)) ((pre ++ [(x : Int)] ++ List.replicate i (x : Int)).getD ((pre ++ [(x : Int)] ++ List.replicate i (x : Int)).length - 1) 0) = _
        rw [getD_last, repl_app, show 3 + (min n 6 - 3) = min n 6 by omega]
      rw [e1]
      have := exp_othersF x hx f (n - min n 6) (i + min n 6) pre (by omega)
      rwa [show i + min n 6 + (n - min n 6) = i + n by omega] at this
    · rw [othersF_small e]
      have := exp_lits x hx n (pre ++ [(x : Int)] ++ List.replicate i (x : Int))
      rwa [repl_app] at this
theorem same_take (x : Int) : ∀ l : List Int, l.take (same x l) = List.replicate (same x l) x
  | [] => rfl
  | y :: r => by
    unfold same
    split
    · rename_i e
      rw [List.take_succ_cons, same_take x r, e, List.replicate_succ]
    · rfl
theorem exp_runs : ∀ (f : Nat) (l pre : List Int), l.length ≤ f → (∀ y ∈ l, 0 ≤ y ∧ y ≤ 15) → Exp pre (runsF f l) (pre ++ l)
  | 0, l, pre, h, _ => by
    obtain rfl : l = [] := List.eq_nil_of_length_eq_zero (by omega)
    show pre = pre ++ []
    rw [List.append_nil]
  | f + 1, [], pre, _, _ => by
    show pre = pre ++ []
    rw [List.append_nil]
  | f + 1, x :: r, pre, h, hr => by
    have hx := hr x (List.mem_cons_self ..)
    have e : pre ++ x :: r = pre ++ [x] ++ List.replicate (same x r) x ++ r.drop (same x r) := by
      rw [← same_take, List.append_assoc, List.take_append_drop, List.append_assoc]
      rfl
    rw [runsF, e]
    refine Exp.app ?_ (exp_runs f (r.drop (same x r)) _ (by rw [List.length_drop]; rw [List.length_cons] at h; omega) (fun y hy => hr y (List.mem_cons_of_mem _ (List.mem_of_mem_drop hy))))
    split
    · rename_i h0
      have := exp_zerosF (same x r + 1) (same x r + 1) pre (Nat.le_refl _)
      rw [h0, List.append_assoc, show [(0 : Int)] ++ List.replicate (same 0 r) 0 = List.replicate (same 0 r + 1) 0 by rw [List.replicate_succ]; rfl]
      rw [h0] at this
      exact this
    · unfold othersP
      have hxn : ((x.toNat : Nat) : Int) = x := by omega
      refine ⟨.inl ⟨by show x.toNat < 16; omega, rfl, rfl⟩, fun e => absurd (show x.toNat = 16 from e) (by omega), ?_⟩
      have e1 : expS pre (x.toNat, 0, 0) = pre ++ [((x.toNat : Nat) : Int)] ++ List.replicate 0 ((x.toNat : Nat) : Int) := by
        rw [List.replicate_zero, List.append_nil]
        exact if_pos (by show x.toNat < 16; omega)
      rw [e1]
      have := exp_othersF x.toNat (by omega) (same x r + 1 - 1) (same x r + 1 - 1) 0 pre (Nat.le_refl _)
      rw [hxn] at this ⊢
      rwa [Nat.zero_add, Nat.add_sub_cancel] at this
/-- Signs of one kind alone. -/
theorem exp_const {v : Nat} (hv : v < 16) : ∀ {s : List Sgn} {a b : List Int}, Exp a s b → (∀ x ∈ s, x.1 = v) → b = a ++ List.replicate s.length (v : Int)
  | [], a, b, h, _ => by
    have : a = b := h
    rw [← this]
    exact (List.append_nil a).symm
  | x :: s, a, b, h, hs => by
    have hx := hs x (List.mem_cons_self ..)
    have := exp_const hv h.2.2 (fun y hy => hs y (List.mem_cons_of_mem _ hy))
    have e : expS a x = a ++ [(v : Int)] := by unfold expS; rw [if_pos (by omega), hx]
    rw [this, e, List.append_assoc, List.length_cons, List.replicate_succ]
    rfl
theorem exp_zero : ∀ {s : List Sgn} {a b : List Int}, Exp a s b → (∀ x ∈ s, 17 ≤ x.1) → ∀ y ∈ b, y ∈ a ∨ y = 0
  | [], a, b, h, _ => fun y hy => by
    have : a = b := h
    rw [this]
    exact .inl hy
  | x :: s, a, b, h, hs => fun y hy => by
    have hx := hs x (List.mem_cons_self ..)
    rcases exp_zero h.2.2 (fun z hz => hs z (List.mem_cons_of_mem _ hz)) y hy with h1 | h1
    · unfold expS at h1
      rw [if_neg (by omega), if_neg (by omega)] at h1
      split at h1
      · rw [List.mem_append, List.mem_replicate] at h1
        rcases h1 with h1 | h1
        · exact .inl h1
        · exact .inr h1.2
      · rw [List.mem_append, List.mem_replicate] at h1
        rcases h1 with h1 | h1
        · exact .inl h1
        · exact .inr h1.2
    · exact .inr h1
theorem same_repl (x : Int) : ∀ n, same x (List.replicate n x) = n
  | 0 => rfl
  | n + 1 => by rw [List.replicate_succ]; show (if x = x then same x (List.replicate n x) + 1 else 0) = n + 1; rw [if_pos rfl, same_repl x n]
/-- Two unlike signs at least. -/
theorem two_signs {l : List Int} (hl : 20 ≤ l.length) (hr : ∀ y ∈ l, 0 ≤ y ∧ y ≤ 15) (hp : ∃ y ∈ l, 0 < y) : ∃ s ∈ runsP l, ∃ t ∈ runsP l, s.1 ≠ t.1 := by
  have he := exp_runs l.length l [] (Nat.le_refl _) hr
  rw [List.nil_append] at he
  cases hs : runsP l with
  | nil =>
    unfold runsP at hs
    rw [hs] at he
    have : ([] : List Int) = l := he
    rw [← this] at hl
    simp at hl
  | cons s r =>
    refine Decidable.byContradiction fun hn => ?_
    have hall : ∀ x ∈ runsP l, x.1 = s.1 := fun x hx => Decidable.byContradiction fun hne => hn ⟨x, by rw [← hs]; exact hx, s, List.mem_cons_self .., hne⟩
    have hf : SgnF s ∧ (s.1 = 16 → ([] : List Int) ≠ []) := by
      unfold runsP at hs
      rw [hs] at he
      exact ⟨he.1, he.2.1⟩
    by_cases h16 : s.1 < 16
    · have h1 := exp_const h16 he hall
      rw [List.nil_append] at h1
      generalize (runsF l.length l).length = k at h1
      have hk : k = l.length := by rw [h1, List.length_replicate]
      subst hk
      obtain ⟨m, hm⟩ : ∃ m, l.length = m + 1 := ⟨l.length - 1, by omega⟩
      have h2 : runsP l = (if (s.1 : Int) = 0 then zerosP (m + 1) else othersP ((s.1 : Int)).toNat (m + 1)) ++ runsF m ((List.replicate m (s.1 : Int)).drop m) := by
        unfold runsP
        rw [hm] at h1 ⊢
        rw [h1, List.replicate_succ, runsF, same_repl]
      by_cases h0 : (s.1 : Int) = 0
      · rw [if_pos h0] at h2
        have h3 : zerosP (m + 1) = (18, min (m + 1) 138 - 11, 7) :: zerosF m (m + 1 - min (m + 1) 138) := by unfold zerosP; exact zerosF_big (by omega)
        have := hall (18, min (m + 1) 138 - 11, 7) (by rw [h2, h3]; simp)
        have h4 : (18 : Nat) = s.1 := this
        omega
      · rw [if_neg h0] at h2
        obtain ⟨q, hq⟩ : ∃ q, m = q + 1 := ⟨m - 1, by omega⟩
        have h3 : othersP ((s.1 : Int)).toNat (m + 1) = (((s.1 : Int)).toNat, 0, 0) :: (16, min m 6 - 3, 2) :: othersF ((s.1 : Int)).toNat q (m - min m 6) := by
          unfold othersP
          rw [Nat.add_sub_cancel, hq, othersF_big (by omega)]
        have := hall (16, min m 6 - 3, 2) (by rw [h2, h3]; simp)
        have h4 : (16 : Nat) = s.1 := this
        omega
    · by_cases h17 : s.1 = 16
      · exact hf.2 h17 rfl
      · obtain ⟨y, hy, hy0⟩ := hp
        rcases exp_zero he (fun x hx => by rw [hall x hx]; omega) y hy with h1 | h1
        · cases h1
        · omega
theorem sgn_back {bs : List UInt8} {cl : List Int} {all : Nat} {l : List Int} {s : RS} {sg : Sgn} (hok : CodesOK cl) (f : Nat) (hc : ∃ k : Nat, cl[sg.1]? = some (k : Int) ∧ 0 < k) (hf : SgnF sg) (h16 : sg.1 = 16 → l ≠ []) (hl : (expS l sg).length ≤ all) (he : s.e = 0) (h : Bits bs s.p (sgnB cl sg)) :
    listF bs cl all (f + 1) l s = listF bs cl all f (expS l sg) ⟨s.p + (sgnB cl sg).length, s.out, 0⟩ := by
  obtain ⟨k, hk, hk0⟩ := hc
  have hlt := expS_len l sg
  have hrep : ∀ (x : Int) (n : Nat) (t : RS), t.e = 0 → l.length + n ≤ all → repP l x n all t = (l ++ List.replicate n x, t) := fun x n t ht hn => by
    have r0 : rep0 l n all t = t := if_neg (fun hh => by have := hh.2; omega)
    unfold repP
    rw [r0, if_pos ht]
  have hn := nextP_bits hok hk hk0 h.left he
  have hbr := h.right
  have hsl : (sgnB cl sg).length = (codeB cl sg.1).length + sg.2.2 := by unfold sgnB; rw [List.length_append, lsb_len]
  rw [hsl]
  rw [listF, if_pos ⟨by omega, he⟩, hn]
  show (if (0 : Int) = 0 then _ else _) = _
  rw [if_pos rfl]
  rcases hf with ⟨h1, h2, h3⟩ | ⟨h1, h2, h3⟩ | ⟨h1, h2, h3⟩ | ⟨h1, h2, h3⟩
  · have e1 : expS l sg = l ++ [(sg.1 : Int)] := if_pos h1
    rw [if_pos (show ((sg.1 : Nat) : Int) < 16 by omega), e1, h3]
    rfl
  · have e1 : expS l sg = l ++ List.replicate (3 + sg.2.1) (l.getD (l.length - 1) 0) := by unfold expS; rw [if_neg (by omega), if_pos h1]
    have hlen : l.length + (3 + sg.2.1) ≤ all := by rw [e1, List.length_append, List.length_replicate] at hl; exact hl
    have hl0 : ¬ l.length = 0 := fun hh => h16 h1 (List.eq_nil_of_length_eq_zero hh)
    rw [if_neg (show ¬ ((sg.1 : Nat) : Int) < 16 by omega), if_pos (show ((sg.1 : Nat) : Int) = 16 by omega), if_neg hl0, e1]
    have hg := getP_bits (s := ⟨s.p + (codeB cl sg.1).length, s.out, 0⟩) hbr (by rw [h3]; exact h2) rfl
    rw [h3] at hg ⊢
    rw [hg, hrep _ _ _ rfl hlen]
    rfl
  · have e1 : expS l sg = l ++ List.replicate (3 + sg.2.1) 0 := by unfold expS; rw [if_neg (by omega), if_neg (by omega), if_pos h1]
    have hlen : l.length + (3 + sg.2.1) ≤ all := by rw [e1, List.length_append, List.length_replicate] at hl; exact hl
    rw [if_neg (show ¬ ((sg.1 : Nat) : Int) < 16 by omega), if_neg (show ¬ ((sg.1 : Nat) : Int) = 16 by omega), if_pos (show ((sg.1 : Nat) : Int) = 17 by omega), e1]
    have hg := getP_bits (s := ⟨s.p + (codeB cl sg.1).length, s.out, 0⟩) hbr (by rw [h3]; exact h2) rfl
    rw [h3] at hg ⊢
    rw [hg, hrep _ _ _ rfl hlen]
    rfl
  · have e1 : expS l sg = l ++ List.replicate (11 + sg.2.1) 0 := by unfold expS; rw [if_neg (by omega), if_neg (by omega), if_neg (by omega)]
    have hlen : l.length + (11 + sg.2.1) ≤ all := by rw [e1, List.length_append, List.length_replicate] at hl; exact hl
    rw [if_neg (show ¬ ((sg.1 : Nat) : Int) < 16 by omega), if_neg (show ¬ ((sg.1 : Nat) : Int) = 16 by omega), if_neg (show ¬ ((sg.1 : Nat) : Int) = 17 by omega), e1]
    have hg := getP_bits (s := ⟨s.p + (codeB cl sg.1).length, s.out, 0⟩) hbr (by rw [h3]; exact h2) rfl
    rw [h3] at hg ⊢
    rw [hg, hrep _ _ _ rfl hlen]
    rfl
theorem signs_back {bs : List UInt8} {cl : List Int} {res : List Int} (hok : CodesOK cl) : ∀ (sgs : List Sgn) (l : List Int) (s : RS) (f : Nat), sgs.length + 1 ≤ f → Exp l sgs res → (∀ x ∈ sgs, ∃ k : Nat, cl[x.1]? = some (k : Int) ∧ 0 < k) → s.e = 0 → Bits bs s.p (sgs.flatMap (sgnB cl)) →
    listF bs cl res.length f l s = (res, ⟨s.p + (sgs.flatMap (sgnB cl)).length, s.out, 0⟩)
  | [], l, s, f, hf, h, hc, he, hb => by
    have : l = res := h
    subst this
    rw [listF_stop (fun hh => by have := hh.1; omega)]
    show _ = (l, RS.mk (s.p + 0) s.out 0)
    rw [Nat.add_zero, ← he]
  | x :: r, l, s, f, hf, h, hc, he, hb => by
    obtain ⟨f, rfl⟩ : ∃ g, f = g + 1 := ⟨f - 1, by simp at hf; omega⟩
    rw [List.flatMap_cons] at hb ⊢
    rw [sgn_back hok f (hc x (List.mem_cons_self ..)) h.1 h.2.1 (Exp.le h.2.2) he hb.left]
    rw [signs_back hok r (expS l x) ⟨s.p + (sgnB cl x).length, s.out, 0⟩ f (by simp at hf; omega) h.2.2 (fun y hy => hc y (List.mem_cons_of_mem _ hy)) rfl hb.right, List.length_append]
    show (res, RS.mk (s.p + (sgnB cl x).length + _) s.out 0) = _
    rw [Nat.add_assoc]
/-- The lengths of lengths. -/
theorem ords_back {bs : List UInt8} {cl : List Int} (hr : ∀ k, 0 ≤ cl.getD k 0 ∧ cl.getD k 0 ≤ 7) : ∀ (ks : List Nat) (l : List Int) (s : RS), s.e = 0 → Bits bs s.p (ks.flatMap fun k => lsb (cl.getD k 0).toNat 3) →
    lenRd bs ks l s = (ks.foldl (fun l k => l.set k (cl.getD k 0)) l, ⟨s.p + (ks.flatMap fun k => lsb (cl.getD k 0).toNat 3).length, s.out, 0⟩)
  | [], l, s, he, h => by
    show (l, s) = (l, RS.mk (s.p + 0) s.out 0)
    rw [Nat.add_zero, ← he]
  | k :: r, l, s, he, h => by
    rw [List.flatMap_cons] at h ⊢
    have hk := hr k
    have hg := getP_bits h.left (show (cl.getD k 0).toNat < 2 ^ 3 by omega) he
    have h2 := h.right
    rw [lsb_len] at h2
    rw [lenRd, hg, ords_back hr r _ ⟨s.p + 3, s.out, 0⟩ rfl h2, List.length_append, lsb_len, List.foldl_cons]
    show (r.foldl _ (l.set k (((cl.getD k 0).toNat : Nat) : Int)), RS.mk (s.p + 3 + _) s.out 0) = _
    rw [show (((cl.getD k 0).toNat : Nat) : Int) = cl.getD k 0 by omega, Nat.add_assoc]
theorem setF_get (cl : List Int) : ∀ (ks : List Nat) (l : List Int) (j : Nat), j < l.length → (ks.foldl (fun l k => l.set k (cl.getD k 0)) l)[j]? = some (if j ∈ ks then cl.getD j 0 else l.getD j 0)
  | [], l, j, h => by
    rw [if_neg (by simp), List.foldl_nil, List.getD_eq_getElem?_getD, List.getElem?_eq_getElem h]
    rfl
  | k :: r, l, j, h => by
    rw [List.foldl_cons, setF_get cl r (l.set k (cl.getD k 0)) j (by rw [List.length_set]; exact h)]
    by_cases h1 : j ∈ r
    · rw [if_pos h1, if_pos (List.mem_cons_of_mem _ h1)]
    · rw [if_neg h1]
      by_cases h2 : j = k
      · subst h2
        rw [if_pos (List.mem_cons_self ..), List.getD_eq_getElem?_getD, List.getElem?_set, if_pos rfl, if_pos h]
        rfl
      · rw [if_neg (by rw [List.mem_cons]; exact fun hh => hh.elim h2 h1), List.getD_eq_getElem?_getD, List.getElem?_set, if_neg (fun e => h2 e.symm), ← List.getD_eq_getElem?_getD]
theorem setF_len (cl : List Int) : ∀ (ks : List Nat) (l : List Int), (ks.foldl (fun l k => l.set k (cl.getD k 0)) l).length = l.length
  | [], l => rfl
  | k :: r, l => by rw [List.foldl_cons, setF_len cl r, List.length_set]
theorem hcK_zero (cl : List Int) : ∀ n m, hcK cl n ≤ m → m < n → cl.getD (ordL.getD m 0) 0 = 0
  | 0, m, h, h2 => by omega
  | n + 1, m, h, h2 => by
    unfold hcK at h
    split at h
    · rename_i hh
      by_cases e : m = n
      · subst e; exact hh.2
      · exact hcK_zero cl n m h (by omega)
    · omega
theorem ordL_all : ∀ j, j < 19 → ∃ m, m < 19 ∧ ordL.getD m 0 = j := by decide
/-- The lengths of lengths that are read are those that were written. -/
theorem setF_all {cl : List Int} (hl : cl.length = 19) : (ordL.take (hcK cl 19)).foldl (fun l k => l.set k (cl.getD k 0)) (List.replicate 19 0) = cl := by
  refine List.ext_getElem? fun j => ?_
  by_cases hj : j < 19
  · rw [setF_get cl _ _ j (by rw [List.length_replicate]; exact hj)]
    have hcj : cl[j]? = some (cl.getD j 0) := by rw [List.getD_eq_getElem?_getD, List.getElem?_eq_getElem (by omega)]; rfl
    rw [hcj]
    congr 1
    split
    · rfl
    · rename_i hn
      obtain ⟨m, hm, rfl⟩ := ordL_all j hj
      have : ¬ m < hcK cl 19 := fun hh => hn (by
        rw [List.mem_take_iff_getElem]
        refine ⟨m, by show m < min (hcK cl 19) 19; omega, ?_⟩
        rw [List.getD_eq_getElem?_getD, List.getElem?_eq_getElem (show m < ordL.length from hm)]
        rfl)
      rw [hcK_zero cl 19 m (by omega) hm, List.getD_eq_getElem?_getD, List.getElem?_replicate, if_pos hj]
      rfl
  · rw [List.getElem?_eq_none (by rw [setF_len, List.length_replicate]; omega), List.getElem?_eq_none (by omega)]
end Go.Proofs.Ytfafijhmjnkjeaa
