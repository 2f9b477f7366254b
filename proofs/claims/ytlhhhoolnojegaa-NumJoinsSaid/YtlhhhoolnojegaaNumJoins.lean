/- The walk of NumJoins: a byte turned has another Crc and another Adler; sums of three texts of one length by exclusive or. -/
import Derived.Test.YtlhhhoolnojegaaNumFirst
import Derived.Deep.DeepCutAuto
import Derived.Deep.RegionWith
namespace Go.Proofs.Ytlhhhoolnojegaa
set_option linter.all false
open Go.RowKit

theorem crcStep_eq (s : Nat) : crcStep s = (s / 2) ^^^ (if s % 2 = 1 then 3988292384 else 0) := by
  unfold crcStep; split <;> simp

theorem xor_div (a b : Nat) : (a ^^^ b) / 2 = (a / 2) ^^^ (b / 2) := by
  have := Nat.shiftRight_xor_distrib (a := a) (b := b) (i := 1)
  simpa [Nat.shiftRight_eq_div_pow] using this

theorem xor_odd (a b : Nat) : (a ^^^ b) % 2 = (a % 2 + b % 2) % 2 := by
  have h1 := Nat.xor_mod_two_eq_one (a := a) (b := b)
  omega

theorem crcStep_xor (a b : Nat) : crcStep (a ^^^ b) = crcStep a ^^^ crcStep b := by
  rw [crcStep_eq, crcStep_eq, crcStep_eq, xor_div, xor_odd]
  rcases Nat.mod_two_eq_zero_or_one a with h1 | h1 <;> rcases Nat.mod_two_eq_zero_or_one b with h2 | h2 <;> simp [h1, h2]
  · ac_rfl
  · ac_rfl
  · have : (a / 2 ^^^ 3988292384 ^^^ (b / 2 ^^^ 3988292384)) = (a / 2 ^^^ b / 2) ^^^ (3988292384 ^^^ 3988292384) := by ac_rfl
    rw [this]; simp

theorem crcIt_xor (a b : Nat) (k : Nat) : crcIt (a ^^^ b) k = crcIt a k ^^^ crcIt b k := by
  induction k with
  | zero => rfl
  | succ k ih => simp only [crcIt, ih, crcStep_xor]

section
attribute [local irreducible] crcIt crcStep

def crcF (s : Nat) (l : List UInt8) : Nat := l.foldl (fun s x => crcIt (s ^^^ x.toNat) 8) s
theorem crcF_cons (s : Nat) (x : UInt8) (l : List UInt8) : crcF s (x :: l) = crcF (crcIt (s ^^^ x.toNat) 8) l := rfl

theorem crcF_xor (a : List UInt8) : ∀ (b : List UInt8) (s t : Nat), a.length = b.length → crcF (s ^^^ t) (List.zipWith (· ^^^ ·) a b) = crcF s a ^^^ crcF t b := by
  induction a with
  | nil =>
    intro b s t h
    have : b = [] := List.eq_nil_of_length_eq_zero h.symm
    subst this
    rfl
  | cons x a ih =>
    intro b s t h
    match b, h with
    | y :: b, h =>
      rw [List.zipWith_cons_cons, crcF_cons, crcF_cons, crcF_cons, UInt8.toNat_xor]
      have e : s ^^^ t ^^^ (x.toNat ^^^ y.toNat) = (s ^^^ x.toNat) ^^^ (t ^^^ y.toNat) := by ac_rfl
      rw [e, crcIt_xor]
      exact ih b _ _ (by simpa using h)

end

def xor3 (a b c : List UInt8) : List UInt8 := List.zipWith (· ^^^ ·) (List.zipWith (· ^^^ ·) a b) c
theorem xor3_len (a b c : List UInt8) (h1 : b.length = a.length) (h2 : c.length = a.length) : (xor3 a b c).length = a.length := by simp [xor3, h1, h2]
theorem xor3_get (a b c : List UInt8) (k : Nat) (h : k < (xor3 a b c).length) (ha : k < a.length) (hb : k < b.length) (hc : k < c.length) : (xor3 a b c)[k] = a[k] ^^^ b[k] ^^^ c[k] := by simp [xor3]

theorem xor3_at (a b c : List UInt8) {k : Nat} {x y z : UInt8} (h1 : a[k]? = some x) (h2 : b[k]? = some y) (h3 : c[k]? = some z) : (xor3 a b c)[k]? = some (x ^^^ y ^^^ z) := by
  simp [xor3, List.getElem?_zipWith, h1, h2, h3]

theorem crc_xor3 (a b c : List UInt8) (h1 : b.length = a.length) (h2 : c.length = a.length) : crc (xor3 a b c) = crc a ^^^ crc b ^^^ crc c := by
  have h3 := crcF_xor a b 4294967295 4294967295 h1.symm
  have h4 := crcF_xor (List.zipWith (· ^^^ ·) a b) c (4294967295 ^^^ 4294967295) 4294967295 (by simp [h1, h2])
  rw [h3] at h4
  have e : (4294967295 ^^^ 4294967295 ^^^ 4294967295 : Nat) = 4294967295 := by decide
  rw [e] at h4
  show 4294967295 ^^^ crcF 4294967295 _ = (4294967295 ^^^ crcF 4294967295 a) ^^^ (4294967295 ^^^ crcF 4294967295 b) ^^^ (4294967295 ^^^ crcF 4294967295 c)
  rw [xor3, h4]
  generalize crcF 4294967295 a = A
  generalize crcF 4294967295 b = B
  generalize crcF 4294967295 c = C
  have e2 : (4294967295 ^^^ A) ^^^ (4294967295 ^^^ B) ^^^ (4294967295 ^^^ C) = (4294967295 ^^^ 4294967295) ^^^ (4294967295 ^^^ (A ^^^ B ^^^ C)) := by ac_rfl
  rw [e2]
  simp

theorem crcStep_zero (s : Nat) (h : s < 4294967296) (h0 : crcStep s = 0) : s = 0 := by
  unfold crcStep at h0
  split at h0
  · have h1 : s / 2 = 3988292384 := by
      have e : s / 2 = (s / 2 ^^^ 3988292384) ^^^ 3988292384 := by rw [Nat.xor_assoc]; simp
      rw [h0] at e
      simpa using e
    omega
  · omega
theorem crcIt_zero (s : Nat) (h : s < 4294967296) : ∀ k, crcIt s k = 0 → s = 0
  | 0, h0 => h0
  | k + 1, h0 => crcIt_zero s h k (crcStep_zero _ (crcIt_lt h k) h0)
theorem xor_eq_zero (a b : Nat) (h : a ^^^ b = 0) : a = b := by
  have e : a = (a ^^^ b) ^^^ b := by rw [Nat.xor_assoc]; simp
  rw [h] at e
  simpa using e
theorem crcIt_inj (s t : Nat) (hs : s < 4294967296) (ht : t < 4294967296) (k : Nat) (h : crcIt s k = crcIt t k) : s = t := by
  apply xor_eq_zero
  refine crcIt_zero _ (Nat.xor_lt_two_pow (n := 32) (by omega) (by omega)) k ?_
  rw [crcIt_xor, h]; simp
theorem crcF_lt (l : List UInt8) (s : Nat) (h : s < 4294967296) : crcF s l < 4294967296 := crcP_lt' l s h
theorem crcF_inj : ∀ (l : List UInt8) (s t : Nat), s < 4294967296 → t < 4294967296 → crcF s l = crcF t l → s = t
  | [], _, _, _, _, h => h
  | x :: l, s, t, hs, ht, h => by
    rw [crcF_cons, crcF_cons] at h
    have hx := x.toNat_lt
    have h1 := crcF_inj l _ _ (crcIt_lt (crc_xor s _ hs hx) 8) (crcIt_lt (crc_xor t _ ht hx) 8) h
    have h2 := crcIt_inj _ _ (crc_xor s _ hs hx) (crc_xor t _ ht hx) 8 h1
    apply xor_eq_zero
    have e : s ^^^ t = (s ^^^ x.toNat) ^^^ (t ^^^ x.toNat) := by
      have : (s ^^^ x.toNat) ^^^ (t ^^^ x.toNat) = (s ^^^ t) ^^^ (x.toNat ^^^ x.toNat) := by ac_rfl
      rw [this]; simp
    rw [e, h2]; simp

theorem crc_set (a : List UInt8) (k : Nat) (y : UInt8) (hk : k < a.length) (hy : y ≠ a[k]) : crc (a.set k y) ≠ crc a := by
  intro h
  have h1 : crcF 4294967295 (a.set k y) = crcF 4294967295 a := by
    have e : ∀ x : Nat, x = 4294967295 ^^^ (4294967295 ^^^ x) := fun x => by rw [← Nat.xor_assoc]; simp
    rw [e (crcF 4294967295 (a.set k y)), e (crcF 4294967295 a)]
    exact congrArg _ h
  rw [List.set_eq_take_append_cons_drop, if_pos hk] at h1
  have ea : a = a.take k ++ a[k] :: a.drop (k + 1) := by rw [← List.drop_eq_getElem_cons hk, List.take_append_drop]
  have h2 : crcF 4294967295 a = crcF 4294967295 (a.take k ++ a[k] :: a.drop (k + 1)) := congrArg _ ea
  rw [h2] at h1
  unfold crcF at h1
  rw [List.foldl_append, List.foldl_append] at h1
  have hs : crcF 4294967295 (a.take k) < 4294967296 := crcF_lt _ _ (by omega)
  have h3 := crcF_inj (a.drop (k + 1)) _ _ (crcIt_lt (crc_xor _ _ hs y.toNat_lt) 8) (crcIt_lt (crc_xor _ _ hs (a[k]).toNat_lt) 8) h1
  have h4 := crcIt_inj _ _ (crc_xor _ _ hs y.toNat_lt) (crc_xor _ _ hs (a[k]).toNat_lt) 8 h3
  apply hy
  apply UInt8.toNat_inj.1
  apply xor_eq_zero
  generalize crcF 4294967295 (a.take k) = s at *
  have e : y.toNat ^^^ a[k].toNat = (s ^^^ y.toNat) ^^^ (s ^^^ a[k].toNat) := by
    have : (s ^^^ y.toNat) ^^^ (s ^^^ a[k].toNat) = (s ^^^ s) ^^^ (y.toNat ^^^ a[k].toNat) := by ac_rfl
    rw [this]; simp
  rw [e, h4]; simp

def sumB (l : List UInt8) : Nat := (l.map UInt8.toNat).sum
theorem adP_sum (l : List UInt8) : (adP l).1 = (1 + sumB l) % 65521 := by
  revert l
  apply snoc_ind
  · rfl
  · intro l x ih
    have e : adP (l ++ [x]) = adF (adP l) x := by simp [adP, List.foldl_append]
    rw [e]
    simp only [adF, ih, sumB, List.map_append, List.sum_append, List.map_cons, List.map_nil, List.sum_cons, List.sum_nil]
    omega
theorem adler_set (a : List UInt8) (k : Nat) (y : UInt8) (hk : k < a.length) (hy : y ≠ a[k]) : adler (a.set k y) ≠ adler a := by
  intro h
  have h1 := adP_lt a
  have h2 := adP_lt (a.set k y)
  unfold adler at h
  have h3 : (adP (a.set k y)).1 = (adP a).1 := by omega
  rw [adP_sum, adP_sum] at h3
  rw [List.set_eq_take_append_cons_drop, if_pos hk] at h3
  have ea : sumB a = sumB (a.take k ++ a[k] :: a.drop (k + 1)) := by rw [← List.drop_eq_getElem_cons hk, List.take_append_drop]
  rw [ea] at h3
  simp only [sumB, List.map_append, List.sum_append, List.map_cons, List.sum_cons] at h3
  have b1 := y.toNat_lt
  have b2 := (a[k]).toNat_lt
  have : y.toNat = (a[k]).toNat := by omega
  exact hy (UInt8.toNat_inj.1 this)


set_option maxHeartbeats 1600000 in
set_option maxRecDepth 100000 in
theorem joins_walk (n c n' c' n2 c2 : Nat) (A A' A2 : Option Addr) (xs ys zs : List UInt8) (p : Int) (u : UInt8) (w : World) (hp : p ≤ 9223372036854775807)
    (ha : RdB w w.heap.size A n xs) (hb : RdB w w.heap.size A' n' ys) (hc : RdB w w.heap.size A2 n2 zs) :
    Calls Try.prog 5 #[.slice A n c, .slice A' n' c', .slice A2 n2 c2, .int .i64 p, .int .u8 u.toNat] w fun e w' => e = .returned (.bool true) ∧ Below w.heap.size w w' := by
  have hB := Below.refl w.heap.size w
  by_cases h1 : 8000 < n
  · have d1 : decide (8000 < (n : Int)) = true := by simp; omega
    go_enter Try.func5, Try.ntmps5
    go_wp2_with (go_at_call 10; refine (first_any _).mono ?_; rintro e w1 ⟨rfl, hb1⟩; replace hB := bstep hB hb1 (Nat.le_refl _); clear hb1)
    all_goals (go_ret; exact ⟨rfl, hB⟩)
  have d1 : decide (8000 < (n : Int)) = false := by simp; omega
  by_cases h2 : n' ≠ n
  · have d2 : ((n' : Int) != n) = true := by rw [bne_iff_ne]; omega
    go_enter Try.func5, Try.ntmps5
    go_wp2_with (go_at_call 10; refine (first_any _).mono ?_; rintro e w1 ⟨rfl, hb1⟩; replace hB := bstep hB hb1 (Nat.le_refl _); clear hb1)
    all_goals (go_ret; exact ⟨rfl, hB⟩)
  obtain rfl : n' = n := by omega
  clear h2
  by_cases h3 : n2 ≠ n'
  · have d2 : ((n2 : Int) != n') = true := by rw [bne_iff_ne]; omega
    go_enter Try.func5, Try.ntmps5
    go_wp2_with (go_at_call 10; refine (first_any _).mono ?_; rintro e w1 ⟨rfl, hb1⟩; replace hB := bstep hB hb1 (Nat.le_refl _); clear hb1)
    all_goals (go_ret; exact ⟨rfl, hB⟩)
  obtain rfl : n2 = n' := by omega
  clear h3
  have hn : n2 ≤ 8000 := by omega
  have lx := ha.len
  have ly := hb.len
  have lz := hc.len
  have hX := xor3_len xs ys zs (by omega) (by omega)
  have LX := Lib.hid lx
  have LY := Lib.hid ly
  have LZ := Lib.hid lz
  have HX := Lib.hid hX
  clear lx ly lz hX h1
  have HC := Lib.hid (crc_xor3 xs ys zs (by have := LX.out; have := LY.out; omega) (by have := LX.out; have := LZ.out; omega))
  have hx1 := u32_xor_nat (crc xs) (crc ys) (Nat.xor_lt_two_pow (n := 32) (by omega) (crcP_lt xs)) (Nat.xor_lt_two_pow (n := 32) (by omega) (crcP_lt ys))
  have hx2 := u32_xor_nat (crc xs ^^^ crc ys) (crc zs) (Nat.xor_lt_two_pow (n := 32) (Nat.xor_lt_two_pow (n := 32) (by omega) (crcP_lt xs)) (Nat.xor_lt_two_pow (n := 32) (by omega) (crcP_lt ys))) (Nat.xor_lt_two_pow (n := 32) (by omega) (crcP_lt zs))
  go_enter Try.func5, Try.ntmps5
  go_upto_region 5 with (go_at_call 10; refine (first_any _).mono ?_; rintro e w1 ⟨rfl, hb1⟩; replace hB := bstep hB hb1 (Nat.le_refl _); clear hb1)
  have hmk : ∀ w, (Instr.makeSlice 22 (.int .i64 (n2 : Int)) (.int .i64 (n2 : Int))).run Try.prog w = .ok (.slice (some ⟨w.heap.size, 0, none⟩) n2 n2) (w.alloc (zeroObj n2)) := fun w => run_makeB w n2 (by omega)
  go_cut [11, 12] (fun d t wc => ∃ g A3 n3 c3, d = .slice (some ⟨g, 0, none⟩) n2 n2 ∧ w.heap.size ≤ g ∧ ownB wc w.heap.size d (List.replicate n2 0) ∧ t = .slice A3 n3 c3 ∧ ownB wc w.heap.size t xs ∧ t.ownBlock ≠ some g ∧ Below w.heap.size w wc)
  case first =>
    have ha1 := Rd.here (Rd.below ha hB)
    go_region_with (go_at_call 12; refine (copyB_any w1.heap.size _ _ _ xs _ ?_ (by omega)).mono ?_; (first | exact Rd.drew (Rd.alloc ha1 (Nat.le_refl _) _) | exact Rd.drew ha1); rintro e w2 ⟨v2, rfl, hv2, hb2⟩)
    · go_wp2_with fail
      go_meet
      case rel =>
        have hz : ownB w2 w1.heap.size (.slice (some ⟨w1.heap.size, 0, none⟩) n2 n2) (List.replicate n2 0) := ownB.later (w := (w1.alloc (zeroObj n2)).drew) (own_zero w1 n2 (by omega)) hb2
        obtain ⟨A3, n3, c3, rfl, _, _, _⟩ := hv2.slice
        exact ⟨_, A3, n3, c3, rfl, hB.size, hz.mono hB.size, rfl, hv2.mono (by have := hB.size; simp; omega), ownB_ne hv2 (by simp), bstep (((hB.alloc hB.size _)).drew) hb2 (by simp)⟩
    · go_wp2_with fail
      go_meet
      case rel =>
        have hB2 : Below w.heap.size w w2 := bstep hB.drew hb2 (by simp)
        have hne : v2.ownBlock ≠ some w2.heap.size := by intro e; have := (World.ownsRow.lt hv2 _ e).2; omega
        obtain ⟨A3, n3, c3, rfl, _, _, _⟩ := hv2.slice
        exact ⟨_, A3, n3, c3, rfl, hB2.size, (own_zero w2 n2 (by omega)).mono hB2.size, rfl, ownB.mono (World.ownsRow.alloc hv2 (zeroObj n2)) (by have := hB.size; simp; omega), hne, hB2.alloc hB2.size _⟩
  case rest =>
    clear hmk hB
    obtain ⟨g, A3, n3, c3, rfl, hg, hd, rfl, ht, hne, hB⟩ := hcut
    go_wp2_with fail
    go_loopw [13] (fun i wr => ∃ k : Nat, k ≤ n2 ∧ i = .int .i64 k ∧ ownB wr w.heap.size (.slice (some ⟨g, 0, none⟩) n2 n2) (fillTo (xor3 xs ys zs) k) ∧ ownB wr w.heap.size (.slice A3 n3 c3) xs ∧ Below w.heap.size w wr)
      (fun i _ => n2 - (intOf i).toNat)
    case atStart => exact ⟨0, Nat.zero_le _, rfl, by rw [fillTo_zero, HX.out, LX.out]; exact hd, ht, hB⟩
    case round =>
      clear hd ht hB
      obtain ⟨k, hk, rfl, hown, ht1, hB1⟩ := hrel
      by_cases hlt : k < n2
      · obtain ⟨ba, oa, x, rfl, hba, hx, ca⟩ := ha.byte hlt
        obtain ⟨bb, ob, y, rfl, hbb, hy, cb'⟩ := hb.byte hlt
        obtain ⟨bc, oc, z, rfl, hbc, hz, cc⟩ := hc.byte hlt
        replace ca := bsame hB1 hba ca
        replace cb' := bsame hB1 hbb cb'
        replace cc := bsame hB1 hbc cc
        have HL : Hid (n2 = (fillTo (xor3 xs ys zs) k).length) := by
          have e1 := LX.out
          have e4 := HX.out
          show _ = _
          rw [fillTo_len _ _ (by omega)]; omega
        obtain ⟨d0, _, cd⟩ := hown.byte HL.out hlt
        have fd := hown.frozen HL.out k
        have ht2 := Lib.hid (ownB.far ht1 hne k (.int .u8 ((x.toNat ^^^ y.toNat ^^^ z.toNat : Nat) : Int)))
        have Hs : Hid (ownB (wr.setCell ⟨g, k, none⟩ (.int .u8 ((x.toNat ^^^ y.toNat ^^^ z.toNat : Nat) : Int))) w.heap.size (.slice (some ⟨g, 0, none⟩) n2 n2) (fillTo (xor3 xs ys zs) (k + 1))) := by
          rw [fillTo_put _ k (x ^^^ y ^^^ z) (xor3_at _ _ _ hx.out hy.out hz.out)]
          have := hown.store HL.out k (x ^^^ y ^^^ z)
          simp only [UInt8.toNat_xor] at this
          exact this
        clear hx1 hx2 hown ht1 ha hb hc
        go_wp2
        go_region
        go_wp2
        go_roundw
        case rel => exact ⟨k + 1, by omega, by go_num, Hs.out, ht2.out, (hB1.setCell hg _).drew⟩
        case measure => simp [intOf]; omega
      · have e1 := LX.out
        have e4 := HX.out
        obtain rfl : k = n2 := by omega
        rw [show fillTo (xor3 xs ys zs) k = xor3 xs ys zs by rw [← e1, ← e4]; exact fillTo_end _] at hown
        have hd4 := hown.rd
        have ht4 := ht1.rd
        clear e1 e4
        have ha1 : RdB wr w.heap.size A k xs := Rd.below ha hB1
        have hb1 : RdB wr w.heap.size A' k ys := Rd.below hb hB1
        have hc1 : RdB wr w.heap.size A2 k zs := Rd.below hc hB1
        have h5 : decide (p < 0) = true ∨ (decide (p < 0) = false ∧ decide ((k : Int) ≤ p) = true) ∨ (decide (p < 0) = false ∧ decide ((k : Int) ≤ p) = false ∧ ((u.toNat : Int) == 0) = true) ∨ (0 ≤ p ∧ p < k ∧ ((u.toNat : Int) == 0) = false) := by
          by_cases h1 : p < 0
          · simp [h1]
          · by_cases h2 : (k : Int) ≤ p
            · simp [h1, h2]
            · by_cases h3 : ((u.toNat : Int) == 0) = true
              · simp only [h1, h2, h3]; simp
              · simp only [h1, h2]; simp at h3 ⊢; omega
        rcases h5 with d3 | ⟨d3, d4⟩ | ⟨d3, d4, d5⟩ | ⟨h6, h7, d5⟩
        rotate_right
        · obtain ⟨m, rfl⟩ := Int.eq_ofNat_of_zero_le h6
          have d3 : decide ((m : Int) < 0) = false := by simp
          have d4 : decide (k ≤ m) = false := by simp; omega
          obtain rfl : n3 = k := by have := ht4.len; have := LX.out; omega
          obtain ⟨e0, g', rfl, hg', _⟩ := ht1.pos (by omega)
          have E0 := Lib.hid e0
          clear e0
          obtain ⟨x, hx, cx⟩ := ht1.byte E0.out (by omega : m < n3)
          have fx := ht1.frozen E0.out m
          have Hst : Hid (ownB (wr.setCell ⟨g', m, none⟩ (.int .u8 ((x.toNat ^^^ u.toNat : Nat) : Int))) w.heap.size (.slice (some ⟨g', 0, none⟩) n3 c3) (xs.set m (x ^^^ u))) := by
            have := ht1.store E0.out m (x ^^^ u)
            simp only [UInt8.toNat_xor] at this
            exact this
          have hu : x ^^^ u ≠ x := by
            intro e
            have h2 := congrArg UInt8.toNat e
            rw [UInt8.toNat_xor] at h2
            have h3 : x.toNat ^^^ (x.toNat ^^^ u.toNat) = u.toNat := by rw [← Nat.xor_assoc]; simp
            rw [h2, Nat.xor_self] at h3
            rw [← h3] at d5
            simp at d5
          obtain ⟨hm, hxe⟩ := List.getElem?_eq_some_iff.1 hx.out
          have n1 : ((crc (xs.set m (x ^^^ u)) : Int) != (crc xs : Int)) = true := by
            have := crc_set xs m (x ^^^ u) hm (by rw [hxe]; exact hu)
            rw [bne_iff_ne]; omega
          have n2' : ((adler (xs.set m (x ^^^ u)) : Int) != (adler xs : Int)) = true := by
            have := adler_set xs m (x ^^^ u) hm (by rw [hxe]; exact hu)
            rw [bne_iff_ne]; omega
          clear hm hxe hu hx
          generalize hxs : xs.set m (x ^^^ u) = xs' at *
          clear hxs
          go_wp2_with (first
            | (go_at_call 13; (with_reducible refine (crc_any _ _ _ _ _ _ hd4 (by omega)).mono ?_); rintro e w1 ⟨rfl, rfl⟩; rw [HC.out])
            | (go_at_call 13; (with_reducible refine (crc_any _ _ _ _ _ _ ha1 (by omega)).mono ?_); rintro e w1 ⟨rfl, rfl⟩)
            | (go_at_call 13; (with_reducible refine (crc_any _ _ _ _ _ _ hb1 (by omega)).mono ?_); rintro e w1 ⟨rfl, rfl⟩)
            | (go_at_call 13; (with_reducible refine (crc_any _ _ _ _ _ _ hc1 (by omega)).mono ?_); rintro e w1 ⟨rfl, rfl⟩)
            | (go_at_call 10; refine (first_any _).mono ?_; rintro e w5 ⟨rfl, hbf⟩; have hB5 := bstep (hB1.setCell (p := ⟨g', m, none⟩) hg' _) hbf (Nat.le_refl _); have ht5 := (ownB.later Hst.out hbf).rd; have ha5 : RdB w5 w.heap.size A n3 xs := Rd.below ha hB5)
            | (go_at_call 13; (with_reducible refine (crc_any _ _ _ _ _ _ ht5 (by omega)).mono ?_); rintro e w1 ⟨rfl, rfl⟩)
            | (go_at_call 13; (with_reducible refine (crc_any _ _ _ _ _ _ ha5 (by omega)).mono ?_); rintro e w1 ⟨rfl, rfl⟩)
            | (go_at_call 11; (with_reducible refine (adler_any _ _ _ _ _ _ ht5 (by omega)).mono ?_); rintro e w1 ⟨rfl, rfl⟩)
            | (go_at_call 11; (with_reducible refine (adler_any _ _ _ _ _ _ ha5 (by omega)).mono ?_); rintro e w1 ⟨rfl, rfl⟩))
          go_ret
          exact ⟨rfl, hB5⟩
        all_goals
          go_wp2_with (first
            | (go_at_call 13; (with_reducible refine (crc_any _ _ _ _ _ _ hd4 (by omega)).mono ?_); rintro e w1 ⟨rfl, rfl⟩; rw [HC.out])
            | (go_at_call 13; (with_reducible refine (crc_any _ _ _ _ _ _ ha1 (by omega)).mono ?_); rintro e w1 ⟨rfl, rfl⟩)
            | (go_at_call 13; (with_reducible refine (crc_any _ _ _ _ _ _ hb1 (by omega)).mono ?_); rintro e w1 ⟨rfl, rfl⟩)
            | (go_at_call 13; (with_reducible refine (crc_any _ _ _ _ _ _ hc1 (by omega)).mono ?_); rintro e w1 ⟨rfl, rfl⟩)
            | (go_at_call 10; refine (first_any _).mono ?_; rintro e w1 ⟨rfl, hbf⟩; replace hB1 := bstep hB1 hbf (Nat.le_refl _); clear hbf))
          go_ret
          exact ⟨rfl, hB1⟩
end Go.Proofs.Ytlhhhoolnojegaa
