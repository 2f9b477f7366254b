/- The statement NumAdlers: of bytes one behind the other Adler's two sums go on. -/
import Derived.Test.YtlhhhoolnojegaaNumFirst
namespace Go.Proofs.Ytlhhhoolnojegaa
set_option linter.all false
open Go.RowKit

theorem ad_rel (p0 q0 : Nat) : ∀ l : List UInt8, ((l.foldl adF (p0, q0)).1 + 1) % 65521 = (p0 + (l.foldl adF (1, 0)).1) % 65521 ∧
    ((l.foldl adF (p0, q0)).2 + l.length) % 65521 = (q0 + (l.foldl adF (1, 0)).2 + l.length * p0) % 65521 := by
  apply snoc_ind
  · simp
  · intro l x ih
    obtain ⟨h1, h2⟩ := ih
    simp only [List.foldl_append, List.foldl_cons, List.foldl_nil, adF, List.length_append, List.length_cons, List.length_nil, Nat.add_mul]
    generalize l.foldl adF (p0, q0) = F at *
    generalize l.foldl adF (1, 0) = G at *
    generalize l.length * p0 = np at *
    omega

theorem ad_arith (n p t q z : Nat) (hz : z < 65521) (h : (z + n) % 65521 = (q + t + n * p) % 65521) :
    z = (q + t + n % 65521 * ((p + 65520) % 65521)) % 65521 := by
  obtain ⟨u, hu⟩ : ∃ u, u = p + 65520 := ⟨_, rfl⟩
  have h3 := Nat.mul_mod n u 65521
  have h4 : n * u = n * p + n * 65520 := by rw [hu, Nat.mul_add]
  rw [← hu]
  obtain ⟨Y, hY⟩ : ∃ Y, Y = n % 65521 * (u % 65521) := ⟨_, rfl⟩
  obtain ⟨Z, hZ⟩ : ∃ Z, Z = n * p := ⟨_, rfl⟩
  rw [← hY] at h3
  rw [← hZ] at h h4
  rw [h4] at h3
  rw [← hY]
  clear hu hY hZ h4
  omega

theorem ad_join (a b : List UInt8) : (adP (a ++ b)).1 = ((adP a).1 + (adP b).1 + 65520) % 65521 ∧
    (adP (a ++ b)).2 = ((adP a).2 + (adP b).2 + b.length % 65521 * (((adP a).1 + 65520) % 65521)) % 65521 := by
  have hl := adP_lt (a ++ b)
  have e : adP (a ++ b) = b.foldl adF ((adP a).1, (adP a).2) := by simp [adP, List.foldl_append]
  obtain ⟨h1, h2⟩ := ad_rel (adP a).1 (adP a).2 b
  rw [← e] at h1 h2
  have hb : b.foldl adF (1, 0) = adP b := rfl
  rw [hb] at h1 h2
  refine ⟨by omega, ?_⟩
  exact ad_arith _ _ _ _ _ hl.2 h2

set_option maxRecDepth 100000 in
theorem adler_parts (bs : List UInt8) : bits .and .u32 (adler bs : Int) 65535 = ((adP bs).1 : Int) ∧ (adler bs : Int) / 65536 = ((adP bs).2 : Int) := by
  have h := adP_lt bs
  have e : adler bs = (adP bs).2 * 65536 + (adP bs).1 := rfl
  have := u32_and_nat (adler bs) 65535 (by omega) (by omega)
  rw [nat_mask16] at this
  refine ⟨?_, by omega⟩
  have e2 : bits .and .u32 (adler bs : Int) 65535 = ((adler bs % 65536 : Nat) : Int) := by simpa using this
  rw [e2]
  omega

set_option maxHeartbeats 800000 in
set_option maxRecDepth 100000 in
theorem adlers_walk (n c n' c' : Nat) (A A' : Option Addr) (xs ys : List UInt8) (w : World) (ha : RdB w w.heap.size A n xs) (hb : RdB w w.heap.size A' n' ys) :
    Calls Try.prog 3 #[.slice A n c, .slice A' n' c'] w fun e w' => e = .returned (.bool true) ∧ Below w.heap.size w w' := by
  have hB := Below.refl w.heap.size w
  by_cases h1 : 8000 < n ∨ 8000 < n'
  · have d1 : (decide (8000 < n) || decide (8000 < n')) = true := by simpa using h1
    go_enter Try.func3, Try.ntmps3
    go_wp2_with (go_at_call 10; refine (first_any _).mono ?_; rintro e w1 ⟨rfl, hb1⟩; replace hB := bstep hB hb1 (Nat.le_refl _); clear hb1)
    all_goals (go_ret; exact ⟨rfl, hB⟩)
  · have d1 : decide ((8000 : Int) < n) = false := by simp; omega
    have d2 : decide ((8000 : Int) < n') = false := by simp; omega
    have hn : n ≤ 8000 := by omega
    have hlx : xs.length ≤ 8000 := by have := ha.len; omega
    have hn' : n' ≤ 8000 := by omega
    have P := adler_parts xs
    have R := adler_parts ys
    have Z := adler_parts (xs ++ ys)
    have J := ad_join xs ys
    have lp := adP_lt xs
    have lr := adP_lt ys
    have lz := adP_lt (xs ++ ys)
    obtain rfl := hb.len
    generalize hx : adler xs = x at *
    generalize hy : adler ys = y at *
    generalize hz : adler (xs ++ ys) = z at *
    generalize (adP xs).1 = p at *
    generalize (adP xs).2 = q at *
    generalize (adP ys).1 = r at *
    generalize (adP ys).2 = s at *
    generalize (adP (xs ++ ys)).1 = z1 at *
    generalize (adP (xs ++ ys)).2 = z2 at *
    have Hx := Lib.hid hx
    have Hy := Lib.hid hy
    have Hz := Lib.hid hz
    have t1 : ((z1 : Int) == ((p : Int) + r + 65520) % 65521) = true := by rw [beq_iff_eq]; omega
    have t2 : ((z2 : Int) == (wrap64 ((q : Int) + s + wrap64 ((ys.length : Int) % 65521 * (((p : Int) + 65520) % 65521)))).tmod 65521) = true := by
      have hY : ys.length % 65521 * ((p + 65520) % 65521) ≤ 8000 * 65520 := Nat.mul_le_mul (by omega) (by omega)
      have e : ((ys.length : Int) % 65521 * (((p : Int) + 65520) % 65521)) = ((ys.length % 65521 * ((p + 65520) % 65521) : Nat) : Int) := by simp
      rw [beq_iff_eq, e]
      have h2 := J.2
      generalize ys.length % 65521 * ((p + 65520) % 65521) = Y at *
      rw [wrap64_id (Y : Int) (by omega) (by omega), wrap64_id ((q : Int) + s + Y) (by omega) (by omega), Int.tmod_eq_emod_of_nonneg (by omega)]
      omega
    clear hx hy hz J h1
    go_enter Try.func3, Try.ntmps3
    go_wp2_with (first
      | (go_at_call 10; refine (first_any _).mono ?_; rintro e w1 ⟨rfl, hb1⟩; replace hB := bstep hB hb1 (Nat.le_refl _); try replace ha := ha.later hb1; try replace hb := hb.later hb1; clear hb1)
      | (go_at_call 11; (with_reducible refine (adler_any _ _ _ _ xs _ ha (by omega)).mono ?_); rintro e w1 ⟨rfl, rfl⟩; rw [Hx.out])
      | (go_at_call 11; (with_reducible refine (adler_any _ _ _ _ ys _ hb (by omega)).mono ?_); rintro e w1 ⟨rfl, rfl⟩; rw [Hy.out])
      | (go_at_call 12; (refine (copyB_any _ _ _ _ xs _ ha (by omega)).mono ?_); rintro e w1 ⟨v1, rfl, hv, hb1⟩; replace hv := hv.mono hB.size; replace hB := bstep hB hb1 (Nat.le_refl _); replace hb := hb.later hb1; clear hb1)
      | (at_builtin; go_must (refine wpList_appendB rfl (.tmp 30) (.tmp 31) rfl _ _ _ rfl hv _ _ _ _ ys rfl hb (by omega) hB.size ?_; intro v2 w2 hv2 hg2 hb2 hat2; replace hB := hB.trans hb2; clear hv hg2 hb2 hat2 ha hb; obtain ⟨A2, n2, c2, rfl, hr2, _, _⟩ := hv2.slice; have hn2 := hr2.len; rw [List.length_append] at hn2; have hm2 : n2 ≤ 16000 := (by omega); clear hn2))
      | (go_at_call 11; (with_reducible refine (adler_any _ _ _ _ (xs ++ ys) _ hr2 (by omega)).mono ?_); rintro e w1 ⟨rfl, rfl⟩; rw [Hz.out]))
    go_ret
    exact ⟨rfl, hB⟩
end Go.Proofs.Ytlhhhoolnojegaa
