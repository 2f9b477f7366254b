/- tile: all tiles together have all pixels. -/
import Derived.Test.YtcgpeijmmongoaaTile3
namespace Go.Proofs.Ytcgpeijmmongoaa
set_option linter.all false
open Go.RowKit

def Sh.area (s : Sh) (i : Int) : Int := (s.part i).w * (s.part i).h
def Sh.areas (s : Sh) : Nat → Int
  | 0 => 0
  | k + 1 => s.areas k + s.area k

theorem Sh.area_at (s : Sh) (g r q : Nat) (hg : s.gw = g) (hq : q < g) : s.area ((r * g + q : Nat) : Int) = min 8 (s.w - 8 * q) * min 8 (s.h - 8 * r) := by
  have e1 : (r * g + q) % g = q := by rw [Nat.add_comm, Nat.add_mul_mod_self_right, Nat.mod_eq_of_lt hq]
  have e2 : (r * g + q) / g = r := by rw [Nat.add_comm, Nat.add_mul_div_right _ _ (by omega), Nat.div_eq_of_lt hq, Nat.zero_add]
  have c1 : s.cx ((r * g + q : Nat) : Int) = 8 * q := by
    unfold Sh.cx
    rw [hg, ← Int.natCast_emod, e1]
    omega
  have c2 : s.cy ((r * g + q : Nat) : Int) = 8 * r := by
    unfold Sh.cy
    rw [hg, ← Int.natCast_ediv, e2]
    omega
  show min 8 (s.w - s.cx _) * min 8 (s.h - s.cy _) = _
  rw [c1, c2]

theorem Sh.areas_row (s : Sh) (g r : Nat) (hg : s.gw = g) (h0 : 0 ≤ s.w) (hw : ∀ q : Nat, q < g → 8 * (q : Int) ≤ s.w) : ∀ q, q ≤ g → s.areas (r * g + q) = s.areas (r * g) + min s.w (8 * q) * min 8 (s.h - 8 * r)
  | 0, _ => by
    have e : min s.w (8 * ((0 : Nat) : Int)) = 0 := by omega
    rw [e, Int.zero_mul, Int.add_zero]
    rfl
  | q + 1, h => by
    have ih := Sh.areas_row s g r hg h0 hw q (by omega)
    have e : s.areas (r * g + (q + 1)) = s.areas (r * g + q) + s.area ((r * g + q : Nat) : Int) := rfl
    rw [e, ih, Sh.area_at s g r q hg (by omega), Int.add_assoc, ← Int.add_mul]
    congr 2
    have := hw q (by omega)
    omega

theorem Sh.areas_rows (s : Sh) (g : Nat) (hg : s.gw = g) (h0 : 0 ≤ s.w) (h1 : 0 ≤ s.h) (hw : ∀ q : Nat, q < g → 8 * (q : Int) ≤ s.w) (hw' : s.w ≤ 8 * g) : ∀ r : Nat, (∀ q : Nat, q < r → 8 * (q : Int) ≤ s.h) → s.areas (r * g) = s.w * min s.h (8 * r)
  | 0, _ => by
    have e : min s.h (8 * ((0 : Nat) : Int)) = 0 := by omega
    rw [e, Int.mul_zero, Nat.zero_mul]
    rfl
  | r + 1, hh => by
    have ih := Sh.areas_rows s g hg h0 h1 hw hw' r (fun q hq => hh q (by omega))
    have h2 := Sh.areas_row s g r hg h0 hw g (Nat.le_refl _)
    have h3 := hh r (by omega)
    rw [Nat.succ_mul, h2, ih, show min s.w (8 * (g : Int)) = s.w by omega, ← Int.mul_add]
    congr 1
    omega

theorem Sh.areas_all {s : Sh} (h : s.may = true) : s.areas (s.gw * s.gh).toNat = s.w * s.h := by
  obtain ⟨a1, a2, a3, a4, e1, e2⟩ := Sh.gw_rng h
  obtain ⟨⟨n1, n2⟩, ⟨n3, n4⟩, -, -⟩ := (Sh.nums_iff s).1 (Sh.may_nums h)
  obtain ⟨g, hg⟩ := Int.eq_ofNat_of_zero_le (show 0 ≤ s.gw by omega)
  obtain ⟨r, hr⟩ := Int.eq_ofNat_of_zero_le (show 0 ≤ s.gh by omega)
  have := Sh.areas_rows s g hg (by omega) (by omega) (fun q hq => by omega) (by omega) r (fun q hq => by omega)
  rw [show (s.gw * s.gh).toNat = r * g by rw [hg, hr, Int.mul_comm, ← Int.natCast_mul, Int.toNat_natCast], this]
  congr 1
  omega

theorem Sh.area_rng {s : Sh} {i : Int} (h : s.may = true) (h0 : 0 ≤ i) (h1 : i < s.gw * s.gh) : 1 ≤ s.area i ∧ s.area i ≤ 64 ∧ 1 ≤ (s.part i).w ∧ (s.part i).w ≤ 8 ∧ 1 ≤ (s.part i).h ∧ (s.part i).h ≤ 8 := by
  have hr := Sh.corner_rng h h0 h1
  have p1 : (s.part i).w = min 8 (s.w - s.cx i) := rfl
  have p2 : (s.part i).h = min 8 (s.h - s.cy i) := rfl
  have q1 : 1 ≤ (s.part i).w ∧ (s.part i).w ≤ 8 := by omega
  have q2 : 1 ≤ (s.part i).h ∧ (s.part i).h ≤ 8 := by omega
  have r1 : 1 * 1 ≤ (s.part i).w * (s.part i).h := Int.mul_le_mul q1.1 q2.1 (by omega) (by omega)
  have r2 : (s.part i).w * (s.part i).h ≤ 8 * 8 := Int.mul_le_mul q1.2 q2.2 (by omega) (by omega)
  exact ⟨by unfold Sh.area; omega, by unfold Sh.area; omega, q1.1, q1.2, q2.1, q2.2⟩
theorem Sh.areas_rng {s : Sh} (h : s.may = true) : ∀ k : Nat, (k : Int) ≤ s.gw * s.gh → 0 ≤ s.areas k ∧ s.areas k ≤ 64 * k
  | 0, _ => ⟨Int.le_refl _, Int.le_refl _⟩
  | k + 1, hk => by
    have ih := Sh.areas_rng h k (by omega)
    have := Sh.area_rng (i := (k : Int)) h (by omega) (by omega)
    have e : s.areas (k + 1) = s.areas k + s.area k := rfl
    omega
theorem Sh.part_full {s : Sh} {i : Int} (h : s.may = true) (h0 : 0 ≤ i) (h1 : i < s.gw * s.gh) : (i % s.gw < s.gw - 1 → (s.part i).w = 8) ∧ (i / s.gw < s.gh - 1 → (s.part i).h = 8) := by
  obtain ⟨a1, a2, a3, a4, e1, e2⟩ := Sh.gw_rng h
  have p1 : (s.part i).w = min 8 (s.w - i % s.gw * 8) := rfl
  have p2 : (s.part i).h = min 8 (s.h - i / s.gw * 8) := rfl
  generalize i % s.gw = q at *
  generalize i / s.gw = r at *
  omega

end Go.Proofs.Ytcgpeijmmongoaa
