/- tile: the grid, a tile's corner and shape. -/
import Derived.Test.YtmffmijjdpjaiaaPix7
namespace Go.Proofs.Ytmffmijjdpjaiaa
set_option linter.all false
open Go.RowKit

def Sh.gw (s : Sh) : Int := if s.may then (s.w + 7) / 8 else 0
def Sh.gh (s : Sh) : Int := if s.may then (s.h + 7) / 8 else 0
theorem Sh.may_nums {s : Sh} (h : s.may = true) : s.nums = true := by
  unfold Sh.may at h
  simp at h
  exact h.1

set_option maxHeartbeats 800000 in
theorem grid_any (s : Sh) (w : World) : Calls Try.prog 40 #[s.v] w fun e w' => e = .returned (.tuple #[.int .i64 s.gw, .int .i64 s.gh]) ∧ Below w.heap.size w w' := by
  have hB := Below.refl w.heap.size w
  have HV := Lib.hid (fun w => mayS_any s w)
  cases hm : s.may with
  | false =>
    have HM := Lib.hid hm
    have HG := Lib.hid (show s.gw = 0 ∧ s.gh = 0 by unfold Sh.gw Sh.gh; rw [hm]; exact ⟨rfl, rfl⟩)
    rw [HG.out.1, HG.out.2]
    clear hm HG
    obtain ⟨W, H, C, D⟩ := s
    show Calls _ _ #[.agg #[.int .i64 W, .int .i64 H, .int .i64 C, .int .i64 D]] w _
    go_enter Try.func40, Try.ntmps40
    go_wp2_with (go_at_call 46; go_must (refine (HV.out _).mono ?_; rintro e w1 ⟨rfl, hb1⟩; rw [HM.out]; replace hB := bxd hb1; clear hb1))
    go_ret2
    exact ⟨rfl, hB⟩
  | true =>
    have HM := Lib.hid hm
    obtain ⟨⟨a1, a2⟩, ⟨a3, a4⟩, -, -⟩ := (Sh.nums_iff s).1 (Sh.may_nums hm)
    have HG := Lib.hid (show s.gw = (s.w + 7) / 8 ∧ s.gh = (s.h + 7) / 8 by unfold Sh.gw Sh.gh; rw [hm]; exact ⟨rfl, rfl⟩)
    rw [HG.out.1, HG.out.2]
    have v1 := wrapI (s.w + 8) (by omega) (by omega)
    have v2 := wrapI (s.w + 8 - 1) (by omega) (by omega)
    have v3 := wrapI (s.h + 8) (by omega) (by omega)
    have v4 := wrapI (s.h + 8 - 1) (by omega) (by omega)
    have e1 : (s.w + 8 - 1).tdiv 8 = (s.w + 7) / 8 := by rw [Int.tdiv_eq_ediv_of_nonneg (by omega)]; congr 1; omega
    have e2 : (s.h + 8 - 1).tdiv 8 = (s.h + 7) / 8 := by rw [Int.tdiv_eq_ediv_of_nonneg (by omega)]; congr 1; omega
    have v5 := wrapI ((s.w + 7) / 8) (by omega) (by omega)
    have v6 := wrapI ((s.h + 7) / 8) (by omega) (by omega)
    clear hm HG a1 a2 a3 a4
    obtain ⟨W, H, C, D⟩ := s
    dsimp only at v1 v2 v3 v4 v5 v6 e1 e2 ⊢
    show Calls _ _ #[.agg #[.int .i64 W, .int .i64 H, .int .i64 C, .int .i64 D]] w _
    go_enter Try.func40, Try.ntmps40
    go_wp2_with (go_at_call 46; go_must (refine (HV.out _).mono ?_; rintro e w1 ⟨rfl, hb1⟩; rw [HM.out]; obtain ⟨c0, c1, c2, c3⟩ := cells4 (by simp) hb1; replace hB := bxd hb1; clear hb1))
    go_quiet (fail)
    go_wp2
    go_ret2
    exact ⟨rfl, bdrewN hB _⟩

end Go.Proofs.Ytmffmijjdpjaiaa
