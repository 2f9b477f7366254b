/- The walk of DiffChains. -/
import Derived.Test.YtcgpeijmmongoaaDiff2
namespace Go.Proofs.Ytcgpeijmmongoaa
set_option linter.all false
open Go.RowKit

def chainsGo (s t u : Sh) (n n' n'' : Nat) : Bool := decide (n ≤ 5000) && (s.mayR n && (t.mayR n' && (u.mayR n'' && (decide (s = t) && decide (s = u)))))

set_option maxHeartbeats 3200000 in
theorem chains_early (s t u : Sh) (n a n' a' n'' a'' : Nat) (A A' A'' : Option Addr) (w : World) (h : chainsGo s t u n n' n'' = false) :
    Calls Try.prog 4 #[s.r A n a, t.r A' n' a', u.r A'' n'' a''] w fun e w' => e = .returned (.bool true) ∧ Below w.heap.size w w' := by
  have hB := Below.refl w.heap.size w
  have HM1 := Lib.hid (fun w => may_any s A n a w)
  have HM2 := Lib.hid (fun w => may_any t A' n' a' w)
  have HM3 := Lib.hid (fun w => may_any u A'' n'' a'' w)
  have HS1 := Lib.hid (fun w => shape_any s t w)
  have HS2 := Lib.hid (fun w => shape_any s u w)
  unfold chainsGo at h
  generalize s.mayR n = p1 at h HM1
  generalize t.mayR n' = p2 at h HM2
  generalize u.mayR n'' = p3 at h HM3
  generalize decide (s = t) = p4 at h HS1
  generalize decide (s = u) = p5 at h HS2
  obtain ⟨W, H, C, D⟩ := s
  obtain ⟨tW, tH, tC, tD⟩ := t
  obtain ⟨uW, uH, uC, uD⟩ := u
  dsimp only [Sh.r, Sh.v] at HM1 HM2 HM3 HS1 HS2
  show Calls _ _ #[.agg #[.int .i64 W, .int .i64 H, .int .i64 C, .int .i64 D, .slice A n a], .agg #[.int .i64 tW, .int .i64 tH, .int .i64 tC, .int .i64 tD, .slice A' n' a'], .agg #[.int .i64 uW, .int .i64 uH, .int .i64 uC, .int .i64 uD, .slice A'' n'' a'']] w _
  by_cases h0 : n ≤ 5000
  · have hd : decide (n ≤ 5000) = true := by simpa using h0
    rw [hd] at h
    clear hd
    rcases p1 with _ | _ <;> (try (rcases p2 with _ | _)) <;> (try (rcases p3 with _ | _)) <;> (try (rcases p4 with _ | _)) <;> (try (rcases p5 with _ | _)) <;> (first | (exfalso; revert h; decide) | skip)
    all_goals
      clear h
      go_enter Try.func4, Try.ntmps4
      go_wp2_with (first
        | (go_at_call 19; (with_reducible refine (first11_any _).mono ?_); go_must (rintro e w1 ⟨rfl, hb1⟩; first | (have _t := c1; (try (first | replace c1 := kept c1 rfl hb1 | replace c1 := keptD c1 rfl hb1 | replace c1 := keptN c1 rfl hb1)); (try (first | replace c2 := kept c2 rfl hb1 | replace c2 := keptD c2 rfl hb1 | replace c2 := keptN c2 rfl hb1)); (try (first | replace c3 := kept c3 rfl hb1 | replace c3 := keptD c3 rfl hb1 | replace c3 := keptN c3 rfl hb1)); (first | replace hB := bstep hB hb1 (Nat.le_refl _) | replace hB := bstep hB.drew hb1 (Nat.le_refl _) | replace hB := bstep (bdrewN hB _) hb1 (Nat.le_refl _)); clear hb1) | (have c3 := box5 hb1; rw [World.size_alloc, World.size_alloc] at c3; replace hb1 := bxd hb1; have c2 := box5 hb1; rw [World.size_alloc] at c2; replace hb1 := bxd hb1; have c1 := box5 hb1; replace hB := bxd hb1; clear hb1)))
        | (go_at_call 20; (with_reducible refine (HM1.out _).mono ?_); go_must (rintro e w1 ⟨rfl, hb1⟩; (try (first | replace c1 := kept c1 rfl hb1 | replace c1 := keptD c1 rfl hb1 | replace c1 := keptN c1 rfl hb1)); (try (first | replace c2 := kept c2 rfl hb1 | replace c2 := keptD c2 rfl hb1 | replace c2 := keptN c2 rfl hb1)); (try (first | replace c3 := kept c3 rfl hb1 | replace c3 := keptD c3 rfl hb1 | replace c3 := keptN c3 rfl hb1)); (first | replace hB := bstep hB hb1 (Nat.le_refl _) | replace hB := bstep hB.drew hb1 (Nat.le_refl _) | replace hB := bstep (bdrewN hB _) hb1 (Nat.le_refl _)); clear hb1))
        | (go_at_call 20; (with_reducible refine (HM2.out _).mono ?_); go_must (rintro e w1 ⟨rfl, hb1⟩; (try (first | replace c1 := kept c1 rfl hb1 | replace c1 := keptD c1 rfl hb1 | replace c1 := keptN c1 rfl hb1)); (try (first | replace c2 := kept c2 rfl hb1 | replace c2 := keptD c2 rfl hb1 | replace c2 := keptN c2 rfl hb1)); (try (first | replace c3 := kept c3 rfl hb1 | replace c3 := keptD c3 rfl hb1 | replace c3 := keptN c3 rfl hb1)); (first | replace hB := bstep hB hb1 (Nat.le_refl _) | replace hB := bstep hB.drew hb1 (Nat.le_refl _) | replace hB := bstep (bdrewN hB _) hb1 (Nat.le_refl _)); clear hb1))
        | (go_at_call 20; (with_reducible refine (HM3.out _).mono ?_); go_must (rintro e w1 ⟨rfl, hb1⟩; (try (first | replace c1 := kept c1 rfl hb1 | replace c1 := keptD c1 rfl hb1 | replace c1 := keptN c1 rfl hb1)); (try (first | replace c2 := kept c2 rfl hb1 | replace c2 := keptD c2 rfl hb1 | replace c2 := keptN c2 rfl hb1)); (try (first | replace c3 := kept c3 rfl hb1 | replace c3 := keptD c3 rfl hb1 | replace c3 := keptN c3 rfl hb1)); (first | replace hB := bstep hB hb1 (Nat.le_refl _) | replace hB := bstep hB.drew hb1 (Nat.le_refl _) | replace hB := bstep (bdrewN hB _) hb1 (Nat.le_refl _)); clear hb1))
        | (go_at_call 21; (with_reducible refine (HS1.out _).mono ?_); go_must (rintro e w1 ⟨rfl, hb1⟩; (try (first | replace c1 := kept c1 rfl hb1 | replace c1 := keptD c1 rfl hb1 | replace c1 := keptN c1 rfl hb1)); (try (first | replace c2 := kept c2 rfl hb1 | replace c2 := keptD c2 rfl hb1 | replace c2 := keptN c2 rfl hb1)); (try (first | replace c3 := kept c3 rfl hb1 | replace c3 := keptD c3 rfl hb1 | replace c3 := keptN c3 rfl hb1)); (first | replace hB := bstep hB hb1 (Nat.le_refl _) | replace hB := bstep hB.drew hb1 (Nat.le_refl _) | replace hB := bstep (bdrewN hB _) hb1 (Nat.le_refl _)); clear hb1))
        | (go_at_call 21; (with_reducible refine (HS2.out _).mono ?_); go_must (rintro e w1 ⟨rfl, hb1⟩; (try (first | replace c1 := kept c1 rfl hb1 | replace c1 := keptD c1 rfl hb1 | replace c1 := keptN c1 rfl hb1)); (try (first | replace c2 := kept c2 rfl hb1 | replace c2 := keptD c2 rfl hb1 | replace c2 := keptN c2 rfl hb1)); (try (first | replace c3 := kept c3 rfl hb1 | replace c3 := keptD c3 rfl hb1 | replace c3 := keptN c3 rfl hb1)); (first | replace hB := bstep hB hb1 (Nat.le_refl _) | replace hB := bstep hB.drew hb1 (Nat.le_refl _) | replace hB := bstep (bdrewN hB _) hb1 (Nat.le_refl _)); clear hb1)))
      go_ret
      exact ⟨rfl, hB⟩
  · clear h
    go_enter Try.func4, Try.ntmps4
    go_wp2_with (first
      | (go_at_call 19; (with_reducible refine (first11_any _).mono ?_); go_must (rintro e w1 ⟨rfl, hb1⟩; first | (have _t := c1; (try (first | replace c1 := kept c1 rfl hb1 | replace c1 := keptD c1 rfl hb1 | replace c1 := keptN c1 rfl hb1)); (try (first | replace c2 := kept c2 rfl hb1 | replace c2 := keptD c2 rfl hb1 | replace c2 := keptN c2 rfl hb1)); (try (first | replace c3 := kept c3 rfl hb1 | replace c3 := keptD c3 rfl hb1 | replace c3 := keptN c3 rfl hb1)); (first | replace hB := bstep hB hb1 (Nat.le_refl _) | replace hB := bstep hB.drew hb1 (Nat.le_refl _) | replace hB := bstep (bdrewN hB _) hb1 (Nat.le_refl _)); clear hb1) | (have c3 := box5 hb1; rw [World.size_alloc, World.size_alloc] at c3; replace hb1 := bxd hb1; have c2 := box5 hb1; rw [World.size_alloc] at c2; replace hb1 := bxd hb1; have c1 := box5 hb1; replace hB := bxd hb1; clear hb1))))
    go_ret
    exact ⟨rfl, hB⟩

end Go.Proofs.Ytcgpeijmmongoaa
