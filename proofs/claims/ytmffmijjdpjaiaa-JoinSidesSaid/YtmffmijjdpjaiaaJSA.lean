/- JoinSides in parts: its early ends; the walk up to region 13. -/
import Derived.Test.YtmffmijjdpjaiaaJoinLaw
import Derived.Deep.RegionHeld3
namespace Go.Proofs.Ytmffmijjdpjaiaa
set_option linter.all false
open Go.RowKit

theorem bools_eq (B n c B' c' : Nat) (A A' : Option Addr) (xs : List Bool) (w : World) (h : RdL w B A n xs) (h' : RdL w B' A' n xs) (hn : n ≤ 1099511627776) :
    Calls Try.prog 10 #[.slice A n c, .slice A' n c'] w fun e w' => e = .returned (.bool true) ∧ Below w.heap.size w w' := by
  refine (bools_any B n c B' n c' A A' xs xs w h h' hn).mono ?_
  rintro e w1 ⟨rfl, hb⟩
  exact ⟨ret_bool (by simp), hb⟩

set_option maxRecDepth 100000 in
set_option maxHeartbeats 3200000 in
theorem joinSides_early (o a b : Tr) (w : World) (ho : RdT w w.heap.size o.A o.n o.ts) (co : o.n ≤ o.c) (mo : o.c ≤ maxLen) (ha : RdT w w.heap.size a.A a.n a.ts) (ca : a.n ≤ a.c) (ma : a.c ≤ maxLen) (hb : RdT w w.heap.size b.A b.n b.ts) (cb : b.n ≤ b.c) (mb : b.c ≤ maxLen) (h : fewT o.ts = false ∨ (fewT o.ts = true ∧ fewT a.ts = false) ∨ (fewT o.ts = true ∧ fewT a.ts = true ∧ fewT b.ts = false)) :
    Calls Try.prog 3 #[o.s.r o.A o.n o.c, a.s.r a.A a.n a.c, b.s.r b.A b.n b.c] w fun e w' => e = .returned (.bool true) ∧ Below w.heap.size w w' := by
  have hB := Below.refl w.heap.size w
  have HF0 := Lib.hid (fun (w' : World) (h : Below w.heap.size w w') => fewTree_any o.s w.heap.size o.n o.c o.A o.ts w' (ho.blw h) h.size co mo)
  have HF1 := Lib.hid (fun (w' : World) (h : Below w.heap.size w w') => fewTree_any a.s w.heap.size a.n a.c a.A a.ts w' (ha.blw h) h.size ca ma)
  have HF2 := Lib.hid (fun (w' : World) (h : Below w.heap.size w w') => fewTree_any b.s w.heap.size b.n b.c b.A b.ts w' (hb.blw h) h.size cb mb)
  clear ho ha hb
  dsimp only [Sh.r] at *
  rcases h with h | ⟨h, h'⟩ | ⟨h, h', h''⟩
  · have F0 := Lib.hid h
    clear h
    go_enter Try.func3, Try.ntmps3
    go_wp2_with (first
        | (go_at_call 7; (with_reducible refine (first23_any _).mono ?_); go_must (rintro e wf ⟨rfl, hb1⟩; first | (have _t := c0; (try (have c10 := box5 hb1; replace hb1 := bxd hb1)); (try replace c0 := kept c0 rfl hb1); (try replace c1 := kept c1 rfl hb1); (try replace c2 := kept c2 rfl hb1); (try replace c7 := kept c7 rfl hb1); (try replace c10 := kept c10 rfl hb1); (try replace c13 := kept c13 rfl hb1); (try replace c16 := kept c16 rfl hb1); (try replace HU := Lib.hid (HU.out.later hb1)); (try replace HM := Lib.hid (HM.out.later hb1)); (try replace HU2 := Lib.hid (HU2.out.later hb1)); (try replace HM2 := Lib.hid (HM2.out.later hb1)); (try replace HX := Lib.hid (HX.out.later hb1)); (try replace HXM := Lib.hid (HXM.out.later hb1)); (try replace HY := Lib.hid (HY.out.later hb1)); (try replace HYM := Lib.hid (HYM.out.later hb1)); replace hB := bstep hB hb1 (Nat.le_refl _); clear hb1) | (have c2 := box5 hb1; rw [World.size_alloc, World.size_alloc] at c2; replace hb1 := bxd hb1; have c1 := box5 hb1; rw [World.size_alloc] at c1; replace hb1 := bxd hb1; have c0 := box5 hb1; replace hB := bxd hb1; clear hb1)))
        | (go_at_call 8; (with_reducible refine (HF0.out _ hB).mono ?_); go_must (rintro e we ⟨rfl, hb1⟩; rw [F0.out]; (try replace c0 := kept c0 rfl hb1); (try replace c1 := kept c1 rfl hb1); (try replace c2 := kept c2 rfl hb1); (try replace c7 := kept c7 rfl hb1); (try replace c10 := kept c10 rfl hb1); (try replace c13 := kept c13 rfl hb1); (try replace c16 := kept c16 rfl hb1); (try replace HU := Lib.hid (HU.out.later hb1)); (try replace HM := Lib.hid (HM.out.later hb1)); (try replace HU2 := Lib.hid (HU2.out.later hb1)); (try replace HM2 := Lib.hid (HM2.out.later hb1)); (try replace HX := Lib.hid (HX.out.later hb1)); (try replace HXM := Lib.hid (HXM.out.later hb1)); (try replace HY := Lib.hid (HY.out.later hb1)); (try replace HYM := Lib.hid (HYM.out.later hb1)); replace hB := bstep hB hb1 (Nat.le_refl _); clear hb1))
        | (go_at_call 8; (with_reducible refine (HF1.out _ hB).mono ?_); go_must (rintro e we ⟨rfl, hb1⟩; rw [F1.out]; (try replace c0 := kept c0 rfl hb1); (try replace c1 := kept c1 rfl hb1); (try replace c2 := kept c2 rfl hb1); (try replace c7 := kept c7 rfl hb1); (try replace c10 := kept c10 rfl hb1); (try replace c13 := kept c13 rfl hb1); (try replace c16 := kept c16 rfl hb1); (try replace HU := Lib.hid (HU.out.later hb1)); (try replace HM := Lib.hid (HM.out.later hb1)); (try replace HU2 := Lib.hid (HU2.out.later hb1)); (try replace HM2 := Lib.hid (HM2.out.later hb1)); (try replace HX := Lib.hid (HX.out.later hb1)); (try replace HXM := Lib.hid (HXM.out.later hb1)); (try replace HY := Lib.hid (HY.out.later hb1)); (try replace HYM := Lib.hid (HYM.out.later hb1)); replace hB := bstep hB hb1 (Nat.le_refl _); clear hb1))
        | (go_at_call 8; (with_reducible refine (HF2.out _ hB).mono ?_); go_must (rintro e we ⟨rfl, hb1⟩; rw [F2.out]; (try replace c0 := kept c0 rfl hb1); (try replace c1 := kept c1 rfl hb1); (try replace c2 := kept c2 rfl hb1); (try replace c7 := kept c7 rfl hb1); (try replace c10 := kept c10 rfl hb1); (try replace c13 := kept c13 rfl hb1); (try replace c16 := kept c16 rfl hb1); (try replace HU := Lib.hid (HU.out.later hb1)); (try replace HM := Lib.hid (HM.out.later hb1)); (try replace HU2 := Lib.hid (HU2.out.later hb1)); (try replace HM2 := Lib.hid (HM2.out.later hb1)); (try replace HX := Lib.hid (HX.out.later hb1)); (try replace HXM := Lib.hid (HXM.out.later hb1)); (try replace HY := Lib.hid (HY.out.later hb1)); (try replace HYM := Lib.hid (HYM.out.later hb1)); replace hB := bstep hB hb1 (Nat.le_refl _); clear hb1)))
    go_ret
    exact ⟨rfl, hB⟩
  · have F0 := Lib.hid h
    have F1 := Lib.hid h'
    clear h h'
    go_enter Try.func3, Try.ntmps3
    go_wp2_with (first
        | (go_at_call 7; (with_reducible refine (first23_any _).mono ?_); go_must (rintro e wf ⟨rfl, hb1⟩; first | (have _t := c0; (try (have c10 := box5 hb1; replace hb1 := bxd hb1)); (try replace c0 := kept c0 rfl hb1); (try replace c1 := kept c1 rfl hb1); (try replace c2 := kept c2 rfl hb1); (try replace c7 := kept c7 rfl hb1); (try replace c10 := kept c10 rfl hb1); (try replace c13 := kept c13 rfl hb1); (try replace c16 := kept c16 rfl hb1); (try replace HU := Lib.hid (HU.out.later hb1)); (try replace HM := Lib.hid (HM.out.later hb1)); (try replace HU2 := Lib.hid (HU2.out.later hb1)); (try replace HM2 := Lib.hid (HM2.out.later hb1)); (try replace HX := Lib.hid (HX.out.later hb1)); (try replace HXM := Lib.hid (HXM.out.later hb1)); (try replace HY := Lib.hid (HY.out.later hb1)); (try replace HYM := Lib.hid (HYM.out.later hb1)); replace hB := bstep hB hb1 (Nat.le_refl _); clear hb1) | (have c2 := box5 hb1; rw [World.size_alloc, World.size_alloc] at c2; replace hb1 := bxd hb1; have c1 := box5 hb1; rw [World.size_alloc] at c1; replace hb1 := bxd hb1; have c0 := box5 hb1; replace hB := bxd hb1; clear hb1)))
        | (go_at_call 8; (with_reducible refine (HF0.out _ hB).mono ?_); go_must (rintro e we ⟨rfl, hb1⟩; rw [F0.out]; (try replace c0 := kept c0 rfl hb1); (try replace c1 := kept c1 rfl hb1); (try replace c2 := kept c2 rfl hb1); (try replace c7 := kept c7 rfl hb1); (try replace c10 := kept c10 rfl hb1); (try replace c13 := kept c13 rfl hb1); (try replace c16 := kept c16 rfl hb1); (try replace HU := Lib.hid (HU.out.later hb1)); (try replace HM := Lib.hid (HM.out.later hb1)); (try replace HU2 := Lib.hid (HU2.out.later hb1)); (try replace HM2 := Lib.hid (HM2.out.later hb1)); (try replace HX := Lib.hid (HX.out.later hb1)); (try replace HXM := Lib.hid (HXM.out.later hb1)); (try replace HY := Lib.hid (HY.out.later hb1)); (try replace HYM := Lib.hid (HYM.out.later hb1)); replace hB := bstep hB hb1 (Nat.le_refl _); clear hb1))
        | (go_at_call 8; (with_reducible refine (HF1.out _ hB).mono ?_); go_must (rintro e we ⟨rfl, hb1⟩; rw [F1.out]; (try replace c0 := kept c0 rfl hb1); (try replace c1 := kept c1 rfl hb1); (try replace c2 := kept c2 rfl hb1); (try replace c7 := kept c7 rfl hb1); (try replace c10 := kept c10 rfl hb1); (try replace c13 := kept c13 rfl hb1); (try replace c16 := kept c16 rfl hb1); (try replace HU := Lib.hid (HU.out.later hb1)); (try replace HM := Lib.hid (HM.out.later hb1)); (try replace HU2 := Lib.hid (HU2.out.later hb1)); (try replace HM2 := Lib.hid (HM2.out.later hb1)); (try replace HX := Lib.hid (HX.out.later hb1)); (try replace HXM := Lib.hid (HXM.out.later hb1)); (try replace HY := Lib.hid (HY.out.later hb1)); (try replace HYM := Lib.hid (HYM.out.later hb1)); replace hB := bstep hB hb1 (Nat.le_refl _); clear hb1))
        | (go_at_call 8; (with_reducible refine (HF2.out _ hB).mono ?_); go_must (rintro e we ⟨rfl, hb1⟩; rw [F2.out]; (try replace c0 := kept c0 rfl hb1); (try replace c1 := kept c1 rfl hb1); (try replace c2 := kept c2 rfl hb1); (try replace c7 := kept c7 rfl hb1); (try replace c10 := kept c10 rfl hb1); (try replace c13 := kept c13 rfl hb1); (try replace c16 := kept c16 rfl hb1); (try replace HU := Lib.hid (HU.out.later hb1)); (try replace HM := Lib.hid (HM.out.later hb1)); (try replace HU2 := Lib.hid (HU2.out.later hb1)); (try replace HM2 := Lib.hid (HM2.out.later hb1)); (try replace HX := Lib.hid (HX.out.later hb1)); (try replace HXM := Lib.hid (HXM.out.later hb1)); (try replace HY := Lib.hid (HY.out.later hb1)); (try replace HYM := Lib.hid (HYM.out.later hb1)); replace hB := bstep hB hb1 (Nat.le_refl _); clear hb1)))
    go_ret
    exact ⟨rfl, hB⟩
  · have F0 := Lib.hid h
    have F1 := Lib.hid h'
    have F2 := Lib.hid h''
    clear h h' h''
    go_enter Try.func3, Try.ntmps3
    go_wp2_with (first
        | (go_at_call 7; (with_reducible refine (first23_any _).mono ?_); go_must (rintro e wf ⟨rfl, hb1⟩; first | (have _t := c0; (try (have c10 := box5 hb1; replace hb1 := bxd hb1)); (try replace c0 := kept c0 rfl hb1); (try replace c1 := kept c1 rfl hb1); (try replace c2 := kept c2 rfl hb1); (try replace c7 := kept c7 rfl hb1); (try replace c10 := kept c10 rfl hb1); (try replace c13 := kept c13 rfl hb1); (try replace c16 := kept c16 rfl hb1); (try replace HU := Lib.hid (HU.out.later hb1)); (try replace HM := Lib.hid (HM.out.later hb1)); (try replace HU2 := Lib.hid (HU2.out.later hb1)); (try replace HM2 := Lib.hid (HM2.out.later hb1)); (try replace HX := Lib.hid (HX.out.later hb1)); (try replace HXM := Lib.hid (HXM.out.later hb1)); (try replace HY := Lib.hid (HY.out.later hb1)); (try replace HYM := Lib.hid (HYM.out.later hb1)); replace hB := bstep hB hb1 (Nat.le_refl _); clear hb1) | (have c2 := box5 hb1; rw [World.size_alloc, World.size_alloc] at c2; replace hb1 := bxd hb1; have c1 := box5 hb1; rw [World.size_alloc] at c1; replace hb1 := bxd hb1; have c0 := box5 hb1; replace hB := bxd hb1; clear hb1)))
        | (go_at_call 8; (with_reducible refine (HF0.out _ hB).mono ?_); go_must (rintro e we ⟨rfl, hb1⟩; rw [F0.out]; (try replace c0 := kept c0 rfl hb1); (try replace c1 := kept c1 rfl hb1); (try replace c2 := kept c2 rfl hb1); (try replace c7 := kept c7 rfl hb1); (try replace c10 := kept c10 rfl hb1); (try replace c13 := kept c13 rfl hb1); (try replace c16 := kept c16 rfl hb1); (try replace HU := Lib.hid (HU.out.later hb1)); (try replace HM := Lib.hid (HM.out.later hb1)); (try replace HU2 := Lib.hid (HU2.out.later hb1)); (try replace HM2 := Lib.hid (HM2.out.later hb1)); (try replace HX := Lib.hid (HX.out.later hb1)); (try replace HXM := Lib.hid (HXM.out.later hb1)); (try replace HY := Lib.hid (HY.out.later hb1)); (try replace HYM := Lib.hid (HYM.out.later hb1)); replace hB := bstep hB hb1 (Nat.le_refl _); clear hb1))
        | (go_at_call 8; (with_reducible refine (HF1.out _ hB).mono ?_); go_must (rintro e we ⟨rfl, hb1⟩; rw [F1.out]; (try replace c0 := kept c0 rfl hb1); (try replace c1 := kept c1 rfl hb1); (try replace c2 := kept c2 rfl hb1); (try replace c7 := kept c7 rfl hb1); (try replace c10 := kept c10 rfl hb1); (try replace c13 := kept c13 rfl hb1); (try replace c16 := kept c16 rfl hb1); (try replace HU := Lib.hid (HU.out.later hb1)); (try replace HM := Lib.hid (HM.out.later hb1)); (try replace HU2 := Lib.hid (HU2.out.later hb1)); (try replace HM2 := Lib.hid (HM2.out.later hb1)); (try replace HX := Lib.hid (HX.out.later hb1)); (try replace HXM := Lib.hid (HXM.out.later hb1)); (try replace HY := Lib.hid (HY.out.later hb1)); (try replace HYM := Lib.hid (HYM.out.later hb1)); replace hB := bstep hB hb1 (Nat.le_refl _); clear hb1))
        | (go_at_call 8; (with_reducible refine (HF2.out _ hB).mono ?_); go_must (rintro e we ⟨rfl, hb1⟩; rw [F2.out]; (try replace c0 := kept c0 rfl hb1); (try replace c1 := kept c1 rfl hb1); (try replace c2 := kept c2 rfl hb1); (try replace c7 := kept c7 rfl hb1); (try replace c10 := kept c10 rfl hb1); (try replace c13 := kept c13 rfl hb1); (try replace c16 := kept c16 rfl hb1); (try replace HU := Lib.hid (HU.out.later hb1)); (try replace HM := Lib.hid (HM.out.later hb1)); (try replace HU2 := Lib.hid (HU2.out.later hb1)); (try replace HM2 := Lib.hid (HM2.out.later hb1)); (try replace HX := Lib.hid (HX.out.later hb1)); (try replace HXM := Lib.hid (HXM.out.later hb1)); (try replace HY := Lib.hid (HY.out.later hb1)); (try replace HYM := Lib.hid (HYM.out.later hb1)); replace hB := bstep hB hb1 (Nat.le_refl _); clear hb1)))
    go_ret
    exact ⟨rfl, hB⟩

set_option maxRecDepth 100000 in
set_option maxHeartbeats 3200000 in
theorem joinSides_err (o a b : Tr) (w : World) (ho : RdT w w.heap.size o.A o.n o.ts) (co : o.n ≤ o.c) (mo : o.c ≤ maxLen) (ha : RdT w w.heap.size a.A a.n a.ts) (ca : a.n ≤ a.c) (ma : a.c ≤ maxLen) (hb : RdT w w.heap.size b.A b.n b.ts) (cb : b.n ≤ b.c) (mb : b.c ≤ maxLen) (f0 : fewT o.ts = true) (f1 : fewT a.ts = true) (f2 : fewT b.ts = true) (E : Int) (hE : wrongT [o, a, b] = E) (hE0 : E = 4 ∨ E = 13) :
    Calls Try.prog 3 #[o.s.r o.A o.n o.c, a.s.r a.A a.n a.c, b.s.r b.A b.n b.c] w fun e w' => e = .returned (.bool true) ∧ Below w.heap.size w w' := by
  have hB := Below.refl w.heap.size w
  have HF0 := Lib.hid (fun (w' : World) (h : Below w.heap.size w w') => fewTree_any o.s w.heap.size o.n o.c o.A o.ts w' (ho.blw h) h.size co mo)
  have HF1 := Lib.hid (fun (w' : World) (h : Below w.heap.size w w') => fewTree_any a.s w.heap.size a.n a.c a.A a.ts w' (ha.blw h) h.size ca ma)
  have HF2 := Lib.hid (fun (w' : World) (h : Below w.heap.size w w') => fewTree_any b.s w.heap.size b.n b.c b.A b.ts w' (hb.blw h) h.size cb mb)
  have F0 := Lib.hid f0
  have F1 := Lib.hid f1
  have F2 := Lib.hid f2
  have so := (fewT_yes f0).2
  have sa := (fewT_yes f1).2
  have sb := (fewT_yes f2).2
  have ko : ∀ w', Below w.heap.size w w' → o.ok w' w.heap.size := fun w' h => ⟨ho.blw h, co, mo, so⟩
  have ka : ∀ w', Below w.heap.size w w' → a.ok w' w.heap.size := fun w' h => ⟨ha.blw h, ca, ma, sa⟩
  have kb : ∀ w', Below w.heap.size w w' → b.ok w' w.heap.size := fun w' h => ⟨hb.blw h, cb, mb, sb⟩
  have hE' : wrongT [o, b, a] = E := by rw [← hE]; exact wrong3_comm o b a
  have HM1 := Lib.hid (fun (w' : World) (h : Below w.heap.size w w') => merge_no o a b w.heap.size w' (ko w' h) (ka w' h) (kb w' h) h.size E hE hE0)
  have HM2 := Lib.hid (fun (w' : World) (h : Below w.heap.size w w') => merge_no o b a w.heap.size w' (ko w' h) (kb w' h) (ka w' h) h.size E hE' hE0)
  have hne : (E != 0) = true := by rcases hE0 with rfl | rfl <;> rfl
  clear ho ha hb so sa sb ko ka kb hE hE' f0 f1 f2 hE0
  dsimp only [Sh.r] at *
  go_enter Try.func3, Try.ntmps3
  go_wp2_with (first
      | (go_at_call 7; (with_reducible refine (first23_any _).mono ?_); go_must (rintro e wf ⟨rfl, hb1⟩; first | (have _t := c0; (try (have c10 := box5 hb1; replace hb1 := bxd hb1)); (try replace c0 := kept c0 rfl hb1); (try replace c1 := kept c1 rfl hb1); (try replace c2 := kept c2 rfl hb1); (try replace c7 := kept c7 rfl hb1); (try replace c10 := kept c10 rfl hb1); (try replace c13 := kept c13 rfl hb1); (try replace c16 := kept c16 rfl hb1); (try replace HU := Lib.hid (HU.out.later hb1)); (try replace HM := Lib.hid (HM.out.later hb1)); (try replace HU2 := Lib.hid (HU2.out.later hb1)); (try replace HM2 := Lib.hid (HM2.out.later hb1)); (try replace HX := Lib.hid (HX.out.later hb1)); (try replace HXM := Lib.hid (HXM.out.later hb1)); (try replace HY := Lib.hid (HY.out.later hb1)); (try replace HYM := Lib.hid (HYM.out.later hb1)); replace hB := bstep hB hb1 (Nat.le_refl _); clear hb1) | (have c2 := box5 hb1; rw [World.size_alloc, World.size_alloc] at c2; replace hb1 := bxd hb1; have c1 := box5 hb1; rw [World.size_alloc] at c1; replace hb1 := bxd hb1; have c0 := box5 hb1; replace hB := bxd hb1; clear hb1)))
      | (go_at_call 8; (with_reducible refine (HF0.out _ hB).mono ?_); go_must (rintro e we ⟨rfl, hb1⟩; rw [F0.out]; (try replace c0 := kept c0 rfl hb1); (try replace c1 := kept c1 rfl hb1); (try replace c2 := kept c2 rfl hb1); (try replace c7 := kept c7 rfl hb1); (try replace c10 := kept c10 rfl hb1); (try replace c13 := kept c13 rfl hb1); (try replace c16 := kept c16 rfl hb1); (try replace HU := Lib.hid (HU.out.later hb1)); (try replace HM := Lib.hid (HM.out.later hb1)); (try replace HU2 := Lib.hid (HU2.out.later hb1)); (try replace HM2 := Lib.hid (HM2.out.later hb1)); (try replace HX := Lib.hid (HX.out.later hb1)); (try replace HXM := Lib.hid (HXM.out.later hb1)); (try replace HY := Lib.hid (HY.out.later hb1)); (try replace HYM := Lib.hid (HYM.out.later hb1)); replace hB := bstep hB hb1 (Nat.le_refl _); clear hb1))
      | (go_at_call 8; (with_reducible refine (HF1.out _ hB).mono ?_); go_must (rintro e we ⟨rfl, hb1⟩; rw [F1.out]; (try replace c0 := kept c0 rfl hb1); (try replace c1 := kept c1 rfl hb1); (try replace c2 := kept c2 rfl hb1); (try replace c7 := kept c7 rfl hb1); (try replace c10 := kept c10 rfl hb1); (try replace c13 := kept c13 rfl hb1); (try replace c16 := kept c16 rfl hb1); (try replace HU := Lib.hid (HU.out.later hb1)); (try replace HM := Lib.hid (HM.out.later hb1)); (try replace HU2 := Lib.hid (HU2.out.later hb1)); (try replace HM2 := Lib.hid (HM2.out.later hb1)); (try replace HX := Lib.hid (HX.out.later hb1)); (try replace HXM := Lib.hid (HXM.out.later hb1)); (try replace HY := Lib.hid (HY.out.later hb1)); (try replace HYM := Lib.hid (HYM.out.later hb1)); replace hB := bstep hB hb1 (Nat.le_refl _); clear hb1))
      | (go_at_call 8; (with_reducible refine (HF2.out _ hB).mono ?_); go_must (rintro e we ⟨rfl, hb1⟩; rw [F2.out]; (try replace c0 := kept c0 rfl hb1); (try replace c1 := kept c1 rfl hb1); (try replace c2 := kept c2 rfl hb1); (try replace c7 := kept c7 rfl hb1); (try replace c10 := kept c10 rfl hb1); (try replace c13 := kept c13 rfl hb1); (try replace c16 := kept c16 rfl hb1); (try replace HU := Lib.hid (HU.out.later hb1)); (try replace HM := Lib.hid (HM.out.later hb1)); (try replace HU2 := Lib.hid (HU2.out.later hb1)); (try replace HM2 := Lib.hid (HM2.out.later hb1)); (try replace HX := Lib.hid (HX.out.later hb1)); (try replace HXM := Lib.hid (HXM.out.later hb1)); (try replace HY := Lib.hid (HY.out.later hb1)); (try replace HYM := Lib.hid (HYM.out.later hb1)); replace hB := bstep hB hb1 (Nat.le_refl _); clear hb1))
      | (go_at_call 9; (with_reducible refine (HM1.out _ hB).mono ?_); go_must (rintro e w3 ⟨rfl, hb1⟩; (try replace c0 := kept c0 rfl hb1); (try replace c1 := kept c1 rfl hb1); (try replace c2 := kept c2 rfl hb1); (try replace c7 := kept c7 rfl hb1); (try replace c10 := kept c10 rfl hb1); (try replace c13 := kept c13 rfl hb1); (try replace c16 := kept c16 rfl hb1); (try replace HU := Lib.hid (HU.out.later hb1)); (try replace HM := Lib.hid (HM.out.later hb1)); (try replace HU2 := Lib.hid (HU2.out.later hb1)); (try replace HM2 := Lib.hid (HM2.out.later hb1)); (try replace HX := Lib.hid (HX.out.later hb1)); (try replace HXM := Lib.hid (HXM.out.later hb1)); (try replace HY := Lib.hid (HY.out.later hb1)); (try replace HYM := Lib.hid (HYM.out.later hb1)); replace hB := bstep hB hb1 (Nat.le_refl _); clear hb1; have yac0 := ltOf c0 rfl; have yac0n := Nat.ne_of_lt yac0; have yac1 := ltOf c1 rfl; have yac1n := Nat.ne_of_lt yac1; have yac2 := ltOf c2 rfl; have yac2n := Nat.ne_of_lt yac2))
      | (go_at_call 9; (with_reducible refine (HM2.out _ (bal hB _)).mono ?_); go_must (rintro e w4 ⟨rfl, hb1⟩; have c7 := box5 hb1; replace hb1 := bxd hb1; (try replace c0 := kept c0 rfl hb1); (try replace c1 := kept c1 rfl hb1); (try replace c2 := kept c2 rfl hb1); (try replace c10 := kept c10 rfl hb1); (try replace c13 := kept c13 rfl hb1); (try replace c16 := kept c16 rfl hb1); (try replace HU := Lib.hid (HU.out.later hb1)); (try replace HM := Lib.hid (HM.out.later hb1)); (try replace HU2 := Lib.hid (HU2.out.later hb1)); (try replace HM2 := Lib.hid (HM2.out.later hb1)); (try replace HX := Lib.hid (HX.out.later hb1)); (try replace HXM := Lib.hid (HXM.out.later hb1)); (try replace HY := Lib.hid (HY.out.later hb1)); (try replace HYM := Lib.hid (HYM.out.later hb1)); replace hB := bstep hB hb1 (Nat.le_refl _); clear hb1; have ybc7 := ltOf c7 rfl; have ybc7n := Nat.ne_of_lt ybc7))
      | (go_at_call 10; (with_reducible refine (bools_eq 0 0 0 0 0 none none [] _ RdL.nil_ RdL.nil_ (by omega)).mono ?_); go_must (rintro e w5 ⟨rfl, hb1⟩; have c10 := box5 hb1; replace hb1 := bxd hb1; (try replace c0 := kept c0 rfl hb1); (try replace c1 := kept c1 rfl hb1); (try replace c2 := kept c2 rfl hb1); (try replace c7 := kept c7 rfl hb1); (try replace c13 := kept c13 rfl hb1); (try replace c16 := kept c16 rfl hb1); (try replace HU := Lib.hid (HU.out.later hb1)); (try replace HM := Lib.hid (HM.out.later hb1)); (try replace HU2 := Lib.hid (HU2.out.later hb1)); (try replace HM2 := Lib.hid (HM2.out.later hb1)); (try replace HX := Lib.hid (HX.out.later hb1)); (try replace HXM := Lib.hid (HXM.out.later hb1)); (try replace HY := Lib.hid (HY.out.later hb1)); (try replace HYM := Lib.hid (HYM.out.later hb1)); replace hB := bstep hB hb1 (Nat.le_refl _); clear hb1)))
  go_ret
  exact ⟨ret_bool (by first | rfl | simp), hB⟩

set_option maxRecDepth 100000 in
set_option maxHeartbeats 12800000 in
def joinSides_A :
    (P1 : Prop) ×' (P2 : Prop) ×' (P1 → P2 → ∀  (o a b : Tr) (w : World) (ho : RdT w w.heap.size o.A o.n o.ts) (co : o.n ≤ o.c) (mo : o.c ≤ maxLen) (ha : RdT w w.heap.size a.A a.n a.ts) (ca : a.n ≤ a.c) (ma : a.c ≤ maxLen) (hb : RdT w w.heap.size b.A b.n b.ts) (cb : b.n ≤ b.c) (mb : b.c ≤ maxLen) (f0 : fewT o.ts = true) (f1 : fewT a.ts = true) (f2 : fewT b.ts = true) (hE : wrongT [o, a, b] = 0), Calls Try.prog 3 #[o.s.r o.A o.n o.c, a.s.r a.A a.n a.c, b.s.r b.A b.n b.c] w fun e w' => e = .returned (.bool true) ∧ Below w.heap.size w w') := by
  refine' ⟨_, _, fun k1 k2 => _⟩
  rotate_left 2
  · have K1 := Lib.hid k1
    have K2 := Lib.hid k2
    clear k1 k2
    intro o a b w ho co mo ha ca ma hb cb mb f0 f1 f2 hE
    have hB := Below.refl w.heap.size w
    have HF0 := Lib.hid (fun (w' : World) (h : Below w.heap.size w w') => fewTree_any o.s w.heap.size o.n o.c o.A o.ts w' (ho.blw h) h.size co mo)
    have HF1 := Lib.hid (fun (w' : World) (h : Below w.heap.size w w') => fewTree_any a.s w.heap.size a.n a.c a.A a.ts w' (ha.blw h) h.size ca ma)
    have HF2 := Lib.hid (fun (w' : World) (h : Below w.heap.size w w') => fewTree_any b.s w.heap.size b.n b.c b.A b.ts w' (hb.blw h) h.size cb mb)
    have F0 := Lib.hid f0
    have F1 := Lib.hid f1
    have F2 := Lib.hid f2
    have so := (fewT_yes f0).2
    have sa := (fewT_yes f1).2
    have sb := (fewT_yes f2).2
    have ko : ∀ w', Below w.heap.size w w' → o.ok w' w.heap.size := fun w' h => ⟨ho.blw h, co, mo, so⟩
    have ka : ∀ w', Below w.heap.size w w' → a.ok w' w.heap.size := fun w' h => ⟨ha.blw h, ca, ma, sa⟩
    have kb : ∀ w', Below w.heap.size w w' → b.ok w' w.heap.size := fun w' h => ⟨hb.blw h, cb, mb, sb⟩
    obtain ⟨q1, q2, q3, e1, e2⟩ := wrong3_zero hE
    have l1 : o.ts.length = a.ts.length := (may_len2 q1 q2 e1).symm
    have l2 : b.ts.length = a.ts.length := (may_len2 q1 q3 e2).trans l1
    obtain ⟨-, n0, -, -⟩ := mayT_len q2
    have lo := ho.len
    have la := ha.len
    have lb := hb.len
    have hE2 : wrongT [o, b, a] = 0 := wrong3_mk q1 q3 q2 e2 e1
    have hE3 : wrongT [o, a, o] = 0 := wrong3_mk q1 q2 q1 e1 rfl
    have hE4 : wrongT [o, o, b] = 0 := wrong3_mk q1 q1 q3 rfl e2
    have HM1 := Lib.hid (fun (w' : World) (h : Below w.heap.size w w') => merge_ok o a b w.heap.size w' (ko w' h) (ka w' h) (kb w' h) h.size hE)
    have HM2 := Lib.hid (fun (w' : World) (h : Below w.heap.size w w') => merge_ok o b a w.heap.size w' (ko w' h) (kb w' h) (ka w' h) h.size hE2)
    have HM3 := Lib.hid (fun (w' : World) (h : Below w.heap.size w w') => merge_ok o a o w.heap.size w' (ko w' h) (ka w' h) (ko w' h) h.size hE3)
    have HM4 := Lib.hid (fun (w' : World) (h : Below w.heap.size w w') => merge_ok o o b w.heap.size w' (ko w' h) (ko w' h) (kb w' h) h.size hE4)
    have EK2 : cleanL (upM o.ts a.ts b.ts a.n) = true → upK o.ts b.ts a.ts a.n = upK o.ts a.ts b.ts a.n := fun h => by rw [← la] at h ⊢; exact (upK_comm l2 h).symm
    have EK2' := Lib.hid EK2
    rw [show upM o.ts b.ts a.ts b.n = upM o.ts a.ts b.ts a.n by rw [show b.n = a.n by omega]; exact (upM_comm _ _ _ _ l2).symm] at HM2
    rw [show upK o.ts a.ts o.ts a.n = a.ts from upK_side _ _ _ l1] at HM3
    rw [show upK o.ts o.ts b.ts o.n = b.ts by rw [← lo]; exact upK_base _ _ (by omega)] at HM4
    have C3 := Lib.hid (upM_side o.ts a.ts a.n)
    have C4 := Lib.hid (upM_base o.ts b.ts o.n)
    have u1 := e1.symm
    have u2 := e2.symm
    clear f0 f1 f2 hE hE2 hE3 hE4 q1 q2 q3 e1 e2 so sa sb ko ka kb EK2
    obtain ⟨⟨ow, oh, od, oe⟩, oA, on, oc, ots⟩ := o
    obtain ⟨⟨aw, ah, ad, ae⟩, aA, n, ac, ats⟩ := a
    obtain ⟨⟨bw, bh, bd, be⟩, bA, bn, bc, bts⟩ := b
    dsimp only at *
    injection u1 with p1 p2 p3 p4
    subst p1 p2 p3 p4
    injection u2 with p1 p2 p3 p4
    subst p1 p2 p3 p4
    have z1 : n = on := by omega
    subst z1
    have z2 : n = bn := by omega
    subst z2
    obtain ⟨ob, oo, rfl, hob, ocs⟩ := ho.at_ (by omega)
    obtain ⟨ab, ao, rfl, hab, acs⟩ := ha.at_ (by omega)
    obtain ⟨bb, bo, rfl, hbb, bcs⟩ := hb.at_ (by omega)
    have HO := Lib.hid (fun (w' : World) (h : Below w.heap.size w w') (j : Nat) (hj : j < ots.length) => (show w'.cell? ⟨ob, oo + j, none⟩ = some (.string ots[j]) from bsame h hob (ocs j hj)))
    have HA := Lib.hid (fun (w' : World) (h : Below w.heap.size w w') (j : Nat) (hj : j < ats.length) => (show w'.cell? ⟨ab, ao + j, none⟩ = some (.string ats[j]) from bsame h hab (acs j hj)))
    have HBB := Lib.hid (fun (w' : World) (h : Below w.heap.size w w') (j : Nat) (hj : j < bts.length) => (show w'.cell? ⟨bb, bo + j, none⟩ = some (.string bts[j]) from bsame h hbb (bcs j hj)))
    have n9 : n ≤ 1024 := by have := (fewT_yes F1.out).1; omega
    have HS1 := Lib.hid (fun (w' : World) (h : Below w.heap.size w w') (g k : Nat) {B0 : Nat} (hx : ownT w' B0 (.slice (some ⟨g, 0, none⟩) n k) ats) => same_tt ow oh od oe ats w'.heap.size n k n ac (some ⟨g, 0, none⟩) (some ⟨ab, ao, none⟩) w' hx.rd ((ha.blw h).more h.size) (Nat.le_refl _) (by omega))
    have HS2 := Lib.hid (fun (w' : World) (h : Below w.heap.size w w') (g k : Nat) {B0 : Nat} (hx : ownT w' B0 (.slice (some ⟨g, 0, none⟩) n k) bts) => same_tt ow oh od oe bts w'.heap.size n k n bc (some ⟨g, 0, none⟩) (some ⟨bb, bo, none⟩) w' hx.rd ((hb.blw h).more h.size) (Nat.le_refl _) (by omega))
    have HCL := Lib.hid (fun (w' : World) (B0 g : Nat) (hx : ownL w' B0 (.slice (some ⟨g, 0, none⟩) n n) (upM ots ats ots n)) => (show Calls Try.prog 11 #[.slice (some ⟨g, 0, none⟩) n n] w' fun e w1 => e = .returned (.bool true) ∧ w' = w1 by have := clean_any w'.heap.size n n (some ⟨g, 0, none⟩) _ w' hx.rd (by omega); rwa [C3.out] at this))
    have HCM := Lib.hid (fun (w' : World) (B0 g : Nat) (hx : ownL w' B0 (.slice (some ⟨g, 0, none⟩) n n) (upM ots ots bts n)) => (show Calls Try.prog 11 #[.slice (some ⟨g, 0, none⟩) n n] w' fun e w1 => e = .returned (.bool true) ∧ w' = w1 by have := clean_any w'.heap.size n n (some ⟨g, 0, none⟩) _ w' hx.rd (by omega); rwa [C4.out] at this))
    have M0 := Lib.hid lo
    have M1 := Lib.hid la
    have M2 := Lib.hid lb
    clear ho ha hb ocs acs bcs lo la lb l1 l2
    have mo' : oc ≤ 9223372036854775807 := by unfold maxLen at mo; omega
    have ma' : ac ≤ 9223372036854775807 := by unfold maxLen at ma; omega
    have mb' : bc ≤ 9223372036854775807 := by unfold maxLen at mb; omega
    clear mo ma mb
    dsimp only [Sh.r] at *
    go_enter Try.func3, Try.ntmps3
    simp only [List.append_eq, List.cons_append, List.nil_append]
    go_upto_region 13 with (first
        | (go_at_call 7; (with_reducible refine (first23_any _).mono ?_); go_must (rintro e wf ⟨rfl, hb1⟩; first | (have _t := c0; (try (have c10 := box5 hb1; replace hb1 := bxd hb1)); (try replace c0 := kept c0 rfl hb1); (try replace c1 := kept c1 rfl hb1); (try replace c2 := kept c2 rfl hb1); (try replace c7 := kept c7 rfl hb1); (try replace c10 := kept c10 rfl hb1); (try replace c13 := kept c13 rfl hb1); (try replace c16 := kept c16 rfl hb1); (try replace HU := Lib.hid (HU.out.later hb1)); (try replace HM := Lib.hid (HM.out.later hb1)); (try replace HU2 := Lib.hid (HU2.out.later hb1)); (try replace HM2 := Lib.hid (HM2.out.later hb1)); (try replace HX := Lib.hid (HX.out.later hb1)); (try replace HXM := Lib.hid (HXM.out.later hb1)); (try replace HY := Lib.hid (HY.out.later hb1)); (try replace HYM := Lib.hid (HYM.out.later hb1)); replace hB := bstep hB hb1 (Nat.le_refl _); clear hb1) | (have c2 := box5 hb1; rw [World.size_alloc, World.size_alloc] at c2; replace hb1 := bxd hb1; have c1 := box5 hb1; rw [World.size_alloc] at c1; replace hb1 := bxd hb1; have c0 := box5 hb1; replace hB := bxd hb1; clear hb1)))
        | (go_at_call 8; (with_reducible refine (HF0.out _ hB).mono ?_); go_must (rintro e we ⟨rfl, hb1⟩; rw [F0.out]; (try replace c0 := kept c0 rfl hb1); (try replace c1 := kept c1 rfl hb1); (try replace c2 := kept c2 rfl hb1); (try replace c7 := kept c7 rfl hb1); (try replace c10 := kept c10 rfl hb1); (try replace c13 := kept c13 rfl hb1); (try replace c16 := kept c16 rfl hb1); (try replace HU := Lib.hid (HU.out.later hb1)); (try replace HM := Lib.hid (HM.out.later hb1)); (try replace HU2 := Lib.hid (HU2.out.later hb1)); (try replace HM2 := Lib.hid (HM2.out.later hb1)); (try replace HX := Lib.hid (HX.out.later hb1)); (try replace HXM := Lib.hid (HXM.out.later hb1)); (try replace HY := Lib.hid (HY.out.later hb1)); (try replace HYM := Lib.hid (HYM.out.later hb1)); replace hB := bstep hB hb1 (Nat.le_refl _); clear hb1))
        | (go_at_call 8; (with_reducible refine (HF1.out _ hB).mono ?_); go_must (rintro e we ⟨rfl, hb1⟩; rw [F1.out]; (try replace c0 := kept c0 rfl hb1); (try replace c1 := kept c1 rfl hb1); (try replace c2 := kept c2 rfl hb1); (try replace c7 := kept c7 rfl hb1); (try replace c10 := kept c10 rfl hb1); (try replace c13 := kept c13 rfl hb1); (try replace c16 := kept c16 rfl hb1); (try replace HU := Lib.hid (HU.out.later hb1)); (try replace HM := Lib.hid (HM.out.later hb1)); (try replace HU2 := Lib.hid (HU2.out.later hb1)); (try replace HM2 := Lib.hid (HM2.out.later hb1)); (try replace HX := Lib.hid (HX.out.later hb1)); (try replace HXM := Lib.hid (HXM.out.later hb1)); (try replace HY := Lib.hid (HY.out.later hb1)); (try replace HYM := Lib.hid (HYM.out.later hb1)); replace hB := bstep hB hb1 (Nat.le_refl _); clear hb1))
        | (go_at_call 8; (with_reducible refine (HF2.out _ hB).mono ?_); go_must (rintro e we ⟨rfl, hb1⟩; rw [F2.out]; (try replace c0 := kept c0 rfl hb1); (try replace c1 := kept c1 rfl hb1); (try replace c2 := kept c2 rfl hb1); (try replace c7 := kept c7 rfl hb1); (try replace c10 := kept c10 rfl hb1); (try replace c13 := kept c13 rfl hb1); (try replace c16 := kept c16 rfl hb1); (try replace HU := Lib.hid (HU.out.later hb1)); (try replace HM := Lib.hid (HM.out.later hb1)); (try replace HU2 := Lib.hid (HU2.out.later hb1)); (try replace HM2 := Lib.hid (HM2.out.later hb1)); (try replace HX := Lib.hid (HX.out.later hb1)); (try replace HXM := Lib.hid (HXM.out.later hb1)); (try replace HY := Lib.hid (HY.out.later hb1)); (try replace HYM := Lib.hid (HYM.out.later hb1)); replace hB := bstep hB hb1 (Nat.le_refl _); clear hb1))
        | (go_at_call 9; (with_reducible refine (HM1.out _ hB).mono ?_); go_must (rintro e w3 ⟨g1, k1, g2, rfl, hn1, hx, hy, hb1⟩; have HU := Lib.hid hx; have HM := Lib.hid hy; clear hx hy; (try replace c0 := kept c0 rfl hb1); (try replace c1 := kept c1 rfl hb1); (try replace c2 := kept c2 rfl hb1); (try replace c7 := kept c7 rfl hb1); (try replace c10 := kept c10 rfl hb1); (try replace c13 := kept c13 rfl hb1); (try replace c16 := kept c16 rfl hb1); (try replace HU2 := Lib.hid (HU2.out.later hb1)); (try replace HM2 := Lib.hid (HM2.out.later hb1)); (try replace HX := Lib.hid (HX.out.later hb1)); (try replace HXM := Lib.hid (HXM.out.later hb1)); (try replace HY := Lib.hid (HY.out.later hb1)); (try replace HYM := Lib.hid (HYM.out.later hb1)); replace hB := bstep hB hb1 (Nat.le_refl _); clear hb1; have yac0 := ltOf c0 rfl; have yac0n := Nat.ne_of_lt yac0; have yac1 := ltOf c1 rfl; have yac1n := Nat.ne_of_lt yac1; have yac2 := ltOf c2 rfl; have yac2n := Nat.ne_of_lt yac2))
        | (go_at_call 9; (with_reducible refine (HM2.out _ (bal hB _)).mono ?_); go_must (rintro e w4 ⟨g3, k3, g4, rfl, hn2, hx, hy, hb1⟩; have HU2 := Lib.hid hx; have HM2 := Lib.hid hy; clear hx hy; have c7 := box5 hb1; replace hb1 := bxd hb1; (try replace c0 := kept c0 rfl hb1); (try replace c1 := kept c1 rfl hb1); (try replace c2 := kept c2 rfl hb1); (try replace c10 := kept c10 rfl hb1); (try replace c13 := kept c13 rfl hb1); (try replace c16 := kept c16 rfl hb1); (try replace HU := Lib.hid (HU.out.later hb1)); (try replace HM := Lib.hid (HM.out.later hb1)); (try replace HX := Lib.hid (HX.out.later hb1)); (try replace HXM := Lib.hid (HXM.out.later hb1)); (try replace HY := Lib.hid (HY.out.later hb1)); (try replace HYM := Lib.hid (HYM.out.later hb1)); replace hB := bstep hB hb1 (Nat.le_refl _); clear hb1; have ybc0 := ltOf c0 rfl; have ybc0n := Nat.ne_of_lt ybc0; have ybc1 := ltOf c1 rfl; have ybc1n := Nat.ne_of_lt ybc1; have ybc2 := ltOf c2 rfl; have ybc2n := Nat.ne_of_lt ybc2; have ybc7 := ltOf c7 rfl; have ybc7n := Nat.ne_of_lt ybc7))
        | (go_at_call 10; (with_reducible refine (bools_eq _ n _ _ _ _ _ (upM ots ats bts n) _ (HM.out.alloc _).rd (HM2.out.alloc _).rd (by omega)).mono ?_); go_must (rintro e w5 ⟨rfl, hb1⟩; have c10 := box5 hb1; replace hb1 := bxd hb1; (try replace c0 := kept c0 rfl hb1); (try replace c1 := kept c1 rfl hb1); (try replace c2 := kept c2 rfl hb1); (try replace c7 := kept c7 rfl hb1); (try replace c13 := kept c13 rfl hb1); (try replace c16 := kept c16 rfl hb1); (try replace HU := Lib.hid (HU.out.later hb1)); (try replace HM := Lib.hid (HM.out.later hb1)); (try replace HU2 := Lib.hid (HU2.out.later hb1)); (try replace HM2 := Lib.hid (HM2.out.later hb1)); (try replace HX := Lib.hid (HX.out.later hb1)); (try replace HXM := Lib.hid (HXM.out.later hb1)); (try replace HY := Lib.hid (HY.out.later hb1)); (try replace HYM := Lib.hid (HYM.out.later hb1)); replace hB := bstep hB hb1 (Nat.le_refl _); clear hb1))
        | (go_at_call 9; (with_reducible refine (HM3.out _ hB).mono ?_); go_must (rintro e w6 ⟨g5, k5, g6, rfl, hn3, hx, hy, hb1⟩; have HX := Lib.hid hx; have HXM := Lib.hid hy; clear hx hy; (try replace c0 := kept c0 rfl hb1); (try replace c1 := kept c1 rfl hb1); (try replace c2 := kept c2 rfl hb1); (try replace c7 := kept c7 rfl hb1); (try replace c10 := kept c10 rfl hb1); (try replace c13 := kept c13 rfl hb1); (try replace c16 := kept c16 rfl hb1); (try replace HU := Lib.hid (HU.out.later hb1)); (try replace HM := Lib.hid (HM.out.later hb1)); (try replace HU2 := Lib.hid (HU2.out.later hb1)); (try replace HM2 := Lib.hid (HM2.out.later hb1)); (try replace HY := Lib.hid (HY.out.later hb1)); (try replace HYM := Lib.hid (HYM.out.later hb1)); replace hB := bstep hB hb1 (Nat.le_refl _); clear hb1; have ydc0 := ltOf c0 rfl; have ydc0n := Nat.ne_of_lt ydc0; have ydc1 := ltOf c1 rfl; have ydc1n := Nat.ne_of_lt ydc1; have ydc2 := ltOf c2 rfl; have ydc2n := Nat.ne_of_lt ydc2; have ydc7 := ltOf c7 rfl; have ydc7n := Nat.ne_of_lt ydc7; have ydc10 := ltOf c10 rfl; have ydc10n := Nat.ne_of_lt ydc10))
        | (go_at_call 9; (with_reducible refine (HM4.out _ (bal hB _)).mono ?_); go_must (rintro e w7 ⟨g7, k7, g8, rfl, hn4, hx, hy, hb1⟩; have HY := Lib.hid hx; have HYM := Lib.hid hy; clear hx hy; have c13 := box5 hb1; replace hb1 := bxd hb1; (try replace c0 := kept c0 rfl hb1); (try replace c1 := kept c1 rfl hb1); (try replace c2 := kept c2 rfl hb1); (try replace c7 := kept c7 rfl hb1); (try replace c10 := kept c10 rfl hb1); (try replace c16 := kept c16 rfl hb1); (try replace HU := Lib.hid (HU.out.later hb1)); (try replace HM := Lib.hid (HM.out.later hb1)); (try replace HU2 := Lib.hid (HU2.out.later hb1)); (try replace HM2 := Lib.hid (HM2.out.later hb1)); (try replace HX := Lib.hid (HX.out.later hb1)); (try replace HXM := Lib.hid (HXM.out.later hb1)); replace hB := bstep hB hb1 (Nat.le_refl _); clear hb1; have yec0 := ltOf c0 rfl; have yec0n := Nat.ne_of_lt yec0; have yec1 := ltOf c1 rfl; have yec1n := Nat.ne_of_lt yec1; have yec2 := ltOf c2 rfl; have yec2n := Nat.ne_of_lt yec2; have yec7 := ltOf c7 rfl; have yec7n := Nat.ne_of_lt yec7; have yec10 := ltOf c10 rfl; have yec10n := Nat.ne_of_lt yec10; have yec13 := ltOf c13 rfl; have yec13n := Nat.ne_of_lt yec13)))
    obtain ⟨W, hW⟩ : ∃ W, W = w7.alloc (.cells #[.int .i64 ow, .int .i64 oh, .int .i64 od, .int .i64 oe, .slice (some ⟨g7, 0, none⟩) n k7] 26) := ⟨_, rfl⟩
    have D0 : ∀ i, W.cell? ⟨w.heap.size, i, none⟩ = r5 (.int .i64 ow) (.int .i64 oh) (.int .i64 od) (.int .i64 oe) (.slice (some ⟨ob, oo, none⟩) n oc) i := by rw [hW]; exact kA5 c0 _
    have D1 : ∀ i, W.cell? ⟨w.heap.size + 1, i, none⟩ = r5 (.int .i64 ow) (.int .i64 oh) (.int .i64 od) (.int .i64 oe) (.slice (some ⟨ab, ao, none⟩) n ac) i := by rw [hW]; exact kA5 c1 _
    have D2 : ∀ i, W.cell? ⟨w.heap.size + 1 + 1, i, none⟩ = r5 (.int .i64 ow) (.int .i64 oh) (.int .i64 od) (.int .i64 oe) (.slice (some ⟨bb, bo, none⟩) n bc) i := by rw [hW]; exact kA5 c2 _
    have D7 : ∀ i, W.cell? ⟨w3.heap.size, i, none⟩ = r5 (.int .i64 ow) (.int .i64 oh) (.int .i64 od) (.int .i64 oe) (.slice (some ⟨g1, 0, none⟩) n k1) i := by rw [hW]; exact kA5 c7 _
    have D10 : ∀ i, W.cell? ⟨w4.heap.size, i, none⟩ = r5 (.int .i64 ow) (.int .i64 oh) (.int .i64 od) (.int .i64 oe) (.slice (some ⟨g3, 0, none⟩) n k3) i := by rw [hW]; exact kA5 c10 _
    have D13 : ∀ i, W.cell? ⟨w6.heap.size, i, none⟩ = r5 (.int .i64 ow) (.int .i64 oh) (.int .i64 od) (.int .i64 oe) (.slice (some ⟨g5, 0, none⟩) n k5) i := by rw [hW]; exact kA5 c13 _
    have D16 : ∀ i, W.cell? ⟨w7.heap.size, i, none⟩ = r5 (.int .i64 ow) (.int .i64 oh) (.int .i64 od) (.int .i64 oe) (.slice (some ⟨g7, 0, none⟩) n k7) i := by rw [hW]; exact new5 w7 _ _ _ _ _ _ _
    have DB : Below w.heap.size w W := by rw [hW]; exact bal hB _
    have EHU := HU.out.alloc (.cells #[.int .i64 ow, .int .i64 oh, .int .i64 od, .int .i64 oe, .slice (some ⟨g7, 0, none⟩) n k7] 26)
    rw [← hW] at EHU
    replace EHU := Lib.hid EHU
    have EHM := HM.out.alloc (.cells #[.int .i64 ow, .int .i64 oh, .int .i64 od, .int .i64 oe, .slice (some ⟨g7, 0, none⟩) n k7] 26)
    rw [← hW] at EHM
    replace EHM := Lib.hid EHM
    have EHU2 := HU2.out.alloc (.cells #[.int .i64 ow, .int .i64 oh, .int .i64 od, .int .i64 oe, .slice (some ⟨g7, 0, none⟩) n k7] 26)
    rw [← hW] at EHU2
    replace EHU2 := Lib.hid EHU2
    have EHM2 := HM2.out.alloc (.cells #[.int .i64 ow, .int .i64 oh, .int .i64 od, .int .i64 oe, .slice (some ⟨g7, 0, none⟩) n k7] 26)
    rw [← hW] at EHM2
    replace EHM2 := Lib.hid EHM2
    have EHX := HX.out.alloc (.cells #[.int .i64 ow, .int .i64 oh, .int .i64 od, .int .i64 oe, .slice (some ⟨g7, 0, none⟩) n k7] 26)
    rw [← hW] at EHX
    replace EHX := Lib.hid EHX
    have EHXM := HXM.out.alloc (.cells #[.int .i64 ow, .int .i64 oh, .int .i64 od, .int .i64 oe, .slice (some ⟨g7, 0, none⟩) n k7] 26)
    rw [← hW] at EHXM
    replace EHXM := Lib.hid EHXM
    have EHY := HY.out.alloc (.cells #[.int .i64 ow, .int .i64 oh, .int .i64 od, .int .i64 oe, .slice (some ⟨g7, 0, none⟩) n k7] 26)
    rw [← hW] at EHY
    replace EHY := Lib.hid EHY
    have EHYM := HYM.out.alloc (.cells #[.int .i64 ow, .int .i64 oh, .int .i64 od, .int .i64 oe, .slice (some ⟨g7, 0, none⟩) n k7] 26)
    rw [← hW] at EHYM
    replace EHYM := Lib.hid EHYM
    rw [← hW]
    clear hW c0 c1 c2 c7 c10 c13 hB HU HM HU2 HM2 HX HXM HY HYM
    have l0 := ltOf D0 rfl
    have l1 := ltOf D1 rfl
    have l2 := ltOf D2 rfl
    have l7 := ltOf D7 rfl
    have l10 := ltOf D10 rfl
    have l13 := ltOf D13 rfl
    have l16 := ltOf D16 rfl
    go_cut [158] (fun q ws => q = .bool false ∧ Below W.heap.size W ws)
    case first =>
      rename_i Q0 we1 we2 Ka aa K0 a0 J0 J K' hJ
      revert w oc ots ow oh od oe F0 n ac ats ca F1 n0 C3 bc bts F2 EK2' co C4 cb ob oo HF0 hob ab ao HF1 HM3 hab bb bo HF2 HM4 HM1 HM2 hbb HO HA HBB n9 HS1 HS2 HCL HCM M0 M1 M2 mo' ma' mb' Q0 wf we1 we2 we w3 g1 k1 g2 hn1 yac0 yac0n yac1 yac1n yac2 yac2n w4 g3 k3 g4 hn2 ybc0 ybc0n ybc1 ybc1n ybc2 ybc2n ybc7 ybc7n w5 w6 g5 k5 g6 hn3 ydc0 ydc0n ydc1 ydc1n ydc2 ydc2n ydc7 ydc7n ydc10 ydc10n w7 g7 k7 g8 hn4 yec0 yec0n yec1 yec1n yec2 yec2n yec7 yec7n yec10 yec10n yec13 yec13n Ka aa K0 a0 W D0 D1 D2 D7 D10 D13 D16 DB EHU EHM EHU2 EHM2 EHX EHXM EHY EHYM l0 l1 l2 l7 l10 l13 l16 J0 J K' hJ
      exact K1.out
    case rest =>
      obtain ⟨rfl, hX⟩ := hcut
      rename_i Q0 we1 we2 Ka aa K0 a0
      revert w oc ots ow oh od oe F0 n ac ats ca F1 n0 C3 bc bts F2 EK2' co C4 cb ob oo HF0 hob ab ao HF1 HM3 hab bb bo HF2 HM4 HM1 HM2 hbb HO HA HBB n9 HS1 HS2 HCL HCM M0 M1 M2 mo' ma' mb' Q0 wf we1 we2 we w3 g1 k1 g2 hn1 yac0 yac0n yac1 yac1n yac2 yac2n w4 g3 k3 g4 hn2 ybc0 ybc0n ybc1 ybc1n ybc2 ybc2n ybc7 ybc7n w5 w6 g5 k5 g6 hn3 ydc0 ydc0n ydc1 ydc1n ydc2 ydc2n ydc7 ydc7n ydc10 ydc10n w7 g7 k7 g8 hn4 yec0 yec0n yec1 yec1n yec2 yec2n yec7 yec7n yec10 yec10n yec13 yec13n Ka aa K0 a0 W D0 D1 D2 D7 D10 D13 D16 DB EHU EHM EHU2 EHM2 EHX EHXM EHY EHYM l0 l1 l2 l7 l10 l13 l16 wc u21 u22 u23 u24 u25 u26 u27 u28 u29 u30 u31 u32 u33 u34 u35 u36 u37 u38 u39 u40 u41 u42 u43 u44 u45 u46 u47 u48 u49 u50 u51 u52 u53 u54 u55 u56 u57 u58 u59 u60 u61 u62 u63 u64 u65 u66 u67 u68 u69 u70 u71 u72 u73 u74 u75 u76 u77 u78 u79 u80 u81 u82 u83 u84 u85 u86 u87 u88 u89 u90 u91 u92 u93 u94 u95 u96 u97 u98 u99 u100 u101 u102 u103 u104 u105 u106 u107 u108 u109 u110 u111 u112 u113 u114 u115 u116 u117 u118 u119 u120 u121 u122 u123 u124 u125 u126 u127 u128 u129 u130 u131 u132 u133 u134 u135 u136 u137 u138 u139 u140 u141 u142 u143 u144 u145 u146 u147 u148 u149 u150 u151 u152 u153 u154 u155 u156 u157 u159 u160 u161 u162 u163 u164 u165 u166 u167 u168 u169 u170 u171 u172 u173 u174 u175 u176 u177 u178 u179 u180 u181 u182 u183 u184 u185 u186 u187 u188 u189 u190 u191 u192 u193 u194 u195 u196 u197 u198 u199 u200 u201 u202 u203 u204 u205 u206 u207 u208 u209 u210 u211 u212 u213 u214 u215 u216 u217 u218 u219 u220 u221 u222 u223 u224 u225 u226 u227 u228 u229 u230 u231 u232 u233 u234 u235 u236 u237 u238 u239 u240 u241 u242 u243 u244 u245 u246 u247 u248 u249 u250 u251 u252 u253 u254 u255 u256 u257 u258 u259 u260 u261 u262 u263 u264 u265 u266 u267 u268 u269 u270 u271 u272 u273 u274 u275 u276 u277 u278 u279 u280 u281 u282 u283 u284 u285 u286 u287 u288 u289 u290 u291 u292 u293 u294 u295 u296 u297 u298 u299 u300 u301 u302 hX
      exact K2.out

end Go.Proofs.Ytmffmijjdpjaiaa
