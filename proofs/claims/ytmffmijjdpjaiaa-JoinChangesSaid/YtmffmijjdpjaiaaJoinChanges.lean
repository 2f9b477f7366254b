/- The walk of JoinChanges. -/
import Derived.Test.YtmffmijjdpjaiaaJoinChP
import Derived.Test.YtmffmijjdpjaiaaOpenT
import Derived.Deep.RegionHeld3
namespace Go.Proofs.Ytmffmijjdpjaiaa
set_option linter.all false
open Go.RowKit


set_option maxRecDepth 100000 in
set_option maxHeartbeats 3200000 in
theorem joinChanges_early (o a b : Tr) (w : World) (ho : RdT w w.heap.size o.A o.n o.ts) (co : o.n ≤ o.c) (mo : o.c ≤ maxLen) (ha : RdT w w.heap.size a.A a.n a.ts) (ca : a.n ≤ a.c) (ma : a.c ≤ maxLen) (hb : RdT w w.heap.size b.A b.n b.ts) (cb : b.n ≤ b.c) (mb : b.c ≤ maxLen) (h : fewT o.ts = false ∨ (fewT o.ts = true ∧ fewT a.ts = false) ∨ (fewT o.ts = true ∧ fewT a.ts = true ∧ fewT b.ts = false)) :
    Calls Try.prog 4 #[o.s.r o.A o.n o.c, a.s.r a.A a.n a.c, b.s.r b.A b.n b.c] w fun e w' => e = .returned (.bool true) ∧ Below w.heap.size w w' := by
  have hB := Below.refl w.heap.size w
  have HF0 := Lib.hid (fun (w' : World) (h : Below w.heap.size w w') => fewTree_any o.s w.heap.size o.n o.c o.A o.ts w' (ho.blw h) h.size co mo)
  have HF1 := Lib.hid (fun (w' : World) (h : Below w.heap.size w w') => fewTree_any a.s w.heap.size a.n a.c a.A a.ts w' (ha.blw h) h.size ca ma)
  have HF2 := Lib.hid (fun (w' : World) (h : Below w.heap.size w w') => fewTree_any b.s w.heap.size b.n b.c b.A b.ts w' (hb.blw h) h.size cb mb)
  clear ho ha hb
  dsimp only [Sh.r] at *
  rcases h with h | ⟨h, h'⟩ | ⟨h, h', h''⟩
  · have F0 := Lib.hid h
    clear h
    go_enter Try.func4, Try.ntmps4
    go_wp2_with (first
        | (go_at_call 7; (with_reducible refine (first23_any _).mono ?_); go_must (rintro e wf ⟨rfl, hb1⟩; first | (have _t := c0; (try (have c13 := box5 hb1; replace hb1 := bxd hb1)); (try replace c0 := kept c0 rfl hb1); (try replace c1 := kept c1 rfl hb1); (try replace c2 := kept c2 rfl hb1); (try replace c13 := kept c13 rfl hb1); (try replace HX := Lib.hid (HX.out.later hb1)); (try replace HY := Lib.hid (HY.out.later hb1)); (try replace HZ := Lib.hid (HZ.out.later hb1)); (try replace HU := Lib.hid (HU.out.later hb1)); (try replace HM := Lib.hid (HM.out.later hb1)); (try replace HP := Lib.hid (HP.out.later hb1)); (try replace HQ := Lib.hid (HQ.out.later hb1)); (try replace HR := Lib.hid (HR.out.later hb1)); (try replace HS := Lib.hid (HS.out.later hb1)); replace hB := bstep hB hb1 (Nat.le_refl _); clear hb1) | (have c2 := box5 hb1; rw [World.size_alloc, World.size_alloc] at c2; replace hb1 := bxd hb1; have c1 := box5 hb1; rw [World.size_alloc] at c1; replace hb1 := bxd hb1; have c0 := box5 hb1; replace hB := bxd hb1; clear hb1)))
        | (go_at_call 8; (with_reducible refine (HF0.out _ hB).mono ?_); go_must (rintro e we ⟨rfl, hb1⟩; rw [F0.out]; (try replace c0 := kept c0 rfl hb1); (try replace c1 := kept c1 rfl hb1); (try replace c2 := kept c2 rfl hb1); (try replace c13 := kept c13 rfl hb1); (try replace HX := Lib.hid (HX.out.later hb1)); (try replace HY := Lib.hid (HY.out.later hb1)); (try replace HZ := Lib.hid (HZ.out.later hb1)); (try replace HU := Lib.hid (HU.out.later hb1)); (try replace HM := Lib.hid (HM.out.later hb1)); (try replace HP := Lib.hid (HP.out.later hb1)); (try replace HQ := Lib.hid (HQ.out.later hb1)); (try replace HR := Lib.hid (HR.out.later hb1)); (try replace HS := Lib.hid (HS.out.later hb1)); replace hB := bstep hB hb1 (Nat.le_refl _); clear hb1))
        | (go_at_call 8; (with_reducible refine (HF1.out _ hB).mono ?_); go_must (rintro e we ⟨rfl, hb1⟩; rw [F1.out]; (try replace c0 := kept c0 rfl hb1); (try replace c1 := kept c1 rfl hb1); (try replace c2 := kept c2 rfl hb1); (try replace c13 := kept c13 rfl hb1); (try replace HX := Lib.hid (HX.out.later hb1)); (try replace HY := Lib.hid (HY.out.later hb1)); (try replace HZ := Lib.hid (HZ.out.later hb1)); (try replace HU := Lib.hid (HU.out.later hb1)); (try replace HM := Lib.hid (HM.out.later hb1)); (try replace HP := Lib.hid (HP.out.later hb1)); (try replace HQ := Lib.hid (HQ.out.later hb1)); (try replace HR := Lib.hid (HR.out.later hb1)); (try replace HS := Lib.hid (HS.out.later hb1)); replace hB := bstep hB hb1 (Nat.le_refl _); clear hb1))
        | (go_at_call 8; (with_reducible refine (HF2.out _ hB).mono ?_); go_must (rintro e we ⟨rfl, hb1⟩; rw [F2.out]; (try replace c0 := kept c0 rfl hb1); (try replace c1 := kept c1 rfl hb1); (try replace c2 := kept c2 rfl hb1); (try replace c13 := kept c13 rfl hb1); (try replace HX := Lib.hid (HX.out.later hb1)); (try replace HY := Lib.hid (HY.out.later hb1)); (try replace HZ := Lib.hid (HZ.out.later hb1)); (try replace HU := Lib.hid (HU.out.later hb1)); (try replace HM := Lib.hid (HM.out.later hb1)); (try replace HP := Lib.hid (HP.out.later hb1)); (try replace HQ := Lib.hid (HQ.out.later hb1)); (try replace HR := Lib.hid (HR.out.later hb1)); (try replace HS := Lib.hid (HS.out.later hb1)); replace hB := bstep hB hb1 (Nat.le_refl _); clear hb1)))
    go_ret
    exact ⟨rfl, hB⟩
  · have F0 := Lib.hid h
    have F1 := Lib.hid h'
    clear h h'
    go_enter Try.func4, Try.ntmps4
    go_wp2_with (first
        | (go_at_call 7; (with_reducible refine (first23_any _).mono ?_); go_must (rintro e wf ⟨rfl, hb1⟩; first | (have _t := c0; (try (have c13 := box5 hb1; replace hb1 := bxd hb1)); (try replace c0 := kept c0 rfl hb1); (try replace c1 := kept c1 rfl hb1); (try replace c2 := kept c2 rfl hb1); (try replace c13 := kept c13 rfl hb1); (try replace HX := Lib.hid (HX.out.later hb1)); (try replace HY := Lib.hid (HY.out.later hb1)); (try replace HZ := Lib.hid (HZ.out.later hb1)); (try replace HU := Lib.hid (HU.out.later hb1)); (try replace HM := Lib.hid (HM.out.later hb1)); (try replace HP := Lib.hid (HP.out.later hb1)); (try replace HQ := Lib.hid (HQ.out.later hb1)); (try replace HR := Lib.hid (HR.out.later hb1)); (try replace HS := Lib.hid (HS.out.later hb1)); replace hB := bstep hB hb1 (Nat.le_refl _); clear hb1) | (have c2 := box5 hb1; rw [World.size_alloc, World.size_alloc] at c2; replace hb1 := bxd hb1; have c1 := box5 hb1; rw [World.size_alloc] at c1; replace hb1 := bxd hb1; have c0 := box5 hb1; replace hB := bxd hb1; clear hb1)))
        | (go_at_call 8; (with_reducible refine (HF0.out _ hB).mono ?_); go_must (rintro e we ⟨rfl, hb1⟩; rw [F0.out]; (try replace c0 := kept c0 rfl hb1); (try replace c1 := kept c1 rfl hb1); (try replace c2 := kept c2 rfl hb1); (try replace c13 := kept c13 rfl hb1); (try replace HX := Lib.hid (HX.out.later hb1)); (try replace HY := Lib.hid (HY.out.later hb1)); (try replace HZ := Lib.hid (HZ.out.later hb1)); (try replace HU := Lib.hid (HU.out.later hb1)); (try replace HM := Lib.hid (HM.out.later hb1)); (try replace HP := Lib.hid (HP.out.later hb1)); (try replace HQ := Lib.hid (HQ.out.later hb1)); (try replace HR := Lib.hid (HR.out.later hb1)); (try replace HS := Lib.hid (HS.out.later hb1)); replace hB := bstep hB hb1 (Nat.le_refl _); clear hb1))
        | (go_at_call 8; (with_reducible refine (HF1.out _ hB).mono ?_); go_must (rintro e we ⟨rfl, hb1⟩; rw [F1.out]; (try replace c0 := kept c0 rfl hb1); (try replace c1 := kept c1 rfl hb1); (try replace c2 := kept c2 rfl hb1); (try replace c13 := kept c13 rfl hb1); (try replace HX := Lib.hid (HX.out.later hb1)); (try replace HY := Lib.hid (HY.out.later hb1)); (try replace HZ := Lib.hid (HZ.out.later hb1)); (try replace HU := Lib.hid (HU.out.later hb1)); (try replace HM := Lib.hid (HM.out.later hb1)); (try replace HP := Lib.hid (HP.out.later hb1)); (try replace HQ := Lib.hid (HQ.out.later hb1)); (try replace HR := Lib.hid (HR.out.later hb1)); (try replace HS := Lib.hid (HS.out.later hb1)); replace hB := bstep hB hb1 (Nat.le_refl _); clear hb1))
        | (go_at_call 8; (with_reducible refine (HF2.out _ hB).mono ?_); go_must (rintro e we ⟨rfl, hb1⟩; rw [F2.out]; (try replace c0 := kept c0 rfl hb1); (try replace c1 := kept c1 rfl hb1); (try replace c2 := kept c2 rfl hb1); (try replace c13 := kept c13 rfl hb1); (try replace HX := Lib.hid (HX.out.later hb1)); (try replace HY := Lib.hid (HY.out.later hb1)); (try replace HZ := Lib.hid (HZ.out.later hb1)); (try replace HU := Lib.hid (HU.out.later hb1)); (try replace HM := Lib.hid (HM.out.later hb1)); (try replace HP := Lib.hid (HP.out.later hb1)); (try replace HQ := Lib.hid (HQ.out.later hb1)); (try replace HR := Lib.hid (HR.out.later hb1)); (try replace HS := Lib.hid (HS.out.later hb1)); replace hB := bstep hB hb1 (Nat.le_refl _); clear hb1)))
    go_ret
    exact ⟨rfl, hB⟩
  · have F0 := Lib.hid h
    have F1 := Lib.hid h'
    have F2 := Lib.hid h''
    clear h h' h''
    go_enter Try.func4, Try.ntmps4
    go_wp2_with (first
        | (go_at_call 7; (with_reducible refine (first23_any _).mono ?_); go_must (rintro e wf ⟨rfl, hb1⟩; first | (have _t := c0; (try (have c13 := box5 hb1; replace hb1 := bxd hb1)); (try replace c0 := kept c0 rfl hb1); (try replace c1 := kept c1 rfl hb1); (try replace c2 := kept c2 rfl hb1); (try replace c13 := kept c13 rfl hb1); (try replace HX := Lib.hid (HX.out.later hb1)); (try replace HY := Lib.hid (HY.out.later hb1)); (try replace HZ := Lib.hid (HZ.out.later hb1)); (try replace HU := Lib.hid (HU.out.later hb1)); (try replace HM := Lib.hid (HM.out.later hb1)); (try replace HP := Lib.hid (HP.out.later hb1)); (try replace HQ := Lib.hid (HQ.out.later hb1)); (try replace HR := Lib.hid (HR.out.later hb1)); (try replace HS := Lib.hid (HS.out.later hb1)); replace hB := bstep hB hb1 (Nat.le_refl _); clear hb1) | (have c2 := box5 hb1; rw [World.size_alloc, World.size_alloc] at c2; replace hb1 := bxd hb1; have c1 := box5 hb1; rw [World.size_alloc] at c1; replace hb1 := bxd hb1; have c0 := box5 hb1; replace hB := bxd hb1; clear hb1)))
        | (go_at_call 8; (with_reducible refine (HF0.out _ hB).mono ?_); go_must (rintro e we ⟨rfl, hb1⟩; rw [F0.out]; (try replace c0 := kept c0 rfl hb1); (try replace c1 := kept c1 rfl hb1); (try replace c2 := kept c2 rfl hb1); (try replace c13 := kept c13 rfl hb1); (try replace HX := Lib.hid (HX.out.later hb1)); (try replace HY := Lib.hid (HY.out.later hb1)); (try replace HZ := Lib.hid (HZ.out.later hb1)); (try replace HU := Lib.hid (HU.out.later hb1)); (try replace HM := Lib.hid (HM.out.later hb1)); (try replace HP := Lib.hid (HP.out.later hb1)); (try replace HQ := Lib.hid (HQ.out.later hb1)); (try replace HR := Lib.hid (HR.out.later hb1)); (try replace HS := Lib.hid (HS.out.later hb1)); replace hB := bstep hB hb1 (Nat.le_refl _); clear hb1))
        | (go_at_call 8; (with_reducible refine (HF1.out _ hB).mono ?_); go_must (rintro e we ⟨rfl, hb1⟩; rw [F1.out]; (try replace c0 := kept c0 rfl hb1); (try replace c1 := kept c1 rfl hb1); (try replace c2 := kept c2 rfl hb1); (try replace c13 := kept c13 rfl hb1); (try replace HX := Lib.hid (HX.out.later hb1)); (try replace HY := Lib.hid (HY.out.later hb1)); (try replace HZ := Lib.hid (HZ.out.later hb1)); (try replace HU := Lib.hid (HU.out.later hb1)); (try replace HM := Lib.hid (HM.out.later hb1)); (try replace HP := Lib.hid (HP.out.later hb1)); (try replace HQ := Lib.hid (HQ.out.later hb1)); (try replace HR := Lib.hid (HR.out.later hb1)); (try replace HS := Lib.hid (HS.out.later hb1)); replace hB := bstep hB hb1 (Nat.le_refl _); clear hb1))
        | (go_at_call 8; (with_reducible refine (HF2.out _ hB).mono ?_); go_must (rintro e we ⟨rfl, hb1⟩; rw [F2.out]; (try replace c0 := kept c0 rfl hb1); (try replace c1 := kept c1 rfl hb1); (try replace c2 := kept c2 rfl hb1); (try replace c13 := kept c13 rfl hb1); (try replace HX := Lib.hid (HX.out.later hb1)); (try replace HY := Lib.hid (HY.out.later hb1)); (try replace HZ := Lib.hid (HZ.out.later hb1)); (try replace HU := Lib.hid (HU.out.later hb1)); (try replace HM := Lib.hid (HM.out.later hb1)); (try replace HP := Lib.hid (HP.out.later hb1)); (try replace HQ := Lib.hid (HQ.out.later hb1)); (try replace HR := Lib.hid (HR.out.later hb1)); (try replace HS := Lib.hid (HS.out.later hb1)); replace hB := bstep hB hb1 (Nat.le_refl _); clear hb1)))
    go_ret
    exact ⟨rfl, hB⟩
theorem ints_eq (B n c B' n' c' : Nat) (A A' : Option Addr) (xs : List Int) (w : World) (h : RdI w B A n xs) (h' : RdI w B' A' n' xs) (hn : n ≤ 1099511627776) :
    Calls Try.prog 15 #[.slice A n c, .slice A' n' c'] w fun e w' => e = .returned (.bool true) ∧ Below w.heap.size w w' := by
  refine (ints_any B n c B' n' c' A A' xs xs w h h' hn).mono ?_
  rintro e w1 ⟨rfl, hb⟩
  exact ⟨ret_bool (by simp), hb⟩

set_option maxRecDepth 100000 in
set_option maxHeartbeats 6400000 in
theorem joinChanges_err_f (o a b : Tr) (w : World) (ho : RdT w w.heap.size o.A o.n o.ts) (co : o.n ≤ o.c) (mo : o.c ≤ maxLen) (ha : RdT w w.heap.size a.A a.n a.ts) (ca : a.n ≤ a.c) (ma : a.c ≤ maxLen) (hb : RdT w w.heap.size b.A b.n b.ts) (cb : b.n ≤ b.c) (mb : b.c ≤ maxLen) (f0 : fewT o.ts = true) (f1 : fewT a.ts = true) (f2 : fewT b.ts = true) (hm : a.may = false) (E : Int) (hE : wrongT [o, a, b] = E) (hE0 : E = 4 ∨ E = 13) :
    Calls Try.prog 4 #[o.s.r o.A o.n o.c, a.s.r a.A a.n a.c, b.s.r b.A b.n b.c] w fun e w' => e = .returned (.bool true) ∧ Below w.heap.size w w' := by
  have hB := Below.refl w.heap.size w
  have HF0 := Lib.hid (fun (w' : World) (h : Below w.heap.size w w') => fewTree_any o.s w.heap.size o.n o.c o.A o.ts w' (ho.blw h) h.size co mo)
  have HF1 := Lib.hid (fun (w' : World) (h : Below w.heap.size w w') => fewTree_any a.s w.heap.size a.n a.c a.A a.ts w' (ha.blw h) h.size ca ma)
  have HF2 := Lib.hid (fun (w' : World) (h : Below w.heap.size w w') => fewTree_any b.s w.heap.size b.n b.c b.A b.ts w' (hb.blw h) h.size cb mb)
  have F0 := Lib.hid f0
  have F1 := Lib.hid f1
  have F2 := Lib.hid f2
  have so := (fewT_yes f0).2
  have sa := (fewT_yes f1).2
  have sb := (fewT_yes f2).2
  have ko : ∀ w', Below w.heap.size w w' → o.ok w' w.heap.size := fun w' h => ⟨ho.blw h, co, mo, so⟩
  have ka : ∀ w', Below w.heap.size w w' → a.ok w' w.heap.size := fun w' h => ⟨ha.blw h, ca, ma, sa⟩
  have kb : ∀ w', Below w.heap.size w w' → b.ok w' w.heap.size := fun w' h => ⟨hb.blw h, cb, mb, sb⟩
  have HC1 := Lib.hid (fun (w' : World) (h : Below w.heap.size w w') => changed_any a b w.heap.size w' (ka w' h) (kb w' h) h.size)
  have HC2 := Lib.hid (fun (w' : World) (h : Below w.heap.size w w') => changed_any b a w.heap.size w' (kb w' h) (ka w' h) h.size)
  have HC3 := Lib.hid (fun (w' : World) (h : Below w.heap.size w w') => changed_any a a w.heap.size w' (ka w' h) (ka w' h) h.size)
  rw [chgR_comm b a hb.len ha.len, wrong2_comm b a] at HC2
  rw [chgR_self, wrong2_self] at HC3
  have HMY := Lib.hid (Tr.okMay (ka w hB) (Nat.le_refl _))
  have HLX := Lib.hid (show (chgR a b).length ≤ 1099511627776 by have := chgR_len a b; have := (fewT_yes f1).1; have := ha.len; omega)
  rw [hm] at HC3
  have VA := Lib.hid hm
  have HMG := Lib.hid (fun (w' : World) (h : Below w.heap.size w w') => merge_no o a b w.heap.size w' (ko w' h) (ka w' h) (kb w' h) h.size E hE hE0)
  have hne : (E != 0) = true := by rcases hE0 with rfl | rfl <;> rfl
  generalize wrongT [a, b] = EC at HC1 HC2
  generalize chgR a b = LX at HC1 HC2 HLX
  clear hE hE0 hm
  clear ho ha hb so sa sb ko ka kb f0 f1 f2
  simp only [if_true, Bool.false_eq_true, if_false, List.length_nil] at HC3
  dsimp only [Sh.r] at *
  go_enter Try.func4, Try.ntmps4
  go_wp2_with (first
      | (go_at_call 7; (with_reducible refine (first23_any _).mono ?_); go_must (rintro e wf ⟨rfl, hb1⟩; first | (have _t := c0; (try (have c13 := box5 hb1; replace hb1 := bxd hb1)); (try replace c0 := kept c0 rfl hb1); (try replace c1 := kept c1 rfl hb1); (try replace c2 := kept c2 rfl hb1); (try replace c13 := kept c13 rfl hb1); (try replace HX := Lib.hid (HX.out.later hb1)); (try replace HY := Lib.hid (HY.out.later hb1)); (try replace HZ := Lib.hid (HZ.out.later hb1)); (try replace HU := Lib.hid (HU.out.later hb1)); (try replace HM := Lib.hid (HM.out.later hb1)); (try replace HP := Lib.hid (HP.out.later hb1)); (try replace HQ := Lib.hid (HQ.out.later hb1)); (try replace HR := Lib.hid (HR.out.later hb1)); (try replace HS := Lib.hid (HS.out.later hb1)); replace hB := bstep hB hb1 (Nat.le_refl _); clear hb1) | (have c2 := box5 hb1; rw [World.size_alloc, World.size_alloc] at c2; replace hb1 := bxd hb1; have c1 := box5 hb1; rw [World.size_alloc] at c1; replace hb1 := bxd hb1; have c0 := box5 hb1; replace hB := bxd hb1; clear hb1)))
      | (go_at_call 8; (with_reducible refine (HF0.out _ hB).mono ?_); go_must (rintro e we ⟨rfl, hb1⟩; rw [F0.out]; (try replace c0 := kept c0 rfl hb1); (try replace c1 := kept c1 rfl hb1); (try replace c2 := kept c2 rfl hb1); (try replace c13 := kept c13 rfl hb1); (try replace HX := Lib.hid (HX.out.later hb1)); (try replace HY := Lib.hid (HY.out.later hb1)); (try replace HZ := Lib.hid (HZ.out.later hb1)); (try replace HU := Lib.hid (HU.out.later hb1)); (try replace HM := Lib.hid (HM.out.later hb1)); (try replace HP := Lib.hid (HP.out.later hb1)); (try replace HQ := Lib.hid (HQ.out.later hb1)); (try replace HR := Lib.hid (HR.out.later hb1)); (try replace HS := Lib.hid (HS.out.later hb1)); replace hB := bstep hB hb1 (Nat.le_refl _); clear hb1))
      | (go_at_call 8; (with_reducible refine (HF1.out _ hB).mono ?_); go_must (rintro e we ⟨rfl, hb1⟩; rw [F1.out]; (try replace c0 := kept c0 rfl hb1); (try replace c1 := kept c1 rfl hb1); (try replace c2 := kept c2 rfl hb1); (try replace c13 := kept c13 rfl hb1); (try replace HX := Lib.hid (HX.out.later hb1)); (try replace HY := Lib.hid (HY.out.later hb1)); (try replace HZ := Lib.hid (HZ.out.later hb1)); (try replace HU := Lib.hid (HU.out.later hb1)); (try replace HM := Lib.hid (HM.out.later hb1)); (try replace HP := Lib.hid (HP.out.later hb1)); (try replace HQ := Lib.hid (HQ.out.later hb1)); (try replace HR := Lib.hid (HR.out.later hb1)); (try replace HS := Lib.hid (HS.out.later hb1)); replace hB := bstep hB hb1 (Nat.le_refl _); clear hb1))
      | (go_at_call 8; (with_reducible refine (HF2.out _ hB).mono ?_); go_must (rintro e we ⟨rfl, hb1⟩; rw [F2.out]; (try replace c0 := kept c0 rfl hb1); (try replace c1 := kept c1 rfl hb1); (try replace c2 := kept c2 rfl hb1); (try replace c13 := kept c13 rfl hb1); (try replace HX := Lib.hid (HX.out.later hb1)); (try replace HY := Lib.hid (HY.out.later hb1)); (try replace HZ := Lib.hid (HZ.out.later hb1)); (try replace HU := Lib.hid (HU.out.later hb1)); (try replace HM := Lib.hid (HM.out.later hb1)); (try replace HP := Lib.hid (HP.out.later hb1)); (try replace HQ := Lib.hid (HQ.out.later hb1)); (try replace HR := Lib.hid (HR.out.later hb1)); (try replace HS := Lib.hid (HS.out.later hb1)); replace hB := bstep hB hb1 (Nat.le_refl _); clear hb1))
      | (go_at_call 14; (with_reducible refine (HC1.out _ hB).mono ?_); go_must (rintro e w3 ⟨A1, n1, k1, rfl, rfl, hx, hb1⟩; have HX := Lib.hid hx; clear hx; (try replace c0 := kept c0 rfl hb1); (try replace c1 := kept c1 rfl hb1); (try replace c2 := kept c2 rfl hb1); (try replace c13 := kept c13 rfl hb1); (try replace HY := Lib.hid (HY.out.later hb1)); (try replace HZ := Lib.hid (HZ.out.later hb1)); (try replace HU := Lib.hid (HU.out.later hb1)); (try replace HM := Lib.hid (HM.out.later hb1)); (try replace HP := Lib.hid (HP.out.later hb1)); (try replace HQ := Lib.hid (HQ.out.later hb1)); (try replace HR := Lib.hid (HR.out.later hb1)); (try replace HS := Lib.hid (HS.out.later hb1)); replace hB := bstep hB hb1 (Nat.le_refl _); clear hb1))
      | (go_at_call 14; (with_reducible refine (HC2.out _ hB).mono ?_); go_must (rintro e w4 ⟨A2, n2, k2, rfl, rfl, hx, hb1⟩; have HY := Lib.hid hx; clear hx; (try replace c0 := kept c0 rfl hb1); (try replace c1 := kept c1 rfl hb1); (try replace c2 := kept c2 rfl hb1); (try replace c13 := kept c13 rfl hb1); (try replace HX := Lib.hid (HX.out.later hb1)); (try replace HZ := Lib.hid (HZ.out.later hb1)); (try replace HU := Lib.hid (HU.out.later hb1)); (try replace HM := Lib.hid (HM.out.later hb1)); (try replace HP := Lib.hid (HP.out.later hb1)); (try replace HQ := Lib.hid (HQ.out.later hb1)); (try replace HR := Lib.hid (HR.out.later hb1)); (try replace HS := Lib.hid (HS.out.later hb1)); replace hB := bstep hB hb1 (Nat.le_refl _); clear hb1))
      | (go_at_call 14; (with_reducible refine (HC3.out _ hB).mono ?_); go_must (rintro e w5 ⟨A3, n3, k3, rfl, rfl, hx, hb1⟩; have HZ := Lib.hid hx; clear hx; (try replace c0 := kept c0 rfl hb1); (try replace c1 := kept c1 rfl hb1); (try replace c2 := kept c2 rfl hb1); (try replace c13 := kept c13 rfl hb1); (try replace HX := Lib.hid (HX.out.later hb1)); (try replace HY := Lib.hid (HY.out.later hb1)); (try replace HU := Lib.hid (HU.out.later hb1)); (try replace HM := Lib.hid (HM.out.later hb1)); (try replace HP := Lib.hid (HP.out.later hb1)); (try replace HQ := Lib.hid (HQ.out.later hb1)); (try replace HR := Lib.hid (HR.out.later hb1)); (try replace HS := Lib.hid (HS.out.later hb1)); replace hB := bstep hB hb1 (Nat.le_refl _); clear hb1))
      | (go_at_call 15; (with_reducible refine (ints_eq _ _ _ _ _ _ _ _ _ _ HX.out.rd HY.out.rd HLX.out).mono ?_); go_must (rintro e wi ⟨rfl, hb1⟩; (try replace c0 := kept c0 rfl hb1); (try replace c1 := kept c1 rfl hb1); (try replace c2 := kept c2 rfl hb1); (try replace c13 := kept c13 rfl hb1); (try replace HX := Lib.hid (HX.out.later hb1)); (try replace HY := Lib.hid (HY.out.later hb1)); (try replace HZ := Lib.hid (HZ.out.later hb1)); (try replace HU := Lib.hid (HU.out.later hb1)); (try replace HM := Lib.hid (HM.out.later hb1)); (try replace HP := Lib.hid (HP.out.later hb1)); (try replace HQ := Lib.hid (HQ.out.later hb1)); (try replace HR := Lib.hid (HR.out.later hb1)); (try replace HS := Lib.hid (HS.out.later hb1)); replace hB := bstep hB hb1 (Nat.le_refl _); clear hb1))
      | (go_at_call 12; (with_reducible refine (tree_at _ _ _ _ _ _ _ _).mono ?_); go_must (rintro e wt ⟨rfl, hb1⟩; (try replace c0 := kept c0 rfl hb1); (try replace c1 := kept c1 rfl hb1); (try replace c2 := kept c2 rfl hb1); (try replace c13 := kept c13 rfl hb1); (try replace HX := Lib.hid (HX.out.later hb1)); (try replace HY := Lib.hid (HY.out.later hb1)); (try replace HZ := Lib.hid (HZ.out.later hb1)); (try replace HU := Lib.hid (HU.out.later hb1)); (try replace HM := Lib.hid (HM.out.later hb1)); (try replace HP := Lib.hid (HP.out.later hb1)); (try replace HQ := Lib.hid (HQ.out.later hb1)); (try replace HR := Lib.hid (HR.out.later hb1)); (try replace HS := Lib.hid (HS.out.later hb1)); replace hB := bstep hB hb1 (Nat.le_refl _); clear hb1))
      | (go_at_call 16; (with_reducible refine (HMY.out _ hB).mono ?_); go_must (rintro e wy ⟨rfl, hb1⟩; rw [VA.out]; (try replace c0 := kept c0 rfl hb1); (try replace c1 := kept c1 rfl hb1); (try replace c2 := kept c2 rfl hb1); (try replace c13 := kept c13 rfl hb1); (try replace HX := Lib.hid (HX.out.later hb1)); (try replace HY := Lib.hid (HY.out.later hb1)); (try replace HZ := Lib.hid (HZ.out.later hb1)); (try replace HU := Lib.hid (HU.out.later hb1)); (try replace HM := Lib.hid (HM.out.later hb1)); (try replace HP := Lib.hid (HP.out.later hb1)); (try replace HQ := Lib.hid (HQ.out.later hb1)); (try replace HR := Lib.hid (HR.out.later hb1)); (try replace HS := Lib.hid (HS.out.later hb1)); replace hB := bstep hB hb1 (Nat.le_refl _); clear hb1))
      | (go_at_call 9; (with_reducible refine (HMG.out _ hB).mono ?_); go_must (rintro e w8 ⟨rfl, hb1⟩; (try replace c0 := kept c0 rfl hb1); (try replace c1 := kept c1 rfl hb1); (try replace c2 := kept c2 rfl hb1); (try replace c13 := kept c13 rfl hb1); (try replace HX := Lib.hid (HX.out.later hb1)); (try replace HY := Lib.hid (HY.out.later hb1)); (try replace HZ := Lib.hid (HZ.out.later hb1)); (try replace HU := Lib.hid (HU.out.later hb1)); (try replace HM := Lib.hid (HM.out.later hb1)); (try replace HP := Lib.hid (HP.out.later hb1)); (try replace HQ := Lib.hid (HQ.out.later hb1)); (try replace HR := Lib.hid (HR.out.later hb1)); (try replace HS := Lib.hid (HS.out.later hb1)); replace hB := bstep hB hb1 (Nat.le_refl _); clear hb1; have yac0 := ltOf c0 rfl; have yac0n := Nat.ne_of_lt yac0; have yac1 := ltOf c1 rfl; have yac1n := Nat.ne_of_lt yac1; have yac2 := ltOf c2 rfl; have yac2n := Nat.ne_of_lt yac2)))
  go_ret
  exact ⟨rfl, hB⟩

set_option maxRecDepth 100000 in
set_option maxHeartbeats 6400000 in
theorem joinChanges_err_t (o a b : Tr) (w : World) (ho : RdT w w.heap.size o.A o.n o.ts) (co : o.n ≤ o.c) (mo : o.c ≤ maxLen) (ha : RdT w w.heap.size a.A a.n a.ts) (ca : a.n ≤ a.c) (ma : a.c ≤ maxLen) (hb : RdT w w.heap.size b.A b.n b.ts) (cb : b.n ≤ b.c) (mb : b.c ≤ maxLen) (f0 : fewT o.ts = true) (f1 : fewT a.ts = true) (f2 : fewT b.ts = true) (hm : a.may = true) (E : Int) (hE : wrongT [o, a, b] = E) (hE0 : E = 4 ∨ E = 13) :
    Calls Try.prog 4 #[o.s.r o.A o.n o.c, a.s.r a.A a.n a.c, b.s.r b.A b.n b.c] w fun e w' => e = .returned (.bool true) ∧ Below w.heap.size w w' := by
  have hB := Below.refl w.heap.size w
  have HF0 := Lib.hid (fun (w' : World) (h : Below w.heap.size w w') => fewTree_any o.s w.heap.size o.n o.c o.A o.ts w' (ho.blw h) h.size co mo)
  have HF1 := Lib.hid (fun (w' : World) (h : Below w.heap.size w w') => fewTree_any a.s w.heap.size a.n a.c a.A a.ts w' (ha.blw h) h.size ca ma)
  have HF2 := Lib.hid (fun (w' : World) (h : Below w.heap.size w w') => fewTree_any b.s w.heap.size b.n b.c b.A b.ts w' (hb.blw h) h.size cb mb)
  have F0 := Lib.hid f0
  have F1 := Lib.hid f1
  have F2 := Lib.hid f2
  have so := (fewT_yes f0).2
  have sa := (fewT_yes f1).2
  have sb := (fewT_yes f2).2
  have ko : ∀ w', Below w.heap.size w w' → o.ok w' w.heap.size := fun w' h => ⟨ho.blw h, co, mo, so⟩
  have ka : ∀ w', Below w.heap.size w w' → a.ok w' w.heap.size := fun w' h => ⟨ha.blw h, ca, ma, sa⟩
  have kb : ∀ w', Below w.heap.size w w' → b.ok w' w.heap.size := fun w' h => ⟨hb.blw h, cb, mb, sb⟩
  have HC1 := Lib.hid (fun (w' : World) (h : Below w.heap.size w w') => changed_any a b w.heap.size w' (ka w' h) (kb w' h) h.size)
  have HC2 := Lib.hid (fun (w' : World) (h : Below w.heap.size w w') => changed_any b a w.heap.size w' (kb w' h) (ka w' h) h.size)
  have HC3 := Lib.hid (fun (w' : World) (h : Below w.heap.size w w') => changed_any a a w.heap.size w' (ka w' h) (ka w' h) h.size)
  rw [chgR_comm b a hb.len ha.len, wrong2_comm b a] at HC2
  rw [chgR_self, wrong2_self] at HC3
  have HMY := Lib.hid (Tr.okMay (ka w hB) (Nat.le_refl _))
  have HLX := Lib.hid (show (chgR a b).length ≤ 1099511627776 by have := chgR_len a b; have := (fewT_yes f1).1; have := ha.len; omega)
  rw [hm] at HC3
  have VA := Lib.hid hm
  have HMG := Lib.hid (fun (w' : World) (h : Below w.heap.size w w') => merge_no o a b w.heap.size w' (ko w' h) (ka w' h) (kb w' h) h.size E hE hE0)
  have hne : (E != 0) = true := by rcases hE0 with rfl | rfl <;> rfl
  generalize wrongT [a, b] = EC at HC1 HC2
  generalize chgR a b = LX at HC1 HC2 HLX
  clear hE hE0 hm
  clear ho ha hb so sa sb ko ka kb f0 f1 f2
  simp only [if_true, Bool.false_eq_true, if_false, List.length_nil] at HC3
  dsimp only [Sh.r] at *
  go_enter Try.func4, Try.ntmps4
  go_wp2_with (first
      | (go_at_call 7; (with_reducible refine (first23_any _).mono ?_); go_must (rintro e wf ⟨rfl, hb1⟩; first | (have _t := c0; (try (have c13 := box5 hb1; replace hb1 := bxd hb1)); (try replace c0 := kept c0 rfl hb1); (try replace c1 := kept c1 rfl hb1); (try replace c2 := kept c2 rfl hb1); (try replace c13 := kept c13 rfl hb1); (try replace HX := Lib.hid (HX.out.later hb1)); (try replace HY := Lib.hid (HY.out.later hb1)); (try replace HZ := Lib.hid (HZ.out.later hb1)); (try replace HU := Lib.hid (HU.out.later hb1)); (try replace HM := Lib.hid (HM.out.later hb1)); (try replace HP := Lib.hid (HP.out.later hb1)); (try replace HQ := Lib.hid (HQ.out.later hb1)); (try replace HR := Lib.hid (HR.out.later hb1)); (try replace HS := Lib.hid (HS.out.later hb1)); replace hB := bstep hB hb1 (Nat.le_refl _); clear hb1) | (have c2 := box5 hb1; rw [World.size_alloc, World.size_alloc] at c2; replace hb1 := bxd hb1; have c1 := box5 hb1; rw [World.size_alloc] at c1; replace hb1 := bxd hb1; have c0 := box5 hb1; replace hB := bxd hb1; clear hb1)))
      | (go_at_call 8; (with_reducible refine (HF0.out _ hB).mono ?_); go_must (rintro e we ⟨rfl, hb1⟩; rw [F0.out]; (try replace c0 := kept c0 rfl hb1); (try replace c1 := kept c1 rfl hb1); (try replace c2 := kept c2 rfl hb1); (try replace c13 := kept c13 rfl hb1); (try replace HX := Lib.hid (HX.out.later hb1)); (try replace HY := Lib.hid (HY.out.later hb1)); (try replace HZ := Lib.hid (HZ.out.later hb1)); (try replace HU := Lib.hid (HU.out.later hb1)); (try replace HM := Lib.hid (HM.out.later hb1)); (try replace HP := Lib.hid (HP.out.later hb1)); (try replace HQ := Lib.hid (HQ.out.later hb1)); (try replace HR := Lib.hid (HR.out.later hb1)); (try replace HS := Lib.hid (HS.out.later hb1)); replace hB := bstep hB hb1 (Nat.le_refl _); clear hb1))
      | (go_at_call 8; (with_reducible refine (HF1.out _ hB).mono ?_); go_must (rintro e we ⟨rfl, hb1⟩; rw [F1.out]; (try replace c0 := kept c0 rfl hb1); (try replace c1 := kept c1 rfl hb1); (try replace c2 := kept c2 rfl hb1); (try replace c13 := kept c13 rfl hb1); (try replace HX := Lib.hid (HX.out.later hb1)); (try replace HY := Lib.hid (HY.out.later hb1)); (try replace HZ := Lib.hid (HZ.out.later hb1)); (try replace HU := Lib.hid (HU.out.later hb1)); (try replace HM := Lib.hid (HM.out.later hb1)); (try replace HP := Lib.hid (HP.out.later hb1)); (try replace HQ := Lib.hid (HQ.out.later hb1)); (try replace HR := Lib.hid (HR.out.later hb1)); (try replace HS := Lib.hid (HS.out.later hb1)); replace hB := bstep hB hb1 (Nat.le_refl _); clear hb1))
      | (go_at_call 8; (with_reducible refine (HF2.out _ hB).mono ?_); go_must (rintro e we ⟨rfl, hb1⟩; rw [F2.out]; (try replace c0 := kept c0 rfl hb1); (try replace c1 := kept c1 rfl hb1); (try replace c2 := kept c2 rfl hb1); (try replace c13 := kept c13 rfl hb1); (try replace HX := Lib.hid (HX.out.later hb1)); (try replace HY := Lib.hid (HY.out.later hb1)); (try replace HZ := Lib.hid (HZ.out.later hb1)); (try replace HU := Lib.hid (HU.out.later hb1)); (try replace HM := Lib.hid (HM.out.later hb1)); (try replace HP := Lib.hid (HP.out.later hb1)); (try replace HQ := Lib.hid (HQ.out.later hb1)); (try replace HR := Lib.hid (HR.out.later hb1)); (try replace HS := Lib.hid (HS.out.later hb1)); replace hB := bstep hB hb1 (Nat.le_refl _); clear hb1))
      | (go_at_call 14; (with_reducible refine (HC1.out _ hB).mono ?_); go_must (rintro e w3 ⟨A1, n1, k1, rfl, rfl, hx, hb1⟩; have HX := Lib.hid hx; clear hx; (try replace c0 := kept c0 rfl hb1); (try replace c1 := kept c1 rfl hb1); (try replace c2 := kept c2 rfl hb1); (try replace c13 := kept c13 rfl hb1); (try replace HY := Lib.hid (HY.out.later hb1)); (try replace HZ := Lib.hid (HZ.out.later hb1)); (try replace HU := Lib.hid (HU.out.later hb1)); (try replace HM := Lib.hid (HM.out.later hb1)); (try replace HP := Lib.hid (HP.out.later hb1)); (try replace HQ := Lib.hid (HQ.out.later hb1)); (try replace HR := Lib.hid (HR.out.later hb1)); (try replace HS := Lib.hid (HS.out.later hb1)); replace hB := bstep hB hb1 (Nat.le_refl _); clear hb1))
      | (go_at_call 14; (with_reducible refine (HC2.out _ hB).mono ?_); go_must (rintro e w4 ⟨A2, n2, k2, rfl, rfl, hx, hb1⟩; have HY := Lib.hid hx; clear hx; (try replace c0 := kept c0 rfl hb1); (try replace c1 := kept c1 rfl hb1); (try replace c2 := kept c2 rfl hb1); (try replace c13 := kept c13 rfl hb1); (try replace HX := Lib.hid (HX.out.later hb1)); (try replace HZ := Lib.hid (HZ.out.later hb1)); (try replace HU := Lib.hid (HU.out.later hb1)); (try replace HM := Lib.hid (HM.out.later hb1)); (try replace HP := Lib.hid (HP.out.later hb1)); (try replace HQ := Lib.hid (HQ.out.later hb1)); (try replace HR := Lib.hid (HR.out.later hb1)); (try replace HS := Lib.hid (HS.out.later hb1)); replace hB := bstep hB hb1 (Nat.le_refl _); clear hb1))
      | (go_at_call 14; (with_reducible refine (HC3.out _ hB).mono ?_); go_must (rintro e w5 ⟨A3, n3, k3, rfl, rfl, hx, hb1⟩; have HZ := Lib.hid hx; clear hx; (try replace c0 := kept c0 rfl hb1); (try replace c1 := kept c1 rfl hb1); (try replace c2 := kept c2 rfl hb1); (try replace c13 := kept c13 rfl hb1); (try replace HX := Lib.hid (HX.out.later hb1)); (try replace HY := Lib.hid (HY.out.later hb1)); (try replace HU := Lib.hid (HU.out.later hb1)); (try replace HM := Lib.hid (HM.out.later hb1)); (try replace HP := Lib.hid (HP.out.later hb1)); (try replace HQ := Lib.hid (HQ.out.later hb1)); (try replace HR := Lib.hid (HR.out.later hb1)); (try replace HS := Lib.hid (HS.out.later hb1)); replace hB := bstep hB hb1 (Nat.le_refl _); clear hb1))
      | (go_at_call 15; (with_reducible refine (ints_eq _ _ _ _ _ _ _ _ _ _ HX.out.rd HY.out.rd HLX.out).mono ?_); go_must (rintro e wi ⟨rfl, hb1⟩; (try replace c0 := kept c0 rfl hb1); (try replace c1 := kept c1 rfl hb1); (try replace c2 := kept c2 rfl hb1); (try replace c13 := kept c13 rfl hb1); (try replace HX := Lib.hid (HX.out.later hb1)); (try replace HY := Lib.hid (HY.out.later hb1)); (try replace HZ := Lib.hid (HZ.out.later hb1)); (try replace HU := Lib.hid (HU.out.later hb1)); (try replace HM := Lib.hid (HM.out.later hb1)); (try replace HP := Lib.hid (HP.out.later hb1)); (try replace HQ := Lib.hid (HQ.out.later hb1)); (try replace HR := Lib.hid (HR.out.later hb1)); (try replace HS := Lib.hid (HS.out.later hb1)); replace hB := bstep hB hb1 (Nat.le_refl _); clear hb1))
      | (go_at_call 12; (with_reducible refine (tree_at _ _ _ _ _ _ _ _).mono ?_); go_must (rintro e wt ⟨rfl, hb1⟩; (try replace c0 := kept c0 rfl hb1); (try replace c1 := kept c1 rfl hb1); (try replace c2 := kept c2 rfl hb1); (try replace c13 := kept c13 rfl hb1); (try replace HX := Lib.hid (HX.out.later hb1)); (try replace HY := Lib.hid (HY.out.later hb1)); (try replace HZ := Lib.hid (HZ.out.later hb1)); (try replace HU := Lib.hid (HU.out.later hb1)); (try replace HM := Lib.hid (HM.out.later hb1)); (try replace HP := Lib.hid (HP.out.later hb1)); (try replace HQ := Lib.hid (HQ.out.later hb1)); (try replace HR := Lib.hid (HR.out.later hb1)); (try replace HS := Lib.hid (HS.out.later hb1)); replace hB := bstep hB hb1 (Nat.le_refl _); clear hb1))
      | (go_at_call 16; (with_reducible refine (HMY.out _ hB).mono ?_); go_must (rintro e wy ⟨rfl, hb1⟩; rw [VA.out]; (try replace c0 := kept c0 rfl hb1); (try replace c1 := kept c1 rfl hb1); (try replace c2 := kept c2 rfl hb1); (try replace c13 := kept c13 rfl hb1); (try replace HX := Lib.hid (HX.out.later hb1)); (try replace HY := Lib.hid (HY.out.later hb1)); (try replace HZ := Lib.hid (HZ.out.later hb1)); (try replace HU := Lib.hid (HU.out.later hb1)); (try replace HM := Lib.hid (HM.out.later hb1)); (try replace HP := Lib.hid (HP.out.later hb1)); (try replace HQ := Lib.hid (HQ.out.later hb1)); (try replace HR := Lib.hid (HR.out.later hb1)); (try replace HS := Lib.hid (HS.out.later hb1)); replace hB := bstep hB hb1 (Nat.le_refl _); clear hb1))
      | (go_at_call 9; (with_reducible refine (HMG.out _ hB).mono ?_); go_must (rintro e w8 ⟨rfl, hb1⟩; (try replace c0 := kept c0 rfl hb1); (try replace c1 := kept c1 rfl hb1); (try replace c2 := kept c2 rfl hb1); (try replace c13 := kept c13 rfl hb1); (try replace HX := Lib.hid (HX.out.later hb1)); (try replace HY := Lib.hid (HY.out.later hb1)); (try replace HZ := Lib.hid (HZ.out.later hb1)); (try replace HU := Lib.hid (HU.out.later hb1)); (try replace HM := Lib.hid (HM.out.later hb1)); (try replace HP := Lib.hid (HP.out.later hb1)); (try replace HQ := Lib.hid (HQ.out.later hb1)); (try replace HR := Lib.hid (HR.out.later hb1)); (try replace HS := Lib.hid (HS.out.later hb1)); replace hB := bstep hB hb1 (Nat.le_refl _); clear hb1; have yac0 := ltOf c0 rfl; have yac0n := Nat.ne_of_lt yac0; have yac1 := ltOf c1 rfl; have yac1n := Nat.ne_of_lt yac1; have yac2 := ltOf c2 rfl; have yac2n := Nat.ne_of_lt yac2)))
  go_ret
  exact ⟨rfl, hB⟩

set_option maxRecDepth 100000 in
set_option maxHeartbeats 6400000 in
theorem joinChanges_dirty (o a b : Tr) (w : World) (ho : RdT w w.heap.size o.A o.n o.ts) (co : o.n ≤ o.c) (mo : o.c ≤ maxLen) (ha : RdT w w.heap.size a.A a.n a.ts) (ca : a.n ≤ a.c) (ma : a.c ≤ maxLen) (hb : RdT w w.heap.size b.A b.n b.ts) (cb : b.n ≤ b.c) (mb : b.c ≤ maxLen) (f0 : fewT o.ts = true) (f1 : fewT a.ts = true) (f2 : fewT b.ts = true) (hE : wrongT [o, a, b] = 0) (hcl : cleanL (upM o.ts a.ts b.ts a.n) = false) :
    Calls Try.prog 4 #[o.s.r o.A o.n o.c, a.s.r a.A a.n a.c, b.s.r b.A b.n b.c] w fun e w' => e = .returned (.bool true) ∧ Below w.heap.size w w' := by
  have hB := Below.refl w.heap.size w
  have HF0 := Lib.hid (fun (w' : World) (h : Below w.heap.size w w') => fewTree_any o.s w.heap.size o.n o.c o.A o.ts w' (ho.blw h) h.size co mo)
  have HF1 := Lib.hid (fun (w' : World) (h : Below w.heap.size w w') => fewTree_any a.s w.heap.size a.n a.c a.A a.ts w' (ha.blw h) h.size ca ma)
  have HF2 := Lib.hid (fun (w' : World) (h : Below w.heap.size w w') => fewTree_any b.s w.heap.size b.n b.c b.A b.ts w' (hb.blw h) h.size cb mb)
  have F0 := Lib.hid f0
  have F1 := Lib.hid f1
  have F2 := Lib.hid f2
  have so := (fewT_yes f0).2
  have sa := (fewT_yes f1).2
  have sb := (fewT_yes f2).2
  have ko : ∀ w', Below w.heap.size w w' → o.ok w' w.heap.size := fun w' h => ⟨ho.blw h, co, mo, so⟩
  have ka : ∀ w', Below w.heap.size w w' → a.ok w' w.heap.size := fun w' h => ⟨ha.blw h, ca, ma, sa⟩
  have kb : ∀ w', Below w.heap.size w w' → b.ok w' w.heap.size := fun w' h => ⟨hb.blw h, cb, mb, sb⟩
  have HC1 := Lib.hid (fun (w' : World) (h : Below w.heap.size w w') => changed_any a b w.heap.size w' (ka w' h) (kb w' h) h.size)
  have HC2 := Lib.hid (fun (w' : World) (h : Below w.heap.size w w') => changed_any b a w.heap.size w' (kb w' h) (ka w' h) h.size)
  have HC3 := Lib.hid (fun (w' : World) (h : Below w.heap.size w w') => changed_any a a w.heap.size w' (ka w' h) (ka w' h) h.size)
  rw [chgR_comm b a hb.len ha.len, wrong2_comm b a] at HC2
  rw [chgR_self, wrong2_self] at HC3
  have HMY := Lib.hid (Tr.okMay (ka w hB) (Nat.le_refl _))
  have HLX := Lib.hid (show (chgR a b).length ≤ 1099511627776 by have := chgR_len a b; have := (fewT_yes f1).1; have := ha.len; omega)
  obtain ⟨q1, q2, q3, e1, e2⟩ := wrong3_zero hE
  rw [q2] at HC3
  have VA := Lib.hid q2
  have HMG := Lib.hid (fun (w' : World) (h : Below w.heap.size w w') => merge_ok o a b w.heap.size w' (ko w' h) (ka w' h) (kb w' h) h.size hE)
  have hn9 : a.n ≤ 1099511627776 := by have := (fewT_yes f1).1; have := ha.len; omega
  have HCL := Lib.hid (fun (w' : World) (B0 g : Nat) (hx : ownL w' B0 (.slice (some ⟨g, 0, none⟩) a.n a.n) (upM o.ts a.ts b.ts a.n)) => (show Calls Try.prog 11 #[.slice (some ⟨g, 0, none⟩) a.n a.n] w' fun e w1 => e = .returned (.bool false) ∧ w' = w1 by have := clean_any w'.heap.size a.n a.n (some ⟨g, 0, none⟩) _ w' hx.rd hn9; rwa [hcl] at this))
  generalize wrongT [a, b] = EC at HC1 HC2
  generalize chgR a b = LX at HC1 HC2 HLX
  clear hE hcl q1 q2 q3 e1 e2
  clear ho ha hb so sa sb ko ka kb f0 f1 f2
  simp only [if_true, List.length_nil] at HC3
  dsimp only [Sh.r] at *
  go_enter Try.func4, Try.ntmps4
  go_wp2_with (first
      | (go_at_call 7; (with_reducible refine (first23_any _).mono ?_); go_must (rintro e wf ⟨rfl, hb1⟩; first | (have _t := c0; (try (have c13 := box5 hb1; replace hb1 := bxd hb1)); (try replace c0 := kept c0 rfl hb1); (try replace c1 := kept c1 rfl hb1); (try replace c2 := kept c2 rfl hb1); (try replace c13 := kept c13 rfl hb1); (try replace HX := Lib.hid (HX.out.later hb1)); (try replace HY := Lib.hid (HY.out.later hb1)); (try replace HZ := Lib.hid (HZ.out.later hb1)); (try replace HU := Lib.hid (HU.out.later hb1)); (try replace HM := Lib.hid (HM.out.later hb1)); (try replace HP := Lib.hid (HP.out.later hb1)); (try replace HQ := Lib.hid (HQ.out.later hb1)); (try replace HR := Lib.hid (HR.out.later hb1)); (try replace HS := Lib.hid (HS.out.later hb1)); replace hB := bstep hB hb1 (Nat.le_refl _); clear hb1) | (have c2 := box5 hb1; rw [World.size_alloc, World.size_alloc] at c2; replace hb1 := bxd hb1; have c1 := box5 hb1; rw [World.size_alloc] at c1; replace hb1 := bxd hb1; have c0 := box5 hb1; replace hB := bxd hb1; clear hb1)))
      | (go_at_call 8; (with_reducible refine (HF0.out _ hB).mono ?_); go_must (rintro e we ⟨rfl, hb1⟩; rw [F0.out]; (try replace c0 := kept c0 rfl hb1); (try replace c1 := kept c1 rfl hb1); (try replace c2 := kept c2 rfl hb1); (try replace c13 := kept c13 rfl hb1); (try replace HX := Lib.hid (HX.out.later hb1)); (try replace HY := Lib.hid (HY.out.later hb1)); (try replace HZ := Lib.hid (HZ.out.later hb1)); (try replace HU := Lib.hid (HU.out.later hb1)); (try replace HM := Lib.hid (HM.out.later hb1)); (try replace HP := Lib.hid (HP.out.later hb1)); (try replace HQ := Lib.hid (HQ.out.later hb1)); (try replace HR := Lib.hid (HR.out.later hb1)); (try replace HS := Lib.hid (HS.out.later hb1)); replace hB := bstep hB hb1 (Nat.le_refl _); clear hb1))
      | (go_at_call 8; (with_reducible refine (HF1.out _ hB).mono ?_); go_must (rintro e we ⟨rfl, hb1⟩; rw [F1.out]; (try replace c0 := kept c0 rfl hb1); (try replace c1 := kept c1 rfl hb1); (try replace c2 := kept c2 rfl hb1); (try replace c13 := kept c13 rfl hb1); (try replace HX := Lib.hid (HX.out.later hb1)); (try replace HY := Lib.hid (HY.out.later hb1)); (try replace HZ := Lib.hid (HZ.out.later hb1)); (try replace HU := Lib.hid (HU.out.later hb1)); (try replace HM := Lib.hid (HM.out.later hb1)); (try replace HP := Lib.hid (HP.out.later hb1)); (try replace HQ := Lib.hid (HQ.out.later hb1)); (try replace HR := Lib.hid (HR.out.later hb1)); (try replace HS := Lib.hid (HS.out.later hb1)); replace hB := bstep hB hb1 (Nat.le_refl _); clear hb1))
      | (go_at_call 8; (with_reducible refine (HF2.out _ hB).mono ?_); go_must (rintro e we ⟨rfl, hb1⟩; rw [F2.out]; (try replace c0 := kept c0 rfl hb1); (try replace c1 := kept c1 rfl hb1); (try replace c2 := kept c2 rfl hb1); (try replace c13 := kept c13 rfl hb1); (try replace HX := Lib.hid (HX.out.later hb1)); (try replace HY := Lib.hid (HY.out.later hb1)); (try replace HZ := Lib.hid (HZ.out.later hb1)); (try replace HU := Lib.hid (HU.out.later hb1)); (try replace HM := Lib.hid (HM.out.later hb1)); (try replace HP := Lib.hid (HP.out.later hb1)); (try replace HQ := Lib.hid (HQ.out.later hb1)); (try replace HR := Lib.hid (HR.out.later hb1)); (try replace HS := Lib.hid (HS.out.later hb1)); replace hB := bstep hB hb1 (Nat.le_refl _); clear hb1))
      | (go_at_call 14; (with_reducible refine (HC1.out _ hB).mono ?_); go_must (rintro e w3 ⟨A1, n1, k1, rfl, rfl, hx, hb1⟩; have HX := Lib.hid hx; clear hx; (try replace c0 := kept c0 rfl hb1); (try replace c1 := kept c1 rfl hb1); (try replace c2 := kept c2 rfl hb1); (try replace c13 := kept c13 rfl hb1); (try replace HY := Lib.hid (HY.out.later hb1)); (try replace HZ := Lib.hid (HZ.out.later hb1)); (try replace HU := Lib.hid (HU.out.later hb1)); (try replace HM := Lib.hid (HM.out.later hb1)); (try replace HP := Lib.hid (HP.out.later hb1)); (try replace HQ := Lib.hid (HQ.out.later hb1)); (try replace HR := Lib.hid (HR.out.later hb1)); (try replace HS := Lib.hid (HS.out.later hb1)); replace hB := bstep hB hb1 (Nat.le_refl _); clear hb1))
      | (go_at_call 14; (with_reducible refine (HC2.out _ hB).mono ?_); go_must (rintro e w4 ⟨A2, n2, k2, rfl, rfl, hx, hb1⟩; have HY := Lib.hid hx; clear hx; (try replace c0 := kept c0 rfl hb1); (try replace c1 := kept c1 rfl hb1); (try replace c2 := kept c2 rfl hb1); (try replace c13 := kept c13 rfl hb1); (try replace HX := Lib.hid (HX.out.later hb1)); (try replace HZ := Lib.hid (HZ.out.later hb1)); (try replace HU := Lib.hid (HU.out.later hb1)); (try replace HM := Lib.hid (HM.out.later hb1)); (try replace HP := Lib.hid (HP.out.later hb1)); (try replace HQ := Lib.hid (HQ.out.later hb1)); (try replace HR := Lib.hid (HR.out.later hb1)); (try replace HS := Lib.hid (HS.out.later hb1)); replace hB := bstep hB hb1 (Nat.le_refl _); clear hb1))
      | (go_at_call 14; (with_reducible refine (HC3.out _ hB).mono ?_); go_must (rintro e w5 ⟨A3, n3, k3, rfl, rfl, hx, hb1⟩; have HZ := Lib.hid hx; clear hx; (try replace c0 := kept c0 rfl hb1); (try replace c1 := kept c1 rfl hb1); (try replace c2 := kept c2 rfl hb1); (try replace c13 := kept c13 rfl hb1); (try replace HX := Lib.hid (HX.out.later hb1)); (try replace HY := Lib.hid (HY.out.later hb1)); (try replace HU := Lib.hid (HU.out.later hb1)); (try replace HM := Lib.hid (HM.out.later hb1)); (try replace HP := Lib.hid (HP.out.later hb1)); (try replace HQ := Lib.hid (HQ.out.later hb1)); (try replace HR := Lib.hid (HR.out.later hb1)); (try replace HS := Lib.hid (HS.out.later hb1)); replace hB := bstep hB hb1 (Nat.le_refl _); clear hb1))
      | (go_at_call 15; (with_reducible refine (ints_eq _ _ _ _ _ _ _ _ _ _ HX.out.rd HY.out.rd HLX.out).mono ?_); go_must (rintro e wi ⟨rfl, hb1⟩; (try replace c0 := kept c0 rfl hb1); (try replace c1 := kept c1 rfl hb1); (try replace c2 := kept c2 rfl hb1); (try replace c13 := kept c13 rfl hb1); (try replace HX := Lib.hid (HX.out.later hb1)); (try replace HY := Lib.hid (HY.out.later hb1)); (try replace HZ := Lib.hid (HZ.out.later hb1)); (try replace HU := Lib.hid (HU.out.later hb1)); (try replace HM := Lib.hid (HM.out.later hb1)); (try replace HP := Lib.hid (HP.out.later hb1)); (try replace HQ := Lib.hid (HQ.out.later hb1)); (try replace HR := Lib.hid (HR.out.later hb1)); (try replace HS := Lib.hid (HS.out.later hb1)); replace hB := bstep hB hb1 (Nat.le_refl _); clear hb1))
      | (go_at_call 12; (with_reducible refine (tree_at _ _ _ _ _ _ _ _).mono ?_); go_must (rintro e wt ⟨rfl, hb1⟩; (try replace c0 := kept c0 rfl hb1); (try replace c1 := kept c1 rfl hb1); (try replace c2 := kept c2 rfl hb1); (try replace c13 := kept c13 rfl hb1); (try replace HX := Lib.hid (HX.out.later hb1)); (try replace HY := Lib.hid (HY.out.later hb1)); (try replace HZ := Lib.hid (HZ.out.later hb1)); (try replace HU := Lib.hid (HU.out.later hb1)); (try replace HM := Lib.hid (HM.out.later hb1)); (try replace HP := Lib.hid (HP.out.later hb1)); (try replace HQ := Lib.hid (HQ.out.later hb1)); (try replace HR := Lib.hid (HR.out.later hb1)); (try replace HS := Lib.hid (HS.out.later hb1)); replace hB := bstep hB hb1 (Nat.le_refl _); clear hb1))
      | (go_at_call 16; (with_reducible refine (HMY.out _ hB).mono ?_); go_must (rintro e wy ⟨rfl, hb1⟩; rw [VA.out]; (try replace c0 := kept c0 rfl hb1); (try replace c1 := kept c1 rfl hb1); (try replace c2 := kept c2 rfl hb1); (try replace c13 := kept c13 rfl hb1); (try replace HX := Lib.hid (HX.out.later hb1)); (try replace HY := Lib.hid (HY.out.later hb1)); (try replace HZ := Lib.hid (HZ.out.later hb1)); (try replace HU := Lib.hid (HU.out.later hb1)); (try replace HM := Lib.hid (HM.out.later hb1)); (try replace HP := Lib.hid (HP.out.later hb1)); (try replace HQ := Lib.hid (HQ.out.later hb1)); (try replace HR := Lib.hid (HR.out.later hb1)); (try replace HS := Lib.hid (HS.out.later hb1)); replace hB := bstep hB hb1 (Nat.le_refl _); clear hb1))
      | (go_at_call 9; (with_reducible refine (HMG.out _ hB).mono ?_); go_must (rintro e w8 ⟨g1, k1, g2, rfl, hne, hx, hy, hb1⟩; have HU := Lib.hid hx; have HM := Lib.hid hy; clear hx hy; (try replace c0 := kept c0 rfl hb1); (try replace c1 := kept c1 rfl hb1); (try replace c2 := kept c2 rfl hb1); (try replace c13 := kept c13 rfl hb1); (try replace HX := Lib.hid (HX.out.later hb1)); (try replace HY := Lib.hid (HY.out.later hb1)); (try replace HZ := Lib.hid (HZ.out.later hb1)); (try replace HP := Lib.hid (HP.out.later hb1)); (try replace HQ := Lib.hid (HQ.out.later hb1)); (try replace HR := Lib.hid (HR.out.later hb1)); (try replace HS := Lib.hid (HS.out.later hb1)); replace hB := bstep hB hb1 (Nat.le_refl _); clear hb1; have yac0 := ltOf c0 rfl; have yac0n := Nat.ne_of_lt yac0; have yac1 := ltOf c1 rfl; have yac1n := Nat.ne_of_lt yac1; have yac2 := ltOf c2 rfl; have yac2n := Nat.ne_of_lt yac2))
      | (go_at_call 11; (with_reducible refine (HCL.out _ _ _ (HM.out.alloc _)).mono ?_); go_must (rintro e wc ⟨rfl, rfl⟩)))
  go_ret
  exact ⟨rfl, hB⟩

set_option maxRecDepth 100000 in
set_option maxHeartbeats 12800000 in
theorem joinChanges_clean (o a b : Tr) (w : World) (ho : RdT w w.heap.size o.A o.n o.ts) (co : o.n ≤ o.c) (mo : o.c ≤ maxLen) (ha : RdT w w.heap.size a.A a.n a.ts) (ca : a.n ≤ a.c) (ma : a.c ≤ maxLen) (hb : RdT w w.heap.size b.A b.n b.ts) (cb : b.n ≤ b.c) (mb : b.c ≤ maxLen) (f0 : fewT o.ts = true) (f1 : fewT a.ts = true) (f2 : fewT b.ts = true) (hE : wrongT [o, a, b] = 0) (hcl : cleanL (upM o.ts a.ts b.ts a.n) = true) :
    Calls Try.prog 4 #[o.s.r o.A o.n o.c, a.s.r a.A a.n a.c, b.s.r b.A b.n b.c] w fun e w' => e = .returned (.bool true) ∧ Below w.heap.size w w' := by
  have hB := Below.refl w.heap.size w
  have HF0 := Lib.hid (fun (w' : World) (h : Below w.heap.size w w') => fewTree_any o.s w.heap.size o.n o.c o.A o.ts w' (ho.blw h) h.size co mo)
  have HF1 := Lib.hid (fun (w' : World) (h : Below w.heap.size w w') => fewTree_any a.s w.heap.size a.n a.c a.A a.ts w' (ha.blw h) h.size ca ma)
  have HF2 := Lib.hid (fun (w' : World) (h : Below w.heap.size w w') => fewTree_any b.s w.heap.size b.n b.c b.A b.ts w' (hb.blw h) h.size cb mb)
  have F0 := Lib.hid f0
  have F1 := Lib.hid f1
  have F2 := Lib.hid f2
  have so := (fewT_yes f0).2
  have sa := (fewT_yes f1).2
  have sb := (fewT_yes f2).2
  have ko : ∀ w', Below w.heap.size w w' → o.ok w' w.heap.size := fun w' h => ⟨ho.blw h, co, mo, so⟩
  have ka : ∀ w', Below w.heap.size w w' → a.ok w' w.heap.size := fun w' h => ⟨ha.blw h, ca, ma, sa⟩
  have kb : ∀ w', Below w.heap.size w w' → b.ok w' w.heap.size := fun w' h => ⟨hb.blw h, cb, mb, sb⟩
  have HC1 := Lib.hid (fun (w' : World) (h : Below w.heap.size w w') => changed_any a b w.heap.size w' (ka w' h) (kb w' h) h.size)
  have HC2 := Lib.hid (fun (w' : World) (h : Below w.heap.size w w') => changed_any b a w.heap.size w' (kb w' h) (ka w' h) h.size)
  have HC3 := Lib.hid (fun (w' : World) (h : Below w.heap.size w w') => changed_any a a w.heap.size w' (ka w' h) (ka w' h) h.size)
  rw [chgR_comm b a hb.len ha.len, wrong2_comm b a] at HC2
  rw [chgR_self, wrong2_self] at HC3
  have HMY := Lib.hid (Tr.okMay (ka w hB) (Nat.le_refl _))
  have HLX := Lib.hid (show (chgR a b).length ≤ 1099511627776 by have := chgR_len a b; have := (fewT_yes f1).1; have := ha.len; omega)
  obtain ⟨q1, q2, q3, e1, e2⟩ := wrong3_zero hE
  rw [q2] at HC3
  have VA := Lib.hid q2
  have HMG := Lib.hid (fun (w' : World) (h : Below w.heap.size w w') => merge_ok o a b w.heap.size w' (ko w' h) (ka w' h) (kb w' h) h.size hE)
  have la := ha.len
  have lo := ho.len
  have lb := hb.len
  have l1 : o.ts.length = a.ts.length := (may_len2 q1 q2 e1).symm
  have l2 : b.ts.length = a.ts.length := (may_len2 q1 q3 e2).trans l1
  have hn9 : a.n ≤ 300 := by have := (fewT_yes f1).1; omega
  have oka := (mayT_len q2).2.2.2
  have okb := (mayT_len q3).2.2.2
  have HCL := Lib.hid (fun (w' : World) (B0 g : Nat) (hx : ownL w' B0 (.slice (some ⟨g, 0, none⟩) a.n a.n) (upM o.ts a.ts b.ts a.n)) => (show Calls Try.prog 11 #[.slice (some ⟨g, 0, none⟩) a.n a.n] w' fun e w1 => e = .returned (.bool true) ∧ w' = w1 by have := clean_any w'.heap.size a.n a.n (some ⟨g, 0, none⟩) _ w' hx.rd (by omega); rwa [hcl] at this))
  have HCP : Hid (∀ w', Below w.heap.size w w' → ∀ (B0 g k : Nat), ownT w' B0 (.slice (some ⟨g, 0, none⟩) a.n k) (upK o.ts a.ts b.ts a.n) → Calls Try.prog 14 #[o.s.r o.A o.n o.c, a.s.r (some ⟨g, 0, none⟩) a.n k] w' fun e w1 => ∃ A n c, e = .returned (.tuple #[.slice A n c, .int .i64 0]) ∧ n = (chg o.ts (upK o.ts a.ts b.ts a.n) a.n).length ∧ ownI w1 w'.heap.size (.slice A n c) (chg o.ts (upK o.ts a.ts b.ts a.n) a.n) ∧ Below w'.heap.size w' w1) := by
    intro w' h B0 g k hu
    have hm : mayT a.s (upK o.ts a.ts b.ts a.n) = true := may_same q2 (upK_len _ _ _ _) (upK_ok oka okb l2)
    have hw : wrongT [o, ⟨a.s, some ⟨g, 0, none⟩, a.n, k, upK o.ts a.ts b.ts a.n⟩] = 0 := wrong2_mk q1 hm e1
    have := changed_any o ⟨a.s, some ⟨g, 0, none⟩, a.n, k, upK o.ts a.ts b.ts a.n⟩ w'.heap.size w' ((ko w' h).more h.size) (Tr.ok_own hu (upK_short sa sb)) (Nat.le_refl _)
    unfold chgR at this
    rw [hw, if_pos rfl] at this
    dsimp only at this
    rw [show o.n = a.n by omega] at this ⊢
    exact this
  have HCQ := Lib.hid (fun (w' : World) (h : Below w.heap.size w w') => changed_any o a w.heap.size w' (ko w' h) (ka w' h) h.size)
  have HCR := Lib.hid (fun (w' : World) (h : Below w.heap.size w w') => changed_any o b w.heap.size w' (ko w' h) (kb w' h) h.size)
  have w1 : wrongT [o, a] = 0 := wrong2_mk q1 q2 e1
  have w2 : wrongT [o, b] = 0 := wrong2_mk q1 q3 e2
  unfold chgR at HCQ HCR
  rw [w1, if_pos rfl, show o.n = a.n by omega] at HCQ
  rw [w2, if_pos rfl, show o.n = a.n by omega] at HCR
  have hon : o.n = a.n := by omega
  have KC := Lib.hid (chg_count (o := o.ts) (b := b.ts) la hcl)
  have KM : Hid (∀ (k : Nat) (z : Int), (chg o.ts (upK o.ts a.ts b.ts a.n) a.n)[k]? = some z → ∃ i : Nat, z = (i : Int) ∧ i < a.n ∧ (marks a.n (chg o.ts a.ts a.n ++ chg o.ts b.ts a.n))[i]? = some 1) := fun k z h => chg_marked la hcl h
  have KKQ : Hid (∀ z, z ∈ chg o.ts a.ts a.n → ∃ i : Nat, z = (i : Int) ∧ i < a.n) := fun z h => by obtain ⟨i, h1, h2, -⟩ := chg_mem h; exact ⟨i, h1, h2⟩
  have KKR : Hid (∀ z, z ∈ chg o.ts b.ts a.n → ∃ i : Nat, z = (i : Int) ∧ i < a.n) := fun z h => by obtain ⟨i, h1, h2, -⟩ := chg_mem h; exact ⟨i, h1, h2⟩
  have LP := chg_len o.ts (upK o.ts a.ts b.ts a.n) a.n
  have LQ := chg_len o.ts a.ts a.n
  have LR := chg_len o.ts b.ts a.n
  generalize chg o.ts (upK o.ts a.ts b.ts a.n) a.n = PP at HCP KC KM LP
  generalize chg o.ts a.ts a.n = QQ at HCQ KC KM KKQ LQ
  generalize chg o.ts b.ts a.n = RR at HCR KC KM KKR LR
  generalize wrongT [a, b] = EC at HC1 HC2
  generalize chgR a b = LX at HC1 HC2 HLX
  clear hE hcl q1 q2 q3 e1 e2 w1 w2 oka okb l1 l2 la lo lb
  clear ho ha hb so sa sb ko ka kb f0 f1 f2
  simp only [if_true, List.length_nil] at HC3
  obtain ⟨os, oA, n, oc, ots⟩ := o
  obtain ⟨sha, aA, an, ac, ats⟩ := a
  dsimp only at *
  subst hon
  dsimp only [Sh.r] at *
  go_enter Try.func4, Try.ntmps4
  go_wp2_with (first
      | (go_at_call 7; (with_reducible refine (first23_any _).mono ?_); go_must (rintro e wf ⟨rfl, hb1⟩; first | (have _t := c0; (try (have c13 := box5 hb1; replace hb1 := bxd hb1)); (try replace c0 := kept c0 rfl hb1); (try replace c1 := kept c1 rfl hb1); (try replace c2 := kept c2 rfl hb1); (try replace c13 := kept c13 rfl hb1); (try replace HX := Lib.hid (HX.out.later hb1)); (try replace HY := Lib.hid (HY.out.later hb1)); (try replace HZ := Lib.hid (HZ.out.later hb1)); (try replace HU := Lib.hid (HU.out.later hb1)); (try replace HM := Lib.hid (HM.out.later hb1)); (try replace HP := Lib.hid (HP.out.later hb1)); (try replace HQ := Lib.hid (HQ.out.later hb1)); (try replace HR := Lib.hid (HR.out.later hb1)); (try replace HS := Lib.hid (HS.out.later hb1)); replace hB := bstep hB hb1 (Nat.le_refl _); clear hb1) | (have c2 := box5 hb1; rw [World.size_alloc, World.size_alloc] at c2; replace hb1 := bxd hb1; have c1 := box5 hb1; rw [World.size_alloc] at c1; replace hb1 := bxd hb1; have c0 := box5 hb1; replace hB := bxd hb1; clear hb1)))
      | (go_at_call 8; (with_reducible refine (HF0.out _ hB).mono ?_); go_must (rintro e we ⟨rfl, hb1⟩; rw [F0.out]; (try replace c0 := kept c0 rfl hb1); (try replace c1 := kept c1 rfl hb1); (try replace c2 := kept c2 rfl hb1); (try replace c13 := kept c13 rfl hb1); (try replace HX := Lib.hid (HX.out.later hb1)); (try replace HY := Lib.hid (HY.out.later hb1)); (try replace HZ := Lib.hid (HZ.out.later hb1)); (try replace HU := Lib.hid (HU.out.later hb1)); (try replace HM := Lib.hid (HM.out.later hb1)); (try replace HP := Lib.hid (HP.out.later hb1)); (try replace HQ := Lib.hid (HQ.out.later hb1)); (try replace HR := Lib.hid (HR.out.later hb1)); (try replace HS := Lib.hid (HS.out.later hb1)); replace hB := bstep hB hb1 (Nat.le_refl _); clear hb1))
      | (go_at_call 8; (with_reducible refine (HF1.out _ hB).mono ?_); go_must (rintro e we ⟨rfl, hb1⟩; rw [F1.out]; (try replace c0 := kept c0 rfl hb1); (try replace c1 := kept c1 rfl hb1); (try replace c2 := kept c2 rfl hb1); (try replace c13 := kept c13 rfl hb1); (try replace HX := Lib.hid (HX.out.later hb1)); (try replace HY := Lib.hid (HY.out.later hb1)); (try replace HZ := Lib.hid (HZ.out.later hb1)); (try replace HU := Lib.hid (HU.out.later hb1)); (try replace HM := Lib.hid (HM.out.later hb1)); (try replace HP := Lib.hid (HP.out.later hb1)); (try replace HQ := Lib.hid (HQ.out.later hb1)); (try replace HR := Lib.hid (HR.out.later hb1)); (try replace HS := Lib.hid (HS.out.later hb1)); replace hB := bstep hB hb1 (Nat.le_refl _); clear hb1))
      | (go_at_call 8; (with_reducible refine (HF2.out _ hB).mono ?_); go_must (rintro e we ⟨rfl, hb1⟩; rw [F2.out]; (try replace c0 := kept c0 rfl hb1); (try replace c1 := kept c1 rfl hb1); (try replace c2 := kept c2 rfl hb1); (try replace c13 := kept c13 rfl hb1); (try replace HX := Lib.hid (HX.out.later hb1)); (try replace HY := Lib.hid (HY.out.later hb1)); (try replace HZ := Lib.hid (HZ.out.later hb1)); (try replace HU := Lib.hid (HU.out.later hb1)); (try replace HM := Lib.hid (HM.out.later hb1)); (try replace HP := Lib.hid (HP.out.later hb1)); (try replace HQ := Lib.hid (HQ.out.later hb1)); (try replace HR := Lib.hid (HR.out.later hb1)); (try replace HS := Lib.hid (HS.out.later hb1)); replace hB := bstep hB hb1 (Nat.le_refl _); clear hb1))
      | (go_at_call 14; (with_reducible refine (HC1.out _ hB).mono ?_); go_must (rintro e w3 ⟨A1, n1, k1, rfl, rfl, hx, hb1⟩; have HX := Lib.hid hx; clear hx; (try replace c0 := kept c0 rfl hb1); (try replace c1 := kept c1 rfl hb1); (try replace c2 := kept c2 rfl hb1); (try replace c13 := kept c13 rfl hb1); (try replace HY := Lib.hid (HY.out.later hb1)); (try replace HZ := Lib.hid (HZ.out.later hb1)); (try replace HU := Lib.hid (HU.out.later hb1)); (try replace HM := Lib.hid (HM.out.later hb1)); (try replace HP := Lib.hid (HP.out.later hb1)); (try replace HQ := Lib.hid (HQ.out.later hb1)); (try replace HR := Lib.hid (HR.out.later hb1)); (try replace HS := Lib.hid (HS.out.later hb1)); replace hB := bstep hB hb1 (Nat.le_refl _); clear hb1))
      | (go_at_call 14; (with_reducible refine (HC2.out _ hB).mono ?_); go_must (rintro e w4 ⟨A2, n2, k2, rfl, rfl, hx, hb1⟩; have HY := Lib.hid hx; clear hx; (try replace c0 := kept c0 rfl hb1); (try replace c1 := kept c1 rfl hb1); (try replace c2 := kept c2 rfl hb1); (try replace c13 := kept c13 rfl hb1); (try replace HX := Lib.hid (HX.out.later hb1)); (try replace HZ := Lib.hid (HZ.out.later hb1)); (try replace HU := Lib.hid (HU.out.later hb1)); (try replace HM := Lib.hid (HM.out.later hb1)); (try replace HP := Lib.hid (HP.out.later hb1)); (try replace HQ := Lib.hid (HQ.out.later hb1)); (try replace HR := Lib.hid (HR.out.later hb1)); (try replace HS := Lib.hid (HS.out.later hb1)); replace hB := bstep hB hb1 (Nat.le_refl _); clear hb1))
      | (go_at_call 14; (with_reducible refine (HC3.out _ hB).mono ?_); go_must (rintro e w5 ⟨A3, n3, k3, rfl, rfl, hx, hb1⟩; have HZ := Lib.hid hx; clear hx; (try replace c0 := kept c0 rfl hb1); (try replace c1 := kept c1 rfl hb1); (try replace c2 := kept c2 rfl hb1); (try replace c13 := kept c13 rfl hb1); (try replace HX := Lib.hid (HX.out.later hb1)); (try replace HY := Lib.hid (HY.out.later hb1)); (try replace HU := Lib.hid (HU.out.later hb1)); (try replace HM := Lib.hid (HM.out.later hb1)); (try replace HP := Lib.hid (HP.out.later hb1)); (try replace HQ := Lib.hid (HQ.out.later hb1)); (try replace HR := Lib.hid (HR.out.later hb1)); (try replace HS := Lib.hid (HS.out.later hb1)); replace hB := bstep hB hb1 (Nat.le_refl _); clear hb1))
      | (go_at_call 15; (with_reducible refine (ints_eq _ _ _ _ _ _ _ _ _ _ HX.out.rd HY.out.rd HLX.out).mono ?_); go_must (rintro e wi ⟨rfl, hb1⟩; (try replace c0 := kept c0 rfl hb1); (try replace c1 := kept c1 rfl hb1); (try replace c2 := kept c2 rfl hb1); (try replace c13 := kept c13 rfl hb1); (try replace HX := Lib.hid (HX.out.later hb1)); (try replace HY := Lib.hid (HY.out.later hb1)); (try replace HZ := Lib.hid (HZ.out.later hb1)); (try replace HU := Lib.hid (HU.out.later hb1)); (try replace HM := Lib.hid (HM.out.later hb1)); (try replace HP := Lib.hid (HP.out.later hb1)); (try replace HQ := Lib.hid (HQ.out.later hb1)); (try replace HR := Lib.hid (HR.out.later hb1)); (try replace HS := Lib.hid (HS.out.later hb1)); replace hB := bstep hB hb1 (Nat.le_refl _); clear hb1))
      | (go_at_call 12; (with_reducible refine (tree_at _ _ _ _ _ _ _ _).mono ?_); go_must (rintro e wt ⟨rfl, hb1⟩; (try replace c0 := kept c0 rfl hb1); (try replace c1 := kept c1 rfl hb1); (try replace c2 := kept c2 rfl hb1); (try replace c13 := kept c13 rfl hb1); (try replace HX := Lib.hid (HX.out.later hb1)); (try replace HY := Lib.hid (HY.out.later hb1)); (try replace HZ := Lib.hid (HZ.out.later hb1)); (try replace HU := Lib.hid (HU.out.later hb1)); (try replace HM := Lib.hid (HM.out.later hb1)); (try replace HP := Lib.hid (HP.out.later hb1)); (try replace HQ := Lib.hid (HQ.out.later hb1)); (try replace HR := Lib.hid (HR.out.later hb1)); (try replace HS := Lib.hid (HS.out.later hb1)); replace hB := bstep hB hb1 (Nat.le_refl _); clear hb1))
      | (go_at_call 16; (with_reducible refine (HMY.out _ hB).mono ?_); go_must (rintro e wy ⟨rfl, hb1⟩; rw [VA.out]; (try replace c0 := kept c0 rfl hb1); (try replace c1 := kept c1 rfl hb1); (try replace c2 := kept c2 rfl hb1); (try replace c13 := kept c13 rfl hb1); (try replace HX := Lib.hid (HX.out.later hb1)); (try replace HY := Lib.hid (HY.out.later hb1)); (try replace HZ := Lib.hid (HZ.out.later hb1)); (try replace HU := Lib.hid (HU.out.later hb1)); (try replace HM := Lib.hid (HM.out.later hb1)); (try replace HP := Lib.hid (HP.out.later hb1)); (try replace HQ := Lib.hid (HQ.out.later hb1)); (try replace HR := Lib.hid (HR.out.later hb1)); (try replace HS := Lib.hid (HS.out.later hb1)); replace hB := bstep hB hb1 (Nat.le_refl _); clear hb1))
      | (go_at_call 9; (with_reducible refine (HMG.out _ hB).mono ?_); go_must (rintro e w8 ⟨g1, k1, g2, rfl, hne, hx, hy, hb1⟩; have HU := Lib.hid hx; have HM := Lib.hid hy; clear hx hy; (try replace c0 := kept c0 rfl hb1); (try replace c1 := kept c1 rfl hb1); (try replace c2 := kept c2 rfl hb1); (try replace c13 := kept c13 rfl hb1); (try replace HX := Lib.hid (HX.out.later hb1)); (try replace HY := Lib.hid (HY.out.later hb1)); (try replace HZ := Lib.hid (HZ.out.later hb1)); (try replace HP := Lib.hid (HP.out.later hb1)); (try replace HQ := Lib.hid (HQ.out.later hb1)); (try replace HR := Lib.hid (HR.out.later hb1)); (try replace HS := Lib.hid (HS.out.later hb1)); replace hB := bstep hB hb1 (Nat.le_refl _); clear hb1; have yac0 := ltOf c0 rfl; have yac0n := Nat.ne_of_lt yac0; have yac1 := ltOf c1 rfl; have yac1n := Nat.ne_of_lt yac1; have yac2 := ltOf c2 rfl; have yac2n := Nat.ne_of_lt yac2))
      | (go_at_call 11; (with_reducible refine (HCL.out _ _ _ (HM.out.alloc _)).mono ?_); go_must (rintro e wc ⟨rfl, rfl⟩))
      | (go_at_call 14; (with_reducible refine (HCP.out _ (bal hB _) _ _ _ (HU.out.alloc _)).mono ?_); go_must (rintro e w9 ⟨AP, NP, KP, rfl, rfl, hx, hb1⟩; have HP := Lib.hid hx; clear hx; have c13 := box5 hb1; replace hb1 := bxd hb1; (try replace c0 := kept c0 rfl hb1); (try replace c1 := kept c1 rfl hb1); (try replace c2 := kept c2 rfl hb1); (try replace HX := Lib.hid (HX.out.later hb1)); (try replace HY := Lib.hid (HY.out.later hb1)); (try replace HZ := Lib.hid (HZ.out.later hb1)); (try replace HU := Lib.hid (HU.out.later hb1)); (try replace HM := Lib.hid (HM.out.later hb1)); (try replace HQ := Lib.hid (HQ.out.later hb1)); (try replace HR := Lib.hid (HR.out.later hb1)); (try replace HS := Lib.hid (HS.out.later hb1)); replace hB := bstep hB hb1 (Nat.le_refl _); clear hb1))
      | (go_at_call 14; (with_reducible refine (HCQ.out _ hB).mono ?_); go_must (rintro e w10 ⟨AQ, NQ, KQ, rfl, rfl, hx, hb1⟩; have HQ := Lib.hid hx; clear hx; (try replace c0 := kept c0 rfl hb1); (try replace c1 := kept c1 rfl hb1); (try replace c2 := kept c2 rfl hb1); (try replace c13 := kept c13 rfl hb1); (try replace HX := Lib.hid (HX.out.later hb1)); (try replace HY := Lib.hid (HY.out.later hb1)); (try replace HZ := Lib.hid (HZ.out.later hb1)); (try replace HU := Lib.hid (HU.out.later hb1)); (try replace HM := Lib.hid (HM.out.later hb1)); (try replace HP := Lib.hid (HP.out.later hb1)); (try replace HR := Lib.hid (HR.out.later hb1)); (try replace HS := Lib.hid (HS.out.later hb1)); replace hB := bstep hB hb1 (Nat.le_refl _); clear hb1))
      | (go_at_call 14; (with_reducible refine (HCR.out _ hB).mono ?_); go_must (rintro e w11 ⟨AR, NR, KR, rfl, rfl, hx, hb1⟩; have HR := Lib.hid hx; clear hx; (try replace c0 := kept c0 rfl hb1); (try replace c1 := kept c1 rfl hb1); (try replace c2 := kept c2 rfl hb1); (try replace c13 := kept c13 rfl hb1); (try replace HX := Lib.hid (HX.out.later hb1)); (try replace HY := Lib.hid (HY.out.later hb1)); (try replace HZ := Lib.hid (HZ.out.later hb1)); (try replace HU := Lib.hid (HU.out.later hb1)); (try replace HM := Lib.hid (HM.out.later hb1)); (try replace HP := Lib.hid (HP.out.later hb1)); (try replace HQ := Lib.hid (HQ.out.later hb1)); (try replace HS := Lib.hid (HS.out.later hb1)); replace hB := bstep hB hb1 (Nat.le_refl _); clear hb1))
      | (at_make; refine wpList_makeI rfl _ _ rfl n _ rfl rfl rfl (by omega) ?_; intro w12 ho12 hb1 hsz; have HS := Lib.hid ho12; have RP := Lib.hid HP.out.rd; have RQ := Lib.hid HQ.out.rd; have RR' := Lib.hid HR.out.rd; have hG := hb1; have hw11 := hB.size; (try replace c0 := kept c0 rfl hb1); (try replace c1 := kept c1 rfl hb1); (try replace c2 := kept c2 rfl hb1); (try replace c13 := kept c13 rfl hb1); (try replace HX := Lib.hid (HX.out.later hb1)); (try replace HY := Lib.hid (HY.out.later hb1)); (try replace HZ := Lib.hid (HZ.out.later hb1)); (try replace HU := Lib.hid (HU.out.later hb1)); (try replace HM := Lib.hid (HM.out.later hb1)); (try replace HP := Lib.hid (HP.out.later hb1)); (try replace HQ := Lib.hid (HQ.out.later hb1)); (try replace HR := Lib.hid (HR.out.later hb1)); replace hB := bstep hB hb1 (Nat.le_refl _); clear hb1; clear ho12 HX HY HZ HU HM HP HQ HR))
  obtain ⟨G, hG0⟩ : ∃ G, G = w11.heap.size := ⟨_, rfl⟩
  rw [← hG0] at HS RP RQ RR' hG hw11 hsz ⊢
  clear c0 c1 c2 c13 hG0
  have HS0 : Hid (ownI w12 G (.slice (some ⟨G, 0, none⟩) n n) (marks n ((QQ ++ RR).take 0))) := (show ownI _ _ _ _ by rw [List.take_zero, marks_0]; exact HS.out)
  clear HS
  go_loopw [23] (fun i wr => ∃ k : Nat, k ≤ QQ.length + RR.length ∧ i = .int .i64 k ∧ Hid (ownI wr G (.slice (some ⟨G, 0, none⟩) n n) (marks n ((QQ ++ RR).take k))) ∧ Below w.heap.size w wr ∧ Below G w11 wr) (fun i _ => QQ.length + RR.length - (intOf i).toNat)
  case atStart => exact ⟨0, Nat.zero_le _, rfl, HS0, hB, hG⟩
  case round =>
    clear hB hG HS0
    obtain ⟨k, hk, rfl, HS, hB, hG⟩ := hrel
    by_cases hlt : k < QQ.length + RR.length
    · by_cases hq : k < QQ.length
      · obtain ⟨b7, o7, z, rfl, hb7, hz, ez⟩ := (RQ.out.blw hG).one hq
        obtain ⟨i, rfl, hi⟩ := KKQ.out z (List.mem_of_getElem? hz.out)
        have ES : Hid (marks n ((QQ ++ RR).take (k + 1)) = (marks n ((QQ ++ RR).take k)).set i 1) := (show _ = _ by
          have hz' : (QQ ++ RR)[k]? = some (i : Int) := by rw [List.getElem?_append_left hq]; exact hz.out
          obtain ⟨p1, p2⟩ := List.getElem?_eq_some_iff.1 hz'
          rw [List.take_succ_eq_append_getElem p1, p2, marks_step])
        have ki : i < (marks n ((QQ ++ RR).take k)).length := by rw [marks_len]; exact hi
        obtain ⟨x, xs⟩ : ∃ x : Int, wr.cell? ⟨G, i, none⟩ = some (.int .i64 x) := ⟨_, HS.out.cell (by rw [marks_len]) ki⟩
        have fs : wr.frozen? ⟨G, i, none⟩ = false := HS.out.frozen (by rw [marks_len]) i
        have hi1 : (i : Int) < (n : Int) := by omega
        have hi2 : ¬ (n : Int) ≤ (i : Int) := by omega
        have hi3 : ¬ (i : Int) < 0 := by omega
        have hk1 : (k : Int) < (QQ.length : Int) := by omega
        have hk2 : (k : Int) < (QQ.length : Int) + (RR.length : Int) := by omega
        clear hz ki
        go_wp2_with fail
        go_roundw
        case rel => exact ⟨k + 1, by omega, by go_num, (show ownI _ _ _ _ by rw [ES.out]; exact HS.out.store (by rw [marks_len]) i 1), hB.setCell (p := ⟨G, i, none⟩) (show w.heap.size ≤ G by omega) _, hG.setCell (p := ⟨G, i, none⟩) (Nat.le_refl _) _⟩
        case measure => simp [intOf]; omega
      · obtain ⟨j, rfl⟩ : ∃ j, k = QQ.length + j := ⟨k - QQ.length, by omega⟩
        have hj : j < RR.length := by omega
        obtain ⟨b7, o7, z, rfl, hb7, hz, ez⟩ := (RR'.out.blw hG).one hj
        obtain ⟨i, rfl, hi⟩ := KKR.out z (List.mem_of_getElem? hz.out)
        have ES : Hid (marks n ((QQ ++ RR).take (QQ.length + j + 1)) = (marks n ((QQ ++ RR).take (QQ.length + j))).set i 1) := (show _ = _ by
          have hz' : (QQ ++ RR)[QQ.length + j]? = some (i : Int) := by rw [List.getElem?_append_right (by omega), Nat.add_sub_cancel_left]; exact hz.out
          obtain ⟨p1, p2⟩ := List.getElem?_eq_some_iff.1 hz'
          rw [List.take_succ_eq_append_getElem p1, p2, marks_step])
        have ki : i < (marks n ((QQ ++ RR).take (QQ.length + j))).length := by rw [marks_len]; exact hi
        obtain ⟨x, xs⟩ : ∃ x : Int, wr.cell? ⟨G, i, none⟩ = some (.int .i64 x) := ⟨_, HS.out.cell (by rw [marks_len]) ki⟩
        have fs : wr.frozen? ⟨G, i, none⟩ = false := HS.out.frozen (by rw [marks_len]) i
        have hi1 : (i : Int) < (n : Int) := by omega
        have hi2 : ¬ (n : Int) ≤ (i : Int) := by omega
        have hi3 : ¬ (i : Int) < 0 := by omega
        obtain ⟨kk, hkk⟩ : ∃ kk, kk = QQ.length + j := ⟨_, rfl⟩
        have hk1 : ¬ (kk : Int) < (QQ.length : Int) := by omega
        have hk2 : (kk : Int) < (QQ.length : Int) + (RR.length : Int) := by omega
        have hk3 : (kk : Int) - (QQ.length : Int) = (j : Int) := by omega
        have hj1 : (j : Int) < (RR.length : Int) := by omega
        have hkk2 : kk ≤ 600 := by omega
        rw [← hkk] at ES HS ⊢
        have HK := Lib.hid hkk
        clear hz ki hkk hlt hk hq
        go_wp2_with fail
        go_roundw
        case rel => exact ⟨kk + 1, by have := HK.out; omega, by go_num, (show ownI _ _ _ _ by rw [ES.out]; exact HS.out.store (by rw [marks_len]) i 1), hB.setCell (p := ⟨G, i, none⟩) (show w.heap.size ≤ G by omega) _, hG.setCell (p := ⟨G, i, none⟩) (Nat.le_refl _) _⟩
        case measure => simp [intOf]; have := HK.out; omega
    · obtain rfl : k = QQ.length + RR.length := by omega
      have hlt1 : ¬ ((QQ.length + RR.length : Nat) : Int) < (QQ.length : Int) + (RR.length : Int) := by omega
      replace HS : Hid (ownI wr G (.slice (some ⟨G, 0, none⟩) n n) (marks n (QQ ++ RR))) := (show ownI _ _ _ _ by have := HS.out; rwa [List.take_of_length_le (by simp)] at this)
      clear hlt hk
      go_wp2_with fail
      go_loop [25, 26] (fun c i => ∃ k : Nat, k ≤ n ∧ i = .int .i64 k ∧ c = .int .i64 (sumI ((marks n (QQ ++ RR)).take k))) (fun _ i => n - (intOf i).toNat)
      case atStart => exact ⟨0, Nat.zero_le _, rfl, rfl⟩
      case round =>
        obtain ⟨k, hk, rfl, rfl⟩ := hrel
        by_cases hlt : k < n
        · have hr := sum_rng (n := n) (Q := QQ ++ RR) k hk
          have hx : (marks n (QQ ++ RR))[k]? = some (if (k : Int) ∈ QQ ++ RR then 1 else 0) := marks_get hlt
          have hr2 := marks_rng hx
          have ES := Lib.hid (sumI_take hx)
          generalize (if (k : Int) ∈ QQ ++ RR then (1 : Int) else 0) = x at hx hr2 ES
          generalize sumI ((marks n (QQ ++ RR)).take k) = sm at hr ES ⊢
          obtain ⟨hr0, hr1⟩ := hr
          obtain ⟨hx0, hx1⟩ := hr2
          have xc : wr.cell? ⟨G, k, none⟩ = some (.int .i64 x) := by
            obtain ⟨p1, p2⟩ := List.getElem?_eq_some_iff.1 hx
            have := HS.out.cell (by rw [marks_len]) p1
            rw [this, p2]
          clear hx
          go_wp2_with fail
          go_round
          case rel => exact ⟨k + 1, by omega, by go_num, by rw [ES.out]⟩
          case measure => simp [intOf]; omega
        · obtain rfl : k = n := by omega
          have EC2 : Hid (sumI ((marks k (QQ ++ RR)).take k) = (PP.length : Int)) := (show _ = _ by rw [List.take_of_length_le (by rw [marks_len]; omega)]; exact KC.out.symm)
          rw [EC2.out]
          go_wp2_with fail
          go_loop [27] (fun i => ∃ q : Nat, q ≤ PP.length ∧ i = .int .i64 q) (fun i => PP.length - (intOf i).toNat)
          case atStart => exact ⟨0, Nat.zero_le _, rfl⟩
          case round =>
            obtain ⟨q, hq, rfl⟩ := hrel
            by_cases hlt : q < PP.length
            · obtain ⟨b7, o7, z, rfl, hb7, hz, ez⟩ := (RP.out.blw hG).one hlt
              obtain ⟨i, rfl, hi, hmk⟩ := KM.out q z hz.out
              have xc : wr.cell? ⟨G, i, none⟩ = some (.int .i64 1) := by
                obtain ⟨p1, p2⟩ := List.getElem?_eq_some_iff.1 hmk
                have := HS.out.cell (by rw [marks_len]) p1
                rw [this, p2]
              have hi1 : (i : Int) < (k : Int) := by omega
              have hi2 : ¬ (k : Int) ≤ (i : Int) := by omega
              have hi3 : ¬ (i : Int) < 0 := by omega
              clear hz hmk
              go_wp2_with fail
              go_round
              case rel => exact ⟨q + 1, by omega, by go_num⟩
              case measure => simp [intOf]; omega
            · obtain rfl : q = PP.length := by omega
              go_wp2_with (go_at_call 7; (with_reducible refine (first23_any _).mono ?_); go_must (rintro e wz ⟨rfl, hb1⟩; replace hB := bstep hB hb1 (Nat.le_refl _); clear hb1))
              go_ret
              exact ⟨ret_bool (by first | rfl | simp), hB⟩

theorem joinChanges_walk (o a b : Tr) (w : World) (ho : RdT w w.heap.size o.A o.n o.ts) (co : o.n ≤ o.c) (mo : o.c ≤ maxLen) (ha : RdT w w.heap.size a.A a.n a.ts) (ca : a.n ≤ a.c) (ma : a.c ≤ maxLen) (hb : RdT w w.heap.size b.A b.n b.ts) (cb : b.n ≤ b.c) (mb : b.c ≤ maxLen) :
    Calls Try.prog 4 #[o.s.r o.A o.n o.c, a.s.r a.A a.n a.c, b.s.r b.A b.n b.c] w fun e w' => e = .returned (.bool true) ∧ Below w.heap.size w w' := by
  cases f0 : fewT o.ts with
  | false => exact joinChanges_early o a b w ho co mo ha ca ma hb cb mb (.inl f0)
  | true =>
    cases f1 : fewT a.ts with
    | false => exact joinChanges_early o a b w ho co mo ha ca ma hb cb mb (.inr (.inl ⟨f0, f1⟩))
    | true =>
      cases f2 : fewT b.ts with
      | false => exact joinChanges_early o a b w ho co mo ha ca ma hb cb mb (.inr (.inr ⟨f0, f1, f2⟩))
      | true =>
        rcases wrongT_cases [o, a, b] with e | e
        · cases hc : cleanL (upM o.ts a.ts b.ts a.n) with
          | true => exact joinChanges_clean o a b w ho co mo ha ca ma hb cb mb f0 f1 f2 e hc
          | false => exact joinChanges_dirty o a b w ho co mo ha ca ma hb cb mb f0 f1 f2 e hc
        · cases hm : a.may with
          | true => exact joinChanges_err_t o a b w ho co mo ha ca ma hb cb mb f0 f1 f2 hm _ rfl e
          | false => exact joinChanges_err_f o a b w ho co mo ha ca ma hb cb mb f0 f1 f2 hm _ rfl e

end Go.Proofs.Ytmffmijjdpjaiaa
