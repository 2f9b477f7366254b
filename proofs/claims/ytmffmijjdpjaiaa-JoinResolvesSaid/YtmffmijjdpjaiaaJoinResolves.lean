/- The walk of JoinResolves. -/
import Derived.Test.YtmffmijjdpjaiaaJoinLaw
import Derived.Deep.RegionHeld3
namespace Go.Proofs.Ytmffmijjdpjaiaa
set_option linter.all false
open Go.RowKit

set_option maxRecDepth 100000 in
set_option maxHeartbeats 3200000 in
theorem joinResolves_early (a b : Tr) (mn mc : Nat) (mA : Option Addr) (ml : List Bool) (w : World) (ha : RdT w w.heap.size a.A a.n a.ts) (ca : a.n ≤ a.c) (ma : a.c ≤ maxLen) (hb : RdT w w.heap.size b.A b.n b.ts) (cb : b.n ≤ b.c) (mb : b.c ≤ maxLen) (h3 : RdL w w.heap.size mA mn ml) (c3 : mn ≤ mc) (m3 : mc ≤ maxLen) (h : fewT a.ts = false ∨ (fewT a.ts = true ∧ fewT b.ts = false) ∨ (fewT a.ts = true ∧ fewT b.ts = true ∧ 400 < mn)) :
    Calls Try.prog 5 #[a.s.r a.A a.n a.c, b.s.r b.A b.n b.c, .slice mA mn mc] w fun e w' => e = .returned (.bool true) ∧ Below w.heap.size w w' := by
  have hB := Below.refl w.heap.size w
  have HF0 := Lib.hid (fun (w' : World) (h : Below w.heap.size w w') => fewTree_any a.s w.heap.size a.n a.c a.A a.ts w' (ha.blw h) h.size ca ma)
  have HF1 := Lib.hid (fun (w' : World) (h : Below w.heap.size w w') => fewTree_any b.s w.heap.size b.n b.c b.A b.ts w' (hb.blw h) h.size cb mb)
  clear ha hb h3
  dsimp only [Sh.r] at *
  rcases h with h | ⟨h, h'⟩ | ⟨h, h', h''⟩
  · have F0 := Lib.hid h
    clear h
    go_enter Try.func5, Try.ntmps5
    go_wp2_with (first
        | (go_at_call 7; (with_reducible refine (first23_any _).mono ?_); go_must (rintro e wf ⟨rfl, hb1⟩; first | (have _t := c0; (try (have c7 := box5 hb1; replace hb1 := bxd hb1)); (try replace c0 := kept c0 rfl hb1); (try replace c1 := kept c1 rfl hb1); (try replace c7 := kept c7 rfl hb1); (try replace c12 := kept c12 rfl hb1); (try replace c14 := kept c14 rfl hb1); (try replace HU := Lib.hid (HU.out.later hb1)); (try replace HM := Lib.hid (HM.out.later hb1)); (try replace HV := Lib.hid (HV.out.later hb1)); (try replace HW := Lib.hid (HW.out.later hb1)); replace hB := bstep hB hb1 (Nat.le_refl _); clear hb1) | (have c1 := box5 hb1; rw [World.size_alloc] at c1; replace hb1 := bxd hb1; have c0 := box5 hb1; replace hB := bxd hb1; clear hb1)))
        | (go_at_call 8; (with_reducible refine (HF0.out _ hB).mono ?_); go_must (rintro e we ⟨rfl, hb1⟩; rw [F0.out]; (try replace c0 := kept c0 rfl hb1); (try replace c1 := kept c1 rfl hb1); (try replace c7 := kept c7 rfl hb1); (try replace c12 := kept c12 rfl hb1); (try replace c14 := kept c14 rfl hb1); (try replace HU := Lib.hid (HU.out.later hb1)); (try replace HM := Lib.hid (HM.out.later hb1)); (try replace HV := Lib.hid (HV.out.later hb1)); (try replace HW := Lib.hid (HW.out.later hb1)); replace hB := bstep hB hb1 (Nat.le_refl _); clear hb1))
        | (go_at_call 8; (with_reducible refine (HF1.out _ hB).mono ?_); go_must (rintro e we ⟨rfl, hb1⟩; rw [F1.out]; (try replace c0 := kept c0 rfl hb1); (try replace c1 := kept c1 rfl hb1); (try replace c7 := kept c7 rfl hb1); (try replace c12 := kept c12 rfl hb1); (try replace c14 := kept c14 rfl hb1); (try replace HU := Lib.hid (HU.out.later hb1)); (try replace HM := Lib.hid (HM.out.later hb1)); (try replace HV := Lib.hid (HV.out.later hb1)); (try replace HW := Lib.hid (HW.out.later hb1)); replace hB := bstep hB hb1 (Nat.le_refl _); clear hb1)))
    go_ret
    exact ⟨rfl, hB⟩
  · have F0 := Lib.hid h
    have F1 := Lib.hid h'
    clear h h'
    go_enter Try.func5, Try.ntmps5
    go_wp2_with (first
        | (go_at_call 7; (with_reducible refine (first23_any _).mono ?_); go_must (rintro e wf ⟨rfl, hb1⟩; first | (have _t := c0; (try (have c7 := box5 hb1; replace hb1 := bxd hb1)); (try replace c0 := kept c0 rfl hb1); (try replace c1 := kept c1 rfl hb1); (try replace c7 := kept c7 rfl hb1); (try replace c12 := kept c12 rfl hb1); (try replace c14 := kept c14 rfl hb1); (try replace HU := Lib.hid (HU.out.later hb1)); (try replace HM := Lib.hid (HM.out.later hb1)); (try replace HV := Lib.hid (HV.out.later hb1)); (try replace HW := Lib.hid (HW.out.later hb1)); replace hB := bstep hB hb1 (Nat.le_refl _); clear hb1) | (have c1 := box5 hb1; rw [World.size_alloc] at c1; replace hb1 := bxd hb1; have c0 := box5 hb1; replace hB := bxd hb1; clear hb1)))
        | (go_at_call 8; (with_reducible refine (HF0.out _ hB).mono ?_); go_must (rintro e we ⟨rfl, hb1⟩; rw [F0.out]; (try replace c0 := kept c0 rfl hb1); (try replace c1 := kept c1 rfl hb1); (try replace c7 := kept c7 rfl hb1); (try replace c12 := kept c12 rfl hb1); (try replace c14 := kept c14 rfl hb1); (try replace HU := Lib.hid (HU.out.later hb1)); (try replace HM := Lib.hid (HM.out.later hb1)); (try replace HV := Lib.hid (HV.out.later hb1)); (try replace HW := Lib.hid (HW.out.later hb1)); replace hB := bstep hB hb1 (Nat.le_refl _); clear hb1))
        | (go_at_call 8; (with_reducible refine (HF1.out _ hB).mono ?_); go_must (rintro e we ⟨rfl, hb1⟩; rw [F1.out]; (try replace c0 := kept c0 rfl hb1); (try replace c1 := kept c1 rfl hb1); (try replace c7 := kept c7 rfl hb1); (try replace c12 := kept c12 rfl hb1); (try replace c14 := kept c14 rfl hb1); (try replace HU := Lib.hid (HU.out.later hb1)); (try replace HM := Lib.hid (HM.out.later hb1)); (try replace HV := Lib.hid (HV.out.later hb1)); (try replace HW := Lib.hid (HW.out.later hb1)); replace hB := bstep hB hb1 (Nat.le_refl _); clear hb1)))
    go_ret
    exact ⟨rfl, hB⟩
  · have F0 := Lib.hid h
    have F1 := Lib.hid h'
    have h3 : (400 : Int) < (mn : Int) := by omega
    clear h h' h''
    go_enter Try.func5, Try.ntmps5
    go_wp2_with (first
        | (go_at_call 7; (with_reducible refine (first23_any _).mono ?_); go_must (rintro e wf ⟨rfl, hb1⟩; first | (have _t := c0; (try (have c7 := box5 hb1; replace hb1 := bxd hb1)); (try replace c0 := kept c0 rfl hb1); (try replace c1 := kept c1 rfl hb1); (try replace c7 := kept c7 rfl hb1); (try replace c12 := kept c12 rfl hb1); (try replace c14 := kept c14 rfl hb1); (try replace HU := Lib.hid (HU.out.later hb1)); (try replace HM := Lib.hid (HM.out.later hb1)); (try replace HV := Lib.hid (HV.out.later hb1)); (try replace HW := Lib.hid (HW.out.later hb1)); replace hB := bstep hB hb1 (Nat.le_refl _); clear hb1) | (have c1 := box5 hb1; rw [World.size_alloc] at c1; replace hb1 := bxd hb1; have c0 := box5 hb1; replace hB := bxd hb1; clear hb1)))
        | (go_at_call 8; (with_reducible refine (HF0.out _ hB).mono ?_); go_must (rintro e we ⟨rfl, hb1⟩; rw [F0.out]; (try replace c0 := kept c0 rfl hb1); (try replace c1 := kept c1 rfl hb1); (try replace c7 := kept c7 rfl hb1); (try replace c12 := kept c12 rfl hb1); (try replace c14 := kept c14 rfl hb1); (try replace HU := Lib.hid (HU.out.later hb1)); (try replace HM := Lib.hid (HM.out.later hb1)); (try replace HV := Lib.hid (HV.out.later hb1)); (try replace HW := Lib.hid (HW.out.later hb1)); replace hB := bstep hB hb1 (Nat.le_refl _); clear hb1))
        | (go_at_call 8; (with_reducible refine (HF1.out _ hB).mono ?_); go_must (rintro e we ⟨rfl, hb1⟩; rw [F1.out]; (try replace c0 := kept c0 rfl hb1); (try replace c1 := kept c1 rfl hb1); (try replace c7 := kept c7 rfl hb1); (try replace c12 := kept c12 rfl hb1); (try replace c14 := kept c14 rfl hb1); (try replace HU := Lib.hid (HU.out.later hb1)); (try replace HM := Lib.hid (HM.out.later hb1)); (try replace HV := Lib.hid (HV.out.later hb1)); (try replace HW := Lib.hid (HW.out.later hb1)); replace hB := bstep hB hb1 (Nat.le_refl _); clear hb1)))
    go_ret
    exact ⟨rfl, hB⟩

set_option maxRecDepth 100000 in
set_option maxHeartbeats 3200000 in
theorem joinResolves_err (a b : Tr) (mn mc : Nat) (mA : Option Addr) (ml : List Bool) (w : World) (ha : RdT w w.heap.size a.A a.n a.ts) (ca : a.n ≤ a.c) (ma : a.c ≤ maxLen) (hb : RdT w w.heap.size b.A b.n b.ts) (cb : b.n ≤ b.c) (mb : b.c ≤ maxLen) (h3 : RdL w w.heap.size mA mn ml) (c3 : mn ≤ mc) (m3 : mc ≤ maxLen) (f0 : fewT a.ts = true) (f1 : fewT b.ts = true) (f2 : ¬ 400 < mn) (E : Int) (hE : resE a b mn = E) (hE0 : E = 4 ∨ E = 13) :
    Calls Try.prog 5 #[a.s.r a.A a.n a.c, b.s.r b.A b.n b.c, .slice mA mn mc] w fun e w' => e = .returned (.bool true) ∧ Below w.heap.size w w' := by
  have hB := Below.refl w.heap.size w
  have HF0 := Lib.hid (fun (w' : World) (h : Below w.heap.size w w') => fewTree_any a.s w.heap.size a.n a.c a.A a.ts w' (ha.blw h) h.size ca ma)
  have HF1 := Lib.hid (fun (w' : World) (h : Below w.heap.size w w') => fewTree_any b.s w.heap.size b.n b.c b.A b.ts w' (hb.blw h) h.size cb mb)
  have F0 := Lib.hid f0
  have F1 := Lib.hid f1
  have h4 : ¬ (400 : Int) < (mn : Int) := by omega
  have sa := (fewT_yes f0).2
  have sb := (fewT_yes f1).2
  have ka : ∀ w', Below w.heap.size w w' → a.ok w' w.heap.size := fun w' h => ⟨ha.blw h, ca, ma, sa⟩
  have kb : ∀ w', Below w.heap.size w w' → b.ok w' w.heap.size := fun w' h => ⟨hb.blw h, cb, mb, sb⟩
  have HR := Lib.hid (fun (w' : World) (h : Below w.heap.size w w') => resolve_err a b w.heap.size mn mc mA ml w' (ka w' h) (kb w' h) h.size E hE hE0)
  have hne : (E != 0) = true := by rcases hE0 with rfl | rfl <;> rfl
  clear ha hb h3 sa sb ka kb hE f0 f1 f2 hE0
  dsimp only [Sh.r] at *
  go_enter Try.func5, Try.ntmps5
  go_wp2_with (first
      | (go_at_call 7; (with_reducible refine (first23_any _).mono ?_); go_must (rintro e wf ⟨rfl, hb1⟩; first | (have _t := c0; (try (have c7 := box5 hb1; replace hb1 := bxd hb1)); (try replace c0 := kept c0 rfl hb1); (try replace c1 := kept c1 rfl hb1); (try replace c7 := kept c7 rfl hb1); (try replace c12 := kept c12 rfl hb1); (try replace c14 := kept c14 rfl hb1); (try replace HU := Lib.hid (HU.out.later hb1)); (try replace HM := Lib.hid (HM.out.later hb1)); (try replace HV := Lib.hid (HV.out.later hb1)); (try replace HW := Lib.hid (HW.out.later hb1)); replace hB := bstep hB hb1 (Nat.le_refl _); clear hb1) | (have c1 := box5 hb1; rw [World.size_alloc] at c1; replace hb1 := bxd hb1; have c0 := box5 hb1; replace hB := bxd hb1; clear hb1)))
      | (go_at_call 8; (with_reducible refine (HF0.out _ hB).mono ?_); go_must (rintro e we ⟨rfl, hb1⟩; rw [F0.out]; (try replace c0 := kept c0 rfl hb1); (try replace c1 := kept c1 rfl hb1); (try replace c7 := kept c7 rfl hb1); (try replace c12 := kept c12 rfl hb1); (try replace c14 := kept c14 rfl hb1); (try replace HU := Lib.hid (HU.out.later hb1)); (try replace HM := Lib.hid (HM.out.later hb1)); (try replace HV := Lib.hid (HV.out.later hb1)); (try replace HW := Lib.hid (HW.out.later hb1)); replace hB := bstep hB hb1 (Nat.le_refl _); clear hb1))
      | (go_at_call 8; (with_reducible refine (HF1.out _ hB).mono ?_); go_must (rintro e we ⟨rfl, hb1⟩; rw [F1.out]; (try replace c0 := kept c0 rfl hb1); (try replace c1 := kept c1 rfl hb1); (try replace c7 := kept c7 rfl hb1); (try replace c12 := kept c12 rfl hb1); (try replace c14 := kept c14 rfl hb1); (try replace HU := Lib.hid (HU.out.later hb1)); (try replace HM := Lib.hid (HM.out.later hb1)); (try replace HV := Lib.hid (HV.out.later hb1)); (try replace HW := Lib.hid (HW.out.later hb1)); replace hB := bstep hB hb1 (Nat.le_refl _); clear hb1))
      | (go_at_call 17; (with_reducible refine (HR.out _ hB).mono ?_); go_must (rintro e w3 ⟨rfl, hb1⟩; (try replace c0 := kept c0 rfl hb1); (try replace c1 := kept c1 rfl hb1); (try replace c7 := kept c7 rfl hb1); (try replace c12 := kept c12 rfl hb1); (try replace c14 := kept c14 rfl hb1); (try replace HU := Lib.hid (HU.out.later hb1)); (try replace HM := Lib.hid (HM.out.later hb1)); (try replace HV := Lib.hid (HV.out.later hb1)); (try replace HW := Lib.hid (HW.out.later hb1)); replace hB := bstep hB hb1 (Nat.le_refl _); clear hb1)))
  go_ret
  exact ⟨ret_bool (by first | rfl | simp), hB⟩

set_option maxRecDepth 100000 in
set_option maxHeartbeats 12800000 in
theorem joinResolves_ok (a b : Tr) (mn mc : Nat) (mA : Option Addr) (ml : List Bool) (w : World) (ha : RdT w w.heap.size a.A a.n a.ts) (ca : a.n ≤ a.c) (ma : a.c ≤ maxLen) (hb : RdT w w.heap.size b.A b.n b.ts) (cb : b.n ≤ b.c) (mb : b.c ≤ maxLen) (h3 : RdL w w.heap.size mA mn ml) (c3 : mn ≤ mc) (m3 : mc ≤ maxLen) (f0 : fewT a.ts = true) (f1 : fewT b.ts = true) (f2 : ¬ 400 < mn) (hE : resE a b mn = 0) :
    Calls Try.prog 5 #[a.s.r a.A a.n a.c, b.s.r b.A b.n b.c, .slice mA mn mc] w fun e w' => e = .returned (.bool true) ∧ Below w.heap.size w w' := by
  have hB := Below.refl w.heap.size w
  have HF0 := Lib.hid (fun (w' : World) (h : Below w.heap.size w w') => fewTree_any a.s w.heap.size a.n a.c a.A a.ts w' (ha.blw h) h.size ca ma)
  have HF1 := Lib.hid (fun (w' : World) (h : Below w.heap.size w w') => fewTree_any b.s w.heap.size b.n b.c b.A b.ts w' (hb.blw h) h.size cb mb)
  have F0 := Lib.hid f0
  have F1 := Lib.hid f1
  have h4 : ¬ (400 : Int) < (mn : Int) := by omega
  have sa := (fewT_yes f0).2
  have sb := (fewT_yes f1).2
  have ka : ∀ w', Below w.heap.size w w' → a.ok w' w.heap.size := fun w' h => ⟨ha.blw h, ca, ma, sa⟩
  have kb : ∀ w', Below w.heap.size w w' → b.ok w' w.heap.size := fun w' h => ⟨hb.blw h, cb, mb, sb⟩
  obtain ⟨hW, hmn⟩ := resE_zero hE
  obtain ⟨q1, q2, q3⟩ := wrong2_zero hW
  have l2 : b.ts.length = a.ts.length := may_len2 q1 q2 q3
  obtain ⟨-, n0, -, oka⟩ := mayT_len q1
  obtain ⟨-, -, -, okb⟩ := mayT_len q2
  have la := ha.len
  have lb := hb.len
  have lm := h3.len
  have HR := Lib.hid (fun (w' : World) (h : Below w.heap.size w w') => resolve_ok a b w.heap.size mn mc mA ml w' (ka w' h) (kb w' h) h.size (h3.blw h) c3 m3 hW hmn)
  have HR2 : Hid (∀ w', Below w.heap.size w w' → Calls Try.prog 17 #[a.s.r a.A a.n a.c, .slice mA mn mc, a.s.r a.A a.n a.c] w' fun e w1 => ∃ g k, e = .returned (.tuple #[a.s.r (some ⟨g, 0, none⟩) a.n k, .int .i64 0]) ∧ ownT w1 w'.heap.size (.slice (some ⟨g, 0, none⟩) a.n k) a.ts ∧ Below w'.heap.size w' w1) := by
    intro w' h
    have := resolve_ok a a w.heap.size mn mc mA ml w' (ka w' h) (ka w' h) h.size (h3.blw h) c3 m3 (wrong2_mk q1 q1 rfl) hmn
    rw [rsK_self] at this
    exact this
  have HR3 : Hid (∀ w', Below w.heap.size w w' → ∀ (B0 g : Nat), ownL w' B0 (.slice (some ⟨g, 0, none⟩) a.n a.n) (List.replicate a.n true) → Calls Try.prog 17 #[a.s.r a.A a.n a.c, .slice (some ⟨g, 0, none⟩) a.n a.n, b.s.r b.A b.n b.c] w' fun e w1 => ∃ g k, e = .returned (.tuple #[a.s.r (some ⟨g, 0, none⟩) a.n k, .int .i64 0]) ∧ ownT w1 w'.heap.size (.slice (some ⟨g, 0, none⟩) a.n k) b.ts ∧ Below w'.heap.size w' w1) := by
    intro w' h B0 g hl
    have := resolve_ok a b w'.heap.size a.n a.n (some ⟨g, 0, none⟩) (List.replicate a.n true) w' ((ka w' h).more h.size) ((kb w' h).more h.size) (Nat.le_refl _) hl.rd (Nat.le_refl _) (by omega) hW rfl
    rw [show rsK a.ts b.ts (List.replicate a.n true) a.n = b.ts by rw [← la]; exact rsK_full _ _ l2] at this
    exact this
  have HC : Hid (∀ w', Below w.heap.size w w' → ∀ (B0 g k : Nat), ownT w' B0 (.slice (some ⟨g, 0, none⟩) a.n k) (rsK a.ts b.ts ml a.n) → Calls Try.prog 14 #[a.s.r a.A a.n a.c, a.s.r (some ⟨g, 0, none⟩) a.n k] w' fun e w1 => ∃ v, e = .returned (.tuple #[v, .int .i64 0]) ∧ ownI w1 w'.heap.size v (chg a.ts (rsK a.ts b.ts ml a.n) a.n) ∧ Below w'.heap.size w' w1) := by
    intro w' h B0 g k hu
    have hm : mayT a.s (rsK a.ts b.ts ml a.n) = true := may_same q1 (rsK_len _ _ _ _) (rsK_ok oka okb l2)
    exact changed_ok a ⟨a.s, some ⟨g, 0, none⟩, a.n, k, rsK a.ts b.ts ml a.n⟩ w'.heap.size w' ((ka w' h).more h.size) (Tr.ok_own hu (rsK_short sa sb)) (Nat.le_refl _) (wrong2_mk q1 hm rfl)
  have HCM : Hid (∀ (i : Nat) (z : Int), (chg a.ts (rsK a.ts b.ts ml a.n) a.n)[i]? = some z → ∃ j : Nat, z = (j : Int) ∧ j < a.n ∧ ml[j]? = some true) := by
    intro i z h
    rw [← la] at h ⊢
    exact chg_rs (by omega) h
  have HLC := Lib.hid (chg_len a.ts (rsK a.ts b.ts ml a.n) a.n)
  have n0 : 0 < a.n := by omega
  have n9 : a.n ≤ 400 := by omega
  have q4 := q3.symm
  clear f0 f1 f2 hE hW q1 q2 q3 oka okb sa sb ka kb
  obtain ⟨⟨aw, ah, ad, ae⟩, aA, n, ac, ats⟩ := a
  obtain ⟨⟨bw, bh, bd, be⟩, bA, bn, bc, bts⟩ := b
  dsimp only at *
  injection q4 with u1 u2 u3 u4
  subst u1 u2 u3 u4
  subst hmn
  have e2 : mn = bn := by omega
  subst e2
  obtain ⟨n, hn⟩ : ∃ n, n = mn := ⟨_, rfl⟩
  subst hn
  obtain ⟨ab, ao, rfl, hab, acs⟩ := ha.at_ (by omega)
  obtain ⟨bb, bo, rfl, hbb, bcs⟩ := hb.at_ (by omega)
  obtain ⟨mb', mo, rfl, hmb, mcs⟩ := h3.at_ (by omega)
  have HA := Lib.hid (fun (w' : World) (h : Below w.heap.size w w') (j : Nat) (hj : j < ats.length) => (show w'.cell? ⟨ab, ao + j, none⟩ = some (.string ats[j]) from bsame h hab (acs j hj)))
  have HBB := Lib.hid (fun (w' : World) (h : Below w.heap.size w w') (j : Nat) (hj : j < bts.length) => (show w'.cell? ⟨bb, bo + j, none⟩ = some (.string bts[j]) from bsame h hbb (bcs j hj)))
  have HMM := Lib.hid (fun (w' : World) (h : Below w.heap.size w w') (j : Nat) (hj : j < ml.length) => (show w'.cell? ⟨mb', mo + j, none⟩ = some (.bool ml[j]) from bsame h hmb (mcs j hj)))
  have RA := Lib.hid ha
  have RB := Lib.hid hb
  have M1 := Lib.hid lm
  have M2 := Lib.hid la
  have M3 := Lib.hid lb
  clear ha hb h3 acs bcs mcs lm la lb l2
  have m3' : mc ≤ 9223372036854775807 := by unfold maxLen at m3; omega
  have ma' : ac ≤ 9223372036854775807 := by unfold maxLen at ma; omega
  have mb'' : bc ≤ 9223372036854775807 := by unfold maxLen at mb; omega
  clear m3 ma mb
  generalize chg ats (rsK ats bts ml n) n = LC at HC HCM HLC
  dsimp only [Sh.r] at *
  go_enter Try.func5, Try.ntmps5
  go_wp2_with (first
      | (go_at_call 7; (with_reducible refine (first23_any _).mono ?_); go_must (rintro e wf ⟨rfl, hb1⟩; first | (have _t := c0; (try (have c7 := box5 hb1; replace hb1 := bxd hb1)); (try replace c0 := kept c0 rfl hb1); (try replace c1 := kept c1 rfl hb1); (try replace c7 := kept c7 rfl hb1); (try replace c12 := kept c12 rfl hb1); (try replace c14 := kept c14 rfl hb1); (try replace HU := Lib.hid (HU.out.later hb1)); (try replace HM := Lib.hid (HM.out.later hb1)); (try replace HV := Lib.hid (HV.out.later hb1)); (try replace HW := Lib.hid (HW.out.later hb1)); replace hB := bstep hB hb1 (Nat.le_refl _); clear hb1) | (have c1 := box5 hb1; rw [World.size_alloc] at c1; replace hb1 := bxd hb1; have c0 := box5 hb1; replace hB := bxd hb1; clear hb1)))
      | (go_at_call 8; (with_reducible refine (HF0.out _ hB).mono ?_); go_must (rintro e we ⟨rfl, hb1⟩; rw [F0.out]; (try replace c0 := kept c0 rfl hb1); (try replace c1 := kept c1 rfl hb1); (try replace c7 := kept c7 rfl hb1); (try replace c12 := kept c12 rfl hb1); (try replace c14 := kept c14 rfl hb1); (try replace HU := Lib.hid (HU.out.later hb1)); (try replace HM := Lib.hid (HM.out.later hb1)); (try replace HV := Lib.hid (HV.out.later hb1)); (try replace HW := Lib.hid (HW.out.later hb1)); replace hB := bstep hB hb1 (Nat.le_refl _); clear hb1))
      | (go_at_call 8; (with_reducible refine (HF1.out _ hB).mono ?_); go_must (rintro e we ⟨rfl, hb1⟩; rw [F1.out]; (try replace c0 := kept c0 rfl hb1); (try replace c1 := kept c1 rfl hb1); (try replace c7 := kept c7 rfl hb1); (try replace c12 := kept c12 rfl hb1); (try replace c14 := kept c14 rfl hb1); (try replace HU := Lib.hid (HU.out.later hb1)); (try replace HM := Lib.hid (HM.out.later hb1)); (try replace HV := Lib.hid (HV.out.later hb1)); (try replace HW := Lib.hid (HW.out.later hb1)); replace hB := bstep hB hb1 (Nat.le_refl _); clear hb1))
      | (go_at_call 17; (with_reducible refine (HR.out _ hB).mono ?_); go_must (rintro e w3 ⟨g1, k1, rfl, ho, hb1⟩; have HU := Lib.hid ho; have hg1 := (World.ownsRow.lt ho g1 rfl); clear ho; have hz1 := ltOf c1 rfl; (try replace c0 := kept c0 rfl hb1); (try replace c1 := kept c1 rfl hb1); (try replace c7 := kept c7 rfl hb1); (try replace c12 := kept c12 rfl hb1); (try replace c14 := kept c14 rfl hb1); (try replace HM := Lib.hid (HM.out.later hb1)); (try replace HV := Lib.hid (HV.out.later hb1)); (try replace HW := Lib.hid (HW.out.later hb1)); replace hB := bstep hB hb1 (Nat.le_refl _); have hs3 := hb1.size; clear hb1; have yac0 := ltOf c0 rfl; have yac0n := Nat.ne_of_lt yac0; have yac1 := ltOf c1 rfl; have yac1n := Nat.ne_of_lt yac1))
      | (at_make; refine wpList_makeL rfl _ _ rfl n _ rfl rfl rfl (by omega) ?_; intro w4 ho4 hb1 hsz4; simp only [World.size_alloc] at ho4 hsz4; have HM := Lib.hid ho4; have c7 := box5 hb1; replace hb1 := bxd hb1; (try replace c0 := kept c0 rfl hb1); (try replace c1 := kept c1 rfl hb1); (try replace c12 := kept c12 rfl hb1); (try replace c14 := kept c14 rfl hb1); (try replace HU := Lib.hid (HU.out.later hb1)); (try replace HV := Lib.hid (HV.out.later hb1)); (try replace HW := Lib.hid (HW.out.later hb1)); replace hB := bstep hB hb1 (Nat.le_refl _); clear hb1; clear ho4))
  have hz7 : w3.heap.size < w4.heap.size := by omega
  go_loopw [10] (fun i wr => ∃ k : Nat, k ≤ n ∧ i = .int .i64 k ∧ Hid (ownL wr w3.heap.size (.slice (some ⟨w3.heap.size + 1, 0, none⟩) n n) (fullTo n k)) ∧ Hid (ownT wr w.heap.size (.slice (some ⟨g1, 0, none⟩) n k1) (rsK ats bts ml n)) ∧ (∀ i, wr.cell? ⟨w.heap.size, i, none⟩ = r5 (.int .i64 aw) (.int .i64 ah) (.int .i64 ad) (.int .i64 ae) (.slice (some ⟨ab, ao, none⟩) n ac) i) ∧ (∀ i, wr.cell? ⟨w.heap.size + 1, i, none⟩ = r5 (.int .i64 aw) (.int .i64 ah) (.int .i64 ad) (.int .i64 ae) (.slice (some ⟨bb, bo, none⟩) n bc) i) ∧ (∀ i, wr.cell? ⟨w3.heap.size, i, none⟩ = r5 (.int .i64 aw) (.int .i64 ah) (.int .i64 ad) (.int .i64 ae) (.slice (some ⟨g1, 0, none⟩) n k1) i) ∧ Below w.heap.size w wr) (fun i _ => n - (intOf i).toNat)
  case atStart => exact ⟨0, Nat.zero_le _, rfl, (show ownL _ _ _ _ by rw [fullTo_0]; exact HM.out.mono (by omega)), Lib.hid (HU.out.mono (by omega)), c0, c1, c7, hB⟩
  case round =>
    clear c0 c1 c7 hB HM HU
    obtain ⟨k, hk, rfl, HM, HU, c0, c1, c7, hB⟩ := hrel
    have z0 := ltOf c0 rfl
    have z1 := ltOf c1 rfl
    have z7 := ltOf c7 rfl
    by_cases hlt : k < n
    · have k1' : k < ml.length := by rw [M1.out]; exact hlt
      have k2' : k < ats.length := by rw [M2.out]; exact hlt
      have k3' : k < bts.length := by rw [M3.out]; exact hlt
      have e0 := HMM.out _ hB k k1'
      have e1 := HA.out _ hB k k2'
      have e2 := HBB.out _ hB k k3'
      obtain ⟨q, hq⟩ : ∃ q, q = ml[k] := ⟨_, rfl⟩
      obtain ⟨x, hx⟩ : ∃ x, x = ats[k] := ⟨_, rfl⟩
      obtain ⟨y, hy⟩ : ∃ y, y = bts[k] := ⟨_, rfl⟩
      have hu := rsK_at (show ats[k]? = some x by rw [hx]; exact List.getElem?_eq_getElem k2') (show bts[k]? = some y by rw [hy]; exact List.getElem?_eq_getElem k3') (show ml[k]? = some q by rw [hq]; exact List.getElem?_eq_getElem k1')
      rw [M2.out] at hu
      rw [← hq] at e0
      rw [← hx] at e1
      rw [← hy] at e2
      have eu : wr.cell? ⟨g1, k, none⟩ = some (.string (if q then y else x)) := by
        obtain ⟨p1, p2⟩ := List.getElem?_eq_some_iff.1 hu
        have := HU.out.cell (by rw [rsK_len, M2.out]) p1
        rw [this, p2]
      have kk : k < (fullTo n k).length := by rw [fullTo_len]; exact hlt
      obtain ⟨z, xm⟩ : ∃ z, wr.cell? ⟨w3.heap.size + 1, k, none⟩ = some (.bool z) := ⟨_, HM.out.cell (by rw [fullTo_len]) kk⟩
      have fm : wr.frozen? ⟨w3.heap.size + 1, k, none⟩ = false := HM.out.frozen (by rw [fullTo_len]) k
      clear hu hq hx hy k1' k2' k3' kk
      have i1 : ¬ ab = w3.heap.size + 1 := by omega
      have i2 : ¬ bb = w3.heap.size + 1 := by omega
      have i3 : ¬ mb' = w3.heap.size + 1 := by omega
      have i4 : ¬ g1 = w3.heap.size + 1 := by omega
      have i5 : ¬ w.heap.size = w3.heap.size + 1 := by omega
      have i6 : ¬ w.heap.size + 1 = w3.heap.size + 1 := by omega
      have i7 : ¬ w3.heap.size = w3.heap.size + 1 := by omega
      have EM : Hid (fullTo n (k + 1) = (fullTo n k).set k true) := fullTo_step n k
      cases q with
      | false =>
        simp only [Bool.false_eq_true, if_false] at eu
        go_wp2_with fail
        go_roundw
        case rel => exact ⟨k + 1, by omega, by go_num, (show ownL _ _ _ _ by rw [EM.out]; exact HM.out.store (by rw [fullTo_len]) k true), Lib.hid (HU.out.far (ownNe i4) _ _), keptS c0 (p := ⟨w3.heap.size + 1, k, none⟩) i5 _, keptS c1 (p := ⟨w3.heap.size + 1, k, none⟩) i6 _, keptS c7 (p := ⟨w3.heap.size + 1, k, none⟩) i7 _, hB.setCell (p := ⟨w3.heap.size + 1, k, none⟩) (show w.heap.size ≤ w3.heap.size + 1 by omega) _⟩
        case measure => simp [intOf]; omega
      | true =>
        simp only [if_true] at eu
        go_wp2_with fail
        go_roundw
        case rel => exact ⟨k + 1, by omega, by go_num, (show ownL _ _ _ _ by rw [EM.out]; exact HM.out.store (by rw [fullTo_len]) k true), Lib.hid (HU.out.far (ownNe i4) _ _), keptS c0 (p := ⟨w3.heap.size + 1, k, none⟩) i5 _, keptS c1 (p := ⟨w3.heap.size + 1, k, none⟩) i6 _, keptS c7 (p := ⟨w3.heap.size + 1, k, none⟩) i7 _, hB.setCell (p := ⟨w3.heap.size + 1, k, none⟩) (show w.heap.size ≤ w3.heap.size + 1 by omega) _⟩
        case measure => simp [intOf]; omega
    · obtain rfl : k = n := by omega
      replace HM : Hid (ownL wr w3.heap.size (.slice (some ⟨w3.heap.size + 1, 0, none⟩) k k) (List.replicate k true)) := (show ownL _ _ _ _ by have := HM.out; rwa [fullTo_n] at this)
      clear z0 z1 z7
      go_wp2_with (first
          | (go_at_call 17; (with_reducible refine (HR2.out _ hB).mono ?_); go_must (rintro e w5 ⟨g3, k3, rfl, ho, hb1⟩; have HV := Lib.hid ho; clear ho; (try replace c0 := kept c0 rfl hb1); (try replace c1 := kept c1 rfl hb1); (try replace c7 := kept c7 rfl hb1); (try replace c12 := kept c12 rfl hb1); (try replace c14 := kept c14 rfl hb1); (try replace HU := Lib.hid (HU.out.later hb1)); (try replace HM := Lib.hid (HM.out.later hb1)); (try replace HW := Lib.hid (HW.out.later hb1)); replace hB := bstep hB hb1 (Nat.le_refl _); clear hb1; have ybc0 := ltOf c0 rfl; have ybc0n := Nat.ne_of_lt ybc0; have ybc1 := ltOf c1 rfl; have ybc1n := Nat.ne_of_lt ybc1; have ybc7 := ltOf c7 rfl; have ybc7n := Nat.ne_of_lt ybc7))
          | (go_at_call 17; (with_reducible refine (HR3.out _ (bal hB _) _ _ (HM.out.alloc _)).mono ?_); go_must (rintro e w6 ⟨g4, k4, rfl, ho, hb1⟩; have HW := Lib.hid ho; clear ho; have c12 := box5 hb1; replace hb1 := bxd hb1; (try replace c0 := kept c0 rfl hb1); (try replace c1 := kept c1 rfl hb1); (try replace c7 := kept c7 rfl hb1); (try replace c14 := kept c14 rfl hb1); (try replace HU := Lib.hid (HU.out.later hb1)); (try replace HM := Lib.hid (HM.out.later hb1)); (try replace HV := Lib.hid (HV.out.later hb1)); replace hB := bstep hB hb1 (Nat.le_refl _); clear hb1; have ydc0 := ltOf c0 rfl; have ydc0n := Nat.ne_of_lt ydc0; have ydc1 := ltOf c1 rfl; have ydc1n := Nat.ne_of_lt ydc1; have ydc7 := ltOf c7 rfl; have ydc7n := Nat.ne_of_lt ydc7; have ydc12 := ltOf c12 rfl; have ydc12n := Nat.ne_of_lt ydc12))
          | (go_at_call 14; (with_reducible refine (HC.out _ (bal hB _) _ _ _ (HU.out.alloc _)).mono ?_); go_must (rintro e w7 ⟨v7, rfl, ho, hb1⟩; obtain ⟨A7, k7, rfl, hr7, hl7, hm7⟩ := ho.form; have HI := Lib.hid hr7; unfold maxLen at hm7; clear ho hr7; have c14 := box5 hb1; replace hb1 := bxd hb1; (try replace c0 := kept c0 rfl hb1); (try replace c1 := kept c1 rfl hb1); (try replace c7 := kept c7 rfl hb1); (try replace c12 := kept c12 rfl hb1); (try replace HM := Lib.hid (HM.out.later hb1)); (try replace HV := Lib.hid (HV.out.later hb1)); (try replace HW := Lib.hid (HW.out.later hb1)); replace hB := bstep hB hb1 (Nat.le_refl _); clear hb1)))
      have l0 := ltOf c0 rfl
      have l1 := ltOf c1 rfl
      have l12 := ltOf c12 rfl
      have l14 := ltOf c14 rfl
      go_loop [18] (fun i => ∃ q : Nat, q ≤ LC.length ∧ i = .int .i64 q) (fun i => LC.length - (intOf i).toNat)
      case atStart => exact ⟨0, Nat.zero_le _, rfl⟩
      case round =>
        obtain ⟨q, hq, rfl⟩ := hrel
        by_cases hlt : q < LC.length
        · obtain ⟨b7, o7, z, rfl, hb7, hz, ez⟩ := HI.out.one hlt
          obtain ⟨j, rfl, hj, hmj⟩ := HCM.out q z hz.out
          have ej : w7.cell? ⟨mb', mo + j, none⟩ = some (.bool true) := by
            obtain ⟨p1, p2⟩ := List.getElem?_eq_some_iff.1 hmj
            rw [HMM.out _ hB j p1, p2]
          have hj' : (j : Int) < (k : Int) := by omega
          have hj'' : ¬ (k : Int) ≤ (j : Int) := by omega
          have hj0 : ¬ (j : Int) < 0 := by omega
          clear hmj hz
          go_wp2_with fail
          go_round
          case rel => exact ⟨q + 1, by omega, by go_num⟩
          case measure => simp [intOf]; omega
        · obtain rfl : q = LC.length := by omega
          have hX := Below.refl w7.heap.size w7
          have HS1 := Lib.hid (fun (w' : World) (h : Below w7.heap.size w7 w') => same_tt aw ah ad ae ats w7.heap.size k k3 k ac (some ⟨g3, 0, none⟩) (some ⟨ab, ao, none⟩) w' (HV.out.rd.blw h) ((RA.out.blw hB |>.more hB.size).blw h) h.size (by omega))
          have HS2 := Lib.hid (fun (w' : World) (h : Below w7.heap.size w7 w') => same_tt aw ah ad ae bts w7.heap.size k k4 k bc (some ⟨g4, 0, none⟩) (some ⟨bb, bo, none⟩) w' (HW.out.rd.blw h) ((RB.out.blw hB |>.more hB.size).blw h) h.size (by omega))
          go_upto_region 28 with (fail)
          go_region_held3 (fun w' => (∀ i, w'.cell? ⟨w5.heap.size, i, none⟩ = r5 (.int .i64 aw) (.int .i64 ah) (.int .i64 ad) (.int .i64 ae) (.slice (some ⟨g3, 0, none⟩) k k3) i) ∧ (∀ i, w'.cell? ⟨w.heap.size, i, none⟩ = r5 (.int .i64 aw) (.int .i64 ah) (.int .i64 ad) (.int .i64 ae) (.slice (some ⟨ab, ao, none⟩) k ac) i) ∧ (∀ i, w'.cell? ⟨w6.heap.size, i, none⟩ = r5 (.int .i64 aw) (.int .i64 ah) (.int .i64 ad) (.int .i64 ae) (.slice (some ⟨g4, 0, none⟩) k k4) i) ∧ (∀ i, w'.cell? ⟨w.heap.size + 1, i, none⟩ = r5 (.int .i64 aw) (.int .i64 ah) (.int .i64 ad) (.int .i64 ae) (.slice (some ⟨bb, bo, none⟩) k bc) i))
            (first | (with_reducible exact ⟨c12, c0, c14, c1⟩) | (with_reducible exact ⟨kD5 c12, kD5 c0, kD5 c14, kD5 c1⟩) | (with_reducible exact ⟨kBl5 hX l12 c12, kBl5 hX l0 c0, kBl5 hX l14 c14, kBl5 hX l1 c1⟩))
            (first
              | (go_at_call 7; (with_reducible refine (first23_any _).mono ?_); go_must (rintro e wx ⟨rfl, hb1⟩; (first | replace hX := bstep hX hb1 (Nat.le_refl _) | replace hX := bstep (Below.drew hX) hb1 (Nat.le_refl _)); clear hb1))
              | (go_at_call 12; (with_reducible refine (tree_at _ _ _ _ _ _ _ _).mono ?_); go_must (rintro e wx ⟨rfl, hb1⟩; (first | replace hX := bstep hX hb1 (Nat.le_refl _) | replace hX := bstep (Below.drew hX) hb1 (Nat.le_refl _)); clear hb1))
              | (go_at_call 13; (with_reducible refine (HS1.out _ hX).mono ?_); go_must (rintro e wx ⟨rfl, hb1⟩; (first | replace hX := bstep hX hb1 (Nat.le_refl _) | replace hX := bstep (Below.drew hX) hb1 (Nat.le_refl _)); clear hb1))
              | (go_at_call 13; (with_reducible refine (HS2.out _ hX).mono ?_); go_must (rintro e wx ⟨rfl, hb1⟩; (first | replace hX := bstep hX hb1 (Nat.le_refl _) | replace hX := bstep (Below.drew hX) hb1 (Nat.le_refl _)); clear hb1)))
          all_goals
            go_wp2_with fail
            go_ret
            exact ⟨rfl, bstep hB hX (Nat.le_refl _)⟩

theorem joinResolves_walk (a b : Tr) (mn mc : Nat) (mA : Option Addr) (ml : List Bool) (w : World) (ha : RdT w w.heap.size a.A a.n a.ts) (ca : a.n ≤ a.c) (ma : a.c ≤ maxLen) (hb : RdT w w.heap.size b.A b.n b.ts) (cb : b.n ≤ b.c) (mb : b.c ≤ maxLen) (h3 : RdL w w.heap.size mA mn ml) (c3 : mn ≤ mc) (m3 : mc ≤ maxLen) :
    Calls Try.prog 5 #[a.s.r a.A a.n a.c, b.s.r b.A b.n b.c, .slice mA mn mc] w fun e w' => e = .returned (.bool true) ∧ Below w.heap.size w w' := by
  cases f0 : fewT a.ts with
  | false => exact joinResolves_early a b mn mc mA ml w ha ca ma hb cb mb h3 c3 m3 (.inl f0)
  | true =>
    cases f1 : fewT b.ts with
    | false => exact joinResolves_early a b mn mc mA ml w ha ca ma hb cb mb h3 c3 m3 (.inr (.inl ⟨f0, f1⟩))
    | true =>
      by_cases f2 : 400 < mn
      · exact joinResolves_early a b mn mc mA ml w ha ca ma hb cb mb h3 c3 m3 (.inr (.inr ⟨f0, f1, f2⟩))
      · rcases resE_cases a b mn with e | e
        · exact joinResolves_ok a b mn mc mA ml w ha ca ma hb cb mb h3 c3 m3 f0 f1 f2 e
        · exact joinResolves_err a b mn mc mA ml w ha ca ma hb cb mb h3 c3 m3 f0 f1 f2 _ rfl e

end Go.Proofs.Ytmffmijjdpjaiaa
