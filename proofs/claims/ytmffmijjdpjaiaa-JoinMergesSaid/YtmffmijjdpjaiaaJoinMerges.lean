/- The walk of JoinMerges. -/
import Derived.Test.YtmffmijjdpjaiaaJoinAny
import Derived.Test.YtmffmijjdpjaiaaOpenT
import Derived.Test.YtmffmijjdpjaiaaInv
import Derived.Deep.RegionHeld3
namespace Go.Proofs.Ytmffmijjdpjaiaa
set_option linter.all false
open Go.RowKit

set_option maxRecDepth 100000 in
set_option maxHeartbeats 3200000 in
theorem joinMerges_early (o a b : Tr) (mn mc : Nat) (mA : Option Addr) (ml : List Bool) (w : World) (ho : RdT w w.heap.size o.A o.n o.ts) (co : o.n ≤ o.c) (mo : o.c ≤ maxLen) (ha : RdT w w.heap.size a.A a.n a.ts) (ca : a.n ≤ a.c) (ma : a.c ≤ maxLen) (hb : RdT w w.heap.size b.A b.n b.ts) (cb : b.n ≤ b.c) (mb : b.c ≤ maxLen) (h3 : RdL w w.heap.size mA mn ml) (c3 : mn ≤ mc) (m3 : mc ≤ maxLen) (h : fewT o.ts = false ∨ (fewT o.ts = true ∧ fewT a.ts = false) ∨ (fewT o.ts = true ∧ fewT a.ts = true ∧ fewT b.ts = false) ∨ (fewT o.ts = true ∧ fewT a.ts = true ∧ fewT b.ts = true ∧ 400 < mn)) :
    Calls Try.prog 6 #[o.s.r o.A o.n o.c, a.s.r a.A a.n a.c, b.s.r b.A b.n b.c, .slice mA mn mc] w fun e w' => e = .returned (.bool true) ∧ Below w.heap.size w w' := by
  have hB := Below.refl w.heap.size w
  have HF0 := Lib.hid (fun (w' : World) (h : Below w.heap.size w w') => fewTree_any o.s w.heap.size o.n o.c o.A o.ts w' (ho.blw h) h.size co mo)
  have HF1 := Lib.hid (fun (w' : World) (h : Below w.heap.size w w') => fewTree_any a.s w.heap.size a.n a.c a.A a.ts w' (ha.blw h) h.size ca ma)
  have HF2 := Lib.hid (fun (w' : World) (h : Below w.heap.size w w') => fewTree_any b.s w.heap.size b.n b.c b.A b.ts w' (hb.blw h) h.size cb mb)
  clear ho ha hb
  dsimp only [Sh.r] at *
  rcases h with h | ⟨h, h'⟩ | ⟨h, h', h''⟩ | ⟨h, h', h'', h4⟩
  · have F0 := Lib.hid h
    clear h
    go_enter Try.func6, Try.ntmps6
    go_wp2_with (first
        | (go_at_call 7; (with_reducible refine (first23_any _).mono ?_); go_must (rintro e wf ⟨rfl, hb1⟩; first | (have _t := c0; (try replace c0 := kept c0 rfl hb1); (try replace c1 := kept c1 rfl hb1); (try replace c2 := kept c2 rfl hb1); replace hB := bstep hB hb1 (Nat.le_refl _); clear hb1) | (have c2 := box5 hb1; rw [World.size_alloc, World.size_alloc] at c2; replace hb1 := bxd hb1; have c1 := box5 hb1; rw [World.size_alloc] at c1; replace hb1 := bxd hb1; have c0 := box5 hb1; replace hB := bxd hb1; clear hb1)))
        | (go_at_call 8; (with_reducible refine (HF0.out _ hB).mono ?_); go_must (rintro e we ⟨rfl, hb1⟩; rw [F0.out]; (try replace c0 := kept c0 rfl hb1); (try replace c1 := kept c1 rfl hb1); (try replace c2 := kept c2 rfl hb1); replace hB := bstep hB hb1 (Nat.le_refl _); clear hb1))
        | (go_at_call 8; (with_reducible refine (HF1.out _ hB).mono ?_); go_must (rintro e we ⟨rfl, hb1⟩; rw [F1.out]; (try replace c0 := kept c0 rfl hb1); (try replace c1 := kept c1 rfl hb1); (try replace c2 := kept c2 rfl hb1); replace hB := bstep hB hb1 (Nat.le_refl _); clear hb1))
        | (go_at_call 8; (with_reducible refine (HF2.out _ hB).mono ?_); go_must (rintro e we ⟨rfl, hb1⟩; rw [F2.out]; (try replace c0 := kept c0 rfl hb1); (try replace c1 := kept c1 rfl hb1); (try replace c2 := kept c2 rfl hb1); replace hB := bstep hB hb1 (Nat.le_refl _); clear hb1)))
    go_ret
    exact ⟨rfl, hB⟩
  · have F0 := Lib.hid h
    have F1 := Lib.hid h'
    clear h h'
    go_enter Try.func6, Try.ntmps6
    go_wp2_with (first
        | (go_at_call 7; (with_reducible refine (first23_any _).mono ?_); go_must (rintro e wf ⟨rfl, hb1⟩; first | (have _t := c0; (try replace c0 := kept c0 rfl hb1); (try replace c1 := kept c1 rfl hb1); (try replace c2 := kept c2 rfl hb1); replace hB := bstep hB hb1 (Nat.le_refl _); clear hb1) | (have c2 := box5 hb1; rw [World.size_alloc, World.size_alloc] at c2; replace hb1 := bxd hb1; have c1 := box5 hb1; rw [World.size_alloc] at c1; replace hb1 := bxd hb1; have c0 := box5 hb1; replace hB := bxd hb1; clear hb1)))
        | (go_at_call 8; (with_reducible refine (HF0.out _ hB).mono ?_); go_must (rintro e we ⟨rfl, hb1⟩; rw [F0.out]; (try replace c0 := kept c0 rfl hb1); (try replace c1 := kept c1 rfl hb1); (try replace c2 := kept c2 rfl hb1); replace hB := bstep hB hb1 (Nat.le_refl _); clear hb1))
        | (go_at_call 8; (with_reducible refine (HF1.out _ hB).mono ?_); go_must (rintro e we ⟨rfl, hb1⟩; rw [F1.out]; (try replace c0 := kept c0 rfl hb1); (try replace c1 := kept c1 rfl hb1); (try replace c2 := kept c2 rfl hb1); replace hB := bstep hB hb1 (Nat.le_refl _); clear hb1))
        | (go_at_call 8; (with_reducible refine (HF2.out _ hB).mono ?_); go_must (rintro e we ⟨rfl, hb1⟩; rw [F2.out]; (try replace c0 := kept c0 rfl hb1); (try replace c1 := kept c1 rfl hb1); (try replace c2 := kept c2 rfl hb1); replace hB := bstep hB hb1 (Nat.le_refl _); clear hb1)))
    go_ret
    exact ⟨rfl, hB⟩
  · have F0 := Lib.hid h
    have F1 := Lib.hid h'
    have F2 := Lib.hid h''
    clear h h' h''
    go_enter Try.func6, Try.ntmps6
    go_wp2_with (first
        | (go_at_call 7; (with_reducible refine (first23_any _).mono ?_); go_must (rintro e wf ⟨rfl, hb1⟩; first | (have _t := c0; (try replace c0 := kept c0 rfl hb1); (try replace c1 := kept c1 rfl hb1); (try replace c2 := kept c2 rfl hb1); replace hB := bstep hB hb1 (Nat.le_refl _); clear hb1) | (have c2 := box5 hb1; rw [World.size_alloc, World.size_alloc] at c2; replace hb1 := bxd hb1; have c1 := box5 hb1; rw [World.size_alloc] at c1; replace hb1 := bxd hb1; have c0 := box5 hb1; replace hB := bxd hb1; clear hb1)))
        | (go_at_call 8; (with_reducible refine (HF0.out _ hB).mono ?_); go_must (rintro e we ⟨rfl, hb1⟩; rw [F0.out]; (try replace c0 := kept c0 rfl hb1); (try replace c1 := kept c1 rfl hb1); (try replace c2 := kept c2 rfl hb1); replace hB := bstep hB hb1 (Nat.le_refl _); clear hb1))
        | (go_at_call 8; (with_reducible refine (HF1.out _ hB).mono ?_); go_must (rintro e we ⟨rfl, hb1⟩; rw [F1.out]; (try replace c0 := kept c0 rfl hb1); (try replace c1 := kept c1 rfl hb1); (try replace c2 := kept c2 rfl hb1); replace hB := bstep hB hb1 (Nat.le_refl _); clear hb1))
        | (go_at_call 8; (with_reducible refine (HF2.out _ hB).mono ?_); go_must (rintro e we ⟨rfl, hb1⟩; rw [F2.out]; (try replace c0 := kept c0 rfl hb1); (try replace c1 := kept c1 rfl hb1); (try replace c2 := kept c2 rfl hb1); replace hB := bstep hB hb1 (Nat.le_refl _); clear hb1)))
    go_ret
    exact ⟨rfl, hB⟩
  · have F0 := Lib.hid h
    have F1 := Lib.hid h'
    have F2 := Lib.hid h''
    have h5 : (400 : Int) < (mn : Int) := by omega
    clear h h' h'' h4
    go_enter Try.func6, Try.ntmps6
    go_wp2_with (first
        | (go_at_call 7; (with_reducible refine (first23_any _).mono ?_); go_must (rintro e wf ⟨rfl, hb1⟩; first | (have _t := c0; (try replace c0 := kept c0 rfl hb1); (try replace c1 := kept c1 rfl hb1); (try replace c2 := kept c2 rfl hb1); replace hB := bstep hB hb1 (Nat.le_refl _); clear hb1) | (have c2 := box5 hb1; rw [World.size_alloc, World.size_alloc] at c2; replace hb1 := bxd hb1; have c1 := box5 hb1; rw [World.size_alloc] at c1; replace hb1 := bxd hb1; have c0 := box5 hb1; replace hB := bxd hb1; clear hb1)))
        | (go_at_call 8; (with_reducible refine (HF0.out _ hB).mono ?_); go_must (rintro e we ⟨rfl, hb1⟩; rw [F0.out]; (try replace c0 := kept c0 rfl hb1); (try replace c1 := kept c1 rfl hb1); (try replace c2 := kept c2 rfl hb1); replace hB := bstep hB hb1 (Nat.le_refl _); clear hb1))
        | (go_at_call 8; (with_reducible refine (HF1.out _ hB).mono ?_); go_must (rintro e we ⟨rfl, hb1⟩; rw [F1.out]; (try replace c0 := kept c0 rfl hb1); (try replace c1 := kept c1 rfl hb1); (try replace c2 := kept c2 rfl hb1); replace hB := bstep hB hb1 (Nat.le_refl _); clear hb1))
        | (go_at_call 8; (with_reducible refine (HF2.out _ hB).mono ?_); go_must (rintro e we ⟨rfl, hb1⟩; rw [F2.out]; (try replace c0 := kept c0 rfl hb1); (try replace c1 := kept c1 rfl hb1); (try replace c2 := kept c2 rfl hb1); replace hB := bstep hB hb1 (Nat.le_refl _); clear hb1)))
    go_ret
    exact ⟨rfl, hB⟩

theorem bools_eq (B n c B' n' c' : Nat) (A A' : Option Addr) (xs : List Bool) (w : World) (h : RdL w B A n xs) (h' : RdL w B' A' n' xs) (hn : n ≤ 1099511627776) :
    Calls Try.prog 10 #[.slice A n c, .slice A' n' c'] w fun e w' => e = .returned (.bool true) ∧ Below w.heap.size w w' := by
  refine (bools_any B n c B' n' c' A A' xs xs w h h' hn).mono ?_
  rintro e w1 ⟨rfl, hb⟩
  exact ⟨ret_bool (by simp), hb⟩
theorem ints_eq2 (B n c B' n' c' : Nat) (A A' : Option Addr) (xs : List Int) (w : World) (h : RdI w B A n xs) (h' : RdI w B' A' n' xs) (hn : n ≤ 1099511627776) :
    Calls Try.prog 15 #[.slice A n c, .slice A' n' c'] w fun e w' => e = .returned (.bool true) ∧ Below w.heap.size w w' := by
  refine (ints_any B n c B' n' c' A A' xs xs w h h' hn).mono ?_
  rintro e w1 ⟨rfl, hb⟩
  exact ⟨ret_bool (by simp), hb⟩

def mInv (o a b : Tr) (mn mc : Nat) (mA : Option Addr) (W : World) (B0 : Nat) (w0 : World) (f : Nat → Bool) (a0 : Act) (w : World) : Prop :=
  ∃ (c : Nat → Nat) (v : Nat → Value), a0 = ⟨#[.agg #[.int .i64 o.s.w, .int .i64 o.s.h, .int .i64 o.s.c, .int .i64 o.s.d, .slice o.A o.n o.c], .agg #[.int .i64 a.s.w, .int .i64 a.s.h, .int .i64 a.s.c, .int .i64 a.s.d, .slice a.A a.n a.c], .agg #[.int .i64 b.s.w, .int .i64 b.s.h, .int .i64 b.s.c, .int .i64 b.s.d, .slice b.A b.n b.c], .slice mA mn mc, .pointer (some ⟨W.heap.size, 0, none⟩), .pointer (some ⟨W.heap.size + 1, 0, none⟩), .pointer (some ⟨W.heap.size + 1 + 1, 0, none⟩), undef, .bool false, v 9, v 10, v 11, undef, undef, undef, undef, undef, undef, undef, undef, undef, undef, undef, undef, undef, undef, undef, undef, undef, .bool true, .bool false, .agg #[.int .i64 o.s.w, .int .i64 o.s.h, .int .i64 o.s.c, .int .i64 o.s.d, .slice o.A o.n o.c], .bool true, .bool false, .bool false, .agg #[.int .i64 a.s.w, .int .i64 a.s.h, .int .i64 a.s.c, .int .i64 a.s.d, .slice a.A a.n a.c], .bool true, .bool false, .bool false, .bool false, .agg #[.int .i64 b.s.w, .int .i64 b.s.h, .int .i64 b.s.c, .int .i64 b.s.d, .slice b.A b.n b.c], .bool true, .bool false, .bool false, .bool false, .slice mA mn mc, .int .i64 (mn : Int), .bool false, .bool false, undef, v 50, v 51, v 52, v 53, v 54, v 55, undef, undef, undef, undef, undef, undef, undef, undef, undef, undef, undef, undef, undef, undef, undef, undef, undef, undef, undef, undef, undef, undef, undef, undef, undef, undef, undef, undef, undef, undef, undef, undef, undef, undef, undef, undef, undef, undef, undef, undef, undef, undef, undef, undef, undef, undef, undef, undef, undef, undef, undef, undef, undef, undef, undef, undef, undef, undef, undef, undef, undef, undef, undef, undef, undef, undef, undef, undef, undef, undef, undef, undef, undef, undef, undef, undef, undef, undef, undef, undef, undef, undef, undef, undef, undef, undef, undef, undef, undef, undef, undef, undef, undef, undef, undef, undef, undef, undef, undef, undef, undef, undef, undef, undef, undef, undef, undef, undef, undef, undef, undef], []⟩ ∧
    (f 0 = true → v 50 = .agg #[.int .i64 o.s.w, .int .i64 o.s.h, .int .i64 o.s.c, .int .i64 o.s.d, .slice o.A o.n o.c]) ∧
    (f 1 = true → v 51 = .agg #[.int .i64 o.s.w, .int .i64 o.s.h, .int .i64 o.s.c, .int .i64 o.s.d, .slice o.A o.n o.c]) ∧
    (f 2 = true → v 52 = .agg #[.int .i64 a.s.w, .int .i64 a.s.h, .int .i64 a.s.c, .int .i64 a.s.d, .slice a.A a.n a.c]) ∧
    (f 3 = true → v 53 = .agg #[.int .i64 a.s.w, .int .i64 a.s.h, .int .i64 a.s.c, .int .i64 a.s.d, .slice a.A a.n a.c]) ∧
    (f 4 = true → v 54 = .agg #[.int .i64 b.s.w, .int .i64 b.s.h, .int .i64 b.s.c, .int .i64 b.s.d, .slice b.A b.n b.c]) ∧
    (f 5 = true → v 55 = .agg #[.int .i64 b.s.w, .int .i64 b.s.h, .int .i64 b.s.c, .int .i64 b.s.d, .slice b.A b.n b.c]) ∧
    (f 6 = true → v 9 = .pointer (some ⟨c 0, 0, none⟩) ∧ B0 ≤ c 0 ∧ c 0 < w.heap.size ∧ (∀ i, w.frozen? ⟨c 0, i, none⟩ = false) ∧ (f 9 = false → ∀ i, w.cell? ⟨c 0, i, none⟩ = r5 (.int .i64 0) (.int .i64 0) (.int .i64 0) (.int .i64 0) (.slice none 0 0) i)) ∧
    (f 7 = true → v 10 = .pointer (some ⟨c 1, 0, none⟩) ∧ B0 ≤ c 1 ∧ c 1 < w.heap.size ∧ (∀ i, w.frozen? ⟨c 1, i, none⟩ = false) ∧ (f 10 = false → ∀ i, w.cell? ⟨c 1, i, none⟩ = r5 (.int .i64 0) (.int .i64 0) (.int .i64 0) (.int .i64 0) (.slice none 0 0) i)) ∧
    (f 8 = true → v 11 = .pointer (some ⟨c 2, 0, none⟩) ∧ B0 ≤ c 2 ∧ c 2 < w.heap.size ∧ (∀ i, w.frozen? ⟨c 2, i, none⟩ = false) ∧ (f 11 = false → ∀ i, w.cell? ⟨c 2, i, none⟩ = r5 (.int .i64 0) (.int .i64 0) (.int .i64 0) (.int .i64 0) (.slice none 0 0) i)) ∧
    (f 9 = true → ∀ i, w.cell? ⟨c 0, i, none⟩ = r5 (.int .i64 o.s.w) (.int .i64 o.s.h) (.int .i64 o.s.c) (.int .i64 o.s.d) (.slice o.A o.n o.c) i) ∧
    (f 10 = true → ∀ i, w.cell? ⟨c 1, i, none⟩ = r5 (.int .i64 a.s.w) (.int .i64 a.s.h) (.int .i64 a.s.c) (.int .i64 a.s.d) (.slice a.A a.n a.c) i) ∧
    (f 11 = true → ∀ i, w.cell? ⟨c 2, i, none⟩ = r5 (.int .i64 b.s.w) (.int .i64 b.s.h) (.int .i64 b.s.c) (.int .i64 b.s.d) (.slice b.A b.n b.c) i) ∧
    (f 6 = true → f 7 = true → c 0 ≠ c 1) ∧
    (f 6 = true → f 8 = true → c 0 ≠ c 2) ∧
    (f 7 = true → f 8 = true → c 1 ≠ c 2) ∧
    (f 9 = true → f 6 = true) ∧
    (f 10 = true → f 7 = true) ∧
    (f 11 = true → f 8 = true) ∧
    Below B0 w0 w

set_option maxRecDepth 100000 in
set_option maxHeartbeats 12800000 in
theorem joinMerges_ok (o a b : Tr) (mn mc : Nat) (mA : Option Addr) (ml : List Bool) (w : World) (ho : RdT w w.heap.size o.A o.n o.ts) (co : o.n ≤ o.c) (mo : o.c ≤ maxLen) (ha : RdT w w.heap.size a.A a.n a.ts) (ca : a.n ≤ a.c) (ma : a.c ≤ maxLen) (hb : RdT w w.heap.size b.A b.n b.ts) (cb : b.n ≤ b.c) (mb : b.c ≤ maxLen) (h3 : RdL w w.heap.size mA mn ml) (c3 : mn ≤ mc) (m3 : mc ≤ maxLen) (f0 : fewT o.ts = true) (f1 : fewT a.ts = true) (f2 : fewT b.ts = true) (f3 : ¬ 400 < mn) :
    Calls Try.prog 6 #[o.s.r o.A o.n o.c, a.s.r a.A a.n a.c, b.s.r b.A b.n b.c, .slice mA mn mc] w fun e w' => e = .returned (.bool true) ∧ Below w.heap.size w w' := by
  have hB := Below.refl w.heap.size w
  have HF0 := Lib.hid (fun (w' : World) (h : Below w.heap.size w w') => fewTree_any o.s w.heap.size o.n o.c o.A o.ts w' (ho.blw h) h.size co mo)
  have HF1 := Lib.hid (fun (w' : World) (h : Below w.heap.size w w') => fewTree_any a.s w.heap.size a.n a.c a.A a.ts w' (ha.blw h) h.size ca ma)
  have HF2 := Lib.hid (fun (w' : World) (h : Below w.heap.size w w') => fewTree_any b.s w.heap.size b.n b.c b.A b.ts w' (hb.blw h) h.size cb mb)
  have F0 := Lib.hid f0
  have F1 := Lib.hid f1
  have F2 := Lib.hid f2
  have h4 : decide ((400 : Int) < (mn : Int)) = false := by simp; omega
  have so := (fewT_yes f0).2
  have sa := (fewT_yes f1).2
  have sb := (fewT_yes f2).2
  have ko : ∀ w', Below w.heap.size w w' → o.ok w' w.heap.size := fun w' h => ⟨ho.blw h, co, mo, so⟩
  have ka : ∀ w', Below w.heap.size w w' → a.ok w' w.heap.size := fun w' h => ⟨ha.blw h, ca, ma, sa⟩
  have kb : ∀ w', Below w.heap.size w w' → b.ok w' w.heap.size := fun w' h => ⟨hb.blw h, cb, mb, sb⟩
  have la := ha.len
  have n9 : a.n ≤ 300 := by have := (fewT_yes f1).1; omega
  have HC := Lib.hid (fun (w' : World) (h : Below w.heap.size w w') => copyT_any w.heap.size a.n a.c a.A a.ts w' (ha.blw h) (by omega))
  have kin : ∀ (w' : World) (A1 : Option Addr) (k1 : Nat), RdT w' w'.heap.size A1 a.n a.ts → a.n ≤ k1 → k1 ≤ maxLen → Tr.ok w' w'.heap.size ⟨a.s, A1, a.n, k1, a.ts⟩ := fun w' A1 k1 r h1 h2 => ⟨r, h1, h2, sa⟩
  have HMG := Lib.hid (fun (w' : World) (h : Below w.heap.size w w') (A1 : Option Addr) (k1 : Nat) (r : RdT w' w'.heap.size A1 a.n a.ts) (h1 : a.n ≤ k1) (h2 : k1 ≤ maxLen) => (show Calls Try.prog 9 #[o.s.r o.A o.n o.c, a.s.r A1 a.n k1, b.s.r b.A b.n b.c] w' (MgPost o a b w') from merge_any o ⟨a.s, A1, a.n, k1, a.ts⟩ b w'.heap.size w' ((ko w' h).more h.size) (kin w' A1 k1 r h1 h2) ((kb w' h).more h.size) (Nat.le_refl _)))
  have HMG17 := Lib.hid (fun (w' : World) (h : Below w.heap.size w w') => merge17_any o a b w.heap.size w' (ko w' h) (ka w' h) (kb w' h) h.size)
  have HRS := Lib.hid (fun (w' : World) (h : Below w.heap.size w w') (A1 : Option Addr) (k1 : Nat) (r : RdT w' w'.heap.size A1 a.n a.ts) (h1 : a.n ≤ k1) (h2 : k1 ≤ maxLen) => (show Calls Try.prog 17 #[a.s.r A1 a.n k1, .slice mA mn mc, b.s.r b.A b.n b.c] w' (RsPost a b mn ml w') from resolve_any ⟨a.s, A1, a.n, k1, a.ts⟩ b w'.heap.size mn mc mA ml w' (kin w' A1 k1 r h1 h2) ((kb w' h).more h.size) (Nat.le_refl _) ((h3.blw h).more h.size) c3 m3))
  have HRS17 := Lib.hid (fun (w' : World) (h : Below w.heap.size w w') => resolve17_any a b w.heap.size mn mc mA ml w' (ka w' h) (kb w' h) h.size (h3.blw h) c3 m3)
  have HCH := Lib.hid (fun (w' : World) (h : Below w.heap.size w w') (A1 : Option Addr) (k1 : Nat) (r : RdT w' w'.heap.size A1 a.n a.ts) (h1 : a.n ≤ k1) (h2 : k1 ≤ maxLen) => (show Calls Try.prog 14 #[a.s.r A1 a.n k1, b.s.r b.A b.n b.c] w' fun e w1 => ∃ A n c, e = .returned (.tuple #[.slice A n c, .int .i64 (wrongT [a, b])]) ∧ n = (chgR a b).length ∧ ownI w1 w'.heap.size (.slice A n c) (chgR a b) ∧ Below w'.heap.size w' w1 from changed_any ⟨a.s, A1, a.n, k1, a.ts⟩ b w'.heap.size w' (kin w' A1 k1 r h1 h2) ((kb w' h).more h.size) (Nat.le_refl _)))
  have HDF := Lib.hid (fun (w' : World) (h : Below w.heap.size w w') => differ_any a b w.heap.size w' (ka w' h) (kb w' h) h.size)
  have HCL := Lib.hid (fun (w' : World) (h : Below w.heap.size w w') => clean_any w.heap.size mn mc mA ml w' (h3.blw h) (by omega))
  have HCL17 := Lib.hid (fun (w' : World) (h : Below w.heap.size w w') => clean17_any w.heap.size mn mc mA ml w' (h3.blw h) (by omega))
  have HA := Lib.hid ha
  have LK := Lib.hid (mgK_le o a b la)
  have LM := Lib.hid (mgM_le o a b la)
  have LR := Lib.hid (rsL_le a b mn ml la)
  have LC := Lib.hid (chgR_len a b)
  unfold MgPost at HMG HMG17
  unfold RsPost at HRS HRS17
  generalize mgS o a b = ms at HMG HMG17
  generalize mgK o a b = mk at HMG HMG17 LK
  generalize mgM o a b = mm at HMG HMG17 LM
  generalize wrongT [o, a, b] = EE at HMG HMG17
  generalize rsS a b mn = rs at HRS HRS17
  generalize rsL a b mn ml = rl at HRS HRS17 LR
  generalize resE a b mn = RE at HRS HRS17
  generalize wrongT [a, b] = DE at HCH HDF
  generalize chgR a b = dl at HCH HDF LC
  clear so sa sb ko ka kb kin la ho ha hb h3 f0 f1 f2
  dsimp only [Sh.r] at *
  go_enter Try.func6, Try.ntmps6
  go_upto_region 5 with (first
      | (go_at_call 7; (with_reducible refine (first23_any _).mono ?_); go_must (rintro e wf ⟨rfl, hb1⟩; first | (have _t := c0; (try replace c0 := kept c0 rfl hb1); (try replace c1 := kept c1 rfl hb1); (try replace c2 := kept c2 rfl hb1); replace hB := bstep hB hb1 (Nat.le_refl _); clear hb1) | (have c2 := box5 hb1; rw [World.size_alloc, World.size_alloc] at c2; replace hb1 := bxd hb1; have c1 := box5 hb1; rw [World.size_alloc] at c1; replace hb1 := bxd hb1; have c0 := box5 hb1; replace hB := bxd hb1; clear hb1)))
      | (go_at_call 8; (with_reducible refine (HF0.out _ hB).mono ?_); go_must (rintro e we ⟨rfl, hb1⟩; rw [F0.out]; (try replace c0 := kept c0 rfl hb1); (try replace c1 := kept c1 rfl hb1); (try replace c2 := kept c2 rfl hb1); replace hB := bstep hB hb1 (Nat.le_refl _); clear hb1))
      | (go_at_call 8; (with_reducible refine (HF1.out _ hB).mono ?_); go_must (rintro e we ⟨rfl, hb1⟩; rw [F1.out]; (try replace c0 := kept c0 rfl hb1); (try replace c1 := kept c1 rfl hb1); (try replace c2 := kept c2 rfl hb1); replace hB := bstep hB hb1 (Nat.le_refl _); clear hb1))
      | (go_at_call 8; (with_reducible refine (HF2.out _ hB).mono ?_); go_must (rintro e we ⟨rfl, hb1⟩; rw [F2.out]; (try replace c0 := kept c0 rfl hb1); (try replace c1 := kept c1 rfl hb1); (try replace c2 := kept c2 rfl hb1); replace hB := bstep hB hb1 (Nat.le_refl _); clear hb1)))
  have l0 := ltOf c0 rfl
  have l1 := ltOf c1 rfl
  have l2 := ltOf c2 rfl
  go_cut [9, 10, 11] (fun q9 q10 q11 wc => ∃ x0 x1 x2 : Nat, q9 = .pointer (some ⟨x0, 0, none⟩) ∧ q10 = .pointer (some ⟨x1, 0, none⟩) ∧ q11 = .pointer (some ⟨x2, 0, none⟩) ∧ (∀ i, wc.cell? ⟨x0, i, none⟩ = r5 (.int .i64 o.s.w) (.int .i64 o.s.h) (.int .i64 o.s.c) (.int .i64 o.s.d) (.slice o.A o.n o.c) i) ∧ (∀ i, wc.cell? ⟨x1, i, none⟩ = r5 (.int .i64 a.s.w) (.int .i64 a.s.h) (.int .i64 a.s.c) (.int .i64 a.s.d) (.slice a.A a.n a.c) i) ∧ (∀ i, wc.cell? ⟨x2, i, none⟩ = r5 (.int .i64 b.s.w) (.int .i64 b.s.h) (.int .i64 b.s.c) (.int .i64 b.s.d) (.slice b.A b.n b.c) i) ∧ Below we.heap.size we wc)
  case first =>
    as_aux_lemma =>
      refine wp_region_inv2 (by kernel_rfl) (by kernel_rfl) (mInv o a b mn mc mA w we.heap.size we) ?_ ?_ ?_
      · exact ⟨fun _ => 0, fun _ => undef, rfl, (fun h => by cases h), (fun h => by cases h), (fun h => by cases h), (fun h => by cases h), (fun h => by cases h), (fun h => by cases h), (fun h => by cases h), (fun h => by cases h), (fun h => by cases h), (fun h => by cases h), (fun h => by cases h), (fun h => by cases h), (fun h => by cases h), (fun h => by cases h), (fun h => by cases h), (fun h => by cases h), (fun h => by cases h), (fun h => by cases h), Below.drew (Below.refl _ _)⟩
      · intro f a0 w' i hi0 hf he hI
        have hi : i < 12 := hi0
        clear hi0
        obtain ⟨c, v, rfl, p0, p1, p2, p3, p4, p5, p6, p7, p8, p9, p10, p11, q01, q02, q12, d9, d10, d11, hBw⟩ := hI
        have hBs : we.heap.size ≤ we.heap.size := Nat.le_refl _
        replace p0 := Lib.hid p0
        replace p1 := Lib.hid p1
        replace p2 := Lib.hid p2
        replace p3 := Lib.hid p3
        replace p4 := Lib.hid p4
        replace p5 := Lib.hid p5
        replace p6 := Lib.hid p6
        replace p7 := Lib.hid p7
        replace p8 := Lib.hid p8
        replace p9 := Lib.hid p9
        replace p10 := Lib.hid p10
        replace p11 := Lib.hid p11
        replace q01 := Lib.hid q01
        replace q02 := Lib.hid q02
        replace q12 := Lib.hid q12
        replace d9 := Lib.hid d9
        replace d10 := Lib.hid d10
        replace d11 := Lib.hid d11
        clear hB
        have hi' : i = 0 ∨ i = 1 ∨ i = 2 ∨ i = 3 ∨ i = 4 ∨ i = 5 ∨ i = 6 ∨ i = 7 ∨ i = 8 ∨ i = 9 ∨ i = 10 ∨ i = 11 := by omega
        clear hi
        rcases hi' with rfl | rfl | rfl | rfl | rfl | rfl | rfl | rfl | rfl | rfl | rfl | rfl
        · clear he
          refine wpOp_plainK rfl rfl (fun K HK => ?_)
          have cc := kBl5 hBw l0 c0
          go_simp
          exact HK.out _ _ ⟨c, (fun k => if k = 50 then .agg #[.int .i64 o.s.w, .int .i64 o.s.h, .int .i64 o.s.c, .int .i64 o.s.d, .slice o.A o.n o.c] else v k), rfl, fun _ => rfl, p1.out, p2.out, p3.out, p4.out, p5.out, p6.out, p7.out, p8.out, p9.out, p10.out, p11.out, q01.out, q02.out, q12.out, d9.out, d10.out, d11.out, hBw⟩
        · have f0 : f 0 = true := he 0 (by kernel_rfl)
          have r0 := p0.out f0
          clear he
          refine wpOp_plainK rfl rfl (fun K HK => ?_)
          rw [r0]
          clear r0
          go_simp
          refine (tree_at _ _ _ _ _ _ _ _).mono ?_
          rintro e wx ⟨rfl, hb⟩
          exact HK.out _ _ ⟨c, (fun k => if k = 51 then .agg #[.int .i64 o.s.w, .int .i64 o.s.h, .int .i64 o.s.c, .int .i64 o.s.d, .slice o.A o.n o.c] else (fun k => if k = 50 then .agg #[.int .i64 o.s.w, .int .i64 o.s.h, .int .i64 o.s.c, .int .i64 o.s.d, .slice o.A o.n o.c] else v k) k), rfl, fun _ => rfl, fun _ => rfl, p2.out, p3.out, p4.out, p5.out, fun h => ⟨(p6.out h).1, (p6.out h).2.1, Nat.lt_of_lt_of_le (p6.out h).2.2.1 hb.size, keptF (p6.out h).2.2.1 (p6.out h).2.2.2.1 hb, fun h2 => kX5 hb ((p6.out h).2.2.2.2 h2)⟩, fun h => ⟨(p7.out h).1, (p7.out h).2.1, Nat.lt_of_lt_of_le (p7.out h).2.2.1 hb.size, keptF (p7.out h).2.2.1 (p7.out h).2.2.2.1 hb, fun h2 => kX5 hb ((p7.out h).2.2.2.2 h2)⟩, fun h => ⟨(p8.out h).1, (p8.out h).2.1, Nat.lt_of_lt_of_le (p8.out h).2.2.1 hb.size, keptF (p8.out h).2.2.1 (p8.out h).2.2.2.1 hb, fun h2 => kX5 hb ((p8.out h).2.2.2.2 h2)⟩, fun h => kX5 hb (p9.out h), fun h => kX5 hb (p10.out h), fun h => kX5 hb (p11.out h), q01.out, q02.out, q12.out, d9.out, d10.out, d11.out, hBw.trans (hb.mono (Nat.le_trans hBs hBw.size))⟩
        · clear he
          refine wpOp_plainK rfl rfl (fun K HK => ?_)
          have cc := kBl5 hBw l1 c1
          go_simp
          exact HK.out _ _ ⟨c, (fun k => if k = 52 then .agg #[.int .i64 a.s.w, .int .i64 a.s.h, .int .i64 a.s.c, .int .i64 a.s.d, .slice a.A a.n a.c] else v k), rfl, p0.out, p1.out, fun _ => rfl, p3.out, p4.out, p5.out, p6.out, p7.out, p8.out, p9.out, p10.out, p11.out, q01.out, q02.out, q12.out, d9.out, d10.out, d11.out, hBw⟩
        · have f2 : f 2 = true := he 2 (by kernel_rfl)
          have r2 := p2.out f2
          clear he
          refine wpOp_plainK rfl rfl (fun K HK => ?_)
          rw [r2]
          clear r2
          go_simp
          refine (tree_at _ _ _ _ _ _ _ _).mono ?_
          rintro e wx ⟨rfl, hb⟩
          exact HK.out _ _ ⟨c, (fun k => if k = 53 then .agg #[.int .i64 a.s.w, .int .i64 a.s.h, .int .i64 a.s.c, .int .i64 a.s.d, .slice a.A a.n a.c] else (fun k => if k = 52 then .agg #[.int .i64 a.s.w, .int .i64 a.s.h, .int .i64 a.s.c, .int .i64 a.s.d, .slice a.A a.n a.c] else v k) k), rfl, p0.out, p1.out, fun _ => rfl, fun _ => rfl, p4.out, p5.out, fun h => ⟨(p6.out h).1, (p6.out h).2.1, Nat.lt_of_lt_of_le (p6.out h).2.2.1 hb.size, keptF (p6.out h).2.2.1 (p6.out h).2.2.2.1 hb, fun h2 => kX5 hb ((p6.out h).2.2.2.2 h2)⟩, fun h => ⟨(p7.out h).1, (p7.out h).2.1, Nat.lt_of_lt_of_le (p7.out h).2.2.1 hb.size, keptF (p7.out h).2.2.1 (p7.out h).2.2.2.1 hb, fun h2 => kX5 hb ((p7.out h).2.2.2.2 h2)⟩, fun h => ⟨(p8.out h).1, (p8.out h).2.1, Nat.lt_of_lt_of_le (p8.out h).2.2.1 hb.size, keptF (p8.out h).2.2.1 (p8.out h).2.2.2.1 hb, fun h2 => kX5 hb ((p8.out h).2.2.2.2 h2)⟩, fun h => kX5 hb (p9.out h), fun h => kX5 hb (p10.out h), fun h => kX5 hb (p11.out h), q01.out, q02.out, q12.out, d9.out, d10.out, d11.out, hBw.trans (hb.mono (Nat.le_trans hBs hBw.size))⟩
        · clear he
          refine wpOp_plainK rfl rfl (fun K HK => ?_)
          have cc := kBl5 hBw l2 c2
          go_simp
          exact HK.out _ _ ⟨c, (fun k => if k = 54 then .agg #[.int .i64 b.s.w, .int .i64 b.s.h, .int .i64 b.s.c, .int .i64 b.s.d, .slice b.A b.n b.c] else v k), rfl, p0.out, p1.out, p2.out, p3.out, fun _ => rfl, p5.out, p6.out, p7.out, p8.out, p9.out, p10.out, p11.out, q01.out, q02.out, q12.out, d9.out, d10.out, d11.out, hBw⟩
        · have f4 : f 4 = true := he 4 (by kernel_rfl)
          have r4 := p4.out f4
          clear he
          refine wpOp_plainK rfl rfl (fun K HK => ?_)
          rw [r4]
          clear r4
          go_simp
          refine (tree_at _ _ _ _ _ _ _ _).mono ?_
          rintro e wx ⟨rfl, hb⟩
          exact HK.out _ _ ⟨c, (fun k => if k = 55 then .agg #[.int .i64 b.s.w, .int .i64 b.s.h, .int .i64 b.s.c, .int .i64 b.s.d, .slice b.A b.n b.c] else (fun k => if k = 54 then .agg #[.int .i64 b.s.w, .int .i64 b.s.h, .int .i64 b.s.c, .int .i64 b.s.d, .slice b.A b.n b.c] else v k) k), rfl, p0.out, p1.out, p2.out, p3.out, fun _ => rfl, fun _ => rfl, fun h => ⟨(p6.out h).1, (p6.out h).2.1, Nat.lt_of_lt_of_le (p6.out h).2.2.1 hb.size, keptF (p6.out h).2.2.1 (p6.out h).2.2.2.1 hb, fun h2 => kX5 hb ((p6.out h).2.2.2.2 h2)⟩, fun h => ⟨(p7.out h).1, (p7.out h).2.1, Nat.lt_of_lt_of_le (p7.out h).2.2.1 hb.size, keptF (p7.out h).2.2.1 (p7.out h).2.2.2.1 hb, fun h2 => kX5 hb ((p7.out h).2.2.2.2 h2)⟩, fun h => ⟨(p8.out h).1, (p8.out h).2.1, Nat.lt_of_lt_of_le (p8.out h).2.2.1 hb.size, keptF (p8.out h).2.2.1 (p8.out h).2.2.2.1 hb, fun h2 => kX5 hb ((p8.out h).2.2.2.2 h2)⟩, fun h => kX5 hb (p9.out h), fun h => kX5 hb (p10.out h), fun h => kX5 hb (p11.out h), q01.out, q02.out, q12.out, d9.out, d10.out, d11.out, hBw.trans (hb.mono (Nat.le_trans hBs hBw.size))⟩
        · clear he
          refine wpOp_plainK rfl rfl (fun K HK => ?_)
          go_simp
          exact HK.out _ _ ⟨(fun k => if k = 0 then w'.heap.size else c k), (fun k => if k = 9 then .pointer (some ⟨w'.heap.size, 0, none⟩) else v k), rfl, p0.out, p1.out, p2.out, p3.out, p4.out, p5.out, fun _ => ⟨rfl, Nat.le_trans hBs hBw.size, (by rw [World.size_alloc]; exact Nat.lt_succ_self _), new_fz w' _ _, fun _ => new5 w' _ _ _ _ _ _ _⟩, fun h => ⟨(p7.out h).1, (p7.out h).2.1, (by rw [World.size_alloc]; exact Nat.lt_succ_of_lt (p7.out h).2.2.1), keptFA (p7.out h).2.2.1 (p7.out h).2.2.2.1 _, fun h2 => kA5 ((p7.out h).2.2.2.2 h2) _⟩, fun h => ⟨(p8.out h).1, (p8.out h).2.1, (by rw [World.size_alloc]; exact Nat.lt_succ_of_lt (p8.out h).2.2.1), keptFA (p8.out h).2.2.1 (p8.out h).2.2.2.1 _, fun h2 => kA5 ((p8.out h).2.2.2.2 h2) _⟩, fun h => absurd (d9.out h) (by rw [hf]; decide), fun h => kA5 (p10.out h) _, fun h => kA5 (p11.out h) _, fun _ h => Ne.symm (Nat.ne_of_lt (p7.out h).2.2.1), fun _ h => Ne.symm (Nat.ne_of_lt (p8.out h).2.2.1), q12.out, fun _ => rfl, d10.out, d11.out, Below.alloc hBw (Nat.le_trans hBs hBw.size) _⟩
        · clear he
          refine wpOp_plainK rfl rfl (fun K HK => ?_)
          go_simp
          exact HK.out _ _ ⟨(fun k => if k = 1 then w'.heap.size else c k), (fun k => if k = 10 then .pointer (some ⟨w'.heap.size, 0, none⟩) else v k), rfl, p0.out, p1.out, p2.out, p3.out, p4.out, p5.out, fun h => ⟨(p6.out h).1, (p6.out h).2.1, (by rw [World.size_alloc]; exact Nat.lt_succ_of_lt (p6.out h).2.2.1), keptFA (p6.out h).2.2.1 (p6.out h).2.2.2.1 _, fun h2 => kA5 ((p6.out h).2.2.2.2 h2) _⟩, fun _ => ⟨rfl, Nat.le_trans hBs hBw.size, (by rw [World.size_alloc]; exact Nat.lt_succ_self _), new_fz w' _ _, fun _ => new5 w' _ _ _ _ _ _ _⟩, fun h => ⟨(p8.out h).1, (p8.out h).2.1, (by rw [World.size_alloc]; exact Nat.lt_succ_of_lt (p8.out h).2.2.1), keptFA (p8.out h).2.2.1 (p8.out h).2.2.2.1 _, fun h2 => kA5 ((p8.out h).2.2.2.2 h2) _⟩, fun h => kA5 (p9.out h) _, fun h => absurd (d10.out h) (by rw [hf]; decide), fun h => kA5 (p11.out h) _, fun h _ => Nat.ne_of_lt (p6.out h).2.2.1, q02.out, fun _ h => Ne.symm (Nat.ne_of_lt (p8.out h).2.2.1), d9.out, fun _ => rfl, d11.out, Below.alloc hBw (Nat.le_trans hBs hBw.size) _⟩
        · clear he
          refine wpOp_plainK rfl rfl (fun K HK => ?_)
          go_simp
          exact HK.out _ _ ⟨(fun k => if k = 2 then w'.heap.size else c k), (fun k => if k = 11 then .pointer (some ⟨w'.heap.size, 0, none⟩) else v k), rfl, p0.out, p1.out, p2.out, p3.out, p4.out, p5.out, fun h => ⟨(p6.out h).1, (p6.out h).2.1, (by rw [World.size_alloc]; exact Nat.lt_succ_of_lt (p6.out h).2.2.1), keptFA (p6.out h).2.2.1 (p6.out h).2.2.2.1 _, fun h2 => kA5 ((p6.out h).2.2.2.2 h2) _⟩, fun h => ⟨(p7.out h).1, (p7.out h).2.1, (by rw [World.size_alloc]; exact Nat.lt_succ_of_lt (p7.out h).2.2.1), keptFA (p7.out h).2.2.1 (p7.out h).2.2.2.1 _, fun h2 => kA5 ((p7.out h).2.2.2.2 h2) _⟩, fun _ => ⟨rfl, Nat.le_trans hBs hBw.size, (by rw [World.size_alloc]; exact Nat.lt_succ_self _), new_fz w' _ _, fun _ => new5 w' _ _ _ _ _ _ _⟩, fun h => kA5 (p9.out h) _, fun h => kA5 (p10.out h) _, fun h => absurd (d11.out h) (by rw [hf]; decide), q01.out, fun h _ => Nat.ne_of_lt (p6.out h).2.2.1, fun h _ => Nat.ne_of_lt (p7.out h).2.2.1, d9.out, d10.out, fun _ => rfl, Below.alloc hBw (Nat.le_trans hBs hBw.size) _⟩
        · have f6 : f 6 = true := he 6 (by kernel_rfl)
          have f1 : f 1 = true := he 1 (by kernel_rfl)
          have r6 := p6.out f6
          have r1 := p1.out f1
          clear he
          refine wpOp_plainK rfl rfl (fun K HK => ?_)
          have cc := (r6.2.2.2.2 hf)
          have ff := r6.2.2.2.1
          have hge := r6.2.1
          rw [r6.1, r1]
          clear r6 r1
          go_simp
          exact HK.out _ _ ⟨c, (fun k => if k = 51 then .agg #[.int .i64 o.s.w, .int .i64 o.s.h, .int .i64 o.s.c, .int .i64 o.s.d, .slice o.A o.n o.c] else (fun k => if k = 9 then .pointer (some ⟨c 0, 0, none⟩) else v k) k), rfl, p0.out, fun _ => rfl, p2.out, p3.out, p4.out, p5.out, fun h => ⟨rfl, (p6.out h).2.1, by simpa using (p6.out h).2.2.1, keptF5 (p6.out h).2.2.2.1 _ _ _ _ _, fun h2 => absurd h2 (by simp)⟩, fun h => ⟨(p7.out h).1, (p7.out h).2.1, by simpa using (p7.out h).2.2.1, keptF5 (p7.out h).2.2.2.1 _ _ _ _ _, fun h2 => keptS5 ((p7.out h).2.2.2.2 h2) (Ne.symm (q01.out f6 h)) _ _ _ _ _⟩, fun h => ⟨(p8.out h).1, (p8.out h).2.1, by simpa using (p8.out h).2.2.1, keptF5 (p8.out h).2.2.2.1 _ _ _ _ _, fun h2 => keptS5 ((p8.out h).2.2.2.2 h2) (Ne.symm (q02.out f6 h)) _ _ _ _ _⟩, fun _ => set5 cc _ _ _ _ _, fun h => keptS5 (p10.out h) (fun e => absurd e (Ne.symm (q01.out f6 (d10.out h)))) _ _ _ _ _, fun h => keptS5 (p11.out h) (fun e => absurd e (Ne.symm (q02.out f6 (d11.out h)))) _ _ _ _ _, q01.out, q02.out, q12.out, fun _ => f6, d10.out, d11.out, Below.set5 hBw hge _ _ _ _ _⟩
        · have f7 : f 7 = true := he 7 (by kernel_rfl)
          have f3 : f 3 = true := he 3 (by kernel_rfl)
          have r7 := p7.out f7
          have r3 := p3.out f3
          clear he
          refine wpOp_plainK rfl rfl (fun K HK => ?_)
          have cc := (r7.2.2.2.2 hf)
          have ff := r7.2.2.2.1
          have hge := r7.2.1
          rw [r7.1, r3]
          clear r7 r3
          go_simp
          exact HK.out _ _ ⟨c, (fun k => if k = 53 then .agg #[.int .i64 a.s.w, .int .i64 a.s.h, .int .i64 a.s.c, .int .i64 a.s.d, .slice a.A a.n a.c] else (fun k => if k = 10 then .pointer (some ⟨c 1, 0, none⟩) else v k) k), rfl, p0.out, p1.out, p2.out, fun _ => rfl, p4.out, p5.out, fun h => ⟨(p6.out h).1, (p6.out h).2.1, by simpa using (p6.out h).2.2.1, keptF5 (p6.out h).2.2.2.1 _ _ _ _ _, fun h2 => keptS5 ((p6.out h).2.2.2.2 h2) (q01.out h f7) _ _ _ _ _⟩, fun h => ⟨rfl, (p7.out h).2.1, by simpa using (p7.out h).2.2.1, keptF5 (p7.out h).2.2.2.1 _ _ _ _ _, fun h2 => absurd h2 (by simp)⟩, fun h => ⟨(p8.out h).1, (p8.out h).2.1, by simpa using (p8.out h).2.2.1, keptF5 (p8.out h).2.2.2.1 _ _ _ _ _, fun h2 => keptS5 ((p8.out h).2.2.2.2 h2) (Ne.symm (q12.out f7 h)) _ _ _ _ _⟩, fun h => keptS5 (p9.out h) (fun e => absurd e (q01.out (d9.out h) f7)) _ _ _ _ _, fun _ => set5 cc _ _ _ _ _, fun h => keptS5 (p11.out h) (fun e => absurd e (Ne.symm (q12.out f7 (d11.out h)))) _ _ _ _ _, q01.out, q02.out, q12.out, d9.out, fun _ => f7, d11.out, Below.set5 hBw hge _ _ _ _ _⟩
        · have f8 : f 8 = true := he 8 (by kernel_rfl)
          have f5 : f 5 = true := he 5 (by kernel_rfl)
          have r8 := p8.out f8
          have r5 := p5.out f5
          clear he
          refine wpOp_plainK rfl rfl (fun K HK => ?_)
          have cc := (r8.2.2.2.2 hf)
          have ff := r8.2.2.2.1
          have hge := r8.2.1
          rw [r8.1, r5]
          clear r8 r5
          go_simp
          exact HK.out _ _ ⟨c, (fun k => if k = 55 then .agg #[.int .i64 b.s.w, .int .i64 b.s.h, .int .i64 b.s.c, .int .i64 b.s.d, .slice b.A b.n b.c] else (fun k => if k = 11 then .pointer (some ⟨c 2, 0, none⟩) else v k) k), rfl, p0.out, p1.out, p2.out, p3.out, p4.out, fun _ => rfl, fun h => ⟨(p6.out h).1, (p6.out h).2.1, by simpa using (p6.out h).2.2.1, keptF5 (p6.out h).2.2.2.1 _ _ _ _ _, fun h2 => keptS5 ((p6.out h).2.2.2.2 h2) (q02.out h f8) _ _ _ _ _⟩, fun h => ⟨(p7.out h).1, (p7.out h).2.1, by simpa using (p7.out h).2.2.1, keptF5 (p7.out h).2.2.2.1 _ _ _ _ _, fun h2 => keptS5 ((p7.out h).2.2.2.2 h2) (q12.out h f8) _ _ _ _ _⟩, fun h => ⟨rfl, (p8.out h).2.1, by simpa using (p8.out h).2.2.1, keptF5 (p8.out h).2.2.2.1 _ _ _ _ _, fun h2 => absurd h2 (by simp)⟩, fun h => keptS5 (p9.out h) (fun e => absurd e (q02.out (d9.out h) f8)) _ _ _ _ _, fun h => keptS5 (p10.out h) (fun e => absurd e (q12.out (d10.out h) f8)) _ _ _ _ _, fun _ => set5 cc _ _ _ _ _, q01.out, q02.out, q12.out, d9.out, d10.out, fun _ => f8, Below.set5 hBw hge _ _ _ _ _⟩
      · intro f a0 w' hf hI
        obtain ⟨c, v, rfl, p0, p1, p2, p3, p4, p5, p6, p7, p8, p9, p10, p11, q01, q02, q12, d9, d10, d11, hBw⟩ := hI
        have HR : Hid (∃ x0 x1 x2 : Nat, v 9 = .pointer (some ⟨x0, 0, none⟩) ∧ v 10 = .pointer (some ⟨x1, 0, none⟩) ∧ v 11 = .pointer (some ⟨x2, 0, none⟩) ∧ (∀ i, w'.cell? ⟨x0, i, none⟩ = r5 (.int .i64 o.s.w) (.int .i64 o.s.h) (.int .i64 o.s.c) (.int .i64 o.s.d) (.slice o.A o.n o.c) i) ∧ (∀ i, w'.cell? ⟨x1, i, none⟩ = r5 (.int .i64 a.s.w) (.int .i64 a.s.h) (.int .i64 a.s.c) (.int .i64 a.s.d) (.slice a.A a.n a.c) i) ∧ (∀ i, w'.cell? ⟨x2, i, none⟩ = r5 (.int .i64 b.s.w) (.int .i64 b.s.h) (.int .i64 b.s.c) (.int .i64 b.s.d) (.slice b.A b.n b.c) i) ∧ Below we.heap.size we w') :=
          ⟨c 0, c 1, c 2, (p6 (hf 6 (by decide))).1, (p7 (hf 7 (by decide))).1, (p8 (hf 8 (by decide))).1, p9 (hf 9 (by decide)), p10 (hf 10 (by decide)), p11 (hf 11 (by decide)), hBw⟩
        clear p0 p1 p2 p3 p4 p5 p6 p7 p8 p9 p10 p11 q01 q02 q12 d9 d10 d11 hBw hf
        go_wp2_with fail
        go_meet
        case rel => exact HR.out
  case rest =>
  obtain ⟨x0, x1, x2, rfl, rfl, rfl, b9, b10, b11, hX⟩ := hcut
  replace c0 := kX5 hX c0
  replace c1 := kX5 hX c1
  replace c2 := kX5 hX c2
  replace hB := bstep hB hX (Nat.le_refl _)
  clear hX l0 l1 l2
  obtain ⟨V, hV⟩ : ∃ V : World, V = wc := ⟨_, rfl⟩
  subst hV
  have lc0 := ltOf c0 rfl
  have lc1 := ltOf c1 rfl
  have lc2 := ltOf c2 rfl
  have lb9 := ltOf b9 rfl
  have lb10 := ltOf b10 rfl
  have lb11 := ltOf b11 rfl
  go_upto_region 6 with (fail)
  go_cut [12] (fun q wc => ∃ gt A1 k1, q = .pointer (some ⟨gt, 0, none⟩) ∧ (∀ i, wc.cell? ⟨gt, i, none⟩ = r5 (.int .i64 a.s.w) (.int .i64 a.s.h) (.int .i64 a.s.c) (.int .i64 a.s.d) (.slice A1 a.n k1) i) ∧ Hid (ownT wc V.heap.size (.slice A1 a.n k1) a.ts) ∧ V.heap.size ≤ gt ∧ Below V.heap.size V wc)
  case first =>
    clear b9 b10 b11 lb9 lb10 lb11 HMG HMG17 HRS HRS17 HCH HDF HCL HCL17 HF0 HF1 HF2 LK LM LR LC c0 c2 lc0 lc2
    go_region_held3 (fun w' => ∀ i, w'.cell? ⟨w.heap.size + 1, i, none⟩ = r5 (.int .i64 a.s.w) (.int .i64 a.s.h) (.int .i64 a.s.c) (.int .i64 a.s.d) (.slice a.A a.n a.c) i)
      (first | (with_reducible exact c1) | (repeat (first | with_reducible exact c1 | ((with_reducible refine keptS5 ?_ ?_ _ _ _ _ _); rotate_left 1; omega) | (with_reducible refine kD5 ?_) | (with_reducible refine kA5 ?_ _) | (with_reducible refine kX5 hb3 ?_) | (with_reducible refine kDX5 hb3 ?_))))
      (first | (go_at_call 18; (first | (with_reducible refine (HC.out _ (Below.drew hB)).mono ?_) | (with_reducible refine (HC.out _ (Below.drew (bal hB _))).mono ?_)); go_must (rintro e w3 ⟨v3, rfl, ho3, hb3⟩; obtain ⟨A3, k1, rfl, -, hk1, hk2⟩ := ho3.form; rw [HA.out.len] at ho3 hk1 ⊢; (first | have z3 : V.heap.size + 1 ≤ w3.heap.size := (by have := hb3.size; simpa using this) | have z3 : V.heap.size ≤ w3.heap.size := (by have := hb3.size; simpa using this)); (try (have z5 : V.heap.size < w3.heap.size := (by omega))); (try (have z6 : ¬ V.heap.size = w3.heap.size := (by omega))); have HO3 := Lib.hid ho3; clear ho3; (try obtain ⟨hc3, hf3⟩ := bcell hb3))))
    all_goals
      go_wp2_with fail
      go_meet
      case rel =>
        first
          | (with_reducible refine ⟨w3.heap.size, A3, k1, rfl, ?_, ?_, ?_, ?_⟩
             · with_reducible exact new5 w3 _ _ _ _ _ _ _
             · exact Lib.hid ((HO3.out.alloc _).mono (base' := V.heap.size) (Nat.le_refl _))
             · omega
             · exact bal (bstep (Below.drew (Below.refl V.heap.size V)) hb3 (Nat.le_refl _)) _)
          | (with_reducible refine ⟨V.heap.size, A3, k1, rfl, ?_, ?_, ?_, ?_⟩
             · with_reducible exact set5 (kDX5 hb3 (new5 V _ _ _ _ _ _ _)) _ _ _ _ _
             · exact Lib.hid ((HO3.out.far5 (HO3.out.ne (by simp)) _ _ _ _ _).mono (base' := V.heap.size) (by simp))
             · exact Nat.le_refl _
             · exact Below.set5 (bstep (Below.drew (Below.alloc (Below.refl V.heap.size V) (Nat.le_refl _) _)) hb3 (Nat.le_refl _)) (Nat.le_refl _) _ _ _ _ _)
  case rest =>
  obtain ⟨gt, A1, k1, rfl, b12, HIN, hgt, hX⟩ := hcut
  replace c0 := kBl5 hX lc0 c0
  replace c1 := kBl5 hX lc1 c1
  replace c2 := kBl5 hX lc2 c2
  replace b9 := kBl5 hX lb9 b9
  replace b10 := kBl5 hX lb10 b10
  replace b11 := kBl5 hX lb11 b11
  replace hB := bstep hB hX (Nat.le_refl _)
  clear hX HC lc0 lc1 lc2 lb9 lb10 lb11
  obtain ⟨V1, hV1⟩ : ∃ V1 : World, V1 = wc := ⟨_, rfl⟩
  subst hV1
  obtain ⟨Ax, cx, e0, -, hk1, hk2⟩ := HIN.out.form
  injection e0 with q1 q2 q3
  subst q3
  rw [← q2] at hk1
  clear q1 q2
  have RIN := Lib.hid HIN.out.rd
  have HGI := Lib.hid (fun (g : Nat) (e : (Value.slice A1 a.n k1).ownBlock = some g) => (World.ownsRow.lt HIN.out g e).2)
  have hBV1 := Lib.hid hB
  have mc0 := ltOf c0 rfl
  have mc1 := ltOf c1 rfl
  have mc2 := ltOf c2 rfl
  have mb9 := ltOf b9 rfl
  have mb10 := ltOf b10 rfl
  have mb11 := ltOf b11 rfl
  have mb12 := ltOf b12 rfl
  go_upto_region 9 with (first
    | (go_at_call 9; (with_reducible refine (HMG.out _ hB _ _ HIN.out.rd hk1 hk2).mono ?_); go_must (rintro e w3 ⟨A2, n2, k2, A3, n3, k3, rfl, hx, hy, hs, hb1⟩; have HU := Lib.hid hx; have HM := Lib.hid hy; have HG2 := Lib.hid (fun (g : Nat) (e : (Value.slice A2 n2 k2).ownBlock = some g) => World.ownsRow.lt hx g e); clear hx hy; (try replace c0 := kept c0 rfl hb1); (try replace c1 := kept c1 rfl hb1); (try replace c2 := kept c2 rfl hb1); (try replace b9 := kept b9 rfl hb1); (try replace b10 := kept b10 rfl hb1); (try replace b11 := kept b11 rfl hb1); (try replace b12 := kept b12 rfl hb1); (try replace b13 := kept b13 rfl hb1); (try replace b16 := kept b16 rfl hb1); (try replace b21 := kept b21 rfl hb1); (try replace b23 := kept b23 rfl hb1); (try replace HU2 := Lib.hid (HU2.out.later hb1)); (try replace HM2 := Lib.hid (HM2.out.later hb1)); (try replace HIN := Lib.hid (HIN.out.later hb1)); (try replace HV := Lib.hid (HV.out.later hb1)); (try replace HW := Lib.hid (HW.out.later hb1)); (try replace HX := Lib.hid (HX.out.later hb1)); (try replace HY := Lib.hid (HY.out.later hb1)); replace hB := bstep hB hb1 (Nat.le_refl _); clear hb1; have yac0 := ltOf c0 rfl; have yac0n := Nat.ne_of_lt yac0; have yac1 := ltOf c1 rfl; have yac1n := Nat.ne_of_lt yac1; have yac2 := ltOf c2 rfl; have yac2n := Nat.ne_of_lt yac2; have yab9 := ltOf b9 rfl; have yab9n := Nat.ne_of_lt yab9; have yab10 := ltOf b10 rfl; have yab10n := Nat.ne_of_lt yab10; have yab11 := ltOf b11 rfl; have yab11n := Nat.ne_of_lt yab11; have yab12 := ltOf b12 rfl; have yab12n := Nat.ne_of_lt yab12))
    | (go_at_call 19; (with_reducible refine (HMG17.out _ (bal hB _)).mono ?_); go_must (rintro e w4 ⟨A4, n4, k4, A5, n5, k5, rfl, hx, hy, -, hb1⟩; have HU2 := Lib.hid hx; have HM2 := Lib.hid hy; clear hx hy; have b13 := box5 hb1; replace hb1 := bxd hb1; (try replace c0 := kept c0 rfl hb1); (try replace c1 := kept c1 rfl hb1); (try replace c2 := kept c2 rfl hb1); (try replace b9 := kept b9 rfl hb1); (try replace b10 := kept b10 rfl hb1); (try replace b11 := kept b11 rfl hb1); (try replace b12 := kept b12 rfl hb1); (try replace b16 := kept b16 rfl hb1); (try replace b21 := kept b21 rfl hb1); (try replace b23 := kept b23 rfl hb1); (try replace HU := Lib.hid (HU.out.later hb1)); (try replace HM := Lib.hid (HM.out.later hb1)); (try replace HIN := Lib.hid (HIN.out.later hb1)); (try replace HV := Lib.hid (HV.out.later hb1)); (try replace HW := Lib.hid (HW.out.later hb1)); (try replace HX := Lib.hid (HX.out.later hb1)); (try replace HY := Lib.hid (HY.out.later hb1)); replace hB := bstep hB hb1 (Nat.le_refl _); clear hb1)))
  obtain ⟨W, hW⟩ : ∃ W, W = w4.alloc (.cells #[.int .i64 ms.w, .int .i64 ms.h, .int .i64 ms.c, .int .i64 ms.d, .slice A4 n4 k4] 35) := ⟨_, rfl⟩
  have b16 : ∀ i, W.cell? ⟨w4.heap.size, i, none⟩ = r5 (.int .i64 ms.w) (.int .i64 ms.h) (.int .i64 ms.c) (.int .i64 ms.d) (.slice A4 n4 k4) i := by rw [hW]; exact new5 w4 _ _ _ _ _ _ _
  replace c0 := kA5 c0 (.cells #[.int .i64 ms.w, .int .i64 ms.h, .int .i64 ms.c, .int .i64 ms.d, .slice A4 n4 k4] 35)
  rw [← hW] at c0
  replace c1 := kA5 c1 (.cells #[.int .i64 ms.w, .int .i64 ms.h, .int .i64 ms.c, .int .i64 ms.d, .slice A4 n4 k4] 35)
  rw [← hW] at c1
  replace c2 := kA5 c2 (.cells #[.int .i64 ms.w, .int .i64 ms.h, .int .i64 ms.c, .int .i64 ms.d, .slice A4 n4 k4] 35)
  rw [← hW] at c2
  replace b9 := kA5 b9 (.cells #[.int .i64 ms.w, .int .i64 ms.h, .int .i64 ms.c, .int .i64 ms.d, .slice A4 n4 k4] 35)
  rw [← hW] at b9
  replace b10 := kA5 b10 (.cells #[.int .i64 ms.w, .int .i64 ms.h, .int .i64 ms.c, .int .i64 ms.d, .slice A4 n4 k4] 35)
  rw [← hW] at b10
  replace b11 := kA5 b11 (.cells #[.int .i64 ms.w, .int .i64 ms.h, .int .i64 ms.c, .int .i64 ms.d, .slice A4 n4 k4] 35)
  rw [← hW] at b11
  replace b12 := kA5 b12 (.cells #[.int .i64 ms.w, .int .i64 ms.h, .int .i64 ms.c, .int .i64 ms.d, .slice A4 n4 k4] 35)
  rw [← hW] at b12
  replace b13 := kA5 b13 (.cells #[.int .i64 ms.w, .int .i64 ms.h, .int .i64 ms.c, .int .i64 ms.d, .slice A4 n4 k4] 35)
  rw [← hW] at b13
  have EHU := HU.out.alloc (.cells #[.int .i64 ms.w, .int .i64 ms.h, .int .i64 ms.c, .int .i64 ms.d, .slice A4 n4 k4] 35)
  rw [← hW] at EHU
  replace EHU := Lib.hid EHU
  have EHM := HM.out.alloc (.cells #[.int .i64 ms.w, .int .i64 ms.h, .int .i64 ms.c, .int .i64 ms.d, .slice A4 n4 k4] 35)
  rw [← hW] at EHM
  replace EHM := Lib.hid EHM
  have EHU2 := HU2.out.alloc (.cells #[.int .i64 ms.w, .int .i64 ms.h, .int .i64 ms.c, .int .i64 ms.d, .slice A4 n4 k4] 35)
  rw [← hW] at EHU2
  replace EHU2 := Lib.hid EHU2
  have EHM2 := HM2.out.alloc (.cells #[.int .i64 ms.w, .int .i64 ms.h, .int .i64 ms.c, .int .i64 ms.d, .slice A4 n4 k4] 35)
  rw [← hW] at EHM2
  replace EHM2 := Lib.hid EHM2
  have EHIN := HIN.out.alloc (.cells #[.int .i64 ms.w, .int .i64 ms.h, .int .i64 ms.c, .int .i64 ms.d, .slice A4 n4 k4] 35)
  rw [← hW] at EHIN
  replace EHIN := Lib.hid EHIN
  have DB : Below w.heap.size w W := by rw [hW]; exact bal hB _
  rw [← hW]
  clear hW hB HU HM HU2 HM2 HIN
  have lc0 := ltOf c0 rfl
  have lc1 := ltOf c1 rfl
  have lc2 := ltOf c2 rfl
  have lb9 := ltOf b9 rfl
  have lb10 := ltOf b10 rfl
  have lb11 := ltOf b11 rfl
  have lb12 := ltOf b12 rfl
  have lb13 := ltOf b13 rfl
  have lb16 := ltOf b16 rfl
  go_cut [19] (fun q wc => q = .bool true ∧ Below W.heap.size W wc)
  case first =>
    have hX := Below.refl W.heap.size W
    go_region_held3 (fun w' => (∀ i, w'.cell? ⟨w3.heap.size, i, none⟩ = r5 (.int .i64 ms.w) (.int .i64 ms.h) (.int .i64 ms.c) (.int .i64 ms.d) (.slice A2 n2 k2) i) ∧ (∀ i, w'.cell? ⟨w4.heap.size, i, none⟩ = r5 (.int .i64 ms.w) (.int .i64 ms.h) (.int .i64 ms.c) (.int .i64 ms.d) (.slice A4 n4 k4) i))
      (first | (with_reducible exact ⟨b13, b16⟩) | (with_reducible exact ⟨kD5 b13, kD5 b16⟩) | (with_reducible exact ⟨kBl5 hX lb13 b13, kBl5 hX lb16 b16⟩))
      (first
        | (go_at_call 12; (with_reducible refine (tree_at _ _ _ _ _ _ _ _).mono ?_); go_must (rintro e wx ⟨rfl, hb1⟩; (first | replace hX := bstep hX hb1 (Nat.le_refl _) | replace hX := bstep (Below.drew hX) hb1 (Nat.le_refl _)); clear hb1))
        | (go_at_call 13; (with_reducible refine (same_tt ms.w ms.h ms.c ms.d mk _ n2 k2 n4 k4 A2 A4 _ (EHU.out.later hX).rd (EHU2.out.later hX).rd (Nat.le_refl _) (by have := (EHU.out.later hX).rd.len; have := LK.out; omega)).mono ?_); go_must (rintro e wx ⟨rfl, hb1⟩; (first | replace hX := bstep hX hb1 (Nat.le_refl _) | replace hX := bstep (Below.drew hX) hb1 (Nat.le_refl _)); clear hb1)))
    all_goals
      go_wp2_with fail
      go_meet
      case rel => exact ⟨rfl, hX⟩
  case rest =>
  obtain ⟨rfl, hX⟩ := hcut
  have HN2 := Lib.hid (EHU.out.rd.len)
  have hB := bstep DB hX (Nat.le_refl _)
  replace c2 := kBl5 hX lc2 c2
  replace b10 := kBl5 hX lb10 b10
  replace b11 := kBl5 hX lb11 b11
  replace b12 := kBl5 hX lb12 b12
  replace b13 := kBl5 hX lb13 b13
  have HU := Lib.hid (EHU.out.later hX)
  have HM := Lib.hid (EHM.out.later hX)
  have HM2 := Lib.hid (EHM2.out.later hX)
  have HIN := Lib.hid (EHIN.out.later hX)
  obtain ⟨V2, hV2⟩ : ∃ V2 : World, V2 = wc := ⟨_, rfl⟩
  subst hV2
  go_wp2_with fail
  go_loopw [20] (fun i wr => ∃ k : Nat, k ≤ n2 ∧ i = .int .i64 k ∧ Hid (∃ X, ownT wr V1.heap.size (.slice A2 n2 k2) X ∧ X.length = n2) ∧ Hid (ownL wr V1.heap.size (.slice A3 n3 k3) mm) ∧ Hid (ownL wr w3.heap.size (.slice A5 n5 k5) mm) ∧ Hid (ownT wr V.heap.size (.slice A1 a.n k1) a.ts) ∧ (∀ i, wr.cell? ⟨w3.heap.size, i, none⟩ = r5 (.int .i64 ms.w) (.int .i64 ms.h) (.int .i64 ms.c) (.int .i64 ms.d) (.slice A2 n2 k2) i) ∧ Below V1.heap.size V2 wr ∧ Below w.heap.size w wr) (fun i _ => n2 - (intOf i).toNat)
  case atStart => exact ⟨0, Nat.zero_le _, rfl, Lib.hid ⟨mk, HU.out, HU.out.rd.len⟩, HM, Lib.hid (HM2.out.mono (by simp)), HIN, b13, Below.refl _ _, hB⟩
  case round =>
    clear hB HU HM HM2 HIN b13
    obtain ⟨k, hk, rfl, HU, HM, HM2, HIN, b13, hL, hB⟩ := hrel
    by_cases hlt : k < n2
    · obtain ⟨X, hXo, hXl⟩ := HU.out
      obtain ⟨-, g2, rfl, hg1, hg2⟩ := hXo.pos (by omega)
      obtain ⟨z, xk⟩ : ∃ z, wr.cell? ⟨g2, k, none⟩ = some (.string z) := ⟨_, hXo.cell hXl.symm (by omega)⟩
      have fk : wr.frozen? ⟨g2, k, none⟩ = false := hXo.frozen hXl.symm k
      have hg3 := (HG2.out g2 rfl).2
      have N1 : Hid (ownT (wr.setCell ⟨g2, k, none⟩ (.string { data := #[115, 112, 111, 105, 108, 116] })) V1.heap.size (.slice (some ⟨g2, 0, none⟩) n2 k2) (X.set k { data := #[115, 112, 111, 105, 108, 116] })) := hXo.store hXl.symm k _
      have N2 : Hid ((X.set k { data := #[115, 112, 111, 105, 108, 116] }).length = n2) := (show _ = _ by rw [List.length_set]; exact hXl)
      have hs' := hs g2 rfl
      have n2m : n2 ≤ 1024 := by have := LK.out; have := HN2.out; omega
      have i1 : ¬ w3.heap.size = g2 := by omega
      clear hXo hXl
      go_wp2_with fail
      go_roundw
      case rel => exact ⟨k + 1, by omega, by go_num, Lib.hid ⟨_, N1.out, N2.out⟩, Lib.hid (HM.out.far hs' _ _), Lib.hid (HM2.out.far (HM2.out.ne hg3) _ _), Lib.hid (HIN.out.far (fun e => absurd (HGI.out _ e) (by omega)) _ _), keptS b13 (p := ⟨g2, k, none⟩) i1 _, hL.setCell (p := ⟨g2, k, none⟩) hg1 _, hB.setCell (p := ⟨g2, k, none⟩) (show w.heap.size ≤ g2 by have := hBV1.out.size; omega) _⟩
      case measure => simp [intOf]; omega
    · obtain rfl : k = n2 := by omega
      replace c2 := kBl5 hL mc2 c2
      replace b10 := kBl5 hL mb10 b10
      replace b11 := kBl5 hL mb11 b11
      replace b12 := kBl5 hL mb12 b12
      clear hL
      go_upto_region 18 with (first
        | (go_at_call 17; (with_reducible refine (HRS.out _ hB _ _ HIN.out.rd hk1 hk2).mono ?_); go_must (rintro e w8 ⟨A6, n6, k6, rfl, hx, hb1⟩; have HV := Lib.hid hx; clear hx; (try replace c0 := kept c0 rfl hb1); (try replace c1 := kept c1 rfl hb1); (try replace c2 := kept c2 rfl hb1); (try replace b9 := kept b9 rfl hb1); (try replace b10 := kept b10 rfl hb1); (try replace b11 := kept b11 rfl hb1); (try replace b12 := kept b12 rfl hb1); (try replace b13 := kept b13 rfl hb1); (try replace b16 := kept b16 rfl hb1); (try replace b21 := kept b21 rfl hb1); (try replace b23 := kept b23 rfl hb1); (try replace HU := Lib.hid (HU.out.later hb1)); (try replace HM := Lib.hid (HM.out.later hb1)); (try replace HU2 := Lib.hid (HU2.out.later hb1)); (try replace HM2 := Lib.hid (HM2.out.later hb1)); (try replace HIN := Lib.hid (HIN.out.later hb1)); (try replace HW := Lib.hid (HW.out.later hb1)); (try replace HX := Lib.hid (HX.out.later hb1)); (try replace HY := Lib.hid (HY.out.later hb1)); replace hB := bstep hB hb1 (Nat.le_refl _); clear hb1; have ybc2 := ltOf c2 rfl; have ybc2n := Nat.ne_of_lt ybc2; have ybb10 := ltOf b10 rfl; have ybb10n := Nat.ne_of_lt ybb10; have ybb11 := ltOf b11 rfl; have ybb11n := Nat.ne_of_lt ybb11; have ybb12 := ltOf b12 rfl; have ybb12n := Nat.ne_of_lt ybb12))
        | (go_at_call 20; (with_reducible refine (HRS17.out _ (bal hB _)).mono ?_); go_must (rintro e w9 ⟨A7, n7, k7, rfl, hx, hb1⟩; have HW := Lib.hid hx; clear hx; have b21 := box5 hb1; replace hb1 := bxd hb1; (try replace c0 := kept c0 rfl hb1); (try replace c1 := kept c1 rfl hb1); (try replace c2 := kept c2 rfl hb1); (try replace b9 := kept b9 rfl hb1); (try replace b10 := kept b10 rfl hb1); (try replace b11 := kept b11 rfl hb1); (try replace b12 := kept b12 rfl hb1); (try replace b13 := kept b13 rfl hb1); (try replace b16 := kept b16 rfl hb1); (try replace b23 := kept b23 rfl hb1); (try replace HU := Lib.hid (HU.out.later hb1)); (try replace HM := Lib.hid (HM.out.later hb1)); (try replace HU2 := Lib.hid (HU2.out.later hb1)); (try replace HM2 := Lib.hid (HM2.out.later hb1)); (try replace HIN := Lib.hid (HIN.out.later hb1)); (try replace HV := Lib.hid (HV.out.later hb1)); (try replace HX := Lib.hid (HX.out.later hb1)); (try replace HY := Lib.hid (HY.out.later hb1)); replace hB := bstep hB hb1 (Nat.le_refl _); clear hb1; have ydc2 := ltOf c2 rfl; have ydc2n := Nat.ne_of_lt ydc2; have ydb10 := ltOf b10 rfl; have ydb10n := Nat.ne_of_lt ydb10; have ydb11 := ltOf b11 rfl; have ydb11n := Nat.ne_of_lt ydb11; have ydb12 := ltOf b12 rfl; have ydb12n := Nat.ne_of_lt ydb12; have ydb21 := ltOf b21 rfl; have ydb21n := Nat.ne_of_lt ydb21))
        | (go_at_call 14; (with_reducible refine (HCH.out _ (bal hB _) _ _ (HIN.out.alloc _).rd hk1 hk2).mono ?_); go_must (rintro e w10 ⟨A8, n8, k8, rfl, rfl, hx, hb1⟩; have HX := Lib.hid hx; clear hx; have b23 := box5 hb1; replace hb1 := bxd hb1; (try replace c0 := kept c0 rfl hb1); (try replace c1 := kept c1 rfl hb1); (try replace c2 := kept c2 rfl hb1); (try replace b9 := kept b9 rfl hb1); (try replace b10 := kept b10 rfl hb1); (try replace b11 := kept b11 rfl hb1); (try replace b12 := kept b12 rfl hb1); (try replace b13 := kept b13 rfl hb1); (try replace b16 := kept b16 rfl hb1); (try replace b21 := kept b21 rfl hb1); (try replace HU := Lib.hid (HU.out.later hb1)); (try replace HM := Lib.hid (HM.out.later hb1)); (try replace HU2 := Lib.hid (HU2.out.later hb1)); (try replace HM2 := Lib.hid (HM2.out.later hb1)); (try replace HIN := Lib.hid (HIN.out.later hb1)); (try replace HV := Lib.hid (HV.out.later hb1)); (try replace HW := Lib.hid (HW.out.later hb1)); (try replace HY := Lib.hid (HY.out.later hb1)); replace hB := bstep hB hb1 (Nat.le_refl _); clear hb1))
        | (go_at_call 21; (with_reducible refine (HDF.out _ hB).mono ?_); go_must (rintro e w11 ⟨A9, n9, k9, rfl, rfl, hx, hb1⟩; have HY := Lib.hid hx; clear hx; (try replace c0 := kept c0 rfl hb1); (try replace c1 := kept c1 rfl hb1); (try replace c2 := kept c2 rfl hb1); (try replace b9 := kept b9 rfl hb1); (try replace b10 := kept b10 rfl hb1); (try replace b11 := kept b11 rfl hb1); (try replace b12 := kept b12 rfl hb1); (try replace b13 := kept b13 rfl hb1); (try replace b16 := kept b16 rfl hb1); (try replace b21 := kept b21 rfl hb1); (try replace b23 := kept b23 rfl hb1); (try replace HU := Lib.hid (HU.out.later hb1)); (try replace HM := Lib.hid (HM.out.later hb1)); (try replace HU2 := Lib.hid (HU2.out.later hb1)); (try replace HM2 := Lib.hid (HM2.out.later hb1)); (try replace HIN := Lib.hid (HIN.out.later hb1)); (try replace HV := Lib.hid (HV.out.later hb1)); (try replace HW := Lib.hid (HW.out.later hb1)); (try replace HX := Lib.hid (HX.out.later hb1)); replace hB := bstep hB hb1 (Nat.le_refl _); clear hb1)))
      have lb21 := ltOf b21 rfl
      have lb23 := ltOf b23 rfl
      have lb12 := ltOf b12 rfl
      have lb10 := ltOf b10 rfl
      have hX := Below.refl w11.heap.size w11
      go_region_held3 (fun w' => (∀ i, w'.cell? ⟨w8.heap.size, i, none⟩ = r5 (.int .i64 rs.w) (.int .i64 rs.h) (.int .i64 rs.c) (.int .i64 rs.d) (.slice A6 n6 k6) i) ∧ (∀ i, w'.cell? ⟨w9.heap.size, i, none⟩ = r5 (.int .i64 rs.w) (.int .i64 rs.h) (.int .i64 rs.c) (.int .i64 rs.d) (.slice A7 n7 k7) i) ∧ (∀ i, w'.cell? ⟨gt, i, none⟩ = r5 (.int .i64 a.s.w) (.int .i64 a.s.h) (.int .i64 a.s.c) (.int .i64 a.s.d) (.slice A1 a.n k1) i) ∧ (∀ i, w'.cell? ⟨x1, i, none⟩ = r5 (.int .i64 a.s.w) (.int .i64 a.s.h) (.int .i64 a.s.c) (.int .i64 a.s.d) (.slice a.A a.n a.c) i))
        (first | (with_reducible exact ⟨b21, b23, b12, b10⟩) | (with_reducible exact ⟨kD5 b21, kD5 b23, kD5 b12, kD5 b10⟩) | (with_reducible exact ⟨kBl5 hX lb21 b21, kBl5 hX lb23 b23, kBl5 hX lb12 b12, kBl5 hX lb10 b10⟩))
        (first
          | (go_at_call 7; (with_reducible refine (first23_any _).mono ?_); go_must (rintro e wx ⟨rfl, hb1⟩; (first | replace hX := bstep hX hb1 (Nat.le_refl _) | replace hX := bstep (Below.drew hX) hb1 (Nat.le_refl _)); clear hb1))
          | (go_at_call 10; (with_reducible refine (bools_eq _ _ _ _ _ _ _ _ mm _ (HM.out.later hX).rd (HM2.out.later hX).rd (by have := (HM.out.later hX).rd.len; have := LM.out; omega)).mono ?_); go_must (rintro e wx ⟨rfl, hb1⟩; (first | replace hX := bstep hX hb1 (Nat.le_refl _) | replace hX := bstep (Below.drew hX) hb1 (Nat.le_refl _)); clear hb1))
          | (go_at_call 12; (with_reducible refine (tree_at _ _ _ _ _ _ _ _).mono ?_); go_must (rintro e wx ⟨rfl, hb1⟩; (first | replace hX := bstep hX hb1 (Nat.le_refl _) | replace hX := bstep (Below.drew hX) hb1 (Nat.le_refl _)); clear hb1))
          | (go_at_call 13; (with_reducible refine (same_tt rs.w rs.h rs.c rs.d rl _ n6 k6 n7 k7 A6 A7 _ (HV.out.later hX).rd (HW.out.later hX).rd (Nat.le_refl _) (by have := (HV.out.later hX).rd.len; have := LR.out; omega)).mono ?_); go_must (rintro e wx ⟨rfl, hb1⟩; (first | replace hX := bstep hX hb1 (Nat.le_refl _) | replace hX := bstep (Below.drew hX) hb1 (Nat.le_refl _)); clear hb1))
          | (go_at_call 13; (with_reducible refine (same_tt a.s.w a.s.h a.s.c a.s.d a.ts _ a.n k1 a.n a.c A1 a.A _ (HIN.out.later hX).rd ((HA.out.blw (bstep hB hX (Nat.le_refl _))).more (Nat.le_trans hB.size hX.size)) (Nat.le_refl _) (by omega)).mono ?_); go_must (rintro e wx ⟨rfl, hb1⟩; (first | replace hX := bstep hX hb1 (Nat.le_refl _) | replace hX := bstep (Below.drew hX) hb1 (Nat.le_refl _)); clear hb1))
          | (go_at_call 15; (with_reducible refine (ints_eq2 _ _ _ _ _ _ _ _ _ _ (HX.out.later hX).rd (HY.out.later hX).rd (by have := LC.out; omega)).mono ?_); go_must (rintro e wx ⟨rfl, hb1⟩; (first | replace hX := bstep hX hb1 (Nat.le_refl _) | replace hX := bstep (Below.drew hX) hb1 (Nat.le_refl _)); clear hb1))
          | (go_at_call 11; (with_reducible refine (HCL.out _ (bstep hB hX (Nat.le_refl _))).mono ?_); go_must (rintro e wx ⟨rfl, rfl⟩))
          | (go_at_call 22; (with_reducible refine (HCL17.out _ (bstep hB hX (Nat.le_refl _))).mono ?_); go_must (rintro e wx ⟨rfl, rfl⟩)))
      all_goals
        go_wp2_with fail
        go_ret
        exact ⟨ret_bool (by first | rfl | simp), bstep hB hX (Nat.le_refl _)⟩

theorem joinMerges_walk (o a b : Tr) (mn mc : Nat) (mA : Option Addr) (ml : List Bool) (w : World) (ho : RdT w w.heap.size o.A o.n o.ts) (co : o.n ≤ o.c) (mo : o.c ≤ maxLen) (ha : RdT w w.heap.size a.A a.n a.ts) (ca : a.n ≤ a.c) (ma : a.c ≤ maxLen) (hb : RdT w w.heap.size b.A b.n b.ts) (cb : b.n ≤ b.c) (mb : b.c ≤ maxLen) (h3 : RdL w w.heap.size mA mn ml) (c3 : mn ≤ mc) (m3 : mc ≤ maxLen) :
    Calls Try.prog 6 #[o.s.r o.A o.n o.c, a.s.r a.A a.n a.c, b.s.r b.A b.n b.c, .slice mA mn mc] w fun e w' => e = .returned (.bool true) ∧ Below w.heap.size w w' := by
  cases f0 : fewT o.ts with
  | false => exact joinMerges_early o a b mn mc mA ml w ho co mo ha ca ma hb cb mb h3 c3 m3 (.inl f0)
  | true =>
    cases f1 : fewT a.ts with
    | false => exact joinMerges_early o a b mn mc mA ml w ho co mo ha ca ma hb cb mb h3 c3 m3 (.inr (.inl ⟨f0, f1⟩))
    | true =>
      cases f2 : fewT b.ts with
      | false => exact joinMerges_early o a b mn mc mA ml w ho co mo ha ca ma hb cb mb h3 c3 m3 (.inr (.inr (.inl ⟨f0, f1, f2⟩)))
      | true =>
        by_cases f3 : 400 < mn
        · exact joinMerges_early o a b mn mc mA ml w ho co mo ha ca ma hb cb mb h3 c3 m3 (.inr (.inr (.inr ⟨f0, f1, f2, f3⟩)))
        · exact joinMerges_ok o a b mn mc mA ml w ho co mo ha ca ma hb cb mb h3 c3 m3 f0 f1 f2 f3

end Go.Proofs.Ytmffmijjdpjaiaa
