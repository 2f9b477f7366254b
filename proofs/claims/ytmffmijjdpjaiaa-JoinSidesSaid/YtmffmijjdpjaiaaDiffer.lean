/- join: Changed, Differ; short trees; trees held against one another. -/
import Derived.Test.YtmffmijjdpjaiaaResolve
namespace Go.Proofs.Ytmffmijjdpjaiaa
set_option linter.all false
open Go.RowKit

set_option maxHeartbeats 1600000 in
theorem changed_no (a b : Tr) (B : Nat) (w : World) (ha : a.ok w B) (hb : b.ok w B) (hB1 : B ≤ w.heap.size) (E : Int) (hE : wrongT [a, b] = E) (hE0 : E = 4 ∨ E = 13) :
    Calls Try.prog 14 #[a.s.r a.A a.n a.c, b.s.r b.A b.n b.c] w fun e w' => e = .returned (.tuple #[.slice none 0 0, .int .i64 E]) ∧ Below w.heap.size w w' := by
  have hB := Below.refl w.heap.size w
  have HW := Lib.hid (fun (w' : World) (g : Nat) (hrow : ∀ (j : Nat) (u : Value), (tcs [a, b])[j]? = some u → w'.cell? ⟨g, j, none⟩ = some u) (h : Below w.heap.size w w') => wrong2_any a b B w w' ha hb hB1 g hrow h)
  have HE := Lib.hid hE
  have hne : ((E : Int) != 0) = true := by rcases hE0 with rfl | rfl <;> rfl
  clear ha hb hE
  dsimp only [Sh.r]
  go_enter Try.func14, Try.ntmps14
  go_wp2_with (go_at_call 23; (with_reducible refine (HW.out _ _ ?_ ?_).mono ?_); exact row_new rfl (by simp); exact (bal (bal (bal hB _) _) _); go_must (rintro e w1 ⟨rfl, hb1⟩; rw [HE.out]; replace hb1 := bxd hb1; have c1 := box5 hb1; simp only [World.size_alloc] at c1; replace hb1 := bxd hb1; have c0 := box5 hb1; replace hB := bxd hb1; clear hb1))
  go_ret2
  exact ⟨rfl, hB⟩

set_option maxRecDepth 100000 in
set_option maxHeartbeats 6400000 in
theorem changed_ok (a b : Tr) (B : Nat) (w : World) (ha : a.ok w B) (hb : b.ok w B) (hB1 : B ≤ w.heap.size) (hE : wrongT [a, b] = 0) :
    Calls Try.prog 14 #[a.s.r a.A a.n a.c, b.s.r b.A b.n b.c] w fun e w' => ∃ v, e = .returned (.tuple #[v, .int .i64 0]) ∧ ownI w' w.heap.size v (chg a.ts b.ts a.n) ∧ Below w.heap.size w w' := by
  have hB := Below.refl w.heap.size w
  have HW := Lib.hid (fun (w' : World) (g : Nat) (hrow : ∀ (j : Nat) (u : Value), (tcs [a, b])[j]? = some u → w'.cell? ⟨g, j, none⟩ = some u) (h : Below w.heap.size w w') => wrong2_any a b B w w' ha hb hB1 g hrow h)
  have HE := Lib.hid hE
  obtain ⟨m2, m3, s2⟩ := wrong2_zero hE
  have l2 : b.ts.length = a.ts.length := (may_len2 m2 m3 s2)
  obtain ⟨n1, n0, -, -⟩ := mayT_len m2
  obtain ⟨aq, am, -, -⟩ := ha
  obtain ⟨bq, bm, -, -⟩ := hb
  clear m2 m3 s2 hE
  obtain ⟨⟨aw, ah, ad, ae⟩, aA, n, ac, ats⟩ := a
  obtain ⟨⟨bw, bh, bd, be⟩, bA, bn, bc, bts⟩ := b
  dsimp only at *
  have L2 := aq.len
  have L3 := bq.len
  have e2 : n = bn := by omega
  subst e2
  rw [L2] at n1 n0
  obtain ⟨ab, ao, rfl, hab, acs⟩ := aq.at_ (by omega)
  obtain ⟨bb, bo, rfl, hbb, bcs⟩ := bq.at_ (by omega)
  have HA := Lib.hid (fun (w' : World) (h : Below w.heap.size w w') (j : Nat) (hj : j < ats.length) => (show w'.cell? ⟨ab, ao + j, none⟩ = some (.string ats[j]) from bsame (h.mono hB1) hab (acs j hj)))
  have HBB := Lib.hid (fun (w' : World) (h : Below w.heap.size w w') (j : Nat) (hj : j < bts.length) => (show w'.cell? ⟨bb, bo + j, none⟩ = some (.string bts[j]) from bsame (h.mono hB1) hbb (bcs j hj)))
  have M2 := Lib.hid L2
  have M3 := Lib.hid L3
  have hn9 : n ≤ 1099511627776 := by omega
  clear aq bq acs bcs L2 L3 l2 hab hbb hB1
  dsimp only [Sh.r, Sh.v] at *
  go_enter Try.func14, Try.ntmps14
  go_wp2_with (go_at_call 23; (with_reducible refine (HW.out _ _ ?_ ?_).mono ?_); exact row_new rfl (by simp); exact (bal (bal (bal hB _) _) _); go_must (rintro e w1 ⟨rfl, hb1⟩; rw [HE.out]; replace hb1 := bxd hb1; have c1 := box5 hb1; simp only [World.size_alloc] at c1; replace hb1 := bxd hb1; have c0 := box5 hb1; replace hB := bxd hb1; clear hb1))
  have hz1 : w.heap.size + 1 < w1.heap.size := ltOf c1 rfl
  go_loopw [7, 20] (fun v i wr => ∃ k : Nat, k ≤ n ∧ i = .int .i64 k ∧ Hid (ownI wr (w.heap.size + 2) v (chg ats bts k)) ∧ (∀ i, wr.cell? ⟨w.heap.size, i, none⟩ = r5 (.int .i64 aw) (.int .i64 ah) (.int .i64 ad) (.int .i64 ae) (.slice (some ⟨ab, ao, none⟩) n ac) i) ∧ (∀ i, wr.cell? ⟨w.heap.size + 1, i, none⟩ = r5 (.int .i64 bw) (.int .i64 bh) (.int .i64 bd) (.int .i64 be) (.slice (some ⟨bb, bo, none⟩) n bc) i) ∧ Below w.heap.size w wr ∧ w.heap.size + 1 < wr.heap.size) (fun _ i _ => n - (intOf i).toNat)
  case atStart => exact ⟨0, Nat.zero_le _, rfl, ownI.nil_ _ _, c0, c1, hB, hz1⟩
  case round =>
    clear c0 c1 hB hz1
    obtain ⟨k, hk, rfl, HO, c0, c1, hB, hz1⟩ := hrel
    by_cases hlt : k < n
    · have k2' : k < ats.length := by rw [M2.out]; exact hlt
      have k3' : k < bts.length := by rw [M3.out]; exact hlt
      have e1 := HA.out _ hB k k2'
      have e2 := HBB.out _ hB k k3'
      obtain ⟨x, hx⟩ : ∃ x, x = ats[k] := ⟨_, rfl⟩
      obtain ⟨y, hy⟩ : ∃ y, y = bts[k] := ⟨_, rfl⟩
      have GX := Lib.hid (show ats[k]? = some x by rw [hx]; exact List.getElem?_eq_getElem k2')
      have GY := Lib.hid (show bts[k]? = some y by rw [hy]; exact List.getElem?_eq_getElem k3')
      rw [← hx] at e1
      rw [← hy] at e2
      clear hx hy k2' k3'
      obtain ⟨Av, cv, rfl, -⟩ := HO.out.form
      by_cases h1 : x = y
      · subst h1
        have EK : Hid (chg ats bts (k + 1) = chg ats bts k) := chg_no GX.out GY.out
        have d1 : (x.toList == x.toList) = true := beq_self_eq_true _
        go_wp2_with fail
        go_roundw
        case rel => exact ⟨k + 1, by omega, by go_num, (show ownI _ _ _ _ by rw [EK.out]; exact HO.out), c0, c1, hB, hz1⟩
        case measure => simp [intOf]; omega
      · have EK : Hid (chg ats bts (k + 1) = chg ats bts k ++ [(k : Int)]) := chg_yes GX.out GY.out h1
        have d1 : (x.toList == y.toList) = false := str_ne h1
        have d2 : (x.toList != y.toList) = true := by simp [bne, d1]
        clear h1
        go_wp2_with (at_builtin; go_must (refine wpList_appendI rfl (.tmp 32) (.tmp 34) rfl (w.heap.size + 2) _ _ rfl (ownI.alloc HO.out _) _ 1 1 _ [(k : Int)] rfl (rd_oneI _ _) (by have := chg_len ats bts k; omega) (by simp; omega) ?_; intro v8 w8 ho8 hg8 hb8 hat8; have c08 := kBl5 hb8 (show w.heap.size < w.heap.size + 2 by omega) (kA5 c0 _); have c18 := kBl5 hb8 (show w.heap.size + 1 < w.heap.size + 2 by omega) (kA5 c1 _); have hB8 := (bal hB _).trans (hb8.mono (Nat.le_add_right _ 2)); have hz8 := hb8.size; simp only [World.size_alloc] at hz8; clear hg8 hat8))
        go_roundw
        case rel => exact ⟨k + 1, by omega, by go_num, (show ownI _ _ _ _ by rw [EK.out]; exact ho8), c08, c18, hB8, Nat.lt_of_lt_of_le hz1 (Nat.le_trans (Nat.le_succ _) hz8)⟩
        case measure => simp [intOf]; omega
    · obtain rfl : k = n := by omega
      obtain ⟨Av, cv, rfl, -⟩ := HO.out.form
      go_wp2_with fail
      go_ret2
      exact ⟨_, rfl, HO.out.mono (by omega), hB⟩

set_option maxHeartbeats 3200000 in
theorem differ_4 (a b : Tr) (B : Nat) (w : World) (ha : a.ok w B) (hb : b.ok w B) (hB1 : B ≤ w.heap.size) (hE : wrongT [a, b] = 4) :
    Calls Try.prog 21 #[a.s.r a.A a.n a.c, b.s.r b.A b.n b.c] w fun e w' => e = .returned (.tuple #[.slice none 0 0, .int .i64 4]) ∧ Below w.heap.size w w' := by
  have hB := Below.refl w.heap.size w
  have HMA := Lib.hid (Tr.okMay ha hB1)
  have HMB := Lib.hid (Tr.okMay hb hB1)
  have HS1 := Lib.hid (fun w => shape_any a.s b.s w)
  rcases wrong2_4 hE with h1 | ⟨h1, h2⟩
  · have VA := Lib.hid h1
    clear h1 hE
    dsimp only [Sh.r, Sh.v] at *
    go_enter Try.func21, Try.ntmps21
    go_wp2_with (first
        | (go_at_call 16; (with_reducible refine (HMA.out _ (bal (bal hB _) _)).mono ?_); go_must (rintro e w1 ⟨rfl, hb1⟩; rw [VA.out]; have c1 := box5 hb1; simp only [World.size_alloc] at c1; replace hb1 := bxd hb1; have c0 := box5 hb1; replace hB := bxd hb1; clear hb1)))
    go_ret2
    exact ⟨rfl, hB⟩
  · have VA := Lib.hid h1
    have VB := Lib.hid h2
    clear h1 h2 hE
    dsimp only [Sh.r, Sh.v] at *
    go_enter Try.func21, Try.ntmps21
    go_wp2_with (first
        | (go_at_call 16; (with_reducible refine (HMA.out _ (bal (bal hB _) _)).mono ?_); go_must (rintro e w1 ⟨rfl, hb1⟩; rw [VA.out]; have c1 := box5 hb1; simp only [World.size_alloc] at c1; replace hb1 := bxd hb1; have c0 := box5 hb1; replace hB := bxd hb1; clear hb1))
        | (go_at_call 16; (with_reducible refine (HMB.out _ hB).mono ?_); go_must (rintro e w3 ⟨rfl, hb1⟩; rw [VB.out]; (try replace c0 := kept c0 rfl hb1); (try replace c1 := kept c1 rfl hb1); replace hB := bstep hB hb1 (Nat.le_refl _); clear hb1)))
    go_ret2
    exact ⟨rfl, hB⟩

set_option maxHeartbeats 3200000 in
theorem differ_13 (a b : Tr) (B : Nat) (w : World) (ha : a.ok w B) (hb : b.ok w B) (hB1 : B ≤ w.heap.size) (hE : wrongT [a, b] = 13) :
    Calls Try.prog 21 #[a.s.r a.A a.n a.c, b.s.r b.A b.n b.c] w fun e w' => e = .returned (.tuple #[.slice none 0 0, .int .i64 13]) ∧ Below w.heap.size w w' := by
  have hB := Below.refl w.heap.size w
  have HMA := Lib.hid (Tr.okMay ha hB1)
  have HMB := Lib.hid (Tr.okMay hb hB1)
  have HS1 := Lib.hid (fun w => shape_any a.s b.s w)
  obtain ⟨h1, h2, h4⟩ := wrong2_13 hE
  have VA := Lib.hid h1
  have VB := Lib.hid h2
  have D1 := Lib.hid (decide_eq_false h4)
  clear h1 h2 h4 hE
  dsimp only [Sh.r, Sh.v] at *
  go_enter Try.func21, Try.ntmps21
  go_wp2_with (first
      | (go_at_call 16; (with_reducible refine (HMA.out _ (bal (bal hB _) _)).mono ?_); go_must (rintro e w1 ⟨rfl, hb1⟩; rw [VA.out]; have c1 := box5 hb1; simp only [World.size_alloc] at c1; replace hb1 := bxd hb1; have c0 := box5 hb1; replace hB := bxd hb1; clear hb1))
      | (go_at_call 16; (with_reducible refine (HMB.out _ hB).mono ?_); go_must (rintro e w3 ⟨rfl, hb1⟩; rw [VB.out]; (try replace c0 := kept c0 rfl hb1); (try replace c1 := kept c1 rfl hb1); replace hB := bstep hB hb1 (Nat.le_refl _); clear hb1))
      | (go_at_call 26; (with_reducible refine (HS1.out _).mono ?_); go_must (rintro e w4 ⟨rfl, hb1⟩; rw [D1.out]; (try replace c0 := kept c0 rfl hb1); (try replace c1 := kept c1 rfl hb1); replace hB := bstep hB hb1 (Nat.le_refl _); clear hb1)))
  go_ret2
  exact ⟨rfl, hB⟩

set_option maxRecDepth 100000 in
set_option maxHeartbeats 6400000 in
theorem differ_ok (a b : Tr) (B : Nat) (w : World) (ha : a.ok w B) (hb : b.ok w B) (hB1 : B ≤ w.heap.size) (hE : wrongT [a, b] = 0) :
    Calls Try.prog 21 #[a.s.r a.A a.n a.c, b.s.r b.A b.n b.c] w fun e w' => ∃ v, e = .returned (.tuple #[v, .int .i64 0]) ∧ ownI w' w.heap.size v (chg a.ts b.ts a.n) ∧ Below w.heap.size w w' := by
  have hB := Below.refl w.heap.size w
  have HMA := Lib.hid (Tr.okMay ha hB1)
  have HMB := Lib.hid (Tr.okMay hb hB1)
  have HS1 := Lib.hid (fun w => shape_any a.s b.s w)
  have VA := Lib.hid (wrong2_zero hE).1
  have VB := Lib.hid (wrong2_zero hE).2.1
  have D1 := Lib.hid (decide_eq_true (wrong2_zero hE).2.2.symm)
  obtain ⟨m2, m3, s2⟩ := wrong2_zero hE
  have l2 : b.ts.length = a.ts.length := (may_len2 m2 m3 s2)
  obtain ⟨n1, n0, -, -⟩ := mayT_len m2
  obtain ⟨aq, am, -, -⟩ := ha
  obtain ⟨bq, bm, -, -⟩ := hb
  clear m2 m3 s2 hE
  obtain ⟨⟨aw, ah, ad, ae⟩, aA, n, ac, ats⟩ := a
  obtain ⟨⟨bw, bh, bd, be⟩, bA, bn, bc, bts⟩ := b
  dsimp only at *
  have L2 := aq.len
  have L3 := bq.len
  have e2 : n = bn := by omega
  subst e2
  rw [L2] at n1 n0
  obtain ⟨ab, ao, rfl, hab, acs⟩ := aq.at_ (by omega)
  obtain ⟨bb, bo, rfl, hbb, bcs⟩ := bq.at_ (by omega)
  have HA := Lib.hid (fun (w' : World) (h : Below w.heap.size w w') (j : Nat) (hj : j < ats.length) => (show w'.cell? ⟨ab, ao + j, none⟩ = some (.string ats[j]) from bsame (h.mono hB1) hab (acs j hj)))
  have HBB := Lib.hid (fun (w' : World) (h : Below w.heap.size w w') (j : Nat) (hj : j < bts.length) => (show w'.cell? ⟨bb, bo + j, none⟩ = some (.string bts[j]) from bsame (h.mono hB1) hbb (bcs j hj)))
  have M2 := Lib.hid L2
  have M3 := Lib.hid L3
  have hn9 : n ≤ 1099511627776 := by omega
  clear aq bq acs bcs L2 L3 l2 hab hbb hB1
  dsimp only [Sh.r, Sh.v] at *
  go_enter Try.func21, Try.ntmps21
  go_wp2_with (first
      | (go_at_call 16; (with_reducible refine (HMA.out _ (bal (bal hB _) _)).mono ?_); go_must (rintro e w1 ⟨rfl, hb1⟩; rw [VA.out]; have c1 := box5 hb1; simp only [World.size_alloc] at c1; replace hb1 := bxd hb1; have c0 := box5 hb1; replace hB := bxd hb1; clear hb1))
      | (go_at_call 16; (with_reducible refine (HMB.out _ hB).mono ?_); go_must (rintro e w3 ⟨rfl, hb1⟩; rw [VB.out]; (try replace c0 := kept c0 rfl hb1); (try replace c1 := kept c1 rfl hb1); replace hB := bstep hB hb1 (Nat.le_refl _); clear hb1))
      | (go_at_call 26; (with_reducible refine (HS1.out _).mono ?_); go_must (rintro e w4 ⟨rfl, hb1⟩; rw [D1.out]; (try replace c0 := kept c0 rfl hb1); (try replace c1 := kept c1 rfl hb1); replace hB := bstep hB hb1 (Nat.le_refl _); clear hb1)))
  have hz1 : w.heap.size + 1 < w4.heap.size := ltOf c1 rfl
  go_loopw [6, 7] (fun v i wr => ∃ k : Nat, k ≤ n ∧ i = .int .i64 k ∧ Hid (ownI wr (w.heap.size + 2) v (chg ats bts k)) ∧ (∀ i, wr.cell? ⟨w.heap.size, i, none⟩ = r5 (.int .i64 aw) (.int .i64 ah) (.int .i64 ad) (.int .i64 ae) (.slice (some ⟨ab, ao, none⟩) n ac) i) ∧ (∀ i, wr.cell? ⟨w.heap.size + 1, i, none⟩ = r5 (.int .i64 bw) (.int .i64 bh) (.int .i64 bd) (.int .i64 be) (.slice (some ⟨bb, bo, none⟩) n bc) i) ∧ Below w.heap.size w wr ∧ w.heap.size + 1 < wr.heap.size) (fun _ i _ => n - (intOf i).toNat)
  case atStart => exact ⟨0, Nat.zero_le _, rfl, ownI.nil_ _ _, c0, c1, hB, hz1⟩
  case round =>
    clear c0 c1 hB hz1
    obtain ⟨k, hk, rfl, HO, c0, c1, hB, hz1⟩ := hrel
    by_cases hlt : k < n
    · have k2' : k < ats.length := by rw [M2.out]; exact hlt
      have k3' : k < bts.length := by rw [M3.out]; exact hlt
      have e1 := HA.out _ hB k k2'
      have e2 := HBB.out _ hB k k3'
      obtain ⟨x, hx⟩ : ∃ x, x = ats[k] := ⟨_, rfl⟩
      obtain ⟨y, hy⟩ : ∃ y, y = bts[k] := ⟨_, rfl⟩
      have GX := Lib.hid (show ats[k]? = some x by rw [hx]; exact List.getElem?_eq_getElem k2')
      have GY := Lib.hid (show bts[k]? = some y by rw [hy]; exact List.getElem?_eq_getElem k3')
      rw [← hx] at e1
      rw [← hy] at e2
      clear hx hy k2' k3'
      obtain ⟨Av, cv, rfl, -⟩ := HO.out.form
      by_cases h1 : x = y
      · subst h1
        have EK : Hid (chg ats bts (k + 1) = chg ats bts k) := chg_no GX.out GY.out
        have d1 : (x.toList == x.toList) = true := beq_self_eq_true _
        go_wp2_with fail
        go_quiet (fail)
        go_wp2_with fail
        go_roundw
        case rel => exact ⟨k + 1, by omega, by go_num, (show ownI _ _ _ _ by rw [EK.out]; exact HO.out.drewN nq), kN5 c0, kN5 c1, bdrewN hB _, hz1⟩
        case measure => simp [intOf]; omega
      · have EK : Hid (chg ats bts (k + 1) = chg ats bts k ++ [(k : Int)]) := chg_yes GX.out GY.out h1
        have d1 : (x.toList == y.toList) = false := str_ne h1
        have d2 : (x.toList != y.toList) = true := by simp [bne, d1]
        clear h1
        go_wp2_with fail
        go_quiet (fail)
        go_wp2_with (at_builtin; go_must (refine wpList_appendI rfl (.tmp 40) (.tmp 42) rfl (w.heap.size + 2) _ _ rfl (ownI.alloc (ownI.drewN HO.out nq) _) _ 1 1 _ [(k : Int)] rfl (rd_oneI _ _) (by have := chg_len ats bts k; omega) (by simp; omega) ?_; intro v8 w8 ho8 hg8 hb8 hat8; have c08 := kBl5 hb8 (show w.heap.size < w.heap.size + 2 by omega) (kA5 (kN5 (k := nq) c0) _); have c18 := kBl5 hb8 (show w.heap.size + 1 < w.heap.size + 2 by omega) (kA5 (kN5 (k := nq) c1) _); have hB8 := (bal (bdrewN hB nq) _).trans (hb8.mono (Nat.le_add_right _ 2)); have hz8 := hb8.size; simp only [World.size_alloc] at hz8; clear hg8 hat8))
        go_roundw
        case rel => exact ⟨k + 1, by omega, by go_num, (show ownI _ _ _ _ by rw [EK.out]; exact ho8), c08, c18, hB8, Nat.lt_of_lt_of_le hz1 (Nat.le_trans (Nat.le_succ _) hz8)⟩
        case measure => simp [intOf]; omega
    · obtain rfl : k = n := by omega
      obtain ⟨Av, cv, rfl, -⟩ := HO.out.form
      go_wp2_with fail
      go_ret2
      exact ⟨_, rfl, HO.out.mono (by omega), hB⟩

/-- Is a tree short? -/
def fewT (l : List ByteArray) : Bool := (l.take 300).all (fun x => decide (x.size ≤ 100)) && decide (l.length ≤ 300)
theorem fewT_yes {l : List ByteArray} (h : fewT l = true) : l.length ≤ 300 ∧ shortT l := by
  unfold fewT at h
  simp only [Bool.and_eq_true, decide_eq_true_eq] at h
  refine ⟨h.2, fun x hx => ?_⟩
  have h1 := h.1
  rw [List.take_of_length_le h.2, List.all_eq_true] at h1
  have := h1 x hx
  simp at this
  omega
set_option maxHeartbeats 1600000 in
theorem fewTree_any (s : Sh) (B n c : Nat) (A : Option Addr) (l : List ByteArray) (w : World) (hr : RdT w B A n l) (hB1 : B ≤ w.heap.size) (hc : n ≤ c) (hm : c ≤ maxLen) :
    Calls Try.prog 8 #[s.r A n c] w fun e w' => e = .returned (.bool (fewT l)) ∧ Below w.heap.size w w' := by
  have hB := Below.refl w.heap.size w
  have HR := Lib.hid hr
  have HL := Lib.hid hr.len
  have hm9 : c ≤ 9223372036854775807 := by unfold maxLen at hm; omega
  clear hr hm
  dsimp only [Sh.r]
  go_enter Try.func8, Try.ntmps8
  go_wp2_with fail
  go_loop [3] (fun i => ∃ k : Nat, k ≤ n ∧ k ≤ 300 ∧ i = .int .i64 k ∧ Hid ((l.take k).all (fun x => decide (x.size ≤ 100)) = true)) (fun i => n - (intOf i).toNat)
  case atStart => exact ⟨0, Nat.zero_le _, by omega, rfl, (show _ = _ from rfl)⟩
  case round =>
    obtain ⟨k, hk, hk3, rfl, HA⟩ := hrel
    by_cases hlt : k < n ∧ k < 300
    · obtain ⟨h1, h2⟩ := hlt
      have h3 : (k : Int) < 300 := by omega
      have h4 : (k : Int) < (n : Int) := by omega
      obtain ⟨b, o, x, rfl, hb, HX, hcell⟩ := HR.out.one h1
      have hbw : b < w.heap.size := by omega
      have hbn : ¬ b = w.heap.size := by omega
      by_cases hx : x.size ≤ 100
      · have h5 : ¬ (100 : Int) < (x.size : Int) := by omega
        have HA1 : Hid ((l.take (k + 1)).all (fun x => decide (x.size ≤ 100)) = true) := (show _ = _ by
          obtain ⟨q1, q2⟩ := List.getElem?_eq_some_iff.1 HX.out
          exact all_take_step q1 HA.out (by rw [q2]; simpa using hx))
        clear hx
        go_wp2_with fail
        go_round
        case rel => exact ⟨k + 1, by omega, by omega, by go_num, HA1⟩
        case measure => simp [intOf]; omega
      · have h5 : (100 : Int) < (x.size : Int) := by omega
        have HF : Hid (fewT l = false) := (show _ = _ by
          unfold fewT
          obtain ⟨q1, q2⟩ := List.getElem?_eq_some_iff.1 HX.out
          rw [all_no (k := k) (by rw [List.length_take]; omega) (by rw [List.getElem_take, q2]; simpa using hx)]
          rfl)
        clear hx
        go_wp2_with fail
        go_ret
        exact ⟨ret_bool HF.out.symm, hB.alloc (Nat.le_refl _) _⟩
    · have hq : (¬ (k : Int) < (n : Int) ∧ (n : Int) ≤ 300) ∨ ((k : Int) < (n : Int) ∧ ¬ (k : Int) < 300) := by omega
      have HF : Hid (fewT l = decide ((n : Int) ≤ 300)) := (show _ = _ by
        unfold fewT
        have : (l.take 300) = l.take k := by
          rcases hq with ⟨q1, q2⟩ | ⟨q1, q2⟩
          · rw [List.take_of_length_le (by rw [HL.out]; omega), List.take_of_length_le (by rw [HL.out]; omega)]
          · rw [show k = 300 by omega]
        rw [this, HA.out, HL.out, Bool.true_and]
        by_cases h : n ≤ 300
        · rw [decide_eq_true h, decide_eq_true (by omega)]
        · rw [decide_eq_false h, decide_eq_false (by omega)])
      clear hlt
      rcases hq with ⟨q1, q2⟩ | ⟨q1, q2⟩
      all_goals
        go_wp2_with fail
        go_ret
        exact ⟨ret_bool (by first | exact HF.out.symm | (rw [HF.out]; simp [*])), hB.alloc (Nat.le_refl _) _⟩

set_option maxHeartbeats 1600000 in
theorem tree17_any (s : Sh) (n c : Nat) (A : Option Addr) (w : World) : Calls Try.prog 12 #[s.r A n c] w fun e w' => e = .returned (s.r A n c) ∧ Below w.heap.size w w' := by
  have hB := Below.refl w.heap.size w
  dsimp only [Sh.r]
  go_enter Try.func12, Try.ntmps12
  go_wp2_with fail
  refine bodyPost_ret (v := .agg #[.int .i64 s.w, .int .i64 s.h, .int .i64 s.c, .int .i64 s.d, .slice A n c]) ?_ rfl ?_
  · unfold results
    go_simp
  · exact ⟨rfl, by first | exact bal (bal hB _) _ | exact Below.set5 (bal (bal hB _) _) (by omega) _ _ _ _ _⟩

set_option maxHeartbeats 1600000 in
theorem same17_any (s t : Sh) (B n c B' n' c' : Nat) (A A' : Option Addr) (xs ys : List ByteArray) (w : World) (h : RdT w B A n xs) (h' : RdT w B' A' n' ys) (hB1 : B ≤ w.heap.size) (hB2 : B' ≤ w.heap.size) (hn : n ≤ 1099511627776) :
    Calls Try.prog 13 #[s.r A n c, t.r A' n' c'] w fun e w' => e = .returned (.bool (decide (s = t) && decide (xs = ys))) ∧ Below w.heap.size w w' := by
  have hB := Below.refl w.heap.size w
  have HS := Lib.hid (fun w => shape_any s t w)
  have HT := Lib.hid (fun (w' : World) (hb : Below w.heap.size w w') => texts_any B n c B' n' c' A A' xs ys w' (h.blw (hb.mono hB1)) (h'.blw (hb.mono hB2)) hn)
  generalize decide (s = t) = d at HS ⊢
  clear h h'
  dsimp only [Sh.r, Sh.v] at *
  cases d with
  | false =>
    go_enter Try.func13, Try.ntmps13
    go_wp2_with (go_at_call 26; (with_reducible refine (HS.out _).mono ?_); go_must (rintro e w1 ⟨rfl, hb1⟩; replace hB := bxd (bxd hb1); clear hb1))
    go_ret
    exact ⟨ret_bool (by first | rfl | simp), hB⟩
  | true =>
    go_enter Try.func13, Try.ntmps13
    go_wp2_with (first
      | (go_at_call 26; (with_reducible refine (HS.out _).mono ?_); go_must (rintro e w1 ⟨rfl, hb1⟩; have c1 := box5 hb1; simp only [World.size_alloc] at c1; replace hb1 := bxd hb1; have c0 := box5 hb1; replace hB := bxd hb1; clear hb1))
      | (go_at_call 27; (with_reducible refine (HT.out _ hB).mono ?_); go_must (rintro e w2 ⟨rfl, hb2⟩; replace hB := bstep hB hb2 (Nat.le_refl _))))
    all_goals
      go_ret
      exact ⟨ret_bool (by first | rfl | simp), hB⟩

end Go.Proofs.Ytmffmijjdpjaiaa
