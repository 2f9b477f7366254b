/- join: Resolve, here and in the reference. -/
import Derived.Test.YtmffmijjdpjaiaaMerge17
import Derived.Deep.RegionHeld3
import Derived.StillTailTactics
namespace Go.Proofs.Ytmffmijjdpjaiaa
set_option linter.all false
open Go.RowKit

set_option maxHeartbeats 1600000 in
theorem resolve_no (a b : Tr) (B mn mc : Nat) (mA : Option Addr) (ml : List Bool) (w : World) (ha : a.ok w B) (hb : b.ok w B) (hB1 : B ≤ w.heap.size) (E : Int) (hE : wrongT [a, b] = E) (hE0 : E = 4 ∨ E = 13) :
    Calls Try.prog 17 #[a.s.r a.A a.n a.c, .slice mA mn mc, b.s.r b.A b.n b.c] w fun e w' => e = .returned (.tuple #[(⟨0, 0, 0, 0⟩ : Sh).r none 0 0, .int .i64 E]) ∧ Below w.heap.size w w' := by
  have hB := Below.refl w.heap.size w
  have HW := Lib.hid (fun (w' : World) (g : Nat) (hrow : ∀ (j : Nat) (u : Value), (tcs [a, b])[j]? = some u → w'.cell? ⟨g, j, none⟩ = some u) (h : Below w.heap.size w w') => wrong2_any a b B w w' ha hb hB1 g hrow h)
  have HE := Lib.hid hE
  have hne : ((E : Int) != 0) = true := by rcases hE0 with rfl | rfl <;> rfl
  clear ha hb hE
  dsimp only [Sh.r]
  go_enter Try.func17, Try.ntmps17
  go_wp2_with (go_at_call 23; (with_reducible refine (HW.out _ _ ?_ ?_).mono ?_); exact row_new rfl (by simp); exact (bal (bal (bal (bal hB _) _) _) _); go_must (rintro e w1 ⟨rfl, hb1⟩; rw [HE.out]; replace hb1 := bxd hb1; have c2 := box5 hb1; simp only [World.size_alloc] at c2; have ff := boxF hb1; simp only [World.size_alloc] at ff; replace hb1 := bxd hb1; have c1 := box5 hb1; simp only [World.size_alloc] at c1; replace hb1 := bxd hb1; have c0 := box5 hb1; replace hB := bxd hb1; clear hb1))
  refine bodyPost_ret (v := .tuple #[.agg #[.int .i64 0, .int .i64 0, .int .i64 0, .int .i64 0, .slice none 0 0], .int .i64 E]) ?_ rfl ?_
  · unfold results
    go_simp
  · exact ⟨rfl, Below.set5 hB (by omega) _ _ _ _ _⟩

set_option maxHeartbeats 1600000 in
theorem resolve_len (a b : Tr) (B mn mc : Nat) (mA : Option Addr) (ml : List Bool) (w : World) (ha : a.ok w B) (hb : b.ok w B) (hB1 : B ≤ w.heap.size) (hE : wrongT [a, b] = 0) (hl : ¬ mn = a.n) :
    Calls Try.prog 17 #[a.s.r a.A a.n a.c, .slice mA mn mc, b.s.r b.A b.n b.c] w fun e w' => e = .returned (.tuple #[(⟨0, 0, 0, 0⟩ : Sh).r none 0 0, .int .i64 13]) ∧ Below w.heap.size w w' := by
  have hB := Below.refl w.heap.size w
  have HW := Lib.hid (fun (w' : World) (g : Nat) (hrow : ∀ (j : Nat) (u : Value), (tcs [a, b])[j]? = some u → w'.cell? ⟨g, j, none⟩ = some u) (h : Below w.heap.size w w') => wrong2_any a b B w w' ha hb hB1 g hrow h)
  have HE := Lib.hid hE
  have d1 : ((mn : Int) == (a.n : Int)) = false := by rw [beq_eq_false_iff_ne]; omega
  have d2 : ((mn : Int) != (a.n : Int)) = true := by simp [bne, d1]
  clear ha hb hE hl
  dsimp only [Sh.r]
  go_enter Try.func17, Try.ntmps17
  go_wp2_with (go_at_call 23; (with_reducible refine (HW.out _ _ ?_ ?_).mono ?_); exact row_new rfl (by simp); exact (bal (bal (bal (bal hB _) _) _) _); go_must (rintro e w1 ⟨rfl, hb1⟩; rw [HE.out]; replace hb1 := bxd hb1; have c2 := box5 hb1; simp only [World.size_alloc] at c2; have ff := boxF hb1; simp only [World.size_alloc] at ff; replace hb1 := bxd hb1; have c1 := box5 hb1; simp only [World.size_alloc] at c1; replace hb1 := bxd hb1; have c0 := box5 hb1; replace hB := bxd hb1; clear hb1))
  refine bodyPost_ret (v := .tuple #[.agg #[.int .i64 0, .int .i64 0, .int .i64 0, .int .i64 0, .slice none 0 0], .int .i64 13]) ?_ rfl ?_
  · unfold results
    go_simp
  · exact ⟨rfl, Below.set5 hB (by omega) _ _ _ _ _⟩

set_option maxRecDepth 100000 in
set_option maxHeartbeats 12800000 in
theorem resolve_ok (a b : Tr) (B mn mc : Nat) (mA : Option Addr) (ml : List Bool) (w : World) (ha : a.ok w B) (hb : b.ok w B) (hB1 : B ≤ w.heap.size) (hm : RdL w B mA mn ml) (hmc : mn ≤ mc) (hmm : mc ≤ maxLen) (hE : wrongT [a, b] = 0) (hl : mn = a.n) :
    Calls Try.prog 17 #[a.s.r a.A a.n a.c, .slice mA mn mc, b.s.r b.A b.n b.c] w fun e w' => ∃ g1 k1, e = .returned (.tuple #[a.s.r (some ⟨g1, 0, none⟩) a.n k1, .int .i64 0]) ∧
      ownT w' w.heap.size (.slice (some ⟨g1, 0, none⟩) a.n k1) (rsK a.ts b.ts ml a.n) ∧ Below w.heap.size w w' := by
  have hB := Below.refl w.heap.size w
  have HW := Lib.hid (fun (w' : World) (g : Nat) (hrow : ∀ (j : Nat) (u : Value), (tcs [a, b])[j]? = some u → w'.cell? ⟨g, j, none⟩ = some u) (h : Below w.heap.size w w') => wrong2_any a b B w w' ha hb hB1 g hrow h)
  have HE := Lib.hid hE
  obtain ⟨m2, m3, s2⟩ := wrong2_zero hE
  have l2 : b.ts.length = a.ts.length := (may_len2 m2 m3 s2)
  obtain ⟨n1, n0, -, -⟩ := mayT_len m2
  have HC := Lib.hid (fun (w' : World) (h : Below w.heap.size w w') => cloneT_any B a.n a.c a.A a.ts w' (ha.1.blw (h.mono hB1)) (by have := ha.1.len; omega))
  obtain ⟨aq, am, -, -⟩ := ha
  obtain ⟨bq, bm, -, -⟩ := hb
  clear m2 m3 s2 hE
  obtain ⟨⟨aw, ah, ad, ae⟩, aA, n, ac, ats⟩ := a
  obtain ⟨⟨bw, bh, bd, be⟩, bA, bn, bc, bts⟩ := b
  dsimp only at *
  subst hl
  have L2 := aq.len
  have L3 := bq.len
  have e2 : mn = bn := by omega
  subst e2
  obtain ⟨n, hn⟩ : ∃ n, n = mn := ⟨_, rfl⟩
  subst hn
  rw [L2] at n1 n0
  obtain ⟨ab, ao, rfl, hab, acs⟩ := aq.at_ (by omega)
  obtain ⟨bb, bo, rfl, hbb, bcs⟩ := bq.at_ (by omega)
  have L1 := hm.len
  obtain ⟨mb, mo, rfl, hmb, mcs⟩ := hm.at_ (by omega)
  have HBB := Lib.hid (fun (w' : World) (h : Below w.heap.size w w') (j : Nat) (hj : j < bts.length) => (show w'.cell? ⟨bb, bo + j, none⟩ = some (.string bts[j]) from bsame (h.mono hB1) hbb (bcs j hj)))
  have HMM := Lib.hid (fun (w' : World) (h : Below w.heap.size w w') (j : Nat) (hj : j < ml.length) => (show w'.cell? ⟨mb, mo + j, none⟩ = some (.bool ml[j]) from bsame (h.mono hB1) hmb (mcs j hj)))
  have M1 := Lib.hid L1
  have M2 := Lib.hid L2
  have M3 := Lib.hid L3
  have hn9 : n ≤ 1099511627776 := by omega
  clear aq bq acs bcs mcs L1 L2 L3 l2 hab hbb hmb hB1 hm hmm
  dsimp only [Sh.r, Sh.v] at *
  go_enter Try.func17, Try.ntmps17
  go_upto_region 6 with (go_at_call 23; (with_reducible refine (HW.out _ _ ?_ ?_).mono ?_); exact row_new rfl (by simp); exact (bal (bal (bal (bal hB _) _) _) _); go_must (rintro e w1 ⟨rfl, hb1⟩; rw [HE.out]; replace hb1 := bxd hb1; have c2 := box5 hb1; simp only [World.size_alloc] at c2; have ff := boxF hb1; simp only [World.size_alloc] at ff; replace hb1 := bxd hb1; have c1 := box5 hb1; simp only [World.size_alloc] at c1; replace hb1 := bxd hb1; have c0 := box5 hb1; replace hB := bxd hb1; clear hb1))
  have hz3 : w.heap.size + 1 + 1 < w1.heap.size := ltOf c2 rfl
  go_cut [9] (fun q wc => ∃ gt g1 k1, q = .pointer (some ⟨gt, 0, none⟩) ∧ (w.heap.size + 3 ≤ gt ∧ w.heap.size + 3 ≤ g1 ∧ gt ≠ g1 ∧ g1 < wc.heap.size ∧ n ≤ k1 ∧ k1 ≤ maxLen) ∧ (∀ i, wc.cell? ⟨gt, i, none⟩ = r5 (.int .i64 aw) (.int .i64 ah) (.int .i64 ad) (.int .i64 ae) (.slice (some ⟨g1, 0, none⟩) n k1) i) ∧ Hid (ownT wc (w.heap.size + 3) (.slice (some ⟨g1, 0, none⟩) n k1) ats) ∧ (∀ i, wc.cell? ⟨w.heap.size, i, none⟩ = r5 (.int .i64 aw) (.int .i64 ah) (.int .i64 ad) (.int .i64 ae) (.slice (some ⟨ab, ao, none⟩) n ac) i) ∧ (∀ i, wc.cell? ⟨w.heap.size + 1, i, none⟩ = r5 (.int .i64 bw) (.int .i64 bh) (.int .i64 bd) (.int .i64 be) (.slice (some ⟨bb, bo, none⟩) n bc) i) ∧ (∀ i, wc.cell? ⟨w.heap.size + 1 + 1, i, none⟩ = r5 (.int .i64 0) (.int .i64 0) (.int .i64 0) (.int .i64 0) (.slice none 0 0) i) ∧ (∀ i, wc.frozen? ⟨w.heap.size + 1 + 1, i, none⟩ = false) ∧ Below w.heap.size w wc)
  case first =>
    go_region_held3 (fun w' => ∀ i, w'.cell? ⟨w.heap.size, i, none⟩ = r5 (.int .i64 aw) (.int .i64 ah) (.int .i64 ad) (.int .i64 ae) (.slice (some ⟨ab, ao, none⟩) n ac) i)
      (first | (with_reducible exact c0) | (repeat (first | with_reducible exact c0 | ((with_reducible refine keptS5 ?_ ?_ _ _ _ _ _); rotate_left 1; omega) | (with_reducible refine kD5 ?_) | (with_reducible refine kA5 ?_ _) | (with_reducible refine kX5 hb3 ?_) | (with_reducible refine kDX5 hb3 ?_))))
      (first | (go_at_call 24; (first | (with_reducible refine (HC.out _ hB).mono ?_) | (with_reducible refine (HC.out _ (bal hB _)).mono ?_) | (with_reducible refine (HC.out _ (Below.drew hB)).mono ?_) | (with_reducible refine (HC.out _ (Below.drew (bal hB _))).mono ?_)); go_must (rintro e w3 ⟨v3, rfl, ho3, hb3⟩; obtain ⟨A3, k1, rfl, -, hk1, hk2⟩ := ho3.form; rw [M2.out] at ho3 hk1 ⊢; obtain ⟨-, g1, rfl, hg1, hg2⟩ := ho3.pos (by omega); (first | have z3 : w1.heap.size + 1 ≤ w3.heap.size := (by have := hb3.size; simpa using this) | have z3 : w1.heap.size ≤ w3.heap.size := (by have := hb3.size; simpa using this)); (try simp only [World.size_drew, World.size_alloc] at hg1); (try (have z5 : w1.heap.size < w3.heap.size := (by omega))); (try (have z6 : ¬ w1.heap.size = w3.heap.size := (by omega))); have HO3 := Lib.hid (ho3.mono (base' := w.heap.size + 3) (by first | (simp only [World.size_drew, World.size_alloc]; omega) | omega)); clear ho3; (try obtain ⟨hc3, hf3⟩ := bcell hb3))))
    all_goals
      go_wp2_with fail
      go_meet
      case rel =>
        have c03 := (by first | with_reducible exact kDX5 hb3 c0 | with_reducible exact kDX5 hb3 (kA5 c0 _) | with_reducible exact kX5 hb3 c0 | with_reducible exact kX5 hb3 (kA5 c0 _) : ∀ i, w3.cell? ⟨w.heap.size, i, none⟩ = r5 (.int .i64 aw) (.int .i64 ah) (.int .i64 ad) (.int .i64 ae) (.slice (some ⟨ab, ao, none⟩) n ac) i)
        have c13 := (by first | with_reducible exact kDX5 hb3 c1 | with_reducible exact kDX5 hb3 (kA5 c1 _) | with_reducible exact kX5 hb3 c1 | with_reducible exact kX5 hb3 (kA5 c1 _) : ∀ i, w3.cell? ⟨w.heap.size + 1, i, none⟩ = r5 (.int .i64 bw) (.int .i64 bh) (.int .i64 bd) (.int .i64 be) (.slice (some ⟨bb, bo, none⟩) n bc) i)
        have c23 := (by first | with_reducible exact kDX5 hb3 c2 | with_reducible exact kDX5 hb3 (kA5 c2 _) | with_reducible exact kX5 hb3 c2 | with_reducible exact kX5 hb3 (kA5 c2 _) : ∀ i, w3.cell? ⟨w.heap.size + 1 + 1, i, none⟩ = r5 (.int .i64 0) (.int .i64 0) (.int .i64 0) (.int .i64 0) (.slice none 0 0) i)
        have ff3 : ∀ i, w3.frozen? ⟨w.heap.size + 1 + 1, i, none⟩ = false := (by first | with_reducible exact keptFD hz3 ff hb3 | with_reducible exact keptFD (by simp only [World.size_alloc]; omega) (keptFA hz3 ff _) hb3)
        have hB3 : Below w.heap.size w w3 := (by first | with_reducible exact bstep (Below.drew hB) hb3 (Nat.le_refl _) | with_reducible exact bstep (Below.drew (Below.alloc hB hB.size _)) hb3 (Nat.le_refl _))
        have q3 := hB3.size
        first
          | (with_reducible refine ⟨w3.heap.size, g1, k1, rfl, ⟨by omega, by omega, by omega, by simp <;> omega, hk1, hk2⟩, ?_, ?_, ?_, ?_, ?_, ?_, ?_⟩
             · with_reducible exact new5 w3 _ _ _ _ _ _ _
             · exact HO3.out.alloc _
             · with_reducible exact kA5 c03 _
             · with_reducible exact kA5 c13 _
             · with_reducible exact kA5 c23 _
             · exact keptFA (by omega) ff3 _
             · exact bal hB3 _)
          | (with_reducible refine ⟨w1.heap.size, g1, k1, rfl, ⟨by omega, by omega, by omega, by simp <;> omega, hk1, hk2⟩, ?_, ?_, ?_, ?_, ?_, ?_, ?_⟩
             · with_reducible exact set5 (kDX5 hb3 (new5 w1 _ _ _ _ _ _ _)) _ _ _ _ _
             · exact HO3.out.far5 (ownNe (by omega)) _ _ _ _ _
             · with_reducible exact keptS5 c03 (by omega) _ _ _ _ _
             · with_reducible exact keptS5 c13 (by omega) _ _ _ _ _
             · with_reducible exact keptS5 c23 (by omega) _ _ _ _ _
             · exact keptF5 ff3 _ _ _ _ _
             · exact Below.set5 hB3 (by omega) _ _ _ _ _)
  case rest =>
    clear c0 c1 c2 ff hB hz3
    obtain ⟨gt, g1, k1, rfl, ⟨t1, t2, t3, t4, t5, t6⟩, cT, HK, c0, c1, c2, ff, hB⟩ := hcut
    have hgt : gt < wc.heap.size := ltOf cT rfl
    have hz3 : w.heap.size + 1 + 1 < wc.heap.size := ltOf c2 rfl
    unfold maxLen at t6
    go_wp2_with fail
    go_loopw [35] (fun i wr => ∃ k : Nat, k ≤ n ∧ i = .int .i64 k ∧ Hid (ownT wr (w.heap.size + 3) (.slice (some ⟨g1, 0, none⟩) n k1) (rsK ats bts ml k)) ∧ (∀ i, wr.cell? ⟨gt, i, none⟩ = r5 (.int .i64 aw) (.int .i64 ah) (.int .i64 ad) (.int .i64 ae) (.slice (some ⟨g1, 0, none⟩) n k1) i) ∧ (∀ i, wr.cell? ⟨w.heap.size, i, none⟩ = r5 (.int .i64 aw) (.int .i64 ah) (.int .i64 ad) (.int .i64 ae) (.slice (some ⟨ab, ao, none⟩) n ac) i) ∧ (∀ i, wr.cell? ⟨w.heap.size + 1, i, none⟩ = r5 (.int .i64 bw) (.int .i64 bh) (.int .i64 bd) (.int .i64 be) (.slice (some ⟨bb, bo, none⟩) n bc) i) ∧ (∀ i, wr.cell? ⟨w.heap.size + 1 + 1, i, none⟩ = r5 (.int .i64 0) (.int .i64 0) (.int .i64 0) (.int .i64 0) (.slice none 0 0) i) ∧ (∀ i, wr.frozen? ⟨w.heap.size + 1 + 1, i, none⟩ = false) ∧ Below w.heap.size w wr ∧ wc.heap.size ≤ wr.heap.size) (fun i _ => n - (intOf i).toNat)
    case atStart => exact ⟨0, Nat.zero_le _, rfl, (show ownT _ _ _ _ by rw [rsK_0]; exact HK.out), cT, c0, c1, c2, ff, hB, Nat.le_refl _⟩
    case round =>
      clear cT c0 c1 c2 ff hB HK
      obtain ⟨k, hk, rfl, HK, cT, c0, c1, c2, ff, hB, hsz⟩ := hrel
      have hzr : w.heap.size + 1 + 1 < wr.heap.size := by omega
      by_cases hlt : k < n
      · have k1' : k < ml.length := by rw [M1.out]; exact hlt
        have k2' : k < ats.length := by rw [M2.out]; exact hlt
        have k3' : k < bts.length := by rw [M3.out]; exact hlt
        have e0 := HMM.out _ hB k k1'
        have e2 := HBB.out _ hB k k3'
        obtain ⟨x, hx⟩ : ∃ x, x = ml[k] := ⟨_, rfl⟩
        obtain ⟨y, hy⟩ : ∃ y, y = bts[k] := ⟨_, rfl⟩
        have GX := Lib.hid (show ml[k]? = some x by rw [hx]; exact List.getElem?_eq_getElem k1')
        have GY := Lib.hid (show bts[k]? = some y by rw [hy]; exact List.getElem?_eq_getElem k3')
        rw [← hx] at e0
        rw [← hy] at e2
        have kk : k < (rsK ats bts ml k).length := by rw [rsK_len]; exact k2'
        obtain ⟨z, xk⟩ : ∃ z, wr.cell? ⟨g1, k, none⟩ = some (.string z) := ⟨_, HK.out.cell (by rw [rsK_len, M2.out]) kk⟩
        have fk : wr.frozen? ⟨g1, k, none⟩ = false := HK.out.frozen (by rw [rsK_len, M2.out]) k
        clear hx hy k1' k2' k3' kk
        cases x with
        | false =>
          have EK : Hid (rsK ats bts ml (k + 1) = rsK ats bts ml k) := rsK_no GX.out
          go_wp2_with fail
          go_roundw
          case rel => exact ⟨k + 1, by omega, by go_num, (show ownT _ _ _ _ by rw [EK.out]; exact HK.out), cT, c0, c1, c2, ff, hB, hsz⟩
          case measure => simp [intOf]; omega
        | true =>
          have EK : Hid (rsK ats bts ml (k + 1) = (rsK ats bts ml k).set k y) := rsK_yes GX.out GY.out
          go_wp2_with fail
          go_still_tail 9, (by kernel_rfl)
          go_wp2_with fail
          go_roundw
          case rel => exact ⟨k + 1, by omega, by go_num, (show ownT _ _ _ _ by rw [EK.out]; exact ownT.drew (HK.out.store (by rw [rsK_len, M2.out]) k y)), kD5 (keptS cT (p := ⟨g1, k, none⟩) (show gt ≠ g1 by omega) _), kD5 (keptS c0 (p := ⟨g1, k, none⟩) (show w.heap.size ≠ g1 by omega) _), kD5 (keptS c1 (p := ⟨g1, k, none⟩) (show w.heap.size + 1 ≠ g1 by omega) _), kD5 (keptS c2 (p := ⟨g1, k, none⟩) (show w.heap.size + 1 + 1 ≠ g1 by omega) _), keptFDr (keptFS ff _ _), Below.drew (hB.setCell (p := ⟨g1, k, none⟩) (show w.heap.size ≤ g1 by omega) _), by simp; omega⟩
          case measure => simp [intOf]; omega
      · obtain rfl : k = n := by omega
        go_wp2_with fail
        refine bodyPost_ret (v := .tuple #[.agg #[.int .i64 aw, .int .i64 ah, .int .i64 ad, .int .i64 ae, .slice (some ⟨g1, 0, none⟩) k k1], .int .i64 0]) ?_ rfl ?_
        · unfold results
          go_simp
        · exact ⟨g1, k1, rfl, (HK.out.far5 (ownNe (by omega)) _ _ _ _ _).mono (by omega), Below.set5 hB (by omega) _ _ _ _ _⟩

set_option maxHeartbeats 3200000 in
theorem resolve17_4 (a b : Tr) (B mn mc : Nat) (mA : Option Addr) (ml : List Bool) (w : World) (ha : a.ok w B) (hb : b.ok w B) (hB1 : B ≤ w.heap.size) (hE : wrongT [a, b] = 4) :
    Calls Try.prog 20 #[a.s.r a.A a.n a.c, .slice mA mn mc, b.s.r b.A b.n b.c] w fun e w' => e = .returned (.tuple #[(⟨0, 0, 0, 0⟩ : Sh).r none 0 0, .int .i64 4]) ∧ Below w.heap.size w w' := by
  have hB := Below.refl w.heap.size w
  have HMA := Lib.hid (Tr.okMay ha hB1)
  have HMB := Lib.hid (Tr.okMay hb hB1)
  have HS1 := Lib.hid (fun w => shape_any a.s b.s w)
  rcases wrong2_4 hE with h1 | ⟨h1, h2⟩
  · have VA := Lib.hid h1
    clear h1 hE
    dsimp only [Sh.r, Sh.v] at *
    go_enter Try.func20, Try.ntmps20
    go_wp2_with (first
        | (go_at_call 16; (with_reducible refine (HMA.out _ (bal (bal (bal hB _) _) _)).mono ?_); go_must (rintro e w1 ⟨rfl, hb1⟩; rw [VA.out]; have c2 := box5 hb1; simp only [World.size_alloc] at c2; have ff := boxF hb1; simp only [World.size_alloc] at ff; replace hb1 := bxd hb1; have c1 := box5 hb1; simp only [World.size_alloc] at c1; replace hb1 := bxd hb1; have c0 := box5 hb1; replace hB := bxd hb1; clear hb1)))
    refine bodyPost_ret (v := .tuple #[.agg #[.int .i64 0, .int .i64 0, .int .i64 0, .int .i64 0, .slice none 0 0], .int .i64 4]) ?_ rfl ?_
    · unfold results
      go_simp
    · exact ⟨rfl, Below.set5 hB (by omega) _ _ _ _ _⟩
  · have VA := Lib.hid h1
    have VB := Lib.hid h2
    clear h1 h2 hE
    dsimp only [Sh.r, Sh.v] at *
    go_enter Try.func20, Try.ntmps20
    go_wp2_with (first
        | (go_at_call 16; (with_reducible refine (HMA.out _ (bal (bal (bal hB _) _) _)).mono ?_); go_must (rintro e w1 ⟨rfl, hb1⟩; rw [VA.out]; have c2 := box5 hb1; simp only [World.size_alloc] at c2; have ff := boxF hb1; simp only [World.size_alloc] at ff; replace hb1 := bxd hb1; have c1 := box5 hb1; simp only [World.size_alloc] at c1; replace hb1 := bxd hb1; have c0 := box5 hb1; replace hB := bxd hb1; clear hb1))
        | (go_at_call 16; (with_reducible refine (HMB.out _ hB).mono ?_); go_must (rintro e w3 ⟨rfl, hb1⟩; rw [VB.out]; (try replace ff := keptF (ltOf c2 rfl) ff hb1); (try replace c0 := kept c0 rfl hb1); (try replace c1 := kept c1 rfl hb1); (try replace c2 := kept c2 rfl hb1); replace hB := bstep hB hb1 (Nat.le_refl _); clear hb1)))
    refine bodyPost_ret (v := .tuple #[.agg #[.int .i64 0, .int .i64 0, .int .i64 0, .int .i64 0, .slice none 0 0], .int .i64 4]) ?_ rfl ?_
    · unfold results
      go_simp
    · exact ⟨rfl, Below.set5 hB (by omega) _ _ _ _ _⟩

set_option maxHeartbeats 3200000 in
theorem resolve17_13 (a b : Tr) (B mn mc : Nat) (mA : Option Addr) (ml : List Bool) (w : World) (ha : a.ok w B) (hb : b.ok w B) (hB1 : B ≤ w.heap.size) (hE : wrongT [a, b] = 13) :
    Calls Try.prog 20 #[a.s.r a.A a.n a.c, .slice mA mn mc, b.s.r b.A b.n b.c] w fun e w' => e = .returned (.tuple #[(⟨0, 0, 0, 0⟩ : Sh).r none 0 0, .int .i64 13]) ∧ Below w.heap.size w w' := by
  have hB := Below.refl w.heap.size w
  have HMA := Lib.hid (Tr.okMay ha hB1)
  have HMB := Lib.hid (Tr.okMay hb hB1)
  have HS1 := Lib.hid (fun w => shape_any a.s b.s w)
  obtain ⟨h1, h2, h4⟩ := wrong2_13 hE
  have VA := Lib.hid h1
  have VB := Lib.hid h2
  have D1 := Lib.hid (decide_eq_false h4)
  clear h1 h2 h4 hE
  dsimp only [Sh.r, Sh.v] at *
  go_enter Try.func20, Try.ntmps20
  go_wp2_with (first
      | (go_at_call 16; (with_reducible refine (HMA.out _ (bal (bal (bal hB _) _) _)).mono ?_); go_must (rintro e w1 ⟨rfl, hb1⟩; rw [VA.out]; have c2 := box5 hb1; simp only [World.size_alloc] at c2; have ff := boxF hb1; simp only [World.size_alloc] at ff; replace hb1 := bxd hb1; have c1 := box5 hb1; simp only [World.size_alloc] at c1; replace hb1 := bxd hb1; have c0 := box5 hb1; replace hB := bxd hb1; clear hb1))
      | (go_at_call 16; (with_reducible refine (HMB.out _ hB).mono ?_); go_must (rintro e w3 ⟨rfl, hb1⟩; rw [VB.out]; (try replace ff := keptF (ltOf c2 rfl) ff hb1); (try replace c0 := kept c0 rfl hb1); (try replace c1 := kept c1 rfl hb1); (try replace c2 := kept c2 rfl hb1); replace hB := bstep hB hb1 (Nat.le_refl _); clear hb1))
      | (go_at_call 26; (with_reducible refine (HS1.out _).mono ?_); go_must (rintro e w4 ⟨rfl, hb1⟩; rw [D1.out]; (try replace ff := keptF (ltOf c2 rfl) ff hb1); (try replace c0 := kept c0 rfl hb1); (try replace c1 := kept c1 rfl hb1); (try replace c2 := kept c2 rfl hb1); replace hB := bstep hB hb1 (Nat.le_refl _); clear hb1)))
  refine bodyPost_ret (v := .tuple #[.agg #[.int .i64 0, .int .i64 0, .int .i64 0, .int .i64 0, .slice none 0 0], .int .i64 13]) ?_ rfl ?_
  · unfold results
    go_simp
  · exact ⟨rfl, Below.set5 hB (by omega) _ _ _ _ _⟩

set_option maxHeartbeats 3200000 in
theorem resolve17_len (a b : Tr) (B mn mc : Nat) (mA : Option Addr) (ml : List Bool) (w : World) (ha : a.ok w B) (hb : b.ok w B) (hB1 : B ≤ w.heap.size) (hE : wrongT [a, b] = 0) (hl : ¬ mn = a.n) :
    Calls Try.prog 20 #[a.s.r a.A a.n a.c, .slice mA mn mc, b.s.r b.A b.n b.c] w fun e w' => e = .returned (.tuple #[(⟨0, 0, 0, 0⟩ : Sh).r none 0 0, .int .i64 13]) ∧ Below w.heap.size w w' := by
  have hB := Below.refl w.heap.size w
  have HMA := Lib.hid (Tr.okMay ha hB1)
  have HMB := Lib.hid (Tr.okMay hb hB1)
  have HS1 := Lib.hid (fun w => shape_any a.s b.s w)
  obtain ⟨h1, h2, h4⟩ := wrong2_zero hE
  have VA := Lib.hid h1
  have VB := Lib.hid h2
  have D1 := Lib.hid (decide_eq_true h4.symm)
  have d1 : ((mn : Int) == (a.n : Int)) = false := by rw [beq_eq_false_iff_ne]; omega
  have d2 : ((mn : Int) != (a.n : Int)) = true := by simp [bne, d1]
  clear h1 h2 h4 hE hl
  dsimp only [Sh.r, Sh.v] at *
  go_enter Try.func20, Try.ntmps20
  go_wp2_with (first
      | (go_at_call 16; (with_reducible refine (HMA.out _ (bal (bal (bal hB _) _) _)).mono ?_); go_must (rintro e w1 ⟨rfl, hb1⟩; rw [VA.out]; have c2 := box5 hb1; simp only [World.size_alloc] at c2; have ff := boxF hb1; simp only [World.size_alloc] at ff; replace hb1 := bxd hb1; have c1 := box5 hb1; simp only [World.size_alloc] at c1; replace hb1 := bxd hb1; have c0 := box5 hb1; replace hB := bxd hb1; clear hb1))
      | (go_at_call 16; (with_reducible refine (HMB.out _ hB).mono ?_); go_must (rintro e w3 ⟨rfl, hb1⟩; rw [VB.out]; (try replace ff := keptF (ltOf c2 rfl) ff hb1); (try replace c0 := kept c0 rfl hb1); (try replace c1 := kept c1 rfl hb1); (try replace c2 := kept c2 rfl hb1); replace hB := bstep hB hb1 (Nat.le_refl _); clear hb1))
      | (go_at_call 26; (with_reducible refine (HS1.out _).mono ?_); go_must (rintro e w4 ⟨rfl, hb1⟩; rw [D1.out]; (try replace ff := keptF (ltOf c2 rfl) ff hb1); (try replace c0 := kept c0 rfl hb1); (try replace c1 := kept c1 rfl hb1); (try replace c2 := kept c2 rfl hb1); replace hB := bstep hB hb1 (Nat.le_refl _); clear hb1)))
  refine bodyPost_ret (v := .tuple #[.agg #[.int .i64 0, .int .i64 0, .int .i64 0, .int .i64 0, .slice none 0 0], .int .i64 13]) ?_ rfl ?_
  · unfold results
    go_simp
  · exact ⟨rfl, Below.set5 hB (by omega) _ _ _ _ _⟩

set_option maxRecDepth 100000 in
set_option maxHeartbeats 12800000 in
theorem resolve17_ok (a b : Tr) (B mn mc : Nat) (mA : Option Addr) (ml : List Bool) (w : World) (ha : a.ok w B) (hb : b.ok w B) (hB1 : B ≤ w.heap.size) (hm : RdL w B mA mn ml) (hmc : mn ≤ mc) (hmm : mc ≤ maxLen) (hE : wrongT [a, b] = 0) (hl : mn = a.n) :
    Calls Try.prog 20 #[a.s.r a.A a.n a.c, .slice mA mn mc, b.s.r b.A b.n b.c] w fun e w' => ∃ g1 k1, e = .returned (.tuple #[a.s.r (some ⟨g1, 0, none⟩) a.n k1, .int .i64 0]) ∧
      ownT w' w.heap.size (.slice (some ⟨g1, 0, none⟩) a.n k1) (rsK a.ts b.ts ml a.n) ∧ Below w.heap.size w w' := by
  have hB := Below.refl w.heap.size w
  have HMA := Lib.hid (Tr.okMay ha hB1)
  have HMB := Lib.hid (Tr.okMay hb hB1)
  have HS1 := Lib.hid (fun w => shape_any a.s b.s w)
  have VA := Lib.hid (wrong2_zero hE).1
  have VB := Lib.hid (wrong2_zero hE).2.1
  have D1 := Lib.hid (decide_eq_true (wrong2_zero hE).2.2.symm)
  obtain ⟨m2, m3, s2⟩ := wrong2_zero hE
  have l2 : b.ts.length = a.ts.length := (may_len2 m2 m3 s2)
  obtain ⟨n1, n0, -, -⟩ := mayT_len m2
  have HC := Lib.hid (fun (w' : World) (h : Below w.heap.size w w') => copyT_any B a.n a.c a.A a.ts w' (ha.1.blw (h.mono hB1)) (by have := ha.1.len; omega))
  obtain ⟨aq, am, -, -⟩ := ha
  obtain ⟨bq, bm, -, -⟩ := hb
  clear m2 m3 s2 hE
  obtain ⟨⟨aw, ah, ad, ae⟩, aA, n, ac, ats⟩ := a
  obtain ⟨⟨bw, bh, bd, be⟩, bA, bn, bc, bts⟩ := b
  dsimp only at *
  subst hl
  have L2 := aq.len
  have L3 := bq.len
  have e2 : mn = bn := by omega
  subst e2
  obtain ⟨n, hn⟩ : ∃ n, n = mn := ⟨_, rfl⟩
  subst hn
  rw [L2] at n1 n0
  obtain ⟨ab, ao, rfl, hab, acs⟩ := aq.at_ (by omega)
  obtain ⟨bb, bo, rfl, hbb, bcs⟩ := bq.at_ (by omega)
  have L1 := hm.len
  obtain ⟨mb, mo, rfl, hmb, mcs⟩ := hm.at_ (by omega)
  have HBB := Lib.hid (fun (w' : World) (h : Below w.heap.size w w') (j : Nat) (hj : j < bts.length) => (show w'.cell? ⟨bb, bo + j, none⟩ = some (.string bts[j]) from bsame (h.mono hB1) hbb (bcs j hj)))
  have HMM := Lib.hid (fun (w' : World) (h : Below w.heap.size w w') (j : Nat) (hj : j < ml.length) => (show w'.cell? ⟨mb, mo + j, none⟩ = some (.bool ml[j]) from bsame (h.mono hB1) hmb (mcs j hj)))
  have M1 := Lib.hid L1
  have M2 := Lib.hid L2
  have M3 := Lib.hid L3
  have hn9 : n ≤ 1099511627776 := by omega
  clear aq bq acs bcs mcs L1 L2 L3 l2 hab hbb hmb hB1 hm hmm
  dsimp only [Sh.r, Sh.v] at *
  go_enter Try.func20, Try.ntmps20
  go_upto_region 5 with (first
      | (go_at_call 16; (with_reducible refine (HMA.out _ (bal (bal (bal hB _) _) _)).mono ?_); go_must (rintro e w1 ⟨rfl, hb1⟩; rw [VA.out]; have c2 := box5 hb1; simp only [World.size_alloc] at c2; have ff := boxF hb1; simp only [World.size_alloc] at ff; replace hb1 := bxd hb1; have c1 := box5 hb1; simp only [World.size_alloc] at c1; replace hb1 := bxd hb1; have c0 := box5 hb1; replace hB := bxd hb1; clear hb1))
      | (go_at_call 16; (with_reducible refine (HMB.out _ hB).mono ?_); go_must (rintro e w3 ⟨rfl, hb1⟩; rw [VB.out]; (try replace ff := keptF (ltOf c2 rfl) ff hb1); (try replace c0 := kept c0 rfl hb1); (try replace c1 := kept c1 rfl hb1); (try replace c2 := kept c2 rfl hb1); replace hB := bstep hB hb1 (Nat.le_refl _); clear hb1))
      | (go_at_call 26; (with_reducible refine (HS1.out _).mono ?_); go_must (rintro e w4 ⟨rfl, hb1⟩; rw [D1.out]; (try replace ff := keptF (ltOf c2 rfl) ff hb1); (try replace c0 := kept c0 rfl hb1); (try replace c1 := kept c1 rfl hb1); (try replace c2 := kept c2 rfl hb1); replace hB := bstep hB hb1 (Nat.le_refl _); clear hb1)))
  have hz3 : w.heap.size + 1 + 1 < w4.heap.size := ltOf c2 rfl
  go_cut [8] (fun q wc => ∃ gt g1 k1, q = .pointer (some ⟨gt, 0, none⟩) ∧ (w.heap.size + 3 ≤ gt ∧ w.heap.size + 3 ≤ g1 ∧ gt ≠ g1 ∧ g1 < wc.heap.size ∧ n ≤ k1 ∧ k1 ≤ maxLen) ∧ (∀ i, wc.cell? ⟨gt, i, none⟩ = r5 (.int .i64 aw) (.int .i64 ah) (.int .i64 ad) (.int .i64 ae) (.slice (some ⟨g1, 0, none⟩) n k1) i) ∧ Hid (ownT wc (w.heap.size + 3) (.slice (some ⟨g1, 0, none⟩) n k1) ats) ∧ (∀ i, wc.cell? ⟨w.heap.size, i, none⟩ = r5 (.int .i64 aw) (.int .i64 ah) (.int .i64 ad) (.int .i64 ae) (.slice (some ⟨ab, ao, none⟩) n ac) i) ∧ (∀ i, wc.cell? ⟨w.heap.size + 1, i, none⟩ = r5 (.int .i64 bw) (.int .i64 bh) (.int .i64 bd) (.int .i64 be) (.slice (some ⟨bb, bo, none⟩) n bc) i) ∧ (∀ i, wc.cell? ⟨w.heap.size + 1 + 1, i, none⟩ = r5 (.int .i64 0) (.int .i64 0) (.int .i64 0) (.int .i64 0) (.slice none 0 0) i) ∧ (∀ i, wc.frozen? ⟨w.heap.size + 1 + 1, i, none⟩ = false) ∧ Below w.heap.size w wc)
  case first =>
    go_region_held3 (fun w' => ∀ i, w'.cell? ⟨w.heap.size, i, none⟩ = r5 (.int .i64 aw) (.int .i64 ah) (.int .i64 ad) (.int .i64 ae) (.slice (some ⟨ab, ao, none⟩) n ac) i)
      (first | (with_reducible exact c0) | (repeat (first | with_reducible exact c0 | ((with_reducible refine keptS5 ?_ ?_ _ _ _ _ _); rotate_left 1; omega) | (with_reducible refine kD5 ?_) | (with_reducible refine kA5 ?_ _) | (with_reducible refine kX5 hb3 ?_) | (with_reducible refine kDX5 hb3 ?_))))
      (first | (go_at_call 18; (first | (with_reducible refine (HC.out _ hB).mono ?_) | (with_reducible refine (HC.out _ (bal hB _)).mono ?_) | (with_reducible refine (HC.out _ (Below.drew hB)).mono ?_) | (with_reducible refine (HC.out _ (Below.drew (bal hB _))).mono ?_)); go_must (rintro e w3 ⟨v3, rfl, ho3, hb3⟩; obtain ⟨A3, k1, rfl, -, hk1, hk2⟩ := ho3.form; rw [M2.out] at ho3 hk1 ⊢; obtain ⟨-, g1, rfl, hg1, hg2⟩ := ho3.pos (by omega); (first | have z3 : w4.heap.size + 1 ≤ w3.heap.size := (by have := hb3.size; simpa using this) | have z3 : w4.heap.size ≤ w3.heap.size := (by have := hb3.size; simpa using this)); (try simp only [World.size_drew, World.size_alloc] at hg1); (try (have z5 : w4.heap.size < w3.heap.size := (by omega))); (try (have z6 : ¬ w4.heap.size = w3.heap.size := (by omega))); have HO3 := Lib.hid (ho3.mono (base' := w.heap.size + 3) (by first | (simp only [World.size_drew, World.size_alloc]; omega) | omega)); clear ho3; (try obtain ⟨hc3, hf3⟩ := bcell hb3))))
    all_goals
      go_wp2_with fail
      go_meet
      case rel =>
        have c03 := (by first | with_reducible exact kDX5 hb3 c0 | with_reducible exact kDX5 hb3 (kA5 c0 _) | with_reducible exact kX5 hb3 c0 | with_reducible exact kX5 hb3 (kA5 c0 _) : ∀ i, w3.cell? ⟨w.heap.size, i, none⟩ = r5 (.int .i64 aw) (.int .i64 ah) (.int .i64 ad) (.int .i64 ae) (.slice (some ⟨ab, ao, none⟩) n ac) i)
        have c13 := (by first | with_reducible exact kDX5 hb3 c1 | with_reducible exact kDX5 hb3 (kA5 c1 _) | with_reducible exact kX5 hb3 c1 | with_reducible exact kX5 hb3 (kA5 c1 _) : ∀ i, w3.cell? ⟨w.heap.size + 1, i, none⟩ = r5 (.int .i64 bw) (.int .i64 bh) (.int .i64 bd) (.int .i64 be) (.slice (some ⟨bb, bo, none⟩) n bc) i)
        have c23 := (by first | with_reducible exact kDX5 hb3 c2 | with_reducible exact kDX5 hb3 (kA5 c2 _) | with_reducible exact kX5 hb3 c2 | with_reducible exact kX5 hb3 (kA5 c2 _) : ∀ i, w3.cell? ⟨w.heap.size + 1 + 1, i, none⟩ = r5 (.int .i64 0) (.int .i64 0) (.int .i64 0) (.int .i64 0) (.slice none 0 0) i)
        have ff3 : ∀ i, w3.frozen? ⟨w.heap.size + 1 + 1, i, none⟩ = false := (by first | with_reducible exact keptFD hz3 ff hb3 | with_reducible exact keptFD (by simp only [World.size_alloc]; omega) (keptFA hz3 ff _) hb3)
        have hB3 : Below w.heap.size w w3 := (by first | with_reducible exact bstep (Below.drew hB) hb3 (Nat.le_refl _) | with_reducible exact bstep (Below.drew (Below.alloc hB hB.size _)) hb3 (Nat.le_refl _))
        have q3 := hB3.size
        first
          | (with_reducible refine ⟨w3.heap.size, g1, k1, rfl, ⟨by omega, by omega, by omega, by simp <;> omega, hk1, hk2⟩, ?_, ?_, ?_, ?_, ?_, ?_, ?_⟩
             · with_reducible exact new5 w3 _ _ _ _ _ _ _
             · exact HO3.out.alloc _
             · with_reducible exact kA5 c03 _
             · with_reducible exact kA5 c13 _
             · with_reducible exact kA5 c23 _
             · exact keptFA (by omega) ff3 _
             · exact bal hB3 _)
          | (with_reducible refine ⟨w4.heap.size, g1, k1, rfl, ⟨by omega, by omega, by omega, by simp <;> omega, hk1, hk2⟩, ?_, ?_, ?_, ?_, ?_, ?_, ?_⟩
             · with_reducible exact set5 (kDX5 hb3 (new5 w4 _ _ _ _ _ _ _)) _ _ _ _ _
             · exact HO3.out.far5 (ownNe (by omega)) _ _ _ _ _
             · with_reducible exact keptS5 c03 (by omega) _ _ _ _ _
             · with_reducible exact keptS5 c13 (by omega) _ _ _ _ _
             · with_reducible exact keptS5 c23 (by omega) _ _ _ _ _
             · exact keptF5 ff3 _ _ _ _ _
             · exact Below.set5 hB3 (by omega) _ _ _ _ _)
  case rest =>
    clear c0 c1 c2 ff hB hz3
    obtain ⟨gt, g1, k1, rfl, ⟨t1, t2, t3, t4, t5, t6⟩, cT, HK, c0, c1, c2, ff, hB⟩ := hcut
    have hgt : gt < wc.heap.size := ltOf cT rfl
    have hz3 : w.heap.size + 1 + 1 < wc.heap.size := ltOf c2 rfl
    unfold maxLen at t6
    go_wp2_with fail
    go_loopw [9] (fun i wr => ∃ k : Nat, k ≤ n ∧ i = .int .i64 k ∧ Hid (ownT wr (w.heap.size + 3) (.slice (some ⟨g1, 0, none⟩) n k1) (rsK ats bts ml k)) ∧ (∀ i, wr.cell? ⟨gt, i, none⟩ = r5 (.int .i64 aw) (.int .i64 ah) (.int .i64 ad) (.int .i64 ae) (.slice (some ⟨g1, 0, none⟩) n k1) i) ∧ (∀ i, wr.cell? ⟨w.heap.size, i, none⟩ = r5 (.int .i64 aw) (.int .i64 ah) (.int .i64 ad) (.int .i64 ae) (.slice (some ⟨ab, ao, none⟩) n ac) i) ∧ (∀ i, wr.cell? ⟨w.heap.size + 1, i, none⟩ = r5 (.int .i64 bw) (.int .i64 bh) (.int .i64 bd) (.int .i64 be) (.slice (some ⟨bb, bo, none⟩) n bc) i) ∧ (∀ i, wr.cell? ⟨w.heap.size + 1 + 1, i, none⟩ = r5 (.int .i64 0) (.int .i64 0) (.int .i64 0) (.int .i64 0) (.slice none 0 0) i) ∧ (∀ i, wr.frozen? ⟨w.heap.size + 1 + 1, i, none⟩ = false) ∧ Below w.heap.size w wr ∧ wc.heap.size ≤ wr.heap.size) (fun i _ => n - (intOf i).toNat)
    case atStart => exact ⟨0, Nat.zero_le _, rfl, (show ownT _ _ _ _ by rw [rsK_0]; exact HK.out), cT, c0, c1, c2, ff, hB, Nat.le_refl _⟩
    case round =>
      clear cT c0 c1 c2 ff hB HK
      obtain ⟨k, hk, rfl, HK, cT, c0, c1, c2, ff, hB, hsz⟩ := hrel
      have hzr : w.heap.size + 1 + 1 < wr.heap.size := by omega
      by_cases hlt : k < n
      · have k1' : k < ml.length := by rw [M1.out]; exact hlt
        have k2' : k < ats.length := by rw [M2.out]; exact hlt
        have k3' : k < bts.length := by rw [M3.out]; exact hlt
        have e0 := HMM.out _ hB k k1'
        have e2 := HBB.out _ hB k k3'
        obtain ⟨x, hx⟩ : ∃ x, x = ml[k] := ⟨_, rfl⟩
        obtain ⟨y, hy⟩ : ∃ y, y = bts[k] := ⟨_, rfl⟩
        have GX := Lib.hid (show ml[k]? = some x by rw [hx]; exact List.getElem?_eq_getElem k1')
        have GY := Lib.hid (show bts[k]? = some y by rw [hy]; exact List.getElem?_eq_getElem k3')
        rw [← hx] at e0
        rw [← hy] at e2
        have kk : k < (rsK ats bts ml k).length := by rw [rsK_len]; exact k2'
        obtain ⟨z, xk⟩ : ∃ z, wr.cell? ⟨g1, k, none⟩ = some (.string z) := ⟨_, HK.out.cell (by rw [rsK_len, M2.out]) kk⟩
        have fk : wr.frozen? ⟨g1, k, none⟩ = false := HK.out.frozen (by rw [rsK_len, M2.out]) k
        clear hx hy k1' k2' k3' kk
        cases x with
        | false =>
          have EK : Hid (rsK ats bts ml (k + 1) = rsK ats bts ml k) := rsK_no GX.out
          go_wp2_with fail
          go_roundw
          case rel => exact ⟨k + 1, by omega, by go_num, (show ownT _ _ _ _ by rw [EK.out]; exact HK.out), cT, c0, c1, c2, ff, hB, hsz⟩
          case measure => simp [intOf]; omega
        | true =>
          have EK : Hid (rsK ats bts ml (k + 1) = (rsK ats bts ml k).set k y) := rsK_yes GX.out GY.out
          go_wp2_with fail
          go_still_tail 9, (by kernel_rfl)
          go_wp2_with fail
          go_roundw
          case rel => exact ⟨k + 1, by omega, by go_num, (show ownT _ _ _ _ by rw [EK.out]; exact ownT.drew (HK.out.store (by rw [rsK_len, M2.out]) k y)), kD5 (keptS cT (p := ⟨g1, k, none⟩) (show gt ≠ g1 by omega) _), kD5 (keptS c0 (p := ⟨g1, k, none⟩) (show w.heap.size ≠ g1 by omega) _), kD5 (keptS c1 (p := ⟨g1, k, none⟩) (show w.heap.size + 1 ≠ g1 by omega) _), kD5 (keptS c2 (p := ⟨g1, k, none⟩) (show w.heap.size + 1 + 1 ≠ g1 by omega) _), keptFDr (keptFS ff _ _), Below.drew (hB.setCell (p := ⟨g1, k, none⟩) (show w.heap.size ≤ g1 by omega) _), by simp; omega⟩
          case measure => simp [intOf]; omega
      · obtain rfl : k = n := by omega
        go_wp2_with fail
        refine bodyPost_ret (v := .tuple #[.agg #[.int .i64 aw, .int .i64 ah, .int .i64 ad, .int .i64 ae, .slice (some ⟨g1, 0, none⟩) k k1], .int .i64 0]) ?_ rfl ?_
        · unfold results
          go_simp
        · exact ⟨g1, k1, rfl, (HK.out.far5 (ownNe (by omega)) _ _ _ _ _).mono (by omega), Below.set5 hB (by omega) _ _ _ _ _⟩

end Go.Proofs.Ytmffmijjdpjaiaa
