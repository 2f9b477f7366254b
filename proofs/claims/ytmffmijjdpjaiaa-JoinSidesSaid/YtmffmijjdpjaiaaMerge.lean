/- join: Merge. -/
import Derived.Test.YtmffmijjdpjaiaaMergeP
import Derived.Test.YtmffmijjdpjaiaaBox2
import Derived.Deep.RegionHeld3
namespace Go.Proofs.Ytmffmijjdpjaiaa
set_option linter.all false
open Go.RowKit

theorem bal {a w : World} (h : Below a.heap.size a w) (o : Obj) : Below a.heap.size a (w.alloc o) := h.alloc h.size _

set_option maxHeartbeats 1600000 in
theorem merge_no (o a b : Tr) (B : Nat) (w : World) (ho : o.ok w B) (ha : a.ok w B) (hb : b.ok w B) (hB1 : B ≤ w.heap.size) (E : Int) (hE : wrongT [o, a, b] = E) (hE0 : E = 4 ∨ E = 13) :
    Calls Try.prog 9 #[o.s.r o.A o.n o.c, a.s.r a.A a.n a.c, b.s.r b.A b.n b.c] w fun e w' => e = .returned (.tuple #[(⟨0, 0, 0, 0⟩ : Sh).r none 0 0, .slice none 0 0, .int .i64 E]) ∧ Below w.heap.size w w' := by
  have hB := Below.refl w.heap.size w
  have HW := Lib.hid (fun (w' : World) (g : Nat) (hrow : ∀ (j : Nat) (u : Value), (tcs [o, a, b])[j]? = some u → w'.cell? ⟨g, j, none⟩ = some u) (h : Below w.heap.size w w') => wrong3_any o a b B w w' ho ha hb hB1 g hrow h)
  have HE := Lib.hid hE
  have hne : ((E : Int) != 0) = true := by rcases hE0 with rfl | rfl <;> rfl
  clear ho ha hb hE
  dsimp only [Sh.r]
  go_enter Try.func9, Try.ntmps9
  go_wp2_with (go_at_call 23; (with_reducible refine (HW.out _ _ ?_ ?_).mono ?_); exact row_new rfl (by simp); exact (bal (bal (bal (bal (bal hB _) _) _) _) _); go_must (rintro e w1 ⟨rfl, hb1⟩; rw [HE.out]; replace hb1 := bxd hb1; have c3 := box5 hb1; simp only [World.size_alloc] at c3; have ff := boxF hb1; simp only [World.size_alloc] at ff; replace hb1 := bxd hb1; have c2 := box5 hb1; simp only [World.size_alloc] at c2; replace hb1 := bxd hb1; have c1 := box5 hb1; simp only [World.size_alloc] at c1; replace hb1 := bxd hb1; have c0 := box5 hb1; replace hB := bxd hb1; clear hb1))
  refine bodyPost_ret (v := .tuple #[.agg #[.int .i64 0, .int .i64 0, .int .i64 0, .int .i64 0, .slice none 0 0], .slice none 0 0, .int .i64 E]) ?_ rfl ?_
  · unfold results
    go_simp
  · exact ⟨rfl, Below.set5 hB (by omega) _ _ _ _ _⟩

theorem ownNe {g g' n c : Nat} (h : g ≠ g') : (Value.slice (some ⟨g, 0, none⟩) n c).ownBlock ≠ some g' := fun e => h (Option.some.inj e)
theorem kN5 {w : World} {b k : Nat} {a0 a1 a2 a3 a4 : Value} (c : ∀ i, w.cell? ⟨b, i, none⟩ = r5 a0 a1 a2 a3 a4 i) : ∀ i, (w.drewN k).cell? ⟨b, i, none⟩ = r5 a0 a1 a2 a3 a4 i := c
theorem keptFN {w : World} {b k : Nat} (f : ∀ i, w.frozen? ⟨b, i, none⟩ = false) : ∀ i, (w.drewN k).frozen? ⟨b, i, none⟩ = false := f
theorem ownT.far5 {w : World} {base g : Nat} {v : Value} {l : List ByteArray} (h : ownT w base v l) (hg : v.ownBlock ≠ some g) (v0 v1 v2 v3 v4 : Value) :
    ownT (((((w.setCell ⟨g, 0, none⟩ v0).setCell ⟨g, 1, none⟩ v1).setCell ⟨g, 2, none⟩ v2).setCell ⟨g, 3, none⟩ v3).setCell ⟨g, 4, none⟩ v4) base v l :=
  ((((h.far hg 0 v0).far hg 1 v1).far hg 2 v2).far hg 3 v3).far hg 4 v4
theorem ownL.far5 {w : World} {base g : Nat} {v : Value} {l : List Bool} (h : ownL w base v l) (hg : v.ownBlock ≠ some g) (v0 v1 v2 v3 v4 : Value) :
    ownL (((((w.setCell ⟨g, 0, none⟩ v0).setCell ⟨g, 1, none⟩ v1).setCell ⟨g, 2, none⟩ v2).setCell ⟨g, 3, none⟩ v3).setCell ⟨g, 4, none⟩ v4) base v l :=
  ((((h.far hg 0 v0).far hg 1 v1).far hg 2 v2).far hg 3 v3).far hg 4 v4

set_option maxRecDepth 100000 in
set_option maxHeartbeats 12800000 in
theorem merge_ok (o a b : Tr) (B : Nat) (w : World) (ho : o.ok w B) (ha : a.ok w B) (hb : b.ok w B) (hB1 : B ≤ w.heap.size) (hE : wrongT [o, a, b] = 0) :
    Calls Try.prog 9 #[o.s.r o.A o.n o.c, a.s.r a.A a.n a.c, b.s.r b.A b.n b.c] w fun e w' => ∃ g1 k1 g2, e = .returned (.tuple #[a.s.r (some ⟨g1, 0, none⟩) a.n k1, .slice (some ⟨g2, 0, none⟩) a.n a.n, .int .i64 0]) ∧ g1 ≠ g2 ∧
      ownT w' w.heap.size (.slice (some ⟨g1, 0, none⟩) a.n k1) (upK o.ts a.ts b.ts a.n) ∧ ownL w' w.heap.size (.slice (some ⟨g2, 0, none⟩) a.n a.n) (upM o.ts a.ts b.ts a.n) ∧ Below w.heap.size w w' := by
  have hB := Below.refl w.heap.size w
  have HW := Lib.hid (fun (w' : World) (g : Nat) (hrow : ∀ (j : Nat) (u : Value), (tcs [o, a, b])[j]? = some u → w'.cell? ⟨g, j, none⟩ = some u) (h : Below w.heap.size w w') => wrong3_any o a b B w w' ho ha hb hB1 g hrow h)
  have HE := Lib.hid hE
  obtain ⟨m1, m2, m3, s1, s2⟩ := wrong3_zero hE
  have l1 : o.ts.length = a.ts.length := (may_len2 m1 m2 s1).symm
  have l2 : b.ts.length = a.ts.length := (may_len2 m1 m3 s2).trans l1
  obtain ⟨n1, n0, -, -⟩ := mayT_len m2
  have HC := Lib.hid (fun (w' : World) (h : Below w.heap.size w w') => cloneT_any B a.n a.c a.A a.ts w' (ha.1.blw (h.mono hB1)) (by have := ha.1.len; omega))
  obtain ⟨oq, om, -, -⟩ := ho
  obtain ⟨aq, am, -, -⟩ := ha
  obtain ⟨bq, bm, -, -⟩ := hb
  clear m1 m2 m3 s1 s2 hE
  obtain ⟨⟨ow, oh, od, oe⟩, oA, on, oc, ots⟩ := o
  obtain ⟨⟨aw, ah, ad, ae⟩, aA, n, ac, ats⟩ := a
  obtain ⟨⟨bw, bh, bd, be⟩, bA, bn, bc, bts⟩ := b
  dsimp only at *
  have L1 := oq.len
  have L2 := aq.len
  have L3 := bq.len
  have e1 : n = on := by omega
  subst e1
  have e2 : n = bn := by omega
  subst e2
  rw [L2] at n1 n0
  obtain ⟨ob, oo, rfl, hob, ocs⟩ := oq.at_ (by omega)
  obtain ⟨ab, ao, rfl, hab, acs⟩ := aq.at_ (by omega)
  obtain ⟨bb, bo, rfl, hbb, bcs⟩ := bq.at_ (by omega)
  have HO := Lib.hid (fun (w' : World) (h : Below w.heap.size w w') (j : Nat) (hj : j < ots.length) => (show w'.cell? ⟨ob, oo + j, none⟩ = some (.string ots[j]) from bsame (h.mono hB1) hob (ocs j hj)))
  have HA := Lib.hid (fun (w' : World) (h : Below w.heap.size w w') (j : Nat) (hj : j < ats.length) => (show w'.cell? ⟨ab, ao + j, none⟩ = some (.string ats[j]) from bsame (h.mono hB1) hab (acs j hj)))
  have HBB := Lib.hid (fun (w' : World) (h : Below w.heap.size w w') (j : Nat) (hj : j < bts.length) => (show w'.cell? ⟨bb, bo + j, none⟩ = some (.string bts[j]) from bsame (h.mono hB1) hbb (bcs j hj)))
  have M1 := Lib.hid L1
  have M2 := Lib.hid L2
  have M3 := Lib.hid L3
  have hn9 : n ≤ 1099511627776 := by omega
  clear oq aq bq ocs acs bcs L1 L2 L3 l1 l2 hob hab hbb hB1
  dsimp only [Sh.r] at *
  go_enter Try.func9, Try.ntmps9
  go_upto_region 4 with (go_at_call 23; (with_reducible refine (HW.out _ _ ?_ ?_).mono ?_); exact row_new rfl (by simp); exact (bal (bal (bal (bal (bal hB _) _) _) _) _); go_must (rintro e w1 ⟨rfl, hb1⟩; rw [HE.out]; replace hb1 := bxd hb1; have c3 := box5 hb1; simp only [World.size_alloc] at c3; have ff := boxF hb1; simp only [World.size_alloc] at ff; replace hb1 := bxd hb1; have c2 := box5 hb1; simp only [World.size_alloc] at c2; replace hb1 := bxd hb1; have c1 := box5 hb1; simp only [World.size_alloc] at c1; replace hb1 := bxd hb1; have c0 := box5 hb1; replace hB := bxd hb1; clear hb1))
  have hz3 : w.heap.size + 1 + 1 + 1 < w1.heap.size := ltOf c3 rfl
  go_cut [10] (fun q wc => ∃ gt g1 k1, q = .pointer (some ⟨gt, 0, none⟩) ∧ (w.heap.size + 4 ≤ gt ∧ w.heap.size + 4 ≤ g1 ∧ gt ≠ g1 ∧ g1 < wc.heap.size ∧ n ≤ k1 ∧ k1 ≤ maxLen) ∧ (∀ i, wc.cell? ⟨gt, i, none⟩ = r5 (.int .i64 aw) (.int .i64 ah) (.int .i64 ad) (.int .i64 ae) (.slice (some ⟨g1, 0, none⟩) n k1) i) ∧ Hid (ownT wc (w.heap.size + 4) (.slice (some ⟨g1, 0, none⟩) n k1) ats) ∧ (∀ i, wc.cell? ⟨w.heap.size, i, none⟩ = r5 (.int .i64 ow) (.int .i64 oh) (.int .i64 od) (.int .i64 oe) (.slice (some ⟨ob, oo, none⟩) n oc) i) ∧ (∀ i, wc.cell? ⟨w.heap.size + 1, i, none⟩ = r5 (.int .i64 aw) (.int .i64 ah) (.int .i64 ad) (.int .i64 ae) (.slice (some ⟨ab, ao, none⟩) n ac) i) ∧ (∀ i, wc.cell? ⟨w.heap.size + 1 + 1, i, none⟩ = r5 (.int .i64 bw) (.int .i64 bh) (.int .i64 bd) (.int .i64 be) (.slice (some ⟨bb, bo, none⟩) n bc) i) ∧ (∀ i, wc.cell? ⟨w.heap.size + 1 + 1 + 1, i, none⟩ = r5 (.int .i64 0) (.int .i64 0) (.int .i64 0) (.int .i64 0) (.slice none 0 0) i) ∧ (∀ i, wc.frozen? ⟨w.heap.size + 1 + 1 + 1, i, none⟩ = false) ∧ Below w.heap.size w wc)
  case first =>
    go_region_held3 (fun w' => ∀ i, w'.cell? ⟨w.heap.size + 1, i, none⟩ = r5 (.int .i64 aw) (.int .i64 ah) (.int .i64 ad) (.int .i64 ae) (.slice (some ⟨ab, ao, none⟩) n ac) i)
      (first | (with_reducible exact c1) | (repeat (first | with_reducible exact c1 | ((with_reducible refine keptS5 ?_ ?_ _ _ _ _ _); rotate_left 1; omega) | (with_reducible refine kD5 ?_) | (with_reducible refine kA5 ?_ _) | (with_reducible refine kX5 hb3 ?_) | (with_reducible refine kDX5 hb3 ?_))))
      (first | (go_at_call 24; (first | (with_reducible refine (HC.out _ hB).mono ?_) | (with_reducible refine (HC.out _ (bal hB _)).mono ?_) | (with_reducible refine (HC.out _ (Below.drew hB)).mono ?_) | (with_reducible refine (HC.out _ (Below.drew (bal hB _))).mono ?_)); go_must (rintro e w3 ⟨v3, rfl, ho3, hb3⟩; obtain ⟨A3, k1, rfl, -, hk1, hk2⟩ := ho3.form; rw [M2.out] at ho3 hk1 ⊢; obtain ⟨-, g1, rfl, hg1, hg2⟩ := ho3.pos (by omega); (first | have z3 : w1.heap.size + 1 ≤ w3.heap.size := (by have := hb3.size; simpa using this) | have z3 : w1.heap.size ≤ w3.heap.size := (by have := hb3.size; simpa using this)); (try simp only [World.size_drew, World.size_alloc] at hg1); (try (have z5 : w1.heap.size < w3.heap.size := (by omega))); (try (have z6 : ¬ w1.heap.size = w3.heap.size := (by omega))); have HO3 := Lib.hid (ho3.mono (base' := w.heap.size + 4) (by first | (simp only [World.size_drew, World.size_alloc]; omega) | omega)); clear ho3; (try obtain ⟨hc3, hf3⟩ := bcell hb3))))
    all_goals
      go_wp2_with fail
      go_meet
      case rel =>
        have c03 := (by first | with_reducible exact kDX5 hb3 c0 | with_reducible exact kDX5 hb3 (kA5 c0 _) | with_reducible exact kX5 hb3 c0 | with_reducible exact kX5 hb3 (kA5 c0 _) : ∀ i, w3.cell? ⟨w.heap.size, i, none⟩ = r5 (.int .i64 ow) (.int .i64 oh) (.int .i64 od) (.int .i64 oe) (.slice (some ⟨ob, oo, none⟩) n oc) i)
        have c13 := (by first | with_reducible exact kDX5 hb3 c1 | with_reducible exact kDX5 hb3 (kA5 c1 _) | with_reducible exact kX5 hb3 c1 | with_reducible exact kX5 hb3 (kA5 c1 _) : ∀ i, w3.cell? ⟨w.heap.size + 1, i, none⟩ = r5 (.int .i64 aw) (.int .i64 ah) (.int .i64 ad) (.int .i64 ae) (.slice (some ⟨ab, ao, none⟩) n ac) i)
        have c23 := (by first | with_reducible exact kDX5 hb3 c2 | with_reducible exact kDX5 hb3 (kA5 c2 _) | with_reducible exact kX5 hb3 c2 | with_reducible exact kX5 hb3 (kA5 c2 _) : ∀ i, w3.cell? ⟨w.heap.size + 1 + 1, i, none⟩ = r5 (.int .i64 bw) (.int .i64 bh) (.int .i64 bd) (.int .i64 be) (.slice (some ⟨bb, bo, none⟩) n bc) i)
        have c33 := (by first | with_reducible exact kDX5 hb3 c3 | with_reducible exact kDX5 hb3 (kA5 c3 _) | with_reducible exact kX5 hb3 c3 | with_reducible exact kX5 hb3 (kA5 c3 _) : ∀ i, w3.cell? ⟨w.heap.size + 1 + 1 + 1, i, none⟩ = r5 (.int .i64 0) (.int .i64 0) (.int .i64 0) (.int .i64 0) (.slice none 0 0) i)
        have ff3 : ∀ i, w3.frozen? ⟨w.heap.size + 1 + 1 + 1, i, none⟩ = false := (by first | with_reducible exact keptFD hz3 ff hb3 | with_reducible exact keptFD (by simp only [World.size_alloc]; omega) (keptFA hz3 ff _) hb3)
        have hB3 : Below w.heap.size w w3 := (by first | with_reducible exact bstep (Below.drew hB) hb3 (Nat.le_refl _) | with_reducible exact bstep (Below.drew (Below.alloc hB hB.size _)) hb3 (Nat.le_refl _))
        have q3 := hB3.size
        first
          | (with_reducible refine ⟨w3.heap.size, g1, k1, rfl, ⟨by omega, by omega, by omega, by simp <;> omega, hk1, hk2⟩, ?_, ?_, ?_, ?_, ?_, ?_, ?_, ?_⟩
             · with_reducible exact new5 w3 _ _ _ _ _ _ _
             · exact HO3.out.alloc _
             · with_reducible exact kA5 c03 _
             · with_reducible exact kA5 c13 _
             · with_reducible exact kA5 c23 _
             · with_reducible exact kA5 c33 _
             · exact keptFA (by omega) ff3 _
             · exact bal hB3 _)
          | (with_reducible refine ⟨w1.heap.size, g1, k1, rfl, ⟨by omega, by omega, by omega, by simp <;> omega, hk1, hk2⟩, ?_, ?_, ?_, ?_, ?_, ?_, ?_, ?_⟩
             · with_reducible exact set5 (kDX5 hb3 (new5 w1 _ _ _ _ _ _ _)) _ _ _ _ _
             · exact HO3.out.far5 (ownNe (by omega)) _ _ _ _ _
             · with_reducible exact keptS5 c03 (by omega) _ _ _ _ _
             · with_reducible exact keptS5 c13 (by omega) _ _ _ _ _
             · with_reducible exact keptS5 c23 (by omega) _ _ _ _ _
             · with_reducible exact keptS5 c33 (by omega) _ _ _ _ _
             · exact keptF5 ff3 _ _ _ _ _
             · exact Below.set5 hB3 (by omega) _ _ _ _ _)
  case rest =>
    clear c0 c1 c2 c3 ff hB hz3
    obtain ⟨gt, g1, k1, rfl, ⟨t1, t2, t3, t4, t5, t6⟩, cT, HK, c0, c1, c2, c3, ff, hB⟩ := hcut
    have hgt : gt < wc.heap.size := ltOf cT rfl
    have hz3 : w.heap.size + 1 + 1 + 1 < wc.heap.size := ltOf c3 rfl
    unfold maxLen at t6
    go_wp2_with (at_make; refine wpList_makeL rfl _ _ rfl n _ rfl rfl rfl (by omega) ?_; intro w4 ho4 hb4 hsz4; have HM := Lib.hid ho4; replace cT := kept cT rfl hb4; replace c0 := kept c0 rfl hb4; replace c1 := kept c1 rfl hb4; replace c2 := kept c2 rfl hb4; replace c3 := kept c3 rfl hb4; replace ff := keptF hz3 ff hb4; replace HK := Lib.hid (HK.out.later hb4); replace hB := bstep hB hb4 (Nat.le_refl _); replace hz3 := Nat.lt_trans hz3 hsz4; have hgt4 := Nat.lt_trans hgt hsz4; have hg14 := Nat.lt_trans t4 hsz4; clear hb4 ho4)
    go_loopw [38] (fun i wr => ∃ k : Nat, k ≤ n ∧ i = .int .i64 k ∧ Hid (ownT wr (w.heap.size + 4) (.slice (some ⟨g1, 0, none⟩) n k1) (upK ots ats bts k)) ∧ Hid (ownL wr (w.heap.size + 4) (.slice (some ⟨wc.heap.size, 0, none⟩) n n) (upM ots ats bts k)) ∧ (∀ i, wr.cell? ⟨gt, i, none⟩ = r5 (.int .i64 aw) (.int .i64 ah) (.int .i64 ad) (.int .i64 ae) (.slice (some ⟨g1, 0, none⟩) n k1) i) ∧ (∀ i, wr.cell? ⟨w.heap.size, i, none⟩ = r5 (.int .i64 ow) (.int .i64 oh) (.int .i64 od) (.int .i64 oe) (.slice (some ⟨ob, oo, none⟩) n oc) i) ∧ (∀ i, wr.cell? ⟨w.heap.size + 1, i, none⟩ = r5 (.int .i64 aw) (.int .i64 ah) (.int .i64 ad) (.int .i64 ae) (.slice (some ⟨ab, ao, none⟩) n ac) i) ∧ (∀ i, wr.cell? ⟨w.heap.size + 1 + 1, i, none⟩ = r5 (.int .i64 bw) (.int .i64 bh) (.int .i64 bd) (.int .i64 be) (.slice (some ⟨bb, bo, none⟩) n bc) i) ∧ (∀ i, wr.cell? ⟨w.heap.size + 1 + 1 + 1, i, none⟩ = r5 (.int .i64 0) (.int .i64 0) (.int .i64 0) (.int .i64 0) (.slice none 0 0) i) ∧ (∀ i, wr.frozen? ⟨w.heap.size + 1 + 1 + 1, i, none⟩ = false) ∧ Below w.heap.size w wr ∧ w4.heap.size ≤ wr.heap.size) (fun i _ => n - (intOf i).toNat)
    case atStart => exact ⟨0, Nat.zero_le _, rfl, (show ownT _ _ _ _ by rw [upK_0]; exact HK.out), (show ownL _ _ _ _ by rw [upM_0, M2.out]; exact HM.out.mono (by omega)), cT, c0, c1, c2, c3, ff, hB, Nat.le_refl _⟩
    case round =>
      have hwc : w.heap.size + 4 ≤ wc.heap.size := by omega
      clear cT c0 c1 c2 c3 ff hB HK HM
      obtain ⟨k, hk, rfl, HK, HM, cT, c0, c1, c2, c3, ff, hB, hsz⟩ := hrel
      have hzr : w.heap.size + 1 + 1 + 1 < wr.heap.size := by omega
      by_cases hlt : k < n
      · have k1' : k < ots.length := by rw [M1.out]; exact hlt
        have k2' : k < ats.length := by rw [M2.out]; exact hlt
        have k3' : k < bts.length := by rw [M3.out]; exact hlt
        have e0 := HO.out _ hB k k1'
        have e1 := HA.out _ hB k k2'
        have e2 := HBB.out _ hB k k3'
        obtain ⟨K, hK⟩ : ∃ K, K = ots[k] := ⟨_, rfl⟩
        obtain ⟨x, hx⟩ : ∃ x, x = ats[k] := ⟨_, rfl⟩
        obtain ⟨y, hy⟩ : ∃ y, y = bts[k] := ⟨_, rfl⟩
        have GK := Lib.hid (show ots[k]? = some K by rw [hK]; exact List.getElem?_eq_getElem k1')
        have GX := Lib.hid (show ats[k]? = some x by rw [hx]; exact List.getElem?_eq_getElem k2')
        have GY := Lib.hid (show bts[k]? = some y by rw [hy]; exact List.getElem?_eq_getElem k3')
        rw [← hK] at e0
        rw [← hx] at e1
        rw [← hy] at e2
        clear hK hx hy k1' k2' k3'
        have xk : wr.cell? ⟨g1, k, none⟩ = some (.string x) := by
          have h1 := upK_at (o := ots) (b := bts) GX.out
          obtain ⟨q1, q2⟩ := List.getElem?_eq_some_iff.1 h1
          have := HK.out.cell (by rw [upK_len, M2.out]) q1
          rw [this, q2]
        have fk : wr.frozen? ⟨g1, k, none⟩ = false := HK.out.frozen (by rw [upK_len, M2.out]) k
        have xm : wr.cell? ⟨wc.heap.size, k, none⟩ = some (.bool false) := by
          have h1 := upM_at (o := ots) (a := ats) (b := bts) (show k < ats.length by rw [M2.out]; exact hlt)
          obtain ⟨q1, q2⟩ := List.getElem?_eq_some_iff.1 h1
          have := HM.out.cell (by rw [upM_len, M2.out]) q1
          rw [this, q2]
        have fm : wr.frozen? ⟨wc.heap.size, k, none⟩ = false := HM.out.frozen (by rw [upM_len, M2.out]) k
        by_cases h1 : y = K
        · subst h1
          have EK : Hid (upK ots ats bts (k + 1) = upK ots ats bts k) := upK_same GK.out GX.out GY.out (by unfold mkey; rw [if_pos (.inl rfl)])
          have EM : Hid (upM ots ats bts (k + 1) = upM ots ats bts k) := upM_same GK.out GX.out GY.out (by unfold mmask; simp)
          have d1 : (y.toList == y.toList) = true := beq_self_eq_true _
          go_wp2_with fail
          go_quiet (fail)
          go_wp2_with fail
          go_roundw
          case rel =>
            exact ⟨k + 1, by omega, by go_num, (show ownT _ _ _ _ by rw [EK.out]; exact HK.out.drewN _), (show ownL _ _ _ _ by rw [EM.out]; exact HM.out.drewN _), kN5 cT, kN5 c0, kN5 c1, kN5 c2, kN5 c3, keptFN ff, bdrewN hB _, hsz⟩
          case measure => simp [intOf]; omega
        · by_cases h2 : x = y
          · subst h2
            have EK : Hid (upK ots ats bts (k + 1) = upK ots ats bts k) := upK_same GK.out GX.out GY.out (by unfold mkey; rw [if_pos (.inr rfl)])
            have EM : Hid (upM ots ats bts (k + 1) = upM ots ats bts k) := upM_same GK.out GX.out GY.out (by unfold mmask; simp)
            have d1 : (x.toList == K.toList) = false := str_ne h1
            have d2 : (x.toList == x.toList) = true := beq_self_eq_true _
            go_wp2_with fail
            go_quiet (fail)
            go_wp2_with fail
            go_roundw
            case rel =>
              exact ⟨k + 1, by omega, by go_num, (show ownT _ _ _ _ by rw [EK.out]; exact HK.out.drewN _), (show ownL _ _ _ _ by rw [EM.out]; exact HM.out.drewN _), kN5 cT, kN5 c0, kN5 c1, kN5 c2, kN5 c3, keptFN ff, bdrewN hB _, hsz⟩
            case measure => simp [intOf]; omega
          · by_cases h3 : x = K
            · subst h3
              have EK : Hid (upK ots ats bts (k + 1) = (upK ots ats bts k).set k y) := (show _ = _ by rw [upK_step GK.out GX.out GY.out]; congr 1; unfold mkey; rw [if_neg (fun q => q.elim h1 h2), if_pos rfl])
              have EM : Hid (upM ots ats bts (k + 1) = upM ots ats bts k) := upM_same GK.out GX.out GY.out (by unfold mmask; simp)
              have d1 : (y.toList == x.toList) = false := str_ne h1
              have d2 : (x.toList == y.toList) = false := str_ne h2
              have d3 : (x.toList == x.toList) = true := beq_self_eq_true _
              go_wp2_with fail
              go_quiet (fail)
              go_wp2_with fail
              go_roundw
              case rel =>
                exact ⟨k + 1, by omega, by go_num, (show ownT _ _ _ _ by rw [EK.out]; exact (ownT.drewN HK.out nq).store (by rw [upK_len, M2.out]) k y), (show ownL _ _ _ _ by rw [EM.out]; exact (ownL.drewN HM.out nq).far (ownNe (by omega)) _ _), keptS (kN5 cT) (p := ⟨g1, k, none⟩) (show gt ≠ g1 by omega) _, keptS (kN5 c0) (p := ⟨g1, k, none⟩) (show w.heap.size ≠ g1 by omega) _, keptS (kN5 c1) (p := ⟨g1, k, none⟩) (show w.heap.size + 1 ≠ g1 by omega) _, keptS (kN5 c2) (p := ⟨g1, k, none⟩) (show w.heap.size + 1 + 1 ≠ g1 by omega) _, keptS (kN5 c3) (p := ⟨g1, k, none⟩) (show w.heap.size + 1 + 1 + 1 ≠ g1 by omega) _, keptFS (keptFN ff) _ _, (bdrewN hB nq).setCell (p := ⟨g1, k, none⟩) (show w.heap.size ≤ g1 by omega) _, by simp; omega⟩
              case measure => simp [intOf]; omega
            · have EK : Hid (upK ots ats bts (k + 1) = upK ots ats bts k) := upK_same GK.out GX.out GY.out (by unfold mkey; rw [if_neg (fun q => q.elim h1 h2), if_neg h3])
              have EM : Hid (upM ots ats bts (k + 1) = (upM ots ats bts k).set k true) := (show _ = _ by rw [upM_step GK.out GX.out GY.out]; congr 1; unfold mmask; simp [h1, h2, h3])
              have d1 : (y.toList == K.toList) = false := str_ne h1
              have d2 : (x.toList == y.toList) = false := str_ne h2
              have d3 : (x.toList == K.toList) = false := str_ne h3
              go_wp2_with fail
              go_quiet (fail)
              go_wp2_with fail
              go_roundw
              case rel =>
                exact ⟨k + 1, by omega, by go_num, (show ownT _ _ _ _ by rw [EK.out]; exact (ownT.drewN HK.out nq).far (ownNe (by omega)) _ _), (show ownL _ _ _ _ by rw [EM.out]; exact (ownL.drewN HM.out nq).store (by rw [upM_len, M2.out]) k true), keptS (kN5 cT) (p := ⟨wc.heap.size, k, none⟩) (show gt ≠ wc.heap.size by omega) _, keptS (kN5 c0) (p := ⟨wc.heap.size, k, none⟩) (show w.heap.size ≠ wc.heap.size by omega) _, keptS (kN5 c1) (p := ⟨wc.heap.size, k, none⟩) (show w.heap.size + 1 ≠ wc.heap.size by omega) _, keptS (kN5 c2) (p := ⟨wc.heap.size, k, none⟩) (show w.heap.size + 1 + 1 ≠ wc.heap.size by omega) _, keptS (kN5 c3) (p := ⟨wc.heap.size, k, none⟩) (show w.heap.size + 1 + 1 + 1 ≠ wc.heap.size by omega) _, keptFS (keptFN ff) _ _, (bdrewN hB nq).setCell (p := ⟨wc.heap.size, k, none⟩) (show w.heap.size ≤ wc.heap.size by omega) _, by simp; omega⟩
              case measure => simp [intOf]; omega
      · obtain rfl : k = n := by omega
        go_wp2_with fail
        refine bodyPost_ret (v := .tuple #[.agg #[.int .i64 aw, .int .i64 ah, .int .i64 ad, .int .i64 ae, .slice (some ⟨g1, 0, none⟩) k k1], .slice (some ⟨wc.heap.size, 0, none⟩) k k, .int .i64 0]) ?_ rfl ?_
        · unfold results
          go_simp
        · exact ⟨g1, k1, wc.heap.size, rfl, by omega, (HK.out.far5 (ownNe (by omega)) _ _ _ _ _).mono (by omega), (HM.out.far5 (ownNe (by omega)) _ _ _ _ _).mono (by omega), Below.set5 hB (by omega) _ _ _ _ _⟩

end Go.Proofs.Ytmffmijjdpjaiaa
