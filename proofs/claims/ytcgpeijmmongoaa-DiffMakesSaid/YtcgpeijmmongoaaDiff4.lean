/- diff: Apply. -/
import Derived.Test.YtcgpeijmmongoaaDiff2
import Derived.Test.YtcgpeijmmongoaaPix4
namespace Go.Proofs.Ytcgpeijmmongoaa
set_option linter.all false
open Go.RowKit

/-- A byte of a picture told by a delta: x the base's, y the delta's. -/
def aop (k : Int) (x y : UInt8) : UInt8 := if k = 1 then x ^^^ y else x + y
def applyB (k : Int) (bs ds : List UInt8) : List UInt8 := List.zipWith (aop k) bs ds
def applyE (k : Int) (s : Sh) (n m : Nat) : Int := if k = 1 ∨ k = 2 then (if s.mayR n then (if m < n then 2 else if n < m then 3 else 0) else 4) else 1
def applyR (k : Int) (s : Sh) (bs ds : List UInt8) : Sh × List UInt8 := if applyE k s bs.length ds.length = 0 then (s, applyB k bs ds) else (⟨0, 0, 0, 0⟩, [])
theorem applyB_len {k : Int} {bs ds : List UInt8} (h : bs.length = ds.length) : (applyB k bs ds).length = bs.length := by simp [applyB]; omega
theorem applyB_at {k : Int} {bs rs : List UInt8} {i : Nat} {x y : UInt8} (hx : bs[i]? = some x) (hy : rs[i]? = some y) : (applyB k bs rs)[i]? = some (aop k x y) := by
  simp [applyB, List.getElem?_zipWith, hx, hy]

/-- The first k bytes are those of X, the others still those of Y. -/
def upTo (X Y : List UInt8) (k : Nat) : List UInt8 := X.take k ++ Y.drop k
theorem upTo_zero (X Y : List UInt8) : upTo X Y 0 = Y := by simp [upTo]
theorem upTo_end {X Y : List UInt8} (h : X.length = Y.length) : upTo X Y X.length = X := by unfold upTo; rw [List.take_length, List.drop_eq_nil_of_le (by omega), List.append_nil]
theorem upTo_len {X Y : List UInt8} (h : X.length = Y.length) (k : Nat) : (upTo X Y k).length = Y.length := by simp [upTo]; omega
theorem upTo_at {X Y : List UInt8} (h : X.length = Y.length) (k : Nat) : (upTo X Y k)[k]? = Y[k]? := by
  unfold upTo
  by_cases hk : k ≤ X.length
  · rw [List.getElem?_append_right (by simp; omega), List.length_take, Nat.min_eq_left hk, Nat.sub_self, List.getElem?_drop]; simp
  · rw [List.getElem?_eq_none (by simp; omega), List.getElem?_eq_none (by omega)]
theorem upTo_put {X Y : List UInt8} (h : X.length = Y.length) {k : Nat} {y : UInt8} (hy : X[k]? = some y) : upTo X Y (k + 1) = (upTo X Y k).set k y := by
  obtain ⟨hk, rfl⟩ := List.getElem?_eq_some_iff.1 hy
  unfold upTo
  have hl : (X.take k).length = k := by simp; omega
  rw [List.set_append_right _ _ (by omega), hl, Nat.sub_self, List.take_succ_eq_append_getElem hk, List.append_assoc, List.drop_eq_getElem_cons (show k < Y.length by omega), List.set_cons_zero]
  rfl

theorem mayR_pos {s : Sh} {n : Nat} (h : s.mayR n = true) : 1 ≤ n ∧ n ≤ 16384 := by
  have hn := Sh.mayR_nums h
  have hz := Sh.mayR_size h
  have hb := Sh.bounds s hn
  have hq := (Sh.nums_iff s).1 hn
  have := Sh.size_ok hn
  omega

set_option maxHeartbeats 3200000 in
theorem apply_ok (k : Int) (s : Sh) (B n c B' c' : Nat) (A A' : Option Addr) (bs ds : List UInt8) (w : World) (hp : RdB w B A n bs) (hr : RdB w B' A' n ds)
    (hB1 : B ≤ w.heap.size) (hB2 : B' ≤ w.heap.size) (hk : k = 1 ∨ k = 2) (hm : s.mayR n = true) :
    Calls Try.prog 38 #[.int .i64 k, s.r A n c, .slice A' n c'] w fun e w' =>
      ∃ A1 n1 c1, e = .returned (.tuple #[s.r A1 n1 c1, .int .i64 0]) ∧ ownB w' w.heap.size (.slice A1 n1 c1) (applyB k bs ds) ∧ Below w.heap.size w w' := by
  have hB := Below.refl w.heap.size w
  obtain ⟨m1, m2⟩ := mayR_pos hm
  have H1 := Lib.hid (fun w => may_any s A n c w)
  have HM := Lib.hid hm
  have hl := hr.len
  have hl' := hp.len
  have HL := Lib.hid ((applyB_len (k := k) (bs := bs) (ds := ds) (by omega)).trans hl')
  have HE := Lib.hid hl'
  clear hl hl' hm
  obtain ⟨W, H, C, D⟩ := s
  dsimp only [Sh.r] at H1
  show Calls _ _ #[.int .i64 k, .agg #[.int .i64 W, .int .i64 H, .int .i64 C, .int .i64 D, .slice A n c], .slice A' n c'] w _
  rcases hk with rfl | rfl
  · go_enter Try.func38, Try.ntmps38
    go_upto_region 9 with (go_at_call 20; (with_reducible refine (H1.out _).mono ?_); rintro e w1 ⟨rfl, hb1⟩; rw [HM.out]; have rr := box5 hb1; rw [World.size_alloc] at rr; have ff := boxF hb1; rw [World.size_alloc] at ff; replace hb1 := bxd hb1; have cc := box5 hb1; replace hB := bxd hb1; clear hb1)
    have hsz : w.heap.size + 1 < w1.heap.size := ltOf rr rfl
    have hsz0 : w.heap.size < w1.heap.size := ltOf cc rfl
    have hne0 : ¬ w.heap.size = w1.heap.size := by omega
    have hpn := RdB.here (hp.blw (hB.mono hB1))
    go_cut [8] (fun p wc => ∃ gb g cA, p = .pointer (some ⟨gb, 0, none⟩) ∧ (w.heap.size + 1 < gb ∧ w.heap.size + 1 < g ∧ gb ≠ g) ∧ (∀ i, wc.cell? ⟨gb, i, none⟩ = r5 (.int .i64 W) (.int .i64 H) (.int .i64 C) (.int .i64 D) (.slice (some ⟨g, 0, none⟩) n cA) i) ∧ ownB wc w.heap.size (.slice (some ⟨g, 0, none⟩) n cA) bs ∧ (∀ i, wc.cell? ⟨w.heap.size, i, none⟩ = r5 (.int .i64 W) (.int .i64 H) (.int .i64 C) (.int .i64 D) (.slice A n c) i) ∧ (∀ i, wc.cell? ⟨w.heap.size + 1, i, none⟩ = r5 (.int .i64 0) (.int .i64 0) (.int .i64 0) (.int .i64 0) (.slice none 0 0) i) ∧ (∀ i, wc.frozen? ⟨w.heap.size + 1, i, none⟩ = false) ∧ Below w.heap.size w wc)
    case first =>
      go_region_with (go_at_call 65; refine (cloneB_any w1.heap.size n c A bs _ ?_ (by omega)).mono ?_; (first | exact Rd.drew (Rd.alloc hpn (Nat.le_refl _) _) | exact Rd.drew hpn); rintro e w2 ⟨v2, rfl, hv2, hb2⟩; obtain ⟨A2, n2, c2, rfl, hr2, _, _⟩ := hv2.slice; (try (have f2 := boxFD hb2; have g2 := box5D hb2)); (first | (have cc2 := keptD cc rfl hb2) | (have cc2 := keptD (keptA cc rfl _) rfl hb2)); have hsz2 : w.heap.size < w2.heap.size := ltOf cc2 rfl; have hne2 : ¬ w.heap.size = w2.heap.size := (by omega))
      all_goals
        go_wp2_with fail
        go_meet
        case rel =>
          obtain rfl : n = n2 := HE.out.symm.trans hr2.len
          obtain ⟨-, g, rfl, hg1, hg3⟩ := hv2.pos (by omega)
          clear hr2 hpn H1
          first
            | exact ⟨w1.heap.size, g, c2, rfl, ⟨hsz, by simp at hg1; omega, by simp at hg1; omega⟩, set5 g2 _ _ _ _ _, ((hv2.mono (base' := w.heap.size) (by simp; omega)).far5 (ownB_ne hv2 (by simp)) _ _ _ _ _), keptS5 cc2 hne0 _ _ _ _ _, keptS5 (keptD (keptA rr rfl _) rfl hb2) (by omega) _ _ _ _ _, keptF5 (keptFD (w := w1.alloc _) (by simp; omega) (keptFA hsz ff _) hb2) _ _ _ _ _, Below.set5 (bstep (hB.alloc hB.size _).drew hb2 (Nat.le_refl _)) (by omega) _ _ _ _ _⟩
            | exact ⟨w2.heap.size, g, c2, rfl, ⟨ltOf (keptD rr rfl hb2) rfl, by simp at hg1; omega, by omega⟩, new5 w2 _ _ _ _ _ _ _, (hv2.mono (base' := w.heap.size) (by simp; omega)).alloc _, keptA cc2 rfl _, keptA (keptD rr rfl hb2) rfl _, keptFA (ltOf (keptD rr rfl hb2) rfl) (keptFD hsz ff hb2) _, (bstep hB.drew hb2 (Nat.le_refl _)).alloc (by omega) _⟩
    case rest =>
      clear cc rr ff hB hsz hsz0 hne0 hpn
      obtain ⟨gb, g, cA, rfl, ⟨q1, q2, q3⟩, bb, hown, cc, rr, ff, hB⟩ := hcut
      go_wp2_with fail
      go_loopw [48] (fun i wr => ∃ j : Nat, j ≤ n ∧ i = .int .i64 j ∧ ownB wr w.heap.size (.slice (some ⟨g, 0, none⟩) n cA) (upTo (applyB 1 bs ds) bs j) ∧ (∀ i, wr.cell? ⟨gb, i, none⟩ = r5 (.int .i64 W) (.int .i64 H) (.int .i64 C) (.int .i64 D) (.slice (some ⟨g, 0, none⟩) n cA) i) ∧ (∀ i, wr.cell? ⟨w.heap.size + 1, i, none⟩ = r5 (.int .i64 0) (.int .i64 0) (.int .i64 0) (.int .i64 0) (.slice none 0 0) i) ∧ (∀ i, wr.frozen? ⟨w.heap.size + 1, i, none⟩ = false) ∧ Below w.heap.size w wr)
        (fun i _ => n - (intOf i).toNat)
      case atStart => exact ⟨0, Nat.zero_le _, rfl, by rw [upTo_zero]; exact hown, bb, rr, ff, hB⟩
      case round =>
        clear cc rr ff hB bb hown
        obtain ⟨j, hj, rfl, hown, bb, rr, ff, hB⟩ := hrel
        have HLL : Hid ((applyB 1 bs ds).length = bs.length) := by show _ = _; rw [HL.out, HE.out]
        by_cases hlt : j < n
        · have HF : Hid (n = (upTo (applyB 1 bs ds) bs j).length) := by show _ = _; rw [upTo_len HLL.out, HE.out]
          obtain ⟨b', o', y, rfl, hbo', hy, cy⟩ := (hr.blw (hB.mono hB2)).byte hlt
          obtain ⟨x, hx, cx⟩ := hown.byte HF.out hlt
          have fx := hown.frozen HF.out j
          have Hs : Hid (ownB (wr.setCell ⟨g, j, none⟩ (.int .u8 ((aop 1 x y).toNat : Int))) w.heap.size (.slice (some ⟨g, 0, none⟩) n cA) (upTo (applyB 1 bs ds) bs (j + 1))) := by
            show ownB _ _ _ _
            rw [upTo_put HLL.out (applyB_at (by rw [← upTo_at HLL.out]; exact hx.out) hy.out)]
            exact hown.store HF.out j _
          simp only [aop] at Hs
          clear hx hy
          go_wp2
          go_roundw
          case rel => exact ⟨j + 1, by omega, by go_num, by simpa using Hs.out, keptS bb (by show gb ≠ g; exact q3) _, keptS rr (by show w.heap.size + 1 ≠ g; omega) _, keptFS ff _ _, hB.setCell (by show w.heap.size ≤ g; omega) _⟩
          case measure => simp [intOf]; omega
        · obtain rfl : j = n := by omega
          rw [show upTo (applyB 1 bs ds) bs j = applyB 1 bs ds by have := upTo_end HLL.out; rwa [HL.out] at this] at hown
          go_wp2
          refine bodyPost_ret (v := .tuple #[.agg #[.int .i64 W, .int .i64 H, .int .i64 C, .int .i64 D, .slice (some ⟨g, 0, none⟩) j cA], .int .i64 0]) ?_ rfl ?_
          · unfold results
            go_simp
          · exact ⟨_, _, _, rfl, hown.far5 (by intro e; have e2 : g = w.heap.size + 1 := (by injection e); omega) _ _ _ _ _, Below.set5 hB (by omega) _ _ _ _ _⟩
  · go_enter Try.func38, Try.ntmps38
    go_upto_region 9 with (go_at_call 20; (with_reducible refine (H1.out _).mono ?_); rintro e w1 ⟨rfl, hb1⟩; rw [HM.out]; have rr := box5 hb1; rw [World.size_alloc] at rr; have ff := boxF hb1; rw [World.size_alloc] at ff; replace hb1 := bxd hb1; have cc := box5 hb1; replace hB := bxd hb1; clear hb1)
    have hsz : w.heap.size + 1 < w1.heap.size := ltOf rr rfl
    have hsz0 : w.heap.size < w1.heap.size := ltOf cc rfl
    have hne0 : ¬ w.heap.size = w1.heap.size := by omega
    have hpn := RdB.here (hp.blw (hB.mono hB1))
    go_cut [8] (fun p wc => ∃ gb g cA, p = .pointer (some ⟨gb, 0, none⟩) ∧ (w.heap.size + 1 < gb ∧ w.heap.size + 1 < g ∧ gb ≠ g) ∧ (∀ i, wc.cell? ⟨gb, i, none⟩ = r5 (.int .i64 W) (.int .i64 H) (.int .i64 C) (.int .i64 D) (.slice (some ⟨g, 0, none⟩) n cA) i) ∧ ownB wc w.heap.size (.slice (some ⟨g, 0, none⟩) n cA) bs ∧ (∀ i, wc.cell? ⟨w.heap.size, i, none⟩ = r5 (.int .i64 W) (.int .i64 H) (.int .i64 C) (.int .i64 D) (.slice A n c) i) ∧ (∀ i, wc.cell? ⟨w.heap.size + 1, i, none⟩ = r5 (.int .i64 0) (.int .i64 0) (.int .i64 0) (.int .i64 0) (.slice none 0 0) i) ∧ (∀ i, wc.frozen? ⟨w.heap.size + 1, i, none⟩ = false) ∧ Below w.heap.size w wc)
    case first =>
      go_region_with (go_at_call 65; refine (cloneB_any w1.heap.size n c A bs _ ?_ (by omega)).mono ?_; (first | exact Rd.drew (Rd.alloc hpn (Nat.le_refl _) _) | exact Rd.drew hpn); rintro e w2 ⟨v2, rfl, hv2, hb2⟩; obtain ⟨A2, n2, c2, rfl, hr2, _, _⟩ := hv2.slice; (try (have f2 := boxFD hb2; have g2 := box5D hb2)); (first | (have cc2 := keptD cc rfl hb2) | (have cc2 := keptD (keptA cc rfl _) rfl hb2)); have hsz2 : w.heap.size < w2.heap.size := ltOf cc2 rfl; have hne2 : ¬ w.heap.size = w2.heap.size := (by omega))
      all_goals
        go_wp2_with fail
        go_meet
        case rel =>
          obtain rfl : n = n2 := HE.out.symm.trans hr2.len
          obtain ⟨-, g, rfl, hg1, hg3⟩ := hv2.pos (by omega)
          clear hr2 hpn H1
          first
            | exact ⟨w1.heap.size, g, c2, rfl, ⟨hsz, by simp at hg1; omega, by simp at hg1; omega⟩, set5 g2 _ _ _ _ _, ((hv2.mono (base' := w.heap.size) (by simp; omega)).far5 (ownB_ne hv2 (by simp)) _ _ _ _ _), keptS5 cc2 hne0 _ _ _ _ _, keptS5 (keptD (keptA rr rfl _) rfl hb2) (by omega) _ _ _ _ _, keptF5 (keptFD (w := w1.alloc _) (by simp; omega) (keptFA hsz ff _) hb2) _ _ _ _ _, Below.set5 (bstep (hB.alloc hB.size _).drew hb2 (Nat.le_refl _)) (by omega) _ _ _ _ _⟩
            | exact ⟨w2.heap.size, g, c2, rfl, ⟨ltOf (keptD rr rfl hb2) rfl, by simp at hg1; omega, by omega⟩, new5 w2 _ _ _ _ _ _ _, (hv2.mono (base' := w.heap.size) (by simp; omega)).alloc _, keptA cc2 rfl _, keptA (keptD rr rfl hb2) rfl _, keptFA (ltOf (keptD rr rfl hb2) rfl) (keptFD hsz ff hb2) _, (bstep hB.drew hb2 (Nat.le_refl _)).alloc (by omega) _⟩
    case rest =>
      clear cc rr ff hB hsz hsz0 hne0 hpn
      obtain ⟨gb, g, cA, rfl, ⟨q1, q2, q3⟩, bb, hown, cc, rr, ff, hB⟩ := hcut
      go_wp2_with fail
      go_loopw [48] (fun i wr => ∃ j : Nat, j ≤ n ∧ i = .int .i64 j ∧ ownB wr w.heap.size (.slice (some ⟨g, 0, none⟩) n cA) (upTo (applyB 2 bs ds) bs j) ∧ (∀ i, wr.cell? ⟨gb, i, none⟩ = r5 (.int .i64 W) (.int .i64 H) (.int .i64 C) (.int .i64 D) (.slice (some ⟨g, 0, none⟩) n cA) i) ∧ (∀ i, wr.cell? ⟨w.heap.size + 1, i, none⟩ = r5 (.int .i64 0) (.int .i64 0) (.int .i64 0) (.int .i64 0) (.slice none 0 0) i) ∧ (∀ i, wr.frozen? ⟨w.heap.size + 1, i, none⟩ = false) ∧ Below w.heap.size w wr)
        (fun i _ => n - (intOf i).toNat)
      case atStart => exact ⟨0, Nat.zero_le _, rfl, by rw [upTo_zero]; exact hown, bb, rr, ff, hB⟩
      case round =>
        clear cc rr ff hB bb hown
        obtain ⟨j, hj, rfl, hown, bb, rr, ff, hB⟩ := hrel
        have HLL : Hid ((applyB 2 bs ds).length = bs.length) := by show _ = _; rw [HL.out, HE.out]
        by_cases hlt : j < n
        · have HF : Hid (n = (upTo (applyB 2 bs ds) bs j).length) := by show _ = _; rw [upTo_len HLL.out, HE.out]
          obtain ⟨b', o', y, rfl, hbo', hy, cy⟩ := (hr.blw (hB.mono hB2)).byte hlt
          obtain ⟨x, hx, cx⟩ := hown.byte HF.out hlt
          have fx := hown.frozen HF.out j
          have Hs : Hid (ownB (wr.setCell ⟨g, j, none⟩ (.int .u8 ((aop 2 x y).toNat : Int))) w.heap.size (.slice (some ⟨g, 0, none⟩) n cA) (upTo (applyB 2 bs ds) bs (j + 1))) := by
            show ownB _ _ _ _
            rw [upTo_put HLL.out (applyB_at (by rw [← upTo_at HLL.out]; exact hx.out) hy.out)]
            exact hown.store HF.out j _
          simp only [aop] at Hs
          clear hx hy
          go_wp2
          go_roundw
          case rel => exact ⟨j + 1, by omega, by go_num, by simpa using Hs.out, keptS bb (by show gb ≠ g; exact q3) _, keptS rr (by show w.heap.size + 1 ≠ g; omega) _, keptFS ff _ _, hB.setCell (by show w.heap.size ≤ g; omega) _⟩
          case measure => simp [intOf]; omega
        · obtain rfl : j = n := by omega
          rw [show upTo (applyB 2 bs ds) bs j = applyB 2 bs ds by have := upTo_end HLL.out; rwa [HL.out] at this] at hown
          go_wp2
          refine bodyPost_ret (v := .tuple #[.agg #[.int .i64 W, .int .i64 H, .int .i64 C, .int .i64 D, .slice (some ⟨g, 0, none⟩) j cA], .int .i64 0]) ?_ rfl ?_
          · unfold results
            go_simp
          · exact ⟨_, _, _, rfl, hown.far5 (by intro e; have e2 : g = w.heap.size + 1 := (by injection e); omega) _ _ _ _ _, Below.set5 hB (by omega) _ _ _ _ _⟩

set_option maxHeartbeats 1600000 in
theorem apply_bad (k : Int) (s : Sh) (n c n' c' : Nat) (A A' : Option Addr) (w : World) (E : Int) (hE : applyE k s n n' = E) (h0 : E ≠ 0) :
    Calls Try.prog 38 #[.int .i64 k, s.r A n c, .slice A' n' c'] w fun e w' =>
      e = .returned (.tuple #[Sh.r ⟨0, 0, 0, 0⟩ none 0 0, .int .i64 E]) ∧ Below w.heap.size w w' := by
  have hB := Below.refl w.heap.size w
  have H1 := Lib.hid (fun w => may_any s A n c w)
  have hE2 := hE
  unfold applyE at hE2
  by_cases hk : k = 1 ∨ k = 2
  · rw [if_pos hk] at hE2
    generalize hp : s.mayR n = p at H1 hE2
    have hlt : p = false ∨ (p = true ∧ n' < n) ∨ (p = true ∧ ¬ n' < n ∧ n < n') := by
      rcases p with _ | _
      · exact .inl rfl
      · right
        rw [if_pos rfl] at hE2
        by_cases q : n' < n
        · exact .inl ⟨rfl, q⟩
        · rw [if_neg q] at hE2
          by_cases q2 : n < n'
          · exact .inr ⟨rfl, q, q2⟩
          · rw [if_neg q2] at hE2; exact absurd hE2.symm h0
    clear hE hp
    obtain ⟨W, H, C, D⟩ := s
    dsimp only [Sh.r] at H1 ⊢
    have e1 : k = 1 ∨ (k = 2) := hk
    rcases hlt with rfl | ⟨rfl, q⟩ | ⟨rfl, q, q2⟩
    · obtain rfl : E = 4 := by simpa using hE2.symm
      clear hE2
      rcases hk with rfl | rfl
      all_goals
        go_enter Try.func38, Try.ntmps38
        go_wp2_with (go_at_call 20; (with_reducible refine (H1.out _).mono ?_); rintro e w1 ⟨rfl, hb1⟩; have rr := box5 hb1; rw [World.size_alloc] at rr; have ff := boxF hb1; rw [World.size_alloc] at ff; replace hB := bxd (bxd hb1); clear hb1)
        refine bodyPost_ret (v := .tuple #[.agg #[.int .i64 0, .int .i64 0, .int .i64 0, .int .i64 0, .slice none 0 0], .int .i64 4]) ?_ rfl ?_
        · unfold results
          go_simp
        · exact ⟨rfl, Below.set5 hB (by omega) _ _ _ _ _⟩
    · obtain rfl : E = 2 := by rw [if_pos rfl, if_pos q] at hE2; exact hE2.symm
      clear hE2
      rcases hk with rfl | rfl
      all_goals
        go_enter Try.func38, Try.ntmps38
        go_wp2_with (go_at_call 20; (with_reducible refine (H1.out _).mono ?_); rintro e w1 ⟨rfl, hb1⟩; have rr := box5 hb1; rw [World.size_alloc] at rr; have ff := boxF hb1; rw [World.size_alloc] at ff; replace hb1 := bxd hb1; have cc := box5 hb1; replace hB := bxd hb1; clear hb1)
        refine bodyPost_ret (v := .tuple #[.agg #[.int .i64 0, .int .i64 0, .int .i64 0, .int .i64 0, .slice none 0 0], .int .i64 2]) ?_ rfl ?_
        · unfold results
          go_simp
        · exact ⟨rfl, Below.set5 hB (by omega) _ _ _ _ _⟩
    · obtain rfl : E = 3 := by rw [if_pos rfl, if_neg q, if_pos q2] at hE2; exact hE2.symm
      clear hE2
      rcases hk with rfl | rfl
      all_goals
        go_enter Try.func38, Try.ntmps38
        go_wp2_with (go_at_call 20; (with_reducible refine (H1.out _).mono ?_); rintro e w1 ⟨rfl, hb1⟩; have rr := box5 hb1; rw [World.size_alloc] at rr; have ff := boxF hb1; rw [World.size_alloc] at ff; replace hb1 := bxd hb1; have cc := box5 hb1; replace hB := bxd hb1; clear hb1)
        refine bodyPost_ret (v := .tuple #[.agg #[.int .i64 0, .int .i64 0, .int .i64 0, .int .i64 0, .slice none 0 0], .int .i64 3]) ?_ rfl ?_
        · unfold results
          go_simp
        · exact ⟨rfl, Below.set5 hB (by omega) _ _ _ _ _⟩
  · rw [if_neg hk] at hE2
    obtain rfl : E = 1 := hE2.symm
    clear hE hE2 h0 H1
    have d1 : (k != 1) = true := by rw [bne_iff_ne]; omega
    have d2 : (k != 2) = true := by rw [bne_iff_ne]; omega
    clear hk
    obtain ⟨W, H, C, D⟩ := s
    dsimp only [Sh.r]
    go_enter Try.func38, Try.ntmps38
    go_wp2
    refine bodyPost_ret (v := .tuple #[.agg #[.int .i64 0, .int .i64 0, .int .i64 0, .int .i64 0, .slice none 0 0], .int .i64 1]) ?_ rfl ?_
    · unfold results
      go_simp
    · exact ⟨rfl, (hB.alloc (Nat.le_refl _) _).alloc (by simp) _⟩

theorem apply_any (k : Int) (s : Sh) (B n c B' n' c' : Nat) (A A' : Option Addr) (bs ds : List UInt8) (w : World) (hp : RdB w B A n bs) (hr : RdB w B' A' n' ds)
    (hB1 : B ≤ w.heap.size) (hB2 : B' ≤ w.heap.size) :
    Calls Try.prog 38 #[.int .i64 k, s.r A n c, .slice A' n' c'] w fun e w' =>
      ∃ A1 n1 c1, e = .returned (.tuple #[(applyR k s bs ds).1.r A1 n1 c1, .int .i64 (applyE k s n n')]) ∧ ownB w' w.heap.size (.slice A1 n1 c1) (applyR k s bs ds).2 ∧ Below w.heap.size w w' := by
  have hl := hp.len
  have hl' := hr.len
  by_cases h0 : applyE k s n n' = 0
  · have e : applyR k s bs ds = (s, applyB k bs ds) := by unfold applyR; rw [hl, hl', if_pos h0]
    rw [e, h0]
    unfold applyE at h0
    by_cases hk : k = 1 ∨ k = 2
    · rw [if_pos hk] at h0
      cases hm : s.mayR n with
      | false => rw [hm] at h0; cases h0
      | true =>
        rw [hm, if_pos rfl] at h0
        have hn : n' = n := by split at h0 <;> (try split at h0) <;> omega
        subst hn
        exact apply_ok k s B _ c B' c' A A' bs ds w hp hr hB1 hB2 hk hm
    · rw [if_neg hk] at h0; cases h0
  · have e : applyR k s bs ds = (⟨0, 0, 0, 0⟩, []) := by unfold applyR; rw [hl, hl', if_neg h0]
    rw [e]
    refine (apply_bad k s n c n' c' A A' w _ rfl h0).mono ?_
    rintro e w' ⟨rfl, hb⟩
    exact ⟨_, _, _, rfl, ownB.nil_ _ _, hb⟩

end Go.Proofs.Ytcgpeijmmongoaa
