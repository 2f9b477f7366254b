/- XMaPix4 XMaDiff4 XMaDiff3 XMaDiff6 -/
import Derived.Test.YtfafijhmjnkjeaaMae01
import Derived.Test.YtfafijhmjnkjeaaMae02
import Derived.StillTailTactics
import Derived.BigQuiet
import Derived.Deep.QuietTactic
namespace Go.Proofs.Ytfafijhmjnkjeaa
set_option linter.all false
open Go.RowKit

def Sh.inB (s : Sh) (x y c : Int) : Bool := !(decide (x < 0) || decide (s.w ≤ x) || decide (y < 0) || decide (s.h ≤ y) || decide (c < 0) || decide (s.c ≤ c))
theorem Sh.inB_iff (s : Sh) (x y c : Int) : s.inB x y c = true ↔ (0 ≤ x ∧ x < s.w) ∧ (0 ≤ y ∧ y < s.h) ∧ (0 ≤ c ∧ c < s.c) := by
  simp [Sh.inB]
  omega
theorem Sh.outB {s : Sh} {x y c : Int} (h : s.inB x y c = false) : x < 0 ∨ s.w ≤ x ∨ y < 0 ∨ s.h ≤ y ∨ c < 0 ∨ s.c ≤ c := by
  have := Sh.inB_iff s x y c
  rw [h] at this
  simp at this
  omega
theorem Sh.mayR_nums {s : Sh} {n : Nat} (h : s.mayR n = true) : s.nums = true := by
  unfold Sh.mayR Sh.may at h
  simp at h
  exact h.1.1
theorem Sh.mayR_size {s : Sh} {n : Nat} (h : s.mayR n = true) : (n : Int) = s.size ∧ s.size ≤ 16384 := by
  unfold Sh.mayR Sh.may at h
  simp at h
  exact ⟨h.2, h.1.2⟩
def Sh.place (s : Sh) (n : Nat) (x y c : Int) : Int × Int := if s.mayR n then (if s.inB x y c then (y * s.row + (x * s.c + c) * s.d / 8, 0) else (0, 1)) else (0, 4)
theorem Sh.place_bounds {s : Sh} {x y c : Int} (hn : s.nums = true) (hi : s.inB x y c = true) :
    (0 ≤ y * s.row ∧ y * s.row ≤ 524288) ∧ (0 ≤ x * s.c ∧ x * s.c ≤ 1024) ∧ (0 ≤ (x * s.c + c) * s.d ∧ (x * s.c + c) * s.d ≤ 16448) ∧ y * s.row + (x * s.c + c) * s.d / 8 + s.d / 8 ≤ s.size := by
  have hb := Sh.bounds s hn
  obtain ⟨⟨w1, w2⟩, ⟨h1, h2⟩, ⟨c1, c2⟩, hd⟩ := (Sh.nums_iff s).1 hn
  obtain ⟨⟨x1, x2⟩, ⟨y1, y2⟩, ⟨k1, k2⟩⟩ := (Sh.inB_iff s x y c).1 hi
  obtain ⟨-, -, ⟨r1, r2⟩, -⟩ := hb
  have a1 : 0 ≤ y * s.row := Int.mul_nonneg y1 (by omega)
  have a2 : (y + 1) * s.row ≤ s.h * s.row := Int.mul_le_mul_of_nonneg_right (by omega) (by omega)
  have a3 : s.h * s.row ≤ 256 * 2048 := Int.mul_le_mul h2 r2 (by omega) (by omega)
  have b1 : 0 ≤ x * s.c := Int.mul_nonneg x1 (by omega)
  have b2 : (x + 1) * s.c ≤ s.w * s.c := Int.mul_le_mul_of_nonneg_right (by omega) (by omega)
  have b3 : s.w * s.c ≤ 256 * 4 := Int.mul_le_mul w2 c2 (by omega) (by omega)
  rw [Int.add_mul, Int.one_mul] at a2 b2
  have hr : s.row = s.w * s.c * s.d / 8 := if_pos hn
  have hs : s.size = s.h * s.row := by rw [Sh.size_ok hn, Int.mul_comm]
  rw [hs]
  generalize s.h * s.row = hh at *
  generalize y * s.row = yr at *
  generalize s.w * s.c = wc at *
  generalize x * s.c = xc at *
  rcases hd with e | e <;> rw [e] at hr ⊢ <;> refine ⟨⟨?_, ?_⟩, ⟨?_, ?_⟩, ⟨?_, ?_⟩, ?_⟩ <;> omega

end Go.Proofs.Ytfafijhmjnkjeaa

/- diff: Apply. -/
namespace Go.Proofs.Ytfafijhmjnkjeaa
set_option linter.all false
open Go.RowKit

/-- A byte of a picture told by a delta: x the base's, y the delta's. -/
def aop (k : Int) (x y : UInt8) : UInt8 := if k = 1 then x ^^^ y else x + y
def applyB (k : Int) (bs ds : List UInt8) : List UInt8 := List.zipWith (aop k) bs ds
def applyE (k : Int) (s : Sh) (n m : Nat) : Int := if k = 1 ∨ k = 2 then (if s.mayR n then (if m < n then 2 else if n < m then 3 else 0) else 4) else 1
def applyR (k : Int) (s : Sh) (bs ds : List UInt8) : Sh × List UInt8 := if applyE k s bs.length ds.length = 0 then (s, applyB k bs ds) else (⟨0, 0, 0, 0⟩, [])
theorem applyB_len {k : Int} {bs ds : List UInt8} (h : bs.length = ds.length) : (applyB k bs ds).length = bs.length := by simp [applyB]; omega
theorem applyB_at {k : Int} {bs rs : List UInt8} {i : Nat} {x y : UInt8} (hx : bs[i]? = some x) (hy : rs[i]? = some y) : (applyB k bs rs)[i]? = some (aop k x y) := by
  simp [applyB, List.getElem?_zipWith, hx, hy]

/-- The first k bytes are those of X, the others still those of Y. -/
def upTo (X Y : List UInt8) (k : Nat) : List UInt8 := X.take k ++ Y.drop k
theorem upTo_zero (X Y : List UInt8) : upTo X Y 0 = Y := by simp [upTo]
theorem upTo_end {X Y : List UInt8} (h : X.length = Y.length) : upTo X Y X.length = X := by unfold upTo; rw [List.take_length, List.drop_eq_nil_of_le (by omega), List.append_nil]
theorem upTo_len {X Y : List UInt8} (h : X.length = Y.length) (k : Nat) : (upTo X Y k).length = Y.length := by simp [upTo]; omega
theorem upTo_at {X Y : List UInt8} (h : X.length = Y.length) (k : Nat) : (upTo X Y k)[k]? = Y[k]? := by
  unfold upTo
  by_cases hk : k ≤ X.length
  · rw [List.getElem?_append_right (by simp; omega), List.length_take, Nat.min_eq_left hk, Nat.sub_self, List.getElem?_drop]; simp
  · rw [List.getElem?_eq_none (by simp; omega), List.getElem?_eq_none (by omega)]
theorem upTo_put {X Y : List UInt8} (h : X.length = Y.length) {k : Nat} {y : UInt8} (hy : X[k]? = some y) : upTo X Y (k + 1) = (upTo X Y k).set k y := by
  obtain ⟨hk, rfl⟩ := List.getElem?_eq_some_iff.1 hy
  unfold upTo
  have hl : (X.take k).length = k := by simp; omega
  rw [List.set_append_right _ _ (by omega), hl, Nat.sub_self, List.take_succ_eq_append_getElem hk, List.append_assoc, List.drop_eq_getElem_cons (show k < Y.length by omega), List.set_cons_zero]
  rfl

theorem mayR_pos {s : Sh} {n : Nat} (h : s.mayR n = true) : 1 ≤ n ∧ n ≤ 16384 := by
  have hn := Sh.mayR_nums h
  have hz := Sh.mayR_size h
  have hb := Sh.bounds s hn
  have hq := (Sh.nums_iff s).1 hn
  have := Sh.size_ok hn
  omega

set_option maxHeartbeats 3200000 in
theorem apply_ok (k : Int) (s : Sh) (B n c B' c' : Nat) (A A' : Option Addr) (bs ds : List UInt8) (w : World) (hp : RdB w B A n bs) (hr : RdB w B' A' n ds)
    (hB1 : B ≤ w.heap.size) (hB2 : B' ≤ w.heap.size) (hk : k = 1 ∨ k = 2) (hm : s.mayR n = true) :
    Calls Try.prog 22 #[.int .i64 k, s.r A n c, .slice A' n c'] w fun e w' =>
      ∃ A1 n1 c1, e = .returned (.tuple #[s.r A1 n1 c1, .int .i64 0]) ∧ ownB w' w.heap.size (.slice A1 n1 c1) (applyB k bs ds) ∧ Below w.heap.size w w' := by
  have hB := Below.refl w.heap.size w
  obtain ⟨m1, m2⟩ := mayR_pos hm
  have H1 := Lib.hid (fun w => may_any s A n c w)
  have HM := Lib.hid hm
  have hl := hr.len
  have hl' := hp.len
  have HL := Lib.hid ((applyB_len (k := k) (bs := bs) (ds := ds) (by omega)).trans hl')
  have HE := Lib.hid hl'
  clear hl hl' hm
  obtain ⟨W, H, C, D⟩ := s
  dsimp only [Sh.r] at H1
  show Calls _ _ #[.int .i64 k, .agg #[.int .i64 W, .int .i64 H, .int .i64 C, .int .i64 D, .slice A n c], .slice A' n c'] w _
  rcases hk with rfl | rfl
  · go_enter Try.func22, Try.ntmps22
    go_upto_region 9 with (go_at_call 17; (with_reducible refine (H1.out _).mono ?_); rintro e w1 ⟨rfl, hb1⟩; rw [HM.out]; have rr := box5 hb1; rw [World.size_alloc] at rr; have ff := boxF hb1; rw [World.size_alloc] at ff; replace hb1 := bxd hb1; have cc := box5 hb1; replace hB := bxd hb1; clear hb1)
    have hsz : w.heap.size + 1 < w1.heap.size := ltOf rr rfl
    have hsz0 : w.heap.size < w1.heap.size := ltOf cc rfl
    have hne0 : ¬ w.heap.size = w1.heap.size := by omega
    have hpn := RdB.here (hp.blw (hB.mono hB1))
    go_cut [8] (fun p wc => ∃ gb g cA, p = .pointer (some ⟨gb, 0, none⟩) ∧ (w.heap.size + 1 < gb ∧ w.heap.size + 1 < g ∧ gb ≠ g) ∧ (∀ i, wc.cell? ⟨gb, i, none⟩ = r5 (.int .i64 W) (.int .i64 H) (.int .i64 C) (.int .i64 D) (.slice (some ⟨g, 0, none⟩) n cA) i) ∧ ownB wc w.heap.size (.slice (some ⟨g, 0, none⟩) n cA) bs ∧ (∀ i, wc.cell? ⟨w.heap.size, i, none⟩ = r5 (.int .i64 W) (.int .i64 H) (.int .i64 C) (.int .i64 D) (.slice A n c) i) ∧ (∀ i, wc.cell? ⟨w.heap.size + 1, i, none⟩ = r5 (.int .i64 0) (.int .i64 0) (.int .i64 0) (.int .i64 0) (.slice none 0 0) i) ∧ (∀ i, wc.frozen? ⟨w.heap.size + 1, i, none⟩ = false) ∧ Below w.heap.size w wc)
    case first =>
      go_region_with (go_at_call 46; refine (cloneB_any w1.heap.size n c A bs _ ?_ (by omega)).mono ?_; (first | exact Rd.drew (Rd.alloc hpn (Nat.le_refl _) _) | exact Rd.drew hpn); rintro e w2 ⟨v2, rfl, hv2, hb2⟩; obtain ⟨A2, n2, c2, rfl, hr2, _, _⟩ := hv2.slice; (try (have f2 := boxFD hb2; have g2 := box5D hb2)); (first | (have cc2 := keptD cc rfl hb2) | (have cc2 := keptD (keptA cc rfl _) rfl hb2)); have hsz2 : w.heap.size < w2.heap.size := ltOf cc2 rfl; have hne2 : ¬ w.heap.size = w2.heap.size := (by omega))
      all_goals
        go_wp2_with fail
        go_meet
        case rel =>
          obtain rfl : n = n2 := HE.out.symm.trans hr2.len
          obtain ⟨-, g, rfl, hg1, hg3⟩ := hv2.pos (by omega)
          clear hr2 hpn H1
          first
            | exact ⟨w1.heap.size, g, c2, rfl, ⟨hsz, by simp at hg1; omega, by simp at hg1; omega⟩, set5 g2 _ _ _ _ _, ((hv2.mono (base' := w.heap.size) (by simp; omega)).far5 (ownB_ne hv2 (by simp)) _ _ _ _ _), keptS5 cc2 hne0 _ _ _ _ _, keptS5 (keptD (keptA rr rfl _) rfl hb2) (by omega) _ _ _ _ _, keptF5 (keptFD (w := w1.alloc _) (by simp; omega) (keptFA hsz ff _) hb2) _ _ _ _ _, Below.set5 (bstep (hB.alloc hB.size _).drew hb2 (Nat.le_refl _)) (by omega) _ _ _ _ _⟩
            | exact ⟨w2.heap.size, g, c2, rfl, ⟨ltOf (keptD rr rfl hb2) rfl, by simp at hg1; omega, by omega⟩, new5 w2 _ _ _ _ _ _ _, (hv2.mono (base' := w.heap.size) (by simp; omega)).alloc _, keptA cc2 rfl _, keptA (keptD rr rfl hb2) rfl _, keptFA (ltOf (keptD rr rfl hb2) rfl) (keptFD hsz ff hb2) _, (bstep hB.drew hb2 (Nat.le_refl _)).alloc (by omega) _⟩
    case rest =>
      clear cc rr ff hB hsz hsz0 hne0 hpn
      obtain ⟨gb, g, cA, rfl, ⟨q1, q2, q3⟩, bb, hown, cc, rr, ff, hB⟩ := hcut
      go_wp2_with fail
      go_loopw [48] (fun i wr => ∃ j : Nat, j ≤ n ∧ i = .int .i64 j ∧ ownB wr w.heap.size (.slice (some ⟨g, 0, none⟩) n cA) (upTo (applyB 1 bs ds) bs j) ∧ (∀ i, wr.cell? ⟨gb, i, none⟩ = r5 (.int .i64 W) (.int .i64 H) (.int .i64 C) (.int .i64 D) (.slice (some ⟨g, 0, none⟩) n cA) i) ∧ (∀ i, wr.cell? ⟨w.heap.size + 1, i, none⟩ = r5 (.int .i64 0) (.int .i64 0) (.int .i64 0) (.int .i64 0) (.slice none 0 0) i) ∧ (∀ i, wr.frozen? ⟨w.heap.size + 1, i, none⟩ = false) ∧ Below w.heap.size w wr)
        (fun i _ => n - (intOf i).toNat)
      case atStart => exact ⟨0, Nat.zero_le _, rfl, by rw [upTo_zero]; exact hown, bb, rr, ff, hB⟩
      case round =>
        clear cc rr ff hB bb hown
        obtain ⟨j, hj, rfl, hown, bb, rr, ff, hB⟩ := hrel
        have HLL : Hid ((applyB 1 bs ds).length = bs.length) := by show _ = _; rw [HL.out, HE.out]
        by_cases hlt : j < n
        · have HF : Hid (n = (upTo (applyB 1 bs ds) bs j).length) := by show _ = _; rw [upTo_len HLL.out, HE.out]
          obtain ⟨b', o', y, rfl, hbo', hy, cy⟩ := (hr.blw (hB.mono hB2)).byte hlt
          obtain ⟨x, hx, cx⟩ := hown.byte HF.out hlt
          have fx := hown.frozen HF.out j
          have Hs : Hid (ownB (wr.setCell ⟨g, j, none⟩ (.int .u8 ((aop 1 x y).toNat : Int))) w.heap.size (.slice (some ⟨g, 0, none⟩) n cA) (upTo (applyB 1 bs ds) bs (j + 1))) := by
            show ownB _ _ _ _
            rw [upTo_put HLL.out (applyB_at (by rw [← upTo_at HLL.out]; exact hx.out) hy.out)]
            exact hown.store HF.out j _
          simp only [aop] at Hs
          clear hx hy
          go_wp2
          go_roundw
          case rel => exact ⟨j + 1, by omega, by go_num, by simpa using Hs.out, keptS bb (by show gb ≠ g; exact q3) _, keptS rr (by show w.heap.size + 1 ≠ g; omega) _, keptFS ff _ _, hB.setCell (by show w.heap.size ≤ g; omega) _⟩
          case measure => simp [intOf]; omega
        · obtain rfl : j = n := by omega
          rw [show upTo (applyB 1 bs ds) bs j = applyB 1 bs ds by have := upTo_end HLL.out; rwa [HL.out] at this] at hown
          go_wp2
          refine bodyPost_ret (v := .tuple #[.agg #[.int .i64 W, .int .i64 H, .int .i64 C, .int .i64 D, .slice (some ⟨g, 0, none⟩) j cA], .int .i64 0]) ?_ rfl ?_
          · unfold results
            go_simp
          · exact ⟨_, _, _, rfl, hown.far5 (by intro e; have e2 : g = w.heap.size + 1 := (by injection e); omega) _ _ _ _ _, Below.set5 hB (by omega) _ _ _ _ _⟩
  · go_enter Try.func22, Try.ntmps22
    go_upto_region 9 with (go_at_call 17; (with_reducible refine (H1.out _).mono ?_); rintro e w1 ⟨rfl, hb1⟩; rw [HM.out]; have rr := box5 hb1; rw [World.size_alloc] at rr; have ff := boxF hb1; rw [World.size_alloc] at ff; replace hb1 := bxd hb1; have cc := box5 hb1; replace hB := bxd hb1; clear hb1)
    have hsz : w.heap.size + 1 < w1.heap.size := ltOf rr rfl
    have hsz0 : w.heap.size < w1.heap.size := ltOf cc rfl
    have hne0 : ¬ w.heap.size = w1.heap.size := by omega
    have hpn := RdB.here (hp.blw (hB.mono hB1))
    go_cut [8] (fun p wc => ∃ gb g cA, p = .pointer (some ⟨gb, 0, none⟩) ∧ (w.heap.size + 1 < gb ∧ w.heap.size + 1 < g ∧ gb ≠ g) ∧ (∀ i, wc.cell? ⟨gb, i, none⟩ = r5 (.int .i64 W) (.int .i64 H) (.int .i64 C) (.int .i64 D) (.slice (some ⟨g, 0, none⟩) n cA) i) ∧ ownB wc w.heap.size (.slice (some ⟨g, 0, none⟩) n cA) bs ∧ (∀ i, wc.cell? ⟨w.heap.size, i, none⟩ = r5 (.int .i64 W) (.int .i64 H) (.int .i64 C) (.int .i64 D) (.slice A n c) i) ∧ (∀ i, wc.cell? ⟨w.heap.size + 1, i, none⟩ = r5 (.int .i64 0) (.int .i64 0) (.int .i64 0) (.int .i64 0) (.slice none 0 0) i) ∧ (∀ i, wc.frozen? ⟨w.heap.size + 1, i, none⟩ = false) ∧ Below w.heap.size w wc)
    case first =>
      go_region_with (go_at_call 46; refine (cloneB_any w1.heap.size n c A bs _ ?_ (by omega)).mono ?_; (first | exact Rd.drew (Rd.alloc hpn (Nat.le_refl _) _) | exact Rd.drew hpn); rintro e w2 ⟨v2, rfl, hv2, hb2⟩; obtain ⟨A2, n2, c2, rfl, hr2, _, _⟩ := hv2.slice; (try (have f2 := boxFD hb2; have g2 := box5D hb2)); (first | (have cc2 := keptD cc rfl hb2) | (have cc2 := keptD (keptA cc rfl _) rfl hb2)); have hsz2 : w.heap.size < w2.heap.size := ltOf cc2 rfl; have hne2 : ¬ w.heap.size = w2.heap.size := (by omega))
      all_goals
        go_wp2_with fail
        go_meet
        case rel =>
          obtain rfl : n = n2 := HE.out.symm.trans hr2.len
          obtain ⟨-, g, rfl, hg1, hg3⟩ := hv2.pos (by omega)
          clear hr2 hpn H1
          first
            | exact ⟨w1.heap.size, g, c2, rfl, ⟨hsz, by simp at hg1; omega, by simp at hg1; omega⟩, set5 g2 _ _ _ _ _, ((hv2.mono (base' := w.heap.size) (by simp; omega)).far5 (ownB_ne hv2 (by simp)) _ _ _ _ _), keptS5 cc2 hne0 _ _ _ _ _, keptS5 (keptD (keptA rr rfl _) rfl hb2) (by omega) _ _ _ _ _, keptF5 (keptFD (w := w1.alloc _) (by simp; omega) (keptFA hsz ff _) hb2) _ _ _ _ _, Below.set5 (bstep (hB.alloc hB.size _).drew hb2 (Nat.le_refl _)) (by omega) _ _ _ _ _⟩
            | exact ⟨w2.heap.size, g, c2, rfl, ⟨ltOf (keptD rr rfl hb2) rfl, by simp at hg1; omega, by omega⟩, new5 w2 _ _ _ _ _ _ _, (hv2.mono (base' := w.heap.size) (by simp; omega)).alloc _, keptA cc2 rfl _, keptA (keptD rr rfl hb2) rfl _, keptFA (ltOf (keptD rr rfl hb2) rfl) (keptFD hsz ff hb2) _, (bstep hB.drew hb2 (Nat.le_refl _)).alloc (by omega) _⟩
    case rest =>
      clear cc rr ff hB hsz hsz0 hne0 hpn
      obtain ⟨gb, g, cA, rfl, ⟨q1, q2, q3⟩, bb, hown, cc, rr, ff, hB⟩ := hcut
      go_wp2_with fail
      go_loopw [48] (fun i wr => ∃ j : Nat, j ≤ n ∧ i = .int .i64 j ∧ ownB wr w.heap.size (.slice (some ⟨g, 0, none⟩) n cA) (upTo (applyB 2 bs ds) bs j) ∧ (∀ i, wr.cell? ⟨gb, i, none⟩ = r5 (.int .i64 W) (.int .i64 H) (.int .i64 C) (.int .i64 D) (.slice (some ⟨g, 0, none⟩) n cA) i) ∧ (∀ i, wr.cell? ⟨w.heap.size + 1, i, none⟩ = r5 (.int .i64 0) (.int .i64 0) (.int .i64 0) (.int .i64 0) (.slice none 0 0) i) ∧ (∀ i, wr.frozen? ⟨w.heap.size + 1, i, none⟩ = false) ∧ Below w.heap.size w wr)
        (fun i _ => n - (intOf i).toNat)
      case atStart => exact ⟨0, Nat.zero_le _, rfl, by rw [upTo_zero]; exact hown, bb, rr, ff, hB⟩
      case round =>
        clear cc rr ff hB bb hown
        obtain ⟨j, hj, rfl, hown, bb, rr, ff, hB⟩ := hrel
        have HLL : Hid ((applyB 2 bs ds).length = bs.length) := by show _ = _; rw [HL.out, HE.out]
        by_cases hlt : j < n
        · have HF : Hid (n = (upTo (applyB 2 bs ds) bs j).length) := by show _ = _; rw [upTo_len HLL.out, HE.out]
          obtain ⟨b', o', y, rfl, hbo', hy, cy⟩ := (hr.blw (hB.mono hB2)).byte hlt
          obtain ⟨x, hx, cx⟩ := hown.byte HF.out hlt
          have fx := hown.frozen HF.out j
          have Hs : Hid (ownB (wr.setCell ⟨g, j, none⟩ (.int .u8 ((aop 2 x y).toNat : Int))) w.heap.size (.slice (some ⟨g, 0, none⟩) n cA) (upTo (applyB 2 bs ds) bs (j + 1))) := by
            show ownB _ _ _ _
            rw [upTo_put HLL.out (applyB_at (by rw [← upTo_at HLL.out]; exact hx.out) hy.out)]
            exact hown.store HF.out j _
          simp only [aop] at Hs
          clear hx hy
          go_wp2
          go_roundw
          case rel => exact ⟨j + 1, by omega, by go_num, by simpa using Hs.out, keptS bb (by show gb ≠ g; exact q3) _, keptS rr (by show w.heap.size + 1 ≠ g; omega) _, keptFS ff _ _, hB.setCell (by show w.heap.size ≤ g; omega) _⟩
          case measure => simp [intOf]; omega
        · obtain rfl : j = n := by omega
          rw [show upTo (applyB 2 bs ds) bs j = applyB 2 bs ds by have := upTo_end HLL.out; rwa [HL.out] at this] at hown
          go_wp2
          refine bodyPost_ret (v := .tuple #[.agg #[.int .i64 W, .int .i64 H, .int .i64 C, .int .i64 D, .slice (some ⟨g, 0, none⟩) j cA], .int .i64 0]) ?_ rfl ?_
          · unfold results
            go_simp
          · exact ⟨_, _, _, rfl, hown.far5 (by intro e; have e2 : g = w.heap.size + 1 := (by injection e); omega) _ _ _ _ _, Below.set5 hB (by omega) _ _ _ _ _⟩

set_option maxHeartbeats 1600000 in
theorem apply_bad (k : Int) (s : Sh) (n c n' c' : Nat) (A A' : Option Addr) (w : World) (E : Int) (hE : applyE k s n n' = E) (h0 : E ≠ 0) :
    Calls Try.prog 22 #[.int .i64 k, s.r A n c, .slice A' n' c'] w fun e w' =>
      e = .returned (.tuple #[Sh.r ⟨0, 0, 0, 0⟩ none 0 0, .int .i64 E]) ∧ Below w.heap.size w w' := by
  have hB := Below.refl w.heap.size w
  have H1 := Lib.hid (fun w => may_any s A n c w)
  have hE2 := hE
  unfold applyE at hE2
  by_cases hk : k = 1 ∨ k = 2
  · rw [if_pos hk] at hE2
    generalize hp : s.mayR n = p at H1 hE2
    have hlt : p = false ∨ (p = true ∧ n' < n) ∨ (p = true ∧ ¬ n' < n ∧ n < n') := by
      rcases p with _ | _
      · exact .inl rfl
      · right
        rw [if_pos rfl] at hE2
        by_cases q : n' < n
        · exact .inl ⟨rfl, q⟩
        · rw [if_neg q] at hE2
          by_cases q2 : n < n'
          · exact .inr ⟨rfl, q, q2⟩
          · rw [if_neg q2] at hE2; exact absurd hE2.symm h0
    clear hE hp
    obtain ⟨W, H, C, D⟩ := s
    dsimp only [Sh.r] at H1 ⊢
    have e1 : k = 1 ∨ (k = 2) := hk
    rcases hlt with rfl | ⟨rfl, q⟩ | ⟨rfl, q, q2⟩
    · obtain rfl : E = 4 := by simpa using hE2.symm
      clear hE2
      rcases hk with rfl | rfl
      all_goals
        go_enter Try.func22, Try.ntmps22
        go_wp2_with (go_at_call 17; (with_reducible refine (H1.out _).mono ?_); rintro e w1 ⟨rfl, hb1⟩; have rr := box5 hb1; rw [World.size_alloc] at rr; have ff := boxF hb1; rw [World.size_alloc] at ff; replace hB := bxd (bxd hb1); clear hb1)
        refine bodyPost_ret (v := .tuple #[.agg #[.int .i64 0, .int .i64 0, .int .i64 0, .int .i64 0, .slice none 0 0], .int .i64 4]) ?_ rfl ?_
        · unfold results
          go_simp
        · exact ⟨rfl, Below.set5 hB (by omega) _ _ _ _ _⟩
    · obtain rfl : E = 2 := by rw [if_pos rfl, if_pos q] at hE2; exact hE2.symm
      clear hE2
      rcases hk with rfl | rfl
      all_goals
        go_enter Try.func22, Try.ntmps22
        go_wp2_with (go_at_call 17; (with_reducible refine (H1.out _).mono ?_); rintro e w1 ⟨rfl, hb1⟩; have rr := box5 hb1; rw [World.size_alloc] at rr; have ff := boxF hb1; rw [World.size_alloc] at ff; replace hb1 := bxd hb1; have cc := box5 hb1; replace hB := bxd hb1; clear hb1)
        refine bodyPost_ret (v := .tuple #[.agg #[.int .i64 0, .int .i64 0, .int .i64 0, .int .i64 0, .slice none 0 0], .int .i64 2]) ?_ rfl ?_
        · unfold results
          go_simp
        · exact ⟨rfl, Below.set5 hB (by omega) _ _ _ _ _⟩
    · obtain rfl : E = 3 := by rw [if_pos rfl, if_neg q, if_pos q2] at hE2; exact hE2.symm
      clear hE2
      rcases hk with rfl | rfl
      all_goals
        go_enter Try.func22, Try.ntmps22
        go_wp2_with (go_at_call 17; (with_reducible refine (H1.out _).mono ?_); rintro e w1 ⟨rfl, hb1⟩; have rr := box5 hb1; rw [World.size_alloc] at rr; have ff := boxF hb1; rw [World.size_alloc] at ff; replace hb1 := bxd hb1; have cc := box5 hb1; replace hB := bxd hb1; clear hb1)
        refine bodyPost_ret (v := .tuple #[.agg #[.int .i64 0, .int .i64 0, .int .i64 0, .int .i64 0, .slice none 0 0], .int .i64 3]) ?_ rfl ?_
        · unfold results
          go_simp
        · exact ⟨rfl, Below.set5 hB (by omega) _ _ _ _ _⟩
  · rw [if_neg hk] at hE2
    obtain rfl : E = 1 := hE2.symm
    clear hE hE2 h0 H1
    have d1 : (k != 1) = true := by rw [bne_iff_ne]; omega
    have d2 : (k != 2) = true := by rw [bne_iff_ne]; omega
    clear hk
    obtain ⟨W, H, C, D⟩ := s
    dsimp only [Sh.r]
    go_enter Try.func22, Try.ntmps22
    go_wp2
    refine bodyPost_ret (v := .tuple #[.agg #[.int .i64 0, .int .i64 0, .int .i64 0, .int .i64 0, .slice none 0 0], .int .i64 1]) ?_ rfl ?_
    · unfold results
      go_simp
    · exact ⟨rfl, (hB.alloc (Nat.le_refl _) _).alloc (by simp) _⟩

theorem apply_any (k : Int) (s : Sh) (B n c B' n' c' : Nat) (A A' : Option Addr) (bs ds : List UInt8) (w : World) (hp : RdB w B A n bs) (hr : RdB w B' A' n' ds)
    (hB1 : B ≤ w.heap.size) (hB2 : B' ≤ w.heap.size) :
    Calls Try.prog 22 #[.int .i64 k, s.r A n c, .slice A' n' c'] w fun e w' =>
      ∃ A1 n1 c1, e = .returned (.tuple #[(applyR k s bs ds).1.r A1 n1 c1, .int .i64 (applyE k s n n')]) ∧ ownB w' w.heap.size (.slice A1 n1 c1) (applyR k s bs ds).2 ∧ Below w.heap.size w w' := by
  have hl := hp.len
  have hl' := hr.len
  by_cases h0 : applyE k s n n' = 0
  · have e : applyR k s bs ds = (s, applyB k bs ds) := by unfold applyR; rw [hl, hl', if_pos h0]
    rw [e, h0]
    unfold applyE at h0
    by_cases hk : k = 1 ∨ k = 2
    · rw [if_pos hk] at h0
      cases hm : s.mayR n with
      | false => rw [hm] at h0; cases h0
      | true =>
        rw [hm, if_pos rfl] at h0
        have hn : n' = n := by split at h0 <;> (try split at h0) <;> omega
        subst hn
        exact apply_ok k s B _ c B' c' A A' bs ds w hp hr hB1 hB2 hk hm
    · rw [if_neg hk] at h0; cases h0
  · have e : applyR k s bs ds = (⟨0, 0, 0, 0⟩, []) := by unfold applyR; rw [hl, hl', if_neg h0]
    rw [e]
    refine (apply_bad k s n c n' c' A A' w _ rfl h0).mono ?_
    rintro e w' ⟨rfl, hb⟩
    exact ⟨_, _, _, rfl, ownB.nil_ _ _, hb⟩

end Go.Proofs.Ytfafijhmjnkjeaa

/- diff: the reference's pair and Delta. -/
namespace Go.Proofs.Ytfafijhmjnkjeaa
set_option linter.all false
open Go.RowKit

end Go.Proofs.Ytfafijhmjnkjeaa

/- diff: in how many pixels two pictures differ. -/
namespace Go.Proofs.Ytfafijhmjnkjeaa
set_option linter.all false
open Go.RowKit

/-- In how many of the first k pieces of p bytes two lists differ. -/
def diffs (p : Nat) (bs rs : List UInt8) : Nat → Nat
  | 0 => 0
  | k + 1 => diffs p bs rs k + if (rs.drop (k * p)).take p == (bs.drop (k * p)).take p then 0 else 1
def Sh.bpp (s : Sh) : Nat := (s.c * s.d / 8).toNat
def changedR (s t : Sh) (bs rs : List UInt8) : Int × Int := if wrongR s t bs.length rs.length = 0 then (((diffs t.bpp bs rs (t.w * t.h).toNat : Nat) : Int), 0) else (0, wrongR s t bs.length rs.length)
theorem diffs_le (p : Nat) (bs rs : List UInt8) : ∀ k, diffs p bs rs k ≤ k
  | 0 => Nat.le_refl _
  | k + 1 => by have := diffs_le p bs rs k; unfold diffs; split <;> omega

theorem Sh.pix_n {s : Sh} {n : Nat} (h : s.mayR n = true) : n = (s.w * s.h).toNat * s.bpp ∧ 1 ≤ s.bpp ∧ s.bpp ≤ 8 ∧ (s.bpp : Int) = s.c * s.d / 8 ∧ 0 ≤ s.c * s.d ∧ s.c * s.d ≤ 64 := by
  have hn := Sh.mayR_nums h
  obtain ⟨hz, -⟩ := Sh.mayR_size h
  obtain ⟨⟨a1, a2⟩, ⟨a3, a4⟩, ⟨a5, a6⟩, hd⟩ := (Sh.nums_iff s).1 hn
  have hs := Sh.size_ok hn
  have hr : s.row = s.w * s.c * s.d / 8 := if_pos hn
  obtain ⟨q, hq⟩ : ∃ q : Int, s.d = 8 * q ∧ (q = 1 ∨ q = 2) := by
    rcases hd with e | e
    · exact ⟨1, e, .inl rfl⟩
    · exact ⟨2, e, .inr rfl⟩
  obtain ⟨hq, hq2⟩ := hq
  have e1 : s.w * s.c * s.d / 8 = s.w * s.c * q := by
    rw [hq, show s.w * s.c * (8 * q) = (s.w * s.c * q) * 8 by ac_rfl]
    exact Int.mul_ediv_cancel _ (by decide)
  have e2 : s.c * s.d / 8 = s.c * q := by
    rw [hq, show s.c * (8 * q) = (s.c * q) * 8 by ac_rfl]
    exact Int.mul_ediv_cancel _ (by decide)
  have b1 : 1 ≤ s.c * q ∧ s.c * q ≤ 8 := by rcases hq2 with rfl | rfl <;> omega
  have b2 : 0 ≤ s.c * s.d ∧ s.c * s.d ≤ 64 := by rcases hd with e | e <;> rw [e] <;> omega
  have hb : (s.bpp : Int) = s.c * s.d / 8 := by unfold Sh.bpp; rw [e2]; omega
  have hwh : 0 ≤ s.w * s.h := Int.mul_nonneg (by omega) (by omega)
  refine ⟨?_, by omega, by omega, hb, b2.1, b2.2⟩
  have : (n : Int) = (((s.w * s.h).toNat * s.bpp : Nat) : Int) := by
    rw [hz, hs, hr, e1, Int.natCast_mul, hb, e2, Int.toNat_of_nonneg hwh]
    ac_rfl
  exact_mod_cast this

set_option maxHeartbeats 3200000 in
theorem changed_ok (s t : Sh) (B n c B' n' c' : Nat) (A A' : Option Addr) (bs rs : List UInt8) (w : World) (hp : RdB w B A n bs) (hr : RdB w B' A' n' rs)
    (hB1 : B ≤ w.heap.size) (hB2 : B' ≤ w.heap.size) (hc1 : n ≤ c) (hc2 : n' ≤ c') (hm1 : c ≤ maxLen) (hm2 : c' ≤ maxLen) (h0 : wrongR s t n n' = 0) :
    Calls Try.prog 19 #[s.r A n c, t.r A' n' c'] w fun e w' =>
      e = .returned (.tuple #[.int .i64 ((diffs t.bpp bs rs (t.w * t.h).toNat : Nat) : Int), .int .i64 0]) ∧ Below w.heap.size w w' := by
  have hB := Below.refl w.heap.size w
  unfold maxLen at hm1 hm2
  have H1 := Lib.hid (fun w => wrongDf_any s t n c n' c' A A' w)
  have HZ := Lib.hid h0
  obtain ⟨-, hmt, hst, hnn, h16⟩ := wrongR_zero h0
  obtain ⟨p1, p2, p3, p4, p5, p6⟩ := Sh.pix_n hmt
  obtain ⟨P, hP⟩ : ∃ P, P = (t.w * t.h).toNat := ⟨_, rfl⟩
  obtain ⟨p, hpp⟩ : ∃ p, p = t.bpp := ⟨_, rfl⟩
  rw [← hP, ← hpp] at p1
  rw [← hpp] at p2 p3 p4
  rw [← hP, ← hpp]
  have HP := Lib.hid p4.symm
  have HN := Lib.hid p1
  obtain rfl := hnn
  clear hst h0 hP hpp p4 hmt
  have hP : P ≤ n := by rw [HN.out]; exact Nat.le_mul_of_pos_right _ (by omega)
  clear p1
  obtain ⟨W, H, C, D⟩ := s
  obtain ⟨W', H', C', D'⟩ := t
  dsimp only [Sh.r] at H1 HP p5 p6
  show Calls _ _ #[.agg #[.int .i64 W, .int .i64 H, .int .i64 C, .int .i64 D, .slice A n c], .agg #[.int .i64 W', .int .i64 H', .int .i64 C', .int .i64 D', .slice A' n c']] w _
  go_enter Try.func19, Try.ntmps19
  go_wp2_with (go_at_call 44; (with_reducible refine (H1.out _).mono ?_); rintro e w1 ⟨rfl, hb1⟩; rw [HZ.out]; have dd := box5 hb1; rw [World.size_alloc] at dd; replace hb1 := bxd hb1; have cc := box5 hb1; replace hB := bxd hb1; clear hb1)
  rw [HP.out]
  clear p5 p6
  go_loopw [8, 9] (fun x i wr => ∃ k q : Nat, (k ≤ P ∧ q ≤ n) ∧ Hid (q = k * p) ∧ i = .int .i64 q ∧ x = .int .i64 ((diffs p bs rs k : Nat) : Int) ∧ (∀ i, wr.cell? ⟨w.heap.size, i, none⟩ = r5 (.int .i64 W) (.int .i64 H) (.int .i64 C) (.int .i64 D) (.slice A n c) i) ∧ (∀ i, wr.cell? ⟨w.heap.size + 1, i, none⟩ = r5 (.int .i64 W') (.int .i64 H') (.int .i64 C') (.int .i64 D') (.slice A' n c') i) ∧ Below w.heap.size w wr)
    (fun _ i _ => n - (intOf i).toNat)
  case atStart => exact ⟨0, 0, by omega, (Nat.zero_mul p).symm, rfl, rfl, cc, dd, hB⟩
  case round =>
    clear cc dd hB
    obtain ⟨k, q, ⟨hk, hq⟩, hkq, rfl, rfl, cc, dd, hB⟩ := hrel
    by_cases hlt : q < n
    · have hk1 : k < P := by
        rcases Nat.lt_or_ge k P with h | h
        · exact h
        · exfalso
          have : P * p ≤ k * p := Nat.mul_le_mul_right _ h
          have := HN.out
          have := hkq.out
          omega
      have hq1 : q + p ≤ n := by
        have : (k + 1) * p ≤ P * p := Nat.mul_le_mul_right _ hk1
        rw [Nat.succ_mul] at this
        have := HN.out
        have := hkq.out
        omega
      have hkq1 : Hid (q + p = (k + 1) * p) := by show _ = _; rw [Nat.succ_mul, hkq.out]
      have hd := diffs_le p bs rs k
      have hds : Hid (diffs p bs rs (k + 1) = diffs p bs rs k + if (rs.drop q).take p == (bs.drop q).take p then 0 else 1) := by show _ = _; rw [hkq.out]; rfl
      have hlt2 : (q : Int) < n := by omega
      generalize diffs p bs rs k = dk at hd hds ⊢
      have v1 := wrapI ((q : Int) + p) (by omega) (by omega)
      have v2 : (0 : Int) ≤ (q : Int) + p := by omega
      have v3 : ((q : Int) + p).toNat = q + p := by omega
      have hE := Lib.hid (fun m => Calls.quiet_of_same (n := m) (w := wr) (flipW (equalB_any w.heap.size p (c' - q) w.heap.size p (c - q) _ _ ((rs.drop q).take p) ((bs.drop q).take p) (wr.drewN m) (RdB.drewN (((hr.blw (hB.mono hB2)).mid' hq1).more hB2) m) (RdB.drewN (((hp.blw (hB.mono hB1)).mid' hq1).more hB1) m))))
      generalize ((rs.drop q).take p == (bs.drop q).take p) = bq at hE hds
      cases bq
      all_goals
        go_wp2
        go_quiet ((go_at_call 45; exact hE.out _))
        go_wp2
        go_roundw
        case rel => exact ⟨k + 1, q + p, ⟨hk1, hq1⟩, hkq1, by go_num, by rw [hds.out]; rfl, cc, dd, bdrewN hB _⟩
        case measure => simp [intOf]; omega
    · have e : k = P := by
        have := HN.out
        have h2 := hkq.out
        have h3 : k * p = P * p := by omega
        exact Nat.eq_of_mul_eq_mul_right (by omega) h3
      subst e
      have hge : decide ((q : Int) < n) = false := by simp; omega
      go_wp2
      go_ret2
      exact ⟨rfl, hB⟩

set_option maxHeartbeats 1600000 in
theorem changed_bad (s t : Sh) (n c n' c' : Nat) (A A' : Option Addr) (w : World) (E : Int) (hE : wrongR s t n n' = E) (h0 : E ≠ 0) :
    Calls Try.prog 19 #[s.r A n c, t.r A' n' c'] w fun e w' => e = .returned (.tuple #[.int .i64 0, .int .i64 E]) ∧ Below w.heap.size w w' := by
  have hB := Below.refl w.heap.size w
  have H1 := Lib.hid (fun w => wrongDf_any s t n c n' c' A A' w)
  have hne : (E != 0) = true := by simpa using h0
  have HE := Lib.hid hE
  clear hE h0
  obtain ⟨W, H, C, D⟩ := s
  obtain ⟨W', H', C', D'⟩ := t
  dsimp only [Sh.r] at H1
  show Calls _ _ #[.agg #[.int .i64 W, .int .i64 H, .int .i64 C, .int .i64 D, .slice A n c], .agg #[.int .i64 W', .int .i64 H', .int .i64 C', .int .i64 D', .slice A' n' c']] w _
  go_enter Try.func19, Try.ntmps19
  go_wp2_with (go_at_call 44; (with_reducible refine (H1.out _).mono ?_); rintro e w1 ⟨rfl, hb1⟩; rw [HE.out]; replace hB := bxd (bxd hb1); clear hb1)
  go_ret2
  exact ⟨rfl, hB⟩

theorem changed_any (s t : Sh) (B n c B' n' c' : Nat) (A A' : Option Addr) (bs rs : List UInt8) (w : World) (hp : RdB w B A n bs) (hr : RdB w B' A' n' rs)
    (hB1 : B ≤ w.heap.size) (hB2 : B' ≤ w.heap.size) (hc1 : n ≤ c) (hc2 : n' ≤ c') (hm1 : c ≤ maxLen) (hm2 : c' ≤ maxLen) :
    Calls Try.prog 19 #[s.r A n c, t.r A' n' c'] w fun e w' =>
      e = .returned (.tuple #[.int .i64 (changedR s t bs rs).1, .int .i64 (changedR s t bs rs).2]) ∧ Below w.heap.size w w' := by
  have hl := hp.len
  have hl' := hr.len
  by_cases h0 : wrongR s t n n' = 0
  · have e : changedR s t bs rs = (((diffs t.bpp bs rs (t.w * t.h).toNat : Nat) : Int), 0) := by unfold changedR; rw [hl, hl', if_pos h0]
    rw [e]
    exact changed_ok s t B n c B' n' c' A A' bs rs w hp hr hB1 hB2 hc1 hc2 hm1 hm2 h0
  · have e : changedR s t bs rs = (0, wrongR s t n n') := by unfold changedR; rw [hl, hl', if_neg h0]
    rw [e]
    exact changed_bad s t n c n' c' A A' w _ rfl h0

end Go.Proofs.Ytfafijhmjnkjeaa

