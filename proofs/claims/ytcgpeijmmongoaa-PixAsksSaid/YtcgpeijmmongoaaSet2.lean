/- pix: a number set, whole; what is set is told, all others stay. -/
import Derived.Test.YtcgpeijmmongoaaSet1
import Derived.Test.YtcgpeijmmongoaaDec2
namespace Go.Proofs.Ytcgpeijmmongoaa
set_option linter.all false
open Go.RowKit

set_option maxRecDepth 100000 in
set_option maxHeartbeats 3200000 in
theorem set_bad (s : Sh) (A : Option Addr) (n cc : Nat) (x y c v : Int) (w : World) (E : Int) (hE : s.setE n x y c v = E) (h0 : E ≠ 0) :
    Calls Try.prog 49 #[s.r A n cc, .int .i64 x, .int .i64 y, .int .i64 c, .int .i64 v] w fun e w' =>
      e = .returned (.tuple #[Sh.r ⟨0, 0, 0, 0⟩ none 0 0, .int .i64 E]) ∧ Below w.heap.size w w' := by
  have hB := Below.refl w.heap.size w
  have hne : (E != 0) = true := by simpa using h0
  have HV := Lib.hid (fun w => place_any s A n cc x y c w)
  by_cases hp : (s.place n x y c).2 = 0
  · have he1 : (beR v (s.d / 8)).2 = E := by unfold Sh.setE at hE; rwa [if_pos hp] at hE
    have HB := Lib.hid (fun w => big_any v (s.d / 8) w)
    obtain ⟨-, -, p0, p1, p2, hd⟩ := Sh.place_ok hp
    rw [hp] at HV
    rw [he1] at HB
    have e8 : s.d.tdiv 8 = s.d / 8 := Int.tdiv_eq_ediv_of_nonneg (by omega)
    clear hE h0 hp he1 p1
    generalize (s.place n x y c).1 = pp at HV p0
    generalize (beR v (s.d / 8)).1 = X at HB
    obtain ⟨W, H, C, D⟩ := s
    dsimp only [Sh.r] at e8 hd HB HV ⊢
    generalize hD8 : D / 8 = d8 at HB e8
    have hd8 : 0 ≤ d8 ∧ d8 ≤ 2 := by omega
    clear hD8 hd
    go_enter Try.func49, Try.ntmps49
    go_wp2_with (first
      | (go_at_call 62; (with_reducible refine (HV.out _).mono ?_); go_must (rintro e w1 ⟨rfl, hb1⟩; have rr := box5 hb1; rw [World.size_alloc] at rr; have ff := boxF hb1; rw [World.size_alloc] at ff; replace hb1 := bxd hb1; have cc1 := box5 hb1; replace hB := bxd hb1; clear hb1))
      | (go_at_call 67; (with_reducible refine (HB.out _).mono ?_); go_must (rintro e w2 ⟨v2, rfl, hx, hb1⟩; replace ff := keptF (ltOf rr rfl) ff hb1; replace rr := kept rr rfl hb1; replace hB := bstep hB hb1 (Nat.le_refl _); clear hb1)))
    refine bodyPost_ret (v := .tuple #[.agg #[.int .i64 0, .int .i64 0, .int .i64 0, .int .i64 0, .slice none 0 0], .int .i64 E]) ?_ rfl ?_
    · unfold results
      go_simp
    · exact ⟨rfl, Below.set5 hB (Nat.le_succ _) _ _ _ _ _⟩
  · have he1 : (s.place n x y c).2 = E := by unfold Sh.setE at hE; rwa [if_neg hp] at hE
    rw [he1] at HV
    clear hE h0 hp he1
    generalize (s.place n x y c).1 = pp at HV
    obtain ⟨W, H, C, D⟩ := s
    dsimp only [Sh.r] at HV ⊢
    go_enter Try.func49, Try.ntmps49
    go_wp2_with (go_at_call 62; (with_reducible refine (HV.out _).mono ?_); go_must (rintro e w1 ⟨rfl, hb1⟩; have rr := box5 hb1; rw [World.size_alloc] at rr; have ff := boxF hb1; rw [World.size_alloc] at ff; replace hB := bxd (bxd hb1); clear hb1))
    refine bodyPost_ret (v := .tuple #[.agg #[.int .i64 0, .int .i64 0, .int .i64 0, .int .i64 0, .slice none 0 0], .int .i64 E]) ?_ rfl ?_
    · unfold results
      go_simp
    · exact ⟨rfl, Below.set5 hB (Nat.le_succ _) _ _ _ _ _⟩

theorem set_any (s : Sh) (B : Nat) (A : Option Addr) (n cc : Nat) (bs : List UInt8) (x y c v : Int) (w : World) (h : RdB w B A n bs) (hBw : B ≤ w.heap.size) :
    Calls Try.prog 49 #[s.r A n cc, .int .i64 x, .int .i64 y, .int .i64 c, .int .i64 v] w fun e w' =>
      ∃ A1 n1 c1, e = .returned (.tuple #[(s.setR bs x y c v).1.r A1 n1 c1, .int .i64 (s.setE n x y c v)]) ∧ ownB w' w.heap.size (.slice A1 n1 c1) (s.setR bs x y c v).2 ∧ Below w.heap.size w w' := by
  have hl := h.len
  by_cases he : s.setE n x y c v = 0
  · have e : s.setR bs x y c v = (s, splice bs (s.place n x y c).1.toNat (beR v (s.d / 8)).1) := by unfold Sh.setR; rw [hl, if_pos he]
    rw [e, he]
    exact set_ok s B A n cc bs x y c v w h hBw he
  · have e : s.setR bs x y c v = (⟨0, 0, 0, 0⟩, []) := by unfold Sh.setR; rw [hl, if_neg he]
    rw [e]
    refine (set_bad s A n cc x y c v w _ rfl he).mono ?_
    rintro e w' ⟨rfl, hb⟩
    exact ⟨_, _, _, rfl, ownB.nil_ _ _, hb⟩

/-! The plain law. -/
theorem splice_here {bs : List UInt8} {p : Nat} {X : List UInt8} (h : p ≤ bs.length) : ((splice bs p X).drop p).take X.length = X := by
  unfold splice
  rw [List.drop_append_of_le_length (by simp; omega), List.drop_eq_nil_of_le (by rw [List.length_take]; omega), List.nil_append, List.take_append_of_le_length (Nat.le_refl _), List.take_length]
theorem splice_get {bs : List UInt8} {p : Nat} {X : List UInt8} (h : p + X.length ≤ bs.length) {m : Nat} (hm : m < p ∨ p + X.length ≤ m) : (splice bs p X)[m]? = bs[m]? := by
  unfold splice
  rcases hm with hm | hm
  · rw [List.getElem?_append_left (by simp; omega), List.getElem?_take, if_pos hm]
  · rw [List.getElem?_append_right (by simp; omega), List.length_take, Nat.min_eq_left (by omega), List.getElem?_append_right (by omega), List.getElem?_drop]
    congr 1
    omega
theorem splice_far {bs : List UInt8} {p q k : Nat} {X : List UInt8} (h : p + X.length ≤ bs.length) (hq : q + k ≤ p ∨ p + X.length ≤ q) : ((splice bs p X).drop q).take k = (bs.drop q).take k := by
  apply List.ext_getElem?
  intro i
  rw [List.getElem?_take, List.getElem?_take]
  split
  · rw [List.getElem?_drop, List.getElem?_drop, splice_get h (by omega)]
  · rfl
theorem beV_beR {v wd : Int} (hw : wd = 1 ∨ wd = 2) (h : (beR v wd).2 = 0) : ((beV (beR v wd).1 : Nat) : Int) = v := by
  unfold beR at h ⊢
  split at h
  · rename_i hn
    rw [if_pos hn]
    obtain ⟨-, -, h3, h4⟩ := hn
    rcases hw with rfl | rfl
    · show ((beV (beB v.toNat 1) : Nat) : Int) = v
      have : beB v.toNat 1 = [UInt8.ofNat v.toNat] := by
        unfold beB leB
        rw [show List.range 1 = [0] from rfl]
        simp
      rw [this]
      have h4' : v / 256 ≤ 0 := h4
      simp [beV]
      omega
    · show ((beV (beB v.toNat 2) : Nat) : Int) = v
      rw [beB2]
      have h4' : v / 65536 ≤ 0 := h4
      simp [beV]
      omega
  · cases h

theorem radix {M y j a b : Int} (hM : 0 < M) (ha : 0 ≤ a ∧ a < M) (hb : 0 ≤ b ∧ b < M) (h : y * M + a = j * M + b) : y = j ∧ a = b := by
  rcases (by omega : y < j ∨ j < y ∨ y = j) with q | q | q
  · have := Int.mul_le_mul_of_nonneg_right (show y + 1 ≤ j by omega) (Int.le_of_lt hM)
    rw [Int.add_mul, Int.one_mul] at this
    omega
  · have := Int.mul_le_mul_of_nonneg_right (show j + 1 ≤ y by omega) (Int.le_of_lt hM)
    rw [Int.add_mul, Int.one_mul] at this
    omega
  · subst q
    exact ⟨rfl, by omega⟩

theorem place_far {s : Sh} {n : Nat} {x y c i j k : Int} (h1 : (s.place n x y c).2 = 0) (h2 : (s.place n i j k).2 = 0) (hne : ¬ (i = x ∧ j = y ∧ k = c)) :
    (s.place n i j k).1 + s.d / 8 ≤ (s.place n x y c).1 ∨ (s.place n x y c).1 + s.d / 8 ≤ (s.place n i j k).1 := by
  obtain ⟨hm, hn, -⟩ := Sh.place_ok h1
  have ib : ∀ {x y c}, (s.place n x y c).2 = 0 → s.inB x y c = true := by
    intro x y c h
    cases hi : s.inB x y c with
    | true => rfl
    | false => unfold Sh.place at h; rw [hm, hi] at h; simp at h
  have i1 := ib h1
  have i2 := ib h2
  have v1 : (s.place n x y c).1 = y * s.row + (x * s.c + c) * s.d / 8 := by unfold Sh.place; rw [hm, i1]; rfl
  have v2 : (s.place n i j k).1 = j * s.row + (i * s.c + k) * s.d / 8 := by unfold Sh.place; rw [hm, i2]; rfl
  obtain ⟨⟨w1, w2⟩, ⟨h1', h2'⟩, ⟨c1, c2⟩, hd⟩ := (Sh.nums_iff s).1 hn
  obtain ⟨⟨x1, x2⟩, ⟨y1, y2⟩, ⟨k1, k2⟩⟩ := (Sh.inB_iff s x y c).1 i1
  obtain ⟨⟨x1', x2'⟩, ⟨y1', y2'⟩, ⟨k1', k2'⟩⟩ := (Sh.inB_iff s i j k).1 i2
  obtain ⟨e, he, he2⟩ : ∃ e : Int, s.d = 8 * e ∧ (e = 1 ∨ e = 2) := by
    rcases hd with q | q
    · exact ⟨1, q, .inl rfl⟩
    · exact ⟨2, q, .inr rfl⟩
  have hr : s.row = s.w * s.c * e := by
    rw [show s.row = s.w * s.c * s.d / 8 from if_pos hn, he, show s.w * s.c * (8 * e) = (s.w * s.c * e) * 8 by ac_rfl]
    exact Int.mul_ediv_cancel _ (by decide)
  have hq : ∀ a : Int, a * s.d / 8 = a * e := fun a => by
    rw [he, show a * (8 * e) = (a * e) * 8 by ac_rfl]
    exact Int.mul_ediv_cancel _ (by decide)
  have hde : s.d / 8 = e := by omega
  rw [v1, v2, hr, hq, hq, hde]
  have t1 : y * (s.w * s.c * e) + (x * s.c + c) * e = (y * (s.w * s.c) + (x * s.c + c)) * e := by rw [Int.add_mul (y * (s.w * s.c)) (x * s.c + c) e, Int.mul_assoc y (s.w * s.c) e]
  have t2 : j * (s.w * s.c * e) + (i * s.c + k) * e = (j * (s.w * s.c) + (i * s.c + k)) * e := by rw [Int.add_mul (j * (s.w * s.c)) (i * s.c + k) e, Int.mul_assoc j (s.w * s.c) e]
  rw [t1, t2]
  have b1 : 0 ≤ x * s.c + c ∧ x * s.c + c < s.w * s.c := by
    have a0 := Int.mul_nonneg x1 (show 0 ≤ s.c by omega)
    have a1 := Int.mul_le_mul_of_nonneg_right (show x + 1 ≤ s.w by omega) (show 0 ≤ s.c by omega)
    rw [Int.add_mul, Int.one_mul] at a1
    omega
  have b2 : 0 ≤ i * s.c + k ∧ i * s.c + k < s.w * s.c := by
    have a0 := Int.mul_nonneg x1' (show 0 ≤ s.c by omega)
    have a1 := Int.mul_le_mul_of_nonneg_right (show i + 1 ≤ s.w by omega) (show 0 ≤ s.c by omega)
    rw [Int.add_mul, Int.one_mul] at a1
    omega
  have hdiff : y * (s.w * s.c) + (x * s.c + c) ≠ j * (s.w * s.c) + (i * s.c + k) := by
    intro q
    obtain ⟨q1, q2⟩ := radix (by omega) b1 b2 q
    obtain ⟨q3, q4⟩ := radix (show 0 < s.c by omega) ⟨k1, k2⟩ ⟨k1', k2'⟩ q2
    exact hne ⟨q3.symm, q1.symm, q4.symm⟩
  generalize y * (s.w * s.c) + (x * s.c + c) = P at *
  generalize j * (s.w * s.c) + (i * s.c + k) = Q at *
  rcases he2 with rfl | rfl <;> omega

theorem at_set {s : Sh} {bs : List UInt8} {x y c v : Int} (h : s.setE bs.length x y c v = 0) :
    (splice bs (s.place bs.length x y c).1.toNat (beR v (s.d / 8)).1).length = bs.length ∧ s.at_ (splice bs (s.place bs.length x y c).1.toNat (beR v (s.d / 8)).1) x y c = (v, 0) ∧
    ∀ i j k, ¬ (i = x ∧ j = y ∧ k = c) → s.at_ (splice bs (s.place bs.length x y c).1.toNat (beR v (s.d / 8)).1) i j k = s.at_ bs i j k := by
  have h0 : (s.place bs.length x y c).2 = 0 := by unfold Sh.setE at h; split at h <;> assumption
  have h1 : (beR v (s.d / 8)).2 = 0 := by unfold Sh.setE at h; rwa [if_pos h0] at h
  obtain ⟨-, -, p0, p1, -, hd⟩ := Sh.place_ok h0
  have hl := beR_len h1
  have hw : s.d / 8 = 1 ∨ s.d / 8 = 2 := by omega
  have hv := beV_beR hw h1
  have hfit : (s.place bs.length x y c).1.toNat + (beR v (s.d / 8)).1.length ≤ bs.length := by omega
  have hlen := splice_len hfit
  refine ⟨hlen, ?_, ?_⟩
  · unfold Sh.at_
    rw [hlen, if_pos h0, show (s.d / 8).toNat = (beR v (s.d / 8)).1.length by omega, splice_here (by omega), hv]
  · intro i j k hne
    unfold Sh.at_
    rw [hlen]
    by_cases h2 : (s.place bs.length i j k).2 = 0
    · rw [if_pos h2, if_pos h2]
      obtain ⟨-, -, q0, q1, -, -⟩ := Sh.place_ok h2
      have := place_far h0 h2 hne
      rw [splice_far hfit (by omega)]
    · rw [if_neg h2, if_neg h2]

end Go.Proofs.Ytcgpeijmmongoaa
