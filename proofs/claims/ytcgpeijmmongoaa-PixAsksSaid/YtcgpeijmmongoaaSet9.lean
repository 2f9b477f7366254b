/- pix: a number set, by the reference. -/
import Derived.Test.YtcgpeijmmongoaaSet2
namespace Go.Proofs.Ytcgpeijmmongoaa
set_option linter.all false
open Go.RowKit

theorem splice_one {bs : List UInt8} {p : Nat} {a : UInt8} (h : p < bs.length) : splice bs p [a] = bs.set p a := by
  unfold splice
  rw [List.set_eq_take_append_cons_drop, if_pos h]
  rfl
theorem splice_two {bs : List UInt8} {p : Nat} {a b : UInt8} (h : p + 1 < bs.length) : splice bs p [a, b] = (bs.set p a).set (p + 1) b := by
  apply List.ext_getElem?
  intro i
  by_cases hi : i < p ∨ p + 2 ≤ i
  · rw [splice_get (by simp; omega) (by simpa using hi), List.getElem?_set_ne (by omega), List.getElem?_set_ne (by omega)]
  · rcases (by omega : i = p ∨ i = p + 1) with rfl | rfl
    · rw [List.getElem?_set_ne (by omega), List.getElem?_set_self (by omega)]
      unfold splice
      rw [List.getElem?_append_right (by simp; omega), List.length_take, Nat.min_eq_left (by omega), Nat.sub_self]
      rfl
    · rw [List.getElem?_set_self (by rw [List.length_set]; omega)]
      unfold splice
      rw [List.getElem?_append_right (by simp; omega), List.length_take, Nat.min_eq_left (by omega), show p + 1 - p = 1 by omega]
      rfl
theorem beR1 {v : Int} (h0 : 0 ≤ v) (h1 : v < 256) : beR v 1 = ([UInt8.ofNat v.toNat], 0) := by
  unfold beR
  rw [if_pos (show numOk v 1 from ⟨by omega, by omega, h0, by show v / 256 ≤ 0; omega⟩)]
  have : beB v.toNat 1 = [UInt8.ofNat v.toNat] := by
    unfold beB leB
    rw [show List.range 1 = [0] from rfl]
    simp
  show (beB v.toNat 1, _) = _
  rw [this]
theorem beR2 {v : Int} (h0 : 0 ≤ v) (h1 : v < 65536) : beR v 2 = ([UInt8.ofNat (v.toNat / 256), UInt8.ofNat v.toNat], 0) := by
  unfold beR
  rw [if_pos (show numOk v 2 from ⟨by omega, by omega, h0, by show v / 65536 ≤ 0; omega⟩)]
  show (beB v.toNat 2, _) = _
  rw [beB2]
theorem beR_no {v wd : Int} (hw : wd = 1 ∨ wd = 2) (h : v < 0 ∨ (wd = 1 ∧ 256 ≤ v) ∨ (wd = 2 ∧ 65536 ≤ v)) : (beR v wd).2 = 1 := by
  unfold beR
  rw [if_neg]
  rintro ⟨-, -, h3, h4⟩
  rcases hw with rfl | rfl
  · have h4' : v / 256 ≤ 0 := h4
    omega
  · have h4' : v / 65536 ≤ 0 := h4
    omega

set_option maxRecDepth 100000 in
set_option maxHeartbeats 3200000 in
theorem set9_bad (s : Sh) (A : Option Addr) (n cc : Nat) (x y c v : Int) (w : World) (E : Int) (hE : s.setE n x y c v = E) (h0 : E ≠ 0) (hv : -9223372036854775808 ≤ v ∧ v ≤ 9223372036854775807) :
    Calls Try.prog 51 #[s.r A n cc, .int .i64 x, .int .i64 y, .int .i64 c, .int .i64 v] w fun e w' =>
      e = .returned (.tuple #[Sh.r ⟨0, 0, 0, 0⟩ none 0 0, .int .i64 E]) ∧ Below w.heap.size w w' := by
  have hB := Below.refl w.heap.size w
  have hne : (E != 0) = true := by simpa using h0
  have HV := Lib.hid (fun w => place9_any s A n cc x y c w)
  by_cases hp : (s.place n x y c).2 = 0
  · have he1 : (beR v (s.d / 8)).2 = E := by unfold Sh.setE at hE; rwa [if_pos hp] at hE
    obtain ⟨-, -, p0, p1, p2, hd⟩ := Sh.place_ok hp
    rw [hp] at HV
    have hcase : E = 1 ∧ (v < 0 ∨ (0 ≤ v ∧ s.d = 8 ∧ 256 ≤ v) ∨ (0 ≤ v ∧ s.d = 16 ∧ 65536 ≤ v)) := by
      by_cases hneg : v < 0
      · exact ⟨by rw [← he1]; exact beR_no (by omega) (.inl hneg), .inl hneg⟩
      · rcases hd with hd | hd
        · by_cases h256 : v < 256
          · rw [hd, show (8 : Int) / 8 = 1 from rfl, beR1 (by omega) h256] at he1
            exact absurd he1.symm h0
          · exact ⟨by rw [← he1]; exact beR_no (by omega) (.inr (.inl ⟨by omega, by omega⟩)), .inr (.inl ⟨by omega, hd, by omega⟩)⟩
        · by_cases h65 : v < 65536
          · rw [hd, show (16 : Int) / 8 = 2 from rfl, beR2 (by omega) h65] at he1
            exact absurd he1.symm h0
          · exact ⟨by rw [← he1]; exact beR_no (by omega) (.inr (.inr ⟨by omega, by omega⟩)), .inr (.inr ⟨by omega, hd, by omega⟩)⟩
    obtain ⟨rfl, hcase⟩ := hcase
    clear hE h0 hp he1 p1 hd hne
    generalize (s.place n x y c).1 = pp at HV p0
    obtain ⟨W, H, C, D⟩ := s
    dsimp only at hcase
    dsimp only [Sh.r] at HV ⊢
    rcases hcase with hv | ⟨hv0, rfl, hv⟩ | ⟨hv0, rfl, hv⟩
    all_goals
      (try have hv1 : decide (v < 0) = true := by simpa using ‹v < 0›)
      (try have hv1 : decide (v < 0) = false := by simpa using ‹0 ≤ v›)
      go_enter Try.func51, Try.ntmps51
      go_wp2_with (go_at_call 70; (with_reducible refine (HV.out _).mono ?_); go_must (rintro e w1 ⟨rfl, hb1⟩; have rr := box5 hb1; rw [World.size_alloc] at rr; have ff := boxF hb1; rw [World.size_alloc] at ff; replace hb1 := bxd hb1; have cc1 := box5 hb1; replace hB := bxd hb1; clear hb1))
      refine bodyPost_ret (v := .tuple #[.agg #[.int .i64 0, .int .i64 0, .int .i64 0, .int .i64 0, .slice none 0 0], .int .i64 1]) ?_ rfl ?_
      · unfold results
        go_simp
      · exact ⟨rfl, Below.set5 hB (Nat.le_succ _) _ _ _ _ _⟩
  · have he1 : (s.place n x y c).2 = E := by unfold Sh.setE at hE; rwa [if_neg hp] at hE
    rw [he1] at HV
    clear hE h0 hp he1
    generalize (s.place n x y c).1 = pp at HV
    obtain ⟨W, H, C, D⟩ := s
    dsimp only [Sh.r] at HV ⊢
    go_enter Try.func51, Try.ntmps51
    go_wp2_with (go_at_call 70; (with_reducible refine (HV.out _).mono ?_); go_must (rintro e w1 ⟨rfl, hb1⟩; have rr := box5 hb1; rw [World.size_alloc] at rr; have ff := boxF hb1; rw [World.size_alloc] at ff; replace hB := bxd (bxd hb1); clear hb1))
    refine bodyPost_ret (v := .tuple #[.agg #[.int .i64 0, .int .i64 0, .int .i64 0, .int .i64 0, .slice none 0 0], .int .i64 E]) ?_ rfl ?_
    · unfold results
      go_simp
    · exact ⟨rfl, Below.set5 hB (Nat.le_succ _) _ _ _ _ _⟩

set_option maxRecDepth 100000 in
set_option maxHeartbeats 3200000 in
theorem set9_ok (s : Sh) (B : Nat) (A : Option Addr) (n cc : Nat) (bs : List UInt8) (x y c v : Int) (w : World) (h : RdB w B A n bs) (hBw : B ≤ w.heap.size) (he : s.setE n x y c v = 0) :
    Calls Try.prog 51 #[s.r A n cc, .int .i64 x, .int .i64 y, .int .i64 c, .int .i64 v] w fun e w' =>
      ∃ A1 n1 c1, e = .returned (.tuple #[s.r A1 n1 c1, .int .i64 0]) ∧ ownB w' w.heap.size (.slice A1 n1 c1) (splice bs (s.place n x y c).1.toNat (beR v (s.d / 8)).1) ∧ Below w.heap.size w w' := by
  have hB := Below.refl w.heap.size w
  have hl := h.len
  have he0 : (s.place n x y c).2 = 0 := by unfold Sh.setE at he; split at he <;> assumption
  have he1 : (beR v (s.d / 8)).2 = 0 := by unfold Sh.setE at he; rwa [if_pos he0] at he
  obtain ⟨hm, -, p0, p1, p2, hd⟩ := Sh.place_ok he0
  obtain ⟨p, hp⟩ := Int.eq_ofNat_of_zero_le p0
  have HP := Lib.hid (show s.place n x y c = ((p : Int), 0) from Prod.ext hp he0)
  rw [HP.out] at p1 ⊢
  have HV := Lib.hid (fun w => place9_any s A n cc x y c w)
  rw [HP.out] at HV
  dsimp only at HV
  have HN := Lib.hid hl
  have HC := Lib.hid (fun (w' : World) (hb : Below w.heap.size w w') => copyR_any s w.heap.size A n cc bs w' ((h.blw (hb.mono hBw)).more hBw) hb.size (by omega))
  rcases hd with hd | hd
  · have hv : 0 ≤ v ∧ v < 256 := by
      rw [hd] at he1
      rcases (by omega : v < 0 ∨ 256 ≤ v ∨ (0 ≤ v ∧ v < 256)) with q | q | q
      · rw [show (8 : Int) / 8 = 1 from rfl, beR_no (.inl rfl) (.inl q)] at he1; cases he1
      · rw [show (8 : Int) / 8 = 1 from rfl, beR_no (.inl rfl) (.inr (.inl ⟨rfl, q⟩))] at he1; cases he1
      · exact q
    obtain ⟨hv0, hv9⟩ := hv
    rw [hd] at p1 ⊢
    have hpn : p < n := by dsimp only at p1; omega
    rw [show (8 : Int) / 8 = 1 from rfl, beR1 hv0 hv9, show ((p : Int), (0 : Int)).1.toNat = p from rfl, splice_one (by rw [hl]; exact hpn)]
    clear hm hl he he0 he1 hp p0 p1 HP h
    obtain ⟨W, H, C, D⟩ := s
    dsimp only at hd
    subst hd
    dsimp only [Sh.r] at HV HC ⊢
    have hv1 : decide (v < 0) = false := by simp; omega
    have hv2 : ¬ (0 < v / 256) := by omega
    go_enter Try.func51, Try.ntmps51
    go_wp2_with (first
      | (go_at_call 70; (with_reducible refine (HV.out _).mono ?_); go_must (rintro e w1 ⟨rfl, hb1⟩; have rr := box5 hb1; rw [World.size_alloc] at rr; have ff := boxF hb1; rw [World.size_alloc] at ff; replace hb1 := bxd hb1; have cc1 := box5 hb1; have fc := boxF hb1; replace hB := bxd hb1; clear hb1))
      | (go_at_call 24; (with_reducible refine (HC.out _ hB).mono ?_); go_must (rintro e w2 ⟨A3, n3, c3, rfl, hy, hb1⟩; obtain ⟨A4, c4, ev, r4, l4, _⟩ := hy.form; injection ev with ev1 ev2 ev3; subst ev1 ev2 ev3; rw [HN.out] at hy l4 ⊢; clear r4; replace hy := hy.mono (base' := w.heap.size + 2) (ltOf rr rfl); obtain ⟨-, g, rfl, hg1, hg2⟩ := hy.pos (by omega); replace ff := keptF (ltOf rr rfl) ff hb1; replace fc := keptF (ltOf cc1 rfl) fc hb1; replace rr := kept rr rfl hb1; replace cc1 := kept cc1 rfl hb1; replace hB := bstep hB hb1 (Nat.le_refl _); clear hb1; obtain ⟨y0, _, cy0⟩ := hy.byte HN.out.symm hpn;  have fz := fun i => hy.frozen HN.out.symm i; have gn1 : ¬ w.heap.size = g := (by omega); have gn2 : ¬ w.heap.size + 1 = g := (by omega); have gn3 : ¬ g = w.heap.size := (by omega); have gn4 : ¬ g = w.heap.size + 1 := (by omega))))
    refine bodyPost_ret (v := .tuple #[.agg #[.int .i64 W, .int .i64 H, .int .i64 C, .int .i64 8, .slice (some ⟨g, 0, none⟩) n c3], .int .i64 0]) ?_ rfl ?_
    · unfold results
      go_simp
    · have h5 := hy.far5 (ownB_ne hy (g := w.heap.size) (by omega)) (.int .i64 W) (.int .i64 H) (.int .i64 C) (.int .i64 8) (.slice (some ⟨g, 0, none⟩) n c3)
      have h6 := h5.store HN.out.symm p (UInt8.ofNat v.toNat)
      rw [u8_of, show ((v.toNat : Nat) : Int) % 256 = v by omega] at h6
      exact ⟨_, _, _, rfl, (h6.far5 (ownB_ne h6 (g := w.heap.size + 1) (by omega)) _ _ _ _ _).mono (by omega), Below.set5 ((Below.set5 hB (Nat.le_refl _) _ _ _ _ _).setCell (p := ⟨g, p, none⟩) (by show w.heap.size ≤ g; omega) _) (Nat.le_succ _) _ _ _ _ _⟩
  · have hv : 0 ≤ v ∧ v < 65536 := by
      rw [hd] at he1
      rcases (by omega : v < 0 ∨ 65536 ≤ v ∨ (0 ≤ v ∧ v < 65536)) with q | q | q
      · rw [show (16 : Int) / 8 = 2 from rfl, beR_no (.inr rfl) (.inl q)] at he1; cases he1
      · rw [show (16 : Int) / 8 = 2 from rfl, beR_no (.inr rfl) (.inr (.inr ⟨rfl, q⟩))] at he1; cases he1
      · exact q
    obtain ⟨hv0, hv9⟩ := hv
    rw [hd] at p1 ⊢
    have hpn : p < n := by dsimp only at p1; omega
    have hpn1 : p + 1 < n := by dsimp only at p1; omega
    rw [show (16 : Int) / 8 = 2 from rfl, beR2 hv0 hv9, show ((p : Int), (0 : Int)).1.toNat = p from rfl, splice_two (by rw [hl]; exact hpn1)]
    clear hm hl he he0 he1 hp p0 p1 HP h
    obtain ⟨W, H, C, D⟩ := s
    dsimp only at hd
    subst hd
    dsimp only [Sh.r] at HV HC ⊢
    have hv1 : decide (v < 0) = false := by simp; omega
    have hv2 : ¬ (0 < v / 65536) := by omega
    go_enter Try.func51, Try.ntmps51
    go_wp2_with (first
      | (go_at_call 70; (with_reducible refine (HV.out _).mono ?_); go_must (rintro e w1 ⟨rfl, hb1⟩; have rr := box5 hb1; rw [World.size_alloc] at rr; have ff := boxF hb1; rw [World.size_alloc] at ff; replace hb1 := bxd hb1; have cc1 := box5 hb1; have fc := boxF hb1; replace hB := bxd hb1; clear hb1))
      | (go_at_call 24; (with_reducible refine (HC.out _ hB).mono ?_); go_must (rintro e w2 ⟨A3, n3, c3, rfl, hy, hb1⟩; obtain ⟨A4, c4, ev, r4, l4, _⟩ := hy.form; injection ev with ev1 ev2 ev3; subst ev1 ev2 ev3; rw [HN.out] at hy l4 ⊢; clear r4; replace hy := hy.mono (base' := w.heap.size + 2) (ltOf rr rfl); obtain ⟨-, g, rfl, hg1, hg2⟩ := hy.pos (by omega); replace ff := keptF (ltOf rr rfl) ff hb1; replace fc := keptF (ltOf cc1 rfl) fc hb1; replace rr := kept rr rfl hb1; replace cc1 := kept cc1 rfl hb1; replace hB := bstep hB hb1 (Nat.le_refl _); clear hb1; obtain ⟨y0, _, cy0⟩ := hy.byte HN.out.symm hpn; obtain ⟨y1, _, cy1⟩ := hy.byte HN.out.symm hpn1;  have fz := fun i => hy.frozen HN.out.symm i; have gn1 : ¬ w.heap.size = g := (by omega); have gn2 : ¬ w.heap.size + 1 = g := (by omega); have gn3 : ¬ g = w.heap.size := (by omega); have gn4 : ¬ g = w.heap.size + 1 := (by omega))))
    refine bodyPost_ret (v := .tuple #[.agg #[.int .i64 W, .int .i64 H, .int .i64 C, .int .i64 16, .slice (some ⟨g, 0, none⟩) n c3], .int .i64 0]) ?_ rfl ?_
    · unfold results
      go_simp
    · have h5 := hy.far5 (ownB_ne hy (g := w.heap.size) (by omega)) (.int .i64 W) (.int .i64 H) (.int .i64 C) (.int .i64 16) (.slice (some ⟨g, 0, none⟩) n c3)
      have h6 := h5.store HN.out.symm p (UInt8.ofNat (v.toNat / 256))
      rw [u8_of, show ((v.toNat / 256 : Nat) : Int) % 256 = v / 256 by omega] at h6
      have h7 := h6.store (by rw [List.length_set]; exact HN.out.symm) (p + 1) (UInt8.ofNat v.toNat)
      rw [u8_of, show ((v.toNat : Nat) : Int) % 256 = v % 256 by omega] at h7
      exact ⟨_, _, _, rfl, (h7.far5 (ownB_ne h7 (g := w.heap.size + 1) (by omega)) _ _ _ _ _).mono (by omega), Below.set5 (((Below.set5 hB (Nat.le_refl _) _ _ _ _ _).setCell (p := ⟨g, p, none⟩) (by show w.heap.size ≤ g; omega) _).setCell (p := ⟨g, p + 1, none⟩) (by show w.heap.size ≤ g; omega) _) (Nat.le_succ _) _ _ _ _ _⟩

theorem set9_any (s : Sh) (B : Nat) (A : Option Addr) (n cc : Nat) (bs : List UInt8) (x y c v : Int) (w : World) (h : RdB w B A n bs) (hBw : B ≤ w.heap.size) (hv : -9223372036854775808 ≤ v ∧ v ≤ 9223372036854775807) :
    Calls Try.prog 51 #[s.r A n cc, .int .i64 x, .int .i64 y, .int .i64 c, .int .i64 v] w fun e w' =>
      ∃ A1 n1 c1, e = .returned (.tuple #[(s.setR bs x y c v).1.r A1 n1 c1, .int .i64 (s.setE n x y c v)]) ∧ ownB w' w.heap.size (.slice A1 n1 c1) (s.setR bs x y c v).2 ∧ Below w.heap.size w w' := by
  have hl := h.len
  by_cases he : s.setE n x y c v = 0
  · have e : s.setR bs x y c v = (s, splice bs (s.place n x y c).1.toNat (beR v (s.d / 8)).1) := by unfold Sh.setR; rw [hl, if_pos he]
    rw [e, he]
    exact set9_ok s B A n cc bs x y c v w h hBw he
  · have e : s.setR bs x y c v = (⟨0, 0, 0, 0⟩, []) := by unfold Sh.setR; rw [hl, if_neg he]
    rw [e]
    refine (set9_bad s A n cc x y c v w _ rfl he hv).mono ?_
    rintro e w' ⟨rfl, hb⟩
    exact ⟨_, _, _, rfl, ownB.nil_ _ _, hb⟩

end Go.Proofs.Ytcgpeijmmongoaa
