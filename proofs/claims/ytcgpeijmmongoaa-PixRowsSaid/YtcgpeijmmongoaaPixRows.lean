/- The walk of PixRows. -/
import Derived.Test.YtcgpeijmmongoaaPixFirst
import Derived.Deep.RegionHeld3
namespace Go.Proofs.Ytcgpeijmmongoaa
set_option linter.all false
open Go.RowKit

set_option maxHeartbeats 1600000 in
theorem pixRows_early (s : Sh) (A : Option Addr) (n cc : Nat) (x y c : Int) (w : World) (h : decide (n ≤ 20000) = false ∨ (decide (n ≤ 20000) = true ∧ s.mayR n = false)) :
    Calls Try.prog 7 #[s.r A n cc, .int .i64 x, .int .i64 y, .int .i64 c] w fun e w' => e = .returned (.bool true) ∧ Below w.heap.size w w' := by
  have hB := Below.refl w.heap.size w
  have HF := Lib.hid (fun w => few_any s A n cc w)
  have HM := Lib.hid (fun w => may_any s A n cc w)
  rcases h with h | ⟨h, h'⟩
  · have HFV := Lib.hid h
    have HMV := Lib.hid (rfl : s.mayR n = s.mayR n)
    clear h
    obtain ⟨W, H, C, D⟩ := s
    show Calls _ _ #[.agg #[.int .i64 W, .int .i64 H, .int .i64 C, .int .i64 D, .slice A n cc], .int .i64 x, .int .i64 y, .int .i64 c] w _
    go_enter Try.func7, Try.ntmps7
    go_wp2_with (first
      | (go_at_call 33; go_must (refine (first_any _).mono ?_; rintro e w1 ⟨rfl, hb1⟩; first | (obtain ⟨c0, c1, c2, c3, c4⟩ := cells5 (by simp) hb1; replace hB := bxd hb1; have hz : w.heap.size < w1.heap.size := (by have := hb1.size; simp at this; omega); clear hb1) | ((try replace c0 := bsame hb1 hz c0); (try replace c1 := bsame hb1 hz c1); (try replace c2 := bsame hb1 hz c2); (try replace c3 := bsame hb1 hz c3); (try replace c4 := bsame hb1 hz c4); (try replace d0 := bsame hb1 hy d0); (try replace d1 := bsame hb1 hy d1); (try replace d2 := bsame hb1 hy d2); (try replace d3 := bsame hb1 hy d3); (first | replace hB := bstep hB hb1 (Nat.le_refl _) | replace hB := bstep hB.drew hb1 (Nat.le_refl _)); replace hz := Nat.lt_of_lt_of_le hz hb1.size; (try replace hy := Nat.lt_of_lt_of_le hy hb1.size); clear hb1)))
      | (go_at_call 23; go_must (refine (HF.out _).mono ?_; rintro e wf ⟨rfl, hb1⟩; rw [HFV.out]; (try replace c0 := bsame hb1 hz c0); (try replace c1 := bsame hb1 hz c1); (try replace c2 := bsame hb1 hz c2); (try replace c3 := bsame hb1 hz c3); (try replace c4 := bsame hb1 hz c4); (try replace d0 := bsame hb1 hy d0); (try replace d1 := bsame hb1 hy d1); (try replace d2 := bsame hb1 hy d2); (try replace d3 := bsame hb1 hy d3); (first | replace hB := bstep hB hb1 (Nat.le_refl _) | replace hB := bstep hB.drew hb1 (Nat.le_refl _)); replace hz := Nat.lt_of_lt_of_le hz hb1.size; (try replace hy := Nat.lt_of_lt_of_le hy hb1.size); clear hb1)))
    go_ret
    exact ⟨rfl, hB⟩
  · have HFV := Lib.hid h
    have HMV := Lib.hid h'
    clear h h'
    obtain ⟨W, H, C, D⟩ := s
    show Calls _ _ #[.agg #[.int .i64 W, .int .i64 H, .int .i64 C, .int .i64 D, .slice A n cc], .int .i64 x, .int .i64 y, .int .i64 c] w _
    go_enter Try.func7, Try.ntmps7
    go_wp2_with (first
      | (go_at_call 33; go_must (refine (first_any _).mono ?_; rintro e w1 ⟨rfl, hb1⟩; first | (obtain ⟨c0, c1, c2, c3, c4⟩ := cells5 (by simp) hb1; replace hB := bxd hb1; have hz : w.heap.size < w1.heap.size := (by have := hb1.size; simp at this; omega); clear hb1) | ((try replace c0 := bsame hb1 hz c0); (try replace c1 := bsame hb1 hz c1); (try replace c2 := bsame hb1 hz c2); (try replace c3 := bsame hb1 hz c3); (try replace c4 := bsame hb1 hz c4); (try replace d0 := bsame hb1 hy d0); (try replace d1 := bsame hb1 hy d1); (try replace d2 := bsame hb1 hy d2); (try replace d3 := bsame hb1 hy d3); (first | replace hB := bstep hB hb1 (Nat.le_refl _) | replace hB := bstep hB.drew hb1 (Nat.le_refl _)); replace hz := Nat.lt_of_lt_of_le hz hb1.size; (try replace hy := Nat.lt_of_lt_of_le hy hb1.size); clear hb1)))
      | (go_at_call 23; go_must (refine (HF.out _).mono ?_; rintro e wf ⟨rfl, hb1⟩; rw [HFV.out]; (try replace c0 := bsame hb1 hz c0); (try replace c1 := bsame hb1 hz c1); (try replace c2 := bsame hb1 hz c2); (try replace c3 := bsame hb1 hz c3); (try replace c4 := bsame hb1 hz c4); (try replace d0 := bsame hb1 hy d0); (try replace d1 := bsame hb1 hy d1); (try replace d2 := bsame hb1 hy d2); (try replace d3 := bsame hb1 hy d3); (first | replace hB := bstep hB hb1 (Nat.le_refl _) | replace hB := bstep hB.drew hb1 (Nat.le_refl _)); replace hz := Nat.lt_of_lt_of_le hz hb1.size; (try replace hy := Nat.lt_of_lt_of_le hy hb1.size); clear hb1))
      | (go_at_call 20; go_must (refine (HM.out _).mono ?_; rintro e w2 ⟨rfl, hb1⟩; rw [HMV.out]; (try replace c0 := bsame hb1 hz c0); (try replace c1 := bsame hb1 hz c1); (try replace c2 := bsame hb1 hz c2); (try replace c3 := bsame hb1 hz c3); (try replace c4 := bsame hb1 hz c4); (try replace d0 := bsame hb1 hy d0); (try replace d1 := bsame hb1 hy d1); (try replace d2 := bsame hb1 hy d2); (try replace d3 := bsame hb1 hy d3); (first | replace hB := bstep hB hb1 (Nat.le_refl _) | replace hB := bstep hB.drew hb1 (Nat.le_refl _)); replace hz := Nat.lt_of_lt_of_le hz hb1.size; (try replace hy := Nat.lt_of_lt_of_le hy hb1.size); clear hb1)))
    go_ret
    exact ⟨rfl, hB⟩

theorem sh_row_div (s : Sh) (h : s.nums = true) : (s.w * s.c * s.d).tdiv 8 = s.row := by
  obtain ⟨-, ⟨b1, b2⟩, -, -⟩ := Sh.bounds s h
  rw [Int.tdiv_eq_ediv_of_nonneg (by omega)]
  exact (if_pos h).symm

set_option maxHeartbeats 3200000 in
theorem pixRows_out (s : Sh) (A : Option Addr) (n cc : Nat) (bs : List UInt8) (x y c : Int) (w : World) (hr : RdB w w.heap.size A n bs) (hc : n ≤ cc) (hm : s.mayR n = true) (hi : s.inB x y c = false) :
    Calls Try.prog 7 #[s.r A n cc, .int .i64 x, .int .i64 y, .int .i64 c] w fun e w' => e = .returned (.bool true) ∧ Below w.heap.size w w' := by
  have hB := Below.refl w.heap.size w
  have hn := Sh.mayR_nums hm
  have hz0 := Sh.mayR_size hm
  have hb := Sh.bounds s hn
  have HF := Lib.hid (fun w => few_any s A n cc w)
  have HM := Lib.hid (fun w => may_any s A n cc w)
  have HR := Lib.hid (fun w => row_any s w)
  have HS := Lib.hid (fun w => size_any s w)
  have HA := Lib.hid (fun (w' : World) (h : RdB w' w.heap.size A n bs) (h2 : w.heap.size ≤ w'.heap.size) => at_any s w.heap.size A n cc bs x y c w' h h2 hc (by omega))
  have HFV := Lib.hid (show decide (n ≤ 20000) = true by simp; omega)
  have HMV := Lib.hid hm
  have HAV := Lib.hid (show s.at_ bs x y c = (0, 1) by unfold Sh.at_ Sh.place; rw [hr.len, hm, hi]; rfl)
  obtain ⟨rr, hrr⟩ : ∃ r, r = s.row := ⟨_, rfl⟩
  have HRV := Lib.hid hrr.symm
  have HSV := Lib.hid (show s.size = rr * s.h by rw [Sh.size_ok hn, hrr])
  have v1 := wrapI (s.w * s.c) (by omega) (by omega)
  have v2 := wrapI (s.w * s.c * s.d) (by omega) (by omega)
  have v3 : (s.w * s.c * s.d).tdiv 8 = rr := by rw [hrr]; exact sh_row_div s hn
  have v4 : IntKind.i64.wrap (rr * s.h) = rr * s.h := by rw [hrr]; exact wrapI _ (by omega) (by omega)
  have v5 : ((n : Int) != rr * s.h) = false := by rw [← HSV.out, hz0.1]; simp
  have v6 : decide (rr < 1) = false := by simp; omega
  have v7 : IntKind.i64.wrap rr = rr := wrapI _ (by omega) (by omega)
  clear hm hi hn hb hz0 hrr
  obtain ⟨W, H, C, D⟩ := s
  dsimp only at v1 v2 v3 v4 v5 v6
  show Calls _ _ #[.agg #[.int .i64 W, .int .i64 H, .int .i64 C, .int .i64 D, .slice A n cc], .int .i64 x, .int .i64 y, .int .i64 c] w _
  go_enter Try.func7, Try.ntmps7
  go_wp2_with (first
    | (go_at_call 33; go_must (refine (first_any _).mono ?_; rintro e w1 ⟨rfl, hb1⟩; first | (obtain ⟨c0, c1, c2, c3, c4⟩ := cells5 (by simp) hb1; replace hB := bxd hb1; have hz : w.heap.size < w1.heap.size := (by have := hb1.size; simp at this; omega); clear hb1) | ((try replace c0 := bsame hb1 hz c0); (try replace c1 := bsame hb1 hz c1); (try replace c2 := bsame hb1 hz c2); (try replace c3 := bsame hb1 hz c3); (try replace c4 := bsame hb1 hz c4); (try replace d0 := bsame hb1 hy d0); (try replace d1 := bsame hb1 hy d1); (try replace d2 := bsame hb1 hy d2); (try replace d3 := bsame hb1 hy d3); (first | replace hB := bstep hB hb1 (Nat.le_refl _) | replace hB := bstep hB.drew hb1 (Nat.le_refl _)); replace hz := Nat.lt_of_lt_of_le hz hb1.size; (try replace hy := Nat.lt_of_lt_of_le hy hb1.size); clear hb1)))
    | (go_at_call 23; go_must (refine (HF.out _).mono ?_; rintro e wf ⟨rfl, hb1⟩; rw [HFV.out]; (try replace c0 := bsame hb1 hz c0); (try replace c1 := bsame hb1 hz c1); (try replace c2 := bsame hb1 hz c2); (try replace c3 := bsame hb1 hz c3); (try replace c4 := bsame hb1 hz c4); (try replace d0 := bsame hb1 hy d0); (try replace d1 := bsame hb1 hy d1); (try replace d2 := bsame hb1 hy d2); (try replace d3 := bsame hb1 hy d3); (first | replace hB := bstep hB hb1 (Nat.le_refl _) | replace hB := bstep hB.drew hb1 (Nat.le_refl _)); replace hz := Nat.lt_of_lt_of_le hz hb1.size; (try replace hy := Nat.lt_of_lt_of_le hy hb1.size); clear hb1))
    | (go_at_call 20; go_must (refine (HM.out _).mono ?_; rintro e w2 ⟨rfl, hb1⟩; rw [HMV.out]; (try replace c0 := bsame hb1 hz c0); (try replace c1 := bsame hb1 hz c1); (try replace c2 := bsame hb1 hz c2); (try replace c3 := bsame hb1 hz c3); (try replace c4 := bsame hb1 hz c4); (try replace d0 := bsame hb1 hy d0); (try replace d1 := bsame hb1 hy d1); (try replace d2 := bsame hb1 hy d2); (try replace d3 := bsame hb1 hy d3); (first | replace hB := bstep hB hb1 (Nat.le_refl _) | replace hB := bstep hB.drew hb1 (Nat.le_refl _)); replace hz := Nat.lt_of_lt_of_le hz hb1.size; (try replace hy := Nat.lt_of_lt_of_le hy hb1.size); clear hb1))
    | (go_at_call 34; go_must (refine (HA.out _ (hr.blw (hB.alloc hB.size _)) (hB.alloc hB.size _).size).mono ?_; rintro e w3 ⟨rfl, hb1⟩; rw [HAV.out]; obtain ⟨d0, d1, d2, d3⟩ := cells4 (by simp) hb1; have hy : w2.heap.size < w3.heap.size := (by have := hb1.size; simp at this; omega); replace hb1 := bxd hb1; (try replace c0 := bsame hb1 hz c0); (try replace c1 := bsame hb1 hz c1); (try replace c2 := bsame hb1 hz c2); (try replace c3 := bsame hb1 hz c3); (try replace c4 := bsame hb1 hz c4); (first | replace hB := bstep hB hb1 (Nat.le_refl _) | replace hB := bstep hB.drew hb1 (Nat.le_refl _)); replace hz := Nat.lt_of_lt_of_le hz hb1.size; clear hb1)))
  go_region_held3 (fun w' => w'.cell? ⟨w2.heap.size, 0, none⟩ = some (.int .i64 W) ∧ w'.cell? ⟨w2.heap.size, 1, none⟩ = some (.int .i64 H) ∧ w'.cell? ⟨w2.heap.size, 2, none⟩ = some (.int .i64 C) ∧ w'.cell? ⟨w2.heap.size, 3, none⟩ = some (.int .i64 D) ∧ w'.cell? ⟨w.heap.size, 4, none⟩ = some (.slice A n cc))
    (first | go_keep | exact ⟨d0, d1, d2, d3, c4⟩)
    (first
      | (go_at_call 35; go_must (refine (HR.out _).mono ?_; rintro e w4 ⟨rfl, hb1⟩; rw [HRV.out]; (try replace c0 := bsame hb1 hz c0); (try replace c1 := bsame hb1 hz c1); (try replace c2 := bsame hb1 hz c2); (try replace c3 := bsame hb1 hz c3); (try replace c4 := bsame hb1 hz c4); (try replace d0 := bsame hb1 hy d0); (try replace d1 := bsame hb1 hy d1); (try replace d2 := bsame hb1 hy d2); (try replace d3 := bsame hb1 hy d3); (first | replace hB := bstep hB hb1 (Nat.le_refl _) | replace hB := bstep hB.drew hb1 (Nat.le_refl _)); replace hz := Nat.lt_of_lt_of_le hz hb1.size; (try replace hy := Nat.lt_of_lt_of_le hy hb1.size); clear hb1))
      | (go_at_call 36; go_must (refine (HS.out _).mono ?_; rintro e w5 ⟨rfl, hb1⟩; rw [HSV.out]; (try replace c0 := bsame hb1 hz c0); (try replace c1 := bsame hb1 hz c1); (try replace c2 := bsame hb1 hz c2); (try replace c3 := bsame hb1 hz c3); (try replace c4 := bsame hb1 hz c4); (try replace d0 := bsame hb1 hy d0); (try replace d1 := bsame hb1 hy d1); (try replace d2 := bsame hb1 hy d2); (try replace d3 := bsame hb1 hy d3); (first | replace hB := bstep hB hb1 (Nat.le_refl _) | replace hB := bstep hB.drew hb1 (Nat.le_refl _)); replace hz := Nat.lt_of_lt_of_le hz hb1.size; (try replace hy := Nat.lt_of_lt_of_le hy hb1.size); clear hb1)))
  clear v1 v2 v3 v4 v5 v6 v7
  go_wp2_with (first
    | (go_at_call 33; go_must (refine (first_any _).mono ?_; rintro e w1 ⟨rfl, hb1⟩; first | (obtain ⟨c0, c1, c2, c3, c4⟩ := cells5 (by simp) hb1; replace hB := bxd hb1; have hz : w.heap.size < w1.heap.size := (by have := hb1.size; simp at this; omega); clear hb1) | ((try replace c0 := bsame hb1 hz c0); (try replace c1 := bsame hb1 hz c1); (try replace c2 := bsame hb1 hz c2); (try replace c3 := bsame hb1 hz c3); (try replace c4 := bsame hb1 hz c4); (try replace d0 := bsame hb1 hy d0); (try replace d1 := bsame hb1 hy d1); (try replace d2 := bsame hb1 hy d2); (try replace d3 := bsame hb1 hy d3); (first | replace hB := bstep hB hb1 (Nat.le_refl _) | replace hB := bstep hB.drew hb1 (Nat.le_refl _)); replace hz := Nat.lt_of_lt_of_le hz hb1.size; (try replace hy := Nat.lt_of_lt_of_le hy hb1.size); clear hb1))))
  go_ret
  exact ⟨rfl, hB⟩

theorem take_one (bs : List UInt8) (P : Nat) (a : UInt8) (h : bs[P]? = some a) : (bs.drop P).take 1 = [a] := by
  obtain ⟨hp, rfl⟩ := List.getElem?_eq_some_iff.1 h
  rw [List.drop_eq_getElem_cons hp]
  rfl
theorem take_two (bs : List UInt8) (P : Nat) (a b : UInt8) (h : bs[P]? = some a) (h' : bs[P + 1]? = some b) : (bs.drop P).take 2 = [a, b] := by
  obtain ⟨hp, rfl⟩ := List.getElem?_eq_some_iff.1 h
  obtain ⟨hp', rfl⟩ := List.getElem?_eq_some_iff.1 h'
  rw [List.drop_eq_getElem_cons hp, List.drop_eq_getElem_cons hp']
  rfl

set_option maxHeartbeats 3200000 in
theorem pixRows_in8 (s : Sh) (A : Option Addr) (n cc : Nat) (bs : List UInt8) (x y c : Int) (w : World) (hr : RdB w w.heap.size A n bs) (hc : n ≤ cc) (hm : s.mayR n = true) (hi : s.inB x y c = true) (hd : s.d = 8) :
    Calls Try.prog 7 #[s.r A n cc, .int .i64 x, .int .i64 y, .int .i64 c] w fun e w' => e = .returned (.bool true) ∧ Below w.heap.size w w' := by
  have hB := Below.refl w.heap.size w
  have hn := Sh.mayR_nums hm
  have hz0 := Sh.mayR_size hm
  have hb := Sh.bounds s hn
  have HF := Lib.hid (fun w => few_any s A n cc w)
  have HM := Lib.hid (fun w => may_any s A n cc w)
  have HR := Lib.hid (fun w => row_any s w)
  have HS := Lib.hid (fun w => size_any s w)
  have HA := Lib.hid (fun (w' : World) (h : RdB w' w.heap.size A n bs) (h2 : w.heap.size ≤ w'.heap.size) => at_any s w.heap.size A n cc bs x y c w' h h2 hc (by omega))
  have HFV := Lib.hid (show decide (n ≤ 20000) = true by simp; omega)
  have HMV := Lib.hid hm
  have he : s.place n x y c = (y * s.row + (x * s.c + c) * s.d / 8, 0) := by unfold Sh.place; rw [hm, hi]; rfl
  obtain ⟨⟨p1, p2⟩, ⟨p3, p4⟩, ⟨p5, p6⟩, p7⟩ := Sh.place_bounds hn hi
  obtain ⟨-, -, ⟨i5, i6⟩⟩ := (Sh.inB_iff s x y c).1 hi
  obtain ⟨-, -, ⟨-, q4⟩, -⟩ := (Sh.nums_iff s).1 hn
  obtain ⟨P, hPP⟩ := Int.eq_ofNat_of_zero_le (show 0 ≤ y * s.row + (x * s.c + c) * s.d / 8 by omega)
  have h16 : n ≤ 16384 := by omega
  have hP : P < n := by omega
  obtain ⟨b, o, bx, rfl, hbo, hx, cx⟩ := hr.byte hP
  have HAV := Lib.hid (show s.at_ bs x y c = (((bx.toNat : Nat) : Int), 0) by
    unfold Sh.at_
    rw [hr.len, he, if_pos rfl, hPP, hd]
    show (((beV ((bs.drop P).take 1) : Nat) : Int), (0 : Int)) = _
    rw [show (bs.drop P).take 1 = [bx] from take_one bs P bx hx.out]
    simp [beV])
  obtain ⟨rr, hrr⟩ : ∃ r, r = s.row := ⟨_, rfl⟩
  have HRV := Lib.hid hrr.symm
  have HSV := Lib.hid (show s.size = rr * s.h by rw [Sh.size_ok hn, hrr])
  have v1 := wrapI (s.w * s.c) (by omega) (by omega)
  have v2 := wrapI (s.w * s.c * s.d) (by omega) (by omega)
  have v3 : (s.w * s.c * s.d).tdiv 8 = rr := by rw [hrr]; exact sh_row_div s hn
  have v4 : IntKind.i64.wrap (rr * s.h) = rr * s.h := by rw [hrr]; exact wrapI _ (by omega) (by omega)
  have v5 : ((n : Int) != rr * s.h) = false := by rw [← HSV.out, hz0.1]; simp
  have v6 : decide (rr < 1) = false := by simp; omega
  have v7 : IntKind.i64.wrap rr = rr := wrapI _ (by omega) (by omega)
  rw [← hrr] at p1 p2 hPP
  have g1 := wrapI (y * rr) (by omega) (by omega)
  have g2 := wrapI (x * s.c) (by omega) (by omega)
  have g3 := wrapI (x * s.c + c) (by omega) (by omega)
  have g4 := wrapI ((x * s.c + c) * s.d) (by omega) (by omega)
  have g6 : ((x * s.c + c) * s.d).tdiv 8 = (x * s.c + c) * s.d / 8 := Int.tdiv_eq_ediv_of_nonneg p5
  have g5 : IntKind.i64.wrap (y * rr + (x * s.c + c) * s.d / 8) = (P : Int) := by rw [hPP]; exact wrapI _ (by omega) (by omega)
  have g7 := wrapI ((x * s.c + c) * s.d / 8) (by omega) (by omega)
  have hx8 := bx.toNat_lt
  have g8 : s.d.tdiv 8 = 1 := by rw [hd]; rfl
  have g9 : (s.d == 16) = false := by rw [hd]; rfl
  clear hm hi hn hb hz0 hrr he p1 p2 p3 p4 p5 p6 p7 i5 i6 q4 hPP hx 
  obtain ⟨W, H, C, D⟩ := s
  dsimp only at hd v1 v2 v3 v4 v5 v6 g1 g2 g3 g4 g5 g6 g7 g8 g9
  clear hd
  show Calls _ _ #[.agg #[.int .i64 W, .int .i64 H, .int .i64 C, .int .i64 D, .slice (some ⟨b, o, none⟩) n cc], .int .i64 x, .int .i64 y, .int .i64 c] w _
  go_enter Try.func7, Try.ntmps7
  go_wp2_with (first
    | (go_at_call 33; go_must (refine (first_any _).mono ?_; rintro e w1 ⟨rfl, hb1⟩; first | (obtain ⟨c0, c1, c2, c3, c4⟩ := cells5 (by simp) hb1; replace hB := bxd hb1; have hz : w.heap.size < w1.heap.size := (by have := hb1.size; simp at this; omega); clear hb1) | ((try replace c0 := bsame hb1 hz c0); (try replace c1 := bsame hb1 hz c1); (try replace c2 := bsame hb1 hz c2); (try replace c3 := bsame hb1 hz c3); (try replace c4 := bsame hb1 hz c4); (try replace d0 := bsame hb1 hy d0); (try replace d1 := bsame hb1 hy d1); (try replace d2 := bsame hb1 hy d2); (try replace d3 := bsame hb1 hy d3); (first | replace hB := bstep hB hb1 (Nat.le_refl _) | replace hB := bstep hB.drew hb1 (Nat.le_refl _)); replace hz := Nat.lt_of_lt_of_le hz hb1.size; (try replace hy := Nat.lt_of_lt_of_le hy hb1.size); clear hb1)))
    | (go_at_call 23; go_must (refine (HF.out _).mono ?_; rintro e wf ⟨rfl, hb1⟩; rw [HFV.out]; (try replace c0 := bsame hb1 hz c0); (try replace c1 := bsame hb1 hz c1); (try replace c2 := bsame hb1 hz c2); (try replace c3 := bsame hb1 hz c3); (try replace c4 := bsame hb1 hz c4); (try replace d0 := bsame hb1 hy d0); (try replace d1 := bsame hb1 hy d1); (try replace d2 := bsame hb1 hy d2); (try replace d3 := bsame hb1 hy d3); (first | replace hB := bstep hB hb1 (Nat.le_refl _) | replace hB := bstep hB.drew hb1 (Nat.le_refl _)); replace hz := Nat.lt_of_lt_of_le hz hb1.size; (try replace hy := Nat.lt_of_lt_of_le hy hb1.size); clear hb1))
    | (go_at_call 20; go_must (refine (HM.out _).mono ?_; rintro e w2 ⟨rfl, hb1⟩; rw [HMV.out]; (try replace c0 := bsame hb1 hz c0); (try replace c1 := bsame hb1 hz c1); (try replace c2 := bsame hb1 hz c2); (try replace c3 := bsame hb1 hz c3); (try replace c4 := bsame hb1 hz c4); (try replace d0 := bsame hb1 hy d0); (try replace d1 := bsame hb1 hy d1); (try replace d2 := bsame hb1 hy d2); (try replace d3 := bsame hb1 hy d3); (first | replace hB := bstep hB hb1 (Nat.le_refl _) | replace hB := bstep hB.drew hb1 (Nat.le_refl _)); replace hz := Nat.lt_of_lt_of_le hz hb1.size; (try replace hy := Nat.lt_of_lt_of_le hy hb1.size); clear hb1))
    | (go_at_call 34; go_must (refine (HA.out _ (hr.blw (hB.alloc hB.size _)) (hB.alloc hB.size _).size).mono ?_; rintro e w3 ⟨rfl, hb1⟩; rw [HAV.out]; obtain ⟨d0, d1, d2, d3⟩ := cells4 (by simp) hb1; have hy : w2.heap.size < w3.heap.size := (by have := hb1.size; simp at this; omega); replace hb1 := bxd hb1; (try replace c0 := bsame hb1 hz c0); (try replace c1 := bsame hb1 hz c1); (try replace c2 := bsame hb1 hz c2); (try replace c3 := bsame hb1 hz c3); (try replace c4 := bsame hb1 hz c4); (first | replace hB := bstep hB hb1 (Nat.le_refl _) | replace hB := bstep hB.drew hb1 (Nat.le_refl _)); replace hz := Nat.lt_of_lt_of_le hz hb1.size; clear hb1)))
  go_region_held3 (fun w' => w'.cell? ⟨w2.heap.size, 0, none⟩ = some (.int .i64 W) ∧ w'.cell? ⟨w2.heap.size, 1, none⟩ = some (.int .i64 H) ∧ w'.cell? ⟨w2.heap.size, 2, none⟩ = some (.int .i64 C) ∧ w'.cell? ⟨w2.heap.size, 3, none⟩ = some (.int .i64 D) ∧ w'.cell? ⟨w.heap.size, 4, none⟩ = some (.slice (some ⟨b, o, none⟩) n cc))
    (first | go_keep | exact ⟨d0, d1, d2, d3, c4⟩)
    (first
      | (go_at_call 35; go_must (refine (HR.out _).mono ?_; rintro e w4 ⟨rfl, hb1⟩; rw [HRV.out]; (try replace c0 := bsame hb1 hz c0); (try replace c1 := bsame hb1 hz c1); (try replace c2 := bsame hb1 hz c2); (try replace c3 := bsame hb1 hz c3); (try replace c4 := bsame hb1 hz c4); (try replace d0 := bsame hb1 hy d0); (try replace d1 := bsame hb1 hy d1); (try replace d2 := bsame hb1 hy d2); (try replace d3 := bsame hb1 hy d3); (first | replace hB := bstep hB hb1 (Nat.le_refl _) | replace hB := bstep hB.drew hb1 (Nat.le_refl _)); replace hz := Nat.lt_of_lt_of_le hz hb1.size; (try replace hy := Nat.lt_of_lt_of_le hy hb1.size); clear hb1))
      | (go_at_call 36; go_must (refine (HS.out _).mono ?_; rintro e w5 ⟨rfl, hb1⟩; rw [HSV.out]; (try replace c0 := bsame hb1 hz c0); (try replace c1 := bsame hb1 hz c1); (try replace c2 := bsame hb1 hz c2); (try replace c3 := bsame hb1 hz c3); (try replace c4 := bsame hb1 hz c4); (try replace d0 := bsame hb1 hy d0); (try replace d1 := bsame hb1 hy d1); (try replace d2 := bsame hb1 hy d2); (try replace d3 := bsame hb1 hy d3); (first | replace hB := bstep hB hb1 (Nat.le_refl _) | replace hB := bstep hB.drew hb1 (Nat.le_refl _)); replace hz := Nat.lt_of_lt_of_le hz hb1.size; (try replace hy := Nat.lt_of_lt_of_le hy hb1.size); clear hb1)))
  clear v1 v2 v3 v4 v5 v6 v7
  go_wp2
  go_region_held3 (fun w' => w'.cell? ⟨w2.heap.size, 0, none⟩ = some (.int .i64 W) ∧ w'.cell? ⟨w2.heap.size, 1, none⟩ = some (.int .i64 H) ∧ w'.cell? ⟨w2.heap.size, 2, none⟩ = some (.int .i64 C) ∧ w'.cell? ⟨w2.heap.size, 3, none⟩ = some (.int .i64 D) ∧ w'.cell? ⟨w.heap.size, 4, none⟩ = some (.slice (some ⟨b, o, none⟩) n cc))
    (first | go_keep | exact ⟨d0, d1, d2, d3, c4⟩)
    (first
      | (go_at_call 35; go_must (refine (HR.out _).mono ?_; rintro e w4 ⟨rfl, hb1⟩; rw [HRV.out]; (try replace c0 := bsame hb1 hz c0); (try replace c1 := bsame hb1 hz c1); (try replace c2 := bsame hb1 hz c2); (try replace c3 := bsame hb1 hz c3); (try replace c4 := bsame hb1 hz c4); (try replace d0 := bsame hb1 hy d0); (try replace d1 := bsame hb1 hy d1); (try replace d2 := bsame hb1 hy d2); (try replace d3 := bsame hb1 hy d3); (first | replace hB := bstep hB hb1 (Nat.le_refl _) | replace hB := bstep hB.drew hb1 (Nat.le_refl _)); replace hz := Nat.lt_of_lt_of_le hz hb1.size; (try replace hy := Nat.lt_of_lt_of_le hy hb1.size); clear hb1))
      | (go_at_call 36; go_must (refine (HS.out _).mono ?_; rintro e w5 ⟨rfl, hb1⟩; rw [HSV.out]; (try replace c0 := bsame hb1 hz c0); (try replace c1 := bsame hb1 hz c1); (try replace c2 := bsame hb1 hz c2); (try replace c3 := bsame hb1 hz c3); (try replace c4 := bsame hb1 hz c4); (try replace d0 := bsame hb1 hy d0); (try replace d1 := bsame hb1 hy d1); (try replace d2 := bsame hb1 hy d2); (try replace d3 := bsame hb1 hy d3); (first | replace hB := bstep hB hb1 (Nat.le_refl _) | replace hB := bstep hB.drew hb1 (Nat.le_refl _)); replace hz := Nat.lt_of_lt_of_le hz hb1.size; (try replace hy := Nat.lt_of_lt_of_le hy hb1.size); clear hb1)))
  clear g1 g2 g3 g4 g5 g6 g7
  have cx5 := bsame hB hbo cx
  go_wp2_with (first
    | (go_at_call 33; go_must (refine (first_any _).mono ?_; rintro e w1 ⟨rfl, hb1⟩; first | (obtain ⟨c0, c1, c2, c3, c4⟩ := cells5 (by simp) hb1; replace hB := bxd hb1; have hz : w.heap.size < w1.heap.size := (by have := hb1.size; simp at this; omega); clear hb1) | ((try replace c0 := bsame hb1 hz c0); (try replace c1 := bsame hb1 hz c1); (try replace c2 := bsame hb1 hz c2); (try replace c3 := bsame hb1 hz c3); (try replace c4 := bsame hb1 hz c4); (try replace d0 := bsame hb1 hy d0); (try replace d1 := bsame hb1 hy d1); (try replace d2 := bsame hb1 hy d2); (try replace d3 := bsame hb1 hy d3); (first | replace hB := bstep hB hb1 (Nat.le_refl _) | replace hB := bstep hB.drew hb1 (Nat.le_refl _)); replace hz := Nat.lt_of_lt_of_le hz hb1.size; (try replace hy := Nat.lt_of_lt_of_le hy hb1.size); clear hb1))))
  all_goals
    go_ret
    exact ⟨rfl, hB⟩

set_option maxHeartbeats 3200000 in
theorem pixRows_in16 (s : Sh) (A : Option Addr) (n cc : Nat) (bs : List UInt8) (x y c : Int) (w : World) (hr : RdB w w.heap.size A n bs) (hc : n ≤ cc) (hm : s.mayR n = true) (hi : s.inB x y c = true) (hd : s.d = 16) :
    Calls Try.prog 7 #[s.r A n cc, .int .i64 x, .int .i64 y, .int .i64 c] w fun e w' => e = .returned (.bool true) ∧ Below w.heap.size w w' := by
  have hB := Below.refl w.heap.size w
  have hn := Sh.mayR_nums hm
  have hz0 := Sh.mayR_size hm
  have hb := Sh.bounds s hn
  have HF := Lib.hid (fun w => few_any s A n cc w)
  have HM := Lib.hid (fun w => may_any s A n cc w)
  have HR := Lib.hid (fun w => row_any s w)
  have HS := Lib.hid (fun w => size_any s w)
  have HA := Lib.hid (fun (w' : World) (h : RdB w' w.heap.size A n bs) (h2 : w.heap.size ≤ w'.heap.size) => at_any s w.heap.size A n cc bs x y c w' h h2 hc (by omega))
  have HFV := Lib.hid (show decide (n ≤ 20000) = true by simp; omega)
  have HMV := Lib.hid hm
  have he : s.place n x y c = (y * s.row + (x * s.c + c) * s.d / 8, 0) := by unfold Sh.place; rw [hm, hi]; rfl
  obtain ⟨⟨p1, p2⟩, ⟨p3, p4⟩, ⟨p5, p6⟩, p7⟩ := Sh.place_bounds hn hi
  obtain ⟨-, -, ⟨i5, i6⟩⟩ := (Sh.inB_iff s x y c).1 hi
  obtain ⟨-, -, ⟨-, q4⟩, -⟩ := (Sh.nums_iff s).1 hn
  obtain ⟨P, hPP⟩ := Int.eq_ofNat_of_zero_le (show 0 ≤ y * s.row + (x * s.c + c) * s.d / 8 by omega)
  have h16 : n ≤ 16384 := by omega
  have hP : P < n := by omega
  have hP1 : P + 1 < n := by omega
  obtain ⟨b, o, bx, rfl, hbo, hx, cx⟩ := hr.byte hP
  obtain ⟨b', o', bz, e', _, hx', cx'⟩ := hr.byte hP1
  cases e'
  have HAV := Lib.hid (show s.at_ bs x y c = (((bx.toNat * 256 + bz.toNat : Nat) : Int), 0) by
    unfold Sh.at_
    rw [hr.len, he, if_pos rfl, hPP, hd]
    show (((beV ((bs.drop P).take 2) : Nat) : Int), (0 : Int)) = _
    rw [show (bs.drop P).take 2 = [bx, bz] from take_two bs P bx bz hx.out hx'.out]
    simp [beV])
  obtain ⟨rr, hrr⟩ : ∃ r, r = s.row := ⟨_, rfl⟩
  have HRV := Lib.hid hrr.symm
  have HSV := Lib.hid (show s.size = rr * s.h by rw [Sh.size_ok hn, hrr])
  have v1 := wrapI (s.w * s.c) (by omega) (by omega)
  have v2 := wrapI (s.w * s.c * s.d) (by omega) (by omega)
  have v3 : (s.w * s.c * s.d).tdiv 8 = rr := by rw [hrr]; exact sh_row_div s hn
  have v4 : IntKind.i64.wrap (rr * s.h) = rr * s.h := by rw [hrr]; exact wrapI _ (by omega) (by omega)
  have v5 : ((n : Int) != rr * s.h) = false := by rw [← HSV.out, hz0.1]; simp
  have v6 : decide (rr < 1) = false := by simp; omega
  have v7 : IntKind.i64.wrap rr = rr := wrapI _ (by omega) (by omega)
  rw [← hrr] at p1 p2 hPP
  have g1 := wrapI (y * rr) (by omega) (by omega)
  have g2 := wrapI (x * s.c) (by omega) (by omega)
  have g3 := wrapI (x * s.c + c) (by omega) (by omega)
  have g4 := wrapI ((x * s.c + c) * s.d) (by omega) (by omega)
  have g6 : ((x * s.c + c) * s.d).tdiv 8 = (x * s.c + c) * s.d / 8 := Int.tdiv_eq_ediv_of_nonneg p5
  have g5 : IntKind.i64.wrap (y * rr + (x * s.c + c) * s.d / 8) = (P : Int) := by rw [hPP]; exact wrapI _ (by omega) (by omega)
  have g7 := wrapI ((x * s.c + c) * s.d / 8) (by omega) (by omega)
  have hx8 := bx.toNat_lt
  have g8 : s.d.tdiv 8 = 2 := by rw [hd]; rfl
  have g9 : (s.d == 16) = true := by rw [hd]; rfl
  have hz8 := bz.toNat_lt
  have ho : bits .or .i64 ((bx.toNat : Int) * 256) (bz.toNat : Int) = (bx.toNat : Int) * 256 + bz.toNat := by rw [or_be bx.toNat bz.toNat (by have := bx.toNat_lt; omega) bz.toNat_lt]; simp
  clear hm hi hn hb hz0 hrr he p1 p2 p3 p4 p5 p6 p7 i5 i6 q4 hPP hx hx' 
  obtain ⟨W, H, C, D⟩ := s
  dsimp only at hd v1 v2 v3 v4 v5 v6 g1 g2 g3 g4 g5 g6 g7 g8 g9
  clear hd
  show Calls _ _ #[.agg #[.int .i64 W, .int .i64 H, .int .i64 C, .int .i64 D, .slice (some ⟨b, o, none⟩) n cc], .int .i64 x, .int .i64 y, .int .i64 c] w _
  go_enter Try.func7, Try.ntmps7
  go_wp2_with (first
    | (go_at_call 33; go_must (refine (first_any _).mono ?_; rintro e w1 ⟨rfl, hb1⟩; first | (obtain ⟨c0, c1, c2, c3, c4⟩ := cells5 (by simp) hb1; replace hB := bxd hb1; have hz : w.heap.size < w1.heap.size := (by have := hb1.size; simp at this; omega); clear hb1) | ((try replace c0 := bsame hb1 hz c0); (try replace c1 := bsame hb1 hz c1); (try replace c2 := bsame hb1 hz c2); (try replace c3 := bsame hb1 hz c3); (try replace c4 := bsame hb1 hz c4); (try replace d0 := bsame hb1 hy d0); (try replace d1 := bsame hb1 hy d1); (try replace d2 := bsame hb1 hy d2); (try replace d3 := bsame hb1 hy d3); (first | replace hB := bstep hB hb1 (Nat.le_refl _) | replace hB := bstep hB.drew hb1 (Nat.le_refl _)); replace hz := Nat.lt_of_lt_of_le hz hb1.size; (try replace hy := Nat.lt_of_lt_of_le hy hb1.size); clear hb1)))
    | (go_at_call 23; go_must (refine (HF.out _).mono ?_; rintro e wf ⟨rfl, hb1⟩; rw [HFV.out]; (try replace c0 := bsame hb1 hz c0); (try replace c1 := bsame hb1 hz c1); (try replace c2 := bsame hb1 hz c2); (try replace c3 := bsame hb1 hz c3); (try replace c4 := bsame hb1 hz c4); (try replace d0 := bsame hb1 hy d0); (try replace d1 := bsame hb1 hy d1); (try replace d2 := bsame hb1 hy d2); (try replace d3 := bsame hb1 hy d3); (first | replace hB := bstep hB hb1 (Nat.le_refl _) | replace hB := bstep hB.drew hb1 (Nat.le_refl _)); replace hz := Nat.lt_of_lt_of_le hz hb1.size; (try replace hy := Nat.lt_of_lt_of_le hy hb1.size); clear hb1))
    | (go_at_call 20; go_must (refine (HM.out _).mono ?_; rintro e w2 ⟨rfl, hb1⟩; rw [HMV.out]; (try replace c0 := bsame hb1 hz c0); (try replace c1 := bsame hb1 hz c1); (try replace c2 := bsame hb1 hz c2); (try replace c3 := bsame hb1 hz c3); (try replace c4 := bsame hb1 hz c4); (try replace d0 := bsame hb1 hy d0); (try replace d1 := bsame hb1 hy d1); (try replace d2 := bsame hb1 hy d2); (try replace d3 := bsame hb1 hy d3); (first | replace hB := bstep hB hb1 (Nat.le_refl _) | replace hB := bstep hB.drew hb1 (Nat.le_refl _)); replace hz := Nat.lt_of_lt_of_le hz hb1.size; (try replace hy := Nat.lt_of_lt_of_le hy hb1.size); clear hb1))
    | (go_at_call 34; go_must (refine (HA.out _ (hr.blw (hB.alloc hB.size _)) (hB.alloc hB.size _).size).mono ?_; rintro e w3 ⟨rfl, hb1⟩; rw [HAV.out]; obtain ⟨d0, d1, d2, d3⟩ := cells4 (by simp) hb1; have hy : w2.heap.size < w3.heap.size := (by have := hb1.size; simp at this; omega); replace hb1 := bxd hb1; (try replace c0 := bsame hb1 hz c0); (try replace c1 := bsame hb1 hz c1); (try replace c2 := bsame hb1 hz c2); (try replace c3 := bsame hb1 hz c3); (try replace c4 := bsame hb1 hz c4); (first | replace hB := bstep hB hb1 (Nat.le_refl _) | replace hB := bstep hB.drew hb1 (Nat.le_refl _)); replace hz := Nat.lt_of_lt_of_le hz hb1.size; clear hb1)))
  go_region_held3 (fun w' => w'.cell? ⟨w2.heap.size, 0, none⟩ = some (.int .i64 W) ∧ w'.cell? ⟨w2.heap.size, 1, none⟩ = some (.int .i64 H) ∧ w'.cell? ⟨w2.heap.size, 2, none⟩ = some (.int .i64 C) ∧ w'.cell? ⟨w2.heap.size, 3, none⟩ = some (.int .i64 D) ∧ w'.cell? ⟨w.heap.size, 4, none⟩ = some (.slice (some ⟨b, o, none⟩) n cc))
    (first | go_keep | exact ⟨d0, d1, d2, d3, c4⟩)
    (first
      | (go_at_call 35; go_must (refine (HR.out _).mono ?_; rintro e w4 ⟨rfl, hb1⟩; rw [HRV.out]; (try replace c0 := bsame hb1 hz c0); (try replace c1 := bsame hb1 hz c1); (try replace c2 := bsame hb1 hz c2); (try replace c3 := bsame hb1 hz c3); (try replace c4 := bsame hb1 hz c4); (try replace d0 := bsame hb1 hy d0); (try replace d1 := bsame hb1 hy d1); (try replace d2 := bsame hb1 hy d2); (try replace d3 := bsame hb1 hy d3); (first | replace hB := bstep hB hb1 (Nat.le_refl _) | replace hB := bstep hB.drew hb1 (Nat.le_refl _)); replace hz := Nat.lt_of_lt_of_le hz hb1.size; (try replace hy := Nat.lt_of_lt_of_le hy hb1.size); clear hb1))
      | (go_at_call 36; go_must (refine (HS.out _).mono ?_; rintro e w5 ⟨rfl, hb1⟩; rw [HSV.out]; (try replace c0 := bsame hb1 hz c0); (try replace c1 := bsame hb1 hz c1); (try replace c2 := bsame hb1 hz c2); (try replace c3 := bsame hb1 hz c3); (try replace c4 := bsame hb1 hz c4); (try replace d0 := bsame hb1 hy d0); (try replace d1 := bsame hb1 hy d1); (try replace d2 := bsame hb1 hy d2); (try replace d3 := bsame hb1 hy d3); (first | replace hB := bstep hB hb1 (Nat.le_refl _) | replace hB := bstep hB.drew hb1 (Nat.le_refl _)); replace hz := Nat.lt_of_lt_of_le hz hb1.size; (try replace hy := Nat.lt_of_lt_of_le hy hb1.size); clear hb1)))
  clear v1 v2 v3 v4 v5 v6 v7
  go_wp2
  go_region_held3 (fun w' => w'.cell? ⟨w2.heap.size, 0, none⟩ = some (.int .i64 W) ∧ w'.cell? ⟨w2.heap.size, 1, none⟩ = some (.int .i64 H) ∧ w'.cell? ⟨w2.heap.size, 2, none⟩ = some (.int .i64 C) ∧ w'.cell? ⟨w2.heap.size, 3, none⟩ = some (.int .i64 D) ∧ w'.cell? ⟨w.heap.size, 4, none⟩ = some (.slice (some ⟨b, o, none⟩) n cc))
    (first | go_keep | exact ⟨d0, d1, d2, d3, c4⟩)
    (first
      | (go_at_call 35; go_must (refine (HR.out _).mono ?_; rintro e w4 ⟨rfl, hb1⟩; rw [HRV.out]; (try replace c0 := bsame hb1 hz c0); (try replace c1 := bsame hb1 hz c1); (try replace c2 := bsame hb1 hz c2); (try replace c3 := bsame hb1 hz c3); (try replace c4 := bsame hb1 hz c4); (try replace d0 := bsame hb1 hy d0); (try replace d1 := bsame hb1 hy d1); (try replace d2 := bsame hb1 hy d2); (try replace d3 := bsame hb1 hy d3); (first | replace hB := bstep hB hb1 (Nat.le_refl _) | replace hB := bstep hB.drew hb1 (Nat.le_refl _)); replace hz := Nat.lt_of_lt_of_le hz hb1.size; (try replace hy := Nat.lt_of_lt_of_le hy hb1.size); clear hb1))
      | (go_at_call 36; go_must (refine (HS.out _).mono ?_; rintro e w5 ⟨rfl, hb1⟩; rw [HSV.out]; (try replace c0 := bsame hb1 hz c0); (try replace c1 := bsame hb1 hz c1); (try replace c2 := bsame hb1 hz c2); (try replace c3 := bsame hb1 hz c3); (try replace c4 := bsame hb1 hz c4); (try replace d0 := bsame hb1 hy d0); (try replace d1 := bsame hb1 hy d1); (try replace d2 := bsame hb1 hy d2); (try replace d3 := bsame hb1 hy d3); (first | replace hB := bstep hB hb1 (Nat.le_refl _) | replace hB := bstep hB.drew hb1 (Nat.le_refl _)); replace hz := Nat.lt_of_lt_of_le hz hb1.size; (try replace hy := Nat.lt_of_lt_of_le hy hb1.size); clear hb1)))
  clear g1 g2 g3 g4 g5 g6 g7
  have cx5 := bsame hB hbo cx
  have cx6 := bsame hB hbo cx'
  go_wp2_with (first
    | (go_at_call 33; go_must (refine (first_any _).mono ?_; rintro e w1 ⟨rfl, hb1⟩; first | (obtain ⟨c0, c1, c2, c3, c4⟩ := cells5 (by simp) hb1; replace hB := bxd hb1; have hz : w.heap.size < w1.heap.size := (by have := hb1.size; simp at this; omega); clear hb1) | ((try replace c0 := bsame hb1 hz c0); (try replace c1 := bsame hb1 hz c1); (try replace c2 := bsame hb1 hz c2); (try replace c3 := bsame hb1 hz c3); (try replace c4 := bsame hb1 hz c4); (try replace d0 := bsame hb1 hy d0); (try replace d1 := bsame hb1 hy d1); (try replace d2 := bsame hb1 hy d2); (try replace d3 := bsame hb1 hy d3); (first | replace hB := bstep hB hb1 (Nat.le_refl _) | replace hB := bstep hB.drew hb1 (Nat.le_refl _)); replace hz := Nat.lt_of_lt_of_le hz hb1.size; (try replace hy := Nat.lt_of_lt_of_le hy hb1.size); clear hb1))))
  all_goals
    go_ret
    exact ⟨rfl, hB⟩


theorem pixRows_walk (s : Sh) (A : Option Addr) (n cc : Nat) (bs : List UInt8) (x y c : Int) (w : World) (hr : RdB w w.heap.size A n bs) (hc : n ≤ cc) :
    Calls Try.prog 7 #[s.r A n cc, .int .i64 x, .int .i64 y, .int .i64 c] w fun e w' => e = .returned (.bool true) ∧ Below w.heap.size w w' := by
  cases hf : decide (n ≤ 20000) with
  | false => exact pixRows_early s A n cc x y c w (.inl hf)
  | true =>
    cases hm : s.mayR n with
    | false => exact pixRows_early s A n cc x y c w (.inr ⟨hf, hm⟩)
    | true =>
      cases hi : s.inB x y c with
      | false => exact pixRows_out s A n cc bs x y c w hr hc hm hi
      | true =>
        rcases ((Sh.nums_iff s).1 (Sh.mayR_nums hm)).2.2.2 with hd | hd
        · exact pixRows_in8 s A n cc bs x y c w hr hc hm hi hd
        · exact pixRows_in16 s A n cc bs x y c w hr hc hm hi hd

end Go.Proofs.Ytcgpeijmmongoaa
