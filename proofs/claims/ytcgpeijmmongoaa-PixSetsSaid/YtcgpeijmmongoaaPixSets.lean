/- The walk of PixSets. -/
import Derived.Test.YtcgpeijmmongoaaPixFirst
import Derived.Test.YtcgpeijmmongoaaSet2
namespace Go.Proofs.Ytcgpeijmmongoaa
set_option linter.all false
open Go.RowKit

set_option maxHeartbeats 1600000 in
theorem pixSets_early (s : Sh) (A : Option Addr) (n a : Nat) (x y c v i j k : Int) (w : World) (h : ¬ n ≤ 20000) :
    Calls Try.prog 12 #[s.r A n a, .int .i64 x, .int .i64 y, .int .i64 c, .int .i64 v, .int .i64 i, .int .i64 j, .int .i64 k] w fun e w' => e = .returned (.bool true) ∧ Below w.heap.size w w' := by
  have hB := Below.refl w.heap.size w
  have HF := Lib.hid (fun w => few_any s A n a w)
  have HV := Lib.hid (show decide (n ≤ 20000) = false by simpa using h)
  clear h
  obtain ⟨W, H, C, D⟩ := s
  dsimp only [Sh.r] at HF ⊢
  go_enter Try.func12, Try.ntmps12
  go_wp2_with (first
    | (go_at_call 33; (with_reducible refine (first_any _).mono ?_); go_must (rintro e w1 ⟨rfl, hb1⟩; first | (have _t := c1; (try (have pb := box5 hb1; replace hb1 := bxd hb1)); (try replace c1 := kept c1 rfl hb1); (try replace pb := kept pb rfl hb1); (try replace rp := rp.later hb1); replace hB := bstep hB hb1 (Nat.le_refl _); clear hb1) | (have c1 := box5 hb1; replace hB := bxd hb1; clear hb1)))
    | (go_at_call 23; (with_reducible refine (HF.out _).mono ?_); go_must (rintro e w1 ⟨rfl, hb1⟩; rw [HV.out]; (try replace c1 := kept c1 rfl hb1); (try replace pb := kept pb rfl hb1); (try replace rp := rp.later hb1); replace hB := bstep hB hb1 (Nat.le_refl _); clear hb1)))
  go_ret
  exact ⟨rfl, hB⟩

set_option maxRecDepth 100000 in
set_option maxHeartbeats 3200000 in
theorem pixSets_bad (s : Sh) (A : Option Addr) (n a : Nat) (x y c v i j k : Int) (bs : List UInt8) (w : World) (h1 : RdB w w.heap.size A n bs) (h : n ≤ 20000) (he : s.setE n x y c v ≠ 0) :
    Calls Try.prog 12 #[s.r A n a, .int .i64 x, .int .i64 y, .int .i64 c, .int .i64 v, .int .i64 i, .int .i64 j, .int .i64 k] w fun e w' => e = .returned (.bool true) ∧ Below w.heap.size w w' := by
  have hB := Below.refl w.heap.size w
  have HF := Lib.hid (fun w => few_any s A n a w)
  have HV := Lib.hid (show decide (n ≤ 20000) = true by simpa using h)
  have HS := Lib.hid (fun w => set_bad s A n a x y c v w _ rfl he)
  have hne : (s.setE n x y c v != 0) = true := by simpa using he
  generalize s.setE n x y c v = E at HS hne
  clear he h1
  obtain ⟨W, H, C, D⟩ := s
  dsimp only [Sh.r] at HF HS ⊢
  go_enter Try.func12, Try.ntmps12
  go_wp2_with (first
    | (go_at_call 33; (with_reducible refine (first_any _).mono ?_); go_must (rintro e w1 ⟨rfl, hb1⟩; first | (have _t := c1; (try (have pb := box5 hb1; replace hb1 := bxd hb1)); (try replace c1 := kept c1 rfl hb1); (try replace pb := kept pb rfl hb1); (try replace rp := rp.later hb1); replace hB := bstep hB hb1 (Nat.le_refl _); clear hb1) | (have c1 := box5 hb1; replace hB := bxd hb1; clear hb1)))
    | (go_at_call 23; (with_reducible refine (HF.out _).mono ?_); go_must (rintro e w1 ⟨rfl, hb1⟩; rw [HV.out]; (try replace c1 := kept c1 rfl hb1); (try replace pb := kept pb rfl hb1); (try replace rp := rp.later hb1); replace hB := bstep hB hb1 (Nat.le_refl _); clear hb1))
    | (go_at_call 49; (with_reducible refine (HS.out _).mono ?_); go_must (rintro e w2 ⟨rfl, hb1⟩; (try replace c1 := kept c1 rfl hb1); (try replace pb := kept pb rfl hb1); (try replace rp := rp.later hb1); replace hB := bstep hB hb1 (Nat.le_refl _); clear hb1)))
  go_ret
  exact ⟨rfl, hB⟩

set_option maxRecDepth 100000 in
set_option maxHeartbeats 6400000 in
theorem pixSets_same (s : Sh) (A : Option Addr) (n a : Nat) (x y c v i j k : Int) (bs : List UInt8) (w : World) (h1 : RdB w w.heap.size A n bs) (hc : n ≤ a) (h : n ≤ 20000) (he : s.setE n x y c v = 0) (hd : i = x ∧ j = y ∧ k = c) :
    Calls Try.prog 12 #[s.r A n a, .int .i64 x, .int .i64 y, .int .i64 c, .int .i64 v, .int .i64 i, .int .i64 j, .int .i64 k] w fun e w' => e = .returned (.bool true) ∧ Below w.heap.size w w' := by
  have hB := Below.refl w.heap.size w
  have hl := h1.len
  have HF := Lib.hid (fun w => few_any s A n a w)
  have HV := Lib.hid (show decide (n ≤ 20000) = true by simpa using h)
  have HS := Lib.hid (fun (w' : World) (hb : Below w.heap.size w w') => set_ok s w.heap.size A n a bs x y c v w' (h1.blw hb) hb.size he)
  have hm : s.mayR n = true := by
    have h0 : (s.place n x y c).2 = 0 := by unfold Sh.setE at he; split at he <;> assumption
    exact (Sh.place_ok h0).1
  obtain ⟨a1, a2, a3⟩ := at_set (s := s) (bs := bs) (x := x) (y := y) (c := c) (v := v) (by rw [hl]; exact he)
  rw [hl] at a1 a2 a3
  generalize splice bs (s.place n x y c).1.toNat (beR v (s.d / 8)).1 = X at HS a1 a2 a3
  have HLX := Lib.hid a1
  have HMV := Lib.hid hm
  have HM := Lib.hid (fun (w : World) (A : Option Addr) (a : Nat) => may_any s A n a w)
  have HA1 := Lib.hid (fun (w' : World) {A : Option Addr} {a : Nat} (hr : RdB w' w'.heap.size A n X) (hc : n ≤ a) => (show Calls Try.prog 34 #[s.r A n a, .int .i64 x, .int .i64 y, .int .i64 c] w' fun e w'' => e = .returned (.tuple #[.int .i64 v, .int .i64 0]) ∧ Below w'.heap.size w' w'' from by
    have := at_any s w'.heap.size A n a X x y c w' hr (Nat.le_refl _) hc (by omega)
    rwa [a2] at this))
  have HA2 := HA1
  have HA3 := Lib.hid (fun (w' : World) (hb : Below w.heap.size w w') => (show Calls Try.prog 34 #[s.r A n a, .int .i64 x, .int .i64 y, .int .i64 c] w' fun e w'' => e = .returned (.tuple #[.int .i64 (s.at_ bs x y c).1, .int .i64 0]) ∧ Below w'.heap.size w' w'' from by
    have := at_any s w.heap.size A n a bs x y c w' (h1.blw hb) hb.size hc (by omega)
    have e : (s.at_ bs x y c).2 = 0 := by
      have h0 : (s.place n x y c).2 = 0 := by unfold Sh.setE at he; split at he <;> assumption
      unfold Sh.at_
      rw [hl, if_pos h0]
    rwa [e] at this))
  generalize (s.at_ bs x y c).1 = d at HA3
  obtain ⟨rfl, rfl, rfl⟩ := hd
  clear hl a1 a2 a3 hm he
  obtain ⟨W, H, C, D⟩ := s
  dsimp only [Sh.r] at *
  go_enter Try.func12, Try.ntmps12
  go_wp2_with (first
    | (go_at_call 33; (with_reducible refine (first_any _).mono ?_); go_must (rintro e w1 ⟨rfl, hb1⟩; first | (have _t := c1; (try (have pb := box5 hb1; replace hb1 := bxd hb1)); (try replace c1 := kept c1 rfl hb1); (try replace pb := kept pb rfl hb1); (try replace rp := rp.later hb1); replace hB := bstep hB hb1 (Nat.le_refl _); clear hb1) | (have c1 := box5 hb1; replace hB := bxd hb1; clear hb1)))
    | (go_at_call 23; (with_reducible refine (HF.out _).mono ?_); go_must (rintro e w1 ⟨rfl, hb1⟩; rw [HV.out]; (try replace c1 := kept c1 rfl hb1); (try replace pb := kept pb rfl hb1); (try replace rp := rp.later hb1); replace hB := bstep hB hb1 (Nat.le_refl _); clear hb1))
    | (go_at_call 49; (with_reducible refine (HS.out _ hB).mono ?_); go_must (rintro e w2 ⟨Ap, np, cp, rfl, hx, hb1⟩; (try replace c1 := kept c1 rfl hb1); (try replace pb := kept pb rfl hb1); (try replace rp := rp.later hb1); replace hB := bstep hB hb1 (Nat.le_refl _); obtain ⟨Ap2, cp2, ep, rp, lp, mp⟩ := hx.form; injection ep with e1 e2 e3; subst e1 e2 e3; rw [HLX.out] at rp lp ⊢; clear hx hb1))
    | (go_at_call 34; (with_reducible refine (HA1.out _ (by first | exact (RdB.here (rp.alloc (Nat.le_refl _) _)) | exact rp) lp).mono ?_); go_must (rintro e w3 ⟨rfl, hb1⟩; (try (have pb := box5 hb1; replace hb1 := bxd hb1)); (try replace c1 := kept c1 rfl hb1); (try replace pb := kept pb rfl hb1); (try replace rp := rp.later hb1); replace hB := bstep hB hb1 (Nat.le_refl _); clear hb1))
    | (go_at_call 34; (with_reducible refine (HA3.out _ hB).mono ?_); go_must (rintro e w5 ⟨rfl, hb1⟩; (try replace c1 := kept c1 rfl hb1); (try replace pb := kept pb rfl hb1); (try replace rp := rp.later hb1); replace hB := bstep hB hb1 (Nat.le_refl _); clear hb1))
    | (go_at_call 20; (with_reducible refine (HM.out _ _ _).mono ?_); go_must (rintro e w6 ⟨rfl, hb1⟩; rw [HMV.out]; (try replace c1 := kept c1 rfl hb1); (try replace pb := kept pb rfl hb1); (try replace rp := rp.later hb1); replace hB := bstep hB hb1 (Nat.le_refl _); clear hb1)))
  go_ret
  exact ⟨ret_bool (by first | rfl | simp), hB⟩

set_option maxRecDepth 100000 in
set_option maxHeartbeats 6400000 in
theorem pixSets_other (s : Sh) (A : Option Addr) (n a : Nat) (x y c v i j k : Int) (bs : List UInt8) (w : World) (h1 : RdB w w.heap.size A n bs) (hc : n ≤ a) (h : n ≤ 20000) (he : s.setE n x y c v = 0) (hd : ¬ (i = x ∧ j = y ∧ k = c)) :
    Calls Try.prog 12 #[s.r A n a, .int .i64 x, .int .i64 y, .int .i64 c, .int .i64 v, .int .i64 i, .int .i64 j, .int .i64 k] w fun e w' => e = .returned (.bool true) ∧ Below w.heap.size w w' := by
  have hB := Below.refl w.heap.size w
  have hl := h1.len
  have HF := Lib.hid (fun w => few_any s A n a w)
  have HV := Lib.hid (show decide (n ≤ 20000) = true by simpa using h)
  have HS := Lib.hid (fun (w' : World) (hb : Below w.heap.size w w') => set_ok s w.heap.size A n a bs x y c v w' (h1.blw hb) hb.size he)
  have hm : s.mayR n = true := by
    have h0 : (s.place n x y c).2 = 0 := by unfold Sh.setE at he; split at he <;> assumption
    exact (Sh.place_ok h0).1
  obtain ⟨a1, a2, a3⟩ := at_set (s := s) (bs := bs) (x := x) (y := y) (c := c) (v := v) (by rw [hl]; exact he)
  rw [hl] at a1 a2 a3
  generalize splice bs (s.place n x y c).1.toNat (beR v (s.d / 8)).1 = X at HS a1 a2 a3
  have HLX := Lib.hid a1
  have HMV := Lib.hid hm
  have HM := Lib.hid (fun (w : World) (A : Option Addr) (a : Nat) => may_any s A n a w)
  have HA1 := Lib.hid (fun (w' : World) {A : Option Addr} {a : Nat} (hr : RdB w' w'.heap.size A n X) (hc : n ≤ a) => (show Calls Try.prog 34 #[s.r A n a, .int .i64 x, .int .i64 y, .int .i64 c] w' fun e w'' => e = .returned (.tuple #[.int .i64 v, .int .i64 0]) ∧ Below w'.heap.size w' w'' from by
    have := at_any s w'.heap.size A n a X x y c w' hr (Nat.le_refl _) hc (by omega)
    rwa [a2] at this))
  have hd' := a3 i j k hd
  have HA2 := Lib.hid (fun (w' : World) {A : Option Addr} {a : Nat} (hr : RdB w' w'.heap.size A n X) (hc : n ≤ a) => (show Calls Try.prog 34 #[s.r A n a, .int .i64 i, .int .i64 j, .int .i64 k] w' fun e w'' => e = .returned (.tuple #[.int .i64 (s.at_ bs i j k).1, .int .i64 (s.at_ bs i j k).2]) ∧ Below w'.heap.size w' w'' from by
    have := at_any s w'.heap.size A n a X i j k w' hr (Nat.le_refl _) hc (by omega)
    rwa [hd'] at this))
  have HA3 := Lib.hid (fun (w' : World) (hb : Below w.heap.size w w') => at_any s w.heap.size A n a bs i j k w' (h1.blw hb) hb.size hc (by omega))
  generalize (s.at_ bs i j k).1 = d at HA3 HA2
  generalize (s.at_ bs i j k).2 = E at HA3 HA2
  clear hd' hd
  clear hl a1 a2 a3 hm he
  obtain ⟨W, H, C, D⟩ := s
  dsimp only [Sh.r] at *
  go_enter Try.func12, Try.ntmps12
  go_wp2_with (first
    | (go_at_call 33; (with_reducible refine (first_any _).mono ?_); go_must (rintro e w1 ⟨rfl, hb1⟩; first | (have _t := c1; (try (have pb := box5 hb1; replace hb1 := bxd hb1)); (try replace c1 := kept c1 rfl hb1); (try replace pb := kept pb rfl hb1); (try replace rp := rp.later hb1); replace hB := bstep hB hb1 (Nat.le_refl _); clear hb1) | (have c1 := box5 hb1; replace hB := bxd hb1; clear hb1)))
    | (go_at_call 23; (with_reducible refine (HF.out _).mono ?_); go_must (rintro e w1 ⟨rfl, hb1⟩; rw [HV.out]; (try replace c1 := kept c1 rfl hb1); (try replace pb := kept pb rfl hb1); (try replace rp := rp.later hb1); replace hB := bstep hB hb1 (Nat.le_refl _); clear hb1))
    | (go_at_call 49; (with_reducible refine (HS.out _ hB).mono ?_); go_must (rintro e w2 ⟨Ap, np, cp, rfl, hx, hb1⟩; (try replace c1 := kept c1 rfl hb1); (try replace pb := kept pb rfl hb1); (try replace rp := rp.later hb1); replace hB := bstep hB hb1 (Nat.le_refl _); obtain ⟨Ap2, cp2, ep, rp, lp, mp⟩ := hx.form; injection ep with e1 e2 e3; subst e1 e2 e3; rw [HLX.out] at rp lp ⊢; clear hx hb1))
    | (go_at_call 34; (with_reducible refine (HA1.out _ (by first | exact (RdB.here (rp.alloc (Nat.le_refl _) _)) | exact rp) lp).mono ?_); go_must (rintro e w3 ⟨rfl, hb1⟩; (try (have pb := box5 hb1; replace hb1 := bxd hb1)); (try replace c1 := kept c1 rfl hb1); (try replace pb := kept pb rfl hb1); (try replace rp := rp.later hb1); replace hB := bstep hB hb1 (Nat.le_refl _); clear hb1))
    | (go_at_call 34; (with_reducible refine (HA2.out _ rp lp).mono ?_); go_must (rintro e w4 ⟨rfl, hb1⟩; (try replace c1 := kept c1 rfl hb1); (try replace pb := kept pb rfl hb1); (try replace rp := rp.later hb1); replace hB := bstep hB hb1 (Nat.le_refl _); clear hb1))
    | (go_at_call 34; (with_reducible refine (HA3.out _ hB).mono ?_); go_must (rintro e w5 ⟨rfl, hb1⟩; (try replace c1 := kept c1 rfl hb1); (try replace pb := kept pb rfl hb1); (try replace rp := rp.later hb1); replace hB := bstep hB hb1 (Nat.le_refl _); clear hb1))
    | (go_at_call 20; (with_reducible refine (HM.out _ _ _).mono ?_); go_must (rintro e w6 ⟨rfl, hb1⟩; rw [HMV.out]; (try replace c1 := kept c1 rfl hb1); (try replace pb := kept pb rfl hb1); (try replace rp := rp.later hb1); replace hB := bstep hB hb1 (Nat.le_refl _); clear hb1)))
  all_goals
    go_ret
    exact ⟨ret_bool (by first | rfl | simp), hB⟩

theorem pixSets_walk (s : Sh) (A : Option Addr) (n a : Nat) (x y c v i j k : Int) (bs : List UInt8) (w : World) (h1 : RdB w w.heap.size A n bs) (hc : n ≤ a) :
    Calls Try.prog 12 #[s.r A n a, .int .i64 x, .int .i64 y, .int .i64 c, .int .i64 v, .int .i64 i, .int .i64 j, .int .i64 k] w fun e w' => e = .returned (.bool true) ∧ Below w.heap.size w w' := by
  by_cases h : n ≤ 20000
  · by_cases he : s.setE n x y c v = 0
    · by_cases hd : i = x ∧ j = y ∧ k = c
      · exact pixSets_same s A n a x y c v i j k bs w h1 hc h he hd
      · exact pixSets_other s A n a x y c v i j k bs w h1 hc h he hd
    · exact pixSets_bad s A n a x y c v i j k bs w h1 h he
  · exact pixSets_early s A n a x y c v i j k w h

end Go.Proofs.Ytcgpeijmmongoaa
