/- XMaDiffBack -/
import Derived.Test.YtfafijhmjnkjeaaMae05
import Derived.Deep.RegionHeld3
namespace Go.Proofs.Ytfafijhmjnkjeaa
set_option linter.all false
open Go.RowKit

theorem zeros_at {n j : Nat} {x : UInt8} (h : (List.replicate n (0 : UInt8))[j]? = some x) : x = 0 := by
  rw [List.getElem?_replicate] at h
  split at h
  · injection h with h; exact h.symm
  · cases h

set_option maxRecDepth 100000 in
set_option maxHeartbeats 12800000 in
theorem diffBack_main (s : Sh) (A : Option Addr) (n a : Nat) (A' : Option Addr) (a' : Nat) (bs rs : List UInt8) (w : World) (h1 : RdB w w.heap.size A n bs) (h2 : RdB w w.heap.size A' n rs) (l1 : n ≤ a) (l2 : n ≤ a') (m1 : a ≤ maxLen) (m2 : a' ≤ maxLen)
    (h0 : n ≤ 2000) (hm : s.mayR n = true) :
    Calls Try.prog 6 #[s.r A n a, s.r A' n a'] w fun e w' => e = .returned (.bool true) ∧ Below w.heap.size w w' := by
  have hB := Below.refl w.heap.size w
  have HV := Lib.hid hm
  have HM1 := Lib.hid (fun w => may_any s A n a w)
  have HM2 := Lib.hid (fun w => may_any s A' n a' w)
  have HS := Lib.hid (fun w => shape_any s s w)
  have HD := Lib.hid (show decide (s = s) = true by simp)
  have hz : wrongR s s n n = 0 := by unfold wrongR; rw [hm]; simp
  obtain ⟨d, hd, hq, hdw, hw0, hw1⟩ := changed_back (bs := bs) (rs := rs) hm h1.len h2.len
  have HC := Lib.hid (fun (w' : World) (hb : Below w.heap.size w w') => changed_any s s w.heap.size n a w.heap.size n a' A A' bs rs w' (h1.blw hb) (h2.blw hb) hb.size hb.size l1 l2 m1 m2)
  rw [hd] at HC
  have HR := Lib.hid (fun (w' : World) (hb : Below w.heap.size w w') => sameR_any s s w.heap.size n a w.heap.size n a' A A' bs rs w' (h1.blw hb) (h2.blw hb) hb.size hb.size)
  have e1 : (decide (s = s) && (bs == rs)) = (bs == rs) := by simp
  rw [e1] at HR
  generalize (bs == rs) = Q at hq HR
  have HK := Lib.hid (fun (k : Int) (hk : k = 1 ∨ k = 2) (w' : World) (hb : Below w.heap.size w w') => make_ok k s s w.heap.size n a w.heap.size n a' A A' bs rs w' (h1.blw hb) (h2.blw hb) hb.size hb.size hk hz)
  have HKz := Lib.hid (fun (k : Int) (hk : k = 1 ∨ k = 2) (w' : World) (hb : Below w.heap.size w w') => make_ok k s s w.heap.size n a w.heap.size n a A A bs bs w' (h1.blw hb) (h1.blw hb) hb.size hb.size hk hz)
  have HL := Lib.hid (fun k => (deltaB_len (k := k) (bs := bs) (rs := rs) (by rw [h1.len, h2.len])).trans h2.len)
  have HZ : Hid (∀ k, k = 1 ∨ k = 2 → deltaB k bs bs = List.replicate n 0) := (show ∀ k, _ → _ from fun k hk => by rw [delta_self hk, h1.len])
  have HA := Lib.hid (fun (k : Int) (hk : k = 1 ∨ k = 2) (w' : World) (Ad : Option Addr) (c : Nat) (r : RdB w' w'.heap.size Ad n (deltaB k bs rs)) (hb : Below w.heap.size w w') => applyD_any k hk s w.heap.size n a w'.heap.size c A Ad bs rs w' (h1.blw hb) r hb.size (Nat.le_refl _) hm h2.len)
  have HP := Lib.hid (fun (b : List UInt8) (w' : World) (A : Option Addr) (c : Nat) (h : RdB w' w'.heap.size A n b) (hc : n ≤ c) => packK_any w'.heap.size n c A b w' h (Nat.le_refl _) (by omega) hc)
  have HBS := Lib.hid (fun (w' : World) (hb : Below w.heap.size w w') => best_ok s w.heap.size n a w.heap.size a' A A' bs rs w' (h1.blw hb) (h2.blw hb) hb.size hb.size hm)
  have HRr := Lib.hid (fun (w' : World) (A1 : Option Addr) (c : Nat) (r1 : RdB w' w'.heap.size A1 n rs) (hb : Below w.heap.size w w') => sameR_any s s w'.heap.size n c w.heap.size n a' A1 A' rs rs w' r1 (h2.blw hb) (Nat.le_refl _) hb.size)
  have e2 : (decide (s = s) && (rs == rs)) = true := by simp
  rw [e2] at HRr
  clear e1 e2 h1 h2 hm hz hd l1 l2 m1 m2
  obtain ⟨W, H, C, D⟩ := s
  dsimp only [Sh.r, Sh.v] at *
  have hd0 : ¬ (d : Int) < 0 := by omega
  have hdw2 : ¬ W * H < (d : Int) := by omega
  have hww : IntKind.i64.wrap (W * H) = W * H := by obtain ⟨m, hm⟩ : ∃ m : Nat, W * H = (m : Int) := ⟨(W * H).toNat, by omega⟩; rw [hm]; exact wrap_i64_lt m (by omega)
  have hqq : (Q != Q) = false := bne_self_eq_false Q
  show Calls _ _ #[.agg #[.int .i64 W, .int .i64 H, .int .i64 C, .int .i64 D, .slice A n a], .agg #[.int .i64 W, .int .i64 H, .int .i64 C, .int .i64 D, .slice A' n a']] w _
  go_enter Try.func6, Try.ntmps6
  go_wp2_with (first
    | (go_at_call 16; (with_reducible refine (first11_any _).mono ?_); go_must (rintro e w1 ⟨rfl, hb1⟩; first | (have _t := c1; (try replace c1 := kept c1 rfl hb1); (try replace c2 := kept c2 rfl hb1); (try replace pb := kept pb rfl hb1); (try replace qb := kept qb rfl hb1); (try replace rx := rx.later hb1); (try replace rz := rz.later hb1); (try replace rp := rp.later hb1); (try replace r9 := r9.later hb1); replace hB := bstep hB hb1 (Nat.le_refl _); clear hb1) | (have c2 := box5 hb1; rw [World.size_alloc] at c2; replace hb1 := bxd hb1; have c1 := box5 hb1; replace hB := bxd hb1; clear hb1)))
    | (go_at_call 17; (with_reducible refine (HM1.out _).mono ?_); go_must (rintro e w1 ⟨rfl, hb1⟩; rw [HV.out]; (try replace c1 := kept c1 rfl hb1); (try replace c2 := kept c2 rfl hb1); (try replace pb := kept pb rfl hb1); (try replace qb := kept qb rfl hb1); (try replace rx := rx.later hb1); (try replace rz := rz.later hb1); (try replace rp := rp.later hb1); (try replace r9 := r9.later hb1); replace hB := bstep hB hb1 (Nat.le_refl _); clear hb1))
    | (go_at_call 17; (with_reducible refine (HM2.out _).mono ?_); go_must (rintro e w1 ⟨rfl, hb1⟩; rw [HV.out]; (try replace c1 := kept c1 rfl hb1); (try replace c2 := kept c2 rfl hb1); (try replace pb := kept pb rfl hb1); (try replace qb := kept qb rfl hb1); (try replace rx := rx.later hb1); (try replace rz := rz.later hb1); (try replace rp := rp.later hb1); (try replace r9 := r9.later hb1); replace hB := bstep hB hb1 (Nat.le_refl _); clear hb1))
    | (go_at_call 18; (with_reducible refine (HS.out _).mono ?_); go_must (rintro e w1 ⟨rfl, hb1⟩; rw [HD.out]; (try replace c1 := kept c1 rfl hb1); (try replace c2 := kept c2 rfl hb1); (try replace pb := kept pb rfl hb1); (try replace qb := kept qb rfl hb1); (try replace rx := rx.later hb1); (try replace rz := rz.later hb1); (try replace rp := rp.later hb1); (try replace r9 := r9.later hb1); replace hB := bstep hB hb1 (Nat.le_refl _); clear hb1))
    | (go_at_call 19; (with_reducible refine (HC.out _ hB).mono ?_); go_must (rintro e w1 ⟨rfl, hb1⟩; (try replace c1 := kept c1 rfl hb1); (try replace c2 := kept c2 rfl hb1); (try replace pb := kept pb rfl hb1); (try replace qb := kept qb rfl hb1); (try replace rx := rx.later hb1); (try replace rz := rz.later hb1); (try replace rp := rp.later hb1); (try replace r9 := r9.later hb1); replace hB := bstep hB hb1 (Nat.le_refl _); clear hb1))
    | (go_at_call 20; (with_reducible refine (HR.out _ hB).mono ?_); go_must (rintro e w1 ⟨rfl, hb1⟩; (try replace c1 := kept c1 rfl hb1); (try replace c2 := kept c2 rfl hb1); (try replace pb := kept pb rfl hb1); (try replace qb := kept qb rfl hb1); (try replace rx := rx.later hb1); (try replace rz := rz.later hb1); (try replace rp := rp.later hb1); (try replace r9 := r9.later hb1); replace hB := bstep hB hb1 (Nat.le_refl _); clear hb1)))
  clear HC HR hq hqq hww hd0 hdw2 hdw hw0 hw1 HM1 HM2 HS HD
  go_loopw [8, 7] (fun vk vb wr => ((vk = .int .i64 1 ∧ vb = .int .i64 1073741824) ∨ (vk = .int .i64 2 ∧ ∃ p1, Hid (PK (deltaB 1 bs rs) p1) ∧ vb = .int .i64 p1.length) ∨ (vk = .int .i64 3 ∧ ∃ p1 p2, Hid (PK (deltaB 1 bs rs) p1) ∧ Hid (PK (deltaB 2 bs rs) p2) ∧ vb = .int .i64 (pickK p1 p2).2.length)) ∧ (∀ i, wr.cell? ⟨w.heap.size, i, none⟩ = r5 (.int .i64 W) (.int .i64 H) (.int .i64 C) (.int .i64 D) (.slice A n a) i) ∧ (∀ i, wr.cell? ⟨w.heap.size + 1, i, none⟩ = r5 (.int .i64 W) (.int .i64 H) (.int .i64 C) (.int .i64 D) (.slice A' n a') i) ∧ Below w.heap.size w wr) (fun vk _ _ => (3 - intOf vk).toNat)
  case atStart => exact ⟨.inl ⟨rfl, rfl⟩, c1, c2, hB⟩
  case round =>
    clear c1 c2 hB
    obtain ⟨hst, c1, c2, hB⟩ := hrel
    rcases hst with ⟨rfl, rfl⟩ | ⟨rfl, p1, HP1, rfl⟩ | ⟨rfl, p1, p2, HP1, HP2, rfl⟩
    · go_wp2_with (first
        | (go_at_call 21; (with_reducible refine (HK.out 1 (by omega) _ hB).mono ?_); go_must (rintro e w2 ⟨v, rfl, hx, hb1⟩; obtain ⟨Ax, cx, rfl, rx, hcx, _⟩ := hx.form; clear hx; rw [HL.out 1] at rx hcx ⊢; (try replace c1 := kept c1 rfl hb1); (try replace c2 := kept c2 rfl hb1); replace hB := bstep hB hb1 (Nat.le_refl _); clear hb1))
        | (go_at_call 22; (with_reducible refine (HA.out 1 (by omega) _ _ _ rx hB).mono ?_); go_must (rintro e w3 ⟨Ap, cp, rfl, rp, hb1⟩; (try replace c1 := kept c1 rfl hb1); (try replace c2 := kept c2 rfl hb1); (try replace rx := rx.later hb1); replace hB := bstep hB hb1 (Nat.le_refl _); clear hb1; have q_c1w3 : w.heap.size < w3.heap.size := ltOf c1 rfl; have r_c1w3 : ¬ w.heap.size = w3.heap.size := Nat.ne_of_lt q_c1w3; have q_c2w3 : w.heap.size + 1 < w3.heap.size := ltOf c2 rfl; have r_c2w3 : ¬ w.heap.size + 1 = w3.heap.size := Nat.ne_of_lt q_c2w3))
        | (go_at_call 21; (with_reducible refine (HKz.out 1 (by omega) _ (hB.alloc hB.size _)).mono ?_); go_must (rintro e w4 ⟨v, rfl, hx, hb1⟩; obtain ⟨Az, cz, rfl, rz, _, _⟩ := hx.form; clear hx; rw [HZ.out 1 (by omega), List.length_replicate] at rz ⊢; have pb := box5 hb1; replace rx := RdB.later (RdB.here (rx.alloc (Nat.le_refl _) _)) hb1; replace rp := RdB.later (RdB.here (rp.alloc (Nat.le_refl _) _)) hb1; replace hb1 := bxd hb1; (try replace c1 := kept c1 rfl hb1); (try replace c2 := kept c2 rfl hb1); replace hB := bstep hB hb1 (Nat.le_refl _); clear hb1))
        | (go_at_call 13; (with_reducible refine (HP.out _ _ _ _ rx hcx).mono ?_); go_must (rintro e w5 ⟨v5, q1, rfl, ho5, hk5, hb1⟩; have HQ1 := Lib.hid hk5; obtain ⟨A5, c5, rfl, -, -, -⟩ := ho5.form; clear ho5 hk5; (try replace c1 := kept c1 rfl hb1); (try replace c2 := kept c2 rfl hb1); (try replace pb := kept pb rfl hb1); (try replace rz := rz.later hb1); (try replace rp := rp.later hb1); replace hB := bstep hB hb1 (Nat.le_refl _); clear hb1))
        | (go_at_call 20; (with_reducible refine (HRr.out _ _ _ rp hB).mono ?_); go_must (rintro e w6 ⟨rfl, hb1⟩; (try replace c1 := kept c1 rfl hb1); (try replace c2 := kept c2 rfl hb1); (try replace pb := kept pb rfl hb1); (try replace rz := rz.later hb1); replace hB := bstep hB hb1 (Nat.le_refl _); clear hb1)))
      obtain ⟨wo, rfl⟩ : ∃ wo : World, wo = w6 := ⟨_, rfl⟩
      go_loopw [17] (fun vj wr => ∃ j : Nat, j ≤ n ∧ vj = .int .i64 j ∧ wr = wo) (fun vj _ => n - (intOf vj).toNat)
      case atStart => exact ⟨0, Nat.zero_le _, rfl, rfl⟩
      case round =>
        obtain ⟨j, hj, rfl, rfl⟩ := hrel
        by_cases hlt : j < n
        · obtain ⟨b, o, x, rfl, hbo, hx, cx⟩ := rz.byte hlt
          obtain rfl := zeros_at hx.out
          clear hx
          have hji : (j : Int) < (n : Int) := by omega
          go_wp2_with fail
          go_roundw
          case rel => exact ⟨j + 1, by omega, by go_num, trivial⟩
          case measure => simp [intOf]; omega
        · obtain rfl : j = n := by omega
          have hji : ¬ (j : Int) < (j : Int) := by omega
          have hp9 := HQ1.out.len
          rw [HL.out 1] at hp9
          have t1 : (q1.length : Int) < 1073741824 := by omega
          have t2 : ¬ (1073741824 : Int) < (q1.length : Int) := by omega
          have t3 : (q1.length : Int) ≤ 1073741824 := by omega
          have t4 : ¬ (1073741824 : Int) ≤ (q1.length : Int) := by omega
          go_wp2_with fail
          go_roundw
          case rel => exact ⟨.inr (.inl ⟨rfl, q1, HQ1, rfl⟩), c1, c2, hB⟩
          case measure => simp [intOf]
    · go_wp2_with (first
        | (go_at_call 21; (with_reducible refine (HK.out 2 (by omega) _ hB).mono ?_); go_must (rintro e w2 ⟨v, rfl, hx, hb1⟩; obtain ⟨Ax, cx, rfl, rx, hcx, _⟩ := hx.form; clear hx; rw [HL.out 2] at rx hcx ⊢; (try replace c1 := kept c1 rfl hb1); (try replace c2 := kept c2 rfl hb1); replace hB := bstep hB hb1 (Nat.le_refl _); clear hb1))
        | (go_at_call 22; (with_reducible refine (HA.out 2 (by omega) _ _ _ rx hB).mono ?_); go_must (rintro e w3 ⟨Ap, cp, rfl, rp, hb1⟩; (try replace c1 := kept c1 rfl hb1); (try replace c2 := kept c2 rfl hb1); (try replace rx := rx.later hb1); replace hB := bstep hB hb1 (Nat.le_refl _); clear hb1; have q_c1w3 : w.heap.size < w3.heap.size := ltOf c1 rfl; have r_c1w3 : ¬ w.heap.size = w3.heap.size := Nat.ne_of_lt q_c1w3; have q_c2w3 : w.heap.size + 1 < w3.heap.size := ltOf c2 rfl; have r_c2w3 : ¬ w.heap.size + 1 = w3.heap.size := Nat.ne_of_lt q_c2w3))
        | (go_at_call 21; (with_reducible refine (HKz.out 2 (by omega) _ (hB.alloc hB.size _)).mono ?_); go_must (rintro e w4 ⟨v, rfl, hx, hb1⟩; obtain ⟨Az, cz, rfl, rz, _, _⟩ := hx.form; clear hx; rw [HZ.out 2 (by omega), List.length_replicate] at rz ⊢; have pb := box5 hb1; replace rx := RdB.later (RdB.here (rx.alloc (Nat.le_refl _) _)) hb1; replace rp := RdB.later (RdB.here (rp.alloc (Nat.le_refl _) _)) hb1; replace hb1 := bxd hb1; (try replace c1 := kept c1 rfl hb1); (try replace c2 := kept c2 rfl hb1); replace hB := bstep hB hb1 (Nat.le_refl _); clear hb1))
        | (go_at_call 13; (with_reducible refine (HP.out _ _ _ _ rx hcx).mono ?_); go_must (rintro e w5 ⟨v5, q2, rfl, ho5, hk5, hb1⟩; have HQ2 := Lib.hid hk5; obtain ⟨A5, c5, rfl, -, -, -⟩ := ho5.form; clear ho5 hk5; (try replace c1 := kept c1 rfl hb1); (try replace c2 := kept c2 rfl hb1); (try replace pb := kept pb rfl hb1); (try replace rz := rz.later hb1); (try replace rp := rp.later hb1); replace hB := bstep hB hb1 (Nat.le_refl _); clear hb1))
        | (go_at_call 20; (with_reducible refine (HRr.out _ _ _ rp hB).mono ?_); go_must (rintro e w6 ⟨rfl, hb1⟩; (try replace c1 := kept c1 rfl hb1); (try replace c2 := kept c2 rfl hb1); (try replace pb := kept pb rfl hb1); (try replace rz := rz.later hb1); replace hB := bstep hB hb1 (Nat.le_refl _); clear hb1)))
      obtain ⟨wo, rfl⟩ : ∃ wo : World, wo = w6 := ⟨_, rfl⟩
      go_loopw [17] (fun vj wr => ∃ j : Nat, j ≤ n ∧ vj = .int .i64 j ∧ wr = wo) (fun vj _ => n - (intOf vj).toNat)
      case atStart => exact ⟨0, Nat.zero_le _, rfl, rfl⟩
      case round =>
        obtain ⟨j, hj, rfl, rfl⟩ := hrel
        by_cases hlt : j < n
        · obtain ⟨b, o, x, rfl, hbo, hx, cx⟩ := rz.byte hlt
          obtain rfl := zeros_at hx.out
          clear hx
          have hji : (j : Int) < (n : Int) := by omega
          go_wp2_with fail
          go_roundw
          case rel => exact ⟨j + 1, by omega, by go_num, trivial⟩
          case measure => simp [intOf]; omega
        · obtain rfl : j = n := by omega
          have hji : ¬ (j : Int) < (j : Int) := by omega
          by_cases hlt2 : q2.length < p1.length
          · have t1 : (q2.length : Int) < (p1.length : Int) := by omega
            have t2 : ¬ (p1.length : Int) < (q2.length : Int) := by omega
            have t3 : (q2.length : Int) ≤ (p1.length : Int) := by omega
            have t4 : ¬ (p1.length : Int) ≤ (q2.length : Int) := by omega
            have HPI : Hid (pickK p1 q2 = (2, q2)) := (show _ = _ from if_pos hlt2)
            go_wp2_with fail
            go_roundw
            case rel => exact ⟨.inr (.inr ⟨rfl, p1, q2, HP1, HQ2, by rw [HPI.out]⟩), c1, c2, hB⟩
            case measure => simp [intOf]
          · have t1 : ¬ (q2.length : Int) < (p1.length : Int) := by omega
            have t3 : (p1.length : Int) ≤ (q2.length : Int) := by omega
            have HPI : Hid (pickK p1 q2 = (1, p1)) := (show _ = _ from if_neg hlt2)
            rcases Nat.lt_or_eq_of_le (Nat.le_of_not_lt hlt2) with hlt3 | heq3
            · have t2 : (p1.length : Int) < (q2.length : Int) := by omega
              have t4 : ¬ (q2.length : Int) ≤ (p1.length : Int) := by omega
              go_wp2_with fail
              go_roundw
              case rel => exact ⟨.inr (.inr ⟨rfl, p1, q2, HP1, HQ2, by rw [HPI.out]⟩), c1, c2, hB⟩
              case measure => simp [intOf]
            · have HE3 := Lib.hid heq3
              have t2 : ¬ (p1.length : Int) < (q2.length : Int) := by omega
              have t4 : (q2.length : Int) ≤ (p1.length : Int) := by omega
              go_wp2_with fail
              go_roundw
              case rel => exact ⟨.inr (.inr ⟨rfl, p1, q2, HP1, HQ2, by rw [HPI.out]; first | rfl | rw [HE3.out]⟩), c1, c2, hB⟩
              case measure => simp [intOf]
    · go_wp2_with (first
        | (go_at_call 23; (with_reducible refine (HBS.out _ hB).mono ?_); go_must (rintro e w7 ⟨v7, x1, x2, rfl, ho7, k1, k2, hb1⟩; obtain rfl := k1.uniq HP1.out; obtain rfl := k2.uniq HP2.out; obtain ⟨hk9, hp9⟩ := pick_back k1 k2; generalize (pickK x1 x2).1 = k9 at hk9 hp9 ⊢; generalize (pickK x1 x2).2 = L9 at *; clear k1 k2; have HK9 := Lib.hid hk9; have HP9 := Lib.hid hp9; clear hk9 hp9; obtain ⟨A7, c7, rfl, r9, hc7, _⟩ := ho7.form; clear ho7; (try replace c1 := kept c1 rfl hb1); (try replace c2 := kept c2 rfl hb1); replace hB := bstep hB hb1 (Nat.le_refl _); clear hb1))
        | (go_at_call 14; (with_reducible refine (wholeK_any _ _ _ _ (deltaB k9 bs rs) L9 _ r9 (Nat.le_refl _) hc7 HP9.out (by rw [HL.out]; omega)).mono ?_); go_must (rintro e w8 ⟨A8, c8, rfl, r8, hc8, hb1⟩; rw [HL.out] at r8 hc8 ⊢; (try replace c1 := kept c1 rfl hb1); (try replace c2 := kept c2 rfl hb1); replace hB := bstep hB hb1 (Nat.le_refl _); clear hb1))
        | (go_at_call 22; (with_reducible refine (HA.out k9 HK9.out _ _ _ r8 hB).mono ?_); go_must (rintro e w3 ⟨Ap, cp, rfl, rp, hb1⟩; (try replace c1 := kept c1 rfl hb1); (try replace c2 := kept c2 rfl hb1); replace hB := bstep hB hb1 (Nat.le_refl _); clear hb1; have q_c1w3 : w.heap.size < w3.heap.size := ltOf c1 rfl; have r_c1w3 : ¬ w.heap.size = w3.heap.size := Nat.ne_of_lt q_c1w3; have q_c2w3 : w.heap.size + 1 < w3.heap.size := ltOf c2 rfl; have r_c2w3 : ¬ w.heap.size + 1 = w3.heap.size := Nat.ne_of_lt q_c2w3))
        | (go_at_call 16; (with_reducible refine (first11_any _).mono ?_); go_must (rintro e w9 ⟨rfl, hb1⟩; have pb := box5 hb1; replace rp := RdB.later (RdB.here (rp.alloc (Nat.le_refl _) _)) hb1; replace hb1 := bxd hb1; (try replace c1 := kept c1 rfl hb1); (try replace c2 := kept c2 rfl hb1); replace hB := bstep hB hb1 (Nat.le_refl _); clear hb1))
        | (go_at_call 20; (with_reducible refine (HRr.out _ _ _ rp hB).mono ?_); go_must (rintro e w6 ⟨rfl, hb1⟩; (try replace c1 := kept c1 rfl hb1); (try replace c2 := kept c2 rfl hb1); replace hB := bstep hB hb1 (Nat.le_refl _); clear hb1)))
      go_ret
      exact ⟨rfl, hB⟩

def backGo (s t : Sh) (n n' : Nat) : Bool := s.mayR n && (t.mayR n' && decide (s = t))
set_option maxRecDepth 100000 in
set_option maxHeartbeats 3200000 in
theorem diffBack_early (s t : Sh) (A : Option Addr) (n a : Nat) (A' : Option Addr) (n' a' : Nat) (w : World) (h : ¬ (n ≤ 2000 ∧ n' ≤ 2000 ∧ backGo s t n n' = true)) :
    Calls Try.prog 6 #[s.r A n a, t.r A' n' a'] w fun e w' => e = .returned (.bool true) ∧ Below w.heap.size w w' := by
  have hB := Below.refl w.heap.size w
  have HM1 := Lib.hid (fun w => may_any s A n a w)
  have HM2 := Lib.hid (fun w => may_any t A' n' a' w)
  have HS := Lib.hid (fun w => shape_any s t w)
  unfold backGo at h
  generalize s.mayR n = p1 at h HM1
  generalize t.mayR n' = p2 at h HM2
  generalize decide (s = t) = p4 at h HS
  obtain ⟨W, H, C, D⟩ := s
  obtain ⟨tW, tH, tC, tD⟩ := t
  dsimp only [Sh.r, Sh.v] at HM1 HM2 HS
  show Calls _ _ #[.agg #[.int .i64 W, .int .i64 H, .int .i64 C, .int .i64 D, .slice A n a], .agg #[.int .i64 tW, .int .i64 tH, .int .i64 tC, .int .i64 tD, .slice A' n' a']] w _
  by_cases h0 : n ≤ 2000
  · have i0 : ¬ (2000 : Int) < (n : Int) := by omega
    by_cases h1 : n' ≤ 2000
    · have i1 : ¬ (2000 : Int) < (n' : Int) := by omega
      replace h : ¬ (p1 && (p2 && p4)) = true := fun e => h ⟨h0, h1, e⟩
      rcases p1 with _ | _ <;> (try (rcases p2 with _ | _)) <;> (try (rcases p4 with _ | _)) <;> (first | (exfalso; revert h; decide) | skip)
      all_goals
        clear h
        go_enter Try.func6, Try.ntmps6
        go_wp2_with (first
          | (go_at_call 16; (with_reducible refine (first11_any _).mono ?_); go_must (rintro e w1 ⟨rfl, hb1⟩; first | (have _t := c1; (try replace c1 := kept c1 rfl hb1); (try replace c2 := kept c2 rfl hb1); replace hB := bstep hB hb1 (Nat.le_refl _); clear hb1) | (have c2 := box5 hb1; rw [World.size_alloc] at c2; replace hb1 := bxd hb1; have c1 := box5 hb1; replace hB := bxd hb1; clear hb1)))
          | (go_at_call 17; (with_reducible refine (HM1.out _).mono ?_); go_must (rintro e w1 ⟨rfl, hb1⟩; (try replace c1 := kept c1 rfl hb1); (try replace c2 := kept c2 rfl hb1); replace hB := bstep hB hb1 (Nat.le_refl _); clear hb1))
          | (go_at_call 17; (with_reducible refine (HM2.out _).mono ?_); go_must (rintro e w1 ⟨rfl, hb1⟩; (try replace c1 := kept c1 rfl hb1); (try replace c2 := kept c2 rfl hb1); replace hB := bstep hB hb1 (Nat.le_refl _); clear hb1))
          | (go_at_call 18; (with_reducible refine (HS.out _).mono ?_); go_must (rintro e w1 ⟨rfl, hb1⟩; (try replace c1 := kept c1 rfl hb1); (try replace c2 := kept c2 rfl hb1); replace hB := bstep hB hb1 (Nat.le_refl _); clear hb1)))
        go_ret
        exact ⟨rfl, hB⟩
    · have i1 : (2000 : Int) < (n' : Int) := by omega
      clear h
      go_enter Try.func6, Try.ntmps6
      go_wp2_with (first
        | (go_at_call 16; (with_reducible refine (first11_any _).mono ?_); go_must (rintro e w1 ⟨rfl, hb1⟩; first | (have _t := c1; (try replace c1 := kept c1 rfl hb1); (try replace c2 := kept c2 rfl hb1); replace hB := bstep hB hb1 (Nat.le_refl _); clear hb1) | (have c2 := box5 hb1; rw [World.size_alloc] at c2; replace hb1 := bxd hb1; have c1 := box5 hb1; replace hB := bxd hb1; clear hb1)))
        | (go_at_call 17; (with_reducible refine (HM1.out _).mono ?_); go_must (rintro e w1 ⟨rfl, hb1⟩; (try replace c1 := kept c1 rfl hb1); (try replace c2 := kept c2 rfl hb1); replace hB := bstep hB hb1 (Nat.le_refl _); clear hb1))
        | (go_at_call 17; (with_reducible refine (HM2.out _).mono ?_); go_must (rintro e w1 ⟨rfl, hb1⟩; (try replace c1 := kept c1 rfl hb1); (try replace c2 := kept c2 rfl hb1); replace hB := bstep hB hb1 (Nat.le_refl _); clear hb1))
        | (go_at_call 18; (with_reducible refine (HS.out _).mono ?_); go_must (rintro e w1 ⟨rfl, hb1⟩; (try replace c1 := kept c1 rfl hb1); (try replace c2 := kept c2 rfl hb1); replace hB := bstep hB hb1 (Nat.le_refl _); clear hb1)))
      go_ret
      exact ⟨rfl, hB⟩
  · have i0 : (2000 : Int) < (n : Int) := by omega
    clear h
    go_enter Try.func6, Try.ntmps6
    go_wp2_with (first
      | (go_at_call 16; (with_reducible refine (first11_any _).mono ?_); go_must (rintro e w1 ⟨rfl, hb1⟩; first | (have _t := c1; (try replace c1 := kept c1 rfl hb1); (try replace c2 := kept c2 rfl hb1); replace hB := bstep hB hb1 (Nat.le_refl _); clear hb1) | (have c2 := box5 hb1; rw [World.size_alloc] at c2; replace hb1 := bxd hb1; have c1 := box5 hb1; replace hB := bxd hb1; clear hb1)))
      | (go_at_call 17; (with_reducible refine (HM1.out _).mono ?_); go_must (rintro e w1 ⟨rfl, hb1⟩; (try replace c1 := kept c1 rfl hb1); (try replace c2 := kept c2 rfl hb1); replace hB := bstep hB hb1 (Nat.le_refl _); clear hb1))
      | (go_at_call 17; (with_reducible refine (HM2.out _).mono ?_); go_must (rintro e w1 ⟨rfl, hb1⟩; (try replace c1 := kept c1 rfl hb1); (try replace c2 := kept c2 rfl hb1); replace hB := bstep hB hb1 (Nat.le_refl _); clear hb1))
      | (go_at_call 18; (with_reducible refine (HS.out _).mono ?_); go_must (rintro e w1 ⟨rfl, hb1⟩; (try replace c1 := kept c1 rfl hb1); (try replace c2 := kept c2 rfl hb1); replace hB := bstep hB hb1 (Nat.le_refl _); clear hb1)))
    go_ret
    exact ⟨rfl, hB⟩

theorem diffBack_walk (s t : Sh) (A : Option Addr) (n a : Nat) (A' : Option Addr) (n' a' : Nat) (bs rs : List UInt8) (w : World) (h1 : RdB w w.heap.size A n bs) (h2 : RdB w w.heap.size A' n' rs) (l1 : n ≤ a) (l2 : n' ≤ a') (m1 : a ≤ maxLen) (m2 : a' ≤ maxLen) :
    Calls Try.prog 6 #[s.r A n a, t.r A' n' a'] w fun e w' => e = .returned (.bool true) ∧ Below w.heap.size w w' := by
  by_cases h : n ≤ 2000 ∧ n' ≤ 2000 ∧ backGo s t n n' = true
  · obtain ⟨h0, -, hg⟩ := h
    unfold backGo at hg
    simp only [Bool.and_eq_true, decide_eq_true_eq] at hg
    obtain ⟨hp, hp', rfl⟩ := hg
    have e1 := (Sh.mayR_size hp).1
    have e2 := (Sh.mayR_size hp').1
    obtain rfl : n = n' := by omega
    exact diffBack_main s A n a A' a' bs rs w h1 h2 l1 l2 m1 m2 h0 hp
  · exact diffBack_early s t A n a A' n' a' w h

end Go.Proofs.Ytfafijhmjnkjeaa

