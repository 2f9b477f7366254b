/- The walk of DiffChains: three pictures of one shape. -/
import Derived.Test.YtcgpeijmmongoaaDiffChains
namespace Go.Proofs.Ytcgpeijmmongoaa
set_option linter.all false
open Go.RowKit

theorem u8_chain_xor (x y z : UInt8) : z ^^^ x = (y ^^^ x) ^^^ (z ^^^ y) := by
  rw [UInt8.xor_comm (y ^^^ x), UInt8.xor_assoc, ← UInt8.xor_assoc y y x, UInt8.xor_self, UInt8.zero_xor]
theorem u8_chain_sub (x y z : UInt8) : z - x = (y - x) + (z - y) := by
  apply UInt8.toNat_inj.1
  rw [UInt8.toNat_add, UInt8.toNat_sub, UInt8.toNat_sub, UInt8.toNat_sub]
  have := x.toNat_lt
  have := y.toNat_lt
  have := z.toNat_lt
  omega
theorem deltaB_some {k : Int} {bs rs : List UInt8} {i : Nat} {u : UInt8} (h : (deltaB k bs rs)[i]? = some u) : ∃ x y, bs[i]? = some x ∧ rs[i]? = some y ∧ u = dop k x y := by
  unfold deltaB at h
  rw [List.getElem?_zipWith] at h
  cases hx : bs[i]? with
  | none => rw [hx] at h; simp at h
  | some x => cases hy : rs[i]? with
    | none => rw [hx, hy] at h; simp at h
    | some y => rw [hx, hy] at h; simp at h; exact ⟨x, y, rfl, rfl, h.symm⟩
theorem chain_at {k : Int} {xs ys zs : List UInt8} {j : Nat} {x y z : UInt8} (h1 : (deltaB k xs ys)[j]? = some x) (h2 : (deltaB k ys zs)[j]? = some y) (h3 : (deltaB k xs zs)[j]? = some z) :
    (k = 1 → z = x ^^^ y) ∧ (k = 2 → z = x + y) := by
  obtain ⟨a, b, ha, hb, rfl⟩ := deltaB_some h1
  obtain ⟨b', c, hb', hc, rfl⟩ := deltaB_some h2
  obtain ⟨a', c', ha', hc', rfl⟩ := deltaB_some h3
  rw [hb] at hb'
  rw [ha] at ha'
  rw [hc] at hc'
  injection hb' with e1
  injection ha' with e2
  injection hc' with e3
  subst e1 e2 e3
  constructor
  · rintro rfl
    exact u8_chain_xor a b c
  · rintro rfl
    exact u8_chain_sub a b c

set_option maxRecDepth 100000 in
set_option maxHeartbeats 6400000 in
theorem chains_main (s : Sh) (n a a' a'' : Nat) (A A' A'' : Option Addr) (xs ys zs : List UInt8) (w : World) (h1 : RdB w w.heap.size A n xs) (h2 : RdB w w.heap.size A' n ys) (h3 : RdB w w.heap.size A'' n zs)
    (h0 : n ≤ 5000) (hm : s.mayR n = true) :
    Calls Try.prog 4 #[s.r A n a, s.r A' n a', s.r A'' n a''] w fun e w' => e = .returned (.bool true) ∧ Below w.heap.size w w' := by
  have hB := Below.refl w.heap.size w
  have HV := Lib.hid hm
  have HM1 := Lib.hid (fun w => may_any s A n a w)
  have HM2 := Lib.hid (fun w => may_any s A' n a' w)
  have HM3 := Lib.hid (fun w => may_any s A'' n a'' w)
  have HS := Lib.hid (fun w => shape_any s s w)
  have HD := Lib.hid (show decide (s = s) = true by simp)
  have hz : wrongR s s n n = 0 := by unfold wrongR; rw [hm]; simp
  have HK1 := Lib.hid (fun (k : Int) (hk : k = 1 ∨ k = 2) (w' : World) (hb : Below w.heap.size w w') => make_ok k s s w.heap.size n a w.heap.size n a' A A' xs ys w' (h1.blw hb) (h2.blw hb) hb.size hb.size hk hz)
  have HK2 := Lib.hid (fun (k : Int) (hk : k = 1 ∨ k = 2) (w' : World) (hb : Below w.heap.size w w') => make_ok k s s w.heap.size n a' w.heap.size n a'' A' A'' ys zs w' (h2.blw hb) (h3.blw hb) hb.size hb.size hk hz)
  have HK3 := Lib.hid (fun (k : Int) (hk : k = 1 ∨ k = 2) (w' : World) (hb : Below w.heap.size w w') => make_ok k s s w.heap.size n a w.heap.size n a'' A A'' xs zs w' (h1.blw hb) (h3.blw hb) hb.size hb.size hk hz)
  have HL1 := Lib.hid (fun k => (deltaB_len (k := k) (bs := xs) (rs := ys) (by rw [h1.len, h2.len])).trans h2.len)
  have HL2 := Lib.hid (fun k => (deltaB_len (k := k) (bs := ys) (rs := zs) (by rw [h2.len, h3.len])).trans h3.len)
  have HL3 := Lib.hid (fun k => (deltaB_len (k := k) (bs := xs) (rs := zs) (by rw [h1.len, h3.len])).trans h3.len)
  clear hm hz h1 h2 h3
  obtain ⟨W, H, C, D⟩ := s
  dsimp only [Sh.r, Sh.v] at HM1 HM2 HM3 HS HK1 HK2 HK3
  show Calls _ _ #[.agg #[.int .i64 W, .int .i64 H, .int .i64 C, .int .i64 D, .slice A n a], .agg #[.int .i64 W, .int .i64 H, .int .i64 C, .int .i64 D, .slice A' n a'], .agg #[.int .i64 W, .int .i64 H, .int .i64 C, .int .i64 D, .slice A'' n a'']] w _
  go_enter Try.func4, Try.ntmps4
  go_wp2_with (first
    | (go_at_call 19; (with_reducible refine (first11_any _).mono ?_); go_must (rintro e w1 ⟨rfl, hb1⟩; first | (have _t := c1; (try (first | replace c1 := kept c1 rfl hb1 | replace c1 := keptD c1 rfl hb1 | replace c1 := keptN c1 rfl hb1)); (try (first | replace c2 := kept c2 rfl hb1 | replace c2 := keptD c2 rfl hb1 | replace c2 := keptN c2 rfl hb1)); (try (first | replace c3 := kept c3 rfl hb1 | replace c3 := keptD c3 rfl hb1 | replace c3 := keptN c3 rfl hb1)); (first | replace hB := bstep hB hb1 (Nat.le_refl _) | replace hB := bstep hB.drew hb1 (Nat.le_refl _) | replace hB := bstep (bdrewN hB _) hb1 (Nat.le_refl _)); clear hb1) | (have c3 := box5 hb1; rw [World.size_alloc, World.size_alloc] at c3; replace hb1 := bxd hb1; have c2 := box5 hb1; rw [World.size_alloc] at c2; replace hb1 := bxd hb1; have c1 := box5 hb1; replace hB := bxd hb1; clear hb1)))
    | (go_at_call 20; (with_reducible refine (HM1.out _).mono ?_); go_must (rintro e w1 ⟨rfl, hb1⟩; rw [HV.out]; (try (first | replace c1 := kept c1 rfl hb1 | replace c1 := keptD c1 rfl hb1 | replace c1 := keptN c1 rfl hb1)); (try (first | replace c2 := kept c2 rfl hb1 | replace c2 := keptD c2 rfl hb1 | replace c2 := keptN c2 rfl hb1)); (try (first | replace c3 := kept c3 rfl hb1 | replace c3 := keptD c3 rfl hb1 | replace c3 := keptN c3 rfl hb1)); (first | replace hB := bstep hB hb1 (Nat.le_refl _) | replace hB := bstep hB.drew hb1 (Nat.le_refl _) | replace hB := bstep (bdrewN hB _) hb1 (Nat.le_refl _)); clear hb1))
    | (go_at_call 20; (with_reducible refine (HM2.out _).mono ?_); go_must (rintro e w1 ⟨rfl, hb1⟩; rw [HV.out]; (try (first | replace c1 := kept c1 rfl hb1 | replace c1 := keptD c1 rfl hb1 | replace c1 := keptN c1 rfl hb1)); (try (first | replace c2 := kept c2 rfl hb1 | replace c2 := keptD c2 rfl hb1 | replace c2 := keptN c2 rfl hb1)); (try (first | replace c3 := kept c3 rfl hb1 | replace c3 := keptD c3 rfl hb1 | replace c3 := keptN c3 rfl hb1)); (first | replace hB := bstep hB hb1 (Nat.le_refl _) | replace hB := bstep hB.drew hb1 (Nat.le_refl _) | replace hB := bstep (bdrewN hB _) hb1 (Nat.le_refl _)); clear hb1))
    | (go_at_call 20; (with_reducible refine (HM3.out _).mono ?_); go_must (rintro e w1 ⟨rfl, hb1⟩; rw [HV.out]; (try (first | replace c1 := kept c1 rfl hb1 | replace c1 := keptD c1 rfl hb1 | replace c1 := keptN c1 rfl hb1)); (try (first | replace c2 := kept c2 rfl hb1 | replace c2 := keptD c2 rfl hb1 | replace c2 := keptN c2 rfl hb1)); (try (first | replace c3 := kept c3 rfl hb1 | replace c3 := keptD c3 rfl hb1 | replace c3 := keptN c3 rfl hb1)); (first | replace hB := bstep hB hb1 (Nat.le_refl _) | replace hB := bstep hB.drew hb1 (Nat.le_refl _) | replace hB := bstep (bdrewN hB _) hb1 (Nat.le_refl _)); clear hb1))
    | (go_at_call 21; (with_reducible refine (HS.out _).mono ?_); go_must (rintro e w1 ⟨rfl, hb1⟩; rw [HD.out]; (try (first | replace c1 := kept c1 rfl hb1 | replace c1 := keptD c1 rfl hb1 | replace c1 := keptN c1 rfl hb1)); (try (first | replace c2 := kept c2 rfl hb1 | replace c2 := keptD c2 rfl hb1 | replace c2 := keptN c2 rfl hb1)); (try (first | replace c3 := kept c3 rfl hb1 | replace c3 := keptD c3 rfl hb1 | replace c3 := keptN c3 rfl hb1)); (first | replace hB := bstep hB hb1 (Nat.le_refl _) | replace hB := bstep hB.drew hb1 (Nat.le_refl _) | replace hB := bstep (bdrewN hB _) hb1 (Nat.le_refl _)); clear hb1)))
  go_loopw [7] (fun kk wr => ∃ k : Int, (1 ≤ k ∧ k ≤ 3) ∧ kk = .int .i64 k ∧ (∀ i, wr.cell? ⟨w.heap.size, i, none⟩ = r5 (.int .i64 W) (.int .i64 H) (.int .i64 C) (.int .i64 D) (.slice A n a) i) ∧ (∀ i, wr.cell? ⟨w.heap.size + 1, i, none⟩ = r5 (.int .i64 W) (.int .i64 H) (.int .i64 C) (.int .i64 D) (.slice A' n a') i) ∧ (∀ i, wr.cell? ⟨w.heap.size + 1 + 1, i, none⟩ = r5 (.int .i64 W) (.int .i64 H) (.int .i64 C) (.int .i64 D) (.slice A'' n a'') i) ∧ Below w.heap.size w wr)
    (fun kk _ => (4 - intOf kk).toNat)
  case atStart => exact ⟨1, by omega, rfl, c1, c2, c3, hB⟩
  case round =>
    clear c1 c2 c3 hB
    obtain ⟨k, hk, rfl, c1, c2, c3, hB⟩ := hrel
    rcases (by omega : k = 1 ∨ k = 2 ∨ k = 3) with rfl | rfl | rfl
    · go_wp2_with (first
        | (go_at_call 22; (with_reducible refine (HK1.out 1 (by omega) _ hB).mono ?_); go_must (rintro e w2 ⟨v, rfl, hx, hb1⟩; obtain ⟨Ax, cx, rfl, rx, _, _⟩ := hx.form; clear hx; rw [HL1.out 1] at rx ⊢; (try (first | replace c1 := kept c1 rfl hb1 | replace c1 := keptD c1 rfl hb1 | replace c1 := keptN c1 rfl hb1)); (try (first | replace c2 := kept c2 rfl hb1 | replace c2 := keptD c2 rfl hb1 | replace c2 := keptN c2 rfl hb1)); (try (first | replace c3 := kept c3 rfl hb1 | replace c3 := keptD c3 rfl hb1 | replace c3 := keptN c3 rfl hb1)); (first | replace hB := bstep hB hb1 (Nat.le_refl _) | replace hB := bstep hB.drew hb1 (Nat.le_refl _) | replace hB := bstep (bdrewN hB _) hb1 (Nat.le_refl _)); clear hb1))
        | (go_at_call 22; (with_reducible refine (HK2.out 1 (by omega) _ hB).mono ?_); go_must (rintro e w3 ⟨v, rfl, hx, hb1⟩; obtain ⟨Ay, cy, rfl, ry, _, _⟩ := hx.form; clear hx; rw [HL2.out 1] at ry ⊢; replace rx := rx.later hb1; (try (first | replace c1 := kept c1 rfl hb1 | replace c1 := keptD c1 rfl hb1 | replace c1 := keptN c1 rfl hb1)); (try (first | replace c2 := kept c2 rfl hb1 | replace c2 := keptD c2 rfl hb1 | replace c2 := keptN c2 rfl hb1)); (try (first | replace c3 := kept c3 rfl hb1 | replace c3 := keptD c3 rfl hb1 | replace c3 := keptN c3 rfl hb1)); (first | replace hB := bstep hB hb1 (Nat.le_refl _) | replace hB := bstep hB.drew hb1 (Nat.le_refl _) | replace hB := bstep (bdrewN hB _) hb1 (Nat.le_refl _)); clear hb1))
        | (go_at_call 22; (with_reducible refine (HK3.out 1 (by omega) _ hB).mono ?_); go_must (rintro e w4 ⟨v, rfl, hx, hb1⟩; obtain ⟨Az, cz, rfl, rz, _, _⟩ := hx.form; clear hx; rw [HL3.out 1] at rz ⊢; replace rx := rx.later hb1; replace ry := ry.later hb1; (try (first | replace c1 := kept c1 rfl hb1 | replace c1 := keptD c1 rfl hb1 | replace c1 := keptN c1 rfl hb1)); (try (first | replace c2 := kept c2 rfl hb1 | replace c2 := keptD c2 rfl hb1 | replace c2 := keptN c2 rfl hb1)); (try (first | replace c3 := kept c3 rfl hb1 | replace c3 := keptD c3 rfl hb1 | replace c3 := keptN c3 rfl hb1)); (first | replace hB := bstep hB hb1 (Nat.le_refl _) | replace hB := bstep hB.drew hb1 (Nat.le_refl _) | replace hB := bstep (bdrewN hB _) hb1 (Nat.le_refl _)); clear hb1)))
      rename_i wo
      go_loopw [14] (fun i wr => ∃ j : Nat, j ≤ n ∧ i = .int .i64 j ∧ RdB wr wr.heap.size Ax n (deltaB 1 xs ys) ∧ RdB wr wr.heap.size Ay n (deltaB 1 ys zs) ∧ RdB wr wr.heap.size Az n (deltaB 1 xs zs) ∧ (∀ i, wr.cell? ⟨w.heap.size, i, none⟩ = r5 (.int .i64 W) (.int .i64 H) (.int .i64 C) (.int .i64 D) (.slice A n a) i) ∧ (∀ i, wr.cell? ⟨w.heap.size + 1, i, none⟩ = r5 (.int .i64 W) (.int .i64 H) (.int .i64 C) (.int .i64 D) (.slice A' n a') i) ∧ (∀ i, wr.cell? ⟨w.heap.size + 1 + 1, i, none⟩ = r5 (.int .i64 W) (.int .i64 H) (.int .i64 C) (.int .i64 D) (.slice A'' n a'') i) ∧ Below w.heap.size w wr)
        (fun i _ => n - (intOf i).toNat)
      case atStart => exact ⟨0, Nat.zero_le _, rfl, rx, ry, rz, c1, c2, c3, hB⟩
      case round =>
        clear c1 c2 c3 hB rx ry rz
        obtain ⟨j, hj, rfl, rx, ry, rz, c1, c2, c3, hB⟩ := hrel
        by_cases hlt : j < n
        · obtain ⟨b, o, x, rfl, hbo, hx, cx⟩ := rx.byte hlt
          obtain ⟨b', o', y, rfl, hbo', hy, cy⟩ := ry.byte hlt
          obtain ⟨b'', o'', z, rfl, hbo'', hz, cz⟩ := rz.byte hlt
          obtain rfl := (chain_at hx.out hy.out hz.out).1 rfl
          clear hx hy hz
          go_wp2
          go_quiet (fail)
          go_wp2
          go_roundw
          case rel => exact ⟨j + 1, by omega, by go_num, Rd.drewN rx _, Rd.drewN ry _, Rd.drewN rz _, c1, c2, c3, bdrewN hB _⟩
          case measure => simp [intOf]; omega
        · obtain rfl : j = n := by omega
          go_wp2
          go_roundw
          case rel => exact ⟨2, by omega, rfl, c1, c2, c3, hB⟩
          case measure => simp [intOf]
    · go_wp2_with (first
        | (go_at_call 22; (with_reducible refine (HK1.out 2 (by omega) _ hB).mono ?_); go_must (rintro e w2 ⟨v, rfl, hx, hb1⟩; obtain ⟨Ax, cx, rfl, rx, _, _⟩ := hx.form; clear hx; rw [HL1.out 2] at rx ⊢; (try (first | replace c1 := kept c1 rfl hb1 | replace c1 := keptD c1 rfl hb1 | replace c1 := keptN c1 rfl hb1)); (try (first | replace c2 := kept c2 rfl hb1 | replace c2 := keptD c2 rfl hb1 | replace c2 := keptN c2 rfl hb1)); (try (first | replace c3 := kept c3 rfl hb1 | replace c3 := keptD c3 rfl hb1 | replace c3 := keptN c3 rfl hb1)); (first | replace hB := bstep hB hb1 (Nat.le_refl _) | replace hB := bstep hB.drew hb1 (Nat.le_refl _) | replace hB := bstep (bdrewN hB _) hb1 (Nat.le_refl _)); clear hb1))
        | (go_at_call 22; (with_reducible refine (HK2.out 2 (by omega) _ hB).mono ?_); go_must (rintro e w3 ⟨v, rfl, hx, hb1⟩; obtain ⟨Ay, cy, rfl, ry, _, _⟩ := hx.form; clear hx; rw [HL2.out 2] at ry ⊢; replace rx := rx.later hb1; (try (first | replace c1 := kept c1 rfl hb1 | replace c1 := keptD c1 rfl hb1 | replace c1 := keptN c1 rfl hb1)); (try (first | replace c2 := kept c2 rfl hb1 | replace c2 := keptD c2 rfl hb1 | replace c2 := keptN c2 rfl hb1)); (try (first | replace c3 := kept c3 rfl hb1 | replace c3 := keptD c3 rfl hb1 | replace c3 := keptN c3 rfl hb1)); (first | replace hB := bstep hB hb1 (Nat.le_refl _) | replace hB := bstep hB.drew hb1 (Nat.le_refl _) | replace hB := bstep (bdrewN hB _) hb1 (Nat.le_refl _)); clear hb1))
        | (go_at_call 22; (with_reducible refine (HK3.out 2 (by omega) _ hB).mono ?_); go_must (rintro e w4 ⟨v, rfl, hx, hb1⟩; obtain ⟨Az, cz, rfl, rz, _, _⟩ := hx.form; clear hx; rw [HL3.out 2] at rz ⊢; replace rx := rx.later hb1; replace ry := ry.later hb1; (try (first | replace c1 := kept c1 rfl hb1 | replace c1 := keptD c1 rfl hb1 | replace c1 := keptN c1 rfl hb1)); (try (first | replace c2 := kept c2 rfl hb1 | replace c2 := keptD c2 rfl hb1 | replace c2 := keptN c2 rfl hb1)); (try (first | replace c3 := kept c3 rfl hb1 | replace c3 := keptD c3 rfl hb1 | replace c3 := keptN c3 rfl hb1)); (first | replace hB := bstep hB hb1 (Nat.le_refl _) | replace hB := bstep hB.drew hb1 (Nat.le_refl _) | replace hB := bstep (bdrewN hB _) hb1 (Nat.le_refl _)); clear hb1)))
      rename_i wo
      go_loopw [14] (fun i wr => ∃ j : Nat, j ≤ n ∧ i = .int .i64 j ∧ RdB wr wr.heap.size Ax n (deltaB 2 xs ys) ∧ RdB wr wr.heap.size Ay n (deltaB 2 ys zs) ∧ RdB wr wr.heap.size Az n (deltaB 2 xs zs) ∧ (∀ i, wr.cell? ⟨w.heap.size, i, none⟩ = r5 (.int .i64 W) (.int .i64 H) (.int .i64 C) (.int .i64 D) (.slice A n a) i) ∧ (∀ i, wr.cell? ⟨w.heap.size + 1, i, none⟩ = r5 (.int .i64 W) (.int .i64 H) (.int .i64 C) (.int .i64 D) (.slice A' n a') i) ∧ (∀ i, wr.cell? ⟨w.heap.size + 1 + 1, i, none⟩ = r5 (.int .i64 W) (.int .i64 H) (.int .i64 C) (.int .i64 D) (.slice A'' n a'') i) ∧ Below w.heap.size w wr)
        (fun i _ => n - (intOf i).toNat)
      case atStart => exact ⟨0, Nat.zero_le _, rfl, rx, ry, rz, c1, c2, c3, hB⟩
      case round =>
        clear c1 c2 c3 hB rx ry rz
        obtain ⟨j, hj, rfl, rx, ry, rz, c1, c2, c3, hB⟩ := hrel
        by_cases hlt : j < n
        · obtain ⟨b, o, x, rfl, hbo, hx, cx⟩ := rx.byte hlt
          obtain ⟨b', o', y, rfl, hbo', hy, cy⟩ := ry.byte hlt
          obtain ⟨b'', o'', z, rfl, hbo'', hz, cz⟩ := rz.byte hlt
          obtain rfl := (chain_at hx.out hy.out hz.out).2 rfl
          clear hx hy hz
          go_wp2
          go_quiet (fail)
          go_wp2
          go_roundw
          case rel => exact ⟨j + 1, by omega, by go_num, Rd.drewN rx _, Rd.drewN ry _, Rd.drewN rz _, c1, c2, c3, bdrewN hB _⟩
          case measure => simp [intOf]; omega
        · obtain rfl : j = n := by omega
          go_wp2
          go_roundw
          case rel => exact ⟨3, by omega, rfl, c1, c2, c3, hB⟩
          case measure => simp [intOf]
    · go_wp2_with (first
        | (go_at_call 19; (with_reducible refine (first11_any _).mono ?_); go_must (rintro e w1 ⟨rfl, hb1⟩; first | (have _t := c1; (try (first | replace c1 := kept c1 rfl hb1 | replace c1 := keptD c1 rfl hb1 | replace c1 := keptN c1 rfl hb1)); (try (first | replace c2 := kept c2 rfl hb1 | replace c2 := keptD c2 rfl hb1 | replace c2 := keptN c2 rfl hb1)); (try (first | replace c3 := kept c3 rfl hb1 | replace c3 := keptD c3 rfl hb1 | replace c3 := keptN c3 rfl hb1)); (first | replace hB := bstep hB hb1 (Nat.le_refl _) | replace hB := bstep hB.drew hb1 (Nat.le_refl _) | replace hB := bstep (bdrewN hB _) hb1 (Nat.le_refl _)); clear hb1) | (have c3 := box5 hb1; rw [World.size_alloc, World.size_alloc] at c3; replace hb1 := bxd hb1; have c2 := box5 hb1; rw [World.size_alloc] at c2; replace hb1 := bxd hb1; have c1 := box5 hb1; replace hB := bxd hb1; clear hb1))))
      go_ret
      exact ⟨rfl, hB⟩

end Go.Proofs.Ytcgpeijmmongoaa
