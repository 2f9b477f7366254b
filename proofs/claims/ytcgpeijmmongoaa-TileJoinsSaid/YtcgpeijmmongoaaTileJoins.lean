/- The walk of TileJoins. -/
import Derived.Test.YtcgpeijmmongoaaJoin9
namespace Go.Proofs.Ytcgpeijmmongoaa
set_option linter.all false
open Go.RowKit

theorem join9_any (s : Sh) (B n c : Nat) (A : Option Addr) (l : List Ra) (w : World) (hr : RdR w B A n l) (hB1 : B ≤ w.heap.size) (hc : n ≤ c) (hmx : c ≤ maxLen) :
    Calls Try.prog 32 #[s.v, .slice A n c] w fun e w' => ∃ A' n' c', e = .returned (.tuple #[(s.joinR l).1.r A' n' c', .int .i64 (s.joinE l)]) ∧ ownB w' w.heap.size (.slice A' n' c') (s.joinR l).2 ∧ Below w.heap.size w w' := by
  have hl := hr.len
  cases hm : s.may with
  | false =>
    have HE : s.joinE l = 4 := by unfold Sh.joinE; rw [hm]; rfl
    have HJ : s.joinR l = (⟨0, 0, 0, 0⟩, []) := by unfold Sh.joinR; rw [if_neg (by rw [HE]; decide)]
    rw [HE, HJ]
    refine (join9_early s n c A w 4 (.inl ⟨hm, rfl⟩)).mono ?_
    rintro e w' ⟨rfl, hb⟩
    exact ⟨_, _, _, rfl, ownB.nil_ _ _, hb⟩
  | true =>
    by_cases hn : (n : Int) = s.gw * s.gh
    · exact join9_loop s B n c A l w hr hB1 hc hmx hm hn
    · have HE : s.joinE l = 1 := by unfold Sh.joinE; rw [hm, if_pos rfl, if_neg (by rw [hl]; exact hn)]
      have HJ : s.joinR l = (⟨0, 0, 0, 0⟩, []) := by unfold Sh.joinR; rw [if_neg (by rw [HE]; decide)]
      rw [HE, HJ]
      refine (join9_early s n c A w 1 (.inr ⟨hm, hn, rfl⟩)).mono ?_
      rintro e w' ⟨rfl, hb⟩
      exact ⟨_, _, _, rfl, ownB.nil_ _ _, hb⟩

set_option maxRecDepth 100000 in
set_option maxHeartbeats 6400000 in
theorem tileJoins_walk (s : Sh) (A : Option Addr) (n c : Nat) (l : List Ra) (w : World) (h1 : RdR w w.heap.size A n l) (l1 : n ≤ c) (m1 : c ≤ maxLen) :
    Calls Try.prog 6 #[s.v, .slice A n c] w fun e w' => e = .returned (.bool true) ∧ Below w.heap.size w w' := by
  have hB := Below.refl w.heap.size w
  have HJ := Lib.hid (fun (w' : World) (hb : Below w.heap.size w w') => join_any s w.heap.size n c A l w' (h1.blw hb) hb.size l1 m1)
  have HJ9 := Lib.hid (fun (w' : World) (hb : Below w.heap.size w w') => join9_any s w.heap.size n c A l w' (h1.blw hb) hb.size l1 m1)
  have HH := Lib.hid h1
  have HL := Lib.hid h1.len
  have m1 : c ≤ 9223372036854775807 := (by unfold maxLen at m1; omega)
  clear h1
  generalize (s.joinR l).2 = X at HJ HJ9
  generalize hq : (s.joinR l).1 = p at HJ HJ9
  generalize s.joinE l = E at HJ HJ9
  have HSP := Lib.hid (fun (B n c B' n' c' : Nat) (A A' : Option Addr) (w : World) (h : RdB w B A n X) (h' : RdB w B' A' n' X) (hB1 : B ≤ w.heap.size) (hB2 : B' ≤ w.heap.size) => sameR_any p p B n c B' n' c' A A' X X w h h' hB1 hB2)
  have e0 : (decide (p = p) && (X == X)) = true := by simp
  rw [e0] at HSP
  clear hq e0
  dsimp only [Sh.r, Sh.v] at *
  go_enter Try.func6, Try.ntmps6
  go_wp2_with (first
    | (go_at_call 15; (with_reducible refine (first10_any _).mono ?_); go_must (rintro e w1 ⟨rfl, hb1⟩; first | (have _t := c1; (try (have py := box5 hb1; replace hb1 := bxd hb1)); (try replace c1 := kept c1 rfl hb1); (try replace px := kept px rfl hb1); (try replace py := kept py rfl hb1); (try replace rx := rx.later hb1); (try replace ry := ry.later hb1); replace hB := bstep hB hb1 (Nat.le_refl _); clear hb1) | (have c1 := box4 hb1; replace hB := bxd hb1; clear hb1))))
  go_loopw [5, 6] (fun v i wr => ∃ (k : Nat) (z : Int), k ≤ n ∧ i = .int .i64 k ∧ v = .int .i64 z ∧ 0 ≤ z ∧ z ≤ 80000 ∧ (∀ i, wr.cell? ⟨w.heap.size, i, none⟩ = s4 (.int .i64 s.w) (.int .i64 s.h) (.int .i64 s.c) (.int .i64 s.d) i) ∧ Below w.heap.size w wr)
    (fun _ i _ => n - (intOf i).toNat)
  case atStart => exact ⟨0, 0, Nat.zero_le _, rfl, rfl, by omega, by omega, c1, hB⟩
  case round =>
    clear c1 hB
    obtain ⟨k, z, hk, rfl, rfl, z0, z1, c1, hB⟩ := hrel
    by_cases hlt : k < n ∧ k < 1100
    · obtain ⟨hl1, hl2⟩ := hlt
      have hl3 : (k : Int) < 1100 := (by omega)
      have hl4 : (k : Int) < (n : Int) := (by omega)
      have hkl : k < l.length := by rw [HL.out]; exact hl1
      obtain ⟨b, o, rfl, -, HE⟩ := (HH.out.blw hB).cell5 hkl
      unfold Cell5 at HE
      obtain ⟨-, -, -, -, e4⟩ := HE
      generalize l[k].n = xn at e4
      generalize l[k].A = xA at e4
      generalize l[k].c = xc at e4
      clear hkl
      by_cases q1 : (xn : Int) < 20001
      · by_cases q2 : z + (xn : Int) < 80000
        · go_wp2_with fail
          go_roundw
          case rel => with_reducible exact ⟨k + 1, z + xn, by omega, by go_num, congrArg (Value.int IntKind.i64) (by (repeat' split) <;> omega), by omega, by omega, c1, hB⟩
          case measure => simp [intOf]; omega
        · go_wp2_with fail
          go_roundw
          case rel => with_reducible exact ⟨k + 1, 80000, by omega, by go_num, congrArg (Value.int IntKind.i64) (by (repeat' split) <;> omega), by omega, by omega, c1, hB⟩
          case measure => simp [intOf]; omega
      · by_cases q2 : z + 20001 < 80000
        · go_wp2_with fail
          go_roundw
          case rel => with_reducible exact ⟨k + 1, z + 20001, by omega, by go_num, congrArg (Value.int IntKind.i64) (by (repeat' split) <;> omega), by omega, by omega, c1, hB⟩
          case measure => simp [intOf]; omega
        · go_wp2_with fail
          go_roundw
          case rel => with_reducible exact ⟨k + 1, 80000, by omega, by go_num, congrArg (Value.int IntKind.i64) (by (repeat' split) <;> omega), by omega, by omega, c1, hB⟩
          case measure => simp [intOf]; omega
    · have hqq : (1100 : Int) < (n : Int) ∨ (¬ (1100 : Int) < (n : Int) ∧ 20000 < z) ∨ (¬ (1100 : Int) < (n : Int) ∧ ¬ 20000 < z) := by omega
      have hq0 : (¬ (k : Int) < (n : Int)) ∨ ((k : Int) < (n : Int) ∧ ¬ (k : Int) < 1100) := by omega
      clear hlt
      have hqa : ((k : Int) < (n : Int) ∧ ¬ (k : Int) < 1100 ∧ (1100 : Int) < (n : Int)) ∨ (¬ (k : Int) < (n : Int) ∧ (1100 : Int) < (n : Int)) ∨ (¬ (k : Int) < (n : Int) ∧ ¬ (1100 : Int) < (n : Int) ∧ 20000 < z) ∨ (¬ (k : Int) < (n : Int) ∧ ¬ (1100 : Int) < (n : Int) ∧ ¬ 20000 < z) := by omega
      clear hqq hq0
      rcases hqa with ⟨q0, q3, q1⟩ | ⟨q0, q1⟩ | ⟨q0, q1, q2⟩ | ⟨q0, q1, q2⟩
      all_goals
        go_wp2_with (first
          | (go_at_call 15; (with_reducible refine (first10_any _).mono ?_); go_must (rintro e w1 ⟨rfl, hb1⟩; first | (have _t := c1; (try (have py := box5 hb1; replace hb1 := bxd hb1)); (try replace c1 := kept c1 rfl hb1); (try replace px := kept px rfl hb1); (try replace py := kept py rfl hb1); (try replace rx := rx.later hb1); (try replace ry := ry.later hb1); replace hB := bstep hB hb1 (Nat.le_refl _); clear hb1) | (have c1 := box4 hb1; replace hB := bxd hb1; clear hb1)))
          | (go_at_call 31; (with_reducible refine (HJ.out _ hB).mono ?_); go_must (rintro e w2 ⟨A2, n2, k2, rfl, hx, hb1⟩; (try replace c1 := kept c1 rfl hb1); (try replace px := kept px rfl hb1); (try replace py := kept py rfl hb1); (try replace rx := rx.later hb1); (try replace ry := ry.later hb1); replace hB := bstep hB hb1 (Nat.le_refl _); have rx := hx.rd; clear hx hb1; have q7 : w.heap.size < w2.heap.size := ltOf c1 rfl; have q7n : ¬ w.heap.size = w2.heap.size := Nat.ne_of_lt q7))
          | (go_at_call 32; (with_reducible refine (HJ9.out _ (hB.alloc hB.size _)).mono ?_); go_must (rintro e w3 ⟨A3, n3, k3, rfl, hx, hb1⟩; (try (have px := box5 hb1; replace hb1 := bxd hb1)); (try replace c1 := kept c1 rfl hb1); (try replace px := kept px rfl hb1); (try replace py := kept py rfl hb1); (try replace rx := rx.later hb1); (try replace ry := ry.later hb1); replace hB := bstep hB hb1 (Nat.le_refl _); have ry := hx.rd; clear hx hb1))
          | (go_at_call 30; (with_reducible refine (HSP.out _ _ _ _ _ _ _ _ _ rx ry (Nat.le_refl _) (Nat.le_refl _)).mono ?_); go_must (rintro e w4 ⟨rfl, hb1⟩; (try replace c1 := kept c1 rfl hb1); (try replace px := kept px rfl hb1); (try replace py := kept py rfl hb1); (try replace rx := rx.later hb1); (try replace ry := ry.later hb1); replace hB := bstep hB hb1 (Nat.le_refl _); clear hb1)))
        all_goals (go_ret; exact ⟨ret_bool (by first | rfl | simp), hB⟩)

end Go.Proofs.Ytcgpeijmmongoaa
