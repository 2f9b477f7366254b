/- The walk of PixBytes. -/
import Derived.Test.YtcgpeijmmongoaaPixFirst
import Derived.Test.YtcgpeijmmongoaaDec2
import Derived.Test.YtcgpeijmmongoaaDec4
namespace Go.Proofs.Ytcgpeijmmongoaa
set_option linter.all false
open Go.RowKit

set_option maxHeartbeats 1600000 in
theorem pixBytes_early (s : Sh) (A : Option Addr) (n c : Nat) (A' : Option Addr) (n' c' : Nat) (w : World) (h : n ≤ 20000 → ¬ n' ≤ 20000) :
    Calls Try.prog 10 #[s.r A n c, .slice A' n' c'] w fun e w' => e = .returned (.bool true) ∧ Below w.heap.size w w' := by
  have hB := Below.refl w.heap.size w
  have HF := Lib.hid (fun w => few_any s A n c w)
  obtain ⟨W, H, C, D⟩ := s
  dsimp only [Sh.r] at HF ⊢
  by_cases h0 : n ≤ 20000
  · have h1 := h h0
    have HV := Lib.hid (show decide (n ≤ 20000) = true by simpa using h0)
    clear h
    go_enter Try.func10, Try.ntmps10
    go_wp2_with (first
      | (go_at_call 33; (with_reducible refine (first_any _).mono ?_); go_must (rintro e w1 ⟨rfl, hb1⟩; first | (have _t := c1; (try (have qb := box5 hb1; replace hb1 := bxd hb1)); (try replace c1 := kept c1 rfl hb1); (try replace pb := kept pb rfl hb1); (try replace qb := kept qb rfl hb1); (try replace ri := ri.later hb1); (try replace rx := rx.later hb1); (try replace ry := ry.later hb1); (try replace rp := rp.later hb1); (try replace rq := rq.later hb1); replace hB := bstep hB hb1 (Nat.le_refl _); clear hb1) | (have c1 := box5 hb1; replace hB := bxd hb1; clear hb1)))
      | (go_at_call 23; (with_reducible refine (HF.out _).mono ?_); go_must (rintro e w1 ⟨rfl, hb1⟩; rw [HV.out]; (try replace c1 := kept c1 rfl hb1); (try replace pb := kept pb rfl hb1); (try replace qb := kept qb rfl hb1); (try replace ri := ri.later hb1); (try replace rx := rx.later hb1); (try replace ry := ry.later hb1); (try replace rp := rp.later hb1); (try replace rq := rq.later hb1); replace hB := bstep hB hb1 (Nat.le_refl _); clear hb1)))
    go_ret
    exact ⟨rfl, hB⟩
  · have HV := Lib.hid (show decide (n ≤ 20000) = false by simpa using h0)
    clear h
    go_enter Try.func10, Try.ntmps10
    go_wp2_with (first
      | (go_at_call 33; (with_reducible refine (first_any _).mono ?_); go_must (rintro e w1 ⟨rfl, hb1⟩; first | (have _t := c1; (try (have qb := box5 hb1; replace hb1 := bxd hb1)); (try replace c1 := kept c1 rfl hb1); (try replace pb := kept pb rfl hb1); (try replace qb := kept qb rfl hb1); (try replace ri := ri.later hb1); (try replace rx := rx.later hb1); (try replace ry := ry.later hb1); (try replace rp := rp.later hb1); (try replace rq := rq.later hb1); replace hB := bstep hB hb1 (Nat.le_refl _); clear hb1) | (have c1 := box5 hb1; replace hB := bxd hb1; clear hb1)))
      | (go_at_call 23; (with_reducible refine (HF.out _).mono ?_); go_must (rintro e w1 ⟨rfl, hb1⟩; rw [HV.out]; (try replace c1 := kept c1 rfl hb1); (try replace pb := kept pb rfl hb1); (try replace qb := kept qb rfl hb1); (try replace ri := ri.later hb1); (try replace rx := rx.later hb1); (try replace ry := ry.later hb1); (try replace rp := rp.later hb1); (try replace rq := rq.later hb1); replace hB := bstep hB hb1 (Nat.le_refl _); clear hb1)))
    go_ret
    exact ⟨rfl, hB⟩

set_option maxRecDepth 100000 in
set_option maxHeartbeats 6400000 in
theorem pixBytes_main (s : Sh) (A : Option Addr) (n c : Nat) (A' : Option Addr) (n' c' : Nat) (bs ds : List UInt8) (w : World) (h1 : RdB w w.heap.size A n bs) (h2 : RdB w w.heap.size A' n' ds)
    (l2 : n' ≤ c') (m2 : c' ≤ maxLen) (h0 : n ≤ 20000) (h0' : n' ≤ 20000) :
    Calls Try.prog 10 #[s.r A n c, .slice A' n' c'] w fun e w' => e = .returned (.bool true) ∧ Below w.heap.size w w' := by
  have hB := Below.refl w.heap.size w
  have HF := Lib.hid (fun w => few_any s A n c w)
  have HV := Lib.hid (show decide (n ≤ 20000) = true by simpa using h0)
  have HE1 := Lib.hid (fun (w' : World) (hb : Below w.heap.size w w') => encode_any s w.heap.size A n c bs w' (h1.blw hb) hb.size)
  have HE2 := Lib.hid (fun (w' : World) (hb : Below w.heap.size w w') => encode9_any s w.heap.size A n c bs w' (h1.blw hb) hb.size)
  have HD2 := Lib.hid (fun (w' : World) (hb : Below w.heap.size w w') => decode9_any w.heap.size n' c' A' ds w' (h2.blw hb) hb.size l2 m2 (by omega))
  have HC := Lib.hid (fun (w' : World) (hb : Below w.heap.size w w') => copyB_any w.heap.size n' c' A' ds w' (h2.blw hb) (by omega))
  have HD1 := Lib.hid (fun (w' : World) (n c : Nat) (A : Option Addr) (hl : n ≤ 20000) (h : RdB w' w'.heap.size A n ds) (hc : n ≤ c) (hm : c ≤ maxLen) => decode_any w'.heap.size n c A ds w' h (Nat.le_refl _) hc hm (by omega))
  have HN := Lib.hid h2.len
  have HL : Hid (ds.length ≤ 20000) := by show _ ≤ _; rw [h2.len]; exact h0'
  have H2 := Lib.hid h2
  clear h1 l2 m2 h2
  generalize (s.enc bs).2 = E1 at HE1 HE2
  generalize (s.enc bs).1 = X at HE1 HE2
  generalize (decS ds).1 = ps at HD1 HD2
  generalize (decS ds).2 = P at HD1 HD2
  generalize decE ds = E2 at HD1 HD2
  obtain ⟨W, H, C, D⟩ := s
  obtain ⟨pW, pH, pC, pD⟩ := ps
  dsimp only [Sh.r] at HF HE1 HE2 HD1 HD2 ⊢
  go_enter Try.func10, Try.ntmps10
  go_wp2_with (first
    | (go_at_call 33; (with_reducible refine (first_any _).mono ?_); go_must (rintro e w1 ⟨rfl, hb1⟩; first | (have _t := c1; (try (have qb := box5 hb1; replace hb1 := bxd hb1)); (try replace c1 := kept c1 rfl hb1); (try replace pb := kept pb rfl hb1); (try replace qb := kept qb rfl hb1); (try replace ri := ri.later hb1); (try replace rx := rx.later hb1); (try replace ry := ry.later hb1); (try replace rp := rp.later hb1); (try replace rq := rq.later hb1); replace hB := bstep hB hb1 (Nat.le_refl _); clear hb1) | (have c1 := box5 hb1; replace hB := bxd hb1; clear hb1)))
    | (go_at_call 23; (with_reducible refine (HF.out _).mono ?_); go_must (rintro e w1 ⟨rfl, hb1⟩; rw [HV.out]; (try replace c1 := kept c1 rfl hb1); (try replace pb := kept pb rfl hb1); (try replace qb := kept qb rfl hb1); (try replace ri := ri.later hb1); (try replace rx := rx.later hb1); (try replace ry := ry.later hb1); (try replace rp := rp.later hb1); (try replace rq := rq.later hb1); replace hB := bstep hB hb1 (Nat.le_refl _); clear hb1))
    | (go_at_call 43; (with_reducible refine (HC.out _ hB).mono ?_); go_must (rintro e w2 ⟨v, rfl, hx, hb1⟩; obtain ⟨Ai, ci, rfl, ri, li, mi⟩ := hx.form; clear hx; (try replace c1 := kept c1 rfl hb1); (try replace pb := kept pb rfl hb1); (try replace qb := kept qb rfl hb1); (try replace ri := ri.later hb1); (try replace rx := rx.later hb1); (try replace ry := ry.later hb1); (try replace rp := rp.later hb1); (try replace rq := rq.later hb1); replace hB := bstep hB hb1 (Nat.le_refl _); clear hb1))
    | (go_at_call 44; (with_reducible refine (HE1.out _ hB).mono ?_); go_must (rintro e w3 ⟨v, rfl, hx, hb1⟩; (try replace c1 := kept c1 rfl hb1); (try replace pb := kept pb rfl hb1); (try replace qb := kept qb rfl hb1); (try replace ri := ri.later hb1); (try replace rx := rx.later hb1); (try replace ry := ry.later hb1); (try replace rp := rp.later hb1); (try replace rq := rq.later hb1); replace hB := bstep hB hb1 (Nat.le_refl _); obtain ⟨Ax, cx, rfl, rx, _, _⟩ := hx.form; clear hx hb1))
    | (go_at_call 45; (with_reducible refine (HE2.out _ hB).mono ?_); go_must (rintro e w4 ⟨v, rfl, hx, hb1⟩; (try replace c1 := kept c1 rfl hb1); (try replace pb := kept pb rfl hb1); (try replace qb := kept qb rfl hb1); (try replace ri := ri.later hb1); (try replace rx := rx.later hb1); (try replace ry := ry.later hb1); (try replace rp := rp.later hb1); (try replace rq := rq.later hb1); replace hB := bstep hB hb1 (Nat.le_refl _); obtain ⟨Ay, cy, rfl, ry, _, _⟩ := hx.form; clear hx hb1))
    | (go_at_call 46; (with_reducible refine (HD1.out _ _ _ _ HL.out ri li mi).mono ?_); go_must (rintro e w5 ⟨Ap, np, cp, rfl, hx, hb1⟩; (try replace c1 := kept c1 rfl hb1); (try replace pb := kept pb rfl hb1); (try replace qb := kept qb rfl hb1); (try replace ri := ri.later hb1); (try replace rx := rx.later hb1); (try replace ry := ry.later hb1); (try replace rp := rp.later hb1); (try replace rq := rq.later hb1); replace hB := bstep hB hb1 (Nat.le_refl _); have rp := hx.rd; clear hx hb1))
    | (go_at_call 47; (with_reducible refine (HD2.out _ (hB.alloc hB.size _)).mono ?_); go_must (rintro e w6 ⟨Aq, nq, cq, rfl, hx, hb1⟩; (try (have pb := box5 hb1; replace hb1 := bxd hb1)); (try replace c1 := kept c1 rfl hb1); (try replace pb := kept pb rfl hb1); (try replace qb := kept qb rfl hb1); (try replace ri := ri.later hb1); (try replace rx := rx.later hb1); (try replace ry := ry.later hb1); (try replace rp := rp.later hb1); (try replace rq := rq.later hb1); replace hB := bstep hB hb1 (Nat.le_refl _); have rq := hx.rd; clear hx hb1))
    | (go_at_call 42; (with_reducible refine (bytes_any _ _ _ _ _ _ _ _ _ _ _ rx ry).mono ?_); go_must (rintro e w7 ⟨rfl, rfl⟩))
    | (go_at_call 42; (with_reducible refine (bytes_any _ _ _ _ _ _ _ _ _ _ _ ri (H2.out.blw hB)).mono ?_); go_must (rintro e w8 ⟨rfl, rfl⟩))
    | (go_at_call 30; go_must (refine (sameR_any ⟨pW, pH, pC, pD⟩ ⟨pW, pH, pC, pD⟩ _ _ _ _ _ _ _ _ _ _ _ rp rq (Nat.le_refl _) (Nat.le_refl _)).mono ?_; rintro e w9 ⟨rfl, hb1⟩; (try replace c1 := kept c1 rfl hb1); (try replace pb := kept pb rfl hb1); (try replace qb := kept qb rfl hb1); (try replace ri := ri.later hb1); (try replace rx := rx.later hb1); (try replace ry := ry.later hb1); (try replace rp := rp.later hb1); (try replace rq := rq.later hb1); replace hB := bstep hB hb1 (Nat.le_refl _); clear hb1)))
  go_ret
  exact ⟨ret_bool (by first | rfl | simp), hB⟩

theorem pixBytes_walk (s : Sh) (A : Option Addr) (n c : Nat) (A' : Option Addr) (n' c' : Nat) (bs ds : List UInt8) (w : World) (h1 : RdB w w.heap.size A n bs) (h2 : RdB w w.heap.size A' n' ds) (l2 : n' ≤ c') (m2 : c' ≤ maxLen) :
    Calls Try.prog 10 #[s.r A n c, .slice A' n' c'] w fun e w' => e = .returned (.bool true) ∧ Below w.heap.size w w' := by
  by_cases h : n ≤ 20000 ∧ n' ≤ 20000
  · exact pixBytes_main s A n c A' n' c' bs ds w h1 h2 l2 m2 h.1 h.2
  · exact pixBytes_early s A n c A' n' c' w (fun a b => h ⟨a, b⟩)

end Go.Proofs.Ytcgpeijmmongoaa
