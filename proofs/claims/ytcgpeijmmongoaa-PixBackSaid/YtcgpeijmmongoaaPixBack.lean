/- The walk of PixBack. -/
import Derived.Test.YtcgpeijmmongoaaPixFirst
import Derived.Test.YtcgpeijmmongoaaPixBackPure
import Derived.Test.YtcgpeijmmongoaaDec4
namespace Go.Proofs.Ytcgpeijmmongoaa
set_option linter.all false
open Go.RowKit

set_option maxHeartbeats 1600000 in
theorem pixBack_early (s : Sh) (A : Option Addr) (n c : Nat) (A' : Option Addr) (n' c' : Nat) (w : World) (h : n ≤ 20000 → ¬ n' ≤ 20000) :
    Calls Try.prog 11 #[s.r A n c, .slice A' n' c'] w fun e w' => e = .returned (.bool true) ∧ Below w.heap.size w w' := by
  have hB := Below.refl w.heap.size w
  have HF := Lib.hid (fun w => few_any s A n c w)
  obtain ⟨W, H, C, D⟩ := s
  dsimp only [Sh.r] at HF ⊢
  by_cases h0 : n ≤ 20000
  · have h1 := h h0
    have HV := Lib.hid (show decide (n ≤ 20000) = true by simpa using h0)
    clear h
    go_enter Try.func11, Try.ntmps11
    go_wp2_with (first
      | (go_at_call 33; (with_reducible refine (first_any _).mono ?_); go_must (rintro e w1 ⟨rfl, hb1⟩; first | (have _t := c1; (try (have qb := box5 hb1; replace hb1 := bxd hb1)); (try replace c1 := kept c1 rfl hb1); (try replace pb := kept pb rfl hb1); (try replace qb := kept qb rfl hb1); (try replace ri := ri.later hb1); (try replace rx := rx.later hb1); (try replace ry := ry.later hb1); (try replace rp := rp.later hb1); (try replace rq := rq.later hb1); replace hB := bstep hB hb1 (Nat.le_refl _); clear hb1) | (have c1 := box5 hb1; replace hB := bxd hb1; clear hb1)))
      | (go_at_call 23; (with_reducible refine (HF.out _).mono ?_); go_must (rintro e w1 ⟨rfl, hb1⟩; rw [HV.out]; (try replace c1 := kept c1 rfl hb1); (try replace pb := kept pb rfl hb1); (try replace qb := kept qb rfl hb1); (try replace ri := ri.later hb1); (try replace rx := rx.later hb1); (try replace ry := ry.later hb1); (try replace rp := rp.later hb1); (try replace rq := rq.later hb1); replace hB := bstep hB hb1 (Nat.le_refl _); clear hb1)))
    go_ret
    exact ⟨rfl, hB⟩
  · have HV := Lib.hid (show decide (n ≤ 20000) = false by simpa using h0)
    clear h
    go_enter Try.func11, Try.ntmps11
    go_wp2_with (first
      | (go_at_call 33; (with_reducible refine (first_any _).mono ?_); go_must (rintro e w1 ⟨rfl, hb1⟩; first | (have _t := c1; (try (have qb := box5 hb1; replace hb1 := bxd hb1)); (try replace c1 := kept c1 rfl hb1); (try replace pb := kept pb rfl hb1); (try replace qb := kept qb rfl hb1); (try replace ri := ri.later hb1); (try replace rx := rx.later hb1); (try replace ry := ry.later hb1); (try replace rp := rp.later hb1); (try replace rq := rq.later hb1); replace hB := bstep hB hb1 (Nat.le_refl _); clear hb1) | (have c1 := box5 hb1; replace hB := bxd hb1; clear hb1)))
      | (go_at_call 23; (with_reducible refine (HF.out _).mono ?_); go_must (rintro e w1 ⟨rfl, hb1⟩; rw [HV.out]; (try replace c1 := kept c1 rfl hb1); (try replace pb := kept pb rfl hb1); (try replace qb := kept qb rfl hb1); (try replace ri := ri.later hb1); (try replace rx := rx.later hb1); (try replace ry := ry.later hb1); (try replace rp := rp.later hb1); (try replace rq := rq.later hb1); replace hB := bstep hB hb1 (Nat.le_refl _); clear hb1)))
    go_ret
    exact ⟨rfl, hB⟩


theorem decode_at (B n c : Nat) (A : Option Addr) (bs : List UInt8) (s : Sh) (ys : List UInt8) (E : Int) (w : World) (h : RdB w B A n bs) (hBw : B ≤ w.heap.size) (hc : n ≤ c) (hm : c ≤ maxLen) (hn : n ≤ 140737488355328)
    (h1 : decE bs = E) (h2 : decS bs = (s, ys)) :
    Calls Try.prog 46 #[.slice A n c] w fun e w' => ∃ A1 n1 c1, e = .returned (.tuple #[s.r A1 n1 c1, .int .i64 E]) ∧ ownB w' w.heap.size (.slice A1 n1 c1) ys ∧ Below w.heap.size w w' := by
  have := decode_any B n c A bs w h hBw hc hm hn
  rwa [h1, h2] at this
theorem RdB.pre' {w : World} {B n m : Nat} {A : Option Addr} {bs : List UInt8} (h : RdB w B A n bs) (hm : m ≤ n) : RdB w B A m (bs.take m) := RdB.pre h hm

set_option maxRecDepth 100000 in
set_option maxHeartbeats 6400000 in
theorem pixBack_mayn_bad (s : Sh) (A : Option Addr) (n c : Nat) (A' : Option Addr) (n' c' : Nat) (bs ds : List UInt8) (w : World) (h1 : RdB w w.heap.size A n bs) (h2 : RdB w w.heap.size A' n' ds)
    (l2 : n' ≤ c') (m2 : c' ≤ maxLen) (h0 : n ≤ 20000) (h0' : n' ≤ 20000) (hp : s.mayR n = false) (hq : decE ds ≠ 0) :
    Calls Try.prog 11 #[s.r A n c, .slice A' n' c'] w fun e w' => e = .returned (.bool true) ∧ Below w.heap.size w w' := by
  have hB := Below.refl w.heap.size w
  have HF := Lib.hid (fun w => few_any s A n c w)
  have HV := Lib.hid (show decide (n ≤ 20000) = true by simpa using h0)
  have HM := Lib.hid (fun w => may_any s A n c w)
  have HMV := Lib.hid hp
  have HE0 := Lib.hid (fun (w' : World) (hb : Below w.heap.size w w') => encode_any s w.heap.size A n c bs w' (h1.blw hb) hb.size)
  have HDb := Lib.hid (fun (w' : World) (hb : Below w.heap.size w w') => decode_at w.heap.size n' c' A' ds ⟨0, 0, 0, 0⟩ [] (decE ds) w' (h2.blw hb) hb.size l2 m2 (by omega) rfl (decS_err hq))
  have hne : (decE ds != 0) = true := by simpa using hq
  generalize decE ds = E2 at hne HDb
  have H2 := Lib.hid h2
  have e1 : s.enc bs = ([], 4) := by unfold Sh.enc; rw [h1.len, hp]; rfl
  rw [e1] at HE0
  dsimp only at HE0
  clear e1
  clear h2 l2 m2 hp hq
  obtain ⟨W, H, C, D⟩ := s
  dsimp only [Sh.r] at *
  go_enter Try.func11, Try.ntmps11
  go_wp2_with (first
    | (go_at_call 33; (with_reducible refine (first_any _).mono ?_); go_must (rintro e w1 ⟨rfl, hb1⟩; first | (have _t := c1; (try (have qb := box5 hb1; replace hb1 := bxd hb1)); (try replace c1 := kept c1 rfl hb1); (try replace pb := kept pb rfl hb1); (try replace qb := kept qb rfl hb1); (try replace rx := rx.later hb1); (try replace rp := rp.later hb1); (try replace rq := rq.later hb1); (try replace rz := rz.later hb1); replace hB := bstep hB hb1 (Nat.le_refl _); clear hb1) | (have c1 := box5 hb1; replace hB := bxd hb1; clear hb1)))
    | (go_at_call 23; (with_reducible refine (HF.out _).mono ?_); go_must (rintro e w1 ⟨rfl, hb1⟩; rw [HV.out]; (try replace c1 := kept c1 rfl hb1); (try replace pb := kept pb rfl hb1); (try replace qb := kept qb rfl hb1); (try replace rx := rx.later hb1); (try replace rp := rp.later hb1); (try replace rq := rq.later hb1); (try replace rz := rz.later hb1); replace hB := bstep hB hb1 (Nat.le_refl _); clear hb1))
    | (go_at_call 44; (with_reducible refine (HE0.out _ hB).mono ?_); go_must (rintro e w3 ⟨v, rfl, hx, hb1⟩; (try replace c1 := kept c1 rfl hb1); (try replace pb := kept pb rfl hb1); (try replace qb := kept qb rfl hb1); (try replace rx := rx.later hb1); (try replace rp := rp.later hb1); (try replace rq := rq.later hb1); (try replace rz := rz.later hb1); replace hB := bstep hB hb1 (Nat.le_refl _); obtain ⟨Ax, cx, rfl, rx, lx, mx⟩ := hx.form; clear hx hb1))
    | (go_at_call 20; (with_reducible refine (HM.out _).mono ?_); go_must (rintro e w4 ⟨rfl, hb1⟩; rw [HMV.out]; (try replace c1 := kept c1 rfl hb1); (try replace pb := kept pb rfl hb1); (try replace qb := kept qb rfl hb1); (try replace rx := rx.later hb1); (try replace rp := rp.later hb1); (try replace rq := rq.later hb1); (try replace rz := rz.later hb1); replace hB := bstep hB hb1 (Nat.le_refl _); clear hb1))
    | (go_at_call 46; (with_reducible refine (HDb.out _ (by first | exact hB | exact hB.alloc hB.size _)).mono ?_); go_must (rintro e w9 ⟨Aq, nq, cq, rfl, hx, hb1⟩; (try (have tmpb := box5 hb1; replace hb1 := bxd hb1)); (try replace c1 := kept c1 rfl hb1); (try replace pb := kept pb rfl hb1); (try replace qb := kept qb rfl hb1); (try replace rx := rx.later hb1); (try replace rp := rp.later hb1); (try replace rq := rq.later hb1); (try replace rz := rz.later hb1); replace hB := bstep hB hb1 (Nat.le_refl _); have rq := hx.rd; clear hx hb1; obtain rfl : 0 = nq := (by have := rq.len; simpa using this))))
  go_ret
  exact ⟨ret_bool (by first | rfl | simp), hB⟩

set_option maxRecDepth 100000 in
set_option maxHeartbeats 6400000 in
theorem pixBack_mayn_ok (s : Sh) (A : Option Addr) (n c : Nat) (A' : Option Addr) (n' c' : Nat) (bs ds : List UInt8) (w : World) (h1 : RdB w w.heap.size A n bs) (h2 : RdB w w.heap.size A' n' ds)
    (l2 : n' ≤ c') (m2 : c' ≤ maxLen) (h0 : n ≤ 20000) (h0' : n' ≤ 20000) (hp : s.mayR n = false) (hq : decE ds = 0) :
    Calls Try.prog 11 #[s.r A n c, .slice A' n' c'] w fun e w' => e = .returned (.bool true) ∧ Below w.heap.size w w' := by
  have hB := Below.refl w.heap.size w
  have HF := Lib.hid (fun w => few_any s A n c w)
  have HV := Lib.hid (show decide (n ≤ 20000) = true by simpa using h0)
  have HM := Lib.hid (fun w => may_any s A n c w)
  have HMV := Lib.hid hp
  have HE0 := Lib.hid (fun (w' : World) (hb : Below w.heap.size w w') => encode_any s w.heap.size A n c bs w' (h1.blw hb) hb.size)
  obtain ⟨⟨q, Q⟩, hdS⟩ : ∃ x, decS ds = x := ⟨_, rfl⟩
  have hde := dec_enc hq
  rw [hdS] at hde
  dsimp only at hde
  have HDb := Lib.hid (fun (w' : World) (hb : Below w.heap.size w w') => decode_at w.heap.size n' c' A' ds q Q 0 w' (h2.blw hb) hb.size l2 m2 (by omega) hq hdS)
  have HEq := Lib.hid (fun (w' : World) (n c : Nat) (A : Option Addr) (h : RdB w' w'.heap.size A n Q) => (show Calls Try.prog 44 #[q.r A n c] w' fun e w'' => ∃ v, e = .returned (.tuple #[v, .int .i64 0]) ∧ ownB w'' w'.heap.size v ds ∧ Below w'.heap.size w' w'' from by
    have := encode_any q w'.heap.size A n c Q w' h (Nat.le_refl _)
    rwa [hde] at this))
  clear hde hdS
  obtain ⟨qW, qH, qC, qD⟩ := q
  have H2 := Lib.hid h2
  have e1 : s.enc bs = ([], 4) := by unfold Sh.enc; rw [h1.len, hp]; rfl
  rw [e1] at HE0
  dsimp only at HE0
  clear e1
  clear h2 l2 m2 hp hq
  obtain ⟨W, H, C, D⟩ := s
  dsimp only [Sh.r] at *
  go_enter Try.func11, Try.ntmps11
  go_wp2_with (first
    | (go_at_call 33; (with_reducible refine (first_any _).mono ?_); go_must (rintro e w1 ⟨rfl, hb1⟩; first | (have _t := c1; (try replace ry := ry.later hb1); (try (have qb := box5 hb1; replace hb1 := bxd hb1)); (try replace c1 := kept c1 rfl hb1); (try replace pb := kept pb rfl hb1); (try replace qb := kept qb rfl hb1); (try replace rx := rx.later hb1); (try replace rp := rp.later hb1); (try replace rq := rq.later hb1); (try replace rz := rz.later hb1); replace hB := bstep hB hb1 (Nat.le_refl _); clear hb1) | (have c1 := box5 hb1; replace hB := bxd hb1; clear hb1)))
    | (go_at_call 23; (with_reducible refine (HF.out _).mono ?_); go_must (rintro e w1 ⟨rfl, hb1⟩; rw [HV.out]; (try replace c1 := kept c1 rfl hb1); (try replace pb := kept pb rfl hb1); (try replace qb := kept qb rfl hb1); (try replace rx := rx.later hb1); (try replace rp := rp.later hb1); (try replace rq := rq.later hb1); (try replace rz := rz.later hb1); replace hB := bstep hB hb1 (Nat.le_refl _); clear hb1))
    | (go_at_call 44; (with_reducible refine (HE0.out _ hB).mono ?_); go_must (rintro e w3 ⟨v, rfl, hx, hb1⟩; (try replace c1 := kept c1 rfl hb1); (try replace pb := kept pb rfl hb1); (try replace qb := kept qb rfl hb1); (try replace rx := rx.later hb1); (try replace rp := rp.later hb1); (try replace rq := rq.later hb1); (try replace rz := rz.later hb1); replace hB := bstep hB hb1 (Nat.le_refl _); obtain ⟨Ax, cx, rfl, rx, lx, mx⟩ := hx.form; clear hx hb1))
    | (go_at_call 20; (with_reducible refine (HM.out _).mono ?_); go_must (rintro e w4 ⟨rfl, hb1⟩; rw [HMV.out]; (try replace c1 := kept c1 rfl hb1); (try replace pb := kept pb rfl hb1); (try replace qb := kept qb rfl hb1); (try replace rx := rx.later hb1); (try replace rp := rp.later hb1); (try replace rq := rq.later hb1); (try replace rz := rz.later hb1); replace hB := bstep hB hb1 (Nat.le_refl _); clear hb1))
    | (go_at_call 46; (with_reducible refine (HDb.out _ (by first | exact hB | exact hB.alloc hB.size _)).mono ?_); go_must (rintro e w9 ⟨Aq, nq, cq, rfl, hx, hb1⟩; (try (have tmpb := box5 hb1; replace hb1 := bxd hb1)); (try replace c1 := kept c1 rfl hb1); (try replace pb := kept pb rfl hb1); (try replace qb := kept qb rfl hb1); (try replace rx := rx.later hb1); (try replace rp := rp.later hb1); (try replace rq := rq.later hb1); (try replace rz := rz.later hb1); replace hB := bstep hB hb1 (Nat.le_refl _); have rq := hx.rd; clear hx hb1))
    | (go_at_call 44; (with_reducible refine (HEq.out _ _ _ _ (RdB.here (rq.alloc (Nat.le_refl _) _))).mono ?_); go_must (rintro e w10 ⟨v, rfl, hx, hb1⟩; (try (have qb := box5 hb1; replace hb1 := bxd hb1)); (try replace c1 := kept c1 rfl hb1); (try replace pb := kept pb rfl hb1); (try replace qb := kept qb rfl hb1); (try replace rx := rx.later hb1); (try replace rp := rp.later hb1); (try replace rq := rq.later hb1); (try replace rz := rz.later hb1); replace hB := bstep hB hb1 (Nat.le_refl _); obtain ⟨Ay, cy, rfl, ry, _, _⟩ := hx.form; clear hx hb1))
    | (go_at_call 42; (with_reducible refine (bytes_any _ _ _ _ _ _ _ _ _ _ _ ry (H2.out.blw hB)).mono ?_); go_must (rintro e w7 ⟨rfl, rfl⟩)))
  go_ret
  exact ⟨ret_bool (by first | rfl | simp), hB⟩

set_option maxRecDepth 100000 in
set_option maxHeartbeats 6400000 in
theorem pixBack_may_bad (s : Sh) (A : Option Addr) (n c : Nat) (A' : Option Addr) (n' c' : Nat) (bs ds : List UInt8) (w : World) (h1 : RdB w w.heap.size A n bs) (h2 : RdB w w.heap.size A' n' ds)
    (l2 : n' ≤ c') (m2 : c' ≤ maxLen) (h0 : n ≤ 20000) (h0' : n' ≤ 20000) (hp : s.mayR n = true) (hq : decE ds ≠ 0) :
    Calls Try.prog 11 #[s.r A n c, .slice A' n' c'] w fun e w' => e = .returned (.bool true) ∧ Below w.heap.size w w' := by
  have hB := Below.refl w.heap.size w
  have HF := Lib.hid (fun w => few_any s A n c w)
  have HV := Lib.hid (show decide (n ≤ 20000) = true by simpa using h0)
  have HM := Lib.hid (fun w => may_any s A n c w)
  have HMV := Lib.hid hp
  have HE0 := Lib.hid (fun (w' : World) (hb : Below w.heap.size w w') => encode_any s w.heap.size A n c bs w' (h1.blw hb) hb.size)
  have HDb := Lib.hid (fun (w' : World) (hb : Below w.heap.size w w') => decode_at w.heap.size n' c' A' ds ⟨0, 0, 0, 0⟩ [] (decE ds) w' (h2.blw hb) hb.size l2 m2 (by omega) rfl (decS_err hq))
  have hne : (decE ds != 0) = true := by simpa using hq
  generalize decE ds = E2 at hne HDb
  have H2 := Lib.hid h2
  have hl := h1.len
  obtain ⟨X, e1, e2, e3, e4, e5, e6⟩ := enc_dec (s := s) (bs := bs) (by rw [hl]; exact hp)
  have HN := Lib.hid hl
  rw [e1] at HE0
  dsimp only at HE0
  have HLX := Lib.hid (e2.trans (by rw [hl] : bs.length + 7 = n + 7))
  rw [hl] at e6
  have hn1 := mayR_pos2 hp
  have h1' := Lib.hid h1
  have HDX := Lib.hid (fun (w' : World) (c : Nat) (A : Option Addr) (h : RdB w' w'.heap.size A (n + 7) X) (hc : n + 7 ≤ c) (hm : c ≤ maxLen) => decode_at w'.heap.size (n + 7) c A X s bs 0 w' h (Nat.le_refl _) hc hm (by omega) e3 e4)
  have HCX := Lib.hid (fun (w' : World) (c : Nat) (A : Option Addr) (h : RdB w' w'.heap.size A (n + 7) X) => copyB_any w'.heap.size (n + 7) c A X w' h (by omega))
  have HDX0 := Lib.hid (fun (w' : World) (n1 c : Nat) (A : Option Addr) (h : RdB w' w'.heap.size A n1 (X ++ [0])) (hc : n1 ≤ c) (hm : c ≤ maxLen) => decode_at w'.heap.size n1 c A (X ++ [0]) ⟨0, 0, 0, 0⟩ [] 3 w' h (Nat.le_refl _) hc hm (by have h3 := h.len; have h4 := HLX.out; simp at h3; omega) e5 (decS_err (by rw [e5]; decide)))
  have HDX1 := Lib.hid (fun (w' : World) (c : Nat) (A : Option Addr) (h : RdB w' w'.heap.size A (n + 7) X) (hc : n + 7 ≤ c) (hm : c ≤ maxLen) => decode_at w'.heap.size (n + 6) c A (X.take (n + 6)) ⟨0, 0, 0, 0⟩ [] 2 w' (RdB.pre' h (by omega)) (Nat.le_refl _) (by omega) hm (by omega) e6 (decS_err (by rw [e6]; decide)))
  clear e1 e2 e3 e4 e5 e6 hl
  clear h2 l2 m2 hp hq
  obtain ⟨W, H, C, D⟩ := s
  dsimp only [Sh.r] at *
  go_enter Try.func11, Try.ntmps11
  go_wp2_with (first
    | (go_at_call 33; (with_reducible refine (first_any _).mono ?_); go_must (rintro e w1 ⟨rfl, hb1⟩; first | (have _t := c1; (try (have qb := box5 hb1; replace hb1 := bxd hb1)); (try replace c1 := kept c1 rfl hb1); (try replace pb := kept pb rfl hb1); (try replace qb := kept qb rfl hb1); (try replace rx := rx.later hb1); (try replace rp := rp.later hb1); (try replace rq := rq.later hb1); (try replace rz := rz.later hb1); replace hB := bstep hB hb1 (Nat.le_refl _); clear hb1) | (have c1 := box5 hb1; replace hB := bxd hb1; clear hb1)))
    | (go_at_call 23; (with_reducible refine (HF.out _).mono ?_); go_must (rintro e w1 ⟨rfl, hb1⟩; rw [HV.out]; (try replace c1 := kept c1 rfl hb1); (try replace pb := kept pb rfl hb1); (try replace qb := kept qb rfl hb1); (try replace rx := rx.later hb1); (try replace rp := rp.later hb1); (try replace rq := rq.later hb1); (try replace rz := rz.later hb1); replace hB := bstep hB hb1 (Nat.le_refl _); clear hb1))
    | (go_at_call 44; (with_reducible refine (HE0.out _ hB).mono ?_); go_must (rintro e w3 ⟨v, rfl, hx, hb1⟩; (try replace c1 := kept c1 rfl hb1); (try replace pb := kept pb rfl hb1); (try replace qb := kept qb rfl hb1); (try replace rx := rx.later hb1); (try replace rp := rp.later hb1); (try replace rq := rq.later hb1); (try replace rz := rz.later hb1); replace hB := bstep hB hb1 (Nat.le_refl _); obtain ⟨Ax, cx, rfl, rx, lx, mx⟩ := hx.form; clear hx hb1; rw [HLX.out] at rx lx ⊢))
    | (go_at_call 20; (with_reducible refine (HM.out _).mono ?_); go_must (rintro e w4 ⟨rfl, hb1⟩; rw [HMV.out]; (try replace c1 := kept c1 rfl hb1); (try replace pb := kept pb rfl hb1); (try replace qb := kept qb rfl hb1); (try replace rx := rx.later hb1); (try replace rp := rp.later hb1); (try replace rq := rq.later hb1); (try replace rz := rz.later hb1); replace hB := bstep hB hb1 (Nat.le_refl _); clear hb1))
    | (go_at_call 46; (with_reducible refine (HDX.out _ _ _ rx lx mx).mono ?_); go_must (rintro e w5 ⟨Ap, np, cp, rfl, hx, hb1⟩; (try replace c1 := kept c1 rfl hb1); (try replace pb := kept pb rfl hb1); (try replace qb := kept qb rfl hb1); (try replace rx := rx.later hb1); (try replace rp := rp.later hb1); (try replace rq := rq.later hb1); (try replace rz := rz.later hb1); replace hB := bstep hB hb1 (Nat.le_refl _); have rp := hx.rd; clear hx hb1))
    | (go_at_call 43; (with_reducible refine (HCX.out _ _ _ (RdB.here (rx.alloc (Nat.le_refl _) _))).mono ?_); go_must (rintro e w6 ⟨v6, rfl, hz, hb1⟩; have hz5 : w5.heap.size + 1 ≤ w6.heap.size := (by have := hb1.size; simpa using this); replace hz := hz.mono (base' := w5.heap.size + 1) (by simp); (try (have pb := box5 hb1; replace hb1 := bxd hb1)); have rx6 := rx.blw hb1; have rp6 := rp.blw hb1; have c16 := ltOf c1 rfl; (try replace c1 := kept c1 rfl hb1); (try replace pb := kept pb rfl hb1); (try replace qb := kept qb rfl hb1); (try replace rx := rx.later hb1); (try replace rp := rp.later hb1); (try replace rq := rq.later hb1); (try replace rz := rz.later hb1); replace hB := bstep hB hb1 (Nat.le_refl _); clear hb1; obtain ⟨A6, c6, rfl, _, _, _⟩ := hz.form; rw [HLX.out] at hz ⊢))
    | (at_builtin; (refine wpList_appendB rfl (.tmp 47) (.tmp 48) rfl (w5.heap.size + 1) (.slice A6 (n + 7) c6) X rfl (hz.alloc _) _ 1 1 _ [0] rfl (rd_one _ 0 0 rfl) (by have h4 := HLX.out; simp; omega) (Nat.le_trans hz5 (by simp)) ?_); intro v8 w8 h8 hg8 hb8 hat8; clear hg8 hat8; have hq8 := ((Below.refl w5.heap.size w6).alloc (by omega) _).trans (hb8.mono (Nat.le_succ _)); replace rx := RdB.here (rx6.blw hq8); replace rp := RdB.here (rp6.blw hq8); replace c1 := keptBl c1 hq8 c16; replace pb := keptBl (keptA pb rfl _) hb8 (Nat.lt_succ_self _); replace hB := (hB.alloc hB.size _).trans (hb8.mono (by omega)); clear rx6 rp6 c16 hz hq8 hb8; obtain ⟨A8, n8, c8, rfl, r8, l8, m8⟩ := h8.slice; clear h8)
    | (go_at_call 46; (with_reducible refine (HDX0.out _ _ _ _ r8 l8 m8).mono ?_); go_must (rintro e w9 ⟨Ag, ng, cg, rfl, hx, hb1⟩; (try replace c1 := kept c1 rfl hb1); (try replace pb := kept pb rfl hb1); (try replace qb := kept qb rfl hb1); (try replace rx := rx.later hb1); (try replace rp := rp.later hb1); (try replace rq := rq.later hb1); (try replace rz := rz.later hb1); replace hB := bstep hB hb1 (Nat.le_refl _); clear hb1; clear hx r8 l8 m8))
    | (go_at_call 46; (with_reducible refine (HDX1.out _ _ _ (RdB.here (rx.alloc (Nat.le_refl _) _)) lx mx).mono ?_); go_must (rintro e w10 ⟨Ah, nh, ch, rfl, hx, hb1⟩; (try (have tmpb := box5 hb1; replace hb1 := bxd hb1)); (try replace c1 := kept c1 rfl hb1); (try replace pb := kept pb rfl hb1); (try replace qb := kept qb rfl hb1); (try replace rx := rx.later hb1); (try replace rp := rp.later hb1); (try replace rq := rq.later hb1); (try replace rz := rz.later hb1); replace hB := bstep hB hb1 (Nat.le_refl _); clear hb1; clear hx; have q5 : w5.heap.size < w10.heap.size := ltOf pb rfl; have q5n : ¬ w5.heap.size = w10.heap.size := Nat.ne_of_lt q5; have q1 : w.heap.size < w10.heap.size := ltOf c1 rfl; have q1n : ¬ w.heap.size = w10.heap.size := Nat.ne_of_lt q1))
    | (go_at_call 48; go_must (refine (samP_any ⟨W, H, C, D⟩ ⟨W, H, C, D⟩ _ _ _ _ _ _ _ _ bs bs _ (RdB.alloc rp (Nat.le_refl _) _) ((h1'.out.blw hB).alloc hB.size _) (by simp) (by have := hB.size; simp; omega)).mono ?_; rintro e w11 ⟨rfl, hb1⟩; (try (have tmpb := box5 hb1; replace hb1 := bxd hb1)); (try replace c1 := kept c1 rfl hb1); (try replace pb := kept pb rfl hb1); (try replace qb := kept qb rfl hb1); (try replace rx := rx.later hb1); (try replace rp := rp.later hb1); (try replace rq := rq.later hb1); (try replace rz := rz.later hb1); replace hB := bstep hB hb1 (Nat.le_refl _); clear hb1))
    | (go_at_call 46; (with_reducible refine (HDb.out _ (by first | exact hB | exact hB.alloc hB.size _)).mono ?_); go_must (rintro e w9 ⟨Aq, nq, cq, rfl, hx, hb1⟩; (try (have tmpb := box5 hb1; replace hb1 := bxd hb1)); (try replace c1 := kept c1 rfl hb1); (try replace pb := kept pb rfl hb1); (try replace qb := kept qb rfl hb1); (try replace rx := rx.later hb1); (try replace rp := rp.later hb1); (try replace rq := rq.later hb1); (try replace rz := rz.later hb1); replace hB := bstep hB hb1 (Nat.le_refl _); have rq := hx.rd; clear hx hb1; obtain rfl : 0 = nq := (by have := rq.len; simpa using this))))
  go_ret
  exact ⟨ret_bool (by first | rfl | simp), hB⟩

set_option maxRecDepth 100000 in
set_option maxHeartbeats 6400000 in
theorem pixBack_may_ok (s : Sh) (A : Option Addr) (n c : Nat) (A' : Option Addr) (n' c' : Nat) (bs ds : List UInt8) (w : World) (h1 : RdB w w.heap.size A n bs) (h2 : RdB w w.heap.size A' n' ds)
    (l2 : n' ≤ c') (m2 : c' ≤ maxLen) (h0 : n ≤ 20000) (h0' : n' ≤ 20000) (hp : s.mayR n = true) (hq : decE ds = 0) :
    Calls Try.prog 11 #[s.r A n c, .slice A' n' c'] w fun e w' => e = .returned (.bool true) ∧ Below w.heap.size w w' := by
  have hB := Below.refl w.heap.size w
  have HF := Lib.hid (fun w => few_any s A n c w)
  have HV := Lib.hid (show decide (n ≤ 20000) = true by simpa using h0)
  have HM := Lib.hid (fun w => may_any s A n c w)
  have HMV := Lib.hid hp
  have HE0 := Lib.hid (fun (w' : World) (hb : Below w.heap.size w w') => encode_any s w.heap.size A n c bs w' (h1.blw hb) hb.size)
  obtain ⟨⟨q, Q⟩, hdS⟩ : ∃ x, decS ds = x := ⟨_, rfl⟩
  have hde := dec_enc hq
  rw [hdS] at hde
  dsimp only at hde
  have HDb := Lib.hid (fun (w' : World) (hb : Below w.heap.size w w') => decode_at w.heap.size n' c' A' ds q Q 0 w' (h2.blw hb) hb.size l2 m2 (by omega) hq hdS)
  have HEq := Lib.hid (fun (w' : World) (n c : Nat) (A : Option Addr) (h : RdB w' w'.heap.size A n Q) => (show Calls Try.prog 44 #[q.r A n c] w' fun e w'' => ∃ v, e = .returned (.tuple #[v, .int .i64 0]) ∧ ownB w'' w'.heap.size v ds ∧ Below w'.heap.size w' w'' from by
    have := encode_any q w'.heap.size A n c Q w' h (Nat.le_refl _)
    rwa [hde] at this))
  clear hde hdS
  obtain ⟨qW, qH, qC, qD⟩ := q
  have H2 := Lib.hid h2
  have hl := h1.len
  obtain ⟨X, e1, e2, e3, e4, e5, e6⟩ := enc_dec (s := s) (bs := bs) (by rw [hl]; exact hp)
  have HN := Lib.hid hl
  rw [e1] at HE0
  dsimp only at HE0
  have HLX := Lib.hid (e2.trans (by rw [hl] : bs.length + 7 = n + 7))
  rw [hl] at e6
  have hn1 := mayR_pos2 hp
  have h1' := Lib.hid h1
  have HDX := Lib.hid (fun (w' : World) (c : Nat) (A : Option Addr) (h : RdB w' w'.heap.size A (n + 7) X) (hc : n + 7 ≤ c) (hm : c ≤ maxLen) => decode_at w'.heap.size (n + 7) c A X s bs 0 w' h (Nat.le_refl _) hc hm (by omega) e3 e4)
  have HCX := Lib.hid (fun (w' : World) (c : Nat) (A : Option Addr) (h : RdB w' w'.heap.size A (n + 7) X) => copyB_any w'.heap.size (n + 7) c A X w' h (by omega))
  have HDX0 := Lib.hid (fun (w' : World) (n1 c : Nat) (A : Option Addr) (h : RdB w' w'.heap.size A n1 (X ++ [0])) (hc : n1 ≤ c) (hm : c ≤ maxLen) => decode_at w'.heap.size n1 c A (X ++ [0]) ⟨0, 0, 0, 0⟩ [] 3 w' h (Nat.le_refl _) hc hm (by have h3 := h.len; have h4 := HLX.out; simp at h3; omega) e5 (decS_err (by rw [e5]; decide)))
  have HDX1 := Lib.hid (fun (w' : World) (c : Nat) (A : Option Addr) (h : RdB w' w'.heap.size A (n + 7) X) (hc : n + 7 ≤ c) (hm : c ≤ maxLen) => decode_at w'.heap.size (n + 6) c A (X.take (n + 6)) ⟨0, 0, 0, 0⟩ [] 2 w' (RdB.pre' h (by omega)) (Nat.le_refl _) (by omega) hm (by omega) e6 (decS_err (by rw [e6]; decide)))
  clear e1 e2 e3 e4 e5 e6 hl
  clear h2 l2 m2 hp hq
  obtain ⟨W, H, C, D⟩ := s
  dsimp only [Sh.r] at *
  go_enter Try.func11, Try.ntmps11
  go_wp2_with (first
    | (go_at_call 33; (with_reducible refine (first_any _).mono ?_); go_must (rintro e w1 ⟨rfl, hb1⟩; first | (have _t := c1; (try replace ry := ry.later hb1); (try (have qb := box5 hb1; replace hb1 := bxd hb1)); (try replace c1 := kept c1 rfl hb1); (try replace pb := kept pb rfl hb1); (try replace qb := kept qb rfl hb1); (try replace rx := rx.later hb1); (try replace rp := rp.later hb1); (try replace rq := rq.later hb1); (try replace rz := rz.later hb1); replace hB := bstep hB hb1 (Nat.le_refl _); clear hb1) | (have c1 := box5 hb1; replace hB := bxd hb1; clear hb1)))
    | (go_at_call 23; (with_reducible refine (HF.out _).mono ?_); go_must (rintro e w1 ⟨rfl, hb1⟩; rw [HV.out]; (try replace c1 := kept c1 rfl hb1); (try replace pb := kept pb rfl hb1); (try replace qb := kept qb rfl hb1); (try replace rx := rx.later hb1); (try replace rp := rp.later hb1); (try replace rq := rq.later hb1); (try replace rz := rz.later hb1); replace hB := bstep hB hb1 (Nat.le_refl _); clear hb1))
    | (go_at_call 44; (with_reducible refine (HE0.out _ hB).mono ?_); go_must (rintro e w3 ⟨v, rfl, hx, hb1⟩; (try replace c1 := kept c1 rfl hb1); (try replace pb := kept pb rfl hb1); (try replace qb := kept qb rfl hb1); (try replace rx := rx.later hb1); (try replace rp := rp.later hb1); (try replace rq := rq.later hb1); (try replace rz := rz.later hb1); replace hB := bstep hB hb1 (Nat.le_refl _); obtain ⟨Ax, cx, rfl, rx, lx, mx⟩ := hx.form; clear hx hb1; rw [HLX.out] at rx lx ⊢))
    | (go_at_call 20; (with_reducible refine (HM.out _).mono ?_); go_must (rintro e w4 ⟨rfl, hb1⟩; rw [HMV.out]; (try replace c1 := kept c1 rfl hb1); (try replace pb := kept pb rfl hb1); (try replace qb := kept qb rfl hb1); (try replace rx := rx.later hb1); (try replace rp := rp.later hb1); (try replace rq := rq.later hb1); (try replace rz := rz.later hb1); replace hB := bstep hB hb1 (Nat.le_refl _); clear hb1))
    | (go_at_call 46; (with_reducible refine (HDX.out _ _ _ rx lx mx).mono ?_); go_must (rintro e w5 ⟨Ap, np, cp, rfl, hx, hb1⟩; (try replace c1 := kept c1 rfl hb1); (try replace pb := kept pb rfl hb1); (try replace qb := kept qb rfl hb1); (try replace rx := rx.later hb1); (try replace rp := rp.later hb1); (try replace rq := rq.later hb1); (try replace rz := rz.later hb1); replace hB := bstep hB hb1 (Nat.le_refl _); have rp := hx.rd; clear hx hb1))
    | (go_at_call 43; (with_reducible refine (HCX.out _ _ _ (RdB.here (rx.alloc (Nat.le_refl _) _))).mono ?_); go_must (rintro e w6 ⟨v6, rfl, hz, hb1⟩; have hz5 : w5.heap.size + 1 ≤ w6.heap.size := (by have := hb1.size; simpa using this); replace hz := hz.mono (base' := w5.heap.size + 1) (by simp); (try (have pb := box5 hb1; replace hb1 := bxd hb1)); have rx6 := rx.blw hb1; have rp6 := rp.blw hb1; have c16 := ltOf c1 rfl; (try replace c1 := kept c1 rfl hb1); (try replace pb := kept pb rfl hb1); (try replace qb := kept qb rfl hb1); (try replace rx := rx.later hb1); (try replace rp := rp.later hb1); (try replace rq := rq.later hb1); (try replace rz := rz.later hb1); replace hB := bstep hB hb1 (Nat.le_refl _); clear hb1; obtain ⟨A6, c6, rfl, _, _, _⟩ := hz.form; rw [HLX.out] at hz ⊢))
    | (at_builtin; (refine wpList_appendB rfl (.tmp 47) (.tmp 48) rfl (w5.heap.size + 1) (.slice A6 (n + 7) c6) X rfl (hz.alloc _) _ 1 1 _ [0] rfl (rd_one _ 0 0 rfl) (by have h4 := HLX.out; simp; omega) (Nat.le_trans hz5 (by simp)) ?_); intro v8 w8 h8 hg8 hb8 hat8; clear hg8 hat8; have hq8 := ((Below.refl w5.heap.size w6).alloc (by omega) _).trans (hb8.mono (Nat.le_succ _)); replace rx := RdB.here (rx6.blw hq8); replace rp := RdB.here (rp6.blw hq8); replace c1 := keptBl c1 hq8 c16; replace pb := keptBl (keptA pb rfl _) hb8 (Nat.lt_succ_self _); replace hB := (hB.alloc hB.size _).trans (hb8.mono (by omega)); clear rx6 rp6 c16 hz hq8 hb8; obtain ⟨A8, n8, c8, rfl, r8, l8, m8⟩ := h8.slice; clear h8)
    | (go_at_call 46; (with_reducible refine (HDX0.out _ _ _ _ r8 l8 m8).mono ?_); go_must (rintro e w9 ⟨Ag, ng, cg, rfl, hx, hb1⟩; (try replace c1 := kept c1 rfl hb1); (try replace pb := kept pb rfl hb1); (try replace qb := kept qb rfl hb1); (try replace rx := rx.later hb1); (try replace rp := rp.later hb1); (try replace rq := rq.later hb1); (try replace rz := rz.later hb1); replace hB := bstep hB hb1 (Nat.le_refl _); clear hb1; clear hx r8 l8 m8))
    | (go_at_call 46; (with_reducible refine (HDX1.out _ _ _ (RdB.here (rx.alloc (Nat.le_refl _) _)) lx mx).mono ?_); go_must (rintro e w10 ⟨Ah, nh, ch, rfl, hx, hb1⟩; (try (have tmpb := box5 hb1; replace hb1 := bxd hb1)); (try replace c1 := kept c1 rfl hb1); (try replace pb := kept pb rfl hb1); (try replace qb := kept qb rfl hb1); (try replace rx := rx.later hb1); (try replace rp := rp.later hb1); (try replace rq := rq.later hb1); (try replace rz := rz.later hb1); replace hB := bstep hB hb1 (Nat.le_refl _); clear hb1; clear hx; have q5 : w5.heap.size < w10.heap.size := ltOf pb rfl; have q5n : ¬ w5.heap.size = w10.heap.size := Nat.ne_of_lt q5; have q1 : w.heap.size < w10.heap.size := ltOf c1 rfl; have q1n : ¬ w.heap.size = w10.heap.size := Nat.ne_of_lt q1))
    | (go_at_call 48; go_must (refine (samP_any ⟨W, H, C, D⟩ ⟨W, H, C, D⟩ _ _ _ _ _ _ _ _ bs bs _ (RdB.alloc rp (Nat.le_refl _) _) ((h1'.out.blw hB).alloc hB.size _) (by simp) (by have := hB.size; simp; omega)).mono ?_; rintro e w11 ⟨rfl, hb1⟩; (try (have tmpb := box5 hb1; replace hb1 := bxd hb1)); (try replace c1 := kept c1 rfl hb1); (try replace pb := kept pb rfl hb1); (try replace qb := kept qb rfl hb1); (try replace rx := rx.later hb1); (try replace rp := rp.later hb1); (try replace rq := rq.later hb1); (try replace rz := rz.later hb1); replace hB := bstep hB hb1 (Nat.le_refl _); clear hb1))
    | (go_at_call 46; (with_reducible refine (HDb.out _ (by first | exact hB | exact hB.alloc hB.size _)).mono ?_); go_must (rintro e w9 ⟨Aq, nq, cq, rfl, hx, hb1⟩; (try (have tmpb := box5 hb1; replace hb1 := bxd hb1)); (try replace c1 := kept c1 rfl hb1); (try replace pb := kept pb rfl hb1); (try replace qb := kept qb rfl hb1); (try replace rx := rx.later hb1); (try replace rp := rp.later hb1); (try replace rq := rq.later hb1); (try replace rz := rz.later hb1); replace hB := bstep hB hb1 (Nat.le_refl _); have rq := hx.rd; clear hx hb1))
    | (go_at_call 44; (with_reducible refine (HEq.out _ _ _ _ (RdB.here (rq.alloc (Nat.le_refl _) _))).mono ?_); go_must (rintro e w10 ⟨v, rfl, hx, hb1⟩; (try (have qb := box5 hb1; replace hb1 := bxd hb1)); (try replace c1 := kept c1 rfl hb1); (try replace pb := kept pb rfl hb1); (try replace qb := kept qb rfl hb1); (try replace rx := rx.later hb1); (try replace rp := rp.later hb1); (try replace rq := rq.later hb1); (try replace rz := rz.later hb1); replace hB := bstep hB hb1 (Nat.le_refl _); obtain ⟨Ay, cy, rfl, ry, _, _⟩ := hx.form; clear hx hb1))
    | (go_at_call 42; (with_reducible refine (bytes_any _ _ _ _ _ _ _ _ _ _ _ ry (H2.out.blw hB)).mono ?_); go_must (rintro e w7 ⟨rfl, rfl⟩)))
  go_ret
  exact ⟨ret_bool (by first | rfl | simp), hB⟩


end Go.Proofs.Ytcgpeijmmongoaa
